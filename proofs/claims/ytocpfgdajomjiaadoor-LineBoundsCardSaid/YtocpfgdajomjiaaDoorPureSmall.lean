import Derived.Test.YtocpfgdajomjiaaDoorPureHead
import Derived.Test.YtocpfgdajomjiaaDoorL4
/- Can texts be gone through? Plain. -/
namespace Go.Proofs.YtocpfgdajomjiaaDoor.PureL
open Go.RowKit Go.Proofs.YtocpfgdajomjiaaDoor.PureR Go.Proofs.YtocpfgdajomjiaaDoor.L Go.Proofs.YtocpfgdajomjiaaDoor.Hand3 Go.Proofs.YtocpfgdajomjiaaDoor.Spl Go.Proofs.YtocpfgdajomjiaaDoorW.PrintWords
open Go.Proofs.YtocpfgdajomjiaaDoor.Hand hiding text_Lines.f text_Words.f text_Trim.f text_Join.f text_Path.f text_Quote.f text_Lines.calls text_Words.calls text_Trim.calls text_Join.calls text_Path.calls text_Quote.calls Glob
set_option linter.unusedVariables false
set_option linter.unusedSimpArgs false
theorem small4_loop (l : List ByteArray) (hl : l.length ≤ 60) : ∀ (n i S : Nat), i + n = l.length → S ≤ 20000 * i → Ev fun k => cooperagelaw4_small.l0 k l (S : Int) (i : Int) = some (decide (S + ((l.drop i).map fun x => min x.size 20000).sum < 14000)) := by
  intro n
  induction n with
  | zero =>
    intro i S hi hS
    refine Ev.up (Ev.of fun k => ?_)
    have hlt0 : ¬ (i : Int) < (l.length : Int) := by omega
    have h2 : decide ((S : Int) < 14000) = decide (S + ((l.drop i).map fun x => min x.size 20000).sum < 14000) := by
      rw [List.drop_eq_nil_of_le (by omega)]
      exact decide_eq_decide.mpr (by show _ ↔ S + 0 < 14000; omega)
    rw [← h2]
    unfold cooperagelaw4_small.l0
    rw [if_neg hlt0]
    try rfl
  | succ n ih =>
    intro i S hi hS
    have hlt : i < l.length := by omega
    have hr := rdo hlt
    have hm : mn ((l[i].size : Nat) : Int) 20000 = ((min l[i].size 20000 : Nat) : Int) := by unfold mn; omega
    have hmin : min l[i].size 20000 ≤ 20000 := Nat.min_le_right _ _
    refine Ev.up ((ih (i + 1) (S + min l[i].size 20000) (by omega) (by omega)).mp fun k hk => ?_)
    unfold cooperagelaw4_small.l0
    rw [if_pos (by omega), if_pos (by omega), hr, hm, w64s i (by omega), w64 (x := (S : Int) + ((min l[i].size 20000 : Nat) : Int)) (by omega) (by omega), List.drop_eq_getElem_cons hlt, List.map_cons, List.sum_cons, ← Nat.add_assoc, ← hk]
    rfl
theorem mem_sum' {l : List Nat} {n : Nat} (h : n ∈ l) : n ≤ l.sum := mem_sum h
theorem small4_f (l : List ByteArray) : ∃ b, (Ev fun k => cooperagelaw4_small.f k l = some b) ∧ (b = true → l.length ≤ 60 ∧ ∀ x ∈ l, x.size ≤ 14000) := by
  by_cases h : l.length ≤ 60
  · refine ⟨decide (0 + ((l.drop 0).map fun x => min x.size 20000).sum < 14000), (small4_loop l h l.length 0 0 (by omega) (by omega)).mp (q := fun k => cooperagelaw4_small.f k l = some (decide (0 + ((l.drop 0).map fun x => min x.size 20000).sum < 14000))) fun k hk => ?_, fun hb => ⟨h, fun x hx => ?_⟩⟩
    · unfold cooperagelaw4_small.f
      rw [if_neg (by omega)]
      exact hk
    · have h1 := of_decide_eq_true hb
      have h2 : min x.size 20000 ≤ ((l.drop 0).map fun x => min x.size 20000).sum := mem_sum (List.mem_map_of_mem (f := fun x : ByteArray => min x.size 20000) (by simpa using hx))
      omega
  · refine ⟨false, Ev.of fun k => ?_, fun hb => by cases hb⟩
    unfold cooperagelaw4_small.f
    rw [if_pos (by omega)]
end Go.Proofs.YtocpfgdajomjiaaDoor.PureL
