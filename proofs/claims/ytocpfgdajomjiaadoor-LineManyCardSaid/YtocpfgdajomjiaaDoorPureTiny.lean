import Derived.Test.YtocpfgdajomjiaaDoorPureHead
import Derived.Test.YtocpfgdajomjiaaDoorL11
/- Are lines tiny? Plain. -/
namespace Go.Proofs.YtocpfgdajomjiaaDoor.PureL
open Go.RowKit Go.Proofs.YtocpfgdajomjiaaDoor.PureR Go.Proofs.YtocpfgdajomjiaaDoor.L Go.Proofs.YtocpfgdajomjiaaDoor.Hand3 Go.Proofs.YtocpfgdajomjiaaDoor.Spl Go.Proofs.YtocpfgdajomjiaaDoorW.PrintWords
open Go.Proofs.YtocpfgdajomjiaaDoor.Hand hiding text_Lines.f text_Words.f text_Trim.f text_Join.f text_Path.f text_Quote.f text_Lines.calls text_Words.calls text_Trim.calls text_Join.calls text_Path.calls text_Quote.calls Glob
set_option linter.unusedVariables false
set_option linter.unusedSimpArgs false
theorem rdL {a : List (List ByteArray)} {i : Nat} (h : i < a.length) : rd_L1 a (i : Int) = a[i] := by
  simp [rd_L1, List.getD_eq_getElem?_getD, List.getElem?_eq_getElem h]
def TinyP (l : List ByteArray) : Prop := l.length ≤ 50 ∧ ∀ x ∈ l, x.size ≤ 60
theorem tiny_l1 (ls : List (List ByteArray)) (hls : ls.length ≤ 12) (i : Nat) (hi : i < ls.length) (hl : ls[i].length ≤ 50) (K : ∃ b, (Ev fun k => cooperagelaw4_tiny.l0 k ls ((i + 1 : Nat) : Int) = some b) ∧ (b = true → ∀ l ∈ ls.drop (i + 1), TinyP l)) :
    ∀ (n j : Nat), j + n = ls[i].length → ∃ b, (Ev fun k => cooperagelaw4_tiny.l1 k ls (i : Int) (j : Int) = some b) ∧ (b = true → (∀ x ∈ ls[i].drop j, x.size ≤ 60) ∧ ∀ l ∈ ls.drop (i + 1), TinyP l) := by
  have hr := rdL hi
  intro n
  induction n with
  | zero =>
    intro j hj
    obtain ⟨b, hb, hp⟩ := K
    refine ⟨b, Ev.up (hb.mp fun k hk => ?_), fun h => ⟨fun x hx => ?_, hp h⟩⟩
    · unfold cooperagelaw4_tiny.l1
      rw [if_pos (by omega), if_pos (by omega), hr, if_neg (by omega), w64s i (by omega)]
      exact hk
    · rw [List.drop_eq_nil_of_le (by omega)] at hx
      exact absurd hx (by simp)
  | succ n ih =>
    intro j hj
    have hlt : j < ls[i].length := by omega
    have hr2 := rdo hlt
    by_cases h60 : ls[i][j].size ≤ 60
    · obtain ⟨b, hb, hp⟩ := ih (j + 1) (by omega)
      refine ⟨b, Ev.up (hb.mp fun k hk => ?_), fun h => ⟨fun x hx => ?_, (hp h).2⟩⟩
      · unfold cooperagelaw4_tiny.l1
        rw [if_pos (by omega), if_pos (by omega), hr, if_pos (by omega), if_pos (by omega), hr2, if_neg (by omega), w64s j (by omega)]
        exact hk
      · rw [List.drop_eq_getElem_cons hlt] at hx
        rcases List.mem_cons.1 hx with e | e
        · subst e
          exact h60
        · exact (hp h).1 x e
    · refine ⟨false, Ev.up (Ev.of fun k => ?_), fun h => by cases h⟩
      unfold cooperagelaw4_tiny.l1
      rw [if_pos (by omega), if_pos (by omega), hr, if_pos (by omega), if_pos (by omega), hr2, if_pos (by omega)]
theorem tiny_l0 (ls : List (List ByteArray)) (hls : ls.length ≤ 12) : ∀ (n i : Nat), i + n = ls.length → ∃ b, (Ev fun k => cooperagelaw4_tiny.l0 k ls (i : Int) = some b) ∧ (b = true → ∀ l ∈ ls.drop i, TinyP l) := by
  intro n
  induction n with
  | zero =>
    intro i hi
    refine ⟨true, Ev.up (Ev.of fun k => ?_), fun _ l hl => ?_⟩
    · unfold cooperagelaw4_tiny.l0
      rw [if_neg (by omega)]
    · rw [List.drop_eq_nil_of_le (by omega)] at hl
      exact absurd hl (by simp)
  | succ n ih =>
    intro i hi
    have hlt : i < ls.length := by omega
    have hr := rdL hlt
    by_cases h50 : ls[i].length ≤ 50
    · obtain ⟨b, hb, hp⟩ := tiny_l1 ls hls i hlt h50 (ih (i + 1) (by omega)) ls[i].length 0 (by omega)
      refine ⟨b, Ev.up (hb.mp fun k hk => ?_), fun h l hl => ?_⟩
      · unfold cooperagelaw4_tiny.l0
        rw [if_pos (by omega), if_pos (by omega), hr, if_neg (by omega)]
        exact hk
      · rw [List.drop_eq_getElem_cons hlt] at hl
        rcases List.mem_cons.1 hl with e | e
        · subst e
          exact ⟨h50, (hp h).1⟩
        · exact (hp h).2 l e
    · refine ⟨false, Ev.up (Ev.of fun k => ?_), fun h => by cases h⟩
      unfold cooperagelaw4_tiny.l0
      rw [if_pos (by omega), if_pos (by omega), hr, if_pos (by omega)]
theorem tiny_f (ls : List (List ByteArray)) : ∃ b, (Ev fun k => cooperagelaw4_tiny.f k ls = some b) ∧ (b = true → ls.length ≤ 12 ∧ ∀ l ∈ ls, TinyP l) := by
  by_cases h : ls.length ≤ 12
  · obtain ⟨b, hb, hp⟩ := tiny_l0 ls h ls.length 0 (by omega)
    refine ⟨b, hb.mp fun k hk => ?_, fun hb => ⟨h, hp hb⟩⟩
    unfold cooperagelaw4_tiny.f
    rw [if_neg (by omega)]
    exact hk
  · refine ⟨false, Ev.of fun k => ?_, fun h => by cases h⟩
    unfold cooperagelaw4_tiny.f
    rw [if_pos (by omega)]
end Go.Proofs.YtocpfgdajomjiaaDoor.PureL
