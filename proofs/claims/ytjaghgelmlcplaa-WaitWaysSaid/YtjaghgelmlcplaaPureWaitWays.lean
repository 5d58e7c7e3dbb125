import Derived.Test.YtjaghgelmlcplaaPureRing
import Derived.Test.YtjaghgelmlcplaaP11
namespace Go.Proofs.Ytjaghgelmlcplaa.Pure
open Go.RowKit Go.Proofs.Ytjaghgelmlcplaa.P Go.Proofs.Ytjaghgelmlcplaa.Hand Go.Proofs.Ytjaghgelmlcplaa.Way Go.Proofs.YtjaghgelmlcplaaW.PrintWords
attribute [local instance] Classical.propDecidable
set_option linter.unusedVariables false
set_option linter.unusedSimpArgs false

theorem es_mem {l : List S43} {i : Nat} (h : i < l.length) : (l[i].f0, l[i].f1) ∈ es l := List.mem_map.2 ⟨l[i], List.getElem_mem h, rfl⟩
theorem ways_loop (l : List S43) (hw : Wf l) (hl : l.length ≤ 40) (x y z : Int) : ∀ (n i : Nat) (some_ : Bool), i + n = l.length → (some_ = true ↔ ∃ e ∈ l.take i, e.f0 = x) → Ev fun k => cooperagelaw17_WaitWays.l0 k l x y z some_ (i : Int) = some true := by
  intro n
  induction n with
  | zero =>
    intro i b hi hb
    rw [List.take_of_length_le (by omega)] at hb
    refine Ev.up (Ev.of fun k => ?_)
    simp only [cooperagelaw17_WaitWays.l0]
    rw [if_neg (by omega), reaches_ok l hw (by omega), reaches_ok l hw (by omega), reaches_ok l hw (by omega)]
    rw [Option.bind_some, Option.bind_some, Option.bind_some, Option.bind_some]
    have hh : Leads (es l) x y → b = true := fun h => by
      obtain ⟨c, hc⟩ := Leads.head h
      obtain ⟨e, he, e1⟩ := List.mem_map.1 hc
      injection e1 with e1 e2
      exact hb.2 ⟨e, he, e1⟩
    by_cases h1 : Leads (es l) x y
    · rw [hh h1, decide_eq_true h1]
      by_cases h2 : Leads (es l) y z
      · rw [decide_eq_true h2, decide_eq_true (h1.trans h2)]
        rfl
      · rw [decide_eq_false h2]
        rfl
    · rw [decide_eq_false h1]
      cases b <;> rfl
  | succ n ih =>
    intro i b hi hb
    have hlt : i < l.length := by omega
    have hbn : ∀ b' : Bool, (b' = true ↔ (b = true ∨ l[i].f0 = x)) → (b' = true ↔ ∃ e ∈ l.take (i + 1), e.f0 = x) := by
      intro b' h
      rw [h, hb, List.take_succ_eq_append_getElem hlt]
      constructor
      · rintro (⟨e, he, h⟩ | h)
        · exact ⟨e, List.mem_append_left _ he, h⟩
        · exact ⟨_, List.mem_append_right _ (List.mem_singleton.2 rfl), h⟩
      · rintro ⟨e, he, h⟩
        rcases List.mem_append.1 he with he | he
        · exact .inl ⟨e, he, h⟩
        · rw [List.mem_singleton.1 he] at h
          exact .inr h
    cases b with
    | true =>
      refine Ev.up ((ih (i + 1) true (by omega) (hbn true (by simp))).mp fun k h => ?_)
      simp only [cooperagelaw17_WaitWays.l0]
      rw [if_pos (by omega), if_pos (by omega), rd43 hlt, reaches_ok l hw (by omega), Option.bind_some, decide_eq_true (.one (es_mem hlt)), if_pos rfl, if_pos trivial, w64s i (by omega)]
      exact h
    | false =>
      refine Ev.up ((ih (i + 1) (l[i].f0 == x) (by omega) (hbn _ (by simp))).mp fun k h => ?_)
      simp only [cooperagelaw17_WaitWays.l0]
      rw [if_pos (by omega), if_pos (by omega), rd43 hlt, reaches_ok l hw (by omega), Option.bind_some, decide_eq_true (.one (es_mem hlt)), if_pos rfl, if_neg (by simp), w64s i (by omega)]
      exact h
theorem WaitWays : ∀ (l : List S43), (∀ e ∈ l, ok43 e) → ∀ (x : Int), (Lit.int .i64 x).wf = true → ∀ (y : Int), (Lit.int .i64 y).wf = true → ∀ (z : Int), (Lit.int .i64 z).wf = true → ∃ k, cooperagelaw17_WaitWays.f k l x y z = some true := by
  intro l hw x _ y _ z _
  by_cases hl : l.length ≤ 40
  · have hj : Ev fun k => cooperagelaw17_WaitWays.j0 k l x y z true false = some true := by
      refine Ev.up ((ways_loop l hw hl x y z l.length 0 false (by omega) (by simp)).mp fun k h => ?_)
      simp only [cooperagelaw17_WaitWays.j0]
      rw [if_neg (by decide)]
      exact h
    refine ((shown_f.and ((as_f l).and hj)).mp fun k h => ?_).get
    unfold cooperagelaw17_WaitWays.f
    rw [h.1, Option.bind_some, h.2.1, Option.bind_some, if_pos rfl]
    rw [show decide ((l.length : Int) ≤ 40) = true from decide_eq_true (by omega)]
    exact h.2.2
  · have hj : Ev fun k => cooperagelaw17_WaitWays.j0 k l x y z true true = some true := by
      refine Ev.up (Ev.of fun k => ?_)
      simp only [cooperagelaw17_WaitWays.j0]
      rw [if_pos trivial]
    refine ((shown_f.and ((as_f l).and hj)).mp fun k h => ?_).get
    unfold cooperagelaw17_WaitWays.f
    rw [h.1, Option.bind_some, h.2.1, Option.bind_some, if_pos rfl]
    rw [show decide ((l.length : Int) ≤ 40) = false from decide_eq_false (by omega)]
    exact h.2.2
end Go.Proofs.Ytjaghgelmlcplaa.Pure
