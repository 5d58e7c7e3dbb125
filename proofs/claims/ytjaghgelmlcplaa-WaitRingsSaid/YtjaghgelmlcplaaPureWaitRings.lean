import Derived.Test.YtjaghgelmlcplaaPureRing
import Derived.Test.YtjaghgelmlcplaaP8
namespace Go.Proofs.Ytjaghgelmlcplaa.Pure
open Go.RowKit Go.Proofs.Ytjaghgelmlcplaa.P Go.Proofs.Ytjaghgelmlcplaa.Hand Go.Proofs.Ytjaghgelmlcplaa.Way Go.Proofs.YtjaghgelmlcplaaW.PrintWords
attribute [local instance] Classical.propDecidable
set_option linter.unusedVariables false
set_option linter.unusedSimpArgs false

theorem WaitRings : ∀ (l : List S43), (∀ e ∈ l, ok43 e) → ∀ (a : List S40), (∀ e ∈ a, ok40 e) → ∀ (x : Int), (Lit.int .i64 x).wf = true → ∀ (y : Int), (Lit.int .i64 y).wf = true → ∃ k, cooperagelaw17_WaitRings.f k l a x y = some true := by
  intro l hw a _ x _ y _
  by_cases hl : l.length ≤ 40 ∧ a.length ≤ 40
  · have ht : l.take 40 = l := List.take_of_length_le hl.1
    have hrl := rings_len l
    have hj : Ev fun k => cooperagelaw17_WaitRings.j0 k l a x y true (to48 l) false = some true := by
      refine Ev.up (((ages_f a (by omega)).and ((reach_f (to48 l) (by rw [to48_len]; omega) x y).and ((rings_f l (by omega)).and ((same_f (rings l) (by omega)).and (victim_f l (by omega) a (by omega)))))).mp fun k h => ?_)
      simp only [cooperagelaw17_WaitRings.j0]
      rw [if_neg (by decide), h.1, Option.bind_some, reaches_ok l hw (by omega), Option.bind_some, h.2.1, Option.bind_some, e48_to, if_pos (by simp), rings_ok l hw (by omega), Option.bind_some, h.2.2.1, Option.bind_some, h.2.2.2.1, Option.bind_some, if_pos rfl, victim_ok l hw (by omega) a (by omega), Option.bind_some, h.2.2.2.2, Option.bind_some]
      simp
    refine ((shown_f.and ((as_f l).and hj)).mp fun k h => ?_).get
    unfold cooperagelaw17_WaitRings.f
    rw [h.1, Option.bind_some, h.2.1, Option.bind_some, if_pos rfl, if_pos (decide_eq_true (by omega)), show decide ((a.length : Int) > 40) = false from decide_eq_false (by omega)]
    rw [ht]
    exact h.2.2
  · have hj : ∀ m, Ev fun k => cooperagelaw17_WaitRings.j0 k l a x y true m true = some true := by
      intro m
      refine Ev.up (Ev.of fun k => ?_)
      simp only [cooperagelaw17_WaitRings.j0]
      rw [if_pos trivial]
    refine ((shown_f.and ((as_f l).and (hj (to48 (l.take 40))))).mp fun k h => ?_).get
    unfold cooperagelaw17_WaitRings.f
    rw [h.1, Option.bind_some, h.2.1, Option.bind_some, if_pos rfl]
    by_cases h1 : (l.length : Int) ≤ 40
    · rw [if_pos (decide_eq_true h1), show decide ((a.length : Int) > 40) = true from decide_eq_true (by omega)]
      exact h.2.2
    · rw [if_neg (by simpa using h1)]
      exact h.2.2
end Go.Proofs.Ytjaghgelmlcplaa.Pure
