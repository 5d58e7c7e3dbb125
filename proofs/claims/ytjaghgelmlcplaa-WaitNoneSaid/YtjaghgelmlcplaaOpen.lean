import Derived.Deep.Slices
import Derived.ChangeArms
import Derived.Test.YtjaghgelmlcplaaP0
/- A parameter that is a slice, opened to a list: what an element reads as is told by the caller. -/
namespace Go.Proofs.Ytjaghgelmlcplaa.Open
open Go.ChangeShapes Go.WideShapes Go.RowKit Go.Proofs.YtjaghgelmlcplaaW.PrintWords
theorem open_list {H : Type} {enc : TypeId × Value → H} {P : Program} {w : World} {base : Nat} {spare : Nat → Bool} {held : Bool} {α : Type} (K : Kd α) (ok : α → Prop) {t e : TypeId} {fuel : Nat} {cs : List Value} {x : DataW H × List MemPlace}
    (ht : P.underlying t = some (.slice e)) (hsz : P.cellsOf e = K.sz) (hel : ∀ n cs' y, DataW.trod enc P w base spare held n e cs' = some y → ∃ a : α, K.K w a cs' ∧ ok a)
    (h : DataW.trod enc P w base spare held fuel t cs = some x) :
    ∃ (A : Option Addr) (l : List α) (c : Nat), cs = [.slice A l.length c] ∧ Kd.C K w A l.length l ∧ l.length ≤ c ∧ ∀ a ∈ l, ok a := by
  rcases Go.Deep.open_slice ht h with ⟨h0, _⟩ | ⟨a, len, cap, m, n, D, Pl, hcs, hb, hl, hm, hmm, hx, hi⟩
  · exact ⟨none, [], 0, h0, ⟨rfl, by simp, fun h => by simp at h⟩, Nat.zero_le _, fun a ha => by simp at ha⟩
  · have hlm : len ≤ m := by rw [hmm]; split <;> omega
    have hex : ∀ i : Fin len, ∃ y : α, ∃ cs', K.K w y cs' ∧ ok y ∧ w.cells? base (a.add (i.1 * P.cellsOf e)) (P.cellsOf e) = some cs' := by
      intro i
      obtain ⟨cs', h1, h2⟩ := hi i.1 (by omega)
      obtain ⟨y, h3, h4⟩ := hel n cs' _ h2
      exact ⟨y, cs', h3, h4, h1⟩
    refine ⟨some a, List.ofFn fun i => Classical.choose (hex i), cap, by rw [hcs, List.length_ofFn], ?_, by rw [List.length_ofFn]; exact hl, ?_⟩
    · refine ⟨rfl, by rw [List.length_ofFn]; unfold maxLen at hm; omega, fun _ => ⟨a, rfl, fun j p hj => ?_⟩⟩
      obtain ⟨hjl, hp⟩ := List.getElem?_eq_some_iff.1 hj
      rw [List.getElem_ofFn] at hp
      rw [List.length_ofFn] at hjl
      obtain ⟨cs', h1, h2, h3⟩ := Classical.choose_spec (hex ⟨j, hjl⟩)
      rw [hp] at h1
      refine ⟨cs', K.K_len h1, h1, fun i u hu => ?_⟩
      obtain ⟨_, hcl, hat⟩ := World.cells?_some h3
      have hil : i < P.cellsOf e := by rw [hsz, ← K.K_len h1]; exact (List.getElem?_eq_some_iff.1 hu).1
      have := hat i hil
      rw [Go.Deep.add_add, hu] at this
      rw [← hsz]
      exact this
    · intro y hy
      obtain ⟨i, hi⟩ := List.mem_ofFn.1 hy
      rw [← hi]
      obtain ⟨cs', h1, h2, h3⟩ := Classical.choose_spec (hex i)
      exact h2
theorem el_int {H : Type} {enc : TypeId × Value → H} {P : Program} {w : World} {base : Nat} {spare : Nat → Bool} {held : Bool} {k : IntKind} {e : TypeId} (he : P.underlying e = some (.int k)) :
    ∀ n cs' (y : DataW H × List MemPlace), DataW.trod enc P w base spare held n e cs' = some y → ∃ a : Int, (Kd.int k).K w a cs' ∧ (Lit.int k a).wf = true := by
  intro n cs' y h
  obtain ⟨a, rfl, _, hw⟩ := DataW.trod_int he h
  exact ⟨a, rfl, hw⟩
end Go.Proofs.Ytjaghgelmlcplaa.Open
