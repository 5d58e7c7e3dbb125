import Derived.Deep.Slices
import Derived.ChangeArms
import Derived.Test.YtghbaehbgefpaaaGreatDoorQ33
/- A parameter that is a slice, opened to a list: what an element reads as is told by the caller. -/
namespace Go.Proofs.YtghbaehbgefpaaaGreatDoor.Open
open Go.ChangeShapes Go.WideShapes Go.RowKit Go.Proofs.YtghbaehbgefpaaaGreatDoorW.PrintWords
set_option linter.unusedVariables false
theorem open_list {H : Type} {enc : TypeId × Value → H} {P : Program} {w : World} {base : Nat} {spare : Nat → Bool} {held : Bool} {α : Type} (K : Kd α) (ok : α → Prop) {t e : TypeId} {fuel : Nat} {cs : List Value} {x : DataW H × List MemPlace}
    (ht : P.underlying t = some (.slice e)) (hsz : P.cellsOf e = K.sz) (hel : ∀ n cs' y, DataW.trod enc P w base spare held n e cs' = some y → ∃ a : α, K.K w a cs' ∧ ok a)
    (h : DataW.trod enc P w base spare held fuel t cs = some x) :
    ∃ (A : Option Addr) (l : List α) (c : Nat), cs = [.slice A l.length c] ∧ Kd.C K w A l.length l ∧ l.length ≤ c ∧ ∀ a ∈ l, ok a := by
  rcases Go.Deep.open_slice ht h with ⟨h0, _⟩ | ⟨a, len, cap, m, n, D, Pl, hcs, hb, hl, hm, hmm, hx, hi⟩
  · exact ⟨none, [], 0, h0, ⟨rfl, by simp, fun h => by simp at h⟩, Nat.zero_le _, fun a ha => by simp at ha⟩
  · have hlm : len ≤ m := by rw [hmm]; split <;> omega
    have hex : ∀ i : Fin len, ∃ y : α, ∃ cs', K.K w y cs' ∧ ok y ∧ w.cells? base (a.add (i.1 * P.cellsOf e)) (P.cellsOf e) = some cs' := by
      intro i
      obtain ⟨cs', h1, h2⟩ := hi i.1 (by omega)
      obtain ⟨y, h3, h4⟩ := hel n cs' _ h2
      exact ⟨y, cs', h3, h4, h1⟩
    refine ⟨some a, List.ofFn fun i => Classical.choose (hex i), cap, by rw [hcs, List.length_ofFn], ?_, by rw [List.length_ofFn]; exact hl, ?_⟩
    · refine ⟨rfl, by rw [List.length_ofFn]; unfold maxLen at hm; omega, fun _ => ⟨a, rfl, fun j p hj => ?_⟩⟩
      obtain ⟨hjl, hp⟩ := List.getElem?_eq_some_iff.1 hj
      rw [List.getElem_ofFn] at hp
      rw [List.length_ofFn] at hjl
      obtain ⟨cs', h1, h2, h3⟩ := Classical.choose_spec (hex ⟨j, hjl⟩)
      rw [hp] at h1
      refine ⟨cs', K.K_len h1, h1, fun i u hu => ?_⟩
      obtain ⟨_, hcl, hat⟩ := World.cells?_some h3
      have hil : i < P.cellsOf e := by rw [hsz, ← K.K_len h1]; exact (List.getElem?_eq_some_iff.1 hu).1
      have := hat i hil
      rw [Go.Deep.add_add, hu] at this
      rw [← hsz]
      exact this
    · intro y hy
      obtain ⟨i, hi⟩ := List.mem_ofFn.1 hy
      rw [← hi]
      obtain ⟨cs', h1, h2, h3⟩ := Classical.choose_spec (hex i)
      exact h2
theorem el_int {H : Type} {enc : TypeId × Value → H} {P : Program} {w : World} {base : Nat} {spare : Nat → Bool} {held : Bool} {k : IntKind} {e : TypeId} (he : P.underlying e = some (.int k)) :
    ∀ n cs' (y : DataW H × List MemPlace), DataW.trod enc P w base spare held n e cs' = some y → ∃ a : Int, (Kd.int k).K w a cs' ∧ (Lit.int k a).wf = true := by
  intro n cs' y h
  obtain ⟨a, rfl, _, hw⟩ := DataW.trod_int he h
  exact ⟨a, rfl, hw⟩
theorem el_string {H : Type} {enc : TypeId × Value → H} {P : Program} {w : World} {base : Nat} {spare : Nat → Bool} {held : Bool} {e : TypeId} (he : P.underlying e = some .string) :
    ∀ n cs' (y : DataW H × List MemPlace), DataW.trod enc P w base spare held n e cs' = some y → ∃ a : ByteArray, Kd.string.K w a cs' ∧ True := by
  intro n cs' y h
  obtain ⟨a, rfl, _⟩ := DataW.trod_string he h
  exact ⟨a, rfl, trivial⟩
theorem el_strs {H : Type} {enc : TypeId × Value → H} {P : Program} {w : World} {base : Nat} {spare : Nat → Bool} {held : Bool} {t e : TypeId} (ht : P.underlying t = some (.slice e)) (he : P.underlying e = some .string) (hz : P.cellsOf e = 1) :
    ∀ n cs' (y : DataW H × List MemPlace), DataW.trod enc P w base spare held n t cs' = some y → ∃ l : List ByteArray, (Kd.slice e Kd.string).K w l cs' ∧ True := by
  intro n cs' y h
  obtain ⟨A, l, c, h1, h2, h3, _⟩ := open_list Kd.string (fun _ => True) ht hz (el_string he) h
  exact ⟨l, ⟨A, c, h1, h3, h2⟩, trivial⟩
theorem reads_moved {α : Type} {R R' : α → List Value → Prop} {size : Nat} {w w1 : World} {A : Option Addr} {n : Nat} {ps : List α} (h : ReadsRow R size w A n ps) (hb : ∀ k, k < w.heap.size → w1.heap[k]? = w.heap[k]?) (hR : ∀ p c, R p c → R' p c) : ReadsRow R' size w1 A n ps :=
  ⟨h.1, h.2.1, fun hn => by
    obtain ⟨ad, e, hc⟩ := h.2.2 hn
    refine ⟨ad, e, fun j p hj => ?_⟩
    obtain ⟨c, hs, hr, hcell⟩ := hc j p hj
    refine ⟨c, hs, hR _ _ hr, fun i u hu => ?_⟩
    have h1 := hcell i u hu
    have h2 := hb _ (World.block_lt_of_cell? w _ h1)
    simpa [World.cell?, h2] using h1⟩
theorem V_strs {w : World} {A : Option Addr} {c e t base : Nat} {l : List (List ByteArray)} (h : Kd.C (Kd.slice e Kd.string) w A l.length l) (hl : l.length ≤ c) : Kd.V (Kd.slice e Kd.string) t w base (fun _ => True) (.slice A l.length c) l :=
  Kd.V_mk hl (fun W' hW => reads_moved h (fun k hk => hW k trivial hk) (by
    rintro p cs ⟨A', c', e', hl', hr'⟩
    exact ⟨A', c', e', hl', reads_moved hr' (fun k hk => hW k trivial hk) (fun _ _ h => h)⟩))
theorem V_strs0 {w : World} {A : Option Addr} {c t base : Nat} {l : List ByteArray} (h : Kd.C Kd.string w A l.length l) (hl : l.length ≤ c) : Kd.V Kd.string t w base (fun _ => True) (.slice A l.length c) l :=
  Kd.V_mk hl (fun W' hW => reads_moved h (fun k hk => hW k trivial hk) (fun _ _ h => h))
end Go.Proofs.YtghbaehbgefpaaaGreatDoor.Open
