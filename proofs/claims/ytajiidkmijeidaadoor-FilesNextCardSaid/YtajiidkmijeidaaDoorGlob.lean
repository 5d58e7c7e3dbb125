import Derived.Test.YtajiidkmijeidaaDoorMD
/- What a row's start gives: the library's variable; a row of acts. -/
namespace Go.Proofs.YtajiidkmijeidaaDoor.Fr
set_option linter.unusedVariables false
set_option linter.unusedSimpArgs false
open Go.RowKit Go.Proofs.YtajiidkmijeidaaDoor.F Go.Proofs.YtajiidkmijeidaaDoorW.PrintWords
theorem glob_of_shaped {W : World} (h : W.ShapedOpen Tryd.prog) : Glob W := by
  obtain ⟨m, hm⟩ : ∃ m, W.cell? ⟨0, 0, none⟩ = some (.int .i64 m) := Go.Proofs.cell_of_shapedOpen_int (zero := #[.int .i64 0]) (t := 3) h (of_decide_eq_true (by kernel_rfl)) (by kernel_rfl) rfl (by kernel_rfl) (by kernel_rfl) Tryd.underlying3
  exact ⟨cell_lt hm, m, hm⟩
def ok34 (a : Ac) : Prop := (Lit.int .i64 a.f0).wf = true ∧ (Lit.int .i64 a.f1).wf = true ∧ (Lit.int .i64 a.f2).wf = true ∧ a.f3.size ≤ maxLen ∧ a.f4.size ≤ maxLen
theorem int_wf {x : Int} (h : (Lit.int .i64 x).wf = true) : -9223372036854775808 ≤ x ∧ x ≤ 9223372036854775807 := by
  have h2 : (decide (IntKind.i64.min ≤ x) && decide (x ≤ IntKind.i64.max)) = true := h
  rw [Bool.and_eq_true, decide_eq_true_eq, decide_eq_true_eq] at h2
  exact h2
theorem acs_of {W : World} {A : Option Addr} {c : Nat} {l : List Ac} (hC : Kd.C k34 W A l.length l) (hc : l.length ≤ c) (ho : ∀ a ∈ l, ok34 a) : Acs W A c l :=
  ⟨hC, hc, fun a ha => ⟨int_wf (ho a ha).1, int_wf (ho a ha).2.1, int_wf (ho a ha).2.2.1⟩⟩
theorem Law.view1 {w W W' : World} {K : Nat → Prop} {b p m : Nat} {L : List (Nat × TS)} {Tm : TS} {V : List Vw} (h : Law w K b p m L Tm V W) {v : Value} {l : List Af} (hv : VA W' (fun k => W.heap.size ≤ k ∧ k < W'.heap.size) v l) (hb : Below W.heap.size W W') :
    ∃ (K' O : Nat → Prop), Law w K' b p m L Tm ((fun W => VA W O v l) :: V) W' ∧ ∀ k, K k → K' k := ⟨_, _, h.view hv hb, fun k hk => .inl hk⟩
theorem Law.box2 {w W : World} {K : Nat → Prop} {b p m : Nat} {L : List (Nat × TS)} {Tm : TS} {V : List Vw} (h : Law w K b p m L Tm V W) (o : Obj) :
    ∃ (K' : Nat → Prop) (u : Nat), u = W.heap.size ∧ Law w K' b p m L Tm ((fun W' => W'.heap[u]? = some o) :: V) (W.alloc o) ∧ ∀ k, K k → K' k := ⟨_, _, rfl, h.box1 o, fun k hk => .inl hk⟩
/-! ### plain facts of crashes and acts -/
theorem crash_none (T : TS) : (crashT T 0 0).l = T.last := by
  show crashL T 0 0 = T.last
  unfold crashL
  have e : keptN 0 T.ch.length = 0 := by unfold keptN; omega
  simp only [e, List.take_zero]
  split
  · rfl
  · rw [if_neg (by omega)]
    rfl
theorem crash_at {n : Nat} {T : TS} (i : Nat) (hi : i ≤ T.ch.length) : (crashT T i 0).l = foldF T.last (T.ch.take i) := by
  show crashL T i 0 = _
  unfold crashL
  have e : keptN i T.ch.length = i := by unfold keptN; omega
  simp only [e]
  split
  · rfl
  · rw [if_neg (by omega)]
theorem crash_all {n : Nat} {T : TS} (h : Inv n T) : (crashT T T.ch.length 0).l = T.l := by
  rw [crash_at (n := n) _ (Nat.le_refl _), List.take_length, h.fold]
theorem act_last (T : TS) (a : Ac) (h : pickI a.f0 8 < 6) : (actT T a).last = T.last := by
  obtain ⟨h0, _⟩ := pickI_lt a.f0
  have w1 : ∀ s q t, (writeT T s q t).last = T.last := fun s q t => by unfold writeT; split <;> rfl
  unfold actT
  simp only
  split
  · exact w1 _ _ _
  · split
    · exact w1 _ _ _
    · split
      · unfold removeT; split <;> rfl
      · split
        · unfold renameT; split <;> rfl
        · exact absurd h (by omega)
theorem cell_box {W : World} {u : Nat} {cs : Array Value} {ty : TypeId} {fr : Nat × Nat} (h : W.heap[u]? = some (.cells cs ty fr)) (j : Nat) {v : Value} (hj : cs[j]? = some v) : W.cell? ⟨u, j, none⟩ = some v := by
  simp [World.cell?, h, hj]
end Go.Proofs.YtajiidkmijeidaaDoor.Fr
