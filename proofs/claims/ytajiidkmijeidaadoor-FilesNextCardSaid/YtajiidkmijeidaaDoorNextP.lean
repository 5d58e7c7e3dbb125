import Derived.Test.YtajiidkmijeidaaDoorWaysP
/- FilesNext: a row of rows of files that grows beside a tree; plain facts. -/
namespace Go.Proofs.YtajiidkmijeidaaDoor.Fr
open Go.RowKit Go.Proofs.YtajiidkmijeidaaDoor.F Go.Proofs.YtajiidkmijeidaaDoorW.PrintWords
set_option linter.unusedVariables false
set_option linter.unusedSimpArgs false
theorem StsAt.chg {K K' S : Nat → Prop} {L : List (Nat × TS)} {m : Nat} {Tm : TS} {W W' : World} {φ : Phi} {F : Nat → Nat → Prop} {B : Nat → Prop} (h : StsAt K L m Tm W φ F B) (hc : Chg S W W') (hS : ∀ k, S k → K k) (hf : ∀ q, φ q ≠ none → ¬ S q)
    (hK : ∀ k, K' k → K k ∨ (W.heap.size ≤ k ∧ k < W'.heap.size)) : StsAt K' L m Tm W' φ F B where
  kb := fun k hk => (hK k hk).elim (fun e => Nat.lt_of_lt_of_le (h.kb k e) hc.size) fun e => e.2
  rf := h.rf.chg hc (fun e => h.nm (hS m e)) fun k hk e => h.bk k hk (hS k e)
  bk := fun k hk e => (hK k e).elim (h.bk k hk) fun e => by have := (h.rf.free hk).1; omega
  nm := fun e => (hK m e).elim h.nm fun e => by have := h.rf.lt; omega
  fl := h.fl.chg hc hf
  fm := h.fm
  tr := fun i p T hi => (h.tr i p T hi).chg hc (fun k hk e => (h.fk i (idx_lt hi) k hk).1 (hS k e)) (Ext.refl _ _) (h.fl.chg hc hf)
  fk := fun i hi k hk => ⟨fun e => (hK k e).elim (h.fk i hi k hk).1 fun e => by
    have e2 : L[i]? = some (L[i].1, L[i].2) := List.getElem?_eq_getElem hi
    have := h.lt e2 k hk
    omega, (h.fk i hi k hk).2⟩
  dis := h.dis
def lsN (T : TS) (i : Nat) : List Fl := foldF T.last (T.ch.take i)
/-- v is a row of n rows of files: those behind the first changes. -/
structure NxAt (w : World) (K : Nat → Prop) (b : Nat) (W : World) (v : Value) (T : TS) (n : Nat) (cells : List Value) : Prop where
  len : cells.length = n
  row : W.ownsRow w.heap.size 35 1 v n cells
  rk : ∀ k, v.ownBlock = some k → K k ∧ k ≠ b
  el : ∀ i c, cells[i]? = some c → ∃ (ok : Nat → Prop) (A : Option Addr) (s : Nat), c = .slice A (lsN T i).length s ∧ VA W ok c ((lsN T i).map af) ∧ ∀ k, ok k → K k ∧ some k ≠ v.ownBlock
section
variable {w W W' : World} {K : Nat → Prop} {b p m n : Nat} {L : List (Nat × TS)} {T T' Tm : TS} {v : Value} {cells : List Value}
theorem NxAt.kp (h : NxAt w K b W v T n cells) (hk : Kp K W W') : NxAt w K b W' v T n cells where
  len := h.len
  row := ownsRow_block h.row fun k hv => hk.block (h.rk k hv).1 (own_lt h.row k hv)
  rk := h.rk
  el := fun i c hc => by
    obtain ⟨ok, A, s, h1, h2, h3⟩ := h.el i c hc
    exact ⟨ok, A, s, h1, h2.chg hk fun k hok hn => hn (h3 k hok).1, h3⟩
theorem NxAt.same (h : NxAt w K b W v T n cells) (he : ∀ i, i < n → lsN T' i = lsN T i) : NxAt w K b W v T' n cells where
  len := h.len
  row := h.row
  rk := h.rk
  el := fun i c hc => by
    have hi : i < n := by rw [← h.len]; exact (List.getElem?_eq_some_iff.1 hc).1
    rw [he i hi]
    exact h.el i c hc
theorem NxAt.slice (h : NxAt w K b W v T n cells) : ∃ A c, v = .slice A n c := by
  rcases h.row.2 with ⟨rfl, e⟩ | ⟨g, cap, cur, rfl, _⟩
  · exact ⟨none, 0, by rw [e]⟩
  · exact ⟨_, _, rfl⟩
theorem nx_nil (w W : World) (K : Nat → Prop) (b : Nat) (T : TS) : NxAt w K b W (.slice none 0 0) T 0 [] where
  len := rfl
  row := own_nil _ _ _ _
  rk := fun k hk => by simp [Value.ownBlock] at hk
  el := fun i c hc => by simp at hc
/-- Behind 'all = append(all, t.All())'. -/
theorem nx_step {W1 W2 : World} {A1 : Option Addr} {n1 : Nat} {v' : Value} (hL : Law w K b p m L Tm [] W) (hN : NxAt w K b W v T n cells) (hl : lsN T n = T.l)
    (hb : Below W.heap.size W W1) (hv : VA W1 (fun k => W.heap.size ≤ k ∧ k < W1.heap.size) (.slice A1 T.l.length n1) (T.l.map af))
    (h1 : W2.ownsRow w.heap.size 35 1 v' (n + 1) (cells ++ [.slice A1 T.l.length n1])) (h2 : (W1.alloc (.cells #[.slice A1 T.l.length n1] 35)).grownBy W2 v.ownBlock)
    (h4 : v'.ownBlock = v.ownBlock ∨ v'.ownBlock = some (W1.alloc (.cells #[.slice A1 T.l.length n1] 35)).heap.size) :
    ∃ K', Law w K' b p m L Tm [] W2 ∧ NxAt w K' b W2 v' T (n + 1) (cells ++ [.slice A1 T.l.length n1]) := by
  have hbA : Below W.heap.size W (W1.alloc (.cells #[.slice A1 T.l.length n1] 35)) := hb.alloc hb.size _
  obtain ⟨Wa, hWa⟩ : ∃ Wa, Wa = W1.alloc (.cells #[.slice A1 T.l.length n1] 35) := ⟨_, rfl⟩
  have hsz1 : Wa.heap.size = W1.heap.size + 1 := by rw [hWa, World.size_alloc]
  have hVa : VA Wa (fun k => W.heap.size ≤ k ∧ k < W1.heap.size) (.slice A1 T.l.length n1) (T.l.map af) := by rw [hWa]; exact hv.below (newBelow _ _)
  rw [← hWa] at h2 h4 hbA
  have hsz := hb.size
  have hg2 := h2.size
  have hC : Chg (fun k => v.ownBlock = some k) W W2 := (Chg.of_below hbA _).grown h2 fun k e _ => e
  have hC2 : Chg (fun k => v.ownBlock = some k) Wa W2 := (Chg.refl _ Wa).grown h2 fun k e _ => e
  refine ⟨fun k => K k ∨ (W.heap.size ≤ k ∧ k < W2.heap.size), ?_, ?_⟩
  · obtain ⟨φ, F, B, hs⟩ := hL.sts
    have hs' : StsAt (fun k => K k ∨ (W.heap.size ≤ k ∧ k < W2.heap.size)) L m Tm W2 φ F B := hs.chg hC (fun k e => (hN.rk k e).1) (fun q hq e => by
      obtain ⟨cs, hcs⟩ := own_typed hN.row q e
      cases hf : φ q with
      | none => exact hq hf
      | some f =>
        have := hs.fl q f hf
        rw [hcs] at this
        simp at this) fun k hk => hk
    exact {
      g0 := hL.g0
      sts := ⟨φ, F, B, hs'⟩
      bel := hL.bel.trans (hC.to_below hL.bel.size fun k e => own_base hN.row k e)
      kw := fun k hk => .inl (hL.kw k hk)
      kx := .inl hL.kx
      box := (hC.block b hL.box.lt fun e => (hN.rk b e).2 rfl).trans hL.box
      vs := fun x hx => by cases hx }
  · have hlen := hN.len
    exact {
      len := by rw [List.length_append, hlen]; rfl
      row := h1
      rk := fun k hk => by
        rcases h4 with e | e
        · rw [e] at hk
          exact ⟨.inl (hN.rk k hk).1, (hN.rk k hk).2⟩
        · rw [e] at hk
          have hk : Wa.heap.size = k := by simpa using hk
          have hlt := own_lt h1 k (by rw [e, hk])
          have hbl := hL.box.lt
          exact ⟨.inr ⟨by omega, hlt⟩, by omega⟩
      el := fun i c hc => by
        by_cases hi : i < n
        · rw [List.getElem?_append_left (by rw [hlen]; exact hi)] at hc
          obtain ⟨ok, A, s, e1, e2, e3⟩ := hN.el i c hc
          refine ⟨fun k => ok k ∧ k < W.heap.size, A, s, e1, ?_, fun k hk => ⟨.inl (e3 k hk.1).1, fun e => ?_⟩⟩
          · have hbd : VA W (fun k => ok k ∧ k < W.heap.size) c ((lsN T i).map af) := Kd.V_bound e2
            exact hbd.chg hC fun k hk e => (e3 k hk.1).2 e.symm
          · rcases h4 with e4 | e4
            · exact (e3 k hk.1).2 (e.trans e4)
            · rw [e4] at e
              have e : k = Wa.heap.size := by simpa using e
              have := hk.2
              omega
        · have hin : i = n := by
            have := (List.getElem?_eq_some_iff.1 hc).1
            rw [List.length_append, hlen, List.length_singleton] at this
            omega
          subst hin
          rw [List.getElem?_append_right (by rw [hlen]; exact Nat.le_refl _), hlen, Nat.sub_self] at hc
          have hc : Value.slice A1 T.l.length n1 = c := by simpa using hc
          subst hc
          refine ⟨fun k => W.heap.size ≤ k ∧ k < W1.heap.size, A1, n1, by rw [hl], ?_, fun k hk => ⟨.inr ⟨hk.1, by omega⟩, fun e => ?_⟩⟩
          · rw [hl]
            refine hVa.chg hC2 fun k hk e => ?_
            have := own_lt hN.row k e
            omega
          · rcases h4 with e4 | e4
            · have := own_lt hN.row k (e4 ▸ e.symm)
              omega
            · rw [e4] at e
              have e : k = Wa.heap.size := by simpa using e
              omega }
end
/-- Where an element of the row stands. -/
theorem nx_cell {w W : World} {K : Nat → Prop} {b n j : Nat} {A : Option Addr} {c : Nat} {T : TS} {cells : List Value} {u : Value} (h : NxAt w K b W (.slice A n c) T n cells) (hj : j < n) (hc : cells[j]? = some u) : ∃ g, A = some ⟨g, 0, none⟩ ∧ cells[j]? = some u := by
  rcases h.row.2 with ⟨e, e2⟩ | ⟨g, cap, cur, e, _⟩
  · omega
  · cases e
    exact ⟨g, rfl, hc⟩
theorem nx_at {w W : World} {K : Nat → Prop} {b n j g : Nat} {c : Nat} {T : TS} {cells : List Value} {u : Value} (h : NxAt w K b W (.slice (some ⟨g, 0, none⟩) n c) T n cells) (hc : cells[j]? = some u) : W.cell? ⟨g, j, none⟩ = some u := by
  have hj : j < n := by rw [← h.len]; exact (List.getElem?_eq_some_iff.1 hc).1
  have := h.row.cellAt j (by omega)
  rw [hc] at this
  simpa using this
/-! ### plain -/
theorem act_one (T : TS) (a : Ac) (h : pickI a.f0 8 < 6) : actT T a = T ∨ ∃ c, actT T a = doneT T c := by
  obtain ⟨h0, _⟩ := pickI_lt a.f0
  have w1 : ∀ s q t, writeT T s q t = T ∨ ∃ c, writeT T s q t = doneT T c := fun s q t => by
    unfold writeT
    split
    · exact .inr ⟨_, rfl⟩
    · exact .inl rfl
  unfold actT
  simp only
  split
  · exact w1 _ _ _
  · split
    · exact w1 _ _ _
    · split
      · unfold removeT
        split
        · exact .inr ⟨_, rfl⟩
        · exact .inl rfl
      · split
        · unfold renameT
          split
          · exact .inr ⟨_, rfl⟩
          · exact .inl rfl
        · exact absurd h (by omega)
theorem ls_done (T : TS) (c : Cg) (i : Nat) (hi : i < T.ch.length + 1) : lsN (doneT T c) i = lsN T i := by
  show foldF T.last ((T.ch ++ [c]).take i) = _
  rw [List.take_append_of_le_length (by omega)]
  rfl
theorem ls_all {n : Nat} {T : TS} (hI : Inv n T) : lsN T T.ch.length = T.l := by
  unfold lsN
  rw [List.take_length, hI.fold]
theorem done_len (T : TS) (c : Cg) : (doneT T c).ch.length = T.ch.length + 1 := by
  show (T.ch ++ [c]).length = _
  rw [List.length_append]
  rfl
theorem infoSl : (Tryd.prog.info? 35).map (fun i => (i.zero, i.size, i.bytes)) = some (some (.slice none 0 0), 1, 24) := by kernel_rfl
end Go.Proofs.YtajiidkmijeidaaDoor.Fr
