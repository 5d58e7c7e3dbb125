import Derived.Test.YtghbaehbgefpaaaGreatDoorQ33
import Derived.Maps.AppendAt
/- Several texts of this session in one: the walks of the functions that the laws reach, and what they tell. -/
set_option linter.unusedVariables false
set_option linter.unusedSimpArgs false
namespace Go.Proofs.YtghbaehbgefpaaaGreatDoor.Fr
open Go.RowKit Go.Proofs.YtghbaehbgefpaaaGreatDoor.F Go.Proofs.YtghbaehbgefpaaaGreatDoorW.PrintWords Go.Maps
section
variable {W W' : World} {s p b : Nat} {nm : ByteArray} {l : List ByteArray} {v : Value} {D : DataW Unit}
theorem str_app (l : List ByteArray) (t : ByteArray) : strV (l ++ [t]) = strV l ++ [.string t] := by
  simp [strV]
theorem BsAt.row_ne (h : BsAt W s p nm l v b D) {k : Nat} (hk : v.ownBlock = some k) : k ≠ s ∧ k ≠ b := by
  rcases h.row.2 with ⟨e, -⟩ | ⟨g, cap, cur, e, -, hg, -⟩
  · rw [e] at hk
    cases hk
  · rw [e] at hk
    obtain rfl : g = k := Option.some.inj hk
    refine ⟨fun e2 => ?_, fun e2 => ?_⟩
    · have h1 := h.box
      rw [← e2, hg] at h1
      have h2 := Option.some.inj h1
      injection h2 with _ h3
      exact absurd h3 (by decide)
    · obtain ⟨es, clock, hb, -⟩ := h.ids
      rw [← e2, hg] at hb
      have h2 := Option.some.inj hb
      cases h2
theorem BsAt.ne (h : BsAt W s p nm l v b D) : b ≠ s := fun e => by
  obtain ⟨es, clock, hb, -⟩ := h.ids
  rw [e, h.box] at hb
  have h2 := Option.some.inj hb
  cases h2
structure KeepMid (W : World) (s p : Nat) (nm : ByteArray) (l : List ByteArray) (v : Value) (b : Nat) (D : DataW Unit) (t : ByteArray) (v1 : Value) (W2 : World) : Prop where
  box : W2.heap[s]? = some (.cells #[.pointer (some ⟨p, 0, none⟩), .string nm, v1, .map (some b)] 68 (0, 0))
  row : W2.ownsRow 0 9 1 v1 (l.length + 1) (strV (l ++ [t]))
  ids : W2.ownsMap Tryz.prog 9 (plainElem Tryz.prog 3) b l.length D
  chg : Chg (fun k => BsF s v b k) W W2
  new : ∀ k, v1.ownBlock = some k → v.ownBlock = some k ∨ W.heap.size ≤ k
theorem keep_mid {w1 : World} {v1 : Value} {t : ByteArray} {o : Obj} (h : BsAt W s p nm l v b D) (h1 : w1.ownsRow 0 9 1 v1 (l.length + 1) (strV l ++ [.string t]))
    (h2 : (W.alloc o).grownBy w1 v.ownBlock) (h4 : v1.ownBlock = v.ownBlock ∨ v1.ownBlock = some (W.alloc o).heap.size) :
    KeepMid W s p nm l v b D t v1 (w1.setCell ⟨s, 2, none⟩ v1) ∧ w1.heap[s]? = some (.cells #[.pointer (some ⟨p, 0, none⟩), .string nm, v, .map (some b)] 68 (0, 0)) := by
  have hsl := h.lt s (.inl rfl)
  have hbl := h.lt b (.inr (.inl rfl))
  have hsz : (W.alloc o).heap.size = W.heap.size + 1 := World.size_alloc W o
  have hblk : ∀ k, k < W.heap.size → v.ownBlock ≠ some k → w1.heap[k]? = W.heap[k]? := fun k hk hn => (h2.block k (by omega) (fun e => hn e.symm)).trans (Below.heap_alloc W o k hk)
  have hs1 : w1.heap[s]? = _ := (hblk s hsl fun e => (h.row_ne e).1 rfl).trans h.box
  have hb1 : w1.heap[b]? = W.heap[b]? := hblk b hbl fun e => (h.row_ne e).2 rfl
  have hv1 : ∀ k, v1.ownBlock = some k → k ≠ s := by
    intro k hk e
    rcases h4 with h4 | h4
    · rw [h4] at hk
      exact (h.row_ne hk).1 e
    · rw [h4] at hk
      have := Option.some.inj hk
      omega
  have hC1 : Chg (fun k => BsF s v b k) W w1 := ((Chg.refl _ W).alloc o).grown h2 fun k e _ => .inr (.inr e)
  refine ⟨⟨?_, ?_, ?_, hC1.setCell (p := ⟨s, 2, none⟩) (fun _ => .inl rfl) _, ?_⟩, hs1⟩
  · rw [heap_setCell_same w1 s 2 _ _ _ hs1]
    rfl
  · rw [str_app]
    exact ownsRow_block h1 fun k hk => heap_setCell_other w1 ⟨s, 2, none⟩ k v1 (hv1 k hk)
  · obtain ⟨es, clock, hb, F, hs, hD⟩ := h.ids
    exact ⟨es, clock, ((heap_setCell_other w1 ⟨s, 2, none⟩ b v1 h.ne).trans hb1).trans hb, F, hs, hD⟩
  · intro k hk
    rcases h4 with h4 | h4
    · exact .inl (h4 ▸ hk)
    · rw [h4] at hk
      have := Option.some.inj hk
      exact .inr (by omega)
theorem KeepMid.drew {t : ByteArray} {v1 : Value} {W2 : World} (h : KeepMid W s p nm l v b D t v1 W2) : KeepMid W s p nm l v b D t v1 W2.drew := ⟨h.box, h.row, h.ids, h.chg.drew, h.new⟩
def KeepEnd (W : World) (s p : Nat) (nm : ByteArray) (l : List ByteArray) (v : Value) (b : Nat) (t : ByteArray) (W' : World) : Prop :=
  ∃ v' D', BsAt W' s p nm (l ++ [t]) v' b D' ∧ Chg (fun k => BsF s v b k) W W' ∧ ∀ k, BsF s v' b k → BsF s v b k ∨ W.heap.size ≤ k
theorem keep_end {W2 W3 : World} {v1 : Value} {t : ByteArray} (h : BsAt W s p nm l v b D) (hm : KeepMid W s p nm l v b D t v1 W2) (hf : idxB l t = 0)
    (h3 : W3.ownsMap Tryz.prog 9 (plainElem Tryz.prog 3) b (l.length + 1) (D.put (.string t.data.toList) (.lit (.int .i64 ((l.length + 1 : Nat) : Int))))) (hg : W2.grownBy W3 (some b)) :
    KeepEnd W s p nm l v b t W3 := by
  have hlen : (l ++ [t]).length = l.length + 1 := by simp
  have hs2 : s < W2.heap.size := (Array.getElem?_eq_some_iff.1 hm.box).1
  refine ⟨v1, _, ⟨?_, ?_, by rw [hlen]; exact h3, ?_⟩, hm.chg.grown hg (fun k e _ => .inr (.inl (Option.some.inj e).symm)), ?_⟩
  · exact (hg.block s hs2 (fun e => h.ne (Option.some.inj e).symm)).trans hm.box
  · rw [hlen]
    refine ownsRow_block hm.row fun k hk => hg.block k (own_lt hm.row k hk) fun e => ?_
    have e := Option.some.inj e
    rcases hm.new k hk with h5 | h5
    · exact (h.row_ne h5).2 e
    · have := h.lt b (.inr (.inl rfl))
      omega
  · intro u
    rw [idx_snoc]
    by_cases e : t = u
    · subst e
      rw [atKey_put_same h.ids.isMap (show WideAt.IsKeyLit (.string t.data.toList) from trivial), hf, if_neg (fun h : (0 : Nat) ≠ 0 => h rfl), if_pos rfl]
    · have e2 : (Lit.string u.data.toList) ≠ Lit.string t.data.toList := fun h6 => by
        have h7 := Lit.string.inj h6
        exact e (by cases t; cases u; simp only at h7; rw [Array.toList_inj.1 h7])
      rw [atKey_put_other e2, h.at_ u]
      by_cases h8 : idxB l u ≠ 0
      · rw [if_pos h8]
      · rw [if_neg h8, if_neg e, Classical.not_not.1 h8]
  · intro k hk
    rcases hk with rfl | rfl | hk
    · exact .inl (.inl rfl)
    · exact .inl (.inr (.inl rfl))
    · exact (hm.new k hk).imp (fun e => .inr (.inr e)) id
theorem newS (W : World) (u : Value) : ∀ (j : Nat) v, [u][j]? = some v → (W.alloc (.cells #[u] 9)).cell? ((⟨W.heap.size, 0, none⟩ : Addr).add j) = some v := World.news_of_block (World.alloc_heap_new W _)
set_option maxHeartbeats 4000000 in
set_option maxRecDepth 100000 in
theorem keep_call (h : BsAt W s p nm l v b D) (t : ByteArray) (ht : t.size ≤ 100000) (hn : l.length ≤ 1000000) (hf : idxB l t = 0) :
    Calls Tryz.prog 30 #[.pointer (some ⟨s, 0, none⟩), .string t] W fun e W' => e = .returned (.int .i64 ((l.length + 1 : Nat) : Int)) ∧ KeepEnd W s p nm l v b t W' := by
  obtain ⟨i0, hi, hz0, hz1, hz2⟩ := info_parts Hand.infoStr2
  have HB := Lib.hid h
  have HF := Lib.hid hf
  have HN := Lib.hid hn
  have HT := Lib.hid ht
  obtain ⟨c0, c1, c2, c3⟩ := h.cells
  have HNW := Lib.hid (newS W (.string t))
  have HONE : Hid (∀ u ∈ [Value.string t], u.oneCell' = true) := fun u hu => by rw [List.mem_singleton.1 hu]; rfl
  have H63 : Hid (l.length + 1 ≤ maxLen) := by unfold Hid maxLen; omega
  have HBY : Hid ((l.length + 1) * 16 ≤ 140737488355328) := by unfold Hid; omega
  have HKY : Hid (keyOf Tryz.prog 9 (.string t) = some (.string t.data.toList)) := Go.WideMaps.keyOf_string_mk Tryz.underlying9 (by unfold maxLen; omega)
  have HLM : Hid (l.length < maxLen) := by unfold Hid maxLen; omega
  obtain ⟨A0, n0, rfl⟩ := h.slice
  clear h hf hn ht
  go_enter Tryz.func30, Tryz.ntmps30
  go_upto_region 2 with (at_builtin; refine wpList_append_own_at _ rfl _ _ 22 rfl 0 9 i0 _ 1 16 Tryz.underlying22 hi hz0 hz1 hz2 rfl (by decide) (.slice A0 l.length n0) l.length (strV l) rfl (HB.out.row.alloc _) ⟨W.heap.size, 0, none⟩ 1 1 [.string t] rfl rfl HNW.out HONE.out H63.out HBY.out (Nat.zero_le _) ?_; intro v1 w1 h1 h2 h3 h4; obtain ⟨A1, n1, rfl⟩ : ∃ A1 n1, v1 = .slice A1 (l.length + 1) n1 := (by rcases h1.2 with ⟨-, e⟩ | ⟨g, cap, cur, e, -⟩; exact absurd e (by omega); exact ⟨_, _, e⟩); obtain ⟨hm, hs1⟩ := keep_mid HB.out h1 h2 h4; have HM := Lib.hid hm; have d2 : w1.cell? ⟨s, 2, none⟩ = some (.slice A0 l.length n0) := cell_box hs1 2 rfl; have d3 : w1.cell? ⟨s, 3, none⟩ = some (.map (some b)) := cell_box hs1 3 rfl; have f2 : w1.frozen? ⟨s, 2, none⟩ = false := (by simp [World.frozen?, hs1]); clear h1 h2 h3 h4 hm hs1)
  have HM2 := Lib.hid HM.out.drew
  obtain ⟨w3, hrun, h3, h4⟩ := HM2.out.ids.update lawK (t := 66) Tryz.underlying66 HLM.out HKY.out (plainElem_int (a := ((l.length + 1 : Nat) : Int)) Tryz.underlying3 (Go.WalkArith.wf_i64 (by have := HN.out; omega)))
  rw [show ((l.length + 1 : Nat) : Int) = (l.length : Int) + 1 from by omega] at hrun
  have e2 : w3.cell? ⟨s, 2, none⟩ = some (.slice A1 (l.length + 1) n1) := cell_box ((h4.block s (Array.getElem?_eq_some_iff.1 HM2.out.box).1 (fun e => HB.out.ne (Option.some.inj e).symm)).trans HM2.out.box) 2 rfl
  have HE := Lib.hid (keep_end HB.out HM2.out HF.out h3 h4)
  clear h3 h4 HM HM2
  go_region
  go_wp2
  go_ret
  exact ⟨rfl, HE.out⟩
end
section
variable {W W' : World} {s p b : Nat} {nm : ByteArray} {l : List ByteArray} {v : Value} {D : DataW Unit}
set_option maxHeartbeats 4000000 in
set_option maxRecDepth 100000 in
theorem find_same (h : BsAt W s p nm l v b D) (t : ByteArray) (ht : t.size ≤ maxLen) :
    Calls Tryz.prog 13 #[.pointer (some ⟨s, 0, none⟩), .string t] W fun e W' => e = .returned (.int .i64 (idxB l t : Nat)) ∧ W' = W := by
  obtain ⟨c0, c1, c2, c3⟩ := h.cells
  have hl := h.look t ht
  generalize idxB l t = n at hl ⊢
  clear h ht
  go_enter Tryz.func13, Tryz.ntmps13
  go_wp2
  go_ret
  exact ⟨rfl, rfl⟩
theorem find_call (h : BsAt W s p nm l v b D) (t : ByteArray) (ht : t.size ≤ maxLen) :
    Calls Tryz.prog 13 #[.pointer (some ⟨s, 0, none⟩), .string t] W fun e W' => e = .returned (.int .i64 (idxB l t : Nat)) ∧ Below W.heap.size W W' :=
  (find_same h t ht).mono fun e W' ⟨h1, h2⟩ => ⟨h1, by rw [h2]; exact Below.refl _ _⟩
set_option maxHeartbeats 4000000 in
set_option maxRecDepth 100000 in
theorem len_same (h : BsAt W s p nm l v b D) :
    Calls Tryz.prog 14 #[.pointer (some ⟨s, 0, none⟩)] W fun e W' => e = .returned (.int .i64 (l.length : Nat)) ∧ W' = W := by
  obtain ⟨c0, c1, c2, c3⟩ := h.cells
  obtain ⟨A, n, rfl⟩ := h.slice
  clear h
  go_enter Tryz.func14, Tryz.ntmps14
  go_wp2
  go_ret
  exact ⟨rfl, rfl⟩
theorem len_call (h : BsAt W s p nm l v b D) :
    Calls Tryz.prog 14 #[.pointer (some ⟨s, 0, none⟩)] W fun e W' => e = .returned (.int .i64 (l.length : Nat)) ∧ Below W.heap.size W W' :=
  (len_same h).mono fun e W' ⟨h1, h2⟩ => ⟨h1, by rw [h2]; exact Below.refl _ _⟩
theorem BsAt.text (h : BsAt W s p nm l v b D) {i : Nat} (hi : i < l.length) : ∃ g n, v = .slice (some ⟨g, 0, none⟩) l.length n ∧ W.cell? ⟨g, i, none⟩ = some (.string l[i]) ∧ l.length ≤ n := by
  rcases h.row with ⟨h1, ⟨-, h2⟩ | ⟨g, cap, cur, rfl, -, hg, hc, -, hz, ht⟩⟩
  · omega
  · refine ⟨g, cap, rfl, ?_, hc⟩
    have e : cur[i]? = some (.string l[i]) := by
      have e1 : (cur.toList.take (l.length * 1))[i]? = (strV l)[i]? := by rw [ht]
      rw [List.getElem?_take_of_lt (by omega)] at e1
      rw [← Array.getElem?_toList, e1]
      simp [strV, hi]
    exact cell_box hg i e
theorem textN_in {l : List ByteArray} {i : Nat} (hi : i < l.length) : textN l ((i : Int) + 1) = (l[i], true) := by
  unfold textN
  rw [dif_pos ⟨by omega, by omega⟩]
  have : ((i : Int) + 1 - 1).toNat = i := by omega
  simp only [this]
theorem textN_out {l : List ByteArray} {i : Int} (hi : ¬ (1 ≤ i ∧ i ≤ l.length)) : textN l i = (⟨#[]⟩, false) := by
  unfold textN
  rw [dif_neg hi]
set_option maxHeartbeats 4000000 in
set_option maxRecDepth 100000 in
theorem text_call (h : BsAt W s p nm l v b D) (hlm : l.length ≤ 1000000) (i : Int) :
    Calls Tryz.prog 12 #[.pointer (some ⟨s, 0, none⟩), .int .i64 i] W fun e W' => e = .returned (.tuple #[.string (textN l i).1, .bool (textN l i).2]) ∧ Below W.heap.size W W' := by
  obtain ⟨c0, c1, c2, c3⟩ := h.cells
  by_cases hin : 1 ≤ i ∧ i ≤ l.length
  · obtain ⟨k, rfl⟩ : ∃ k : Nat, i = (k : Int) + 1 := ⟨(i - 1).toNat, by omega⟩
    have hk : k < l.length := by omega
    obtain ⟨g, n, rfl, hx, hn⟩ := h.text hk
    rw [textN_in hk]
    generalize l[k] = x at hx ⊢
    have d1 : decide ((k : Int) + 1 < 1) = false := decide_eq_false (by omega)
    have d2 : decide ((l.length : Int) < (k : Int) + 1) = false := decide_eq_false (by omega)
    clear h
    go_enter Tryz.func12, Tryz.ntmps12
    go_wp2
    exact bodyPost_ret (v := .tuple #[.string x, .bool true]) (by simp [results, Tryz.results12, go_sem]) rfl ⟨rfl, Below.refl _ _⟩
  · rw [textN_out hin]
    obtain ⟨A, n, rfl⟩ := h.slice
    clear h
    go_enter Tryz.func12, Tryz.ntmps12
    by_cases h1 : i < 1
    · have d1 : decide (i < 1) = true := decide_eq_true h1
      go_wp2
      exact bodyPost_ret (v := .tuple #[.string ⟨#[]⟩, .bool false]) (by simp [results, Tryz.results12, go_sem]) rfl ⟨rfl, Below.refl _ _⟩
    · have d1 : decide (i < 1) = false := decide_eq_false h1
      have d2 : decide ((l.length : Int) < i) = true := decide_eq_true (by omega)
      go_wp2
      exact bodyPost_ret (v := .tuple #[.string ⟨#[]⟩, .bool false]) (by simp [results, Tryz.results12, go_sem]) rfl ⟨rfl, Below.refl _ _⟩
end
end Go.Proofs.YtghbaehbgefpaaaGreatDoor.Fr
namespace Go.Proofs.YtghbaehbgefpaaaGreatDoor.Fr
open Go.RowKit Go.Proofs.YtghbaehbgefpaaaGreatDoor.F Go.Proofs.YtghbaehbgefpaaaGreatDoorW.PrintWords
section
variable {w W W' W1 : World} {K K' : Nat → Prop} {m n p : Nat} {L L' : List (Nat × TS)} {T T' Tm Tm' : TS} {V V' : List Vw}
theorem Law.gk (h : Law w K m L Tm V W) : GK K W := fun W' hk => h.g0.below (h.bel.trans (hk.below h.bel.size h.kw))
structure InAt (w : World) (K : Nat → Prop) (W : World) (v : Value) (xs : List (List ByteArray)) (cells : List Value) : Prop where
  len : cells.length = xs.length
  row : W.ownsRow w.heap.size 22 1 v xs.length cells
  rk : ∀ k, v.ownBlock = some k → K k
  el : ∀ (i : Nat) (x : List ByteArray), xs[i]? = some x → ∃ A c, cells[i]? = some (Value.slice A x.length c) ∧ x.length ≤ c ∧ Kd.C Kd.string w A x.length x
section
variable {v v' : Value} {xs : List (List ByteArray)} {cells : List Value}
theorem in_nil (w W : World) (K : Nat → Prop) : InAt w K W (Value.slice none 0 0) [] [] where
  len := rfl
  row := own_nil _ _ _ _
  rk := fun k hk => by simp [Value.ownBlock] at hk
  el := fun i c hc => by simp at hc
theorem InAt.reads (h : InAt w K W v xs cells) (hb : Below w.heap.size w W) : ∃ A c, v = .slice A xs.length c ∧ xs.length ≤ c ∧ Kd.C kLL W A xs.length xs := by
  have hR : OwnRow (kLL.K W) 22 1 W w.heap.size v xs := by
    refine ⟨cells, h.row, by rw [h.len, Nat.mul_one], fun j x hj => ?_⟩
    obtain ⟨A, c, h1, h2, h3⟩ := h.el j x hj
    refine ⟨A, c, ?_, h2, Kd.C_below h3 hb⟩
    rw [Nat.mul_one]
    obtain ⟨hlt, hget⟩ := List.getElem?_eq_some_iff.1 h1
    rw [List.drop_eq_getElem_cons hlt, hget]
    rfl
  obtain ⟨A, c, h1, h2, h3⟩ := hR.reads
  exact ⟨A, c, h1, h2, h3⟩
end
end
end Go.Proofs.YtghbaehbgefpaaaGreatDoor.Fr
namespace Go.Proofs.YtghbaehbgefpaaaGreatDoor.Fr
open Go.RowKit Go.Proofs.YtghbaehbgefpaaaGreatDoor.F Go.Proofs.YtghbaehbgefpaaaGreatDoorW.PrintWords Go.Maps
open Go.Proofs.YtghbaehbgefpaaaGreatDoor.Hand (putV takeV scanV)
theorem C_one (W : World) (s : ByteArray) : Kd.C Kd.string (W.alloc (.cells #[.string s] 9)) (some ⟨W.heap.size, 0, none⟩) 1 [s] := by
  refine ⟨rfl, by decide, fun _ => ⟨_, rfl, fun j p hj => ?_⟩⟩
  have hj0 : j = 0 := by
    have := (List.getElem?_eq_some_iff.1 hj).1
    simp at this
    exact this
  subst hj0
  have hp : s = p := by simpa using hj
  subst hp
  refine ⟨[.string s], rfl, rfl, fun i u hu => ?_⟩
  have hi : i = 0 := by
    have := (List.getElem?_eq_some_iff.1 hu).1
    simp at this
    exact this
  subst hi
  have hu : Value.string s = u := by simpa using hu
  subst hu
  exact cell_box (World.alloc_heap_new W _) 0 rfl
structure StB (K : Nat → Prop) (L : List (Nat × TS)) (m : Nat) (Tm : TS) (W : World) (s p : Nat) (nm : ByteArray) (l : List ByteArray) (v : Value) (b : Nat) (D : DataW Unit) : Prop where
  sts : Sts (fun k => K k ∨ BsF s v b k) L m Tm W
  at_ : BsAt W s p nm l v b D
  off : ∀ k, BsF s v b k → ¬ K k
def StS (K : Nat → Prop) (L : List (Nat × TS)) (m : Nat) (Tm : TS) (s p : Nat) (nm : ByteArray) (l : List ByteArray) (W : World) : Prop := ∃ v b D, StB K L m Tm W s p nm l v b D
section
variable {K : Nat → Prop} {L L' : List (Nat × TS)} {m p i n s b : Nat} {T Tm Tm' : TS} {W W' : World} {nm : ByteArray} {l : List ByteArray} {v : Value} {D : DataW Unit}
theorem StB.step (h : StB K L m Tm W s p nm l v b D) (hs : Sts (fun k => K k ∨ BsF s v b k) L' m Tm' W') (hk : Kp (fun k => K k ∨ BsF s v b k) W W') : StB K L' m Tm' W' s p nm l v b D where
  sts := hs
  at_ := h.at_.kept fun k hb => hk.block (.inr hb) (h.at_.lt k hb)
  off := h.off
theorem StB.below (h : StB K L m Tm W s p nm l v b D) (hb : Below W.heap.size W W') : StB K L m Tm W' s p nm l v b D := h.step (h.sts.below hb) (Kp.of hb)
theorem StS.below (h : StS K L m Tm s p nm l W) (hb : Below W.heap.size W W') : StS K L m Tm s p nm l W' := by
  obtain ⟨v, b, D, h⟩ := h
  exact ⟨v, b, D, h.below hb⟩
theorem StB.glob (h : StB K L m Tm W s p nm l v b D) (hG : GK K W) : GK (fun k => K k ∨ BsF s v b k) W := hG.more fun k hk => .inl hk
theorem BsAt.nofile (h : BsAt W s p nm l v b D) {φ : Phi} (hF : FilesOK W φ) : ∀ q, φ q ≠ none → ¬ BsF s v b q := by
  intro q hq hb
  cases e : φ q with
  | none => exact hq e
  | some f =>
    have hc := hF q f e
    rcases hb with rfl | rfl | hb
    · rw [h.box] at hc
      have h2 := Option.some.inj hc
      injection h2 with _ h3
      exact absurd h3 (by decide)
    · obtain ⟨es, clock, hb, -⟩ := h.ids
      rw [hb] at hc
      have h2 := Option.some.inj hc
      cases h2
    · rcases h.row.2 with ⟨e2, -⟩ | ⟨g, cap, cur, e2, -, hg, -⟩
      · rw [e2] at hb
        cases hb
      · rw [e2] at hb
        obtain rfl : g = q := Option.some.inj hb
        rw [hg] at hc
        have h2 := Option.some.inj hc
        injection h2 with _ h3
        exact absurd h3 (by decide)
theorem StB.keep {t : ByteArray} (h : StB K L m Tm W s p nm l v b D) (hk : KeepEnd W s p nm l v b t W') : StS K L m Tm s p nm (l ++ [t]) W' ∧ Kp K W W' := by
  obtain ⟨v', D', h1, hc, hn⟩ := hk
  obtain ⟨φ, F, B, hs⟩ := h.sts
  refine ⟨⟨v', b, D', ⟨⟨φ, F, B, hs.chg hc (fun k e => .inr e) (h.at_.nofile hs.fl) ?_⟩, h1, ?_⟩⟩, hc.mono fun k _ e => h.off k e⟩
  · intro k hk
    rcases hk with hk | hk
    · exact .inl (.inl hk)
    · rcases hn k hk with e | e
      · exact .inl (.inr e)
      · exact .inr ⟨e, h1.lt k hk⟩
  · intro k hk e
    rcases hn k hk with e2 | e2
    · exact h.off k e2 e
    · have := h.sts.kb k (.inl e)
      omega
def IdEnd (K : Nat → Prop) (L : List (Nat × TS)) (m : Nat) (Tm : TS) (s p : Nat) (nm : ByteArray) (l : List ByteArray) (W : World) (x : Value) (e : Ending) (W' : World) : Prop :=
  e = .returned x ∧ StS K L m Tm s p nm l W' ∧ Kp K W W'
set_option maxHeartbeats 4000000 in
set_option maxRecDepth 100000 in
theorem StS.Id (h : StS K L m Tm s p nm l W) (hi : L[i]? = some (p, T)) (hG : GK K W) (hI : Inv n T) (hn : n ≤ 1000000) (hq : nm.size ≤ 99000) (t : ByteArray) (ht : t.size ≤ 100000) (hl : l.length ≤ 1000000) :
    Calls Tryz.prog 11 #[.pointer (some ⟨s, 0, none⟩), .string t] W (IdEnd K (L.set i (p, idT T nm l t)) m Tm s p nm (idL T nm l t) W (.tuple #[.int .i64 (idN T nm l t), .int .i64 (idE T nm l t)])) := by
  obtain ⟨v, b, D, h⟩ := h
  obtain ⟨c0, c1, c2, c3⟩ := h.at_.cells
  have HH := Lib.hid h
  have HG := Lib.hid (h.glob hG)
  have HI := Lib.hid hI
  have hle := idx_le l t
  by_cases h0 : idxB l t = 0
  · have HF := Lib.hid h0
    have HN : Hid (idN T nm l t = if addE T nm [t] = 0 then ((l.length + 1 : Nat) : Int) else 0) := by unfold Hid idN; rw [if_neg (fun e => e h0)]
    have HE : Hid (idE T nm l t = addE T nm [t]) := by unfold Hid idE; rw [if_neg (fun e => e h0)]
    have HL : Hid (idL T nm l t = if addE T nm [t] = 0 then l ++ [t] else l) := by unfold Hid idL; rw [if_neg (fun e => e h0)]
    have HT : Hid (idT T nm l t = addT T nm [t]) := by unfold Hid idT; rw [if_neg (fun e => e h0)]
    have HX : Hid (∀ x ∈ [t], x.size ≤ 100000) := fun x hx => by rw [List.mem_singleton.1 hx]; exact ht
    rw [HN.out, HE.out, HL.out, HT.out]
    have hfd : Hid (∀ W1, Below W.heap.size W W1 → Calls Tryz.prog 13 #[.pointer (some ⟨s, 0, none⟩), .string t] W1 fun e W' => e = .returned (.int .i64 0) ∧ Below W1.heap.size W1 W') := fun W1 hb => by
      have := find_call (h.below hb).at_ t (Nat.le_trans ht (by decide))
      rw [h0] at this
      exact this
    clear h hG hI h0 hle HN HE HL HT
    have HC1 := Lib.hid fun w1 : World => C_one w1 t
    have HNL : Hid (([t] : List ByteArray).length ≤ 1) := Nat.le_refl _
    generalize hadE : addE T nm [t] = er
    generalize hadT : addT T nm [t] = T1
    have HAD : Hid (∀ W1, Below W.heap.size W W1 → Calls Tryz.prog 23 #[.pointer (some ⟨p, 0, none⟩), .string nm, .slice (some ⟨W1.heap.size, 0, none⟩) 1 1] (W1.alloc (.cells #[.string t] 9)) (StEnd (fun k => K k ∨ BsF s v b k) (L.set i (p, T1)) m Tm (W1.alloc (.cells #[.string t] 9)) (.int .i64 er))) := fun W1 hb => by
      have hb2 := hb.trans ((newBelow W1 (.cells #[.string t] 9)).mono hb.size)
      have := (HH.out.below hb2).sts.jAdd hi ((HG.out.step (Kp.of hb2)).now) HI.out hn nm hq (some ⟨W1.heap.size, 0, none⟩) 1 [t] (HC1.out W1) (Nat.le_refl _) HX.out
      rw [hadE, hadT] at this
      exact this
    clear hadT HG HI HC1 HNL HX
    have HCD : Hid (er = 0 ∨ er ≠ 0) := by unfold Hid; omega
    clear hadE
    by_cases he : er = 0
    · subst he
      rw [if_pos rfl, if_pos rfl]
      go_enter Tryz.func11, Tryz.ntmps11
      go_upto_region 4 with (go_at_call 13; refine (hfd.out _ (Below.refl _ _)).mono ?_; rintro e w1 ⟨rfl, hb⟩; have HB := Lib.hid hb; have d0 := (hb.cell (p := ⟨s, 0, none⟩) (HH.out.at_.lt s (.inl rfl))).trans c0; have d1 := (hb.cell (p := ⟨s, 1, none⟩) (HH.out.at_.lt s (.inl rfl))).trans c1; clear hb)
      have hsl := Nat.lt_of_lt_of_le (HH.out.at_.lt s (.inl rfl)) HB.out.size
      have HAL : Hid (∀ o : Obj, (w1.drew.alloc o).cell? ⟨s, 0, none⟩ = some (.pointer (some ⟨p, 0, none⟩)) ∧ (w1.drew.alloc o).cell? ⟨s, 1, none⟩ = some (.string nm)) := fun o => ⟨((newBelow w1.drew o).cell (p := ⟨s, 0, none⟩) hsl).trans d0, ((newBelow w1.drew o).cell (p := ⟨s, 1, none⟩) hsl).trans d1⟩
      clear hsl
      go_region_held3 (fun W => W.cell? ⟨s, 0, none⟩ = some (.pointer (some ⟨p, 0, none⟩)) ∧ W.cell? ⟨s, 1, none⟩ = some (.string nm)) (first | exact ⟨HS.out.at_.cells.1, HS.out.at_.cells.2.1⟩ | exact HAL.out _ | exact ⟨d0, d1⟩) (first | (go_at_call 23; refine (HAD.out w1.drew HB.out.drew).mono ?_; rintro e w2 ⟨rfl, hs, hk⟩; have hk2 := (Kp.of (K := fun k => K k ∨ BsF s v b k) (HB.out.drew.trans ((newBelow w1.drew (.cells #[.string t] 9)).mono HB.out.size))).trans hk; have HS := Lib.hid (HH.out.step hs hk2); have HK := Lib.hid (hk2.mono (K' := K) fun k hk => .inl hk); clear hs hk hk2))
      go_wp2_with (first | (go_at_call 30; refine (keep_call HS.out.at_ t ht hl HF.out).mono ?_; rintro e w3 ⟨rfl, hk⟩; have HE := Lib.hid (HS.out.keep hk); clear hk))
      exact bodyPost_ret (v := .tuple #[.int .i64 ((l.length + 1 : Nat) : Int), .int .i64 0]) (by simp [results, Tryz.results11, go_sem]) rfl ⟨rfl, HE.out.1, HK.out.trans HE.out.2⟩
    · rw [if_neg he, if_neg he]
      go_enter Tryz.func11, Tryz.ntmps11
      go_upto_region 4 with (go_at_call 13; refine (hfd.out _ (Below.refl _ _)).mono ?_; rintro e w1 ⟨rfl, hb⟩; have HB := Lib.hid hb; have d0 := (hb.cell (p := ⟨s, 0, none⟩) (HH.out.at_.lt s (.inl rfl))).trans c0; have d1 := (hb.cell (p := ⟨s, 1, none⟩) (HH.out.at_.lt s (.inl rfl))).trans c1; clear hb)
      have hsl := Nat.lt_of_lt_of_le (HH.out.at_.lt s (.inl rfl)) HB.out.size
      have HAL : Hid (∀ o : Obj, (w1.drew.alloc o).cell? ⟨s, 0, none⟩ = some (.pointer (some ⟨p, 0, none⟩)) ∧ (w1.drew.alloc o).cell? ⟨s, 1, none⟩ = some (.string nm)) := fun o => ⟨((newBelow w1.drew o).cell (p := ⟨s, 0, none⟩) hsl).trans d0, ((newBelow w1.drew o).cell (p := ⟨s, 1, none⟩) hsl).trans d1⟩
      clear hsl
      go_region_held3 (fun W => W.cell? ⟨s, 0, none⟩ = some (.pointer (some ⟨p, 0, none⟩)) ∧ W.cell? ⟨s, 1, none⟩ = some (.string nm)) (first | exact ⟨HS.out.at_.cells.1, HS.out.at_.cells.2.1⟩ | exact HAL.out _ | exact ⟨d0, d1⟩) (first | (go_at_call 23; refine (HAD.out w1.drew HB.out.drew).mono ?_; rintro e w2 ⟨rfl, hs, hk⟩; have hk2 := (Kp.of (K := fun k => K k ∨ BsF s v b k) (HB.out.drew.trans ((newBelow w1.drew (.cells #[.string t] 9)).mono HB.out.size))).trans hk; have HS := Lib.hid (HH.out.step hs hk2); have HK := Lib.hid (hk2.mono (K' := K) fun k hk => .inl hk); clear hs hk hk2))
      go_wp2_with fail
      exact bodyPost_ret (v := .tuple #[.int .i64 0, .int .i64 er]) (by simp [results, Tryz.results11, go_sem]) rfl ⟨rfl, ⟨v, b, D, HS.out⟩, HK.out⟩
  · have HN : Hid (idN T nm l t = (idxB l t : Nat)) := by unfold Hid idN; rw [if_pos h0]
    have HE : Hid (idE T nm l t = 0) := by unfold Hid idE; rw [if_pos h0]
    have HL : Hid (idL T nm l t = l) := by unfold Hid idL; rw [if_pos h0]
    have HT : Hid (idT T nm l t = T) := by unfold Hid idT; rw [if_pos h0]
    rw [HN.out, HE.out, HL.out, HT.out]
    have hfd := Lib.hid (find_call h.at_ t (Nat.le_trans ht (by decide)))
    rw [set_same hi]
    generalize idxB l t = k at hfd h0 hle ⊢
    have h1 : 0 < k := by omega
    clear h hG hI HN HE HL HT h0
    go_enter Tryz.func11, Tryz.ntmps11
    go_wp2_with (go_at_call 13; refine hfd.out.mono ?_; rintro e w1 ⟨rfl, hb⟩; have HB := Lib.hid hb; clear hb)
    exact bodyPost_ret (v := .tuple #[.int .i64 (k : Nat), .int .i64 0]) (by simp [results, Tryz.results11, go_sem]) rfl ⟨rfl, ⟨v, b, D, HH.out.below HB.out⟩, Kp.of HB.out⟩
end
theorem at_one {w : World} {A : Option Addr} {x : ByteArray} (h : Kd.C Kd.string w A 1 [x]) : ∃ ad, A = some ad ∧ w.cell? ad = some (.string x) := by
  obtain ⟨ad, c, e, h1, h2, hc⟩ := Kd.C_get h ⟨#[]⟩ 0 (by omega) (by omega)
  have h3 : c = [.string x] := h2
  subst h3
  have := hc 0 _ rfl
  exact ⟨ad, e, this⟩
section
variable {K : Nat → Prop} {L L' : List (Nat × TS)} {m p i n s b : Nat} {T Tm Tm' : TS} {W W' : World} {nm : ByteArray} {l : List ByteArray} {v : Value} {D : DataW Unit}
theorem Sts.store (h : Sts K L m Tm W) (p : Nat) (nm : ByteArray) :
    StS K L m Tm (W.heap.size + 1) p nm [] ((W.alloc (.map #[] 0)).alloc (.cells #[.pointer (some ⟨p, 0, none⟩), .string nm, .slice none 0 0, .map (some W.heap.size)] 68)) := by
  have hb := newBelow2 W (.map #[] 0) (.cells #[.pointer (some ⟨p, 0, none⟩), .string nm, .slice none 0 0, .map (some W.heap.size)] 68)
  have hsz : ((W.alloc (.map #[] 0)).alloc (.cells #[.pointer (some ⟨p, 0, none⟩), .string nm, .slice none 0 0, .map (some W.heap.size)] 68)).heap.size = W.heap.size + 2 := by
    rw [World.size_alloc, World.size_alloc]
  have hF : ∀ k, BsF (W.heap.size + 1) (.slice none 0 0) W.heap.size k → W.heap.size ≤ k ∧ k < W.heap.size + 2 := by
    rintro k (rfl | rfl | e)
    · omega
    · omega
    · cases e
  refine ⟨.slice none 0 0, W.heap.size, .map [], ⟨h.kept hb fun k hk => hk.imp id fun e => by rw [hsz]; exact hF k e, ⟨new2 W _ _, ⟨rfl, .inl ⟨rfl, rfl⟩⟩, ?_, fun t => rfl⟩, fun k hk e => by have := h.kb k e; have := hF k hk; omega⟩⟩
  obtain ⟨es, clock, hb1, F, hs, hD⟩ := World.ownsMap_made (H := Unit) W Tryz.prog 9 (plainElem Tryz.prog 3)
  exact ⟨es, clock, (Below.heap_alloc _ _ _ (by rw [World.size_alloc]; omega)).trans hb1, F, hs, hD⟩
theorem StS.drop {K' : Nat → Prop} (h : StS K' L m Tm s p nm l W) (hK : ∀ k, K k → K' k) : StS K L m Tm s p nm l W := by
  obtain ⟨v, b, D, h⟩ := h
  exact ⟨v, b, D, ⟨h.sts.drop fun k hk => hk.imp (hK k) id, h.at_, fun k hk e => h.off k hk (hK k e)⟩⟩
def BOpenEnd (K : Nat → Prop) (L : List (Nat × TS)) (m : Nat) (Tm : TS) (p : Nat) (nm : ByteArray) (l : List ByteArray) (W : World) (e : Ending) (W' : World) : Prop :=
  ∃ s, e = .returned (.tuple #[.pointer (some ⟨s, 0, none⟩), .int .i64 0]) ∧ StS K L m Tm s p nm l W' ∧ Kp K W W'
set_option maxHeartbeats 4000000 in
set_option maxRecDepth 100000 in
theorem Sts.bOpen (h : Sts K L m Tm W) (hi : L[i]? = some (p, T)) (hG : GK K W) (hI : Inv n T) (hn : n + 4 ≤ 1000000) (hr : T.room ≤ 2000000) (nm : ByteArray) (hq : nm.size ≤ 99000)
    (he : openE T nm = 0) (l : List ByteArray) (hl : openL T nm = l.map fun x => [x]) (hd : l.Nodup) (hs : ∀ x ∈ l, x.size ≤ 100000) (hll : l.length ≤ 900000) :
    Calls Tryz.prog 10 #[.pointer (some ⟨p, 0, none⟩), .string nm] W (BOpenEnd K (L.set i (p, openT T nm)) m Tm p nm l W) := by
  have HJ := Lib.hid (h.jOpen hi hG hI hn hr nm hq)
  rw [he, hl] at HJ
  have HLM : Hid ((l.map fun x => [x]).length = l.length) := by rw [Hid, List.length_map]
  have HD : Hid (∀ (k : Nat) (hk : k < l.length), l[k] ∉ l.take k) := by
    intro k hk hm
    have h1 : (l.take k ++ l.drop k).Nodup := by rw [List.take_append_drop]; exact hd
    have h2 : l[k] ∈ l.drop k := by rw [List.drop_eq_getElem_cons hk]; exact List.mem_cons_self
    exact (List.pairwise_append.1 h1).2.2 _ hm _ h2 rfl
  have HSZ := Lib.hid hs
  generalize L.set i (p, openT T nm) = L1 at HJ ⊢
  clear h hG hI hr he hl hd hs
  have hmm := @run_makeMap Tryz.prog
  go_enter Tryz.func10, Tryz.ntmps10
  go_upto_region 4 with (go_at_call 29; refine HJ.out.mono ?_; rintro e w1 hE; obtain ⟨v, K1, rfl, hKK, hs1, hk1, hv⟩ := hE; obtain ⟨A1, n1, rfl⟩ := Kd.S_slice hv; have HKK := Lib.hid hKK; have HS1 := Lib.hid hs1; have HK1 := Lib.hid hk1; have HV := Lib.hid hv; clear hKK hs1 hk1 hv)
  have HST := Lib.hid (HS1.out.store p nm)
  have HB2 := Lib.hid (newBelow2 w1 (.map #[] 0) (.cells #[.pointer (some ⟨p, 0, none⟩), .string nm, .slice none 0 0, .map (some w1.heap.size)] 68))
  go_upto_region 5 with fail
  clear hmm
  generalize w1.heap.size + 1 = s at HST ⊢
  generalize ((w1.alloc (.map #[] 0)).alloc (.cells #[.pointer (some ⟨p, 0, none⟩), .string nm, .slice none 0 0, .map (some w1.heap.size)] 68)) = w2 at HST HB2 ⊢
  have HK2 := Lib.hid (Kp.of (K := K1) HB2.out)
  go_upto_region 6 with fail
  go_loopw [29] (fun i wr => ∃ k : Nat, k ≤ l.length ∧ i = .int .i64 k ∧ Hid (StS K1 L1 m Tm s p nm (l.take k) wr) ∧ Hid (Kp K1 w1 wr))
    (fun i _ => l.length - (intOf i).toNat)
  case atStart => exact ⟨0, Nat.zero_le _, rfl, HST, HK2⟩
  case round =>
    clear HST HK2 HB2
    obtain ⟨k, hk, rfl, HST, HK2⟩ := hrel
    by_cases hlk : k < l.length
    · obtain ⟨-, hc1, hC1⟩ := Kd.S_reads' (Kd.S_step HV.out (fun j hj hlt => HK2.out.block hj.1 hlt))
      obtain ⟨ad, Ae, ce, e, hce, hcl, hCe⟩ := at_LL hC1 (show k < (l.map fun x => [x]).length by rw [HLM.out]; exact hlk)
      subst e
      have e2 : (l.map fun x => [x])[k]'(by rw [HLM.out]; exact hlk) = [l[k]] := List.getElem_map _
      rw [e2] at hce hcl hCe
      obtain ⟨ad2, e3, hx⟩ := at_one hCe
      subst e3
      have hce : wr.cell? (ad.add k) = some (.slice (some ad2) 1 ce) := hce
      have HX : Hid (l[k].size ≤ 100000) := HSZ.out _ (List.getElem_mem hlk)
      have HI0 : Hid (idxB (l.take k) l[k] = 0) := idx_zero.2 (HD.out k hlk)
      have HTK : Hid (l.take (k + 1) = l.take k ++ [l[k]]) := List.take_succ_eq_append_getElem hlk
      generalize l[k] = x at hx HX HI0 HTK
      clear e2 hC1 hCe hc1 hcl
      obtain ⟨v, b, D, hB⟩ := HST.out
      have HBB := Lib.hid hB
      have hlook := (hB.at_.kept (W' := wr.drew) fun _ _ => rfl).look x (by have := HX.out; unfold maxLen; omega)
      rw [HI0.out] at hlook
      obtain ⟨c0, c1, c2, c3⟩ := hB.at_.cells
      clear hB
      go_upto_region 8 with fail
      have HBd := Lib.hid (HBB.out.below (Below.refl _ wr).drew)
      have HLT : Hid ((l.take k).length ≤ 1000000) := by
        have := List.length_take_le k l
        unfold Hid
        omega
      go_region
      go_wp2_with (go_at_call 30; refine (keep_call HBd.out.at_ x HX.out HLT.out HI0.out).mono ?_; rintro e w3 ⟨rfl, hk3⟩; have HE := Lib.hid (HBd.out.keep hk3); clear hk3)
      go_roundw
      case rel =>
        refine ⟨k + 1, by omega, by go_num, ?_, HK2.out.trans ((Kp.of (Below.refl _ wr).drew).trans HE.out.2)⟩
        rw [HTK.out]
        exact HE.out.1
      case measure => simp [intOf]; omega
    · obtain rfl : k = l.length := by omega
      have hS := HST.out
      rw [List.take_length] at hS
      have HS := Lib.hid hS
      clear hS
      obtain ⟨v, b, D, hB⟩ := HS.out
      have HBB := Lib.hid hB
      clear hB
      go_wp2_with (go_at_call 14; refine (len_call HBB.out.at_).mono ?_; rintro e w3 ⟨rfl, hb⟩; have HB3 := Lib.hid hb; clear hb)
      go_ret2
      exact ⟨s, rfl, StS.drop ⟨v, b, D, HBB.out.below HB3.out⟩ HKK.out, HK1.out.trans ((HK2.out.trans (Kp.of HB3.out)).mono HKK.out)⟩
end
end Go.Proofs.YtghbaehbgefpaaaGreatDoor.Fr
