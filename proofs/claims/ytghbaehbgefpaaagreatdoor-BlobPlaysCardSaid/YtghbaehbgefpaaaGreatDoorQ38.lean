import Derived.Test.YtghbaehbgefpaaaGreatDoorQ37
import Derived.Deep.AppendLies
import Derived.Deep.RegionHeld3
/- Several texts of this session in one: the walks of the functions that the laws reach, and what they tell. -/
set_option linter.unusedVariables false
set_option linter.unusedSimpArgs false
namespace Go.Proofs.YtghbaehbgefpaaaGreatDoor.Fr
open Go.RowKit Go.Proofs.YtghbaehbgefpaaaGreatDoor.F Go.Proofs.YtghbaehbgefpaaaGreatDoorW.PrintWords Go.Maps
open Go.Proofs.YtghbaehbgefpaaaGreatDoor.Hand (putV takeV scanV)
structure RoAt (w1 W : World) (r m : Nat) (nm : ByteArray) (acc : List ByteArray) (vk : Value) (xs : List (List ByteArray)) (cells : List Value) : Prop where
  bel : Below w1.heap.size w1 W
  st : ∃ v, RsAt W r m nm acc v ∧ ∀ k, RsF r v k → w1.heap.size ≤ k
  rows : InAt w1 (fun k => w1.heap.size ≤ k) W vk xs cells
section
variable {w1 W w9 : World} {r m : Nat} {nm : ByteArray} {acc : List ByteArray} {vk v v9 : Value} {xs : List (List ByteArray)} {cells : List Value}
theorem RoAt.apart (h : InAt w1 (fun k => w1.heap.size ≤ k) W vk xs cells) (hv : RsAt W r m nm acc v) : ∀ k, vk.ownBlock = some k → ¬ RsF r v k := fun k hk e => by
  obtain ⟨cs, hcs⟩ := own_typed h.row k hk
  rcases e with rfl | e
  · have hb := hv.box
    rw [hcs] at hb
    have h2 := Option.some.inj hb
    injection h2 with _ h3
    exact absurd h3 (by decide)
  · obtain ⟨cs2, hcs2⟩ := own_typed hv.row k e
    rw [hcs] at hcs2
    have h2 := Option.some.inj hcs2
    injection h2 with _ h3
    exact absurd h3 (by decide)
theorem RoAt.push {t : ByteArray} {o : Obj} (h : RoAt w1 W r m nm acc vk xs cells) (hv : RsAt W r m nm acc v) (hvk : ∀ k, RsF r v k → w1.heap.size ≤ k)
    (h1 : w9.ownsRow 0 9 1 v9 (acc.length + 1) (strV acc ++ [.string t])) (h2 : (W.alloc o).grownBy w9 v.ownBlock) (h4 : v9.ownBlock = v.ownBlock ∨ v9.ownBlock = some (W.alloc o).heap.size) :
    RoAt w1 (w9.setCell ⟨r, 2, none⟩ v9) r m nm (acc ++ [t]) vk xs cells ∧ w9.heap[r]? = some (.cells #[.pointer (some ⟨m, 0, none⟩), .string nm, v] 57 (0, 0)) := by
  have hrl := hv.lt r (.inl rfl)
  have hsz : (W.alloc o).heap.size = W.heap.size + 1 := World.size_alloc W o
  have hblk : ∀ k, k < W.heap.size → v.ownBlock ≠ some k → w9.heap[k]? = W.heap[k]? := fun k hk hn => (h2.block k (by omega) (fun e => hn e.symm)).trans (Below.heap_alloc W o k hk)
  have hbx : w9.heap[r]? = _ := (hblk r hrl fun e => hv.row_ne e rfl).trans hv.box
  have hle := h.bel.size
  have hv9 : ∀ k, v9.ownBlock = some k → k ≠ r ∧ w1.heap.size ≤ k := by
    intro k hk
    rcases h4 with h4 | h4
    · rw [h4] at hk
      exact ⟨hv.row_ne hk, hvk k (.inr hk)⟩
    · rw [h4] at hk
      have := Option.some.inj hk
      omega
  have hC : Chg (fun k => RsF r v k) W (w9.setCell ⟨r, 2, none⟩ v9) := (((Chg.refl _ W).alloc o).grown h2 fun k e _ => .inr e).setCell (p := ⟨r, 2, none⟩) (fun _ => .inl rfl) _
  refine ⟨⟨h.bel.trans (hC.to_below hle fun k e => hvk k e), ⟨v9, ⟨?_, ?_⟩, fun k hk => ?_⟩, ⟨h.rows.len, ?_, h.rows.rk, h.rows.el⟩⟩, hbx⟩
  · rw [heap_setCell_same w9 r 2 _ _ _ hbx]
    rfl
  · rw [List.length_append, str_app]
    exact ownsRow_block h1 fun k hk => heap_setCell_other w9 ⟨r, 2, none⟩ k v9 (hv9 k hk).1
  · rcases hk with rfl | hk
    · exact hvk _ (.inl rfl)
    · exact (hv9 k hk).2
  · exact ownsRow_block h.rows.row fun k hk => hC.block k (own_lt h.rows.row k hk) (RoAt.apart h.rows hv k hk)
theorem RoAt.more {A' : Option Addr} {c' : Nat} {x : List ByteArray} (h : RoAt w1 W r m nm acc vk xs cells) (hx : x.length ≤ c') (hC : Kd.C Kd.string w1 A' x.length x)
    (h1 : w9.ownsRow w1.heap.size 22 1 v9 (xs.length + 1) (cells ++ [.slice A' x.length c'])) (h2 : (W.alloc (.cells #[.slice A' x.length c'] 22)).grownBy w9 vk.ownBlock)
    (h4 : v9.ownBlock = vk.ownBlock ∨ v9.ownBlock = some (W.alloc (.cells #[.slice A' x.length c'] 22)).heap.size) :
    RoAt w1 w9 r m nm acc v9 (xs ++ [x]) (cells ++ [.slice A' x.length c']) := by
  have hle := h.bel.size
  have hC1 : Chg (fun k => vk.ownBlock = some k) W w9 := (Chg.of_below (newBelow _ _) _).grown h2 fun k e _ => e
  have hlen := h.rows.len
  refine ⟨h.bel.trans (hC1.to_below hle fun k e => h.rows.rk k e), ?_, ⟨?_, ?_, ?_, ?_⟩⟩
  · obtain ⟨v, hv, hvk⟩ := h.st
    exact ⟨v, hv.kept fun k hk => hC1.block k (hv.lt k hk) fun e => RoAt.apart h.rows hv k e hk, hvk⟩
  · rw [List.length_append, List.length_append, hlen]
    rfl
  · rw [List.length_append]
    exact h1
  · intro k hk
    rcases h4 with e | e
    · rw [e] at hk
      exact h.rows.rk k hk
    · rw [e, World.size_alloc] at hk
      have hk := Option.some.inj hk
      show w1.heap.size ≤ k
      omega
  · intro i y hy
    by_cases hi : i < xs.length
    · rw [List.getElem?_append_left hi] at hy
      obtain ⟨A, c, e1, e2, e3⟩ := h.rows.el i y hy
      exact ⟨A, c, by rw [List.getElem?_append_left (by rw [hlen]; exact hi)]; exact e1, e2, e3⟩
    · have hin : i = xs.length := by
        have := (List.getElem?_eq_some_iff.1 hy).1
        rw [List.length_append, List.length_singleton] at this
        omega
      subst hin
      rw [List.getElem?_append_right (Nat.le_refl _), Nat.sub_self] at hy
      have hy : x = y := by simpa using hy
      subst hy
      exact ⟨A', c', by rw [List.getElem?_append_right (by rw [hlen]; exact Nat.le_refl _), hlen, Nat.sub_self]; rfl, hx, hC⟩
end
section
variable {K K1 : Nat → Prop} {L : List (Nat × TS)} {m n r : Nat} {Tm T1 : TS} {W w1 W' : World} {nm : ByteArray} {l acc : List ByteArray} {vk v : Value} {xs : List (List ByteArray)} {cells : List Value}
theorem ro_start (w1 : World) (m : Nat) (nm : ByteArray) : RoAt w1 (w1.alloc (.cells #[.pointer (some ⟨m, 0, none⟩), .string nm, .slice none 0 0] 57)) w1.heap.size m nm [] (.slice none 0 0) [] [] where
  bel := newBelow _ _
  st := ⟨.slice none 0 0, ⟨World.alloc_heap_new w1 _, ⟨rfl, .inl ⟨rfl, rfl⟩⟩⟩, fun k hk => by
    rcases hk with rfl | hk
    · exact Nat.le_refl _
    · cases hk⟩
  rows := in_nil _ _ _
theorem RoAt.sts (h : RoAt w1 W r m nm acc vk xs cells) (hs : Sts K1 L m T1 w1) (hK : ∀ k, K k → K1 k) : ∃ v, RsB K1 L m T1 W r nm acc v := by
  obtain ⟨v, hv, hvk⟩ := h.st
  exact ⟨v, hs.kept h.bel fun k hk => hk.imp id fun e => ⟨hvk k e, hv.lt k e⟩, hv, fun k hk e => by have := hs.kb k e; have := hvk k hk; omega⟩
def ROp2 (K : Nat → Prop) (L : List (Nat × TS)) (m : Nat) (Tm : TS) (nm : ByteArray) (l : List ByteArray) (er : Int) (W : World) (e : Ending) (W' : World) : Prop :=
  (er = 0 ∧ ∃ r, e = .returned (.tuple #[.pointer (some ⟨r, 0, none⟩), .int .i64 0]) ∧ RsS K L m Tm r nm l W' ∧ Kp K W W') ∨ (er ≠ 0 ∧ e = .returned (.tuple #[.pointer none, .int .i64 er]) ∧ Sts K L m Tm W' ∧ Kp K W W')
set_option maxHeartbeats 16000000 in
set_option maxRecDepth 100000 in
theorem Sts.rbOpen (h : Sts K L m Tm W) (hI : Inv n Tm) (hn : n + 8 ≤ 1000000) (hr : Tm.room ≤ 90000) (nm : ByteArray) (hq : nm.size ≤ 99000) :
    Calls Tryz.prog 19 #[.pointer (some ⟨m, 0, none⟩), .string nm] W (ROp2 K L m (bOpT Tm nm) nm (keptL [] (openL Tm nm)) (bOpE Tm nm) W) := by
  have HJ := Lib.hid (h.rjOpen hI (by omega) hr nm hq)
  have HAL := Lib.hid (openL_ok hI (by omega) nm)
  have HMN := Lib.hid (openL_many hI (by omega) nm)
  have HI1 := Lib.hid (inv_open hI nm (by omega))
  have hcode := open_code Tm nm
  have HE0 : Hid (bOpE Tm nm = if openE Tm nm = 0 then (if (keptL [] (openL Tm nm)).length < (openL Tm nm).length then anewE (openT Tm nm) nm ((openL Tm nm).take (keptL [] (openL Tm nm)).length) else 0) else openE Tm nm) := rfl
  have HT0 : Hid (bOpT Tm nm = if openE Tm nm = 0 then (if (keptL [] (openL Tm nm)).length < (openL Tm nm).length then anewT (openT Tm nm) nm ((openL Tm nm).take (keptL [] (openL Tm nm)).length) else openT Tm nm) else openT Tm nm) := rfl
  generalize bOpE Tm nm = EE at HE0 ⊢
  generalize bOpT Tm nm = TT at HT0 ⊢
  generalize openT Tm nm = T1 at HJ HI1 HE0 HT0
  generalize openE Tm nm = eo at HJ hcode HE0 HT0
  generalize openL Tm nm = all at HJ HAL HMN HE0 HT0 ⊢
  clear h hI hr
  rcases hcode with rfl | hcode
  · have HE1 : Hid (EE = if (keptL [] all).length < all.length then anewE T1 nm (all.take (keptL [] all).length) else 0) := HE0.out.trans (if_pos rfl)
    have HT1 : Hid (TT = if (keptL [] all).length < all.length then anewT T1 nm (all.take (keptL [] all).length) else T1) := HT0.out.trans (if_pos rfl)
    clear HE0 HT0
    obtain ⟨F, hF⟩ : ∃ F, keptL [] all = F := ⟨_, rfl⟩
    rw [hF] at HE1 HT1 ⊢
    have HF := Lib.hid hF
    clear hF
    obtain ⟨i0, hi, hz0, hz1, hz2⟩ := info_parts Hand.infoStr2
    obtain ⟨j0, hj, hy0, hy1, hy2⟩ := info_parts Hand.info23
    go_enter Tryz.func19, Tryz.ntmps19
    go_upto_region 4 with (go_at_call 34; refine HJ.out.mono ?_; rintro e w1 hE; obtain ⟨v, K1, rfl, hKK, hs1, hk1, hv⟩ := hE; obtain ⟨A1, n1, rfl⟩ := Kd.S_slice hv; have HKK := Lib.hid hKK; have HS1 := Lib.hid hs1; have HK1 := Lib.hid hk1; have HV := Lib.hid (Kd.S_reads' hv).2; clear hKK hs1 hk1 hv)
    have HST := Lib.hid (ro_start w1 m nm)
    go_upto_region 5 with fail
    obtain ⟨r, hr9⟩ : ∃ r, w1.heap.size = r := ⟨_, rfl⟩
    have HST2 : Hid (RoAt w1 (w1.alloc (.cells #[.pointer (some ⟨m, 0, none⟩), .string nm, .slice none 0 0] 57)) r m nm [] (.slice none 0 0) [] []) := by rw [← hr9]; exact HST.out
    clear HST
    try rw [hr9]
    generalize w1.alloc (.cells #[.pointer (some ⟨m, 0, none⟩), .string nm, .slice none 0 0] 57) = w2 at HST2 ⊢
    clear hr9
    go_upto_region 7 with fail
    go_loopw [9, 10] (fun kv i0 wr => ∃ (k : Nat) (acc : List ByteArray) (Av : Option Addr) (cv : Nat) (cells : List Value), k ≤ all.length ∧ kv = .slice Av k cv ∧ i0 = .int .i64 k ∧ Hid (RoAt w1 wr r m nm acc (.slice Av k cv) (all.take k) cells) ∧ Hid (acc.length = k ∧ keptL acc (all.drop k) = F))
      (fun _ i0 _ => all.length - (intOf i0).toNat)
    case atStart => exact ⟨0, [], none, 0, [], Nat.zero_le _, rfl, rfl, HST2.out, rfl, HF.out⟩
    case round =>
      clear HST2
      obtain ⟨k, acc, Av, cv, cells, hk, rfl, rfl, HRO, HA⟩ := hrel
      by_cases hlk : k < all.length
      · obtain ⟨hc1, hC1⟩ := HV.out
        obtain ⟨ad, Ae, ce, e, hce0, hcl, hCe⟩ := at_LL hC1 hlk
        subst e
        have hce := (HRO.out.bel.cell (p := ad.add k) (cell_lt hce0)).trans hce0
        have HDR : Hid (all.drop k = all[k] :: all.drop (k + 1)) := List.drop_eq_getElem_cons hlk
        have HTK : Hid (all.take (k + 1) = all.take k ++ [all[k]]) := List.take_succ_eq_append_getElem hlk
        have HSM := Lib.hid (HAL.out.small _ (List.getElem_mem hlk))
        generalize all[k] = x at hce hce0 hcl hCe HDR HTK HSM
        have hkm : k ≤ 900001 := by have := HMN.out; omega
        have HCE := Lib.hid hCe
        clear hC1 hCe
        by_cases hx1 : x.length = 1
        · obtain ⟨y, rfl⟩ : ∃ y, x = [y] := by
            cases x with
            | nil => cases hx1
            | cons y t =>
              cases t with
              | nil => exact ⟨y, rfl⟩
              | cons _ _ => simp at hx1
          obtain ⟨ad2, e3, hx0⟩ := at_one HCE.out
          subst e3
          have hce0 : w1.cell? (ad.add k) = some (.slice (some ad2) 1 ce) := hce0
          have hce : wr.cell? (ad.add k) = some (.slice (some ad2) 1 ce) := hce
          have hx := (HRO.out.bel.cell (p := ad2) (cell_lt hx0)).trans hx0
          have HX : Hid (y.size ≤ 100000) := HSM.out y (List.mem_cons_self ..)
          have HKE : Hid ((if idxB acc y = 0 then keptL (acc ++ [y]) (all.drop (k + 1)) else acc) = F) := by
            rw [Hid, ← HA.out.2, HDR.out, keptL_one]
          obtain ⟨v, hv, hvk⟩ := HRO.out.st
          have hfd := rb_find hv y (by rw [HA.out.1]; omega)
          obtain ⟨Aa, na, rfl⟩ := hv.slice
          obtain ⟨c0, c1, c2⟩ := hv.cells
          have HRV := Lib.hid hv
          have HRK := Lib.hid hvk
          clear hx1 hv hvk
          have hal : acc.length ≤ 900001 := by rw [HA.out.1]; omega
          by_cases hz : idxB acc y = 0
          · rw [hz] at hfd
            have HFD := Lib.hid hfd
            rw [if_pos hz] at HKE
            clear hz hfd
            go_upto_region 10 with (go_at_call 26; refine HFD.out.mono ?_; rintro e wr ⟨rfl, rfl⟩)
            have had := cell_lt hce0
            have had2 := cell_lt hx0
            have HALO : Hid (∀ o : Obj, (wr.drew.alloc o).cell? ⟨r, 2, none⟩ = some (.slice Aa acc.length na) ∧ (wr.drew.alloc o).cell? (ad.add k) = some (.slice (some ad2) 1 ce) ∧ (wr.drew.alloc o).cell? ad2 = some (.string y)) := fun o => by
              have hb := newBelow wr.drew o
              have hle := HRO.out.bel.size
              exact ⟨(hb.cell (p := ⟨r, 2, none⟩) (HRV.out.lt r (.inl rfl))).trans c2, (hb.cell (p := ad.add k) (Nat.lt_of_lt_of_le had hle)).trans hce, (hb.cell (p := ad2) (Nat.lt_of_lt_of_le had2 hle)).trans hx⟩
            have HRW := Lib.hid (HRV.out.row.alloc (.cells #[.string y] 9))
            have HNW := Lib.hid (newS wr.drew (.string y))
            have HONE : Hid (∀ u ∈ [Value.string y], u.oneCell' = true) := fun u hu => by rw [List.mem_singleton.1 hu]; rfl
            have H63 : Hid (acc.length + 1 ≤ maxLen) := by unfold Hid maxLen; omega
            have HBY : Hid ((acc.length + 1) * 16 ≤ 140737488355328) := by unfold Hid; omega
            have HROd : Hid (RoAt w1 wr.drew r m nm acc (.slice Av k cv) (all.take k) cells) := by obtain ⟨v0, g1, g2⟩ := HRO.out.st; exact ⟨HRO.out.bel.drew, ⟨v0, ⟨g1.box, g1.row⟩, g2⟩, ⟨HRO.out.rows.len, HRO.out.rows.row, HRO.out.rows.rk, HRO.out.rows.el⟩⟩
            have HRVd : Hid (RsAt wr.drew r m nm acc (.slice Aa acc.length na)) := ⟨HRV.out.box, HRV.out.row⟩
            have HPSH : Hid (∀ (v9 : Value) (w9 : World), w9.ownsRow 0 9 1 v9 (acc.length + 1) (strV acc ++ [.string y]) → (wr.drew.alloc (.cells #[.string y] 9)).grownBy w9 (Value.slice Aa acc.length na).ownBlock → (v9.ownBlock = (Value.slice Aa acc.length na).ownBlock ∨ v9.ownBlock = some (wr.drew.alloc (.cells #[.string y] 9)).heap.size) →
                RoAt w1 (w9.setCell ⟨r, 2, none⟩ v9) r m nm (acc ++ [y]) (.slice Av k cv) (all.take k) cells ∧ w9.cell? ⟨r, 2, none⟩ = some (.slice Aa acc.length na) ∧ w9.frozen? ⟨r, 2, none⟩ = false ∧ (w9.cell? (ad.add k) = some (.slice (some ad2) 1 ce) ∧ w9.cell? ad2 = some (.string y)) ∧ ((w9.setCell ⟨r, 2, none⟩ v9).cell? (ad.add k) = some (.slice (some ad2) 1 ce) ∧ (w9.setCell ⟨r, 2, none⟩ v9).cell? ad2 = some (.string y))) := fun v9 w9 h1 h2 h4 => by
              obtain ⟨g1, g2⟩ := HROd.out.push HRVd.out HRK.out h1 h2 h4
              have hle := HRO.out.bel.size
              have hsz : (wr.drew.alloc (.cells #[.string y] 9)).heap.size = wr.heap.size + 1 := World.size_alloc wr.drew _
              have hblk : ∀ q, q < w1.heap.size → w9.heap[q]? = (wr.drew.alloc (.cells #[.string y] 9)).heap[q]? := fun q hq => h2.block q (by omega) fun e => by
                have := HRK.out q (.inr e.symm)
                omega
              have hcell : ∀ (x : Addr) (u : Value), x.block < w1.heap.size → (wr.drew.alloc (.cells #[.string y] 9)).cell? x = some u → w9.cell? x = some u := fun x u hx h => by
                rw [← h]
                simp [World.cell?, hblk x.block hx]
              have hx1 := hcell _ _ had (HALO.out _).2.1
              have hx2 := hcell _ _ had2 (HALO.out _).2.2
              have hr1 := HRK.out r (.inl rfl)
              have hst : ∀ (x : Addr) (u : Value), x.block < w1.heap.size → w9.cell? x = some u → (w9.setCell ⟨r, 2, none⟩ v9).cell? x = some u := fun x u hx h => by
                rw [← h]
                simp only [World.cell?, heap_setCell_other w9 ⟨r, 2, none⟩ x.block v9 (show x.block ≠ r by omega)]
              exact ⟨g1, cell_box g2 2 rfl, (by simp [World.frozen?, g2]), ⟨hx1, hx2⟩, hst _ _ had hx1, hst _ _ had2 hx2⟩
            have HSZ1 : Hid ((wr.drew.alloc (.cells #[.string y] 9)).heap.size = wr.heap.size + 1) := World.size_alloc wr.drew _
            obtain ⟨ha1, -⟩ := HALO.out (.cells #[.string y] 9)
            have cd1 : wr.drew.cell? ⟨r, 2, none⟩ = some (.slice Aa acc.length na) := c2
            obtain ⟨ha2, ha3⟩ := (HALO.out (.cells #[.string y] 9)).2
            obtain ⟨hb1, hb2, hb3⟩ : (wr.alloc (.cells #[.string y] 9)).drew.cell? ⟨r, 2, none⟩ = some (.slice Aa acc.length na) ∧ (wr.alloc (.cells #[.string y] 9)).drew.cell? (ad.add k) = some (.slice (some ad2) 1 ce) ∧ (wr.alloc (.cells #[.string y] 9)).drew.cell? ad2 = some (.string y) := HALO.out _
            go_region_law (first
              | (refine step_append_lies _ rfl (.tmp 52) (.tmp 59) 22 rfl 0 9 i0 _ 1 16 Tryz.underlying22 hi hz0 hz1 hz2 rfl (by decide) (.slice Aa acc.length na) acc.length (strV acc) (by simp [Act.eval, Act.put]) HRW.out ⟨wr.heap.size, 0, none⟩ 1 1 [.string y] (by simp [Act.eval, Act.put]) rfl HNW.out HONE.out (by decide) H63.out HBY.out (Nat.zero_le _) (wr.heap.size + 1) HSZ1.out ?_; intro g9 n9 w9 h1 h2 h4 h5; obtain ⟨g1, d2, f2, d3, d5⟩ := HPSH.out _ _ h1 h2 (h4.elim (fun e => .inl e.symm) fun e => .inr (by show some g9 = _; rw [e, HSZ1.out])); have HRO9 := Lib.hid g1; clear h1 h2 h4 h5 g1))
            all_goals
              have hce9 : (w9.setCell ⟨r, 2, none⟩ (.slice (some ⟨g9, 0, none⟩) (acc.length + 1) n9)).cell? (ad.add k) = some (.slice (some ad2) 1 ce) := d5.1
              generalize w9.setCell ⟨r, 2, none⟩ (.slice (some ⟨g9, 0, none⟩) (acc.length + 1) n9) = wa at HRO9 hce9 ⊢
              clear d2 f2 d3 d5 ha1 ha2 ha3 hb1 hb2 hb3 cd1 c0 c1 c2 hce hx
              have HRWk := Lib.hid (HRO9.out.rows.row.alloc (.cells #[.slice (some ad2) 1 ce] 22))
              have HNWk : Hid (∀ (j : Nat) u, [Value.slice (some ad2) 1 ce][j]? = some u → (wa.alloc (.cells #[.slice (some ad2) 1 ce] 22)).cell? ((⟨wa.heap.size, 0, none⟩ : Addr).add j) = some u) := World.news_of_block (World.alloc_heap_new wa _)
              have HONEk : Hid (∀ u ∈ [Value.slice (some ad2) 1 ce], u.oneCell' = true) := fun u hu => by rw [List.mem_singleton.1 hu]; rfl
              have HTL : Hid ((all.take k).length = k) := List.length_take_of_le (Nat.le_of_lt hlk)
              have H63k : Hid ((all.take k).length + 1 ≤ maxLen) := by rw [HTL.out]; unfold Hid maxLen; omega
              have HBYk : Hid (((all.take k).length + 1) * 24 ≤ 140737488355328) := by rw [HTL.out]; unfold Hid; omega
              have HBAk : Hid (w1.heap.size ≤ (wa.alloc (.cells #[.slice (some ad2) 1 ce] 22)).heap.size) := by rw [Hid, World.size_alloc]; exact Nat.le_succ_of_le HRO9.out.bel.size
              go_wp2_with (first
                | (at_builtin; refine wpList_append_own_at _ rfl _ _ 63 rfl w1.heap.size 22 j0 _ 1 24 Tryz.underlying63 hj hy0 hy1 hy2 rfl (by decide) (.slice Av k cv) (all.take k).length cells rfl HRWk.out ⟨wa.heap.size, 0, none⟩ 1 1 [.slice (some ad2) 1 ce] rfl rfl HNWk.out HONEk.out H63k.out HBYk.out HBAk.out ?_; intro v7 w7 h1 h2 h3 h4; have hm := HRO9.out.more (x := [y]) hcl HCE.out h1 h2 h4; obtain ⟨A7, n7, rfl⟩ : ∃ A7 n7, v7 = .slice A7 (k + 1) n7 := (by obtain ⟨A7, n7, e⟩ := own_sl h1; rw [HTL.out] at e; exact ⟨A7, n7, e⟩); have HRO7 := Lib.hid hm; clear h1 h2 h3 h4 hm))
              go_roundw
              case rel => exact ⟨k + 1, acc ++ [y], A7, n7, _, by omega, rfl, by go_num, by rw [HTK.out]; exact HRO7.out, by rw [List.length_append, HA.out.1]; rfl, HKE.out⟩
              case measure => simp [intOf]; omega
          · rw [if_neg hz] at HKE
            have hz0 : 0 < idxB acc y := by omega
            have HFD := Lib.hid hfd
            generalize idxB acc y = nn at hz0 HFD hz
            have hgt : decide ((0 : Int) < (nn : Int)) = true := decide_eq_true (by omega)
            clear hz hfd
            go_upto_region 12 with (go_at_call 26; refine HFD.out.mono ?_; rintro e wr ⟨rfl, rfl⟩)
            clear hgt HFD c0 c1 c2 hx hce
            have HFL : Hid (F.length = k) := by rw [Hid, ← HKE.out]; exact HA.out.1
            have HEk : Hid (EE = anewE T1 nm (all.take k)) := by rw [Hid, HE1.out, HFL.out]; exact if_pos hlk
            have HTk : Hid (TT = anewT T1 nm (all.take k)) := by rw [Hid, HT1.out, HFL.out]; exact if_pos hlk
            have HTL : Hid ((all.take k).length = k) := List.length_take_of_le (Nat.le_of_lt hlk)
            obtain ⟨v3, hB⟩ := HRO.out.sts HS1.out HKK.out
            obtain ⟨Ax, cx, ex, hcx, hCx⟩ := HRO.out.rows.reads HRO.out.bel
            injection ex with ex1 ex2 ex3
            subst ex1 ex3
            have han := hB.sts.rjAnew HI1.out (by omega) nm hq Av cv (all.take k) hCx (HAL.out.take k)
            have hcode := anew_code T1 nm (all.take k)
            rw [HTL.out] at han
            rw [← HEk.out] at han hcode
            rw [← HTk.out] at han
            have HA9 := Lib.hid han
            have HB9 := Lib.hid hB
            have HBE := Lib.hid (Kp.of (K := K1) HRO.out.bel)
            clear han HEk HTk HFL hB hcx hCx ex2
            have hdk : decide ((k : Int) < (all.length : Int)) = true := decide_eq_true (by omega)
            rcases hcode with rfl | hcode
            · go_wp2_with (first
                | (go_at_call 35; refine HA9.out.mono ?_; rintro e w4 ⟨rfl, hs4, hk4⟩; have HS4 := Lib.hid (HB9.out.step hs4 hk4); have HK4 := Lib.hid (HBE.out.trans (hk4.mono fun k hk => .inl hk)); clear hs4 hk4))
              go_ret2
              exact .inl ⟨rfl, r, rfl, by rw [← HKE.out]; exact RsS.drop ⟨v3, HS4.out⟩ HKK.out, HK1.out.trans (HK4.out.mono HKK.out)⟩
            · rcases hcode with rfl | rfl | rfl | rfl | rfl
              all_goals
                go_wp2_with (first
                  | (go_at_call 35; refine HA9.out.mono ?_; rintro e w4 ⟨rfl, hs4, hk4⟩; have HS4 := Lib.hid (HB9.out.step hs4 hk4); have HK4 := Lib.hid (HBE.out.trans (hk4.mono fun k hk => .inl hk)); clear hs4 hk4))
                go_ret2
                exact .inr ⟨by decide, rfl, (RsS.sts ⟨v3, HS4.out⟩).drop HKK.out, HK1.out.trans (HK4.out.mono HKK.out)⟩
        · have HKE : Hid (acc = F) := by rw [Hid, ← HA.out.2, HDR.out, keptL_other _ _ _ hx1]
          have hq1 : ((x.length : Int) == 1) = false := beq_eq_false_iff_ne.2 (by omega)
          have hq2 : ((x.length : Int) != 1) = true := bne_iff_ne.2 (by omega)
          go_upto_region 12 with fail
          clear hq1 hq2 hce
          have HFL : Hid (F.length = k) := by rw [Hid, ← HKE.out]; exact HA.out.1
          have HEk : Hid (EE = anewE T1 nm (all.take k)) := by rw [Hid, HE1.out, HFL.out]; exact if_pos hlk
          have HTk : Hid (TT = anewT T1 nm (all.take k)) := by rw [Hid, HT1.out, HFL.out]; exact if_pos hlk
          have HTL : Hid ((all.take k).length = k) := List.length_take_of_le (Nat.le_of_lt hlk)
          obtain ⟨v3, hB⟩ := HRO.out.sts HS1.out HKK.out
          obtain ⟨Ax, cx, ex, hcx, hCx⟩ := HRO.out.rows.reads HRO.out.bel
          injection ex with ex1 ex2 ex3
          subst ex1 ex3
          have han := hB.sts.rjAnew HI1.out (by omega) nm hq Av cv (all.take k) hCx (HAL.out.take k)
          have hcode := anew_code T1 nm (all.take k)
          rw [HTL.out] at han
          rw [← HEk.out] at han hcode
          rw [← HTk.out] at han
          have HA9 := Lib.hid han
          have HB9 := Lib.hid hB
          have HBE := Lib.hid (Kp.of (K := K1) HRO.out.bel)
          clear han HEk HTk HFL hB hcx hCx ex2
          have hdk : decide ((k : Int) < (all.length : Int)) = true := decide_eq_true (by omega)
          rcases hcode with rfl | hcode
          · go_wp2_with (first
              | (go_at_call 35; refine HA9.out.mono ?_; rintro e w4 ⟨rfl, hs4, hk4⟩; have HS4 := Lib.hid (HB9.out.step hs4 hk4); have HK4 := Lib.hid (HBE.out.trans (hk4.mono fun k hk => .inl hk)); clear hs4 hk4))
            go_ret2
            exact .inl ⟨rfl, r, rfl, by rw [← HKE.out]; exact RsS.drop ⟨v3, HS4.out⟩ HKK.out, HK1.out.trans (HK4.out.mono HKK.out)⟩
          · rcases hcode with rfl | rfl | rfl | rfl | rfl
            all_goals
              go_wp2_with (first
                | (go_at_call 35; refine HA9.out.mono ?_; rintro e w4 ⟨rfl, hs4, hk4⟩; have HS4 := Lib.hid (HB9.out.step hs4 hk4); have HK4 := Lib.hid (HBE.out.trans (hk4.mono fun k hk => .inl hk)); clear hs4 hk4))
              go_ret2
              exact .inr ⟨by decide, rfl, (RsS.sts ⟨v3, HS4.out⟩).drop HKK.out, HK1.out.trans (HK4.out.mono HKK.out)⟩
      · obtain rfl : k = all.length := by omega
        have HKE : Hid (acc = F) := by
          have := HA.out.2
          rw [List.drop_length] at this
          exact this
        have HFL : Hid (F.length = all.length) := by rw [Hid, ← HKE.out]; exact HA.out.1
        have hee : EE = 0 := by rw [HE1.out, HFL.out]; exact if_neg (Nat.lt_irrefl _)
        have htt : TT = T1 := by rw [HT1.out, HFL.out]; exact if_neg (Nat.lt_irrefl _)
        obtain ⟨v3, hB⟩ := HRO.out.sts HS1.out HKK.out
        have HB9 := Lib.hid hB
        have HBE := Lib.hid (Kp.of (K := K1) HRO.out.bel)
        subst hee
        subst htt
        clear hB HFL HE1 HT1
        go_wp2_with fail
        go_ret2
        exact .inl ⟨rfl, r, rfl, by rw [← HKE.out]; exact RsS.drop ⟨v3, HB9.out⟩ HKK.out, HK1.out.trans (HBE.out.mono HKK.out)⟩
  · have hee : EE = eo := HE0.out.trans (if_neg (by omega))
    have htt : TT = T1 := HT0.out.trans (if_neg (by omega))
    subst hee
    subst htt
    clear HE0 HT0
    rcases hcode with rfl | rfl | rfl | rfl | rfl
    all_goals
      go_enter Tryz.func19, Tryz.ntmps19
      go_wp2_with (go_at_call 34; refine HJ.out.mono ?_; rintro e w1 hE; obtain ⟨v, K1, rfl, hKK, hs1, hk1, hv⟩ := hE; obtain ⟨A1, n1, rfl⟩ := Kd.S_slice hv; have HKK := Lib.hid hKK; have HS1 := Lib.hid hs1; have HK1 := Lib.hid hk1; clear hKK hs1 hk1 hv)
      go_ret2
      exact .inr ⟨by decide, rfl, HS1.out.drop HKK.out, HK1.out⟩
end
end Go.Proofs.YtghbaehbgefpaaaGreatDoor.Fr
