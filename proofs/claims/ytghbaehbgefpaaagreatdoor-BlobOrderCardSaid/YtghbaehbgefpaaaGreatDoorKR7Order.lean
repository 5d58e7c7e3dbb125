import Derived.Test.YtghbaehbgefpaaaGreatDoorKR7Again
import Derived.Test.YtghbaehbgefpaaaGreatDoorQC
/- BlobOrder. -/
namespace Go.Proofs.YtghbaehbgefpaaaGreatDoor.Fr
open Go.RowKit Go.Proofs.YtghbaehbgefpaaaGreatDoor.F Go.Proofs.YtghbaehbgefpaaaGreatDoorW.PrintWords Go.Maps
open Go.Proofs.YtghbaehbgefpaaaGreatDoor.Hand (putV takeV scanV)
set_option linter.unusedVariables false
set_option linter.unusedSimpArgs false
theorem tl_eq7 {a b : ByteArray} : a.toList = b.toList ↔ a = b := ⟨fun h => ba_eq (by rw [← ByteArray.toList_eq, ← ByteArray.toList_eq]; exact h), fun h => by rw [h]⟩
section
variable {w : World}
set_option maxHeartbeats 8000000 in
set_option maxRecDepth 100000 in
theorem R_BlobOrder (hG : Hand2.Glob w) (A : Option Addr) (c : Nat) (l : List ByteArray) (hA : Kd.C Kd.string w A l.length l) (hcA : l.length ≤ c) (C : Option Addr) (d : Nat) (kl : List ByteArray) (hC : Kd.C Kd.string w C kl.length kl) (hcC : kl.length ≤ d) (hsC : ∀ x ∈ kl, x.size ≤ maxLen) :
    Calls Tryz.prog 4 #[.slice A l.length c, .slice C kl.length d] w fun e w' => e = .returned (.bool true) ∧ Below w.heap.size w w' := by
  have HG := Lib.hid hG
  have HA := Lib.hid hA
  have HC := Lib.hid hC
  have HSC := Lib.hid hsC
  clear hG hA hC hsC
  go_enter Tryz.func4, Tryz.ntmps4
  go_upto_region 3 with (first
    | (go_at_call 8; refine (shown7_call HG.out).mono ?_; rintro e w1 ⟨rfl, hb⟩; have HB1 := Lib.hid hb; clear hb)
    | (go_at_call 9; refine (begun7_sts _ 1048576 (by decide) (by decide)).mono ?_; rintro e w4 ⟨p, m, rfl, hs, hb⟩; obtain ⟨b0, hb0⟩ : ∃ b0, w4.heap.size = b0 := ⟨_, rfl⟩; obtain ⟨K, hK⟩ : ∃ K : Nat → Prop, K = fun k => k < w1.heap.size ∨ k = b0 := ⟨_, rfl⟩; have hl := law_begun7 HG.out HB1.out hs hb; rw [hb0] at hl; rw [← hK] at hl; have HL0' := Lib.hid hl; clear hs hb hl hK))
  have HL0 : Hid (Law w K m [(p, newT 1048576)] (newT 1048576) [PBox7 p m b0] (w4.alloc (.cells #[.pointer (some ⟨p, 0, none⟩), .pointer (some ⟨m, 0, none⟩)] 27))) := HL0'.out
  clear HL0'
  try rw [hb0]
  generalize w4.alloc (.cells #[.pointer (some ⟨p, 0, none⟩), .pointer (some ⟨m, 0, none⟩)] 27) = W0 at HL0 ⊢
  clear hb0
  by_cases hl30 : 30 < l.length
  · have hd : decide ((30 : Int) < (l.length : Int)) = true := decide_eq_true (by omega)
    go_wp2_with fail
    go_ret
    exact ⟨rfl, HL0.out.bel⟩
  have hd : decide ((30 : Int) < (l.length : Int)) = false := decide_eq_false (by omega)
  by_cases hm : 30 < kl.length
  · have hd2 : decide ((30 : Int) < (kl.length : Int)) = true := decide_eq_true (by omega)
    go_wp2_with fail
    go_ret
    exact ⟨rfl, HL0.out.bel⟩
  have hd2 : decide ((30 : Int) < (kl.length : Int)) = false := decide_eq_false (by omega)
  go_upto_region 5 with fail
  clear hd hd2
  obtain ⟨c0, c1⟩ := (HL0.out.va 0 rfl : PBox7 p m b0 _).cells
  have HJ0 : Hid (SB 1048576 0 0 (newT 1048576) [] 0) := sb_new (by decide) (by decide)
  go_upto_region 6 with (go_at_call 10; refine (HL0.out.bOpen HJ0.out (by decide) (fun x hx => by cases hx) (by decide)).mono ?_; rintro e w2 ⟨s, rfl, hl⟩; have HL1 := Lib.hid hl; clear hl)
  have hj1 := (HJ0.out.opens.2.2).mono (n' := 0 + 4) (u' := 1000 * 0) (by decide) (by decide)
  have HJ1 := Lib.hid hj1
  clear c0 c1 HL0 HJ0 hj1
  generalize openT (newT 1048576) bB = T1 at HL1 HJ1
  go_upto_region 10 with fail
  go_loopw [10, 11] (fun nx i wr => ∃ (k : Nat) (T : TS) (xs : List ByteArray) (k0 : Nat), k ≤ l.length ∧ nx = .int .i64 (xs.length + 1 : Nat) ∧ i = .int .i64 k ∧ Hid (LS w K m [(p, T)] (newT 1048576) [PBox7 p m b0] s p bB xs wr) ∧ Hid (SB 1048576 (k + 4) (1000 * k) T xs k0) ∧ Hid (xs.length ≤ k ∧ ∀ x ∈ xs, x.size ≤ 300) ∧ Hid (∀ u, u ∈ xs ↔ u ∈ l.take k))
    (fun _ i _ => l.length - (intOf i).toNat)
  case atStart => exact ⟨0, T1, [], _, Nat.zero_le _, rfl, rfl, HL1.out, HJ1.out, ⟨Nat.le_refl _, fun x hx => by cases hx⟩, fun u => Iff.rfl⟩
  case round =>
    clear HL1 HJ1
    obtain ⟨k, T, xs, k0, hk, rfl, rfl, HL, HJ, HX, HI⟩ := hrel
    by_cases hlk : k < l.length
    · obtain ⟨ad, e, hx⟩ := at_S HA.out hlk
      subst e
      have hxr := (HL.out.bel.cell (p := ad.add k) (cell_lt hx)).trans hx
      have hTK : l.take (k + 1) = l.take k ++ [l[k]] := List.take_succ_eq_append_getElem hlk
      have HTK := Lib.hid hTK
      clear hTK
      obtain ⟨x, hxe⟩ : ∃ x, l[k] = x := ⟨_, rfl⟩
      rw [hxe] at hx hxr HTK
      have HXE := Lib.hid hxe
      clear hxe
      by_cases hx3 : 300 < x.size
      · have hd : decide ((300 : Int) < (x.size : Int)) = true := decide_eq_true (by omega)
        go_wp2_with fail
        go_ret
        exact ⟨rfl, HL.out.bel⟩
      have hd : decide ((300 : Int) < (x.size : Int)) = false := decide_eq_false (by omega)
      go_upto_region 16 with fail
      clear hd
      go_loopw [12, 13] (fun fr j wr => ∃ (k2 : Nat), k2 ≤ k ∧ fr = .bool (decide (idxB (l.take k2) x = 0)) ∧ j = .int .i64 k2 ∧ Hid (LS w K m [(p, T)] (newT 1048576) [PBox7 p m b0] s p bB xs wr))
        (fun _ j _ => k - (intOf j).toNat)
      case atStart => exact ⟨0, Nat.zero_le _, rfl, rfl, HL.out⟩
      case round =>
        clear HL
        obtain ⟨k2, hk2, rfl, rfl, HL⟩ := hrel
        by_cases hlk2 : k2 < k
        · obtain ⟨ad3, e3, hy⟩ := at_S HA.out (show k2 < l.length by omega)
          cases e3
          have hyr := (HL.out.bel.cell (p := ad.add k2) (cell_lt hy)).trans hy
          have HT2 : Hid (l.take (k2 + 1) = l.take k2 ++ [l[k2]'(by omega)]) := List.take_succ_eq_append_getElem (by omega)
          have hxr := (HL.out.bel.cell (p := ad.add k) (cell_lt hx)).trans hx
          generalize l[k2] = y at hy hyr HT2
          cases hb : decide (idxB (l.take k2) x = 0) with
          | true =>
            go_upto_region 18 with fail
            go_quiet (fail)
            rename_i nq
            have HLq := Lib.hid (HL.out.below (pw_below_drewN (Below.refl _ wr) nq))
            generalize wr.drewN nq = wq at HLq ⊢
            clear HL hxr hyr
            go_wp2_with fail
            go_roundw
            case rel => exact ⟨k2 + 1, by omega, (by rw [HT2.out, idx_snoc, if_neg (fun e => e (of_decide_eq_true hb))]; by_cases hyx : y = x <;> simp [hyx, tl_eq7]), by go_num, HLq.out⟩
            case measure => simp [intOf]; omega
          | false =>
            go_upto_region 18 with fail
            go_quiet (fail)
            rename_i nq
            have HLq := Lib.hid (HL.out.below (pw_below_drewN (Below.refl _ wr) nq))
            generalize wr.drewN nq = wq at HLq ⊢
            clear HL hxr hyr
            go_wp2_with fail
            go_roundw
            case rel => exact ⟨k2 + 1, by omega, (by rw [HT2.out, idx_snoc, if_pos (of_decide_eq_false hb), hb]), by go_num, HLq.out⟩
            case measure => simp [intOf]; omega
        · obtain rfl : k2 = k := by omega
          have hxr := (HL.out.bel.cell (p := ad.add k2) (cell_lt hx)).trans hx
          have hzz : idxB (l.take k2) x = 0 ↔ idxB xs x = 0 := by rw [idx_zero, idx_zero, HI.out x]
          by_cases hz : idxB xs x = 0
          · rw [decide_eq_true (hzz.2 hz)]
            have hfc := HL.out.Find x (by unfold maxLen; omega)
            rw [hz] at hfc
            have HFC := Lib.hid hfc
            clear hfc
            go_upto_region 21 with (go_at_call 13; refine HFC.out.mono ?_; rintro e w5 ⟨rfl, hl, -⟩; have HL2 := Lib.hid hl; have hx5 := (hl.bel.cell (p := ad.add k2) (cell_lt hx)).trans hx; clear hl)
            obtain ⟨T2, hj2, hc⟩ := HL2.out.Id HJ.out (by omega) (by have := HX.out.1; omega) x (by omega) (b := 1000) (by omega) (by decide) (by omega)
            rw [show idn xs x = xs.length + 1 from by unfold idn; rw [if_neg (fun e => e hz)], show idl xs x = xs ++ [x] from by unfold idl; rw [if_neg (fun e => e hz)]] at hc
            rw [show idl xs x = xs ++ [x] from by unfold idl; rw [if_neg (fun e => e hz)]] at hj2
            have HJ2 := Lib.hid (hj2.mono (n' := k2 + 1 + 4) (u' := 1000 * (k2 + 1)) (by omega) (by omega))
            have HC2 := Lib.hid hc
            have hxl := HX.out.1
            have HX2 : Hid ((xs ++ [x]).length ≤ k2 + 1 ∧ ∀ y ∈ xs ++ [x], y.size ≤ 300) := ⟨by rw [List.length_append]; show xs.length + 1 ≤ k2 + 1; omega, fun y hy => (List.mem_append.1 hy).elim (HX.out.2 y) fun h => by rw [List.mem_singleton.1 h]; omega⟩
            have HI2 : Hid (∀ u, u ∈ xs ++ [x] ↔ u ∈ l.take (k2 + 1)) := fun u => by rw [HTK.out, List.mem_append, List.mem_append, HI.out u]
            clear hj2 hc hzz
            clear hz
            go_wp2_with (go_at_call 11; refine HC2.out.mono ?_; rintro e w6 ⟨rfl, hl⟩; have HL3 := Lib.hid hl; clear hl)
            go_roundw
            case rel => exact ⟨k2 + 1, T2, xs ++ [x], k0, by omega, by rw [List.length_append]; go_num, by go_num, HL3.out, HJ2.out, HX2.out, HI2.out⟩
            case measure => simp [intOf]; omega
          · rw [decide_eq_false (fun e => hz (hzz.1 e))]
            have hfc := HL.out.Find x (by unfold maxLen; omega)
            have HFC := Lib.hid hfc
            clear hfc
            have hn0 : 0 < idxB xs x := by omega
            go_upto_region 21 with (go_at_call 13; refine HFC.out.mono ?_; rintro e w5 ⟨rfl, hl, -⟩; have HL2 := Lib.hid hl; have hx5 := (hl.bel.cell (p := ad.add k2) (cell_lt hx)).trans hx; clear hl)
            obtain ⟨T2, hj2, hc⟩ := HL2.out.Id HJ.out (by omega) (by have := HX.out.1; omega) x (by omega) (b := 1000) (by omega) (by decide) (by omega)
            rw [show idn xs x = idxB xs x from by unfold idn; rw [if_pos hz], show idl xs x = xs from by unfold idl; rw [if_pos hz]] at hc
            rw [show idl xs x = xs from by unfold idl; rw [if_pos hz]] at hj2
            have HJ2 := Lib.hid (hj2.mono (n' := k2 + 1 + 4) (u' := 1000 * (k2 + 1)) (by omega) (by omega))
            have HC2 := Lib.hid hc
            have hxl := HX.out.1
            have HX2 : Hid (xs.length ≤ k2 + 1 ∧ ∀ y ∈ xs, y.size ≤ 300) := ⟨by omega, HX.out.2⟩
            have hle := idx_le xs x
            have hxm : x ∈ xs := Classical.byContradiction fun e => hz (idx_zero.2 e)
            have HI2 : Hid (∀ u, u ∈ xs ↔ u ∈ l.take (k2 + 1)) := fun u => by rw [HTK.out, List.mem_append, ← HI.out u]; exact ⟨.inl, fun h => h.elim id fun h => by rw [List.mem_singleton.1 h]; exact hxm⟩
            clear hj2 hc hzz hxm
            generalize idxB xs x = nn at hz hn0 hle HC2 ⊢
            go_wp2_with (go_at_call 11; refine HC2.out.mono ?_; rintro e w6 ⟨rfl, hl⟩; have HL3 := Lib.hid hl; clear hl)
            go_roundw
            case rel => exact ⟨k2 + 1, T2, xs, k0, by omega, rfl, by go_num, HL3.out, HJ2.out, HX2.out, HI2.out⟩
            case measure => simp [intOf]; omega
    · obtain rfl : k = l.length := by omega
      have HI9 : Hid (∀ u, u ∈ xs ↔ u ∈ l) := fun u => by have := HI.out u; rw [List.take_length] at this; exact this
      have HNU : Hid (xs.length ≤ 30) := by have := HX.out.1; unfold Hid; omega
      obtain ⟨nx, hnx⟩ : ∃ nx, xs.length + 1 = nx := ⟨_, rfl⟩
      rw [hnx]
      have HNX := Lib.hid hnx
      clear HI HJ hnx
      go_upto_region 27 with fail
      go_loopw [16] (fun i wr => ∃ k2 : Nat, k2 ≤ kl.length ∧ i = .int .i64 k2 ∧ Hid (LS w K m [(p, T)] (newT 1048576) [PBox7 p m b0] s p bB xs wr))
        (fun i _ => kl.length - (intOf i).toNat)
      case atStart => exact ⟨0, Nat.zero_le _, rfl, HL.out⟩
      case round =>
        clear HL
        obtain ⟨k2, hk2, rfl, HL⟩ := hrel
        by_cases hlk2 : k2 < kl.length
        · obtain ⟨ad, e, hx⟩ := at_S HC.out hlk2
          subst e
          have hxs := Lib.hid (HSC.out _ (List.getElem_mem hlk2))
          generalize kl[k2] = x at hx hxs
          go_upto_region 31 with fail
          go_loopw [17, 18] (fun fr j wr => ∃ (k3 : Nat), k3 ≤ l.length ∧ fr = .bool (decide (idxB (l.take k3) x ≠ 0)) ∧ j = .int .i64 k3 ∧ Hid (LS w K m [(p, T)] (newT 1048576) [PBox7 p m b0] s p bB xs wr))
            (fun _ j _ => l.length - (intOf j).toNat)
          case atStart => exact ⟨0, Nat.zero_le _, rfl, rfl, HL.out⟩
          case round =>
            clear HL
            obtain ⟨k3, hk3, rfl, rfl, HL⟩ := hrel
            by_cases hlk3 : k3 < l.length
            · obtain ⟨ad3, e3, hy⟩ := at_S HA.out hlk3
              subst e3
              have hyr := (HL.out.bel.cell (p := ad3.add k3) (cell_lt hy)).trans hy
              have HT2 : Hid (l.take (k3 + 1) = l.take k3 ++ [l[k3]]) := List.take_succ_eq_append_getElem hlk3
              have hxr := (HL.out.bel.cell (p := ad.add k2) (cell_lt hx)).trans hx
              generalize l[k3] = y at hy hyr HT2
              cases hb : decide (idxB (l.take k3) x ≠ 0) with
              | true =>
                go_upto_region 33 with fail
                go_quiet (fail)
                rename_i nq
                have HLq := Lib.hid (HL.out.below (pw_below_drewN (Below.refl _ wr) nq))
                generalize wr.drewN nq = wq at HLq ⊢
                clear HL hxr hyr
                go_wp2_with fail
                go_roundw
                case rel => exact ⟨k3 + 1, by omega, (by rw [HT2.out, idx_snoc, if_pos (of_decide_eq_true hb), hb]), by go_num, HLq.out⟩
                case measure => simp [intOf]; omega
              | false =>
                go_upto_region 33 with fail
                go_quiet (fail)
                rename_i nq
                have HLq := Lib.hid (HL.out.below (pw_below_drewN (Below.refl _ wr) nq))
                generalize wr.drewN nq = wq at HLq ⊢
                clear HL hxr hyr
                go_wp2_with fail
                go_roundw
                case rel => exact ⟨k3 + 1, by omega, (by rw [HT2.out, idx_snoc, if_neg (of_decide_eq_false hb)]; by_cases hyx : y = x <;> simp [hyx, tl_eq7]), by go_num, HLq.out⟩
                case measure => simp [intOf]; omega
            · obtain rfl : k3 = l.length := by omega
              rw [List.take_length]
              have hxr := (HL.out.bel.cell (p := ad.add k2) (cell_lt hx)).trans hx
              have hfc := HL.out.Find x hxs.out
              have hzz : idxB l x = 0 ↔ idxB xs x = 0 := by rw [idx_zero, idx_zero, HI9.out x]
              by_cases hz : idxB xs x = 0
              · rw [decide_eq_false (fun e : idxB l x ≠ 0 => e (hzz.2 hz))]
                rw [hz] at hfc
                have HFC := Lib.hid hfc
                clear hfc hzz hz
                go_wp2_with (go_at_call 13; refine HFC.out.mono ?_; rintro e w5 ⟨rfl, hl, -⟩; have HL2 := Lib.hid hl; clear hl)
                go_roundw
                case rel => exact ⟨k2 + 1, by omega, by go_num, HL2.out⟩
                case measure => simp [intOf]; omega
              · rw [decide_eq_true (show idxB l x ≠ 0 from fun e => hz (hzz.1 e))]
                have HFC := Lib.hid hfc
                have hz0 : 0 < idxB xs x := by omega
                generalize idxB xs x = nn at hz0 HFC
                clear hfc hzz hz
                go_wp2_with (go_at_call 13; refine HFC.out.mono ?_; rintro e w5 ⟨rfl, hl, -⟩; have HL2 := Lib.hid hl; clear hl)
                go_roundw
                case rel => exact ⟨k2 + 1, by omega, by go_num, HL2.out⟩
                case measure => simp [intOf]; omega
        · obtain rfl : k2 = kl.length := by omega
          have hln := HL.out.Len
          have HLN := Lib.hid hln
          have hxl := HNU.out
          clear hln
          have hd1 : ((xs.length : Int) == (nx : Int) - 1) = true := by have := HNX.out; exact beq_iff_eq.2 (by omega)
          have hd2 : decide ((xs.length : Int) = (nx : Int) - 1) = true := by have := HNX.out; exact decide_eq_true (by omega)
          have hnx2 : nx ≤ 31 := by have := HNX.out; omega
          go_wp2_with (go_at_call 14; refine HLN.out.mono ?_; rintro e w6 ⟨rfl, hl, -⟩; have HL6 := Lib.hid hl; clear hl)
          go_ret
          exact ⟨rfl, HL6.out.bel⟩
end
end Go.Proofs.YtghbaehbgefpaaaGreatDoor.Fr
