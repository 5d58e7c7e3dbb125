import Derived.Test.YtghbaehbgefpaaaGreatDoorKR7Again
import Derived.Test.YtghbaehbgefpaaaGreatDoorQC
/- BlobKeeps. -/
namespace Go.Proofs.YtghbaehbgefpaaaGreatDoor.Fr
open Go.RowKit Go.Proofs.YtghbaehbgefpaaaGreatDoor.F Go.Proofs.YtghbaehbgefpaaaGreatDoorW.PrintWords Go.Maps
open Go.Proofs.YtghbaehbgefpaaaGreatDoor.Hand (putV takeV scanV)
set_option linter.unusedVariables false
set_option linter.unusedSimpArgs false
section
variable {w : World}
set_option maxHeartbeats 8000000 in
set_option maxRecDepth 100000 in
theorem R_BlobKeeps (hG : Hand2.Glob w) (A : Option Addr) (c : Nat) (l : List ByteArray) (hA : Kd.C Kd.string w A l.length l) (hcA : l.length ≤ c) (at0 : Int) (wat0 : (Lit.int .i64 at0).wf = true) (many : Int) (wmany : (Lit.int .i64 many).wf = true) (part : Int) (wpart : (Lit.int .i64 part).wf = true) :
    Calls Tryz.prog 6 #[.slice A l.length c, .int .i64 at0, .int .i64 many, .int .i64 part] w fun e w' => e = .returned (.bool true) ∧ Below w.heap.size w w' := by
  have HG := Lib.hid hG
  have HA := Lib.hid hA
  have hat0 := int_wf wat0
  have hmany := int_wf wmany
  have hpart := int_wf wpart
  clear hG hA
  go_enter Tryz.func6, Tryz.ntmps6
  go_upto_region 3 with (first
    | (go_at_call 8; refine (shown7_call HG.out).mono ?_; rintro e w1 ⟨rfl, hb⟩; have HB1 := Lib.hid hb; clear hb)
    | (go_at_call 9; refine (begun7_sts _ 1048576 (by decide) (by decide)).mono ?_; rintro e w4 ⟨p, m, rfl, hs, hb⟩; obtain ⟨b0, hb0⟩ : ∃ b0, w4.heap.size = b0 := ⟨_, rfl⟩; obtain ⟨K, hK⟩ : ∃ K : Nat → Prop, K = fun k => k < w1.heap.size ∨ k = b0 := ⟨_, rfl⟩; have hl := law_begun7 HG.out HB1.out hs hb; rw [hb0] at hl; rw [← hK] at hl; have HL0' := Lib.hid hl; clear hs hb hl hK))
  have HL0 : Hid (Law w K m [(p, newT 1048576)] (newT 1048576) [PBox7 p m b0] (w4.alloc (.cells #[.pointer (some ⟨p, 0, none⟩), .pointer (some ⟨m, 0, none⟩)] 27))) := HL0'.out
  clear HL0'
  try rw [hb0]
  generalize w4.alloc (.cells #[.pointer (some ⟨p, 0, none⟩), .pointer (some ⟨m, 0, none⟩)] 27) = W0 at HL0 ⊢
  clear hb0
  by_cases hl30 : 40 < l.length
  · have hd : decide ((40 : Int) < (l.length : Int)) = true := decide_eq_true (by omega)
    go_wp2_with fail
    go_ret
    exact ⟨rfl, HL0.out.bel⟩
  have hd : decide ((40 : Int) < (l.length : Int)) = false := decide_eq_false (by omega)
  go_upto_region 5 with fail
  clear hd
  obtain ⟨c0, c1⟩ := (HL0.out.va 0 rfl : PBox7 p m b0 _).cells
  have HJ0 : Hid (SB 1048576 0 0 (newT 1048576) [] 0) := sb_new (by decide) (by decide)
  go_upto_region 6 with (go_at_call 10; refine (HL0.out.bOpen HJ0.out (by decide) (fun x hx => by cases hx) (by decide)).mono ?_; rintro e w2 ⟨s, rfl, hl⟩; have HL1 := Lib.hid hl; clear hl)
  have hj1 := (HJ0.out.opens.2.2).mono (n' := 0 + 4) (u' := 1000 * 0) (by decide) (by decide)
  have HJ1 := Lib.hid hj1
  clear c0 c1 HL0 HJ0 hj1
  generalize openT (newT 1048576) bB = T1 at HL1 HJ1
  go_upto_region 9 with (go_at_call 15; refine (pick7_call at0 ((l.length : Int) + 1) hat0 (by omega) _).mono ?_; rintro e w3 ⟨rfl, hb⟩; have HL2 := Lib.hid (HL1.out.below hb); clear hb)
  obtain ⟨hp0, hp1⟩ := pickn_lt at0 ((l.length : Int) + 1) (by omega)
  obtain ⟨kk, hkk⟩ : ∃ kk : Nat, pickI at0 ((l.length : Int) + 1) = (kk : Int) := ⟨(pickI at0 ((l.length : Int) + 1)).toNat, by omega⟩
  rw [hkk]
  have hkl : kk ≤ l.length := by omega
  clear hp0 hp1 hkk HL1
  go_upto_region 10 with fail
  go_loopw [15] (fun i wr => ∃ (k : Nat) (T : TS) (xs : List ByteArray) (k0 : Nat), k ≤ l.length ∧ i = .int .i64 k ∧ Hid (LS w K m [(p, T)] (newT 1048576) [PBox7 p m b0] s p bB xs wr) ∧ Hid (SB 1048576 (2 * k + 4) (1000 * k) T xs k0) ∧ Hid (xs.length ≤ k ∧ ∀ x ∈ xs, x.size ≤ 300) ∧ Hid (∀ u ∈ l.take k, idxB xs u ≠ 0 ∧ u.size ≤ 300) ∧ Hid (kk ≤ k → ∀ u ∈ l.take kk, idxB xs u ≤ k0))
    (fun i _ => l.length - (intOf i).toNat)
  case atStart => exact ⟨0, T1, [], _, Nat.zero_le _, rfl, HL2.out, HJ1.out, ⟨Nat.le_refl _, fun x hx => by cases hx⟩, (fun u hu => absurd hu (by rw [List.take_zero]; exact List.not_mem_nil)), fun _ u _ => Nat.zero_le _⟩
  case round =>
    clear HL2 HJ1
    obtain ⟨k, T, xs, k0, hk, rfl, HL, HJ, HX, HF, HS⟩ := hrel
    by_cases hlk : k < l.length
    · obtain ⟨ad, e, hx⟩ := at_S HA.out hlk
      subst e
      have hxr := (HL.out.bel.cell (p := ad.add k) (cell_lt hx)).trans hx
      have HTK : Hid (l.take (k + 1) = l.take k ++ [l[k]]) := List.take_succ_eq_append_getElem hlk
      generalize l[k] = x at hx hxr HTK
      by_cases hx3 : 300 < x.size
      · have hd : decide ((300 : Int) < (x.size : Int)) = true := decide_eq_true (by omega)
        go_wp2_with fail
        go_ret
        exact ⟨rfl, HL.out.bel⟩
      have hd : decide ((300 : Int) < (x.size : Int)) = false := decide_eq_false (by omega)
      go_upto_region 14 with fail
      clear hd
      obtain ⟨T2, hj2, hc⟩ := HL.out.Id HJ.out (by omega) (by have := HX.out.1; omega) x (by omega) (b := 1000) (by omega) (by decide) (by omega)
      have HJ2 := Lib.hid (hj2.mono (n' := 2 * k + 1 + 4) (u' := 1000 * (k + 1)) (by omega) (by omega))
      have HC := Lib.hid hc
      have HX2 : Hid ((idl xs x).length ≤ k + 1 ∧ ∀ y ∈ idl xs x, y.size ≤ 300) := ⟨by have := (idl_len xs x).2.1; have := HX.out.1; omega, idl_sz HX.out.2 (by omega)⟩
      have HF2 : Hid (∀ u ∈ l.take (k + 1), idxB (idl xs x) u ≠ 0 ∧ u.size ≤ 300) := fun u hu => by
        rw [HTK.out] at hu
        rcases List.mem_append.1 hu with hu | hu
        · rw [idx_keep (HF.out u hu).1]
          exact HF.out u hu
        · rw [List.mem_singleton.1 hu, idx_idl]
          have := idn_pos xs x
          omega
      have HS2 : Hid (kk ≤ k → ∀ u ∈ l.take kk, idxB (idl xs x) u ≤ k0) := fun h u hu => by
        have h1 : u ∈ l.take k := by
          have : l.take kk = (l.take k).take kk := by rw [List.take_take, Nat.min_eq_left h]
          rw [this] at hu
          exact List.mem_of_mem_take hu
        rw [idx_keep (HF.out u h1).1]
        exact HS.out h u hu
      clear hj2 hc
      generalize idl xs x = xs2 at HJ2 HC HX2 HF2 HS2
      generalize idn xs x = nn at HC
      go_upto_region 15 with (go_at_call 11; refine HC.out.mono ?_; rintro e w5 ⟨rfl, hl⟩; have HL2 := Lib.hid hl; clear hl)
      clear HC HL hxr
      by_cases hkk : k + 1 = kk
      · have hd1 : decide ((k : Int) + 1 = (kk : Int)) = true := decide_eq_true (by omega)
        have hd2 : ((k : Int) + 1 == (kk : Int)) = true := beq_iff_eq.2 (by omega)
        have HKK := Lib.hid hkk
        clear hkk
        obtain ⟨c0, c1⟩ := (HL2.out.law.va 0 rfl : PBox7 p m b0 _).cells
        have HCS := Lib.hid (HL2.out.treeOp (f := 16) (vs := #[.pointer (some ⟨p, 0, none⟩)]) fun K' hs => hs.Sync (i := 0) rfl HL2.out.law.glob.g HJ2.out.inv (by omega))
        go_wp2_with (go_at_call 16; refine HCS.out.mono ?_; rintro e w6 ⟨rfl, hl⟩; have HL3 := Lib.hid hl; clear hl)
        have HJ3 := Lib.hid (HJ2.out.sync.mono (n' := 2 * (k + 1) + 4) (u' := 1000 * (k + 1)) (by omega) (by omega))
        go_roundw
        case rel => exact ⟨k + 1, syncT T2, xs2, xs2.length, by omega, by go_num, HL3.out, HJ3.out, HX2.out, HF2.out, fun _ u _ => idx_le _ _⟩
        case measure => simp [intOf]; omega
      · have hd1 : decide ((k : Int) + 1 = (kk : Int)) = false := decide_eq_false (by omega)
        have hd2 : ((k : Int) + 1 == (kk : Int)) = false := beq_eq_false_iff_ne.2 (by omega)
        go_wp2_with fail
        go_roundw
        case rel => exact ⟨k + 1, T2, xs2, k0, by omega, by go_num, HL2.out, HJ2.out.mono (by omega) (Nat.le_refl _), HX2.out, HF2.out, fun h => HS2.out (by omega)⟩
        case measure => simp [intOf]; omega
    · obtain rfl : k = l.length := by omega
      go_upto_region 17 with fail
      have HF9 : Hid (∀ u ∈ l, idxB xs u ≠ 0 ∧ u.size ≤ 300) := fun u hu => HF.out u (by rw [List.take_length]; exact hu)
      have HS9 := Lib.hid (HS.out hkl)
      have HNU : Hid (xs.length ≤ 40) := by have := HX.out.1; unfold Hid; omega
      have HXS := Lib.hid HX.out.2
      obtain ⟨j, hj1, hj2, he, hol, hiv, hrm, hnd⟩ := HJ.out.crash many part (by omega)
      obtain ⟨v1, b1, D1, hk1⟩ := HL.out.known
      obtain ⟨K1, hK1⟩ : ∃ K1 : Nat → Prop, K1 = fun k => K k ∨ BsF s v1 b1 k := ⟨_, rfl⟩
      rw [← hK1] at hk1
      have HLK := Lib.hid hk1
      have HE := Lib.hid he
      have HO := Lib.hid hol
      have HV := Lib.hid hiv
      have HR := Lib.hid hrm
      have HD := Lib.hid hnd
      have HJI := Lib.hid HJ.out.inv
      have HK0 := Lib.hid hj1
      have HLL : Hid (2 * l.length + 4 + 4 ≤ 1000000) := by unfold Hid; omega
      clear hk1 hK1 HL HF HS HX HJ he hol hiv hrm hnd hj1
      obtain ⟨c0, c1⟩ := (HLK.out.va 1 rfl : PBox7 p m b0 _).cells
      go_upto_region 18 with (go_at_call 17; refine (HLK.out.sts.Crash (i := 0) rfl HLK.out.glob.g HJI.out (by have := HLL.out; omega) many part (by omega)).mono ?_; rintro e w4 ⟨rfl, hs, hk⟩; have HL2 : Hid (Law w K1 m [(p, crashT T many part)] (newT 1048576) [fun W2 => BsAt W2 s p bB xs v1 b1 D1, PBox7 p m b0] w4) := HLK.out.step hs hk; clear hs hk)
      clear c0 c1 HLK
      obtain ⟨c0, c1⟩ := (HL2.out.va 1 rfl : PBox7 p m b0 _).cells
      generalize crashT T many part = T3 at HL2 HE HO HV HR
      have HXT : Hid (∀ x ∈ xs.take j, x.size ≤ 100000) := fun x hx => Nat.le_trans (HXS.out x (List.mem_of_mem_take hx)) (by decide)
      have HTL : Hid ((xs.take j).length = j) := List.length_take_of_le hj2
      have HNU2 : Hid ((xs.take j).length ≤ 900000) := by have := HTL.out; have := HNU.out; unfold Hid; omega
      go_upto_region 19 with (go_at_call 10; refine (HL2.out.bOpenE HV.out HR.out HLL.out HE.out HO.out HD.out HXT.out HNU2.out).mono ?_; rintro e w5 ⟨s2, rfl, hl⟩; have HL3 := Lib.hid hl; clear hl)
      clear c0 c1 HL2 HE HO HV HR HD HXT
      generalize openT T3 bB = T4 at HL3
      have HLN1 : Hid (∀ W2, LS w K1 m [(p, T4)] (newT 1048576) [fun W2 => BsAt W2 s p bB xs v1 b1 D1, PBox7 p m b0] s2 p bB (xs.take j) W2 → Calls Tryz.prog 14 #[.pointer (some ⟨s2, 0, none⟩)] W2 fun e W' => e = .returned (.int .i64 (j : Nat)) ∧ Below W2.heap.size W2 W') := fun W2 h => by
        have := h.Len
        rw [HTL.out] at this
        exact this.mono fun e W' ⟨h1, h2, h3⟩ => ⟨h1, h3⟩
      have hjx : decide ((xs.length : Int) < (j : Int)) = false := decide_eq_false (by omega)
      have hjx2 : decide (xs.length < j) = false := decide_eq_false (by omega)
      go_upto_region 21 with (first
        | (go_at_call_of 14 (Value.pointer (some ⟨s2, 0, none⟩)); refine (HLN1.out _ HL3.out).mono ?_; rintro e w6 ⟨rfl, hb⟩; have HL4 := Lib.hid (HL3.out.below hb); clear hb)
        | (go_at_call_of 14 (Value.pointer (some ⟨s, 0, none⟩)); refine (len_call (HL4.out.law.va 0 rfl : BsAt _ s p bB xs v1 b1 D1)).mono ?_; rintro e w7 ⟨rfl, hb⟩; have HL5 := Lib.hid (HL4.out.below hb); clear hb))
      clear hjx hjx2 HL3 HL4
      go_upto_region 22 with fail
      go_loopw [18] (fun i wr => ∃ k2 : Nat, k2 ≤ j ∧ i = .int .i64 ((k2 : Int) + 1) ∧ Hid (LS w K1 m [(p, T4)] (newT 1048576) [fun W2 => BsAt W2 s p bB xs v1 b1 D1, PBox7 p m b0] s2 p bB (xs.take j) wr))
        (fun i _ => j + 1 - (intOf i).toNat)
      case atStart => exact ⟨0, Nat.zero_le _, rfl, HL5.out⟩
      case round =>
        clear HL5
        obtain ⟨k2, hk2, rfl, HL⟩ := hrel
        have hjj : j ≤ 40 := by have := HNU.out; omega
        by_cases hlk2 : k2 < j
        · obtain ⟨ht1, ht2⟩ := text_take hj2 (i := (k2 : Int) + 1) (by omega) (by omega)
          have hd : decide ((k2 : Int) + 1 ≤ (j : Int)) = true := decide_eq_true (by omega)
          go_upto_region 24 with (go_at_call 14; refine (HLN1.out _ HL.out).mono ?_; rintro e w6 ⟨rfl, hb⟩; have HL2 := Lib.hid (HL.out.below hb); clear hb)
          clear hd HL
          have hc1 := text_call (HL2.out.law.va 0 rfl : BsAt _ s p bB xs v1 b1 D1) (by have := HNU.out; omega) ((k2 : Int) + 1)
          have hc2 : ∀ W2, LS w K1 m [(p, T4)] (newT 1048576) [fun W2 => BsAt W2 s p bB xs v1 b1 D1, PBox7 p m b0] s2 p bB (xs.take j) W2 → _ := fun W2 h => h.Text (by have := HNU2.out; omega) ((k2 : Int) + 1)
          rw [ht2] at hc1
          simp only [ht1, ht2] at hc2
          generalize (textN xs ((k2 : Int) + 1)).1 = t at hc1 hc2
          have HC1 := Lib.hid hc1
          have HC2 := Lib.hid hc2
          clear hc1 hc2 ht1 ht2
          go_upto_region 25 with (go_at_call 12; refine HC1.out.mono ?_; rintro e w7 ⟨rfl, hb⟩; have HL3 := Lib.hid (HL2.out.below hb); clear hb)
          clear HC1 HL2
          have hc3 := HC2.out _ HL3.out
          have HC3 := Lib.hid hc3
          clear hc3 HC2
          go_wp2_with (go_at_call 12; refine HC3.out.mono ?_; rintro e w8 ⟨rfl, hl, -⟩; have HL4 := Lib.hid hl; clear hl)
          go_roundw
          case rel => exact ⟨k2 + 1, by omega, by go_num, HL4.out⟩
          case measure => simp [intOf]; omega
        · obtain rfl : k2 = j := by omega
          have hd : decide ((k2 : Int) + 1 ≤ (k2 : Int)) = false := decide_eq_false (by omega)
          go_upto_region 28 with (go_at_call 14; refine (HLN1.out _ HL.out).mono ?_; rintro e w6 ⟨rfl, hb⟩; have HL2 := Lib.hid (HL.out.below hb); clear hb)
          clear hd HL
          go_upto_region 29 with fail
          go_loopw [23] (fun i wr => ∃ k3 : Nat, k3 ≤ kk ∧ i = .int .i64 k3 ∧ Hid (LS w K1 m [(p, T4)] (newT 1048576) [fun W2 => BsAt W2 s p bB xs v1 b1 D1, PBox7 p m b0] s2 p bB (xs.take k2) wr))
            (fun i _ => kk - (intOf i).toNat)
          case atStart => exact ⟨0, Nat.zero_le _, rfl, HL2.out⟩
          case round =>
            clear HL2
            obtain ⟨k3, hk3, rfl, HL⟩ := hrel
            by_cases hlk3 : k3 < kk
            · obtain ⟨ad, e, hx⟩ := at_S HA.out (show k3 < l.length by omega)
              subst e
              have hxr := (HL.out.bel.cell (p := ad.add k3) (cell_lt hx)).trans hx
              have hm1 : l[k3]'(by omega) ∈ l.take kk := by
                rw [List.mem_take_iff_getElem]
                exact ⟨k3, by omega, rfl⟩
              have hi1 : idxB (xs.take k2) (l[k3]'(by omega)) = idxB xs (l[k3]'(by omega)) := by rw [idx_take, if_pos (Nat.le_trans (HS9.out _ hm1) HK0.out)]
              have hs1 := (HF9.out _ (List.getElem_mem (show k3 < l.length by omega))).2
              generalize l[k3]'(by omega) = x at hx hxr hi1 hs1
              obtain ⟨v2, b2, D2, hb2⟩ := HL.out.st
              have HF1 : Hid (∀ n, Calls Tryz.prog 13 #[.pointer (some ⟨s2, 0, none⟩), .string x] (wr.drewN n) fun e W' => e = .returned (.int .i64 (idxB xs x : Nat)) ∧ W' = wr.drewN n) := fun n => by
                have := find_same (hb2.at_.kept (W' := wr.drewN n) fun _ _ => rfl) x (Nat.le_trans hs1 (by decide))
                rw [hi1] at this
                exact this
              have HF2 : Hid (∀ n, Calls Tryz.prog 13 #[.pointer (some ⟨s, 0, none⟩), .string x] (wr.drewN n) fun e W' => e = .returned (.int .i64 (idxB xs x : Nat)) ∧ W' = wr.drewN n) := fun n => find_same ((HL.out.law.va 0 rfl : BsAt _ s p bB xs v1 b1 D1).kept (W' := wr.drewN n) fun _ _ => rfl) x (Nat.le_trans hs1 (by decide))
              clear hb2 hi1
              generalize idxB xs x = nn at HF1 HF2
              go_upto_region 31 with fail
              go_quiet (first
                | (go_at_call_of 13 (Value.pointer (some ⟨s2, 0, none⟩)); exact Calls.quiet_of_same (HF1.out _))
                | (go_at_call_of 13 (Value.pointer (some ⟨s, 0, none⟩)); exact Calls.quiet_of_same (HF2.out _)))
              rename_i nq
              have HLq := Lib.hid (HL.out.below (pw_below_drewN (Below.refl _ wr) nq))
              generalize wr.drewN nq = wq at HLq ⊢
              clear HL HF1 HF2 hx hxr
              go_wp2_with fail
              go_roundw
              case rel => exact ⟨k3 + 1, by omega, by go_num, HLq.out⟩
              case measure => simp [intOf]; omega
            · obtain rfl : k3 = kk := by omega
              go_wp2_with fail
              go_ret
              exact ⟨rfl, HL.out.bel⟩
end
end Go.Proofs.YtghbaehbgefpaaaGreatDoor.Fr
