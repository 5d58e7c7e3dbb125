import Derived.Test.YtghbaehbgefpaaaGreatDoorQC
/- BlobAgain. -/
namespace Go.Proofs.YtghbaehbgefpaaaGreatDoor.Fr
open Go.RowKit Go.Proofs.YtghbaehbgefpaaaGreatDoor.F Go.Proofs.YtghbaehbgefpaaaGreatDoorW.PrintWords Go.Maps
open Go.Proofs.YtghbaehbgefpaaaGreatDoor.Hand (putV takeV scanV)
set_option linter.unusedVariables false
set_option linter.unusedSimpArgs false
theorem at_S {w : World} {A : Option Addr} {xs : List ByteArray} (h : Kd.C Kd.string w A xs.length xs) {i : Nat} (hi : i < xs.length) : ∃ ad, A = some ad ∧ w.cell? (ad.add i) = some (.string xs[i]) := by
  obtain ⟨ad, c, e, h1, h2, hc⟩ := Kd.C_get h ⟨#[]⟩ (i : Int) (by omega) (by omega)
  have e1 : xs.getD (i : Int).toNat ⟨#[]⟩ = xs[i] := by
    rw [Int.toNat_natCast, List.getD_eq_getElem?_getD, List.getElem?_eq_getElem hi, Option.getD_some]
  rw [e1] at h2
  have h3 : c = [.string xs[i]] := h2
  subst h3
  have := hc 0 _ rfl
  have h0 : (i : Int).toNat * Kd.string.sz + 0 = i := by rw [Int.toNat_natCast]; exact Nat.mul_one i
  rw [h0] at this
  exact ⟨ad, e, this⟩
section
variable {w : World}
set_option maxHeartbeats 8000000 in
set_option maxRecDepth 100000 in
theorem R_BlobAgain (hG : Hand2.Glob w) (A : Option Addr) (c : Nat) (l : List ByteArray) (hA : Kd.C Kd.string w A l.length l) (hcA : l.length ≤ c) (more : ByteArray) (wmore : more.size ≤ 140737488351232) :
    Calls Tryz.prog 5 #[.slice A l.length c, .string more] w fun e w' => e = .returned (.bool true) ∧ Below w.heap.size w w' := by
  have HG := Lib.hid hG
  have HA := Lib.hid hA
  clear hG hA
  go_enter Tryz.func5, Tryz.ntmps5
  go_upto_region 3 with (first
    | (go_at_call 8; refine (shown7_call HG.out).mono ?_; rintro e w1 ⟨rfl, hb⟩; have HB1 := Lib.hid hb; clear hb)
    | (go_at_call 9; refine (begun7_sts _ 1048576 (by decide) (by decide)).mono ?_; rintro e w4 ⟨p, m, rfl, hs, hb⟩; obtain ⟨b0, hb0⟩ : ∃ b0, w4.heap.size = b0 := ⟨_, rfl⟩; obtain ⟨K, hK⟩ : ∃ K : Nat → Prop, K = fun k => k < w1.heap.size ∨ k = b0 := ⟨_, rfl⟩; have hl := law_begun7 HG.out HB1.out hs hb; rw [hb0] at hl; rw [← hK] at hl; have HL0' := Lib.hid hl; clear hs hb hl hK))
  have HL0 : Hid (Law w K m [(p, newT 1048576)] (newT 1048576) [PBox7 p m b0] (w4.alloc (.cells #[.pointer (some ⟨p, 0, none⟩), .pointer (some ⟨m, 0, none⟩)] 27))) := HL0'.out
  clear HL0'
  try rw [hb0]
  generalize w4.alloc (.cells #[.pointer (some ⟨p, 0, none⟩), .pointer (some ⟨m, 0, none⟩)] 27) = W0 at HL0 ⊢
  clear hb0
  by_cases hl30 : 30 < l.length
  · have hd : decide ((30 : Int) < (l.length : Int)) = true := decide_eq_true (by omega)
    go_wp2_with fail
    go_ret
    exact ⟨rfl, HL0.out.bel⟩
  have hd : decide ((30 : Int) < (l.length : Int)) = false := decide_eq_false (by omega)
  by_cases hm : 300 < more.size
  · have hd2 : decide ((300 : Int) < (more.size : Int)) = true := decide_eq_true (by omega)
    go_wp2_with fail
    go_ret
    exact ⟨rfl, HL0.out.bel⟩
  have hd2 : decide ((300 : Int) < (more.size : Int)) = false := decide_eq_false (by omega)
  go_upto_region 5 with fail
  clear hd hd2
  obtain ⟨c0, c1⟩ := (HL0.out.va 0 rfl : PBox7 p m b0 _).cells
  have HJ0 : Hid (SB 1048576 0 0 (newT 1048576) [] 0) := sb_new (by decide) (by decide)
  go_upto_region 6 with (go_at_call 10; refine (HL0.out.bOpen HJ0.out (by decide) (fun x hx => by cases hx) (by decide)).mono ?_; rintro e w2 ⟨s, rfl, hl⟩; have HL1 := Lib.hid hl; clear hl)
  have hj1 := (HJ0.out.opens.2.2).mono (n' := 0 + 4) (u' := 1000 * 0) (by decide) (by decide)
  have HJ1 := Lib.hid hj1
  clear c0 c1 HL0 HJ0 hj1
  generalize openT (newT 1048576) bB = T1 at HL1 HJ1
  go_upto_region 9 with fail
  go_loopw [10] (fun i wr => ∃ (k : Nat) (T : TS) (xs : List ByteArray) (k0 : Nat), k ≤ l.length ∧ i = .int .i64 k ∧ Hid (LS w K m [(p, T)] (newT 1048576) [PBox7 p m b0] s p bB xs wr) ∧ Hid (SB 1048576 (k + 4) (1000 * k) T xs k0) ∧ Hid (xs.length ≤ k ∧ ∀ x ∈ xs, x.size ≤ 300) ∧ Hid (∀ j, j < k → ∀ h : j < l.length, l[j].size ≤ 300))
    (fun i _ => l.length - (intOf i).toNat)
  case atStart => exact ⟨0, T1, [], _, Nat.zero_le _, rfl, HL1.out, HJ1.out, ⟨Nat.le_refl _, fun x hx => by cases hx⟩, fun j hj => absurd hj (Nat.not_lt_zero _)⟩
  case round =>
    clear HL1 HJ1
    obtain ⟨k, T, xs, k0, hk, rfl, HL, HJ, HX, HI⟩ := hrel
    by_cases hlk : k < l.length
    · obtain ⟨ad, e, hx⟩ := at_S HA.out hlk
      subst e
      have hxr := (HL.out.bel.cell (p := ad.add k) (cell_lt hx)).trans hx
      by_cases hx3 : 300 < l[k].size
      · have hd : decide ((300 : Int) < (l[k].size : Int)) = true := decide_eq_true (by omega)
        generalize l[k] = x at hx hxr hd hx3
        go_wp2_with fail
        go_ret
        exact ⟨rfl, HL.out.bel⟩
      have HI2 : Hid (∀ j, j < k + 1 → ∀ h : j < l.length, l[j].size ≤ 300) := by
        intro j hj h
        by_cases e : j = k
        · subst e
          omega
        · exact HI.out j (by omega) h
      generalize l[k] = x at hx hxr hx3
      have hd : decide ((300 : Int) < (x.size : Int)) = false := decide_eq_false (by omega)
      go_upto_region 13 with fail
      clear hd
      obtain ⟨T2, hj2, hc⟩ := HL.out.Id HJ.out (by omega) (by have := HX.out.1; omega) x (by omega) (b := 1000) (by omega) (by decide) (by omega)
      have HJ2 := Lib.hid (hj2.mono (n' := k + 1 + 4) (u' := 1000 * (k + 1)) (by omega) (by omega))
      have HC := Lib.hid hc
      have HX2 : Hid ((idl xs x).length ≤ k + 1 ∧ ∀ y ∈ idl xs x, y.size ≤ 300) := ⟨by have := (idl_len xs x).2.1; have := HX.out.1; omega, idl_sz HX.out.2 (by omega)⟩
      clear hj2 hc
      go_wp2_with (go_at_call 11; refine HC.out.mono ?_; rintro e w5 ⟨rfl, hl⟩; have HL2 := Lib.hid hl; clear hl)
      go_roundw
      case rel => exact ⟨k + 1, T2, _, k0, by omega, by go_num, HL2.out, HJ2.out, HX2.out, HI2.out⟩
      case measure => simp [intOf]; omega
    · obtain rfl : k = l.length := by omega
      go_upto_region 14 with fail
      have HLS : Hid (∀ (j : Nat) (h : j < l.length), l[j].size ≤ 300) := fun j h => HI.out j h h
      clear HI
      obtain ⟨v1, b1, D1, hk1⟩ := HL.out.known
      obtain ⟨K1, hK1⟩ : ∃ K1 : Nat → Prop, K1 = fun k => K k ∨ BsF s v1 b1 k := ⟨_, rfl⟩
      rw [← hK1] at hk1
      have HLK := Lib.hid hk1
      have HNU : Hid (l.length ≤ 30) := by unfold Hid; omega
      clear hk1 hK1 HL
      obtain ⟨c0, c1⟩ := (HLK.out.va 1 rfl : PBox7 p m b0 _).cells
      go_upto_region 15 with (go_at_call 10; refine (HLK.out.bOpen HJ.out (by have := HNU.out; omega) (fun x hx => Nat.le_trans (HX.out.2 x hx) (by decide)) (by have := HX.out.1; have := HNU.out; omega)).mono ?_; rintro e w5 ⟨s2, rfl, hl⟩; have HL2 := Lib.hid hl; clear hl)
      have HJ2 := Lib.hid (HJ.out.opens.2.2)
      clear c0 c1 HLK HJ
      generalize openT T bB = T2 at HL2 HJ2
      go_upto_region 17 with (first
        | (go_at_call_of 14 (Value.pointer (some ⟨s2, 0, none⟩)); refine HL2.out.Len.mono ?_; rintro e w6 ⟨rfl, hl, -⟩; have HL3 := Lib.hid hl; clear hl)
        | (go_at_call_of 14 (Value.pointer (some ⟨s, 0, none⟩)); refine (len_call (HL3.out.law.va 0 rfl : BsAt _ s p bB xs v1 b1 D1)).mono ?_; rintro e w7 ⟨rfl, hb⟩; have HL4 := Lib.hid (HL3.out.below hb); clear hb))
      go_upto_region 18 with fail
      go_loopw [13] (fun i wr2 => ∃ k2 : Nat, k2 ≤ l.length ∧ i = .int .i64 k2 ∧ Hid (LS w K1 m [(p, T2)] (newT 1048576) [fun W2 => BsAt W2 s p bB xs v1 b1 D1, PBox7 p m b0] s2 p bB xs wr2))
        (fun i _ => l.length - (intOf i).toNat)
      case atStart => exact ⟨0, Nat.zero_le _, rfl, HL4.out⟩
      case round =>
        clear HL2 HL3 HL4
        obtain ⟨k2, hk2, rfl, HLr⟩ := hrel
        by_cases hlk2 : k2 < l.length
        · obtain ⟨ad, e, hx⟩ := at_S HA.out hlk2
          subst e
          have hxr := (HLr.out.bel.cell (p := ad.add k2) (cell_lt hx)).trans hx
          have HS := Lib.hid (HLS.out k2 hlk2)
          generalize l[k2] = x at hx hxr HS
          obtain ⟨v2, b2, D2, hb2⟩ := HLr.out.st
          have HF1 : Hid (∀ n, Calls Tryz.prog 13 #[.pointer (some ⟨s2, 0, none⟩), .string x] (wr.drewN n) fun e W' => e = .returned (.int .i64 (idxB xs x : Nat)) ∧ W' = wr.drewN n) := fun n => find_same (hb2.at_.kept (W' := wr.drewN n) fun _ _ => rfl) x (Nat.le_trans HS.out (by decide))
          have HF2 : Hid (∀ n, Calls Tryz.prog 13 #[.pointer (some ⟨s, 0, none⟩), .string x] (wr.drewN n) fun e W' => e = .returned (.int .i64 (idxB xs x : Nat)) ∧ W' = wr.drewN n) := fun n => find_same ((HLr.out.law.va 0 rfl : BsAt _ s p bB xs v1 b1 D1).kept (W' := wr.drewN n) fun _ _ => rfl) x (Nat.le_trans HS.out (by decide))
          clear hb2
          generalize idxB xs x = nn at HF1 HF2
          go_upto_region 20 with fail
          go_quiet (first
            | (go_at_call_of 13 (Value.pointer (some ⟨s2, 0, none⟩)); exact Calls.quiet_of_same (HF1.out _))
            | (go_at_call_of 13 (Value.pointer (some ⟨s, 0, none⟩)); exact Calls.quiet_of_same (HF2.out _)))
          rename_i nq
          have HLq := Lib.hid (HLr.out.below (pw_below_drewN (Below.refl _ wr) nq))
          generalize wr.drewN nq = wq at HLq ⊢
          clear HLr HF1 HF2 hx hxr
          go_wp2_with fail
          go_roundw
          case rel => exact ⟨k2 + 1, by omega, by go_num, HLq.out⟩
          case measure => simp [intOf]; omega
        · obtain rfl : k2 = l.length := by omega
          have hfc := find_call (HLr.out.law.va 0 rfl : BsAt _ s p bB xs v1 b1 D1) more (by unfold maxLen; omega)
          have HFC := Lib.hid hfc
          clear hfc
          go_upto_region 23 with (go_at_call 13; refine HFC.out.mono ?_; rintro e w7 ⟨rfl, hb⟩; have HL5 := Lib.hid (HLr.out.below hb); clear hb)
          obtain ⟨T3, -, hc⟩ := HL5.out.Id HJ2.out (by have := HNU.out; omega) (by have := HX.out.1; have := HNU.out; omega) more (by omega) (b := 1000) (by omega) (by decide) (by have := HNU.out; omega)
          have HC := Lib.hid hc
          clear hc
          go_upto_region 24 with (go_at_call 11; refine HC.out.mono ?_; rintro e w8 ⟨rfl, hl⟩; have HL6 := Lib.hid hl; clear hl)
          clear HC HFC
          by_cases hz : idxB xs more = 0
          · have hn : idn xs more = xs.length + 1 := by unfold idn; rw [if_neg (fun e => e hz)]
            have hxl : xs.length ≤ 1000 := by have := HX.out.1; have := HNU.out; omega
            rw [hz, hn]
            clear hz hn
            go_wp2_with (go_at_call 14; refine (len_call (HL6.out.law.va 0 rfl : BsAt _ s p bB xs v1 b1 D1)).mono ?_; rintro e w9 ⟨rfl, hb⟩; have HL7 := Lib.hid (HL6.out.below hb); clear hb)
            go_ret
            exact ⟨rfl, HL7.out.bel⟩
          · have hn : idn xs more = idxB xs more := by unfold idn; rw [if_pos hz]
            have hz2 : 0 < idxB xs more := by omega
            rw [hn]
            generalize idxB xs more = nn at hz hz2 ⊢
            clear hn
            go_wp2_with fail
            go_ret
            exact ⟨rfl, HL6.out.bel⟩
end
end Go.Proofs.YtghbaehbgefpaaaGreatDoor.Fr
