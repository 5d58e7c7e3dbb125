import Derived.Test.YtghbaehbgefpaaaGreatDoorQ39
/- BlobPlays. -/
namespace Go.Proofs.YtghbaehbgefpaaaGreatDoor.Fr
open Go.RowKit Go.Proofs.YtghbaehbgefpaaaGreatDoor.F Go.Proofs.YtghbaehbgefpaaaGreatDoorW.PrintWords Go.Maps
open Go.Proofs.YtghbaehbgefpaaaGreatDoor.Hand (putV takeV scanV)
set_option linter.unusedVariables false
set_option linter.unusedSimpArgs false
section
variable {w : World}
set_option maxHeartbeats 16000000 in
set_option maxRecDepth 100000 in
theorem R_BlobPlays (hG : Hand2.Glob w) (room : Int) (wroom : (Lit.int .i64 room).wf = true) (A : Option Addr) (c : Nat) (l : List Ac7) (hA : Acs7 w A c l) :
    Calls Tryz.prog 7 #[.int .i64 room, .slice A l.length c] w fun e w' => e = .returned (.bool true) ∧ Below w.heap.size w w' := by
  have HG := Lib.hid hG
  have HA := Lib.hid hA
  have hcap := hA.cap
  have hroom := int_wf wroom
  obtain ⟨hp0, hp1⟩ := pickn_lt room 20000 (by decide)
  have HPK := Lib.hid fun W => pick7_call room 20000 hroom (by decide) W
  generalize pickI room 20000 = rm at hp0 hp1 HPK
  clear hG hA
  go_enter Tryz.func7, Tryz.ntmps7
  go_upto_region 4 with (first
    | (go_at_call 8; refine (shown7_call HG.out).mono ?_; rintro e w1 ⟨rfl, hb⟩; have HB1 := Lib.hid hb; clear hb)
    | (go_at_call 18; refine (small7_call (Kd.C_below HA.out.C HB1.out) HA.out.cap).mono ?_; rintro e w2 ⟨r1, rfl, ht, hb⟩; have HT1 := Lib.hid ht; have HB2 := Lib.hid (HB1.out.trans (hb.mono HB1.out.size)); clear ht hb)
    | (go_at_call 15; refine (HPK.out _).mono ?_; rintro e w3 ⟨rfl, hb⟩; have HB3 := Lib.hid (HB2.out.trans (hb.mono HB2.out.size)); clear hb)
    | (go_at_call 9; refine (begun7_sts _ (1 + rm) (by omega) (by omega)).mono ?_; rintro e w4 ⟨p, m, rfl, hs, hb⟩; obtain ⟨b0, hb0⟩ : ∃ b0, w4.heap.size = b0 := ⟨_, rfl⟩; obtain ⟨K, hK⟩ : ∃ K : Nat → Prop, K = fun k => k < w3.heap.size ∨ k = b0 := ⟨_, rfl⟩; have hl := law_begun7 HG.out HB3.out hs hb; rw [hb0] at hl; rw [← hK] at hl; have HL0' := Lib.hid hl; clear hs hb hl hK))
  have HL0 : Hid (Law w K m [(p, newT (1 + rm))] (newT (1 + rm)) [PBox7 p m b0] (w4.alloc (.cells #[.pointer (some ⟨p, 0, none⟩), .pointer (some ⟨m, 0, none⟩)] 27))) := HL0'.out
  clear HL0' HPK
  try rw [hb0]
  generalize w4.alloc (.cells #[.pointer (some ⟨p, 0, none⟩), .pointer (some ⟨m, 0, none⟩)] 27) = W0 at HL0 ⊢
  clear hb0
  have HI0 : Hid (Inv 0 (newT (1 + rm)) ∧ (newT (1 + rm)).room ≤ 20000) := ⟨inv_new (by omega) (by omega), by show 1 + rm ≤ 20000; omega⟩
  generalize newT (1 + rm) = T0 at HL0 HI0
  cases r1 with
  | false =>
    go_wp2_with fail
    go_ret
    exact ⟨rfl, HL0.out.bel⟩
  | true =>
    have HSM := Lib.hid (HT1.out rfl)
    clear HT1
    have hl40 := HSM.out.1
    go_upto_region 6 with fail
    have HN : Hid (16 * 0 + 40 ≤ 1000000) := by unfold Hid; decide
    obtain ⟨kn, hkn⟩ : ∃ kn, kn = 0 := ⟨0, rfl⟩
    rw [← hkn] at HN
    have hiv := inv_bOp HI0.out.1 dbB (Int.le_trans HI0.out.2 (by decide))
    have hkm := kept_many HI0.out.1 (Int.le_trans HI0.out.2 (by decide)) dbB
    have ho1 := HL0.out.open1 (nm := dbB) HI0.out.1 (by have := HN.out; omega) (Int.le_trans HI0.out.2 (by decide)) (by decide)
    have ho2 : ∀ (sv : Value) (W9 : World), Op1 w K m p (bOpT T0 dbB) T0 [PBox7 p m b0] dbB (keptL [] (openL T0 dbB)) (bOpE T0 dbB) sv W9 → _ := fun sv W9 h => h.open2 HI0.out.1 (by have := HN.out; omega) (Int.le_trans HI0.out.2 (by decide)) (by decide)
    have HI9 : Hid (Inv (16 * kn + 24) (bOpT T0 dbB) ∧ (bOpT T0 dbB).room ≤ 20000) := ⟨hiv.1.mono (by omega), by rw [hiv.2]; exact HI0.out.2⟩
    have HX9 : Hid ((keptL [] (openL T0 dbB)).length ≤ 60001) := hkm
    clear hiv hkm
    generalize bOpT T0 dbB = T9 at ho1 ho2 HI9
    generalize keptL [] (openL T0 dbB) = x9 at ho1 ho2 HX9
    generalize bOpE T0 dbB = e9 at ho1 ho2
    have HO1 := Lib.hid ho1
    have HO2 := Lib.hid ho2
    clear ho1 ho2
    obtain ⟨c0, c1⟩ := (HL0.out.va 0 rfl : PBox7 p m b0 _).cells
    go_upto_region 7 with (go_at_call 10; refine HO1.out.mono ?_; rintro e w2 ⟨sv, rfl, hl⟩; have HLS := Lib.hid hl; clear hl)
    clear c0 c1 HO1 HL0
    have HLl := Lib.hid HLS.out.law
    obtain ⟨c0, c1⟩ := (HLl.out.va 0 rfl : PBox7 p m b0 _).cells
    go_upto_region 9 with (go_at_call 19; refine (HO2.out _ _ HLS.out).mono ?_; rintro e w3 ⟨mv, rfl, hl⟩; have HTW := Lib.hid hl; clear hl)
    clear c0 c1 HO2 HLS HLl
    clear HN
    go_loopw [9, 10, 11, 12, 13] (fun sv ev mv fv i wr => ∃ (k : Nat) (T : TS) (xs : List ByteArray) (er : Int), k ≤ l.length ∧ i = .int .i64 k ∧ ev = .int .i64 er ∧ fv = .int .i64 er ∧ Hid (Inv (16 * k + 24) T ∧ T.room ≤ 20000) ∧ Hid (Op2 w K m p T [PBox7 p m b0] dbB xs er sv mv wr) ∧ Hid (xs.length ≤ 70000 + k))
      (fun _ _ _ _ i _ => l.length + 1 - (intOf i).toNat)
    case atStart => exact ⟨0, T9, x9, e9, Nat.zero_le _, rfl, rfl, rfl, by rw [hkn] at HI9; exact HI9, HTW, Nat.le_trans HX9.out (by omega)⟩
    case round =>
      clear HTW HI9 HX9 HI0 hkn
      obtain ⟨k, T, xs, er, hk, rfl, rfl, rfl, HI, HTW, HX⟩ := hrel
      rcases HTW.out with ⟨rfl, s, r, rfl, rfl, ht⟩ | ⟨he0, rfl, rfl, hl⟩
      · have HT := Lib.hid ht
        clear ht HTW
        obtain ⟨c0, c1⟩ := (HT.out.law.va 0 rfl : PBox7 p m b0 _).cells
        have hnn : (16 * k + 24 : Nat) ≤ 1000000 := by omega
        go_upto_region 12 with (go_at_call 20; refine (HT.out.law.sts.Alike7 HI.out.1 hnn).mono ?_; rintro e w2 ⟨rfl, hb⟩; have HTa := Lib.hid (HT.out.below hb); clear hb)
        clear c0 c1 HT
        by_cases hlk : k < l.length
        · skip
          have hq1 : ((k : Int) == (l.length : Int)) = false := beq_eq_false_iff_ne.2 (by omega)
          go_upto_region 16 with fail
          clear hq1
          obtain ⟨ad, A4, c4, e, hcs, hc4, hC4⟩ := HA.out.at hlk
          subst e
          have HOK := Lib.hid (HSM.out.2 _ (List.getElem_mem hlk))
          have HWF := Lib.hid (HA.out.wf _ (List.getElem_mem hlk))
          have HN : Hid (16 * k + 40 ≤ 1000000) := by unfold Hid; omega
          generalize l[k] = a at hcs hc4 hC4 HOK HWF
          have HC4 := Lib.hid hC4
          obtain ⟨f0, f1, f2, f3, f4⟩ := hcs.below (B := 0) HTa.out.bel
          clear hcs hC4
          go_upto_region 17 with fail
          have HLB := Lib.hid (HTa.out.box1 (.cells #[.int .i64 a.f0, .int .i64 a.f1, .int .i64 a.f2, .string a.f3, .slice A4 a.f4.length c4] 53))
          obtain ⟨b1, hb1⟩ : ∃ b1, w2.heap.size = b1 := ⟨_, rfl⟩
          obtain ⟨K1, hK1⟩ : ∃ K1 : Nat → Prop, K1 = fun k => K k ∨ k = w2.heap.size := ⟨_, rfl⟩
          have HKK : Hid (∀ k, K k → K1 k) := fun k hk => by rw [hK1]; exact .inl hk
          rw [← hK1] at HLB
          have HL1 : Hid (TW w K1 m p T T [ABox7 b1 a A4 c4, PBox7 p m b0] s r dbB xs xs (w2.alloc (.cells #[.int .i64 a.f0, .int .i64 a.f1, .int .i64 a.f2, .string a.f3, .slice A4 a.f4.length c4] 53))) := by rw [← hb1]; exact HLB.out
          clear HLB hK1 f0 f1 f2 f3 f4
          try rw [hb1]
          generalize w2.alloc (.cells #[.int .i64 a.f0, .int .i64 a.f1, .int .i64 a.f2, .string a.f3, .slice A4 a.f4.length c4] 53) = W1 at HL1 ⊢
          clear hb1
          have HL00 := Lib.hid HTa.out.law
          clear HTa
          obtain ⟨ho0, ho1⟩ := pickn_lt a.f0 8 (by decide)
          have HPK := Lib.hid fun W => pick7_call a.f0 8 HWF.out.1 (by decide) W
          generalize pickI a.f0 8 = op at ho0 ho1 HPK
          obtain ⟨c0, c1⟩ := (HL1.out.law.va 1 rfl : PBox7 p m b0 _).cells
          obtain ⟨e0, e1, e2, e3, e4⟩ := (HL1.out.law.va 0 rfl : ABox7 b1 a A4 c4 _).cells
          go_upto_region 18 with (go_at_call 15; refine (HPK.out _).mono ?_; rintro e w3 ⟨rfl, hb⟩; have HL2 := Lib.hid (HL1.out.below hb); clear hb)
          clear c0 c1 e0 e1 e2 e3 e4 HL1 HPK
          obtain ⟨kn, hkn⟩ : ∃ kn, k = kn := ⟨_, rfl⟩
          rw [hkn] at HI HN
          have HKN := Lib.hid hkn
          clear hkn
          by_cases hop5 : op < 5
          · skip
            have h6 : (op == 6) = false := beq_eq_false_iff_ne.2 (by omega)
            have h7 : (op == 7) = false := beq_eq_false_iff_ne.2 (by omega)
            have h5 : decide (op < 5) = true := decide_eq_true hop5
            have h55 : decide (5 ≤ op) = false := decide_eq_false (by omega)
            have hxl : xs.length ≤ 1000000 := by have := HX.out; omega
            have hid1 := HL2.out.Id HI.out.1 (by have := HN.out; omega) (by decide) a.f3 (Nat.le_trans HOK.out.1 (by decide)) hxl
            have hid2 : ∀ (T8 : TS) (l8 : List ByteArray) (W9 : World), TW w K1 m p T8 T [ABox7 b1 a A4 c4, PBox7 p m b0] s r dbB l8 xs W9 → _ := fun T8 l8 W9 h => h.rId HI.out.1 (by have := HN.out; omega) (by decide) a.f3 (Nat.le_trans HOK.out.1 (by decide)) hxl
            have hiv := inv_idT HI.out.1 dbB xs a.f3
            have HI9 : Hid (Inv (16 * (kn + 1) + 24) (idT T dbB xs a.f3) ∧ (idT T dbB xs a.f3).room ≤ 20000) := ⟨hiv.1.mono (by omega), by rw [hiv.2]; exact HI.out.2⟩
            have HX9 : Hid ((idL T dbB xs a.f3).length ≤ 70000 + (k + 1)) := by
              have := HX.out
              unfold Hid idL
              split
              · omega
              · split
                · rw [List.length_append]
                  show xs.length + 1 ≤ _
                  omega
                · omega
            clear hiv
            generalize idT T dbB xs a.f3 = T9 at hid1 hid2 HI9
            generalize idL T dbB xs a.f3 = x9 at hid1 hid2 HX9
            generalize idN T dbB xs a.f3 = n9 at hid1 hid2
            generalize idE T dbB xs a.f3 = e9 at hid1 hid2
            have HD1 := Lib.hid hid1
            have HD2 := Lib.hid hid2
            clear hid1 hid2
            have hn9 : (n9 != n9) = false := by simp
            have he9 : (e9 != e9) = false := by simp
            obtain ⟨c0, c1⟩ := (HL2.out.law.va 1 rfl : PBox7 p m b0 _).cells
            obtain ⟨e0, e1, e2, e3, e4⟩ := (HL2.out.law.va 0 rfl : ABox7 b1 a A4 c4 _).cells
            go_upto_region 20 with (go_at_call 11; refine HD1.out.mono ?_; rintro e w4 ⟨rfl, hl⟩; have HL3 := Lib.hid hl; clear hl)
            clear c0 c1 e0 e1 e2 e3 e4 HD1 HL2
            obtain ⟨c0, c1⟩ := (HL3.out.law.va 1 rfl : PBox7 p m b0 _).cells
            obtain ⟨e0, e1, e2, e3, e4⟩ := (HL3.out.law.va 0 rfl : ABox7 b1 a A4 c4 _).cells
            go_upto_region 21 with (go_at_call 21; refine (HD2.out _ _ _ HL3.out).mono ?_; rintro e w5 ⟨rfl, hl⟩; have HL4 := Lib.hid hl; clear hl)
            clear c0 c1 e0 e1 e2 e3 e4 HD2 HL3
            obtain ⟨c0, c1⟩ := (HL4.out.law.va 1 rfl : PBox7 p m b0 _).cells
            obtain ⟨e0, e1, e2, e3, e4⟩ := (HL4.out.law.va 0 rfl : ABox7 b1 a A4 c4 _).cells
            go_upto_region 26 with fail
            go_quiet (fail)
            have HL5 := Lib.hid (HL4.out.below (pw_below_drewN (Below.refl _ w5) nq))
            generalize w5.drewN nq = w6 at HL5 ⊢
            clear c0 c1 e0 e1 e2 e3 e4 HL4
            have hxl9 : x9.length ≤ 1000000 := by have := HX9.out; omega
            have ht1 := HL5.out.Text hxl9 a.f1
            have ht2 : ∀ W9, TW w K1 m p T9 T9 [ABox7 b1 a A4 c4, PBox7 p m b0] s r dbB x9 x9 W9 → _ := fun W9 h => h.rText hxl9 a.f1
            generalize (textN x9 a.f1).1 = tx at ht1 ht2
            generalize (textN x9 a.f1).2 = tb at ht1 ht2
            have HD1 := Lib.hid ht1
            have HD2 := Lib.hid ht2
            clear ht1 ht2
            have htb : (tb != tb) = false := by cases tb <;> rfl
            obtain ⟨c0, c1⟩ := (HL5.out.law.va 1 rfl : PBox7 p m b0 _).cells
            obtain ⟨e0, e1, e2, e3, e4⟩ := (HL5.out.law.va 0 rfl : ABox7 b1 a A4 c4 _).cells
            go_upto_region 32 with (go_at_call 12; refine HD1.out.mono ?_; rintro e w7 ⟨rfl, hl⟩; have HL6 := Lib.hid hl; clear hl)
            clear c0 c1 e0 e1 e2 e3 e4 HD1 HL5
            obtain ⟨c0, c1⟩ := (HL6.out.law.va 1 rfl : PBox7 p m b0 _).cells
            obtain ⟨e0, e1, e2, e3, e4⟩ := (HL6.out.law.va 0 rfl : ABox7 b1 a A4 c4 _).cells
            go_upto_region 33 with (go_at_call 25; refine (HD2.out _ HL6.out).mono ?_; rintro e w8 ⟨rfl, hl⟩; have HL7 := Lib.hid hl; clear hl)
            clear c0 c1 e0 e1 e2 e3 e4 HD2 HL6
            obtain ⟨c0, c1⟩ := (HL7.out.law.va 1 rfl : PBox7 p m b0 _).cells
            obtain ⟨e0, e1, e2, e3, e4⟩ := (HL7.out.law.va 0 rfl : ABox7 b1 a A4 c4 _).cells
            obtain ⟨v7, b7, D7, v8, hb7, hr7⟩ := HL7.out.ats
            obtain ⟨A8, n8, rfl⟩ := hr7.slice
            obtain ⟨d0, d1, d2⟩ := hr7.cells
            have HF1 : Hid (∀ n, Calls Tryz.prog 14 #[.pointer (some ⟨s, 0, none⟩)] (w8.drewN n) fun e W' => e = .returned (.int .i64 (x9.length : Nat)) ∧ W' = w8.drewN n) := fun n => len_same (hb7.kept (W' := w8.drewN n) fun _ _ => rfl)
            have HF2 : Hid (∀ n, Calls Tryz.prog 13 #[.pointer (some ⟨s, 0, none⟩), .string a.f3] (w8.drewN n) fun e W' => e = .returned (.int .i64 (idxB x9 a.f3 : Nat)) ∧ W' = w8.drewN n) := fun n => find_same (hb7.kept (W' := w8.drewN n) fun _ _ => rfl) a.f3 (Nat.le_trans HOK.out.1 (by decide))
            have HF3 : Hid (∀ n, Calls Tryz.prog 26 #[.pointer (some ⟨r, 0, none⟩), .string a.f3] (w8.drewN n) fun e W' => e = .returned (.int .i64 (idxB x9 a.f3 : Nat)) ∧ W' = w8.drewN n) := fun n => rb_find (hr7.kept (W' := w8.drewN n) fun _ _ => rfl) a.f3 hxl9
            clear hb7 hr7
            generalize idxB x9 a.f3 = fn at HF2 HF3
            have hl9 : ((x9.length : Int) != (x9.length : Int)) = false := by simp
            have hf9 : ((fn : Int) != (fn : Int)) = false := by simp
            have hx99 : (tx.toList != tx.toList) = false := by simp
            go_quiet (first
              | (go_at_call 14; exact Calls.quiet_of_same (HF1.out _))
              | (go_at_call 13; exact Calls.quiet_of_same (HF2.out _))
              | (go_at_call 26; exact Calls.quiet_of_same (HF3.out _)))
            have HL8 := Lib.hid (HL7.out.below (pw_below_drewN (Below.refl _ w8) nq))
            generalize w8.drewN nq = w9 at HL8 ⊢
            clear c0 c1 e0 e1 e2 e3 e4 d0 d1 d2 HF1 HF2 HF3 HL7
            go_wp2_with fail
            go_roundw
            case rel =>
              refine ⟨k + 1, T9, x9, 0, by omega, by go_num, rfl, rfl, by rw [HKN.out]; exact HI9.out, .inl ⟨rfl, s, r, rfl, rfl, HL8.out.drop HL00.out HKK.out (fun x hx => by rw [List.mem_singleton.1 hx]; exact List.mem_cons_of_mem _ (List.mem_cons_self ..))⟩, HX9.out⟩
            case measure => simp [intOf]; omega
          · have hop : op = 5 ∨ op = 6 ∨ op = 7 := by omega
            clear ho0 ho1 hop5
            have HLL := Lib.hid HL2.out.law
            clear HL2
            rcases hop with rfl | rfl | rfl
            · skip
              obtain ⟨c0, c1⟩ := (HLL.out.va 1 rfl : PBox7 p m b0 _).cells
              obtain ⟨e0, e1, e2, e3, e4⟩ := (HLL.out.va 0 rfl : ABox7 b1 a A4 c4 _).cells
              go_upto_region 26 with fail
              go_quiet (fail)
              have HL3 := Lib.hid (HLL.out.below (pw_below_drewN (Below.refl _ w3) nq))
              generalize w3.drewN nq = w6 at HL3 ⊢
              clear c0 c1 e0 e1 e2 e3 e4 HLL
              go_upto_region 29 with fail
              have hiv := inv_bOp HI.out.1 dbB (Int.le_trans HI.out.2 (by decide))
              have hkm := kept_many HI.out.1 (Int.le_trans HI.out.2 (by decide)) dbB
              have ho1 := HL3.out.open1 (nm := dbB) HI.out.1 (by have := HN.out; omega) (Int.le_trans HI.out.2 (by decide)) (by decide)
              have ho2 : ∀ (sv : Value) (W9 : World), Op1 w K1 m p (bOpT T dbB) T [ABox7 b1 a A4 c4, PBox7 p m b0] dbB (keptL [] (openL T dbB)) (bOpE T dbB) sv W9 → _ := fun sv W9 h => h.open2 HI.out.1 (by have := HN.out; omega) (Int.le_trans HI.out.2 (by decide)) (by decide)
              have HI9 : Hid (Inv (16 * kn + 32) (bOpT T dbB) ∧ (bOpT T dbB).room ≤ 20000) := ⟨hiv.1.mono (by omega), by rw [hiv.2]; exact HI.out.2⟩
              have HX9 : Hid ((keptL [] (openL T dbB)).length ≤ 60001) := hkm
              clear hiv hkm
              generalize bOpT T dbB = T9 at ho1 ho2 HI9
              generalize keptL [] (openL T dbB) = x9 at ho1 ho2 HX9
              generalize bOpE T dbB = e9 at ho1 ho2
              have HO1 := Lib.hid ho1
              have HO2 := Lib.hid ho2
              clear ho1 ho2
              obtain ⟨c0, c1⟩ := (HL3.out.va 1 rfl : PBox7 p m b0 _).cells
              obtain ⟨e0, e1, e2, e3, e4⟩ := (HL3.out.va 0 rfl : ABox7 b1 a A4 c4 _).cells
              go_upto_region 30 with (go_at_call 10; refine HO1.out.mono ?_; rintro e w2 ⟨sv, rfl, hl⟩; have HLS := Lib.hid hl; clear hl)
              clear c0 c1 e0 e1 e2 e3 e4 HO1 HL3
              have HLl := Lib.hid HLS.out.law
              obtain ⟨c0, c1⟩ := (HLl.out.va 1 rfl : PBox7 p m b0 _).cells
              obtain ⟨e0, e1, e2, e3, e4⟩ := (HLl.out.va 0 rfl : ABox7 b1 a A4 c4 _).cells
              go_wp2_with (go_at_call 19; refine (HO2.out _ _ HLS.out).mono ?_; rintro e w3 ⟨mv, rfl, hl⟩; have HTW := Lib.hid hl; clear hl)
              clear c0 c1 e0 e1 e2 e3 e4 HO2 HLS HLl
              go_roundw
              case rel =>
                refine ⟨k + 1, T9, x9, e9, by omega, by go_num, rfl, rfl, by rw [HKN.out]; exact ⟨HI9.out.1.mono (by omega), HI9.out.2⟩, HTW.out.drop HL00.out HKK.out (fun x hx => by rw [List.mem_singleton.1 hx]; exact List.mem_cons_of_mem _ (List.mem_cons_self ..)), Nat.le_trans HX9.out (by omega)⟩
              case measure => simp [intOf]; omega
            · skip
              have HI2 : Hid (Inv (16 * kn + 25) (crashT T a.f1 a.f2) ∧ (crashT T a.f1 a.f2).room ≤ 20000) := ⟨(inv_crash HI.out.1 a.f1 a.f2).mono (by omega), HI.out.2⟩
              obtain ⟨c0, c1⟩ := (HLL.out.va 1 rfl : PBox7 p m b0 _).cells
              obtain ⟨e0, e1, e2, e3, e4⟩ := (HLL.out.va 0 rfl : ABox7 b1 a A4 c4 _).cells
              go_upto_region 25 with (go_at_call 17; refine (HLL.out.sts.Crash (i := 0) rfl HLL.out.glob.g HI.out.1 (by have := HN.out; omega) a.f1 a.f2 HWF.out.2).mono ?_; rintro e w4 ⟨rfl, hs, hk⟩; have HL3 : Hid (Law w K1 m [(p, crashT T a.f1 a.f2)] T [ABox7 b1 a A4 c4, PBox7 p m b0] w4) := HLL.out.step hs hk; clear hs hk)
              clear c0 c1 e0 e1 e2 e3 e4 HLL
              obtain ⟨c0, c1⟩ := (HL3.out.va 1 rfl : PBox7 p m b0 _).cells
              obtain ⟨e0, e1, e2, e3, e4⟩ := (HL3.out.va 0 rfl : ABox7 b1 a A4 c4 _).cells
              go_upto_region 26 with (go_at_call 22; refine (HL3.out.sts.rCrash HI.out.1 (by have := HN.out; omega) a.f1 a.f2).mono ?_; rintro e w5 ⟨rfl, hs, hk⟩; have HL4 : Hid (Law w K1 m [(p, crashT T a.f1 a.f2)] (crashT T a.f1 a.f2) [ABox7 b1 a A4 c4, PBox7 p m b0] w5) := HL3.out.step hs hk; clear hs hk)
              clear c0 c1 e0 e1 e2 e3 e4 HL3
              generalize crashT T a.f1 a.f2 = T2 at HI2 HL4
              obtain ⟨c0, c1⟩ := (HL4.out.va 1 rfl : PBox7 p m b0 _).cells
              obtain ⟨e0, e1, e2, e3, e4⟩ := (HL4.out.va 0 rfl : ABox7 b1 a A4 c4 _).cells
              go_quiet (fail)
              have HL5 := Lib.hid (HL4.out.below (pw_below_drewN (Below.refl _ w5) nq))
              generalize w5.drewN nq = w6 at HL5 ⊢
              clear c0 c1 e0 e1 e2 e3 e4 HL4
              go_upto_region 29 with fail
              have hiv := inv_bOp HI2.out.1 dbB (Int.le_trans HI2.out.2 (by decide))
              have hkm := kept_many HI2.out.1 (Int.le_trans HI2.out.2 (by decide)) dbB
              have ho1 := HL5.out.open1 (nm := dbB) HI2.out.1 (by have := HN.out; omega) (Int.le_trans HI2.out.2 (by decide)) (by decide)
              have ho2 : ∀ (sv : Value) (W9 : World), Op1 w K1 m p (bOpT T2 dbB) T2 [ABox7 b1 a A4 c4, PBox7 p m b0] dbB (keptL [] (openL T2 dbB)) (bOpE T2 dbB) sv W9 → _ := fun sv W9 h => h.open2 HI2.out.1 (by have := HN.out; omega) (Int.le_trans HI2.out.2 (by decide)) (by decide)
              have HI9 : Hid (Inv (16 * kn + 32) (bOpT T2 dbB) ∧ (bOpT T2 dbB).room ≤ 20000) := ⟨hiv.1.mono (by omega), by rw [hiv.2]; exact HI2.out.2⟩
              have HX9 : Hid ((keptL [] (openL T2 dbB)).length ≤ 60001) := hkm
              clear hiv hkm
              generalize bOpT T2 dbB = T9 at ho1 ho2 HI9
              generalize keptL [] (openL T2 dbB) = x9 at ho1 ho2 HX9
              generalize bOpE T2 dbB = e9 at ho1 ho2
              have HO1 := Lib.hid ho1
              have HO2 := Lib.hid ho2
              clear ho1 ho2
              obtain ⟨c0, c1⟩ := (HL5.out.va 1 rfl : PBox7 p m b0 _).cells
              obtain ⟨e0, e1, e2, e3, e4⟩ := (HL5.out.va 0 rfl : ABox7 b1 a A4 c4 _).cells
              go_upto_region 30 with (go_at_call 10; refine HO1.out.mono ?_; rintro e w2 ⟨sv, rfl, hl⟩; have HLS := Lib.hid hl; clear hl)
              clear c0 c1 e0 e1 e2 e3 e4 HO1 HL5
              have HLl := Lib.hid HLS.out.law
              obtain ⟨c0, c1⟩ := (HLl.out.va 1 rfl : PBox7 p m b0 _).cells
              obtain ⟨e0, e1, e2, e3, e4⟩ := (HLl.out.va 0 rfl : ABox7 b1 a A4 c4 _).cells
              go_wp2_with (go_at_call 19; refine (HO2.out _ _ HLS.out).mono ?_; rintro e w3 ⟨mv, rfl, hl⟩; have HTW := Lib.hid hl; clear hl)
              clear c0 c1 e0 e1 e2 e3 e4 HO2 HLS HLl
              go_roundw
              case rel =>
                refine ⟨k + 1, T9, x9, e9, by omega, by go_num, rfl, rfl, by rw [HKN.out]; exact ⟨HI9.out.1.mono (by omega), HI9.out.2⟩, HTW.out.drop HL00.out HKK.out (fun x hx => by rw [List.mem_singleton.1 hx]; exact List.mem_cons_of_mem _ (List.mem_cons_self ..)), Nat.le_trans HX9.out (by omega)⟩
              case measure => simp [intOf]; omega
            · skip
              have HI2 : Hid (Inv (16 * kn + 25) (addT T dbB a.f4) ∧ (addT T dbB a.f4).room ≤ 20000) := ⟨inv_add HI.out.1 dbB _, by rw [add_room]; exact HI.out.2⟩
              have HFX : Hid (∀ x ∈ a.f4, x.size ≤ 100000) := fun x hx => Nat.le_trans (HOK.out.2.2 x hx) (by decide)
              obtain ⟨er, her⟩ : ∃ er, addE T dbB a.f4 = er := ⟨_, rfl⟩
              obtain ⟨T2, hT2⟩ : ∃ T2, addT T dbB a.f4 = T2 := ⟨_, rfl⟩
              rw [hT2] at HI2
              have HER := Lib.hid her
              have HT2 := Lib.hid hT2
              clear her hT2
              have hee : (er != er) = false := by simp
              go_upto_region 26 with fail
              have HL2d : Hid (Law w K1 m [(p, T)] T [ABox7 b1 a A4 c4, PBox7 p m b0] (World.drew _)) := HLL.out.below (Below.refl _ _).drew
              obtain ⟨c0, c1⟩ := (HLL.out.va 1 rfl : PBox7 p m b0 _).cells
              obtain ⟨e0, e1, e2, e3, e4⟩ := (HLL.out.va 0 rfl : ABox7 b1 a A4 c4 _).cells
              (go_region_held3 (fun W => (W.cell? ⟨b0, 0, none⟩ = some (.pointer (some ⟨p, 0, none⟩)) ∧ W.cell? ⟨b0, 1, none⟩ = some (.pointer (some ⟨m, 0, none⟩)) ∧ W.cell? ⟨b1, 4, none⟩ = some (.slice A4 a.f4.length c4)) ∧ Hid (Below w.heap.size w W)) (first | exact ⟨⟨(HL4.out.va 1 rfl : PBox7 p m b0 _).cells.1, (HL4.out.va 1 rfl : PBox7 p m b0 _).cells.2, (HL4.out.va 0 rfl : ABox7 b1 a A4 c4 _).cells.2.2.2.2⟩, HL4.out.bel⟩ | exact ⟨⟨(HL3.out.va 1 rfl : PBox7 p m b0 _).cells.1, (HL3.out.va 1 rfl : PBox7 p m b0 _).cells.2, (HL3.out.va 0 rfl : ABox7 b1 a A4 c4 _).cells.2.2.2.2⟩, HL3.out.bel⟩ | exact ⟨⟨(HL2d.out.va 1 rfl : PBox7 p m b0 _).cells.1, (HL2d.out.va 1 rfl : PBox7 p m b0 _).cells.2, (HL2d.out.va 0 rfl : ABox7 b1 a A4 c4 _).cells.2.2.2.2⟩, HL2d.out.bel⟩) (first
                | (go_at_call 23; refine (HL2d.out.sts.jAdd (i := 0) rfl HL2d.out.glob HI.out.1 (by have := HN.out; omega) dbB (by decide) A4 c4 a.f4 (Kd.C_below HC4.out HL2d.out.bel) hc4 HFX.out).mono ?_; rintro e w4 ⟨rfl, hs, hk⟩; rw [HER.out]; rw [HT2.out] at hs; have HL3 : Hid (Law w K1 m [(p, T2)] T [ABox7 b1 a A4 c4, PBox7 p m b0] w4) := HL2d.out.step hs hk; clear hs hk)
                | (go_at_call 24; refine (HL3.out.sts.rjAdd HI.out.1 (by have := HN.out; omega) dbB (by decide) A4 c4 a.f4 (Kd.C_below HC4.out HL3.out.bel) hc4 HFX.out).mono ?_; rintro e w5 ⟨rfl, hs, hk⟩; rw [HER.out]; rw [HT2.out] at hs; have HL4 : Hid (Law w K1 m [(p, T2)] T2 [ABox7 b1 a A4 c4, PBox7 p m b0] w5) := HL3.out.step hs hk; clear hs hk)))
              clear c0 c1 e0 e1 e2 e3 e4 HLL HL2d HL3 HER HT2
              go_upto_region 29 with fail
              have hiv := inv_bOp HI2.out.1 dbB (Int.le_trans HI2.out.2 (by decide))
              have hkm := kept_many HI2.out.1 (Int.le_trans HI2.out.2 (by decide)) dbB
              have ho1 := HL4.out.open1 (nm := dbB) HI2.out.1 (by have := HN.out; omega) (Int.le_trans HI2.out.2 (by decide)) (by decide)
              have ho2 : ∀ (sv : Value) (W9 : World), Op1 w K1 m p (bOpT T2 dbB) T2 [ABox7 b1 a A4 c4, PBox7 p m b0] dbB (keptL [] (openL T2 dbB)) (bOpE T2 dbB) sv W9 → _ := fun sv W9 h => h.open2 HI2.out.1 (by have := HN.out; omega) (Int.le_trans HI2.out.2 (by decide)) (by decide)
              have HI9 : Hid (Inv (16 * kn + 32) (bOpT T2 dbB) ∧ (bOpT T2 dbB).room ≤ 20000) := ⟨hiv.1.mono (by omega), by rw [hiv.2]; exact HI2.out.2⟩
              have HX9 : Hid ((keptL [] (openL T2 dbB)).length ≤ 60001) := hkm
              clear hiv hkm
              generalize bOpT T2 dbB = T9 at ho1 ho2 HI9
              generalize keptL [] (openL T2 dbB) = x9 at ho1 ho2 HX9
              generalize bOpE T2 dbB = e9 at ho1 ho2
              have HO1 := Lib.hid ho1
              have HO2 := Lib.hid ho2
              clear ho1 ho2
              obtain ⟨c0, c1⟩ := (HL4.out.va 1 rfl : PBox7 p m b0 _).cells
              obtain ⟨e0, e1, e2, e3, e4⟩ := (HL4.out.va 0 rfl : ABox7 b1 a A4 c4 _).cells
              go_upto_region 30 with (go_at_call 10; refine HO1.out.mono ?_; rintro e w2 ⟨sv, rfl, hl⟩; have HLS := Lib.hid hl; clear hl)
              clear c0 c1 e0 e1 e2 e3 e4 HO1 HL4
              have HLl := Lib.hid HLS.out.law
              obtain ⟨c0, c1⟩ := (HLl.out.va 1 rfl : PBox7 p m b0 _).cells
              obtain ⟨e0, e1, e2, e3, e4⟩ := (HLl.out.va 0 rfl : ABox7 b1 a A4 c4 _).cells
              go_wp2_with (go_at_call 19; refine (HO2.out _ _ HLS.out).mono ?_; rintro e w3 ⟨mv, rfl, hl⟩; have HTW := Lib.hid hl; clear hl)
              clear c0 c1 e0 e1 e2 e3 e4 HO2 HLS HLl
              go_roundw
              case rel =>
                refine ⟨k + 1, T9, x9, e9, by omega, by go_num, rfl, rfl, by rw [HKN.out]; exact ⟨HI9.out.1.mono (by omega), HI9.out.2⟩, HTW.out.drop HL00.out HKK.out (fun x hx => by rw [List.mem_singleton.1 hx]; exact List.mem_cons_of_mem _ (List.mem_cons_self ..)), Nat.le_trans HX9.out (by omega)⟩
              case measure => simp [intOf]; omega
        · obtain rfl : k = l.length := by omega
          go_wp2_with fail
          go_ret
          exact ⟨rfl, HTa.out.bel⟩
      · have HL := Lib.hid hl
        clear hl HTW
        obtain ⟨c0, c1⟩ := (HL.out.va 0 rfl : PBox7 p m b0 _).cells
        have hne : (er != er) = false := by simp
        have hnn : (16 * k + 24 : Nat) ≤ 1000000 := by omega
        go_wp2_with (go_at_call 20; refine (HL.out.sts.Alike7 HI.out.1 hnn).mono ?_; rintro e w2 ⟨rfl, hb⟩; have HLa := Lib.hid (HL.out.below hb); clear hb)
        go_ret
        exact ⟨rfl, HLa.out.bel⟩
end
end Go.Proofs.YtghbaehbgefpaaaGreatDoor.Fr
