import Derived.Test.YtgdanenhbjfhaaaGreatDoorQ38
/- JournalPlays. -/
namespace Go.Proofs.YtgdanenhbjfhaaaGreatDoor.Fr
open Go.RowKit Go.Proofs.YtgdanenhbjfhaaaGreatDoor.F Go.Proofs.YtgdanenhbjfhaaaGreatDoorW.PrintWords
open Go.Proofs.YtgdanenhbjfhaaaGreatDoor.Hand (putV takeV scanV)
set_option linter.unusedVariables false
set_option linter.unusedSimpArgs false
section
variable {w : World}
set_option maxHeartbeats 16000000 in
set_option maxRecDepth 100000 in
theorem R_JournalPlays (hG : Hand2.Glob w) (room : Int) (wroom : (Lit.int .i64 room).wf = true) (A : Option Addr) (c : Nat) (l : List Ac6) (hA : Acs6 w A c l) :
    Calls Tryz.prog 3 #[.int .i64 room, .slice A l.length c] w fun e w' => e = .returned (.bool true) ∧ Below w.heap.size w w' := by
  have HG := Lib.hid hG
  have HA := Lib.hid hA
  have hcap := hA.cap
  have hroom := int_wf wroom
  obtain ⟨hp0, hp1⟩ := pickn_lt room 3000 (by decide)
  have HPK := Lib.hid fun W => pick6_call room 3000 hroom (by decide) W
  generalize pickI room 3000 = rm at hp0 hp1 HPK
  clear hG hA
  go_enter Tryz.func3, Tryz.ntmps3
  go_upto_region 4 with (first
    | (go_at_call 4; refine (shown6_call HG.out).mono ?_; rintro e w1 ⟨rfl, hb⟩; have HB1 := Lib.hid hb; clear hb)
    | (go_at_call 5; refine (small6_call (Kd.C_below HA.out.C HB1.out) HA.out.cap).mono ?_; rintro e w2 ⟨r1, rfl, ht, hb⟩; have HT1 := Lib.hid ht; have HB2 := Lib.hid (HB1.out.trans (hb.mono HB1.out.size)); clear ht hb)
    | (go_at_call 7; refine (HPK.out _).mono ?_; rintro e w3 ⟨rfl, hb⟩; have HB3 := Lib.hid (HB2.out.trans (hb.mono HB2.out.size)); clear hb)
    | (go_at_call 6; refine (begun6_sts _ (1 + rm) (by omega) (by omega)).mono ?_; rintro e w4 ⟨p, m, rfl, hs, hb⟩; obtain ⟨b0, hb0⟩ : ∃ b0, w4.heap.size = b0 := ⟨_, rfl⟩; obtain ⟨K, hK⟩ : ∃ K : Nat → Prop, K = fun k => k < w3.heap.size ∨ k = b0 := ⟨_, rfl⟩; have hl := law_begun6 HG.out HB3.out hs hb; rw [hb0] at hl; rw [← hK] at hl; have HL0' := Lib.hid hl; clear hs hb hl hK))
  have HL0 : Hid (Law w K m [(p, newT (1 + rm))] (newT (1 + rm)) [PBox6 p m b0] (w4.alloc (.cells #[.pointer (some ⟨p, 0, none⟩), .pointer (some ⟨m, 0, none⟩)] 28))) := HL0'.out
  clear HL0' HPK
  try rw [hb0]
  generalize w4.alloc (.cells #[.pointer (some ⟨p, 0, none⟩), .pointer (some ⟨m, 0, none⟩)] 28) = W0 at HL0 ⊢
  clear hb0
  have HI0 : Hid (Inv 0 (newT (1 + rm)) ∧ (newT (1 + rm)).room ≤ 3000) := ⟨inv_new (by omega) (by omega), by show 1 + rm ≤ 3000; omega⟩
  generalize newT (1 + rm) = T0 at HL0 HI0
  cases r1 with
  | false =>
    go_wp2_with fail
    go_ret
    exact ⟨rfl, HL0.out.bel⟩
  | true =>
    have HSM := Lib.hid (HT1.out rfl)
    clear HT1
    have hl40 := HSM.out.1
    go_upto_region 7 with fail
    go_loopw [9] (fun i wr => ∃ (k : Nat) (T : TS), k ≤ l.length ∧ i = .int .i64 k ∧ Hid (Law w K m [(p, T)] T [PBox6 p m b0] wr) ∧ Hid (Inv (8 * k) T ∧ T.room ≤ 3000))
      (fun i _ => l.length - (intOf i).toNat)
    case atStart => exact ⟨0, T0, Nat.zero_le _, rfl, HL0.out, HI0.out⟩
    case round =>
      clear HL0 HI0
      obtain ⟨k, T, hk, rfl, HL0, HI⟩ := hrel
      by_cases hlk : k < l.length
      · obtain ⟨ad, A4, c4, e, hcs, hc4, hC4⟩ := HA.out.at hlk
        subst e
        have HOK := Lib.hid (HSM.out.2 _ (List.getElem_mem hlk))
        have HWF := Lib.hid (HA.out.wf _ (List.getElem_mem hlk))
        have HN : Hid (8 * k + 8 ≤ 1000000) := by unfold Hid; omega
        generalize l[k] = a at hcs hc4 hC4 HOK HWF
        have HC4 := Lib.hid hC4
        obtain ⟨f0, f1, f2, f3, f4, f5⟩ := (A6At.mk hcs.1 hcs.2.1 hcs.2.2.1 hcs.2.2.2.1 hcs.2.2.2.2.1 hcs.2.2.2.2.2).below (B := 0) HL0.out.bel
        clear hcs hC4
        go_upto_region 10 with fail
        have HLB := Lib.hid (HL0.out.box1 (.cells #[.int .i64 a.f0, .int .i64 a.f1, .int .i64 a.f2, .string a.f3, .slice A4 a.f4.length c4, .string a.f5] 34))
        obtain ⟨b1, hb1⟩ : ∃ b1, wr.heap.size = b1 := ⟨_, rfl⟩
        obtain ⟨K1, hK1⟩ : ∃ K1 : Nat → Prop, K1 = fun k => K k ∨ k = wr.heap.size := ⟨_, rfl⟩
        have HKK : Hid (∀ k, K k → K1 k) := fun k hk => by rw [hK1]; exact .inl hk
        rw [← hK1] at HLB
        have HL1 : Hid (Law w K1 m [(p, T)] T [ABox b1 a A4 c4, PBox6 p m b0] (wr.alloc (.cells #[.int .i64 a.f0, .int .i64 a.f1, .int .i64 a.f2, .string a.f3, .slice A4 a.f4.length c4, .string a.f5] 34))) := by rw [← hb1]; exact HLB.out
        clear HLB hK1 f0 f1 f2 f3 f4 f5
        try rw [hb1]
        generalize wr.alloc (.cells #[.int .i64 a.f0, .int .i64 a.f1, .int .i64 a.f2, .string a.f3, .slice A4 a.f4.length c4, .string a.f5] 34) = W1 at HL1 ⊢
        clear hb1
        obtain ⟨ho0, ho1⟩ := pickn_lt a.f0 8 (by decide)
        have HPK := Lib.hid fun W => pick6_call a.f0 8 HWF.out.1 (by decide) W
        generalize pickI a.f0 8 = op at ho0 ho1 HPK
        obtain ⟨c0, c1⟩ := (HL1.out.va 1 rfl : PBox6 p m b0 _).cells
        obtain ⟨e0, e1, e2, e3, e4, e5⟩ := (HL1.out.va 0 rfl : ABox b1 a A4 c4 _).cells
        go_upto_region 12 with (go_at_call 7; refine (HPK.out _).mono ?_; rintro e w2 ⟨rfl, hb⟩; have HL2 := Lib.hid (HL1.out.below hb); clear hb)
        clear c0 c1 e0 e1 e2 e3 e4 e5 HL1 HPK
        have hop : (op = 0 ∨ op = 1 ∨ op = 2) ∨ op = 3 ∨ op = 4 ∨ op = 5 ∨ op = 6 ∨ op = 7 := by omega
        clear ho0 ho1
        have HSZ : Hid (a.f3.size ≤ 99000) := Nat.le_trans HOK.out.2.1 (by decide)
        have HSX : Hid (a.f5.size ≤ 1000000000) := Nat.le_trans HOK.out.2.2 (by decide)
        rcases hop with hop | rfl | rfl | rfl | rfl | rfl
        · rcases hop with rfl | rfl | rfl
          all_goals
            obtain ⟨Af, cf, hcf, hCf, hfi⟩ := first_at HC4.out hc4
            have HCF := Lib.hid hCf
            have HFI := Lib.hid hfi
            have HFX := Lib.hid (fstL_tiny HOK.out.1)
            clear hCf hfi
            have HI2 : Hid (Inv (8 * k + 4) (addT T a.f3 (fstL a.f4)) ∧ (addT T a.f3 (fstL a.f4)).room ≤ 3000) := ⟨(inv_add HI.out.1 a.f3 _).mono (by omega), by rw [add_room]; exact HI.out.2⟩
            obtain ⟨er, her⟩ : ∃ er, addE T a.f3 (fstL a.f4) = er := ⟨_, rfl⟩
            obtain ⟨T2, hT2⟩ : ∃ T2, addT T a.f3 (fstL a.f4) = T2 := ⟨_, rfl⟩
            rw [hT2] at HI2
            have HER := Lib.hid her
            have HT2 := Lib.hid hT2
            clear her hT2
            have hee : (er == er) = true := beq_self_eq_true _
            go_upto_region 15 with fail
            have HL2d : Hid (Law w K1 m [(p, T)] T [ABox b1 a A4 c4, PBox6 p m b0] (World.drew _)) := HL2.out.below (Below.refl _ _).drew
            obtain ⟨c0, c1⟩ := (HL2.out.va 1 rfl : PBox6 p m b0 _).cells
            obtain ⟨e0, e1, e2, e3, e4, e5⟩ := (HL2.out.va 0 rfl : ABox b1 a A4 c4 _).cells
            (go_region_held3 (fun W => (W.cell? ⟨b0, 0, none⟩ = some (.pointer (some ⟨p, 0, none⟩)) ∧ W.cell? ⟨b0, 1, none⟩ = some (.pointer (some ⟨m, 0, none⟩)) ∧ W.cell? ⟨b1, 3, none⟩ = some (.string a.f3) ∧ W.cell? ⟨b1, 4, none⟩ = some (.slice A4 a.f4.length c4) ∧ W.cell? ⟨b1, 5, none⟩ = some (.string a.f5)) ∧ Hid (Below w.heap.size w W)) (first | exact ⟨⟨(HL4.out.va 1 rfl : PBox6 p m b0 _).cells.1, (HL4.out.va 1 rfl : PBox6 p m b0 _).cells.2, (HL4.out.va 0 rfl : ABox b1 a A4 c4 _).cells.2.2.2.1, (HL4.out.va 0 rfl : ABox b1 a A4 c4 _).cells.2.2.2.2.1, (HL4.out.va 0 rfl : ABox b1 a A4 c4 _).cells.2.2.2.2.2⟩, HL4.out.bel⟩ | exact ⟨⟨(HL3.out.va 1 rfl : PBox6 p m b0 _).cells.1, (HL3.out.va 1 rfl : PBox6 p m b0 _).cells.2, (HL3.out.va 0 rfl : ABox b1 a A4 c4 _).cells.2.2.2.1, (HL3.out.va 0 rfl : ABox b1 a A4 c4 _).cells.2.2.2.2.1, (HL3.out.va 0 rfl : ABox b1 a A4 c4 _).cells.2.2.2.2.2⟩, HL3.out.bel⟩ | exact ⟨⟨(HL2d.out.va 1 rfl : PBox6 p m b0 _).cells.1, (HL2d.out.va 1 rfl : PBox6 p m b0 _).cells.2, (HL2d.out.va 0 rfl : ABox b1 a A4 c4 _).cells.2.2.2.1, (HL2d.out.va 0 rfl : ABox b1 a A4 c4 _).cells.2.2.2.2.1, (HL2d.out.va 0 rfl : ABox b1 a A4 c4 _).cells.2.2.2.2.2⟩, HL2d.out.bel⟩) (first
              | (go_at_call 9; refine (HFI.out _ (by first | exact HL3.out.bel | exact HL2d.out.bel)).mono ?_; rintro e w1 ⟨rfl, rfl⟩)
              | (go_at_call 8; refine (HL2d.out.sts.jAdd (i := 0) rfl HL2d.out.glob HI.out.1 (by have := HN.out; omega) a.f3 HSZ.out Af cf (fstL a.f4) (Kd.C_below HCF.out HL2d.out.bel) hcf HFX.out).mono ?_; rintro e w2 ⟨rfl, hs, hk⟩; rw [HER.out]; rw [HT2.out] at hs; have HL3 : Hid (Law w K1 m [(p, T2)] T [ABox b1 a A4 c4, PBox6 p m b0] w2) := HL2d.out.step hs hk; clear hs hk)
              | (go_at_call 10; refine (HL3.out.sts.rjAdd HI.out.1 (by have := HN.out; omega) a.f3 HSZ.out Af cf (fstL a.f4) (Kd.C_below HCF.out HL3.out.bel) hcf HFX.out).mono ?_; rintro e w2 ⟨rfl, hs, hk⟩; rw [HER.out]; rw [HT2.out] at hs; have HL4 : Hid (Law w K1 m [(p, T2)] T2 [ABox b1 a A4 c4, PBox6 p m b0] w2) := HL3.out.step hs hk; clear hs hk)))
            clear c0 c1 e0 e1 e2 e3 e4 e5 HL2 HL2d HL3 HER HT2
            go_upto_region 30 with fail
            obtain ⟨ls, hls⟩ : ∃ ls, readL T2 a.f3 = ls := ⟨_, rfl⟩
            obtain ⟨bw, hbw⟩ : ∃ bw, readW T2 a.f3 = bw := ⟨_, rfl⟩
            have hlen := read_lens HI2.out.1 (Int.le_trans HI2.out.2 (by decide)) a.f3
            rw [hls] at hlen
            have LENS := Lib.hid hlen
            have hr1 := HL4.out.sts.jRead (i := 0) rfl HL4.out.glob HI2.out.1 (Int.le_trans HI2.out.2 (by decide)) a.f3 (Nat.le_trans HSZ.out (by decide))
            rw [hls, hbw] at hr1
            have HR1 := Lib.hid hr1
            have HR2 : Hid (∀ (K9 : Nat → Prop) (W9 : World), Sts K9 [(p, T2)] m T2 W9 → Calls Tryz.prog 23 #[.pointer (some ⟨m, 0, none⟩), .string a.f3] W9 (RdEnd W9 ls bw)) := fun K9 W9 h9 => by
              have := h9.rjRead HI2.out.1 (Int.le_trans HI2.out.2 (by decide)) a.f3
              rw [hls, hbw] at this
              exact this
            clear hls hbw hlen hr1
            have hbb : (bw != bw) = false := by cases bw <;> rfl
            obtain ⟨c0, c1⟩ := (HL4.out.va 1 rfl : PBox6 p m b0 _).cells
            obtain ⟨e0, e1, e2, e3, e4, e5⟩ := (HL4.out.va 0 rfl : ABox b1 a A4 c4 _).cells
            go_upto_region 31 with (go_at_call 22; refine HR1.out.mono ?_; rintro e w2 ⟨v1, rfl, hv, hb⟩; obtain ⟨Ax, nx, rfl⟩ := Kd.S_slice hv; obtain ⟨Ka, Oa, hl9, hkk⟩ := HL4.out.reads hb hv; have HLa := Lib.hid hl9; have HKa := Lib.hid hkk; clear hv hb hl9 hkk)
            clear c0 c1 e0 e1 e2 e3 e4 e5 HR1 HL4
            obtain ⟨c0, c1⟩ := (HLa.out.va 2 rfl : PBox6 p m b0 _).cells
            obtain ⟨e0, e1, e2, e3, e4, e5⟩ := (HLa.out.va 1 rfl : ABox b1 a A4 c4 _).cells
            go_upto_region 32 with (go_at_call 23; refine (HR2.out _ _ HLa.out.sts).mono ?_; rintro e w2 ⟨v2, rfl, hv, hb⟩; obtain ⟨Ay, ny, rfl⟩ := Kd.S_slice hv; obtain ⟨Kb, Ob, hl9, hkk⟩ := HLa.out.reads hb hv; have HLb := Lib.hid hl9; have HKb := Lib.hid hkk; clear hv hb hl9 hkk)
            clear c0 c1 e0 e1 e2 e3 e4 e5 HR2 HLa
            obtain ⟨c0, c1⟩ := (HLb.out.va 3 rfl : PBox6 p m b0 _).cells
            obtain ⟨e0, e1, e2, e3, e4, e5⟩ := (HLb.out.va 2 rfl : ABox b1 a A4 c4 _).cells
            go_upto_region 33 with (go_at_call 24; refine (HLb.out.sts.Alike6 HI2.out.1 (by have := HN.out; omega)).mono ?_; rintro e w2 ⟨rfl, hb⟩; have HLc := Lib.hid (HLb.out.below hb); clear hb)
            clear c0 c1 e0 e1 e2 e3 e4 e5 HLb
            obtain ⟨-, hy1, hY1⟩ := Kd.S_reads' (HLc.out.va 0 rfl : Kd.S kLL _ _ _ _ (Value.slice Ay _ ny) ls)
            obtain ⟨-, hx1, hX1⟩ := Kd.S_reads' (HLc.out.va 1 rfl : Kd.S kLL _ _ _ _ (Value.slice Ax _ nx) ls)
            have SX := Lib.hid (same_at hX1 hx1 hY1 hy1 LENS.out (decide_eq_true rfl))
            clear hy1 hY1 hx1 hX1
            go_wp2_with (go_at_call 13; ((with_reducible refine (SX.out.at _ (Below.refl _ _)).mono ?_); rintro e w20 ⟨rfl, hb⟩; have HLd := Lib.hid (HLc.out.below hb); clear hb))
            go_roundw
            case rel =>
              refine ⟨k + 1, T2, by omega, by go_num, HLd.out.drop HL0.out (fun k hk => HKb.out k (HKa.out k (HKK.out k hk))) (fun x hx => by rw [List.mem_singleton.1 hx]; repeat (first | exact List.mem_cons_self .. | refine List.mem_cons_of_mem _ ?_)), HI2.out.1.mono (by omega), HI2.out.2⟩
            case measure => simp [intOf]; omega
        · skip
          have HI2 : Hid (Inv (8 * k + 4) (openT T a.f3) ∧ (openT T a.f3).room ≤ 3000) := ⟨inv_open HI.out.1 a.f3 (Int.le_trans HI.out.2 (by decide)), by rw [open_room]; exact HI.out.2⟩
          have hlo := openL_lens HI.out.1 (Int.le_trans HI.out.2 (by decide)) a.f3
          have hj := HL2.out.sts.jOpen (i := 0) rfl HL2.out.gk HI.out.1 (by have := HN.out; omega) (Int.le_trans HI.out.2 (by decide)) a.f3 HSZ.out
          have HRJ : Hid (∀ (K9 : Nat → Prop) (L9 : List (Nat × TS)) (W9 : World), Sts K9 L9 m T W9 → Calls Tryz.prog 12 #[.pointer (some ⟨m, 0, none⟩), .string a.f3] W9 (JOEnd K9 L9 m (openT T a.f3) W9 (openL T a.f3) (openE T a.f3))) := fun K9 L9 W9 h9 => h9.rjOpen HI.out.1 (by have := HN.out; omega) (Int.le_trans HI.out.2 (by decide)) a.f3 HSZ.out
          have HJ : Hid (Calls Tryz.prog 11 #[.pointer (some ⟨p, 0, none⟩), .string a.f3] _ (JOEnd K1 [(p, openT T a.f3)] m T _ (openL T a.f3) (openE T a.f3))) := hj
          clear hj
          generalize openT T a.f3 = T2 at HI2 HRJ HJ
          generalize openE T a.f3 = er at HRJ HJ
          generalize openL T a.f3 = lo at HRJ HJ hlo
          have LENO := Lib.hid hlo
          clear hlo
          have hee : (er == er) = true := beq_self_eq_true _
          obtain ⟨c0, c1⟩ := (HL2.out.va 1 rfl : PBox6 p m b0 _).cells
          obtain ⟨e0, e1, e2, e3, e4, e5⟩ := (HL2.out.va 0 rfl : ABox b1 a A4 c4 _).cells
          go_upto_region 18 with (go_at_call 11; refine HJ.out.mono ?_; rintro e w2 ⟨v1, Kc, rfl, hKK, hs, hk, hv⟩; obtain ⟨Ao, no, rfl⟩ := Kd.S_slice hv; have HL3 := Lib.hid (HL2.out.opened hKK hs hk hv); have HKc := Lib.hid hKK; clear hKK hs hk hv)
          clear c0 c1 e0 e1 e2 e3 e4 e5 HJ HL2
          obtain ⟨c0, c1⟩ := (HL3.out.va 2 rfl : PBox6 p m b0 _).cells
          obtain ⟨e0, e1, e2, e3, e4, e5⟩ := (HL3.out.va 1 rfl : ABox b1 a A4 c4 _).cells
          go_upto_region 19 with (go_at_call 12; refine (HRJ.out _ _ _ HL3.out.sts).mono ?_; rintro e w2 ⟨v2, Kd9, rfl, hKK, hs, hk, hv⟩; obtain ⟨Aq, nq9, rfl⟩ := Kd.S_slice hv; have HL4 := Lib.hid (HL3.out.told hKK hs hk hv fun W1 W2 hk h1 => Kd.S_step h1 fun k hk1 hlt => hk.block hk1.1 hlt); have HKd := Lib.hid hKK; clear hKK hs hk hv)
          clear c0 c1 e0 e1 e2 e3 e4 e5 HRJ HL3
          obtain ⟨-, hy1, hY1⟩ := Kd.S_reads' (HL4.out.va 0 rfl : Kd.S kLL _ _ _ _ (Value.slice Aq _ nq9) lo)
          obtain ⟨-, hx1, hX1⟩ := Kd.S_reads' (HL4.out.va 1 rfl : Kd.S kLL _ _ _ _ (Value.slice Ao _ no) lo)
          have SO := Lib.hid (same_at hX1 hx1 hY1 hy1 LENO.out (decide_eq_true rfl))
          clear hy1 hY1 hx1 hX1
          go_upto_region 30 with (go_at_call 13; ((with_reducible refine (SO.out.at _ (Below.refl _ _)).mono ?_); rintro e w20 ⟨rfl, hb⟩; have HL5 := Lib.hid (HL4.out.below hb); clear hb))
          clear SO HL4 LENO
          obtain ⟨ls, hls⟩ : ∃ ls, readL T2 a.f3 = ls := ⟨_, rfl⟩
          obtain ⟨bw, hbw⟩ : ∃ bw, readW T2 a.f3 = bw := ⟨_, rfl⟩
          have hlen := read_lens HI2.out.1 (Int.le_trans HI2.out.2 (by decide)) a.f3
          rw [hls] at hlen
          have LENS := Lib.hid hlen
          have hr1 := HL5.out.sts.jRead (i := 0) rfl HL5.out.glob HI2.out.1 (Int.le_trans HI2.out.2 (by decide)) a.f3 (Nat.le_trans HSZ.out (by decide))
          rw [hls, hbw] at hr1
          have HR1 := Lib.hid hr1
          have HR2 : Hid (∀ (K9 : Nat → Prop) (W9 : World), Sts K9 [(p, T2)] m T2 W9 → Calls Tryz.prog 23 #[.pointer (some ⟨m, 0, none⟩), .string a.f3] W9 (RdEnd W9 ls bw)) := fun K9 W9 h9 => by
            have := h9.rjRead HI2.out.1 (Int.le_trans HI2.out.2 (by decide)) a.f3
            rw [hls, hbw] at this
            exact this
          clear hls hbw hlen hr1
          have hbb : (bw != bw) = false := by cases bw <;> rfl
          obtain ⟨c0, c1⟩ := (HL5.out.va 3 rfl : PBox6 p m b0 _).cells
          obtain ⟨e0, e1, e2, e3, e4, e5⟩ := (HL5.out.va 2 rfl : ABox b1 a A4 c4 _).cells
          go_upto_region 31 with (go_at_call 22; refine HR1.out.mono ?_; rintro e w2 ⟨v1, rfl, hv, hb⟩; obtain ⟨Ax, nx, rfl⟩ := Kd.S_slice hv; obtain ⟨Ka, Oa, hl9, hkk⟩ := HL5.out.reads hb hv; have HLa := Lib.hid hl9; have HKa := Lib.hid hkk; clear hv hb hl9 hkk)
          clear c0 c1 e0 e1 e2 e3 e4 e5 HR1 HL5
          obtain ⟨c0, c1⟩ := (HLa.out.va 4 rfl : PBox6 p m b0 _).cells
          obtain ⟨e0, e1, e2, e3, e4, e5⟩ := (HLa.out.va 3 rfl : ABox b1 a A4 c4 _).cells
          go_upto_region 32 with (go_at_call 23; refine (HR2.out _ _ HLa.out.sts).mono ?_; rintro e w2 ⟨v2, rfl, hv, hb⟩; obtain ⟨Ay, ny, rfl⟩ := Kd.S_slice hv; obtain ⟨Kb, Ob, hl9, hkk⟩ := HLa.out.reads hb hv; have HLb := Lib.hid hl9; have HKb := Lib.hid hkk; clear hv hb hl9 hkk)
          clear c0 c1 e0 e1 e2 e3 e4 e5 HR2 HLa
          obtain ⟨c0, c1⟩ := (HLb.out.va 5 rfl : PBox6 p m b0 _).cells
          obtain ⟨e0, e1, e2, e3, e4, e5⟩ := (HLb.out.va 4 rfl : ABox b1 a A4 c4 _).cells
          go_upto_region 33 with (go_at_call 24; refine (HLb.out.sts.Alike6 HI2.out.1 (by have := HN.out; omega)).mono ?_; rintro e w2 ⟨rfl, hb⟩; have HLc := Lib.hid (HLb.out.below hb); clear hb)
          clear c0 c1 e0 e1 e2 e3 e4 e5 HLb
          obtain ⟨-, hy1, hY1⟩ := Kd.S_reads' (HLc.out.va 0 rfl : Kd.S kLL _ _ _ _ (Value.slice Ay _ ny) ls)
          obtain ⟨-, hx1, hX1⟩ := Kd.S_reads' (HLc.out.va 1 rfl : Kd.S kLL _ _ _ _ (Value.slice Ax _ nx) ls)
          have SX := Lib.hid (same_at hX1 hx1 hY1 hy1 LENS.out (decide_eq_true rfl))
          clear hy1 hY1 hx1 hX1
          go_wp2_with (go_at_call 13; ((with_reducible refine (SX.out.at _ (Below.refl _ _)).mono ?_); rintro e w20 ⟨rfl, hb⟩; have HLd := Lib.hid (HLc.out.below hb); clear hb))
          go_roundw
          case rel =>
            refine ⟨k + 1, T2, by omega, by go_num, HLd.out.drop HL0.out (fun k hk => HKb.out k (HKa.out k (HKd.out k (HKc.out k (HKK.out k hk))))) (fun x hx => by rw [List.mem_singleton.1 hx]; repeat (first | exact List.mem_cons_self .. | refine List.mem_cons_of_mem _ ?_)), HI2.out.1.mono (by omega), HI2.out.2⟩
          case measure => simp [intOf]; omega
        · skip
          have HAL := Lib.hid (tiny_all HOK.out.1)
          have HI2 : Hid (Inv (8 * k + 4) (anewT T a.f3 a.f4) ∧ (anewT T a.f3 a.f4).room ≤ 3000) := ⟨(inv_anew HI.out.1 a.f3 a.f4 (Nat.le_trans HOK.out.1.1 (by decide))).mono (by omega), by rw [anew_room]; exact HI.out.2⟩
          obtain ⟨er, her⟩ : ∃ er, anewE T a.f3 a.f4 = er := ⟨_, rfl⟩
          obtain ⟨T2, hT2⟩ : ∃ T2, anewT T a.f3 a.f4 = T2 := ⟨_, rfl⟩
          rw [hT2] at HI2
          have HER := Lib.hid her
          have HT2 := Lib.hid hT2
          clear her hT2
          have hee : (er == er) = true := beq_self_eq_true _
          go_upto_region 21 with fail
          have HL2d : Hid (Law w K1 m [(p, T)] T [ABox b1 a A4 c4, PBox6 p m b0] (World.drew _)) := HL2.out.below (Below.refl _ _).drew
          obtain ⟨c0, c1⟩ := (HL2.out.va 1 rfl : PBox6 p m b0 _).cells
          obtain ⟨e0, e1, e2, e3, e4, e5⟩ := (HL2.out.va 0 rfl : ABox b1 a A4 c4 _).cells
          (go_region_held3 (fun W => (W.cell? ⟨b0, 0, none⟩ = some (.pointer (some ⟨p, 0, none⟩)) ∧ W.cell? ⟨b0, 1, none⟩ = some (.pointer (some ⟨m, 0, none⟩)) ∧ W.cell? ⟨b1, 3, none⟩ = some (.string a.f3) ∧ W.cell? ⟨b1, 4, none⟩ = some (.slice A4 a.f4.length c4) ∧ W.cell? ⟨b1, 5, none⟩ = some (.string a.f5)) ∧ Hid (Below w.heap.size w W)) (first | exact ⟨⟨(HL4.out.va 1 rfl : PBox6 p m b0 _).cells.1, (HL4.out.va 1 rfl : PBox6 p m b0 _).cells.2, (HL4.out.va 0 rfl : ABox b1 a A4 c4 _).cells.2.2.2.1, (HL4.out.va 0 rfl : ABox b1 a A4 c4 _).cells.2.2.2.2.1, (HL4.out.va 0 rfl : ABox b1 a A4 c4 _).cells.2.2.2.2.2⟩, HL4.out.bel⟩ | exact ⟨⟨(HL3.out.va 1 rfl : PBox6 p m b0 _).cells.1, (HL3.out.va 1 rfl : PBox6 p m b0 _).cells.2, (HL3.out.va 0 rfl : ABox b1 a A4 c4 _).cells.2.2.2.1, (HL3.out.va 0 rfl : ABox b1 a A4 c4 _).cells.2.2.2.2.1, (HL3.out.va 0 rfl : ABox b1 a A4 c4 _).cells.2.2.2.2.2⟩, HL3.out.bel⟩ | exact ⟨⟨(HL2d.out.va 1 rfl : PBox6 p m b0 _).cells.1, (HL2d.out.va 1 rfl : PBox6 p m b0 _).cells.2, (HL2d.out.va 0 rfl : ABox b1 a A4 c4 _).cells.2.2.2.1, (HL2d.out.va 0 rfl : ABox b1 a A4 c4 _).cells.2.2.2.2.1, (HL2d.out.va 0 rfl : ABox b1 a A4 c4 _).cells.2.2.2.2.2⟩, HL2d.out.bel⟩) (first
            | (go_at_call 14; refine (HL2d.out.sts.jAnew (i := 0) rfl HL2d.out.gk HI.out.1 (by have := HN.out; omega) a.f3 HSZ.out A4 c4 a.f4 (Kd.C_below HC4.out HL2d.out.bel) HAL.out).mono ?_; rintro e w2 ⟨rfl, hs, hk⟩; rw [HER.out]; rw [HT2.out] at hs; have HL3 : Hid (Law w K1 m [(p, T2)] T [ABox b1 a A4 c4, PBox6 p m b0] w2) := HL2d.out.step hs hk; clear hs hk)
            | (go_at_call 15; refine (HL3.out.sts.rjAnew HI.out.1 (by have := HN.out; omega) a.f3 HSZ.out A4 c4 a.f4 (Kd.C_below HC4.out HL3.out.bel) HAL.out).mono ?_; rintro e w2 ⟨rfl, hs, hk⟩; rw [HER.out]; rw [HT2.out] at hs; have HL4 : Hid (Law w K1 m [(p, T2)] T2 [ABox b1 a A4 c4, PBox6 p m b0] w2) := HL3.out.step hs hk; clear hs hk)))
          clear c0 c1 e0 e1 e2 e3 e4 e5 HL2 HL2d HL3 HER HT2
          go_upto_region 30 with fail
          obtain ⟨ls, hls⟩ : ∃ ls, readL T2 a.f3 = ls := ⟨_, rfl⟩
          obtain ⟨bw, hbw⟩ : ∃ bw, readW T2 a.f3 = bw := ⟨_, rfl⟩
          have hlen := read_lens HI2.out.1 (Int.le_trans HI2.out.2 (by decide)) a.f3
          rw [hls] at hlen
          have LENS := Lib.hid hlen
          have hr1 := HL4.out.sts.jRead (i := 0) rfl HL4.out.glob HI2.out.1 (Int.le_trans HI2.out.2 (by decide)) a.f3 (Nat.le_trans HSZ.out (by decide))
          rw [hls, hbw] at hr1
          have HR1 := Lib.hid hr1
          have HR2 : Hid (∀ (K9 : Nat → Prop) (W9 : World), Sts K9 [(p, T2)] m T2 W9 → Calls Tryz.prog 23 #[.pointer (some ⟨m, 0, none⟩), .string a.f3] W9 (RdEnd W9 ls bw)) := fun K9 W9 h9 => by
            have := h9.rjRead HI2.out.1 (Int.le_trans HI2.out.2 (by decide)) a.f3
            rw [hls, hbw] at this
            exact this
          clear hls hbw hlen hr1
          have hbb : (bw != bw) = false := by cases bw <;> rfl
          obtain ⟨c0, c1⟩ := (HL4.out.va 1 rfl : PBox6 p m b0 _).cells
          obtain ⟨e0, e1, e2, e3, e4, e5⟩ := (HL4.out.va 0 rfl : ABox b1 a A4 c4 _).cells
          go_upto_region 31 with (go_at_call 22; refine HR1.out.mono ?_; rintro e w2 ⟨v1, rfl, hv, hb⟩; obtain ⟨Ax, nx, rfl⟩ := Kd.S_slice hv; obtain ⟨Ka, Oa, hl9, hkk⟩ := HL4.out.reads hb hv; have HLa := Lib.hid hl9; have HKa := Lib.hid hkk; clear hv hb hl9 hkk)
          clear c0 c1 e0 e1 e2 e3 e4 e5 HR1 HL4
          obtain ⟨c0, c1⟩ := (HLa.out.va 2 rfl : PBox6 p m b0 _).cells
          obtain ⟨e0, e1, e2, e3, e4, e5⟩ := (HLa.out.va 1 rfl : ABox b1 a A4 c4 _).cells
          go_upto_region 32 with (go_at_call 23; refine (HR2.out _ _ HLa.out.sts).mono ?_; rintro e w2 ⟨v2, rfl, hv, hb⟩; obtain ⟨Ay, ny, rfl⟩ := Kd.S_slice hv; obtain ⟨Kb, Ob, hl9, hkk⟩ := HLa.out.reads hb hv; have HLb := Lib.hid hl9; have HKb := Lib.hid hkk; clear hv hb hl9 hkk)
          clear c0 c1 e0 e1 e2 e3 e4 e5 HR2 HLa
          obtain ⟨c0, c1⟩ := (HLb.out.va 3 rfl : PBox6 p m b0 _).cells
          obtain ⟨e0, e1, e2, e3, e4, e5⟩ := (HLb.out.va 2 rfl : ABox b1 a A4 c4 _).cells
          go_upto_region 33 with (go_at_call 24; refine (HLb.out.sts.Alike6 HI2.out.1 (by have := HN.out; omega)).mono ?_; rintro e w2 ⟨rfl, hb⟩; have HLc := Lib.hid (HLb.out.below hb); clear hb)
          clear c0 c1 e0 e1 e2 e3 e4 e5 HLb
          obtain ⟨-, hy1, hY1⟩ := Kd.S_reads' (HLc.out.va 0 rfl : Kd.S kLL _ _ _ _ (Value.slice Ay _ ny) ls)
          obtain ⟨-, hx1, hX1⟩ := Kd.S_reads' (HLc.out.va 1 rfl : Kd.S kLL _ _ _ _ (Value.slice Ax _ nx) ls)
          have SX := Lib.hid (same_at hX1 hx1 hY1 hy1 LENS.out (decide_eq_true rfl))
          clear hy1 hY1 hx1 hX1
          go_wp2_with (go_at_call 13; ((with_reducible refine (SX.out.at _ (Below.refl _ _)).mono ?_); rintro e w20 ⟨rfl, hb⟩; have HLd := Lib.hid (HLc.out.below hb); clear hb))
          go_roundw
          case rel =>
            refine ⟨k + 1, T2, by omega, by go_num, HLd.out.drop HL0.out (fun k hk => HKb.out k (HKa.out k (HKK.out k hk))) (fun x hx => by rw [List.mem_singleton.1 hx]; repeat (first | exact List.mem_cons_self .. | refine List.mem_cons_of_mem _ ?_)), HI2.out.1.mono (by omega), HI2.out.2⟩
          case measure => simp [intOf]; omega
        · skip
          have HI2 : Hid (Inv (8 * k + 4) (syncT T) ∧ (syncT T).room ≤ 3000) := ⟨(inv_syncT HI.out.1).mono (by omega), HI.out.2⟩
          obtain ⟨c0, c1⟩ := (HL2.out.va 1 rfl : PBox6 p m b0 _).cells
          obtain ⟨e0, e1, e2, e3, e4, e5⟩ := (HL2.out.va 0 rfl : ABox b1 a A4 c4 _).cells
          go_upto_region 24 with (go_at_call 16; refine (HL2.out.sts.Sync (i := 0) rfl HL2.out.glob.g HI.out.1 (by have := HN.out; omega)).mono ?_; rintro e w2 ⟨rfl, hs, hk⟩; have HL3 : Hid (Law w K1 m [(p, (syncT T))] T [ABox b1 a A4 c4, PBox6 p m b0] w2) := HL2.out.step hs hk; clear hs hk)
          clear c0 c1 e0 e1 e2 e3 e4 e5 HL2
          obtain ⟨c0, c1⟩ := (HL3.out.va 1 rfl : PBox6 p m b0 _).cells
          obtain ⟨e0, e1, e2, e3, e4, e5⟩ := (HL3.out.va 0 rfl : ABox b1 a A4 c4 _).cells
          go_upto_region 30 with (go_at_call 17; refine (HL3.out.sts.rSync).mono ?_; rintro e w2 ⟨rfl, hs, hk⟩; have HL4 : Hid (Law w K1 m [(p, (syncT T))] (syncT T) [ABox b1 a A4 c4, PBox6 p m b0] w2) := HL3.out.step hs hk; clear hs hk)
          clear c0 c1 e0 e1 e2 e3 e4 e5 HL3
          generalize syncT T = T2 at HI2 HL4
          obtain ⟨ls, hls⟩ : ∃ ls, readL T2 a.f3 = ls := ⟨_, rfl⟩
          obtain ⟨bw, hbw⟩ : ∃ bw, readW T2 a.f3 = bw := ⟨_, rfl⟩
          have hlen := read_lens HI2.out.1 (Int.le_trans HI2.out.2 (by decide)) a.f3
          rw [hls] at hlen
          have LENS := Lib.hid hlen
          have hr1 := HL4.out.sts.jRead (i := 0) rfl HL4.out.glob HI2.out.1 (Int.le_trans HI2.out.2 (by decide)) a.f3 (Nat.le_trans HSZ.out (by decide))
          rw [hls, hbw] at hr1
          have HR1 := Lib.hid hr1
          have HR2 : Hid (∀ (K9 : Nat → Prop) (W9 : World), Sts K9 [(p, T2)] m T2 W9 → Calls Tryz.prog 23 #[.pointer (some ⟨m, 0, none⟩), .string a.f3] W9 (RdEnd W9 ls bw)) := fun K9 W9 h9 => by
            have := h9.rjRead HI2.out.1 (Int.le_trans HI2.out.2 (by decide)) a.f3
            rw [hls, hbw] at this
            exact this
          clear hls hbw hlen hr1
          have hbb : (bw != bw) = false := by cases bw <;> rfl
          obtain ⟨c0, c1⟩ := (HL4.out.va 1 rfl : PBox6 p m b0 _).cells
          obtain ⟨e0, e1, e2, e3, e4, e5⟩ := (HL4.out.va 0 rfl : ABox b1 a A4 c4 _).cells
          go_upto_region 31 with (go_at_call 22; refine HR1.out.mono ?_; rintro e w2 ⟨v1, rfl, hv, hb⟩; obtain ⟨Ax, nx, rfl⟩ := Kd.S_slice hv; obtain ⟨Ka, Oa, hl9, hkk⟩ := HL4.out.reads hb hv; have HLa := Lib.hid hl9; have HKa := Lib.hid hkk; clear hv hb hl9 hkk)
          clear c0 c1 e0 e1 e2 e3 e4 e5 HR1 HL4
          obtain ⟨c0, c1⟩ := (HLa.out.va 2 rfl : PBox6 p m b0 _).cells
          obtain ⟨e0, e1, e2, e3, e4, e5⟩ := (HLa.out.va 1 rfl : ABox b1 a A4 c4 _).cells
          go_upto_region 32 with (go_at_call 23; refine (HR2.out _ _ HLa.out.sts).mono ?_; rintro e w2 ⟨v2, rfl, hv, hb⟩; obtain ⟨Ay, ny, rfl⟩ := Kd.S_slice hv; obtain ⟨Kb, Ob, hl9, hkk⟩ := HLa.out.reads hb hv; have HLb := Lib.hid hl9; have HKb := Lib.hid hkk; clear hv hb hl9 hkk)
          clear c0 c1 e0 e1 e2 e3 e4 e5 HR2 HLa
          obtain ⟨c0, c1⟩ := (HLb.out.va 3 rfl : PBox6 p m b0 _).cells
          obtain ⟨e0, e1, e2, e3, e4, e5⟩ := (HLb.out.va 2 rfl : ABox b1 a A4 c4 _).cells
          go_upto_region 33 with (go_at_call 24; refine (HLb.out.sts.Alike6 HI2.out.1 (by have := HN.out; omega)).mono ?_; rintro e w2 ⟨rfl, hb⟩; have HLc := Lib.hid (HLb.out.below hb); clear hb)
          clear c0 c1 e0 e1 e2 e3 e4 e5 HLb
          obtain ⟨-, hy1, hY1⟩ := Kd.S_reads' (HLc.out.va 0 rfl : Kd.S kLL _ _ _ _ (Value.slice Ay _ ny) ls)
          obtain ⟨-, hx1, hX1⟩ := Kd.S_reads' (HLc.out.va 1 rfl : Kd.S kLL _ _ _ _ (Value.slice Ax _ nx) ls)
          have SX := Lib.hid (same_at hX1 hx1 hY1 hy1 LENS.out (decide_eq_true rfl))
          clear hy1 hY1 hx1 hX1
          go_wp2_with (go_at_call 13; ((with_reducible refine (SX.out.at _ (Below.refl _ _)).mono ?_); rintro e w20 ⟨rfl, hb⟩; have HLd := Lib.hid (HLc.out.below hb); clear hb))
          go_roundw
          case rel =>
            refine ⟨k + 1, T2, by omega, by go_num, HLd.out.drop HL0.out (fun k hk => HKb.out k (HKa.out k (HKK.out k hk))) (fun x hx => by rw [List.mem_singleton.1 hx]; repeat (first | exact List.mem_cons_self .. | refine List.mem_cons_of_mem _ ?_)), HI2.out.1.mono (by omega), HI2.out.2⟩
          case measure => simp [intOf]; omega
        · skip
          have HI2 : Hid (Inv (8 * k + 4) (crashT T a.f1 a.f2) ∧ (crashT T a.f1 a.f2).room ≤ 3000) := ⟨(inv_crash HI.out.1 a.f1 a.f2).mono (by omega), HI.out.2⟩
          obtain ⟨c0, c1⟩ := (HL2.out.va 1 rfl : PBox6 p m b0 _).cells
          obtain ⟨e0, e1, e2, e3, e4, e5⟩ := (HL2.out.va 0 rfl : ABox b1 a A4 c4 _).cells
          go_upto_region 27 with (go_at_call 18; refine (HL2.out.sts.Crash (i := 0) rfl HL2.out.glob.g HI.out.1 (by have := HN.out; omega) a.f1 a.f2 HWF.out.2).mono ?_; rintro e w2 ⟨rfl, hs, hk⟩; have HL3 : Hid (Law w K1 m [(p, (crashT T a.f1 a.f2))] T [ABox b1 a A4 c4, PBox6 p m b0] w2) := HL2.out.step hs hk; clear hs hk)
          clear c0 c1 e0 e1 e2 e3 e4 e5 HL2
          obtain ⟨c0, c1⟩ := (HL3.out.va 1 rfl : PBox6 p m b0 _).cells
          obtain ⟨e0, e1, e2, e3, e4, e5⟩ := (HL3.out.va 0 rfl : ABox b1 a A4 c4 _).cells
          go_upto_region 30 with (go_at_call 19; refine (HL3.out.sts.rCrash HI.out.1 (by have := HN.out; omega) a.f1 a.f2).mono ?_; rintro e w2 ⟨rfl, hs, hk⟩; have HL4 : Hid (Law w K1 m [(p, (crashT T a.f1 a.f2))] (crashT T a.f1 a.f2) [ABox b1 a A4 c4, PBox6 p m b0] w2) := HL3.out.step hs hk; clear hs hk)
          clear c0 c1 e0 e1 e2 e3 e4 e5 HL3
          generalize crashT T a.f1 a.f2 = T2 at HI2 HL4
          obtain ⟨ls, hls⟩ : ∃ ls, readL T2 a.f3 = ls := ⟨_, rfl⟩
          obtain ⟨bw, hbw⟩ : ∃ bw, readW T2 a.f3 = bw := ⟨_, rfl⟩
          have hlen := read_lens HI2.out.1 (Int.le_trans HI2.out.2 (by decide)) a.f3
          rw [hls] at hlen
          have LENS := Lib.hid hlen
          have hr1 := HL4.out.sts.jRead (i := 0) rfl HL4.out.glob HI2.out.1 (Int.le_trans HI2.out.2 (by decide)) a.f3 (Nat.le_trans HSZ.out (by decide))
          rw [hls, hbw] at hr1
          have HR1 := Lib.hid hr1
          have HR2 : Hid (∀ (K9 : Nat → Prop) (W9 : World), Sts K9 [(p, T2)] m T2 W9 → Calls Tryz.prog 23 #[.pointer (some ⟨m, 0, none⟩), .string a.f3] W9 (RdEnd W9 ls bw)) := fun K9 W9 h9 => by
            have := h9.rjRead HI2.out.1 (Int.le_trans HI2.out.2 (by decide)) a.f3
            rw [hls, hbw] at this
            exact this
          clear hls hbw hlen hr1
          have hbb : (bw != bw) = false := by cases bw <;> rfl
          obtain ⟨c0, c1⟩ := (HL4.out.va 1 rfl : PBox6 p m b0 _).cells
          obtain ⟨e0, e1, e2, e3, e4, e5⟩ := (HL4.out.va 0 rfl : ABox b1 a A4 c4 _).cells
          go_upto_region 31 with (go_at_call 22; refine HR1.out.mono ?_; rintro e w2 ⟨v1, rfl, hv, hb⟩; obtain ⟨Ax, nx, rfl⟩ := Kd.S_slice hv; obtain ⟨Ka, Oa, hl9, hkk⟩ := HL4.out.reads hb hv; have HLa := Lib.hid hl9; have HKa := Lib.hid hkk; clear hv hb hl9 hkk)
          clear c0 c1 e0 e1 e2 e3 e4 e5 HR1 HL4
          obtain ⟨c0, c1⟩ := (HLa.out.va 2 rfl : PBox6 p m b0 _).cells
          obtain ⟨e0, e1, e2, e3, e4, e5⟩ := (HLa.out.va 1 rfl : ABox b1 a A4 c4 _).cells
          go_upto_region 32 with (go_at_call 23; refine (HR2.out _ _ HLa.out.sts).mono ?_; rintro e w2 ⟨v2, rfl, hv, hb⟩; obtain ⟨Ay, ny, rfl⟩ := Kd.S_slice hv; obtain ⟨Kb, Ob, hl9, hkk⟩ := HLa.out.reads hb hv; have HLb := Lib.hid hl9; have HKb := Lib.hid hkk; clear hv hb hl9 hkk)
          clear c0 c1 e0 e1 e2 e3 e4 e5 HR2 HLa
          obtain ⟨c0, c1⟩ := (HLb.out.va 3 rfl : PBox6 p m b0 _).cells
          obtain ⟨e0, e1, e2, e3, e4, e5⟩ := (HLb.out.va 2 rfl : ABox b1 a A4 c4 _).cells
          go_upto_region 33 with (go_at_call 24; refine (HLb.out.sts.Alike6 HI2.out.1 (by have := HN.out; omega)).mono ?_; rintro e w2 ⟨rfl, hb⟩; have HLc := Lib.hid (HLb.out.below hb); clear hb)
          clear c0 c1 e0 e1 e2 e3 e4 e5 HLb
          obtain ⟨-, hy1, hY1⟩ := Kd.S_reads' (HLc.out.va 0 rfl : Kd.S kLL _ _ _ _ (Value.slice Ay _ ny) ls)
          obtain ⟨-, hx1, hX1⟩ := Kd.S_reads' (HLc.out.va 1 rfl : Kd.S kLL _ _ _ _ (Value.slice Ax _ nx) ls)
          have SX := Lib.hid (same_at hX1 hx1 hY1 hy1 LENS.out (decide_eq_true rfl))
          clear hy1 hY1 hx1 hX1
          go_wp2_with (go_at_call 13; ((with_reducible refine (SX.out.at _ (Below.refl _ _)).mono ?_); rintro e w20 ⟨rfl, hb⟩; have HLd := Lib.hid (HLc.out.below hb); clear hb))
          go_roundw
          case rel =>
            refine ⟨k + 1, T2, by omega, by go_num, HLd.out.drop HL0.out (fun k hk => HKb.out k (HKa.out k (HKK.out k hk))) (fun x hx => by rw [List.mem_singleton.1 hx]; repeat (first | exact List.mem_cons_self .. | refine List.mem_cons_of_mem _ ?_)), HI2.out.1.mono (by omega), HI2.out.2⟩
          case measure => simp [intOf]; omega
        · skip
          have HI2 : Hid (Inv (8 * k + 4) (writeT T true a.f3 a.f5) ∧ (writeT T true a.f3 a.f5).room ≤ 3000) := ⟨(inv_write HI.out.1 true HSX.out).mono (by omega), by rw [write_room]; exact HI.out.2⟩
          obtain ⟨er, her⟩ : ∃ er, writeE T true a.f3 a.f5 = er := ⟨_, rfl⟩
          obtain ⟨T2, hT2⟩ : ∃ T2, writeT T true a.f3 a.f5 = T2 := ⟨_, rfl⟩
          rw [hT2] at HI2
          have HER := Lib.hid her
          have HT2 := Lib.hid hT2
          clear her hT2
          have hee : (er == er) = true := beq_self_eq_true _
          go_upto_region 29 with fail
          have HL2d : Hid (Law w K1 m [(p, T)] T [ABox b1 a A4 c4, PBox6 p m b0] (World.drew _)) := HL2.out.below (Below.refl _ _).drew
          obtain ⟨c0, c1⟩ := (HL2.out.va 1 rfl : PBox6 p m b0 _).cells
          obtain ⟨e0, e1, e2, e3, e4, e5⟩ := (HL2.out.va 0 rfl : ABox b1 a A4 c4 _).cells
          (go_region_held3 (fun W => (W.cell? ⟨b0, 0, none⟩ = some (.pointer (some ⟨p, 0, none⟩)) ∧ W.cell? ⟨b0, 1, none⟩ = some (.pointer (some ⟨m, 0, none⟩)) ∧ W.cell? ⟨b1, 3, none⟩ = some (.string a.f3) ∧ W.cell? ⟨b1, 4, none⟩ = some (.slice A4 a.f4.length c4) ∧ W.cell? ⟨b1, 5, none⟩ = some (.string a.f5)) ∧ Hid (Below w.heap.size w W)) (first | exact ⟨⟨(HL4.out.va 1 rfl : PBox6 p m b0 _).cells.1, (HL4.out.va 1 rfl : PBox6 p m b0 _).cells.2, (HL4.out.va 0 rfl : ABox b1 a A4 c4 _).cells.2.2.2.1, (HL4.out.va 0 rfl : ABox b1 a A4 c4 _).cells.2.2.2.2.1, (HL4.out.va 0 rfl : ABox b1 a A4 c4 _).cells.2.2.2.2.2⟩, HL4.out.bel⟩ | exact ⟨⟨(HL3.out.va 1 rfl : PBox6 p m b0 _).cells.1, (HL3.out.va 1 rfl : PBox6 p m b0 _).cells.2, (HL3.out.va 0 rfl : ABox b1 a A4 c4 _).cells.2.2.2.1, (HL3.out.va 0 rfl : ABox b1 a A4 c4 _).cells.2.2.2.2.1, (HL3.out.va 0 rfl : ABox b1 a A4 c4 _).cells.2.2.2.2.2⟩, HL3.out.bel⟩ | exact ⟨⟨(HL2d.out.va 1 rfl : PBox6 p m b0 _).cells.1, (HL2d.out.va 1 rfl : PBox6 p m b0 _).cells.2, (HL2d.out.va 0 rfl : ABox b1 a A4 c4 _).cells.2.2.2.1, (HL2d.out.va 0 rfl : ABox b1 a A4 c4 _).cells.2.2.2.2.1, (HL2d.out.va 0 rfl : ABox b1 a A4 c4 _).cells.2.2.2.2.2⟩, HL2d.out.bel⟩) (first
            | (go_at_call 20; refine (HL2d.out.sts.Append (i := 0) rfl HL2d.out.glob.g HI.out.1 (by have := HN.out; omega) a.f3 a.f5 (Nat.le_trans HSZ.out (by decide)) HSX.out).mono ?_; rintro e w2 ⟨rfl, hs, hk⟩; rw [HER.out]; rw [HT2.out] at hs; have HL3 : Hid (Law w K1 m [(p, T2)] T [ABox b1 a A4 c4, PBox6 p m b0] w2) := HL2d.out.step hs hk; clear hs hk)
            | (go_at_call 21; refine (HL3.out.sts.rAppend HI.out.1 (by have := HN.out; omega) a.f3 a.f5 (Nat.le_trans HSZ.out (by decide)) HSX.out).mono ?_; rintro e w2 ⟨rfl, hs, hk⟩; rw [HER.out]; rw [HT2.out] at hs; have HL4 : Hid (Law w K1 m [(p, T2)] T2 [ABox b1 a A4 c4, PBox6 p m b0] w2) := HL3.out.step hs hk; clear hs hk)))
          clear c0 c1 e0 e1 e2 e3 e4 e5 HL2 HL2d HL3 HER HT2
          go_upto_region 30 with fail
          obtain ⟨ls, hls⟩ : ∃ ls, readL T2 a.f3 = ls := ⟨_, rfl⟩
          obtain ⟨bw, hbw⟩ : ∃ bw, readW T2 a.f3 = bw := ⟨_, rfl⟩
          have hlen := read_lens HI2.out.1 (Int.le_trans HI2.out.2 (by decide)) a.f3
          rw [hls] at hlen
          have LENS := Lib.hid hlen
          have hr1 := HL4.out.sts.jRead (i := 0) rfl HL4.out.glob HI2.out.1 (Int.le_trans HI2.out.2 (by decide)) a.f3 (Nat.le_trans HSZ.out (by decide))
          rw [hls, hbw] at hr1
          have HR1 := Lib.hid hr1
          have HR2 : Hid (∀ (K9 : Nat → Prop) (W9 : World), Sts K9 [(p, T2)] m T2 W9 → Calls Tryz.prog 23 #[.pointer (some ⟨m, 0, none⟩), .string a.f3] W9 (RdEnd W9 ls bw)) := fun K9 W9 h9 => by
            have := h9.rjRead HI2.out.1 (Int.le_trans HI2.out.2 (by decide)) a.f3
            rw [hls, hbw] at this
            exact this
          clear hls hbw hlen hr1
          have hbb : (bw != bw) = false := by cases bw <;> rfl
          obtain ⟨c0, c1⟩ := (HL4.out.va 1 rfl : PBox6 p m b0 _).cells
          obtain ⟨e0, e1, e2, e3, e4, e5⟩ := (HL4.out.va 0 rfl : ABox b1 a A4 c4 _).cells
          go_upto_region 31 with (go_at_call 22; refine HR1.out.mono ?_; rintro e w2 ⟨v1, rfl, hv, hb⟩; obtain ⟨Ax, nx, rfl⟩ := Kd.S_slice hv; obtain ⟨Ka, Oa, hl9, hkk⟩ := HL4.out.reads hb hv; have HLa := Lib.hid hl9; have HKa := Lib.hid hkk; clear hv hb hl9 hkk)
          clear c0 c1 e0 e1 e2 e3 e4 e5 HR1 HL4
          obtain ⟨c0, c1⟩ := (HLa.out.va 2 rfl : PBox6 p m b0 _).cells
          obtain ⟨e0, e1, e2, e3, e4, e5⟩ := (HLa.out.va 1 rfl : ABox b1 a A4 c4 _).cells
          go_upto_region 32 with (go_at_call 23; refine (HR2.out _ _ HLa.out.sts).mono ?_; rintro e w2 ⟨v2, rfl, hv, hb⟩; obtain ⟨Ay, ny, rfl⟩ := Kd.S_slice hv; obtain ⟨Kb, Ob, hl9, hkk⟩ := HLa.out.reads hb hv; have HLb := Lib.hid hl9; have HKb := Lib.hid hkk; clear hv hb hl9 hkk)
          clear c0 c1 e0 e1 e2 e3 e4 e5 HR2 HLa
          obtain ⟨c0, c1⟩ := (HLb.out.va 3 rfl : PBox6 p m b0 _).cells
          obtain ⟨e0, e1, e2, e3, e4, e5⟩ := (HLb.out.va 2 rfl : ABox b1 a A4 c4 _).cells
          go_upto_region 33 with (go_at_call 24; refine (HLb.out.sts.Alike6 HI2.out.1 (by have := HN.out; omega)).mono ?_; rintro e w2 ⟨rfl, hb⟩; have HLc := Lib.hid (HLb.out.below hb); clear hb)
          clear c0 c1 e0 e1 e2 e3 e4 e5 HLb
          obtain ⟨-, hy1, hY1⟩ := Kd.S_reads' (HLc.out.va 0 rfl : Kd.S kLL _ _ _ _ (Value.slice Ay _ ny) ls)
          obtain ⟨-, hx1, hX1⟩ := Kd.S_reads' (HLc.out.va 1 rfl : Kd.S kLL _ _ _ _ (Value.slice Ax _ nx) ls)
          have SX := Lib.hid (same_at hX1 hx1 hY1 hy1 LENS.out (decide_eq_true rfl))
          clear hy1 hY1 hx1 hX1
          go_wp2_with (go_at_call 13; ((with_reducible refine (SX.out.at _ (Below.refl _ _)).mono ?_); rintro e w20 ⟨rfl, hb⟩; have HLd := Lib.hid (HLc.out.below hb); clear hb))
          go_roundw
          case rel =>
            refine ⟨k + 1, T2, by omega, by go_num, HLd.out.drop HL0.out (fun k hk => HKb.out k (HKa.out k (HKK.out k hk))) (fun x hx => by rw [List.mem_singleton.1 hx]; repeat (first | exact List.mem_cons_self .. | refine List.mem_cons_of_mem _ ?_)), HI2.out.1.mono (by omega), HI2.out.2⟩
          case measure => simp [intOf]; omega
      · go_wp2_with fail
        go_ret
        exact ⟨rfl, HL0.out.bel⟩
end
end Go.Proofs.YtgdanenhbjfhaaaGreatDoor.Fr
