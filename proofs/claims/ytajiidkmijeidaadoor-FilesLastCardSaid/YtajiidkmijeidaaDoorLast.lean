import Derived.Test.YtajiidkmijeidaaDoorGlob
/- FilesLast. -/
namespace Go.Proofs.YtajiidkmijeidaaDoor.Fr
open Go.RowKit Go.Proofs.YtajiidkmijeidaaDoor.F Go.Proofs.YtajiidkmijeidaaDoorW.PrintWords
set_option linter.unusedVariables false
set_option linter.unusedSimpArgs false

section
variable {w : World}
set_option maxHeartbeats 8000000 in
set_option maxRecDepth 100000 in
theorem R_FilesLast (hG : Glob w) (A : Option Addr) (c : Nat) (l : List Ac) (hA : Acs w A c l) (at0 : Int) (wat0 : (Lit.int .i64 at0).wf = true) :
    Calls Tryd.prog 4 #[.slice A l.length c, .int .i64 at0] w fun e w' => e = .returned (.bool true) ∧ Below w.heap.size w w' := by
  have HG := Lib.hid hG
  have HA := Lib.hid hA
  have capl := hA.cap
  have hat0 := int_wf wat0
  clear hG hA
  go_enter Tryd.func4, Tryd.ntmps4
  go_upto_region 4 with (first
    | (go_at_call 11; refine (shown_call HG.out).mono ?_; rintro e w1 ⟨rfl, hb⟩; have HB1 := Lib.hid hb; clear hb)
    | (go_at_call 12; refine (small_call (HA.out.below HB1.out)).mono ?_; rintro e w2 ⟨r1, rfl, hr, hb⟩; have HR1 := Lib.hid hr; have HB2 := Lib.hid (HB1.out.trans (hb.mono HB1.out.size)); clear hr hb)
    | (go_at_call 14; refine (begun_sts _ 1048576 (by decide) (by decide)).mono ?_; rintro e w4 ⟨p, m, rfl, hs, hb⟩; have HL0 := Lib.hid (law_begun HG.out HB2.out hs hb); clear hs hb))
  generalize w4.alloc (.cells #[.pointer (some ⟨p, 0, none⟩), .pointer (some ⟨m, 0, none⟩)] 29) = W0 at HL0
  generalize w4.heap.size = b at HL0
  obtain ⟨K, hK⟩ : ∃ K : Nat → Prop, K = fun k => k < w2.heap.size ∨ k = b := ⟨_, rfl⟩
  rw [← hK] at HL0
  clear hK
  cases r1 with
  | false =>
    go_wp2_with fail
    go_ret
    exact ⟨rfl, HL0.out.bel⟩
  | true =>
    have HSM := Lib.hid (HR1.out rfl)
    clear HR1
    have hl60 := HSM.out.1
    have HI0 : Hid (Inv 0 (newT 1048576)) := inv_new (by decide) (by decide)
    obtain ⟨c0, c1⟩ := HL0.out.c
    go_upto_region 7 with (first | (go_at_call 13; refine (pickn_call at0 ((l.length : Int) + 1) hat0 (by omega) _).mono ?_; rintro e w2 ⟨rfl, hb⟩; have HL1 : Hid (Law w K b p m [(p, newT 1048576)] (newT 1048576) [] w2) := HL0.out.below hb; clear hb))
    clear c0 c1 HL0
    obtain ⟨hp0, hp1⟩ := pickn_lt at0 ((l.length : Int) + 1) (by omega)
    obtain ⟨kk, hkk⟩ : ∃ kk : Nat, pickI at0 ((l.length : Int) + 1) = (kk : Int) := ⟨(pickI at0 ((l.length : Int) + 1)).toNat, by omega⟩
    rw [hkk]
    have hkl : kk ≤ l.length := by omega
    clear hp0 hp1 hkk
    go_wp2_with fail
    go_loopw [10] (fun i wr => ∃ (k : Nat) (T : TS), k ≤ kk ∧ i = .int .i64 k ∧ Hid (Law w K b p m [(p, T)] T [] wr) ∧ Hid (Inv k T))
      (fun i _ => kk - (intOf i).toNat)
    case atStart => exact ⟨0, _, Nat.zero_le _, rfl, HL1.out, HI0.out⟩
    case round =>
      clear HL1 HI0
      obtain ⟨k, T, hk, rfl, HL0, HI⟩ := hrel
      by_cases hlk2 : k < kk
      · have hlk : k < l.length := by omega
        obtain ⟨ad, e, hac⟩ := HA.out.at hlk
        subst e
        have HAC := Lib.hid hac
        have HOK := Lib.hid (HSM.out.ac HA.out hlk)
        have HN : Hid (k ≤ 1000000 ∧ k + 1 ≤ 1000000) := by unfold Hid; omega
        generalize l[k] = a at hac HAC HOK
        clear hac
        go_upto_region 10 with fail
        obtain ⟨⟨c0, c1, e0, e1, e2, e3, e4⟩, _⟩ := HL0.out.S HAC.out
        have HL0d : Hid (Law w K b p m [(p, T)] T [] (World.drew _)) := HL0.out.below (Below.refl _ _).drew
        (go_region_held3 (fun W => (W.cell? ⟨b, 0, none⟩ = some (.pointer (some ⟨p, 0, none⟩)) ∧ W.cell? ⟨b, 1, none⟩ = some (.pointer (some ⟨m, 0, none⟩)) ∧ W.cell? (ad.add (k * 5)) = some (.int .i64 a.f0) ∧ W.cell? ⟨(ad.add (k * 5)).block, (ad.add (k * 5)).off + 1, none⟩ = some (.int .i64 a.f1) ∧ W.cell? ⟨(ad.add (k * 5)).block, (ad.add (k * 5)).off + 2, none⟩ = some (.int .i64 a.f2) ∧ W.cell? ⟨(ad.add (k * 5)).block, (ad.add (k * 5)).off + 3, none⟩ = some (.string a.f3) ∧ W.cell? ⟨(ad.add (k * 5)).block, (ad.add (k * 5)).off + 4, none⟩ = some (.string a.f4)) ∧ Hid (Below w.heap.size w W)) (first | exact HL1.out.S HAC.out | exact HL0d.out.S HAC.out) (first
          | (go_at_call 15; refine (HL0d.out.sts.Does HL0d.out.glob HI.out HN.out.1 a HOK.out).mono ?_; rintro e w2 ⟨rfl, hs, hk⟩; have HL1 : Hid (Law w K b p m [(p, actT T a)] (actT T a) [] w2) := HL0d.out.step hs hk; clear hs hk)))
        clear c0 c1 e0 e1 e2 e3 e4 HL0 HL0d
        go_wp2_with fail
        go_roundw
        case rel => exact ⟨k + 1, _, by omega, by go_num, HL1.out, inv_act HI.out a (Nat.le_trans HOK.out.text (by decide))⟩
        case measure => simp [intOf]; omega
      · obtain rfl : k = kk := by omega
        clear hlk2 hk
        have HN : Hid (k ≤ 1000000) := by unfold Hid; omega
        obtain ⟨c0, c1⟩ := HL0.out.c
        go_upto_region 12 with (first | (go_at_call 18; refine (HL0.out.sts.Sync (i := 0) rfl HL0.out.glob HI.out HN.out).mono ?_; rintro e w2 ⟨rfl, hs, hk⟩; have HL1 : Hid (Law w K b p m [(p, syncT T)] T [] w2) := HL0.out.step hs hk; clear hs hk))
        clear c0 c1 HL0
        have HIs : Hid (Inv k (syncT T)) := inv_sync HI.out.room HI.out.clock HI.out.good
        obtain ⟨c0, c1⟩ := HL1.out.c
        go_upto_region 13 with (first | (go_at_call 16; refine (HL1.out.sts.All (i := 0) rfl HIs.out).mono ?_; rintro e w2 ⟨v0, rfl, hv, hb⟩; obtain ⟨K0, O0, hl, hk1⟩ := HL1.out.view1 hv hb; obtain ⟨A0, n0, rfl⟩ := hv.slice; have HL2 := Lib.hid hl; have HK0 := Lib.hid hk1; clear hv hb hl hk1))
        clear c0 c1 HL1
        go_wp2_with fail
        go_loopw [12] (fun i wr => ∃ (k2 : Nat) (T2 Tm : TS), k2 ≤ l.length ∧ i = .int .i64 k2 ∧ Hid (Law w K0 b p m [(p, T2)] Tm [fun W => VA W O0 (.slice A0 T.l.length n0) (T.l.map af)] wr) ∧ Hid (Inv k2 T2) ∧ Hid (Inv k2 Tm) ∧ Hid (T2.last = T.l))
          (fun i _ => l.length - (intOf i).toNat)
        case atStart => exact ⟨k, syncT T, T, hkl, rfl, HL2.out, HIs.out, HI.out, rfl⟩
        case round =>
          clear HL2 HIs HI HN
          obtain ⟨k2, T2, Tm, hk, rfl, HL0, HI2, HIm, HLA⟩ := hrel
          by_cases hlk : k2 < l.length
          · skip
            obtain ⟨ad, e, hac⟩ := HA.out.at hlk
            subst e
            have HAC := Lib.hid hac
            have HOK := Lib.hid (HSM.out.ac HA.out hlk)
            have HN : Hid (k2 ≤ 1000000 ∧ k2 + 1 ≤ 1000000) := by unfold Hid; omega
            generalize l[k2] = a at hac HAC HOK
            clear hac
            by_cases h6 : pickI a.f0 8 < 6
            · have hd : decide (pickI a.f0 8 < 6) = true := decide_eq_true h6
              obtain ⟨⟨c0, c1, e0, e1, e2, e3, e4⟩, _⟩ := HL0.out.S HAC.out
              go_upto_region 17 with (first | (go_at_call 13; refine (pickn_call a.f0 (8) HOK.out.op (by decide) _).mono ?_; rintro e w2 ⟨rfl, hb⟩; have HL1 : Hid (Law w K0 b p m [(p, T2)] Tm [fun W => VA W O0 (.slice A0 T.l.length n0) (T.l.map af)] w2) := HL0.out.below hb; clear hb))
              clear c0 c1 e0 e1 e2 e3 e4 HL0
              obtain ⟨⟨c0, c1, e0, e1, e2, e3, e4⟩, _⟩ := HL1.out.S HAC.out
              have HL1d : Hid (Law w K0 b p m [(p, T2)] Tm [fun W => VA W O0 (.slice A0 T.l.length n0) (T.l.map af)] (World.drew _)) := HL1.out.below (Below.refl _ _).drew
              (go_region_held3 (fun W => (W.cell? ⟨b, 0, none⟩ = some (.pointer (some ⟨p, 0, none⟩)) ∧ W.cell? ⟨b, 1, none⟩ = some (.pointer (some ⟨m, 0, none⟩)) ∧ W.cell? (ad.add (k2 * 5)) = some (.int .i64 a.f0) ∧ W.cell? ⟨(ad.add (k2 * 5)).block, (ad.add (k2 * 5)).off + 1, none⟩ = some (.int .i64 a.f1) ∧ W.cell? ⟨(ad.add (k2 * 5)).block, (ad.add (k2 * 5)).off + 2, none⟩ = some (.int .i64 a.f2) ∧ W.cell? ⟨(ad.add (k2 * 5)).block, (ad.add (k2 * 5)).off + 3, none⟩ = some (.string a.f3) ∧ W.cell? ⟨(ad.add (k2 * 5)).block, (ad.add (k2 * 5)).off + 4, none⟩ = some (.string a.f4)) ∧ Hid (Below w.heap.size w W)) (first | exact HL2.out.S HAC.out | exact HL1d.out.S HAC.out) (first
                | (go_at_call 15; refine (HL1d.out.sts.Does2 HL1d.out.glob HI2.out HIm.out HN.out.1 a HOK.out).mono ?_; rintro e w2 ⟨r, rfl, hr, hs, hk⟩; have HL2 : Hid (Law w K0 b p m [(p, actT T2 a)] (actT Tm a) [fun W => VA W O0 (.slice A0 T.l.length n0) (T.l.map af)] w2) := HL1d.out.step hs hk; clear hr; clear hs hk)))
              clear c0 c1 e0 e1 e2 e3 e4 HL1 HL1d
              go_wp2_with fail
              go_roundw
              case rel => exact ⟨k2 + 1, _, _, by omega, by go_num, HL2.out, inv_act HI2.out a (Nat.le_trans HOK.out.text (by decide)), inv_act HIm.out a (Nat.le_trans HOK.out.text (by decide)), (act_last T2 a h6).trans HLA.out⟩
              case measure => simp [intOf]; omega
            · have hd : decide (pickI a.f0 8 < 6) = false := decide_eq_false h6
              obtain ⟨⟨c0, c1, e0, e1, e2, e3, e4⟩, _⟩ := HL0.out.S HAC.out
              go_wp2_with (first | (go_at_call 13; refine (pickn_call a.f0 8 HOK.out.op (by decide) _).mono ?_; rintro e w2 ⟨rfl, hb⟩; have HL1 : Hid (Law w K0 b p m [(p, T2)] Tm [fun W => VA W O0 (.slice A0 T.l.length n0) (T.l.map af)] w2) := HL0.out.below hb; clear hb))
              go_roundw
              case rel => exact ⟨k2 + 1, T2, Tm, by omega, by go_num, HL1.out, HI2.out.mono (Nat.le_succ _), HIm.out.mono (Nat.le_succ _), HLA.out⟩
              case measure => simp [intOf]; omega
          · have HN : Hid (k2 ≤ 1000000) := by unfold Hid; omega
            obtain ⟨c0, c1⟩ := HL0.out.c
            go_upto_region 19 with (first | (go_at_call 16; refine (HL0.out.sts.All (i := 0) rfl HI2.out).mono ?_; rintro e w2 ⟨v1, rfl, hv, hb⟩; obtain ⟨K1, O1, hl, hk1⟩ := HL0.out.view1 hv hb; obtain ⟨A1, n1, rfl⟩ := hv.slice; have HL1 := Lib.hid hl; have HK1 := Lib.hid hk1; clear hv hb hl hk1))
            clear c0 c1 HL0
            obtain ⟨c0, c1⟩ := HL1.out.c
            go_upto_region 20 with (first | (go_at_call 19; refine (HL1.out.sts.Clone (i := 0) rfl HI2.out HN.out).mono ?_; rintro e w2 ⟨q, rfl, hs, hb⟩; have HL2 : Hid (Law w K1 b p m [(p, T2), (q, T2)] Tm [fun W => VA W O1 (.slice A1 T2.l.length n1) (T2.l.map af), fun W => VA W O0 (.slice A0 T.l.length n0) (T.l.map af)] w2) := HL1.out.more hs hb; clear hs hb))
            clear c0 c1 HL1
            obtain ⟨c0, c1⟩ := HL2.out.c
            go_upto_region 23 with (first
              | (go_at_call 21; refine (HL2.out.sts.Pending (i := 0) rfl).mono ?_; rintro e w2 ⟨rfl, rfl⟩)
              | (go_at_call 20; refine (HL2.out.sts.Crash (i := 1) rfl HL2.out.glob HI2.out HN.out T2.ch.length 0 (by decide)).mono ?_; rintro e w2 ⟨rfl, hs, hk⟩; have HL3 : Hid (Law w K1 b p m [(p, T2), (q, crashT T2 T2.ch.length 0)] Tm [fun W => VA W O1 (.slice A1 T2.l.length n1) (T2.l.map af), fun W => VA W O0 (.slice A0 T.l.length n0) (T.l.map af)] w2) := HL2.out.step hs hk; clear hs hk))
            clear c0 c1 HL2
            obtain ⟨c0, c1⟩ := HL3.out.c
            go_upto_region 24 with (first | (go_at_call 20; refine (HL3.out.sts.Crash (i := 0) rfl HL3.out.glob HI2.out HN.out 0 0 (by decide)).mono ?_; rintro e w2 ⟨rfl, hs, hk⟩; have HL4 : Hid (Law w K1 b p m [(p, crashT T2 0 0), (q, crashT T2 T2.ch.length 0)] Tm [fun W => VA W O1 (.slice A1 T2.l.length n1) (T2.l.map af), fun W => VA W O0 (.slice A0 T.l.length n0) (T.l.map af)] w2) := HL3.out.step hs hk; clear hs hk))
            clear c0 c1 HL3
            obtain ⟨c0, c1⟩ := HL4.out.c
            have HIa : Hid (Inv k2 (crashT T2 0 0)) := inv_crash HI2.out 0 0
            have HIb : Hid (Inv k2 (crashT T2 T2.ch.length 0)) := inv_crash HI2.out _ 0
            have HEa : Hid ((crashT T2 0 0).l.map af = T.l.map af) := by unfold Hid; rw [crash_none, HLA.out]
            have HEb : Hid ((crashT T2 T2.ch.length 0).l.map af = T2.l.map af) := by unfold Hid; rw [crash_all HI2.out]
            have HNa : Hid (((crashT T2 0 0).l.map af).length ≤ 1000000) := by unfold Hid; rw [List.length_map]; exact Nat.le_trans HIa.out.good.many (by decide)
            have HNb : Hid (((crashT T2 T2.ch.length 0).l.map af).length ≤ 1000000) := by unfold Hid; rw [List.length_map]; exact Nat.le_trans HIb.out.good.many (by decide)
            generalize crashT T2 0 0 = Ta at HL4 HIa HEa HNa
            generalize crashT T2 T2.ch.length 0 = Tb at HL4 HIb HEb HNb
            go_wp2_with (first
              | (go_at_call_of 16 (Value.pointer (some ⟨p, 0, none⟩)); refine (HL4.out.sts.All (i := 0) rfl HIa.out).mono ?_; rintro e w5 ⟨v5, rfl, hv, hb⟩; obtain ⟨A5, n5, rfl⟩ := hv.slice; have HX5 : Hid (Law w K1 b p m [(p, Ta), (q, Tb)] Tm [fun W => VA W O1 (.slice A1 T2.l.length n1) (T2.l.map af), fun W => VA W O0 (.slice A0 T.l.length n0) (T.l.map af)] w5) := HL4.out.below hb; have HV5 := Lib.hid hv; clear hv hb)
              | (go_at_call_of 22 (Value.slice A5 Ta.l.length n5); refine (same_call HV5.out (HX5.out.va 1 rfl) HEa.out HNa.out).mono ?_; rintro e w6 ⟨rfl, hb⟩; have HX6 : Hid (Law w K1 b p m [(p, Ta), (q, Tb)] Tm [fun W => VA W O1 (.slice A1 T2.l.length n1) (T2.l.map af), fun W => VA W O0 (.slice A0 T.l.length n0) (T.l.map af)] w6) := HX5.out.below hb; clear hb)
              | (go_at_call_of 16 (Value.pointer (some ⟨q, 0, none⟩)); refine (HX6.out.sts.All (i := 1) rfl HIb.out).mono ?_; rintro e w7 ⟨v7, rfl, hv, hb⟩; obtain ⟨A7, n7, rfl⟩ := hv.slice; have HX7 : Hid (Law w K1 b p m [(p, Ta), (q, Tb)] Tm [fun W => VA W O1 (.slice A1 T2.l.length n1) (T2.l.map af), fun W => VA W O0 (.slice A0 T.l.length n0) (T.l.map af)] w7) := HX6.out.below hb; have HV7 := Lib.hid hv; clear hv hb)
              | (go_at_call_of 22 (Value.slice A7 Tb.l.length n7); refine (same_call HV7.out (HX7.out.va 0 rfl) HEb.out HNb.out).mono ?_; rintro e w8 ⟨rfl, hb⟩; have HX8 : Hid (Law w K1 b p m [(p, Ta), (q, Tb)] Tm [fun W => VA W O1 (.slice A1 T2.l.length n1) (T2.l.map af), fun W => VA W O0 (.slice A0 T.l.length n0) (T.l.map af)] w8) := HX7.out.below hb; clear hb))
            go_ret
            exact ⟨rfl, HX8.out.bel⟩
end
end Go.Proofs.YtajiidkmijeidaaDoor.Fr
