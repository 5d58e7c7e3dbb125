import Derived.Test.YtajiidkmijeidaaDoorWays
/- FilesTurn. -/
namespace Go.Proofs.YtajiidkmijeidaaDoor.Fr
open Go.RowKit Go.Proofs.YtajiidkmijeidaaDoor.F Go.Proofs.YtajiidkmijeidaaDoorW.PrintWords
set_option linter.unusedVariables false
set_option linter.unusedSimpArgs false

section
variable {w : World}
set_option maxHeartbeats 8000000 in
set_option maxRecDepth 100000 in
theorem R_FilesTurn (hG : Glob w) (A : Option Addr) (c : Nat) (l : List Ac) (hA : Acs w A c l) (pa : ByteArray) (wpa : pa.size ≤ 140737488351232) (pb : ByteArray) (wpb : pb.size ≤ 140737488351232) :
    Calls Tryd.prog 8 #[.slice A l.length c, .string pa, .string pb] w fun e w' => e = .returned (.bool true) ∧ Below w.heap.size w w' := by
  have HG := Lib.hid hG
  have HA := Lib.hid hA
  have capl := hA.cap
  clear hG hA
  go_enter Tryd.func8, Tryd.ntmps8
  go_upto_region 4 with (first
    | (go_at_call 11; refine (shown_call HG.out).mono ?_; rintro e w1 ⟨rfl, hb⟩; have HB1 := Lib.hid hb; clear hb)
    | (go_at_call 12; refine (small_call (HA.out.below HB1.out)).mono ?_; rintro e w2 ⟨r1, rfl, hr, hb⟩; have HR1 := Lib.hid hr; have HB2 := Lib.hid (HB1.out.trans (hb.mono HB1.out.size)); clear hr hb)
    | (go_at_call 14; refine (begun_sts _ 3000 (by decide) (by decide)).mono ?_; rintro e w4 ⟨p, m, rfl, hs, hb⟩; have HL0 := Lib.hid (law_begun HG.out HB2.out hs hb); clear hs hb))
  generalize w4.alloc (.cells #[.pointer (some ⟨p, 0, none⟩), .pointer (some ⟨m, 0, none⟩)] 29) = W0 at HL0
  generalize w4.heap.size = b at HL0
  obtain ⟨K, hK⟩ : ∃ K : Nat → Prop, K = fun k => k < w2.heap.size ∨ k = b := ⟨_, rfl⟩
  rw [← hK] at HL0
  clear hK
  cases r1 with
  | false =>
    go_wp2_with fail
    go_ret
    exact ⟨rfl, HL0.out.bel⟩
  | true =>
    have HSM := Lib.hid (HR1.out rfl)
    clear HR1
    have hl60 := HSM.out.1
    have HI0 : Hid (Inv 0 (newT 3000)) := inv_new (by decide) (by decide)
    by_cases ha : 150 < pa.size
    · have hd : decide ((150 : Int) < (pa.size : Int)) = true := decide_eq_true (by omega)
      go_wp2_with fail
      go_ret
      exact ⟨rfl, HL0.out.bel⟩
    have hd : decide ((150 : Int) < (pa.size : Int)) = false := decide_eq_false (by omega)
    by_cases hb : 150 < pb.size
    · have hd2 : decide ((150 : Int) < (pb.size : Int)) = true := decide_eq_true (by omega)
      go_wp2_with fail
      go_ret
      exact ⟨rfl, HL0.out.bel⟩
    have hd2 : decide ((150 : Int) < (pb.size : Int)) = false := decide_eq_false (by omega)
    have hpa : pa.size ≤ 100000 := by omega
    have hpb : pb.size ≤ 100000 := by omega
    go_wp2_with fail
    go_loopw [11] (fun i wr => ∃ (k : Nat) (T : TS), k ≤ l.length ∧ i = .int .i64 k ∧ Hid (Law w K b p m [(p, T)] T [] wr) ∧ Hid (Inv k T) ∧ Hid (IW T))
      (fun i _ => l.length - (intOf i).toNat)
    case atStart => exact ⟨0, _, Nat.zero_le _, rfl, HL0.out, HI0.out, iw_new _⟩
    case round =>
      clear HL0 HI0
      obtain ⟨k, T, hk, rfl, HL0, HI, HW⟩ := hrel
      by_cases hlk : k < l.length
      · skip
        obtain ⟨ad, e, hac⟩ := HA.out.at hlk
        subst e
        have HAC := Lib.hid hac
        have HOK := Lib.hid (HSM.out.ac HA.out hlk)
        have HN : Hid (k ≤ 1000000 ∧ k + 1 ≤ 1000000) := by unfold Hid; omega
        generalize l[k] = a at hac HAC HOK
        clear hac
        go_upto_region 9 with fail
        obtain ⟨⟨c0, c1, e0, e1, e2, e3, e4⟩, _⟩ := HL0.out.S HAC.out
        have HL0d : Hid (Law w K b p m [(p, T)] T [] (World.drew _)) := HL0.out.below (Below.refl _ _).drew
        (go_region_held3 (fun W => (W.cell? ⟨b, 0, none⟩ = some (.pointer (some ⟨p, 0, none⟩)) ∧ W.cell? ⟨b, 1, none⟩ = some (.pointer (some ⟨m, 0, none⟩)) ∧ W.cell? (ad.add (k * 5)) = some (.int .i64 a.f0) ∧ W.cell? ⟨(ad.add (k * 5)).block, (ad.add (k * 5)).off + 1, none⟩ = some (.int .i64 a.f1) ∧ W.cell? ⟨(ad.add (k * 5)).block, (ad.add (k * 5)).off + 2, none⟩ = some (.int .i64 a.f2) ∧ W.cell? ⟨(ad.add (k * 5)).block, (ad.add (k * 5)).off + 3, none⟩ = some (.string a.f3) ∧ W.cell? ⟨(ad.add (k * 5)).block, (ad.add (k * 5)).off + 4, none⟩ = some (.string a.f4)) ∧ Hid (Below w.heap.size w W)) (first | exact HL1.out.S HAC.out | exact HL0d.out.S HAC.out) (first
          | (go_at_call 15; refine (HL0d.out.sts.Does HL0d.out.glob HI.out HN.out.1 a HOK.out).mono ?_; rintro e w2 ⟨rfl, hs, hk⟩; have HL1 : Hid (Law w K b p m [(p, actT T a)] (actT T a) [] w2) := HL0d.out.step hs hk; clear hs hk)))
        clear c0 c1 e0 e1 e2 e3 e4 HL0 HL0d
        go_wp2_with fail
        go_roundw
        case rel => exact ⟨k + 1, _, by omega, by go_num, HL1.out, inv_act HI.out a (Nat.le_trans HOK.out.text (by decide)), iw_act HW.out HI.out a⟩
        case measure => simp [intOf]; omega
      · have hkl : k = l.length := by omega
        clear hlk hk
        have HN : Hid (k + 4 ≤ 1000000) := by unfold Hid; omega
        have HN1 : Hid (k ≤ 1000000) := by unfold Hid; omega
        obtain ⟨c0, c1⟩ := HL0.out.c
        go_upto_region 11 with (first | (go_at_call 27; refine (HL0.out.sts.Remove (i := 0) rfl HL0.out.glob HI.out HN1.out pb hpb).mono ?_; rintro e w2 ⟨rfl, hs, hk⟩; have HL1 : Hid (Law w K b p m [(p, removeT T pb)] T [] w2) := HL0.out.step hs hk; clear hs hk))
        clear c0 c1 HL0
        have HI1 : Hid (Inv (k + 4) (removeT T pb)) := (inv_remove HI.out pb).mono (by omega)
        have HW1 : Hid (Wy (removeT T pb).l) := (iw_remove HW.out HI.out pb).now (inv_remove HI.out pb)
        have HB1 : Hid (findF (removeT T pb).l pb = none) := remove_none pb
        clear HW HN1
        generalize removeT T pb = T1 at HL1 HI1 HW1 HB1
        obtain ⟨c0, c1⟩ := HL1.out.c
        go_upto_region 12 with (first | (go_at_call 16; refine (HL1.out.sts.All (i := 0) rfl HI1.out).mono ?_; rintro e w2 ⟨v0, rfl, hv, hb⟩; obtain ⟨K0, O0, hl, hk1⟩ := HL1.out.view1 hv hb; obtain ⟨A0, n0, rfl⟩ := hv.slice; have HL2 := Lib.hid hl; have HK0 := Lib.hid hk1; clear hv hb hl hk1))
        clear c0 c1 HL1
        have HNL : Hid ((T1.l.map af).length ≤ 1000000) := by unfold Hid; rw [List.length_map]; exact Nat.le_trans HI1.out.good.many (by decide)
        rcases rename_cases T1 pa pb with ⟨h1, h2⟩ | ⟨h1, h2⟩ | ⟨h1, h2⟩ | ⟨h1, h2⟩
        · obtain ⟨sz, tm, hst⟩ : ∃ sz tm, statT T1 pa = (sz, tm, 0) := ⟨_, _, by rw [← h2]⟩
          have HST := Lib.hid hst
          have HRE := Lib.hid h1
          clear hst h1 h2
          obtain ⟨c0, c1⟩ := HL2.out.c
          go_upto_region 13 with (first | (go_at_call 23; refine (HL2.out.sts.Stat (i := 0) rfl pa hpa).mono ?_; rintro e w2 ⟨rfl, hb⟩; have HL3 : Hid (Law w K0 b p m [(p, T1)] T [fun W => VA W O0 (.slice A0 T1.l.length n0) (T1.l.map af)] w2) := HL2.out.below hb; rw [HST.out]; clear hb))
          clear c0 c1 HL2
          have HL4 := Lib.hid (HL3.out.box1 (.cells #[.int .i64 sz, .int .i64 tm] 46))
          generalize w2.alloc (.cells #[.int .i64 sz, .int .i64 tm] 46) = Wb1 at HL4
          generalize w2.heap.size = u1 at HL4
          obtain ⟨Kb1, hKb⟩ : ∃ K' : Nat → Prop, K' = fun k => K0 k ∨ k = u1 := ⟨_, rfl⟩
          rw [← hKb] at HL4
          clear hKb HL3
          obtain ⟨c0, c1⟩ := HL4.out.c
          go_upto_region 14 with (first | (go_at_call 24; refine (HL4.out.sts.Rename (i := 0) rfl HL4.out.glob HI1.out HN.out pa pb hpa hpb).mono ?_; rintro e w2 ⟨rfl, hs, hk⟩; have HL5 : Hid (Law w Kb1 b p m [(p, renameT T1 pa pb)] T [fun W' => W'.heap[u1]? = some (.cells #[.int .i64 sz, .int .i64 tm] 46), fun W => VA W O0 (.slice A0 T1.l.length n0) (T1.l.map af)] w2) := HL4.out.step hs hk; rw [HRE.out]; clear hs hk))
          clear c0 c1 HL4
          obtain ⟨hr2, hl3⟩ := turn_back HI1.out HW1.out HB1.out HRE.out
          have HR2 := Lib.hid hr2
          have HL3e := Lib.hid hl3
          have HI2 : Hid (Inv (k + 4 + 1) (renameT T1 pa pb)) := inv_rename HI1.out pa pb
          have HI3 : Hid (Inv (k + 4 + 1 + 1) (renameT (renameT T1 pa pb) pb pa)) := inv_rename HI2.out pb pa
          have HN2 : Hid (k + 4 + 1 ≤ 1000000) := by unfold Hid; omega
          clear hr2 hl3
          generalize renameT T1 pa pb = T2 at HL5 HR2 HL3e HI2 HI3
          obtain ⟨c0, c1⟩ := HL5.out.c
          go_upto_region 17 with (first | (go_at_call 24; refine (HL5.out.sts.Rename (i := 0) rfl HL5.out.glob HI2.out HN2.out pb pa hpb hpa).mono ?_; rintro e w2 ⟨rfl, hs, hk⟩; have HL6 : Hid (Law w Kb1 b p m [(p, renameT T2 pb pa)] T [fun W' => W'.heap[u1]? = some (.cells #[.int .i64 sz, .int .i64 tm] 46), fun W => VA W O0 (.slice A0 T1.l.length n0) (T1.l.map af)] w2) := HL5.out.step hs hk; rw [HR2.out]; clear hs hk))
          clear c0 c1 HL5
          have HST3 : Hid (statT (renameT T2 pb pa) pa = (sz, tm, 0)) := (stat_l HL3e.out pa).trans HST.out
          generalize renameT T2 pb pa = T3 at HL6 HL3e HI3 HST3
          obtain ⟨c0, c1⟩ := HL6.out.c
          go_upto_region 18 with (first | (go_at_call 23; refine (HL6.out.sts.Stat (i := 0) rfl pa hpa).mono ?_; rintro e w2 ⟨rfl, hb⟩; have HL7 : Hid (Law w Kb1 b p m [(p, T3)] T [fun W' => W'.heap[u1]? = some (.cells #[.int .i64 sz, .int .i64 tm] 46), fun W => VA W O0 (.slice A0 T1.l.length n0) (T1.l.map af)] w2) := HL6.out.below hb; rw [HST3.out]; clear hb))
          clear c0 c1 HL6
          have HL8 := Lib.hid (HL7.out.box1 (.cells #[.int .i64 sz, .int .i64 tm] 46))
          generalize w2.alloc (.cells #[.int .i64 sz, .int .i64 tm] 46) = Wb2 at HL8
          generalize w2.heap.size = u2 at HL8
          obtain ⟨Kb2, hKb⟩ : ∃ K' : Nat → Prop, K' = fun k => Kb1 k ∨ k = u2 := ⟨_, rfl⟩
          rw [← hKb] at HL8
          clear hKb HL7
          obtain ⟨c0, c1⟩ := HL8.out.c
          have hb2 := HL8.out.va 0 rfl
          have hb1 := HL8.out.va 1 rfl
          have b10 : _ = some (Value.int .i64 sz) := cell_box hb1 0 rfl
          have b11 : _ = some (Value.int .i64 tm) := cell_box hb1 1 rfl
          have b20 : _ = some (Value.int .i64 sz) := cell_box hb2 0 rfl
          have b21 : _ = some (Value.int .i64 tm) := cell_box hb2 1 rfl
          have HEQ : Hid (T3.l.map af = T1.l.map af) := by unfold Hid; rw [HL3e.out]
          have HNL3 : Hid ((T3.l.map af).length ≤ 1000000) := by rw [HEQ.out]; exact HNL.out
          go_wp2_with (first
            | (go_at_call 16; refine (HL8.out.sts.All (i := 0) rfl HI3.out).mono ?_; rintro e w5 ⟨v5, rfl, hv, hb⟩; obtain ⟨A5, n5, rfl⟩ := hv.slice; have HX5 : Hid (Law w Kb2 b p m [(p, T3)] T [fun W' => W'.heap[u2]? = some (.cells #[.int .i64 sz, .int .i64 tm] 46), fun W' => W'.heap[u1]? = some (.cells #[.int .i64 sz, .int .i64 tm] 46), fun W => VA W O0 (.slice A0 T1.l.length n0) (T1.l.map af)] w5) := HL8.out.below hb; have HV5 := Lib.hid hv; clear hv hb)
            | (go_at_call 22; refine (same_call HV5.out (HX5.out.va 2 rfl) HEQ.out HNL3.out).mono ?_; rintro e w6 ⟨rfl, hb⟩; have HX6 : Hid (Law w Kb2 b p m [(p, T3)] T [fun W' => W'.heap[u2]? = some (.cells #[.int .i64 sz, .int .i64 tm] 46), fun W' => W'.heap[u1]? = some (.cells #[.int .i64 sz, .int .i64 tm] 46), fun W => VA W O0 (.slice A0 T1.l.length n0) (T1.l.map af)] w6) := HX5.out.below hb; clear hb))
          go_ret
          exact ⟨rfl, HX6.out.bel⟩
        · obtain ⟨sz, tm, hst⟩ : ∃ sz tm, statT T1 pa = (sz, tm, 0) := ⟨_, _, by rw [← h2]⟩
          have HST := Lib.hid hst
          have HRE := Lib.hid h1
          clear hst h1 h2
          obtain ⟨c0, c1⟩ := HL2.out.c
          go_upto_region 13 with (first | (go_at_call 23; refine (HL2.out.sts.Stat (i := 0) rfl pa hpa).mono ?_; rintro e w2 ⟨rfl, hb⟩; have HL3 : Hid (Law w K0 b p m [(p, T1)] T [fun W => VA W O0 (.slice A0 T1.l.length n0) (T1.l.map af)] w2) := HL2.out.below hb; rw [HST.out]; clear hb))
          clear c0 c1 HL2
          have HL4 := Lib.hid (HL3.out.box1 (.cells #[.int .i64 sz, .int .i64 tm] 46))
          generalize w2.alloc (.cells #[.int .i64 sz, .int .i64 tm] 46) = Wb1 at HL4
          generalize w2.heap.size = u1 at HL4
          obtain ⟨Kb1, hKb⟩ : ∃ K' : Nat → Prop, K' = fun k => K0 k ∨ k = u1 := ⟨_, rfl⟩
          rw [← hKb] at HL4
          clear hKb HL3
          obtain ⟨c0, c1⟩ := HL4.out.c
          go_upto_region 14 with (first | (go_at_call 24; refine (HL4.out.sts.Rename (i := 0) rfl HL4.out.glob HI1.out HN.out pa pb hpa hpb).mono ?_; rintro e w2 ⟨rfl, hs, hk⟩; have HL5 : Hid (Law w Kb1 b p m [(p, renameT T1 pa pb)] T [fun W' => W'.heap[u1]? = some (.cells #[.int .i64 sz, .int .i64 tm] 46), fun W => VA W O0 (.slice A0 T1.l.length n0) (T1.l.map af)] w2) := HL4.out.step hs hk; rw [HRE.out]; clear hs hk))
          clear c0 c1 HL4
          rw [rename_err (T := T1) (a := pa) (b := pb) (by rw [HRE.out]; decide)] at HL5
          obtain ⟨c0, c1⟩ := HL5.out.c
          go_wp2_with (first
            | (go_at_call 16; refine (HL5.out.sts.All (i := 0) rfl HI1.out).mono ?_; rintro e w5 ⟨v5, rfl, hv, hb⟩; obtain ⟨A5, n5, rfl⟩ := hv.slice; have HX5 : Hid (Law w Kb1 b p m [(p, T1)] T [fun W' => W'.heap[u1]? = some (.cells #[.int .i64 sz, .int .i64 tm] 46), fun W => VA W O0 (.slice A0 T1.l.length n0) (T1.l.map af)] w5) := HL5.out.below hb; have HV5 := Lib.hid hv; clear hv hb)
            | (go_at_call 22; refine (same_call HV5.out (HX5.out.va 1 rfl) rfl HNL.out).mono ?_; rintro e w6 ⟨rfl, hb⟩; have HX6 : Hid (Law w Kb1 b p m [(p, T1)] T [fun W' => W'.heap[u1]? = some (.cells #[.int .i64 sz, .int .i64 tm] 46), fun W => VA W O0 (.slice A0 T1.l.length n0) (T1.l.map af)] w6) := HX5.out.below hb; clear hb))
          go_ret
          exact ⟨rfl, HX6.out.bel⟩
        · obtain ⟨sz, tm, hst⟩ : ∃ sz tm, statT T1 pa = (sz, tm, 4) := ⟨_, _, by rw [← h2]⟩
          have HST := Lib.hid hst
          have HRE := Lib.hid h1
          clear hst h1 h2
          obtain ⟨c0, c1⟩ := HL2.out.c
          go_upto_region 13 with (first | (go_at_call 23; refine (HL2.out.sts.Stat (i := 0) rfl pa hpa).mono ?_; rintro e w2 ⟨rfl, hb⟩; have HL3 : Hid (Law w K0 b p m [(p, T1)] T [fun W => VA W O0 (.slice A0 T1.l.length n0) (T1.l.map af)] w2) := HL2.out.below hb; rw [HST.out]; clear hb))
          clear c0 c1 HL2
          have HL4 := Lib.hid (HL3.out.box1 (.cells #[.int .i64 sz, .int .i64 tm] 46))
          generalize w2.alloc (.cells #[.int .i64 sz, .int .i64 tm] 46) = Wb1 at HL4
          generalize w2.heap.size = u1 at HL4
          obtain ⟨Kb1, hKb⟩ : ∃ K' : Nat → Prop, K' = fun k => K0 k ∨ k = u1 := ⟨_, rfl⟩
          rw [← hKb] at HL4
          clear hKb HL3
          obtain ⟨c0, c1⟩ := HL4.out.c
          go_upto_region 14 with (first | (go_at_call 24; refine (HL4.out.sts.Rename (i := 0) rfl HL4.out.glob HI1.out HN.out pa pb hpa hpb).mono ?_; rintro e w2 ⟨rfl, hs, hk⟩; have HL5 : Hid (Law w Kb1 b p m [(p, renameT T1 pa pb)] T [fun W' => W'.heap[u1]? = some (.cells #[.int .i64 sz, .int .i64 tm] 46), fun W => VA W O0 (.slice A0 T1.l.length n0) (T1.l.map af)] w2) := HL4.out.step hs hk; rw [HRE.out]; clear hs hk))
          clear c0 c1 HL4
          rw [rename_err (T := T1) (a := pa) (b := pb) (by rw [HRE.out]; decide)] at HL5
          obtain ⟨c0, c1⟩ := HL5.out.c
          go_wp2_with (first
            | (go_at_call 16; refine (HL5.out.sts.All (i := 0) rfl HI1.out).mono ?_; rintro e w5 ⟨v5, rfl, hv, hb⟩; obtain ⟨A5, n5, rfl⟩ := hv.slice; have HX5 : Hid (Law w Kb1 b p m [(p, T1)] T [fun W' => W'.heap[u1]? = some (.cells #[.int .i64 sz, .int .i64 tm] 46), fun W => VA W O0 (.slice A0 T1.l.length n0) (T1.l.map af)] w5) := HL5.out.below hb; have HV5 := Lib.hid hv; clear hv hb)
            | (go_at_call 22; refine (same_call HV5.out (HX5.out.va 1 rfl) rfl HNL.out).mono ?_; rintro e w6 ⟨rfl, hb⟩; have HX6 : Hid (Law w Kb1 b p m [(p, T1)] T [fun W' => W'.heap[u1]? = some (.cells #[.int .i64 sz, .int .i64 tm] 46), fun W => VA W O0 (.slice A0 T1.l.length n0) (T1.l.map af)] w6) := HX5.out.below hb; clear hb))
          go_ret
          exact ⟨rfl, HX6.out.bel⟩
        · obtain ⟨sz, tm, hst⟩ : ∃ sz tm, statT T1 pa = (sz, tm, 0) := ⟨_, _, by rw [← h2]⟩
          have HST := Lib.hid hst
          have HRE := Lib.hid h1
          clear hst h1 h2
          obtain ⟨c0, c1⟩ := HL2.out.c
          go_upto_region 13 with (first | (go_at_call 23; refine (HL2.out.sts.Stat (i := 0) rfl pa hpa).mono ?_; rintro e w2 ⟨rfl, hb⟩; have HL3 : Hid (Law w K0 b p m [(p, T1)] T [fun W => VA W O0 (.slice A0 T1.l.length n0) (T1.l.map af)] w2) := HL2.out.below hb; rw [HST.out]; clear hb))
          clear c0 c1 HL2
          have HL4 := Lib.hid (HL3.out.box1 (.cells #[.int .i64 sz, .int .i64 tm] 46))
          generalize w2.alloc (.cells #[.int .i64 sz, .int .i64 tm] 46) = Wb1 at HL4
          generalize w2.heap.size = u1 at HL4
          obtain ⟨Kb1, hKb⟩ : ∃ K' : Nat → Prop, K' = fun k => K0 k ∨ k = u1 := ⟨_, rfl⟩
          rw [← hKb] at HL4
          clear hKb HL3
          obtain ⟨c0, c1⟩ := HL4.out.c
          go_upto_region 14 with (first | (go_at_call 24; refine (HL4.out.sts.Rename (i := 0) rfl HL4.out.glob HI1.out HN.out pa pb hpa hpb).mono ?_; rintro e w2 ⟨rfl, hs, hk⟩; have HL5 : Hid (Law w Kb1 b p m [(p, renameT T1 pa pb)] T [fun W' => W'.heap[u1]? = some (.cells #[.int .i64 sz, .int .i64 tm] 46), fun W => VA W O0 (.slice A0 T1.l.length n0) (T1.l.map af)] w2) := HL4.out.step hs hk; rw [HRE.out]; clear hs hk))
          clear c0 c1 HL4
          rw [rename_err (T := T1) (a := pa) (b := pb) (by rw [HRE.out]; decide)] at HL5
          obtain ⟨c0, c1⟩ := HL5.out.c
          go_wp2_with (first
            | (go_at_call 16; refine (HL5.out.sts.All (i := 0) rfl HI1.out).mono ?_; rintro e w5 ⟨v5, rfl, hv, hb⟩; obtain ⟨A5, n5, rfl⟩ := hv.slice; have HX5 : Hid (Law w Kb1 b p m [(p, T1)] T [fun W' => W'.heap[u1]? = some (.cells #[.int .i64 sz, .int .i64 tm] 46), fun W => VA W O0 (.slice A0 T1.l.length n0) (T1.l.map af)] w5) := HL5.out.below hb; have HV5 := Lib.hid hv; clear hv hb)
            | (go_at_call 22; refine (same_call HV5.out (HX5.out.va 1 rfl) rfl HNL.out).mono ?_; rintro e w6 ⟨rfl, hb⟩; have HX6 : Hid (Law w Kb1 b p m [(p, T1)] T [fun W' => W'.heap[u1]? = some (.cells #[.int .i64 sz, .int .i64 tm] 46), fun W => VA W O0 (.slice A0 T1.l.length n0) (T1.l.map af)] w6) := HX5.out.below hb; clear hb))
          go_ret
          exact ⟨rfl, HX6.out.bel⟩
end
end Go.Proofs.YtajiidkmijeidaaDoor.Fr
