import Derived.Test.YtajiidkmijeidaaDoorWaysP
/- FilesWays. -/
namespace Go.Proofs.YtajiidkmijeidaaDoor.Fr
open Go.RowKit Go.Proofs.YtajiidkmijeidaaDoor.F Go.Proofs.YtajiidkmijeidaaDoorW.PrintWords
set_option linter.unusedVariables false
set_option linter.unusedSimpArgs false

section
variable {w : World}
set_option maxHeartbeats 8000000 in
set_option maxRecDepth 100000 in
theorem R_FilesWays (hG : Glob w) (room : Int) (wroom : (Lit.int .i64 room).wf = true) (A : Option Addr) (c : Nat) (l : List Ac) (hA : Acs w A c l) :
    Calls Tryd.prog 3 #[.int .i64 room, .slice A l.length c] w fun e w' => e = .returned (.bool true) ∧ Below w.heap.size w w' := by
  have HG := Lib.hid hG
  have HA := Lib.hid hA
  have capl := hA.cap
  have hroom := int_wf wroom
  clear hG hA
  go_enter Tryd.func3, Tryd.ntmps3
  obtain ⟨hp0, hp1⟩ := pickn_lt room 2000 (by decide)
  go_upto_region 4 with (first
    | (go_at_call 11; refine (shown_call HG.out).mono ?_; rintro e w1 ⟨rfl, hb⟩; have HB1 := Lib.hid hb; clear hb)
    | (go_at_call 12; refine (small_call (HA.out.below HB1.out)).mono ?_; rintro e w2 ⟨r1, rfl, hr, hb⟩; have HR1 := Lib.hid hr; have HB2 := Lib.hid (HB1.out.trans (hb.mono HB1.out.size)); clear hr hb)
    | (go_at_call 13; refine (pickn_call room 2000 hroom (by decide) _).mono ?_; rintro e w3 ⟨rfl, hb⟩; have HB3 := Lib.hid (HB2.out.trans (hb.mono HB2.out.size)); clear hb))
  obtain ⟨N, hN⟩ : ∃ N : Int, N = 1 + pickI room 2000 := ⟨_, rfl⟩
  rw [← hN]
  have hN1 : 1 ≤ N ∧ N ≤ 2000 := by omega
  clear hN hp0 hp1
  go_upto_region 5 with (first | (go_at_call 14; refine (begun_sts _ N (by omega) (by omega)).mono ?_; rintro e w4 ⟨p, m, rfl, hs, hb⟩; have HL0 := Lib.hid (law_begun HG.out HB3.out hs hb); clear hs hb))
  generalize w4.alloc (.cells #[.pointer (some ⟨p, 0, none⟩), .pointer (some ⟨m, 0, none⟩)] 29) = W0 at HL0
  generalize w4.heap.size = b at HL0
  obtain ⟨K, hK⟩ : ∃ K : Nat → Prop, K = fun k => k < w3.heap.size ∨ k = b := ⟨_, rfl⟩
  rw [← hK] at HL0
  clear hK
  cases r1 with
  | false =>
    go_wp2_with fail
    go_ret
    exact ⟨rfl, HL0.out.bel⟩
  | true =>
    have HSM := Lib.hid (HR1.out rfl)
    clear HR1
    have hl60 := HSM.out.1
    have HI0 : Hid (Inv 0 (newT N)) := inv_new (by omega) (by omega)
    go_wp2_with fail
    go_loopw [10] (fun i wr => ∃ (k : Nat) (T : TS), k ≤ l.length ∧ i = .int .i64 k ∧ Hid (Law w K b p m [(p, T)] T [] wr) ∧ Hid (Inv k T) ∧ Hid (IW T) ∧ Hid (T.room = N))
      (fun i _ => l.length - (intOf i).toNat)
    case atStart => exact ⟨0, _, Nat.zero_le _, rfl, HL0.out, HI0.out, iw_new _, rfl⟩
    case round =>
      clear HL0 HI0
      obtain ⟨k, T, hk, rfl, HL0, HI, HW, HRM⟩ := hrel
      by_cases hlk : k < l.length
      · skip
        have HLs := HL0
        obtain ⟨ad, e, hac⟩ := HA.out.at hlk
        subst e
        have HAC := Lib.hid hac
        have HOK := Lib.hid (HSM.out.ac HA.out hlk)
        have HN : Hid (k ≤ 1000000 ∧ k + 1 ≤ 1000000) := by unfold Hid; omega
        generalize l[k] = a at hac HAC HOK
        clear hac
        go_upto_region 10 with fail
        obtain ⟨⟨c0, c1, e0, e1, e2, e3, e4⟩, _⟩ := HL0.out.S HAC.out
        have HL0d : Hid (Law w K b p m [(p, T)] T [] (World.drew _)) := HL0.out.below (Below.refl _ _).drew
        (go_region_held3 (fun W => (W.cell? ⟨b, 0, none⟩ = some (.pointer (some ⟨p, 0, none⟩)) ∧ W.cell? ⟨b, 1, none⟩ = some (.pointer (some ⟨m, 0, none⟩)) ∧ W.cell? (ad.add (k * 5)) = some (.int .i64 a.f0) ∧ W.cell? ⟨(ad.add (k * 5)).block, (ad.add (k * 5)).off + 1, none⟩ = some (.int .i64 a.f1) ∧ W.cell? ⟨(ad.add (k * 5)).block, (ad.add (k * 5)).off + 2, none⟩ = some (.int .i64 a.f2) ∧ W.cell? ⟨(ad.add (k * 5)).block, (ad.add (k * 5)).off + 3, none⟩ = some (.string a.f3) ∧ W.cell? ⟨(ad.add (k * 5)).block, (ad.add (k * 5)).off + 4, none⟩ = some (.string a.f4)) ∧ Hid (Below w.heap.size w W)) (first | exact HL1.out.S HAC.out | exact HL0d.out.S HAC.out) (first
          | (go_at_call 15; refine (HL0d.out.sts.Does HL0d.out.glob HI.out HN.out.1 a HOK.out).mono ?_; rintro e w2 ⟨rfl, hs, hk⟩; have HL1 : Hid (Law w K b p m [(p, actT T a)] (actT T a) [] w2) := HL0d.out.step hs hk; clear hs hk)))
        clear c0 c1 e0 e1 e2 e3 e4 HL0 HL0d
        have HI1 : Hid (Inv (k + 1) (actT T a)) := inv_act HI.out a (Nat.le_trans HOK.out.text (by decide))
        have HW1 : Hid (IW (actT T a)) := iw_act HW.out HI.out a
        have HR1 : Hid ((actT T a).room = N) := (act_room T a).trans HRM.out
        generalize actT T a = T1 at HL1 HI1 HW1 HR1
        clear HAC HOK HN
        obtain ⟨c0, c1⟩ := HL1.out.c
        go_upto_region 12 with (first | (go_at_call 16; refine (HL1.out.sts.All (i := 0) rfl HI1.out).mono ?_; rintro e w2 ⟨v0, rfl, hv, hb⟩; obtain ⟨K0, O0, hl, hk1⟩ := HL1.out.view1 hv hb; obtain ⟨A0, n0, rfl⟩ := hv.slice; have HL2 := Lib.hid hl; have HK0 := Lib.hid hk1; clear hv hb hl hk1))
        clear c0 c1 HL1
        have hlen := HI1.out.good.many
        have hused : usedF T1.l ≤ 1073741824 := by have h1 := HI1.out.good.used; have h2 := HI1.out.room; omega
        have HWY := Lib.hid (HW1.out.now HI1.out)
        have HSR := Lib.hid HI1.out.good.srt
        go_wp2_with fail
        go_loopw [12, 13] (fun v12 v13 wr => ∃ (j : Nat), j ≤ T1.l.length ∧ v13 = .int .i64 j ∧ v12 = .int .i64 (usedF (T1.l.take j) : Nat) ∧ Hid (Law w K0 b p m [(p, T1)] T1 [fun W => VA W O0 (.slice A0 T1.l.length n0) (T1.l.map af)] wr))
          (fun _ i _ => T1.l.length - (intOf i).toNat)
        case atStart => exact ⟨0, Nat.zero_le _, rfl, by rw [List.take_zero]; rfl, HL2.out⟩
        case round =>
          clear HL2
          obtain ⟨j, hj, rfl, rfl, HL5⟩ := hrel
          by_cases hjl : j < T1.l.length
          · obtain ⟨ad, n1, e, hcx, r0, r1⟩ := VA_at (HL5.out.va 0 rfl) hjl
            cases e
            have hsum := used_take T1.l j hjl
            have hsle := used_take_le T1.l (j + 1)
            have HF : Hid (T1.l[j] ∈ T1.l) := List.getElem_mem hjl
            have HLT : Hid (∀ (j' : Nat) (h : j' + 1 = j), ltB (T1.l[j']'(by omega)).f0 T1.l[j].f0 = true) := srt_next HSR.out hjl
            have hfs : T1.l[j].f0.size ≤ 100 := path_size (HI1.out.good.pth _ HF.out)
            generalize hf : T1.l[j] = f at r0 r1 hsum HF HLT hfs
            have HFE := Lib.hid hf
            clear hf
            go_wp2_with fail
            go_loopw [14] (fun v14 wr2 => ∃ (i3 : Nat), i3 ≤ T1.l.length ∧ v14 = .int .i64 i3 ∧ Hid (Law w K0 b p m [(p, T1)] T1 [fun W => VA W O0 (.slice (some ad) T1.l.length n0) (T1.l.map af)] wr2))
              (fun i _ => T1.l.length - (intOf i).toNat)
            case atStart => exact ⟨0, Nat.zero_le _, rfl, HL5.out⟩
            case round =>
              clear HL5 r0 r1
              obtain ⟨i3, hi3, rfl, HL6⟩ := hrel
              by_cases hil : i3 < T1.l.length
              · obtain ⟨ad2, n2, e, _, r0, r1⟩ := VA_at (HL6.out.va 0 rfl) hjl
                cases e
                rw [HFE.out] at r0
                clear r1
                obtain ⟨ad3, n3, e, _, s0, s1⟩ := VA_at (HL6.out.va 0 rfl) hil
                cases e
                have hg : Hid (wayF T1.l[i3].f0 f.f0 = false) := HWY.out _ (List.getElem_mem hil) f HF.out
                have hgs : T1.l[i3].f0.size ≤ 100 := path_size (HI1.out.good.pth _ (List.getElem_mem hil))
                generalize hge : T1.l[i3] = g at s0 s1 hg hgs
                clear hge
                by_cases hj0 : j = 0
                · have hjd : decide ((0 : Int) < (j : Int)) = false := decide_eq_false (by omega)
                  have HJN : Hid (¬ 0 < j) := by unfold Hid; omega
                  clear hj0
                  go_upto_region 21 with fail
                  obtain ⟨q, hq⟩ : ∃ q, q = g.f0 ++ (⟨#[47]⟩ : ByteArray) := ⟨_, rfl⟩
                  rw [← hq]
                  have HQS : Hid (q.size = g.f0.size + 1) := by unfold Hid; rw [hq, ByteArray.size_append]; rfl
                  have hcn := cut_ne hg.out
                  rw [← hq] at hcn
                  have hcm := beq_ne hcn
                  clear hq
                  by_cases hsz : q.size < f.f0.size
                  · have d1 : decide ((q.size : Int) < (f.f0.size : Int)) = true := decide_eq_true (by omega)
                    have hjn := HJN.out
                    go_quiet (fail)
                    clear hjn
                    go_wp2_with fail
                    go_roundw
                    case rel => exact ⟨i3 + 1, by omega, by go_num, HL6.out.below (pw_below_drewN (Below.refl _ _) _)⟩
                    case measure => simp [intOf]; omega
                  · have d1 : decide ((q.size : Int) < (f.f0.size : Int)) = false := decide_eq_false (by omega)
                    have hsn : ¬ q.size < f.f0.size := hsz
                    have hjn := HJN.out
                    go_quiet (fail)
                    clear hjn
                    go_wp2_with fail
                    go_roundw
                    case rel => exact ⟨i3 + 1, by omega, by go_num, HL6.out.below (pw_below_drewN (Below.refl _ _) _)⟩
                    case measure => simp [intOf]; omega
                · obtain ⟨j', rfl⟩ : ∃ j', j = j' + 1 := ⟨j - 1, by omega⟩
                  have hlt := HLT.out j' rfl
                  obtain ⟨ad4, n4, e, _, t0, t1⟩ := VA_at (HL6.out.va 0 rfl) (show j' < T1.l.length by omega)
                  cases e
                  generalize hhe : T1.l[j'] = h4 at t0 t1 hlt
                  clear hhe
                  have hjd : decide ((0 : Int) < ((j' : Int) + 1)) = true := decide_eq_true (by omega)
                  go_upto_region 21 with fail
                  obtain ⟨q, hq⟩ : ∃ q, q = g.f0 ++ (⟨#[47]⟩ : ByteArray) := ⟨_, rfl⟩
                  rw [← hq]
                  have HQS : Hid (q.size = g.f0.size + 1) := by unfold Hid; rw [hq, ByteArray.size_append]; rfl
                  have hcn := cut_ne hg.out
                  rw [← hq] at hcn
                  have hcm := beq_ne hcn
                  clear hq
                  obtain ⟨hl1, hl2⟩ := lt_leq hlt
                  by_cases hsz : q.size < f.f0.size
                  · have d1 : decide ((q.size : Int) < (f.f0.size : Int)) = true := decide_eq_true (by omega)
                    go_quiet (fail)
                    go_wp2_with fail
                    go_roundw
                    case rel => exact ⟨i3 + 1, by omega, by go_num, HL6.out.below (pw_below_drewN (Below.refl _ _) _)⟩
                    case measure => simp [intOf]; omega
                  · have d1 : decide ((q.size : Int) < (f.f0.size : Int)) = false := decide_eq_false (by omega)
                    go_quiet (fail)
                    go_wp2_with fail
                    go_roundw
                    case rel => exact ⟨i3 + 1, by omega, by go_num, HL6.out.below (pw_below_drewN (Below.refl _ _) _)⟩
                    case measure => simp [intOf]; omega
              · go_wp2_with fail
                go_roundw
                case rel => exact ⟨j + 1, by omega, by go_num, by rw [hsum]; go_num, HL6.out⟩
                case measure => simp [intOf]; omega
          · have hjn : j = T1.l.length := by omega
            subst hjn
            rw [List.take_length]
            have hu := HI1.out.good.used
            have hrm := HR1.out
            have d3 : decide (N < (usedF T1.l : Int)) = false := decide_eq_false (by omega)
            have d4 : decide ((200 : Int) < (T1.l.length : Int)) = false := decide_eq_false (by omega)
            obtain ⟨c0, c1⟩ := HL5.out.c
            go_wp2_with (first | (go_at_call 17; refine (HL5.out.sts.Used (i := 0) rfl HI1.out).mono ?_; rintro e w9 ⟨rfl, hb⟩; have HL9 := Lib.hid (HL5.out.below hb); clear hb))
            go_roundw
            case rel => exact ⟨k + 1, T1, by omega, by go_num, HL9.out.drop HLs.out HK0.out (fun x hx => by cases hx), HI1.out, HW1.out, HR1.out⟩
            case measure => simp [intOf]; omega
      · go_wp2_with fail
        go_ret
        exact ⟨rfl, HL0.out.bel⟩
end
end Go.Proofs.YtajiidkmijeidaaDoor.Fr
