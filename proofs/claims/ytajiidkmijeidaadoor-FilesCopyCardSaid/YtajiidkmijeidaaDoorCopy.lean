import Derived.Test.YtajiidkmijeidaaDoorActsW
/- FilesCopy. -/
namespace Go.Proofs.YtajiidkmijeidaaDoor.Fr
open Go.RowKit Go.Proofs.YtajiidkmijeidaaDoor.F Go.Proofs.YtajiidkmijeidaaDoorW.PrintWords
set_option linter.unusedVariables false
set_option linter.unusedSimpArgs false

section
variable {w : World}
set_option maxHeartbeats 8000000 in
set_option maxRecDepth 100000 in
theorem R_FilesCopy (hG : Glob w) (A : Option Addr) (c : Nat) (l : List Ac) (hA : Acs w A c l) (B : Option Addr) (d : Nat) (l2 : List Ac) (hB : Acs w B d l2) :
    Calls Tryd.prog 6 #[.slice A l.length c, .slice B l2.length d] w fun e w' => e = .returned (.bool true) ∧ Below w.heap.size w w' := by
  have HG := Lib.hid hG
  have HA := Lib.hid hA
  have capl := hA.cap
  have HB := Lib.hid hB
  have capl2 := hB.cap
  clear hG hA hB
  go_enter Tryd.func6, Tryd.ntmps6
  go_upto_region 5 with (first
    | (go_at_call 11; refine (shown_call HG.out).mono ?_; rintro e w1 ⟨rfl, hb⟩; have HB1 := Lib.hid hb; clear hb)
    | (go_at_call_of 12 (Value.slice A l.length c); refine (small_call (HA.out.below HB1.out)).mono ?_; rintro e w2 ⟨r1, rfl, hr, hb⟩; have HR1 := Lib.hid hr; have HB2 := Lib.hid (HB1.out.trans (hb.mono HB1.out.size)); clear hr hb)
    | (go_at_call_of 12 (Value.slice B l2.length d); refine (small_call (HB.out.below HB2.out)).mono ?_; rintro e w2 ⟨r2, rfl, hr, hb⟩; have HR2 := Lib.hid hr; have HB3 := Lib.hid (HB2.out.trans (hb.mono HB2.out.size)); clear hr hb)
    | (go_at_call 14; refine (begun_sts _ 3000 (by decide) (by decide)).mono ?_; rintro e w4 ⟨p, m, rfl, hs, hb⟩; have HL0 := Lib.hid (law_begun HG.out HB3.out hs hb); clear hs hb))
  generalize w4.alloc (.cells #[.pointer (some ⟨p, 0, none⟩), .pointer (some ⟨m, 0, none⟩)] 29) = W0 at HL0
  generalize w4.heap.size = b at HL0
  obtain ⟨K, hK⟩ : ∃ K : Nat → Prop, K = fun k => k < w2.heap.size ∨ k = b := ⟨_, rfl⟩
  rw [← hK] at HL0
  clear hK
  cases r1 with
  | false =>
    go_wp2_with fail
    go_ret
    exact ⟨rfl, HL0.out.bel⟩
  | true =>
    cases r2 with
    | false =>
      go_wp2_with fail
      go_ret
      exact ⟨rfl, HL0.out.bel⟩
    | true =>
      have HSM := Lib.hid (HR1.out rfl)
      have HSN := Lib.hid (HR2.out rfl)
      clear HR1 HR2
      have hl60 := HSM.out.1
      have hm60 := HSN.out.1
      have HI0 : Hid (Inv 0 (newT 3000)) := inv_new (by decide) (by decide)
      go_wp2_with fail
      go_loopw [10] (fun i wr => ∃ (k : Nat) (T : TS), k ≤ l.length ∧ i = .int .i64 k ∧ Hid (Law w K b p m [(p, T)] T [] wr) ∧ Hid (Inv k T))
        (fun i _ => l.length - (intOf i).toNat)
      case atStart => exact ⟨0, _, Nat.zero_le _, rfl, HL0.out, HI0.out⟩
      case round =>
        clear HL0 HI0
        obtain ⟨k, T, hk, rfl, HL0, HI⟩ := hrel
        by_cases hlk : k < l.length
        · skip
          obtain ⟨ad, e, hac⟩ := HA.out.at hlk
          subst e
          have HAC := Lib.hid hac
          have HOK := Lib.hid (HSM.out.ac HA.out hlk)
          have HN : Hid (k ≤ 1000000 ∧ k + 1 ≤ 1000000) := by unfold Hid; omega
          generalize l[k] = a at hac HAC HOK
          clear hac
          go_upto_region 10 with fail
          obtain ⟨⟨c0, c1, e0, e1, e2, e3, e4⟩, _⟩ := HL0.out.S HAC.out
          have HL0d : Hid (Law w K b p m [(p, T)] T [] (World.drew _)) := HL0.out.below (Below.refl _ _).drew
          (go_region_held3 (fun W => (W.cell? ⟨b, 0, none⟩ = some (.pointer (some ⟨p, 0, none⟩)) ∧ W.cell? ⟨b, 1, none⟩ = some (.pointer (some ⟨m, 0, none⟩)) ∧ W.cell? (ad.add (k * 5)) = some (.int .i64 a.f0) ∧ W.cell? ⟨(ad.add (k * 5)).block, (ad.add (k * 5)).off + 1, none⟩ = some (.int .i64 a.f1) ∧ W.cell? ⟨(ad.add (k * 5)).block, (ad.add (k * 5)).off + 2, none⟩ = some (.int .i64 a.f2) ∧ W.cell? ⟨(ad.add (k * 5)).block, (ad.add (k * 5)).off + 3, none⟩ = some (.string a.f3) ∧ W.cell? ⟨(ad.add (k * 5)).block, (ad.add (k * 5)).off + 4, none⟩ = some (.string a.f4)) ∧ Hid (Below w.heap.size w W)) (first | exact HL1.out.S HAC.out | exact HL0d.out.S HAC.out) (first
            | (go_at_call 15; refine (HL0d.out.sts.Does HL0d.out.glob HI.out HN.out.1 a HOK.out).mono ?_; rintro e w2 ⟨rfl, hs, hk⟩; have HL1 : Hid (Law w K b p m [(p, actT T a)] (actT T a) [] w2) := HL0d.out.step hs hk; clear hs hk)))
          clear c0 c1 e0 e1 e2 e3 e4 HL0 HL0d
          go_wp2_with fail
          go_roundw
          case rel => exact ⟨k + 1, _, by omega, by go_num, HL1.out, inv_act HI.out a (Nat.le_trans HOK.out.text (by decide))⟩
          case measure => simp [intOf]; omega
        · have hkl : k = l.length := by omega
          clear hlk hk
          have HN : Hid (k ≤ 1000000) := by unfold Hid; omega
          obtain ⟨c0, c1⟩ := HL0.out.c
          go_upto_region 12 with (first | (go_at_call 19; refine (HL0.out.sts.Clone (i := 0) rfl HI.out HN.out).mono ?_; rintro e w2 ⟨q, rfl, hs, hb⟩; have HL1 : Hid (Law w K b p m [(p, T), (q, T)] T [] w2) := HL0.out.more hs hb; clear hs hb))
          clear c0 c1 HL0
          obtain ⟨c0, c1⟩ := HL1.out.c
          go_upto_region 15 with (first | (go_at_call 19; refine (HL1.out.sts.Clone (i := 0) rfl HI.out HN.out).mono ?_; rintro e w2 ⟨r, rfl, hs, hb⟩; have HL2 : Hid (Law w K b p m [(p, T), (q, T), (r, T)] T [] w2) := HL1.out.more hs hb; clear hs hb))
          clear c0 c1 HL1
          obtain ⟨c0, c1⟩ := HL2.out.c
          go_upto_region 16 with (first | (go_at_call 16; refine (HL2.out.sts.All (i := 0) rfl HI.out).mono ?_; rintro e w2 ⟨v0, rfl, hv, hb⟩; obtain ⟨K0, O0, hl, hk1⟩ := HL2.out.view1 hv hb; obtain ⟨A0, n0, rfl⟩ := hv.slice; have HL3 := Lib.hid hl; have HK0 := Lib.hid hk1; clear hv hb hl hk1))
          clear c0 c1 HL2
          obtain ⟨c0, c1⟩ := HL3.out.c
          go_upto_region 17 with (first | (go_at_call 21; refine (HL3.out.sts.Pending (i := 0) rfl).mono ?_; rintro e w2 ⟨rfl, rfl⟩))
          go_wp2_with fail
          go_loopw [15] (fun i wr => ∃ (k2 : Nat) (U : TS), k2 ≤ l2.length ∧ i = .int .i64 k2 ∧ Hid (Law w K0 b p m [(p, T), (q, U), (r, U)] T [fun W => VA W O0 (.slice A0 T.l.length n0) (T.l.map af)] wr) ∧ Hid (Inv (k + k2) U))
            (fun i _ => l2.length - (intOf i).toNat)
          case atStart => exact ⟨0, T, Nat.zero_le _, rfl, HL3.out, HI.out⟩
          case round =>
            clear HL3 c0 c1
            obtain ⟨k2, U, hk, rfl, HL0, HI2⟩ := hrel
            by_cases hlk : k2 < l2.length
            · skip
              obtain ⟨ad, e, hac⟩ := HB.out.at hlk
              subst e
              have HAC := Lib.hid hac
              have HOK := Lib.hid (HSN.out.ac HB.out hlk)
              have HN : Hid (k + k2 ≤ 1000000 ∧ k + k2 + 1 ≤ 1000000) := by unfold Hid; omega
              generalize l2[k2] = a at hac HAC HOK
              clear hac
              go_upto_region 20 with fail
              obtain ⟨⟨c0, c1, e0, e1, e2, e3, e4⟩, _⟩ := HL0.out.S HAC.out
              have HL0d : Hid (Law w K0 b p m [(p, T), (q, U), (r, U)] T [fun W => VA W O0 (.slice A0 T.l.length n0) (T.l.map af)] (World.drew _)) := HL0.out.below (Below.refl _ _).drew
              (go_region_held3 (fun W => (W.cell? ⟨b, 0, none⟩ = some (.pointer (some ⟨p, 0, none⟩)) ∧ W.cell? ⟨b, 1, none⟩ = some (.pointer (some ⟨m, 0, none⟩)) ∧ W.cell? (ad.add (k2 * 5)) = some (.int .i64 a.f0) ∧ W.cell? ⟨(ad.add (k2 * 5)).block, (ad.add (k2 * 5)).off + 1, none⟩ = some (.int .i64 a.f1) ∧ W.cell? ⟨(ad.add (k2 * 5)).block, (ad.add (k2 * 5)).off + 2, none⟩ = some (.int .i64 a.f2) ∧ W.cell? ⟨(ad.add (k2 * 5)).block, (ad.add (k2 * 5)).off + 3, none⟩ = some (.string a.f3) ∧ W.cell? ⟨(ad.add (k2 * 5)).block, (ad.add (k2 * 5)).off + 4, none⟩ = some (.string a.f4)) ∧ Hid (Below w.heap.size w W)) (first | exact HL1.out.S HAC.out | exact HL0d.out.S HAC.out) (first
                | (go_at_call 26; refine (HL0d.out.sts.Acts (i := 1) rfl HL0d.out.glob HI2.out HN.out.1 a HOK.out).mono ?_; rintro e w2 ⟨rfl, hs, hk⟩; have HL1 : Hid (Law w K0 b p m [(p, T), (q, actT U a), (r, U)] T [fun W => VA W O0 (.slice A0 T.l.length n0) (T.l.map af)] w2) := HL0d.out.step hs hk; clear hs hk)))
              clear c0 c1 e0 e1 e2 e3 e4 HL0 HL0d
              go_upto_region 21 with fail
              obtain ⟨⟨c0, c1, e0, e1, e2, e3, e4⟩, _⟩ := HL1.out.S HAC.out
              have HL1d : Hid (Law w K0 b p m [(p, T), (q, actT U a), (r, U)] T [fun W => VA W O0 (.slice A0 T.l.length n0) (T.l.map af)] (World.drew _)) := HL1.out.below (Below.refl _ _).drew
              (go_region_held3 (fun W => (W.cell? ⟨b, 0, none⟩ = some (.pointer (some ⟨p, 0, none⟩)) ∧ W.cell? ⟨b, 1, none⟩ = some (.pointer (some ⟨m, 0, none⟩)) ∧ W.cell? (ad.add (k2 * 5)) = some (.int .i64 a.f0) ∧ W.cell? ⟨(ad.add (k2 * 5)).block, (ad.add (k2 * 5)).off + 1, none⟩ = some (.int .i64 a.f1) ∧ W.cell? ⟨(ad.add (k2 * 5)).block, (ad.add (k2 * 5)).off + 2, none⟩ = some (.int .i64 a.f2) ∧ W.cell? ⟨(ad.add (k2 * 5)).block, (ad.add (k2 * 5)).off + 3, none⟩ = some (.string a.f3) ∧ W.cell? ⟨(ad.add (k2 * 5)).block, (ad.add (k2 * 5)).off + 4, none⟩ = some (.string a.f4)) ∧ Hid (Below w.heap.size w W)) (first | exact HL2.out.S HAC.out | exact HL1d.out.S HAC.out) (first
                | (go_at_call 26; refine (HL1d.out.sts.Acts (i := 2) rfl HL1d.out.glob HI2.out HN.out.1 a HOK.out).mono ?_; rintro e w2 ⟨rfl, hs, hk⟩; have HL2 : Hid (Law w K0 b p m [(p, T), (q, actT U a), (r, actT U a)] T [fun W => VA W O0 (.slice A0 T.l.length n0) (T.l.map af)] w2) := HL1d.out.step hs hk; clear hs hk)))
              clear c0 c1 e0 e1 e2 e3 e4 HL1 HL1d
              go_wp2_with fail
              go_roundw
              case rel => exact ⟨k2 + 1, _, by omega, by go_num, HL2.out, inv_act HI2.out a (Nat.le_trans HOK.out.text (by decide))⟩
              case measure => simp [intOf]; omega
            · have HN2 : Hid (k + k2 ≤ 1000000) := by unfold Hid; omega
              obtain ⟨c0, c1⟩ := HL0.out.c
              go_upto_region 23 with (first | (go_at_call 20; refine (HL0.out.sts.Crash (i := 1) rfl HL0.out.glob HI2.out HN2.out 1 1 (by decide)).mono ?_; rintro e w2 ⟨rfl, hs, hk⟩; have HL1 : Hid (Law w K0 b p m [(p, T), (q, crashT U 1 1), (r, U)] T [fun W => VA W O0 (.slice A0 T.l.length n0) (T.l.map af)] w2) := HL0.out.step hs hk; clear hs hk))
              clear c0 c1 HL0
              obtain ⟨c0, c1⟩ := HL1.out.c
              go_upto_region 24 with (first | (go_at_call 20; refine (HL1.out.sts.Crash (i := 2) rfl HL1.out.glob HI2.out HN2.out 1 1 (by decide)).mono ?_; rintro e w2 ⟨rfl, hs, hk⟩; have HL2 : Hid (Law w K0 b p m [(p, T), (q, crashT U 1 1), (r, crashT U 1 1)] T [fun W => VA W O0 (.slice A0 T.l.length n0) (T.l.map af)] w2) := HL1.out.step hs hk; clear hs hk))
              clear c0 c1 HL1
              have HIX : Hid (Inv (k + k2) (crashT U 1 1)) := inv_crash HI2.out 1 1
              generalize crashT U 1 1 = X at HL2 HIX
              have HNX : Hid ((X.l.map af).length ≤ 1000000) := by unfold Hid; rw [List.length_map]; exact Nat.le_trans HIX.out.good.many (by decide)
              have HNT : Hid ((T.l.map af).length ≤ 1000000) := by unfold Hid; rw [List.length_map]; exact Nat.le_trans HI.out.good.many (by decide)
              obtain ⟨c0, c1⟩ := HL2.out.c
              go_wp2_with (first
                | (go_at_call_of 16 (Value.pointer (some ⟨q, 0, none⟩)); refine (HL2.out.sts.All (i := 1) rfl HIX.out).mono ?_; rintro e w5 ⟨v5, rfl, hv, hb⟩; obtain ⟨A5, n5, rfl⟩ := hv.slice; have HX5 : Hid (Law w K0 b p m [(p, T), (q, X), (r, X)] T [fun W => VA W O0 (.slice A0 T.l.length n0) (T.l.map af)] w5) := HL2.out.below hb; have HV5 := Lib.hid hv; obtain ⟨d50, d51⟩ := HX5.out.c; clear hv hb)
                | (go_at_call_of 16 (Value.pointer (some ⟨r, 0, none⟩)); refine (HX5.out.sts.All (i := 2) rfl HIX.out).mono ?_; rintro e w6 ⟨v6, rfl, hv, hb⟩; obtain ⟨A6, n6, rfl⟩ := hv.slice; have HX6 : Hid (Law w K0 b p m [(p, T), (q, X), (r, X)] T [fun W => VA W O0 (.slice A0 T.l.length n0) (T.l.map af)] w6) := HX5.out.below hb; have HV6 := Lib.hid hv; obtain ⟨d60, d61⟩ := HX6.out.c; have hb6 := Lib.hid hb; clear hv hb)
                | (go_at_call_of 22 (Value.slice A5 X.l.length n5); refine (same_call (HV5.out.below hb6.out) HV6.out rfl HNX.out).mono ?_; rintro e w7 ⟨rfl, hb⟩; have HX7 : Hid (Law w K0 b p m [(p, T), (q, X), (r, X)] T [fun W => VA W O0 (.slice A0 T.l.length n0) (T.l.map af)] w7) := HX6.out.below hb; obtain ⟨d70, d71⟩ := HX7.out.c; clear hb)
                | (go_at_call_of 17 (Value.pointer (some ⟨q, 0, none⟩)); refine (HX7.out.sts.Used (i := 1) rfl HIX.out).mono ?_; rintro e w8 ⟨rfl, hb⟩; have HX8 : Hid (Law w K0 b p m [(p, T), (q, X), (r, X)] T [fun W => VA W O0 (.slice A0 T.l.length n0) (T.l.map af)] w8) := HX7.out.below hb; obtain ⟨d80, d81⟩ := HX8.out.c; clear hb)
                | (go_at_call_of 17 (Value.pointer (some ⟨r, 0, none⟩)); refine (HX8.out.sts.Used (i := 2) rfl HIX.out).mono ?_; rintro e w9 ⟨rfl, hb⟩; have HX9 : Hid (Law w K0 b p m [(p, T), (q, X), (r, X)] T [fun W => VA W O0 (.slice A0 T.l.length n0) (T.l.map af)] w9) := HX8.out.below hb; obtain ⟨d90, d91⟩ := HX9.out.c; clear hb)
                | (go_at_call_of 16 (Value.pointer (some ⟨p, 0, none⟩)); refine (HX9.out.sts.All (i := 0) rfl HI.out).mono ?_; rintro e w10 ⟨v10, rfl, hv, hb⟩; obtain ⟨A10, n10, rfl⟩ := hv.slice; have HX10 : Hid (Law w K0 b p m [(p, T), (q, X), (r, X)] T [fun W => VA W O0 (.slice A0 T.l.length n0) (T.l.map af)] w10) := HX9.out.below hb; have HV10 := Lib.hid hv; obtain ⟨d100, d101⟩ := HX10.out.c; clear hv hb)
                | (go_at_call_of 22 (Value.slice A10 T.l.length n10); refine (same_call HV10.out (HX10.out.va 0 rfl) rfl HNT.out).mono ?_; rintro e w11 ⟨rfl, hb⟩; have HX11 : Hid (Law w K0 b p m [(p, T), (q, X), (r, X)] T [fun W => VA W O0 (.slice A0 T.l.length n0) (T.l.map af)] w11) := HX10.out.below hb; obtain ⟨d110, d111⟩ := HX11.out.c; clear hb)
                | (go_at_call_of 21 (Value.pointer (some ⟨p, 0, none⟩)); refine (HX11.out.sts.Pending (i := 0) rfl).mono ?_; rintro e w12 ⟨rfl, rfl⟩))
              go_ret
              exact ⟨by simp, HX11.out.bel⟩
end
end Go.Proofs.YtajiidkmijeidaaDoor.Fr
