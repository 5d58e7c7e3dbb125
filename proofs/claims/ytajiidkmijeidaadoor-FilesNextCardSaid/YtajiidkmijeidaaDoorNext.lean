import Derived.Test.YtajiidkmijeidaaDoorNextP
/- FilesNext. -/
namespace Go.Proofs.YtajiidkmijeidaaDoor.Fr
open Go.RowKit Go.Proofs.YtajiidkmijeidaaDoor.F Go.Proofs.YtajiidkmijeidaaDoorW.PrintWords
set_option linter.unusedVariables false
set_option linter.unusedSimpArgs false

section
variable {w : World}
set_option maxHeartbeats 8000000 in
set_option maxRecDepth 100000 in
theorem R_FilesNext (hG : Glob w) (A : Option Addr) (c : Nat) (l : List Ac) (hA : Acs w A c l) :
    Calls Tryd.prog 7 #[.slice A l.length c] w fun e w' => e = .returned (.bool true) ∧ Below w.heap.size w w' := by
  have HG := Lib.hid hG
  have HA := Lib.hid hA
  have capl := hA.cap
  clear hG hA
  go_enter Tryd.func7, Tryd.ntmps7
  go_upto_region 4 with (first
    | (go_at_call 11; refine (shown_call HG.out).mono ?_; rintro e w1 ⟨rfl, hb⟩; have HB1 := Lib.hid hb; clear hb)
    | (go_at_call 12; refine (small_call (HA.out.below HB1.out)).mono ?_; rintro e w2 ⟨r1, rfl, hr, hb⟩; have HR1 := Lib.hid hr; have HB2 := Lib.hid (HB1.out.trans (hb.mono HB1.out.size)); clear hr hb)
    | (go_at_call 14; refine (begun_sts _ 3000 (by decide) (by decide)).mono ?_; rintro e w4 ⟨p, m, rfl, hs, hb⟩; have HL0 := Lib.hid (law_begun HG.out HB2.out hs hb); clear hs hb))
  generalize w4.alloc (.cells #[.pointer (some ⟨p, 0, none⟩), .pointer (some ⟨m, 0, none⟩)] 29) = W0 at HL0
  generalize w4.heap.size = b at HL0
  obtain ⟨K, hK⟩ : ∃ K : Nat → Prop, K = fun k => k < w2.heap.size ∨ k = b := ⟨_, rfl⟩
  rw [← hK] at HL0
  clear hK
  cases r1 with
  | false =>
    go_wp2_with fail
    go_ret
    exact ⟨rfl, HL0.out.bel⟩
  | true =>
    have HSM := Lib.hid (HR1.out rfl)
    clear HR1
    have hl60 := HSM.out.1
    have HI0 : Hid (Inv 0 (newT 3000)) := inv_new (by decide) (by decide)
    obtain ⟨i0, hi, hz0, hz1, hz2⟩ := info_parts infoSl
    have HNX : Hid (NxAt w K b W0 (.slice none 0 0) (newT 3000) 0 []) := nx_nil w W0 K b _
    have HLS : Hid (lsN (newT 3000) 0 = (newT 3000).l) := ls_all HI0.out
    generalize hT0 : newT 3000 = T0 at HL0 HI0 HNX HLS
    have HLA0 : Hid (T0.last = [] ∧ T0.ch.length = 0) := by subst hT0; exact ⟨rfl, rfl⟩
    clear hT0
    obtain ⟨c0, c1⟩ := HL0.out.c
    have H63 : Hid (0 + 1 ≤ maxLen) := by unfold Hid maxLen; omega
    have HBY : Hid ((0 + 1) * 24 ≤ 140737488355328) := by unfold Hid; omega
    go_upto_region 8 with (first
      | (go_at_call 16; refine (HL0.out.sts.All (i := 0) rfl HI0.out).mono ?_; rintro e w8 ⟨v8, rfl, hv, hb⟩; obtain ⟨A8, n8, rfl⟩ := hv.slice; have HV8 := Lib.hid hv; have HB8 := Lib.hid hb; have HRW := Lib.hid ((HNX.out.kp (Kp.of (hb.alloc hb.size (.cells #[.slice A8 T0.l.length n8] 35)))).row); have hnw : ∀ (j : Nat) u, [Value.slice A8 T0.l.length n8][j]? = some u → (w8.alloc (.cells #[.slice A8 T0.l.length n8] 35)).cell? ((⟨w8.heap.size, 0, none⟩ : Addr).add j) = some u := World.news_of_block (World.alloc_heap_new w8 _); have HNW := Lib.hid hnw; have hone : ∀ u ∈ [Value.slice A8 T0.l.length n8], u.oneCell' = true := (fun u hu => by rw [List.mem_singleton.1 hu]; rfl); have HONE := Lib.hid hone; have hba : w.heap.size ≤ (w8.alloc (.cells #[.slice A8 T0.l.length n8] 35)).heap.size := (by rw [World.size_alloc]; exact Nat.le_succ_of_le (Nat.le_trans HL0.out.bel.size hb.size)); have HBA := Lib.hid hba; clear hv hb hnw hone hba)
      | (at_builtin; refine wpList_append_own_at _ rfl _ _ 53 rfl w.heap.size 35 i0 _ 1 24 Tryd.underlying53 hi hz0 hz1 hz2 rfl (by decide) _ (0) _ rfl HRW.out ⟨w8.heap.size, 0, none⟩ 1 1 [.slice A8 T0.l.length n8] rfl rfl HNW.out HONE.out H63.out HBY.out HBA.out ?_; intro v9 w9 h1 h2 h3 h4; obtain ⟨K9, hl9, hn9⟩ := nx_step HL0.out HNX.out HLS.out HB8.out HV8.out h1 h2 h4; obtain ⟨A9, c9, rfl⟩ := hn9.slice; have HL9 := Lib.hid hl9; have HN9 := Lib.hid hn9; clear h1 h2 h3 h4 hl9 hn9))
    clear c0 c1 HL0 HNX H63 HBY HRW HNW HONE HBA HV8 HB8
    have hc0 : T0.ch.length = 0 := HLA0.out.2
    have HN9' : Hid (NxAt w K9 b w9 (.slice A9 (T0.ch.length + 1) c9) T0 (T0.ch.length + 1) ([] ++ [.slice A8 T0.l.length n8])) := by rw [hc0]; exact HN9.out
    have hsl : (.slice A9 (0 + 1) c9 : Value) = .slice A9 (T0.ch.length + 1) c9 := by rw [hc0]
    rw [hsl]
    clear HN9 hsl hc0
    go_wp2_with fail
    go_loopw [7, 8] (fun v7 i wr => ∃ (k : Nat) (T : TS) (K : Nat → Prop) (A7 : Option Addr) (c7 : Nat) (cells : List Value), k ≤ l.length ∧ i = .int .i64 k ∧ v7 = .slice A7 (T.ch.length + 1) c7 ∧ Hid (Law w K b p m [(p, T)] T [] wr) ∧ Hid (Inv k T) ∧ Hid (NxAt w K b wr (.slice A7 (T.ch.length + 1) c7) T (T.ch.length + 1) cells) ∧ Hid (T.last = []))
      (fun _ i _ => l.length - (intOf i).toNat)
    case atStart => exact ⟨0, T0, K9, A9, c9, _, Nat.zero_le _, rfl, rfl, HL9.out, HI0.out, HN9'.out, HLA0.out.1⟩
    case round =>
      clear HL9 HI0 HN9' HLA0 HLS K
      obtain ⟨k, T, K, A7, c7, cells, hk, rfl, rfl, HL0, HI, HNX, HLA⟩ := hrel
      have hch := HI.out.chs
      by_cases hlk : k < l.length
      · skip
        obtain ⟨ad, e, hac⟩ := HA.out.at hlk
        subst e
        have HAC := Lib.hid hac
        have HOK := Lib.hid (HSM.out.ac HA.out hlk)
        have HN : Hid (k ≤ 1000000 ∧ k + 1 ≤ 1000000) := by unfold Hid; omega
        generalize l[k] = a at hac HAC HOK
        clear hac
        by_cases h6 : 6 ≤ pickI a.f0 8
        · have hd : decide (6 ≤ pickI a.f0 8) = true := decide_eq_true h6
          obtain ⟨⟨c0, c1, e0, e1, e2, e3, e4⟩, _⟩ := HL0.out.S HAC.out
          go_wp2_with (first | (go_at_call 13; refine (pickn_call a.f0 8 HOK.out.op (by decide) _).mono ?_; rintro e w2 ⟨rfl, hb⟩; have HL1 : Hid (Law w K b p m [(p, T)] T [] w2) := HL0.out.below hb; have HN1 := Lib.hid (HNX.out.kp (Kp.of hb)); clear hb))
          go_roundw
          case rel => exact ⟨k + 1, T, K, A7, c7, cells, by omega, by go_num, rfl, HL1.out, HI.out.mono (Nat.le_succ _), HN1.out, HLA.out⟩
          case measure => simp [intOf]; omega
        · have hd : decide (6 ≤ pickI a.f0 8) = false := decide_eq_false h6
          obtain ⟨⟨c0, c1, e0, e1, e2, e3, e4⟩, _⟩ := HL0.out.S HAC.out
          go_upto_region 12 with (first | (go_at_call 13; refine (pickn_call a.f0 8 HOK.out.op (by decide) _).mono ?_; rintro e w2 ⟨rfl, hb⟩; have HL1 : Hid (Law w K b p m [(p, T)] T [] w2) := HL0.out.below hb; have HN1 := Lib.hid (HNX.out.kp (Kp.of hb)); clear hb))
          clear c0 c1 e0 e1 e2 e3 e4 HL0
          obtain ⟨⟨c0, c1, e0, e1, e2, e3, e4⟩, _⟩ := HL1.out.S HAC.out
          go_upto_region 13 with (first | (go_at_call 21; refine (HL1.out.sts.Pending (i := 0) rfl).mono ?_; rintro e w2 ⟨rfl, rfl⟩))
          have HL1d : Hid (Law w K b p m [(p, T)] T [] (World.drew _)) := HL1.out.below (Below.refl _ _).drew
          (go_region_held3 (fun W => (W.cell? ⟨b, 0, none⟩ = some (.pointer (some ⟨p, 0, none⟩)) ∧ W.cell? ⟨b, 1, none⟩ = some (.pointer (some ⟨m, 0, none⟩)) ∧ W.cell? (ad.add (k * 5)) = some (.int .i64 a.f0) ∧ W.cell? ⟨(ad.add (k * 5)).block, (ad.add (k * 5)).off + 1, none⟩ = some (.int .i64 a.f1) ∧ W.cell? ⟨(ad.add (k * 5)).block, (ad.add (k * 5)).off + 2, none⟩ = some (.int .i64 a.f2) ∧ W.cell? ⟨(ad.add (k * 5)).block, (ad.add (k * 5)).off + 3, none⟩ = some (.string a.f3) ∧ W.cell? ⟨(ad.add (k * 5)).block, (ad.add (k * 5)).off + 4, none⟩ = some (.string a.f4)) ∧ Hid (Below w.heap.size w W)) (first | exact HL2.out.S HAC.out | exact HL1d.out.S HAC.out) (first
            | (go_at_call 15; refine (HL1d.out.sts.Does HL1d.out.glob HI.out HN.out.1 a HOK.out).mono ?_; rintro e w2 ⟨rfl, hs, hk⟩; have HL2 : Hid (Law w K b p m [(p, actT T a)] (actT T a) [] w2) := HL1d.out.step hs hk; have HN2 := Lib.hid ((HN1.out.kp (Kp.of (Below.refl _ _).drew)).kp hk); clear hs hk)))
          clear c0 c1 e0 e1 e2 e3 e4 HL1 HL1d
          have HI3 : Hid (Inv (k + 1) (actT T a)) := inv_act HI.out a (Nat.le_trans HOK.out.text (by decide))
          rcases act_one T a (by omega) with hc | ⟨cg, hc⟩
          · rw [hc] at HL2 HI3
            obtain ⟨c0, c1⟩ := HL2.out.c
            go_wp2_with (first | (go_at_call 21; refine (HL2.out.sts.Pending (i := 0) rfl).mono ?_; rintro e w3 ⟨rfl, rfl⟩))
            go_roundw
            case rel => exact ⟨k + 1, T, K, A7, c7, cells, by omega, by go_num, rfl, HL2.out, HI3.out, HN2.out, HLA.out⟩
            case measure => simp [intOf]; omega
          · have HN3 : Hid (NxAt w K b _ (.slice A7 (T.ch.length + 1) c7) (doneT T cg) (T.ch.length + 1) cells) := HN2.out.same fun i hi => ls_done T cg i hi
            rw [hc] at HL2 HI3
            have HDL : Hid ((doneT T cg).ch.length = T.ch.length + 1) := done_len T cg
            have HLS : Hid (lsN (doneT T cg) (T.ch.length + 1) = (doneT T cg).l) := by rw [← HDL.out]; exact ls_all HI3.out
            have HLA3 : Hid ((doneT T cg).last = []) := HLA.out
            clear hc HN2 HN1
            generalize doneT T cg = T2 at HL2 HI3 HN3 HDL HLS HLA3
            have H63 : Hid (T.ch.length + 1 + 1 ≤ maxLen) := by unfold Hid maxLen; omega
            have HBY : Hid ((T.ch.length + 1 + 1) * 24 ≤ 140737488355328) := by unfold Hid; omega
            obtain ⟨c0, c1⟩ := HL2.out.c
            go_wp2_with (first
              | (go_at_call 21; refine (HL2.out.sts.Pending (i := 0) rfl).mono ?_; rintro e w3 ⟨rfl, rfl⟩; rw [HDL.out])
              | (go_at_call 16; refine (HL2.out.sts.All (i := 0) rfl HI3.out).mono ?_; rintro e w8 ⟨v8, rfl, hv, hb⟩; obtain ⟨A8, n8, rfl⟩ := hv.slice; have HV8 := Lib.hid hv; have HB8 := Lib.hid hb; have HRW := Lib.hid ((HN3.out.kp (Kp.of (hb.alloc hb.size (.cells #[.slice A8 T2.l.length n8] 35)))).row); have hnw : ∀ (j : Nat) u, [Value.slice A8 T2.l.length n8][j]? = some u → (w8.alloc (.cells #[.slice A8 T2.l.length n8] 35)).cell? ((⟨w8.heap.size, 0, none⟩ : Addr).add j) = some u := World.news_of_block (World.alloc_heap_new w8 _); have HNW := Lib.hid hnw; have hone : ∀ u ∈ [Value.slice A8 T2.l.length n8], u.oneCell' = true := (fun u hu => by rw [List.mem_singleton.1 hu]; rfl); have HONE := Lib.hid hone; have hba : w.heap.size ≤ (w8.alloc (.cells #[.slice A8 T2.l.length n8] 35)).heap.size := (by rw [World.size_alloc]; exact Nat.le_succ_of_le (Nat.le_trans HL2.out.bel.size hb.size)); have HBA := Lib.hid hba; clear hv hb hnw hone hba)
              | (at_builtin; refine wpList_append_own_at _ rfl _ _ 53 rfl w.heap.size 35 i0 _ 1 24 Tryd.underlying53 hi hz0 hz1 hz2 rfl (by decide) _ (T.ch.length + 1) _ rfl HRW.out ⟨w8.heap.size, 0, none⟩ 1 1 [.slice A8 T2.l.length n8] rfl rfl HNW.out HONE.out H63.out HBY.out HBA.out ?_; intro v9 w9 h1 h2 h3 h4; obtain ⟨K9, hl9, hn9⟩ := nx_step HL2.out HN3.out HLS.out HB8.out HV8.out h1 h2 h4; obtain ⟨A9, c9, rfl⟩ := hn9.slice; have HL9 := Lib.hid hl9; have HN9 := Lib.hid hn9; clear h1 h2 h3 h4 hl9 hn9))
            go_roundw
            case rel =>
              refine ⟨k + 1, T2, K9, A9, c9, cells ++ [.slice A8 T2.l.length n8], by omega, by go_num, by rw [HDL.out], HL9.out, HI3.out, ?_, HLA3.out⟩
              rw [HDL.out]
              exact HN9.out
            case measure => simp [intOf]; omega
      · skip
        have HN : Hid (k ≤ 1000000) := by unfold Hid; omega
        obtain ⟨c0, c1⟩ := HL0.out.c
        go_wp2_with (first | (go_at_call 21; refine (HL0.out.sts.Pending (i := 0) rfl).mono ?_; rintro e w3 ⟨rfl, rfl⟩))
        clear c0 c1
        go_loopw [10] (fun i wr2 => ∃ (j : Nat), j ≤ T.ch.length + 1 ∧ i = .int .i64 j ∧ Hid (Law w K b p m [(p, T)] T [] wr2) ∧ Hid (NxAt w K b wr2 (.slice A7 (T.ch.length + 1) c7) T (T.ch.length + 1) cells))
          (fun i _ => T.ch.length + 1 - (intOf i).toNat)
        case atStart => exact ⟨0, Nat.zero_le _, rfl, HL0.out, HNX.out⟩
        case round =>
          clear HL0 HNX
          obtain ⟨j, hj, rfl, HL0, HNX⟩ := hrel
          by_cases hlj : j < T.ch.length + 1
          · obtain ⟨cj, hcj⟩ : ∃ cj, cells[j]? = some cj := ⟨_, List.getElem?_eq_getElem (by rw [HNX.out.len]; exact hlj)⟩
            obtain ⟨ok, Aj, sj, rfl, hva, hok⟩ := HNX.out.el j cj hcj
            obtain ⟨gb, e, hgb⟩ := nx_cell HNX.out hlj hcj
            subst e
            have HVA := Lib.hid hva
            have HCR : Hid ((crashT T j 0).l = lsN T j) := crash_at (n := k) j (by omega)
            have HIq : Hid (Inv k (crashT T j 0)) := inv_crash HI.out j 0
            have HPE : Hid ((crashT T j 0).ch.length = 0) := rfl
            have HOKK := Lib.hid hok
            have HGB := Lib.hid hgb
            clear hva hok hcj hgb
            obtain ⟨c0, c1⟩ := HL0.out.c
            go_upto_region 22 with (first | (go_at_call 19; refine (HL0.out.sts.Clone (i := 0) rfl HI.out HN.out).mono ?_; rintro e w2 ⟨q, rfl, hs, hb⟩; have HL1 : Hid (Law w K b p m [(p, T), (q, T)] T [] w2) := HL0.out.more hs hb; have HN1 := Lib.hid (HNX.out.kp (Kp.of hb)); have HVA1 := Lib.hid (HVA.out.below hb); clear hs hb))
            clear c0 c1 HL0
            obtain ⟨c0, c1⟩ := HL1.out.c
            go_upto_region 25 with (first | (go_at_call 20; refine (HL1.out.sts.Crash (i := 1) rfl HL1.out.glob HI.out HN.out j 0 (by decide)).mono ?_; rintro e w2 ⟨rfl, hs, hk⟩; have HL2 : Hid (Law w K b p m [(p, T), (q, crashT T j 0)] T [] w2) := HL1.out.step hs hk; have HN2 := Lib.hid (HN1.out.kp hk); have HVA2 := Lib.hid (HVA1.out.chg hk fun k h1 h2 => h2 (HOKK.out k h1).1); clear hs hk))
            clear c0 c1 HL1
            generalize crashT T j 0 = Tq at HL2 HCR HIq HPE
            have HEQ : Hid (Tq.l.map af = (lsN T j).map af) := by unfold Hid; rw [HCR.out]
            have HNL : Hid ((Tq.l.map af).length ≤ 1000000) := by unfold Hid; rw [List.length_map]; exact Nat.le_trans HIq.out.good.many (by decide)
            have HCE : Hid (∀ W, Kp K w2 W → W.cell? ⟨gb, j, none⟩ = some (.slice Aj (lsN T j).length sj)) := fun W hk => nx_at (HN2.out.kp hk) HGB.out
            have hq3 := HCE.out _ (Kp.of (Below.refl _ _))
            have HL2d : Hid (Law w K b p m [(p, T), (q, Tq)] T [] (World.drew _)) := HL2.out.below (Below.refl _ _).drew
            have HVA3 := Lib.hid (HVA2.out.below (Below.refl _ _).drew)
            (go_region_held3 (fun W => W.cell? ⟨gb, j, none⟩ = some (.slice Aj (lsN T j).length sj) ∧ Hid (Below w.heap.size w W)) (first | exact ⟨HCE.out _ (Kp.of HB6.out), HX6.out.bel⟩ | exact ⟨HCE.out _ (Kp.of HB5.out), HX5.out.bel⟩ | exact ⟨HCE.out _ (Kp.of (Below.refl _ _).drew), HL2d.out.bel⟩) (first
              | (go_at_call 16; refine (HL2d.out.sts.All (i := 1) rfl HIq.out).mono ?_; rintro e w5 ⟨v5, rfl, hv, hb⟩; obtain ⟨A5, n5, rfl⟩ := hv.slice; have HX5 : Hid (Law w K b p m [(p, T), (q, Tq)] T [] w5) := HL2d.out.below hb; have HV5 := Lib.hid hv; have HB5 := Lib.hid ((Below.refl _ w2).drew.trans hb); have HVA5 := Lib.hid (HVA3.out.below hb); clear hv hb)
              | (go_at_call 22; refine (same_call HV5.out HVA5.out HEQ.out HNL.out).mono ?_; rintro e w6 ⟨rfl, hb⟩; have HX6 : Hid (Law w K b p m [(p, T), (q, Tq)] T [] w6) := HX5.out.below hb; have HB6 := Lib.hid (HB5.out.trans (hb.mono HB5.out.size)); clear hb)
              | (go_at_call 21; refine (HX6.out.sts.Pending (i := 1) rfl).mono ?_; rintro e w7 ⟨rfl, rfl⟩; rw [HPE.out])))
            go_wp2_with fail
            go_roundw
            case rel => exact ⟨j + 1, by omega, by go_num, HX6.out.fst, HN2.out.kp (Kp.of HB6.out)⟩
            case measure => simp [intOf]; omega
          · go_wp2_with fail
            go_ret
            exact ⟨rfl, HL0.out.bel⟩
end
end Go.Proofs.YtajiidkmijeidaaDoor.Fr
