import Derived.Test.YtajiidkmijeidaaDoorTimesP
/- FilesTimes. -/
namespace Go.Proofs.YtajiidkmijeidaaDoor.Fr
open Go.RowKit Go.Proofs.YtajiidkmijeidaaDoor.F Go.Proofs.YtajiidkmijeidaaDoorW.PrintWords
set_option linter.unusedVariables false
set_option linter.unusedSimpArgs false

section
variable {w : World}
set_option maxHeartbeats 8000000 in
set_option maxRecDepth 100000 in
theorem R_FilesTimes (hG : Glob w) (A : Option Addr) (c : Nat) (l : List Ac) (hA : Acs w A c l) :
    Calls Tryd.prog 5 #[.slice A l.length c] w fun e w' => e = .returned (.bool true) ∧ Below w.heap.size w w' := by
  have HG := Lib.hid hG
  have HA := Lib.hid hA
  have capl := hA.cap
  clear hG hA
  go_enter Tryd.func5, Tryd.ntmps5
  go_upto_region 4 with (first
    | (go_at_call 11; refine (shown_call HG.out).mono ?_; rintro e w1 ⟨rfl, hb⟩; have HB1 := Lib.hid hb; clear hb)
    | (go_at_call 12; refine (small_call (HA.out.below HB1.out)).mono ?_; rintro e w2 ⟨r1, rfl, hr, hb⟩; have HR1 := Lib.hid hr; have HB2 := Lib.hid (HB1.out.trans (hb.mono HB1.out.size)); clear hr hb)
    | (go_at_call 14; refine (begun_sts _ 2000 (by decide) (by decide)).mono ?_; rintro e w4 ⟨p, m, rfl, hs, hb⟩; have HL0 := Lib.hid (law_begun HG.out HB2.out hs hb); clear hs hb))
  generalize w4.alloc (.cells #[.pointer (some ⟨p, 0, none⟩), .pointer (some ⟨m, 0, none⟩)] 29) = W0 at HL0
  generalize w4.heap.size = b at HL0
  obtain ⟨K, hK⟩ : ∃ K : Nat → Prop, K = fun k => k < w2.heap.size ∨ k = b := ⟨_, rfl⟩
  rw [← hK] at HL0
  clear hK
  cases r1 with
  | false =>
    go_wp2_with fail
    go_ret
    exact ⟨rfl, HL0.out.bel⟩
  | true =>
    have HSM := Lib.hid (HR1.out rfl)
    clear HR1
    have hl60 := HSM.out.1
    have HI0 : Hid (Inv 0 (newT 2000)) := inv_new (by decide) (by decide)
    go_wp2_with fail
    go_loopw [7, 8] (fun v7 i wr => ∃ (k : Nat) (T : TS) (last : Int), k ≤ l.length ∧ i = .int .i64 k ∧ v7 = .int .i64 last ∧ Hid (Law w K b p m [(p, T)] (newT 2000) [] wr) ∧ Hid (Inv k T) ∧ Hid (last ≤ T.clock))
      (fun v7 i _ => l.length - (intOf i).toNat)
    case atStart => exact ⟨0, newT 2000, 0, Nat.zero_le _, rfl, rfl, HL0.out, HI0.out, Int.le_refl _⟩
    case round =>
      clear HL0 HI0
      obtain ⟨k, T, last, hk, rfl, rfl, HL0, HI, HLA⟩ := hrel
      by_cases hlk : k < l.length
      · skip
        have HLs := HL0
        obtain ⟨ad, e, hac⟩ := HA.out.at hlk
        subst e
        have HAC := Lib.hid hac
        have HOK := Lib.hid (HSM.out.ac HA.out hlk)
        have HN : Hid (k ≤ 1000000 ∧ k + 1 ≤ 1000000) := by unfold Hid; omega
        generalize l[k] = a at hac HAC HOK
        obtain ⟨⟨c0, c1, e0, e1, e2, e3, e4⟩, _⟩ := HL0.out.S hac
        clear hac
        go_upto_region 11 with fail
        clear c0 c1 e0 e1 e2 e3 e4
        have HL1 := Lib.hid (HL0.out.box1 (.cells #[.int .i64 a.f0, .int .i64 a.f1, .int .i64 a.f2, .string a.f3, .string a.f4] 34))
        generalize wr.alloc (.cells #[.int .i64 a.f0, .int .i64 a.f1, .int .i64 a.f2, .string a.f3, .string a.f4] 34) = Wb1 at HL1
        generalize wr.heap.size = u1 at HL1
        obtain ⟨Kb1, hKb⟩ : ∃ K' : Nat → Prop, K' = fun k => K k ∨ k = u1 := ⟨_, rfl⟩
        rw [← hKb] at HL1
        have hKb1 : ∀ k, K k → Kb1 k := fun k h => by rw [hKb]; exact .inl h
        clear hKb HL0
        have hal := HOK.out.text
        obtain ⟨hp0, hp1⟩ := pickI_lt a.f0
        by_cases h5 : pickI a.f0 8 = 5
        · have HJ := Lib.hid h5
          clear h5 hp0 hp1
          obtain ⟨c0, c1⟩ := HL1.out.c
          obtain ⟨b0, b1, b2, b3, b4⟩ := acBox (HL1.out.va 0 rfl)
          go_upto_region 12 with (first
            | (go_at_call 13; refine (pickn_call a.f0 8 HOK.out.op (by decide) _).mono ?_; rintro e w20 ⟨rfl, hb⟩; rw [HJ.out]; have HL2 : Hid (Law w Kb1 b p m [(p, T)] (newT 2000) [fun W' => W'.heap[u1]? = some (.cells #[.int .i64 a.f0, .int .i64 a.f1, .int .i64 a.f2, .string a.f3, .string a.f4] 34)] w20) := HL1.out.below hb; clear hb; obtain ⟨p00, p01, p02, p03, p04⟩ := acBox (HL2.out.va 0 rfl))
            | (go_at_call 13; refine (pickn_call a.f0 8 HOK.out.op (by decide) _).mono ?_; rintro e w21 ⟨rfl, hb⟩; rw [HJ.out]; have HL3 : Hid (Law w Kb1 b p m [(p, T)] (newT 2000) [fun W' => W'.heap[u1]? = some (.cells #[.int .i64 a.f0, .int .i64 a.f1, .int .i64 a.f2, .string a.f3, .string a.f4] 34)] w21) := HL2.out.below hb; clear hb; obtain ⟨p10, p11, p12, p13, p14⟩ := acBox (HL3.out.va 0 rfl)))
          clear p00 p01 p02 p03 p04 p10 p11 p12 p13 p14
          clear b0 b1 b2 b3 b4
          clear c0 c1 HL1
          obtain ⟨c0, c1⟩ := HL3.out.c
          obtain ⟨b0, b1, b2, b3, b4⟩ := acBox (HL3.out.va 0 rfl)
          go_upto_region 13 with (first | (go_at_call 16; refine (HL3.out.sts.All (i := 0) rfl HI.out).mono ?_; rintro e w2 ⟨v0, rfl, hv, hb⟩; obtain ⟨K0, O0, hl, hk1⟩ := HL3.out.view1 hv hb; obtain ⟨A0, n0, rfl⟩ := hv.slice; have HL4 := Lib.hid hl; have HK0 := Lib.hid hk1; clear hv hb hl hk1))
          clear b0 b1 b2 b3 b4
          clear c0 c1 HL3
          have HNL : Hid ((T.l.map af).length ≤ 1000000) := by unfold Hid; rw [List.length_map]; exact Nat.le_trans HI.out.good.many (by decide)
          rcases rename_cases T a.f3 a.f4 with ⟨h1, h2⟩ | ⟨h1, h2⟩ | ⟨h1, h2⟩ | ⟨h1, h2⟩
          · obtain ⟨sz, tm, hst⟩ : ∃ sz tm, statT T a.f3 = (sz, tm, 0) := ⟨_, _, by rw [← h2]⟩
            have HST := Lib.hid hst
            have HRE := Lib.hid h1
            clear hst h1 h2
            obtain ⟨c0, c1⟩ := HL4.out.c
            obtain ⟨b0, b1, b2, b3, b4⟩ := acBox (HL4.out.va 1 rfl)
            go_upto_region 14 with (first | (go_at_call 23; refine (HL4.out.sts.Stat (i := 0) rfl a.f3 HOK.out.path).mono ?_; rintro e w2 ⟨rfl, hb⟩; have HL5 : Hid (Law w K0 b p m [(p, T)] (newT 2000) [fun W => VA W O0 (.slice A0 T.l.length n0) (T.l.map af), fun W' => W'.heap[u1]? = some (.cells #[.int .i64 a.f0, .int .i64 a.f1, .int .i64 a.f2, .string a.f3, .string a.f4] 34)] w2) := HL4.out.below hb; rw [HST.out]; clear hb))
            clear b0 b1 b2 b3 b4
            clear c0 c1 HL4
            have HL6 := Lib.hid (HL5.out.box1 (.cells #[.int .i64 sz, .int .i64 tm] 46))
            generalize w2.alloc (.cells #[.int .i64 sz, .int .i64 tm] 46) = Wb2 at HL6
            generalize w2.heap.size = u2 at HL6
            obtain ⟨Kb2, hKb⟩ : ∃ K' : Nat → Prop, K' = fun k => K0 k ∨ k = u2 := ⟨_, rfl⟩
            rw [← hKb] at HL6
            have hKb2 : ∀ k, K0 k → Kb2 k := fun k h => by rw [hKb]; exact .inl h
            clear hKb HL5
            obtain ⟨c0, c1⟩ := HL6.out.c
            obtain ⟨b0, b1, b2, b3, b4⟩ := acBox (HL6.out.va 2 rfl)
            obtain ⟨x0, x1⟩ := inBox (HL6.out.va 0 rfl)
            go_upto_region 16 with (first
              | (go_at_call 13; refine (pickn_call a.f0 8 HOK.out.op (by decide) _).mono ?_; rintro e w20 ⟨rfl, hb⟩; rw [HJ.out]; have HL7 : Hid (Law w Kb2 b p m [(p, T)] (newT 2000) [fun W' => W'.heap[u2]? = some (.cells #[.int .i64 sz, .int .i64 tm] 46), fun W => VA W O0 (.slice A0 T.l.length n0) (T.l.map af), fun W' => W'.heap[u1]? = some (.cells #[.int .i64 a.f0, .int .i64 a.f1, .int .i64 a.f2, .string a.f3, .string a.f4] 34)] w20) := HL6.out.below hb; clear hb; obtain ⟨p00, p01, p02, p03, p04⟩ := acBox (HL7.out.va 2 rfl)))
            clear p00 p01 p02 p03 p04
            clear b0 b1 b2 b3 b4 x0 x1
            clear c0 c1 HL6
            obtain ⟨c0, c1⟩ := HL7.out.c
            obtain ⟨b0, b1, b2, b3, b4⟩ := acBox (HL7.out.va 2 rfl)
            obtain ⟨x0, x1⟩ := inBox (HL7.out.va 0 rfl)
            go_upto_region 17 with (first | (go_at_call 24; refine (HL7.out.sts.Rename (i := 0) rfl HL7.out.glob HI.out HN.out.1 a.f3 a.f4 HOK.out.path HOK.out.text).mono ?_; rintro e w2 ⟨rfl, hs, hk⟩; have HL8 : Hid (Law w Kb2 b p m [(p, renameT T a.f3 a.f4)] (newT 2000) [fun W' => W'.heap[u2]? = some (.cells #[.int .i64 sz, .int .i64 tm] 46), fun W => VA W O0 (.slice A0 T.l.length n0) (T.l.map af), fun W' => W'.heap[u1]? = some (.cells #[.int .i64 a.f0, .int .i64 a.f1, .int .i64 a.f2, .string a.f3, .string a.f4] 34)] w2) := HL7.out.step hs hk; rw [HRE.out]; clear hs hk))
            clear b0 b1 b2 b3 b4 x0 x1
            clear c0 c1 HL7
            have HS2 : Hid (statT (renameT T a.f3 a.f4) a.f4 = (sz, tm, 0)) := (rename_stat HI.out HRE.out).trans HST.out
            have HI2 : Hid (Inv (k + 1) (renameT T a.f3 a.f4)) := inv_rename HI.out _ _
            have HLA2 : Hid (last ≤ (renameT T a.f3 a.f4).clock) := Int.le_trans HLA.out (rename_clock T _ _)
            generalize renameT T a.f3 a.f4 = T2 at HL8 HS2 HI2 HLA2
            obtain ⟨c0, c1⟩ := HL8.out.c
            obtain ⟨b0, b1, b2, b3, b4⟩ := acBox (HL8.out.va 2 rfl)
            obtain ⟨x0, x1⟩ := inBox (HL8.out.va 0 rfl)
            go_upto_region 18 with (first | (go_at_call 23; refine (HL8.out.sts.Stat (i := 0) rfl a.f4 HOK.out.text).mono ?_; rintro e w2 ⟨rfl, hb⟩; have HL9 : Hid (Law w Kb2 b p m [(p, T2)] (newT 2000) [fun W' => W'.heap[u2]? = some (.cells #[.int .i64 sz, .int .i64 tm] 46), fun W => VA W O0 (.slice A0 T.l.length n0) (T.l.map af), fun W' => W'.heap[u1]? = some (.cells #[.int .i64 a.f0, .int .i64 a.f1, .int .i64 a.f2, .string a.f3, .string a.f4] 34)] w2) := HL8.out.below hb; rw [HS2.out]; clear hb))
            clear b0 b1 b2 b3 b4 x0 x1
            clear c0 c1 HL8
            have HL10 := Lib.hid (HL9.out.box1 (.cells #[.int .i64 sz, .int .i64 tm] 46))
            generalize w2.alloc (.cells #[.int .i64 sz, .int .i64 tm] 46) = Wb3 at HL10
            generalize w2.heap.size = u3 at HL10
            obtain ⟨Kb3, hKb⟩ : ∃ K' : Nat → Prop, K' = fun k => Kb2 k ∨ k = u3 := ⟨_, rfl⟩
            rw [← hKb] at HL10
            have hKb3 : ∀ k, Kb2 k → Kb3 k := fun k h => by rw [hKb]; exact .inl h
            clear hKb HL9
            obtain ⟨c0, c1⟩ := HL10.out.c
            obtain ⟨b0, b1, b2, b3, b4⟩ := acBox (HL10.out.va 3 rfl)
            obtain ⟨x0, x1⟩ := inBox (HL10.out.va 1 rfl)
            obtain ⟨y0, y1⟩ := inBox (HL10.out.va 0 rfl)
            go_wp2_with fail
            go_roundw
            case rel => exact ⟨k + 1, T2, last, by omega, by go_num, rfl, HL10.out.drop HLs.out (fun k h => hKb3 k (hKb2 k (HK0.out k (hKb1 k h)))) (fun x hx => by cases hx), HI2.out, HLA2.out⟩
            case measure => simp [intOf]; omega
          · obtain ⟨sz, tm, hst⟩ : ∃ sz tm, statT T a.f3 = (sz, tm, 0) := ⟨_, _, by rw [← h2]⟩
            have HST := Lib.hid hst
            have HRE := Lib.hid h1
            clear hst h1 h2
            obtain ⟨c0, c1⟩ := HL4.out.c
            obtain ⟨b0, b1, b2, b3, b4⟩ := acBox (HL4.out.va 1 rfl)
            go_upto_region 14 with (first | (go_at_call 23; refine (HL4.out.sts.Stat (i := 0) rfl a.f3 HOK.out.path).mono ?_; rintro e w2 ⟨rfl, hb⟩; have HL5 : Hid (Law w K0 b p m [(p, T)] (newT 2000) [fun W => VA W O0 (.slice A0 T.l.length n0) (T.l.map af), fun W' => W'.heap[u1]? = some (.cells #[.int .i64 a.f0, .int .i64 a.f1, .int .i64 a.f2, .string a.f3, .string a.f4] 34)] w2) := HL4.out.below hb; rw [HST.out]; clear hb))
            clear b0 b1 b2 b3 b4
            clear c0 c1 HL4
            have HL6 := Lib.hid (HL5.out.box1 (.cells #[.int .i64 sz, .int .i64 tm] 46))
            generalize w2.alloc (.cells #[.int .i64 sz, .int .i64 tm] 46) = Wb2 at HL6
            generalize w2.heap.size = u2 at HL6
            obtain ⟨Kb2, hKb⟩ : ∃ K' : Nat → Prop, K' = fun k => K0 k ∨ k = u2 := ⟨_, rfl⟩
            rw [← hKb] at HL6
            have hKb2 : ∀ k, K0 k → Kb2 k := fun k h => by rw [hKb]; exact .inl h
            clear hKb HL5
            obtain ⟨c0, c1⟩ := HL6.out.c
            obtain ⟨b0, b1, b2, b3, b4⟩ := acBox (HL6.out.va 2 rfl)
            obtain ⟨x0, x1⟩ := inBox (HL6.out.va 0 rfl)
            go_upto_region 16 with (first
              | (go_at_call 13; refine (pickn_call a.f0 8 HOK.out.op (by decide) _).mono ?_; rintro e w20 ⟨rfl, hb⟩; rw [HJ.out]; have HL7 : Hid (Law w Kb2 b p m [(p, T)] (newT 2000) [fun W' => W'.heap[u2]? = some (.cells #[.int .i64 sz, .int .i64 tm] 46), fun W => VA W O0 (.slice A0 T.l.length n0) (T.l.map af), fun W' => W'.heap[u1]? = some (.cells #[.int .i64 a.f0, .int .i64 a.f1, .int .i64 a.f2, .string a.f3, .string a.f4] 34)] w20) := HL6.out.below hb; clear hb; obtain ⟨p00, p01, p02, p03, p04⟩ := acBox (HL7.out.va 2 rfl)))
            clear p00 p01 p02 p03 p04
            clear b0 b1 b2 b3 b4 x0 x1
            clear c0 c1 HL6
            obtain ⟨c0, c1⟩ := HL7.out.c
            obtain ⟨b0, b1, b2, b3, b4⟩ := acBox (HL7.out.va 2 rfl)
            obtain ⟨x0, x1⟩ := inBox (HL7.out.va 0 rfl)
            go_upto_region 17 with (first | (go_at_call 24; refine (HL7.out.sts.Rename (i := 0) rfl HL7.out.glob HI.out HN.out.1 a.f3 a.f4 HOK.out.path HOK.out.text).mono ?_; rintro e w2 ⟨rfl, hs, hk⟩; have HL8 : Hid (Law w Kb2 b p m [(p, renameT T a.f3 a.f4)] (newT 2000) [fun W' => W'.heap[u2]? = some (.cells #[.int .i64 sz, .int .i64 tm] 46), fun W => VA W O0 (.slice A0 T.l.length n0) (T.l.map af), fun W' => W'.heap[u1]? = some (.cells #[.int .i64 a.f0, .int .i64 a.f1, .int .i64 a.f2, .string a.f3, .string a.f4] 34)] w2) := HL7.out.step hs hk; rw [HRE.out]; clear hs hk))
            clear b0 b1 b2 b3 b4 x0 x1
            clear c0 c1 HL7
            rw [rename_err (T := T) (a := a.f3) (b := a.f4) (by rw [HRE.out]; decide)] at HL8
            obtain ⟨s2, t2, e2, hs2⟩ : ∃ s2 t2 e2, statT T a.f4 = (s2, t2, e2) := ⟨_, _, _, rfl⟩
            have HS2 := Lib.hid hs2
            clear hs2
            obtain ⟨c0, c1⟩ := HL8.out.c
            obtain ⟨b0, b1, b2, b3, b4⟩ := acBox (HL8.out.va 2 rfl)
            obtain ⟨x0, x1⟩ := inBox (HL8.out.va 0 rfl)
            go_upto_region 18 with (first | (go_at_call 23; refine (HL8.out.sts.Stat (i := 0) rfl a.f4 HOK.out.text).mono ?_; rintro e w2 ⟨rfl, hb⟩; have HL9 : Hid (Law w Kb2 b p m [(p, T)] (newT 2000) [fun W' => W'.heap[u2]? = some (.cells #[.int .i64 sz, .int .i64 tm] 46), fun W => VA W O0 (.slice A0 T.l.length n0) (T.l.map af), fun W' => W'.heap[u1]? = some (.cells #[.int .i64 a.f0, .int .i64 a.f1, .int .i64 a.f2, .string a.f3, .string a.f4] 34)] w2) := HL8.out.below hb; rw [HS2.out]; clear hb))
            clear b0 b1 b2 b3 b4 x0 x1
            clear c0 c1 HL8
            have HL10 := Lib.hid (HL9.out.box1 (.cells #[.int .i64 s2, .int .i64 t2] 46))
            generalize w2.alloc (.cells #[.int .i64 s2, .int .i64 t2] 46) = Wb3 at HL10
            generalize w2.heap.size = u3 at HL10
            obtain ⟨Kb3, hKb⟩ : ∃ K' : Nat → Prop, K' = fun k => Kb2 k ∨ k = u3 := ⟨_, rfl⟩
            rw [← hKb] at HL10
            have hKb3 : ∀ k, Kb2 k → Kb3 k := fun k h => by rw [hKb]; exact .inl h
            clear hKb HL9
            obtain ⟨c0, c1⟩ := HL10.out.c
            obtain ⟨b0, b1, b2, b3, b4⟩ := acBox (HL10.out.va 3 rfl)
            obtain ⟨x0, x1⟩ := inBox (HL10.out.va 1 rfl)
            obtain ⟨y0, y1⟩ := inBox (HL10.out.va 0 rfl)
            go_wp2_with (first
              | (go_at_call 16; refine (HL10.out.sts.All (i := 0) rfl HI.out).mono ?_; rintro e w5 ⟨v5, rfl, hv, hb⟩; obtain ⟨A5, n5, rfl⟩ := hv.slice; have HX5 : Hid (Law w Kb3 b p m [(p, T)] (newT 2000) [fun W' => W'.heap[u3]? = some (.cells #[.int .i64 s2, .int .i64 t2] 46), fun W' => W'.heap[u2]? = some (.cells #[.int .i64 sz, .int .i64 tm] 46), fun W => VA W O0 (.slice A0 T.l.length n0) (T.l.map af), fun W' => W'.heap[u1]? = some (.cells #[.int .i64 a.f0, .int .i64 a.f1, .int .i64 a.f2, .string a.f3, .string a.f4] 34)] w5) := HL10.out.below hb; have HV5 := Lib.hid hv; clear hv hb)
              | (go_at_call 22; refine (same_call HV5.out (HX5.out.va 2 rfl) rfl HNL.out).mono ?_; rintro e w6 ⟨rfl, hb⟩; have HX6 : Hid (Law w Kb3 b p m [(p, T)] (newT 2000) [fun W' => W'.heap[u3]? = some (.cells #[.int .i64 s2, .int .i64 t2] 46), fun W' => W'.heap[u2]? = some (.cells #[.int .i64 sz, .int .i64 tm] 46), fun W => VA W O0 (.slice A0 T.l.length n0) (T.l.map af), fun W' => W'.heap[u1]? = some (.cells #[.int .i64 a.f0, .int .i64 a.f1, .int .i64 a.f2, .string a.f3, .string a.f4] 34)] w6) := HX5.out.below hb; clear hb))
            go_roundw
            case rel => exact ⟨k + 1, T, last, by omega, by go_num, rfl, HX6.out.drop HLs.out (fun k h => hKb3 k (hKb2 k (HK0.out k (hKb1 k h)))) (fun x hx => by cases hx), HI.out.mono (Nat.le_succ _), HLA.out⟩
            case measure => simp [intOf]; omega
          · obtain ⟨sz, tm, hst⟩ : ∃ sz tm, statT T a.f3 = (sz, tm, 4) := ⟨_, _, by rw [← h2]⟩
            have HST := Lib.hid hst
            have HRE := Lib.hid h1
            clear hst h1 h2
            obtain ⟨c0, c1⟩ := HL4.out.c
            obtain ⟨b0, b1, b2, b3, b4⟩ := acBox (HL4.out.va 1 rfl)
            go_upto_region 14 with (first | (go_at_call 23; refine (HL4.out.sts.Stat (i := 0) rfl a.f3 HOK.out.path).mono ?_; rintro e w2 ⟨rfl, hb⟩; have HL5 : Hid (Law w K0 b p m [(p, T)] (newT 2000) [fun W => VA W O0 (.slice A0 T.l.length n0) (T.l.map af), fun W' => W'.heap[u1]? = some (.cells #[.int .i64 a.f0, .int .i64 a.f1, .int .i64 a.f2, .string a.f3, .string a.f4] 34)] w2) := HL4.out.below hb; rw [HST.out]; clear hb))
            clear b0 b1 b2 b3 b4
            clear c0 c1 HL4
            have HL6 := Lib.hid (HL5.out.box1 (.cells #[.int .i64 sz, .int .i64 tm] 46))
            generalize w2.alloc (.cells #[.int .i64 sz, .int .i64 tm] 46) = Wb2 at HL6
            generalize w2.heap.size = u2 at HL6
            obtain ⟨Kb2, hKb⟩ : ∃ K' : Nat → Prop, K' = fun k => K0 k ∨ k = u2 := ⟨_, rfl⟩
            rw [← hKb] at HL6
            have hKb2 : ∀ k, K0 k → Kb2 k := fun k h => by rw [hKb]; exact .inl h
            clear hKb HL5
            obtain ⟨c0, c1⟩ := HL6.out.c
            obtain ⟨b0, b1, b2, b3, b4⟩ := acBox (HL6.out.va 2 rfl)
            obtain ⟨x0, x1⟩ := inBox (HL6.out.va 0 rfl)
            go_upto_region 16 with (first
              | (go_at_call 13; refine (pickn_call a.f0 8 HOK.out.op (by decide) _).mono ?_; rintro e w20 ⟨rfl, hb⟩; rw [HJ.out]; have HL7 : Hid (Law w Kb2 b p m [(p, T)] (newT 2000) [fun W' => W'.heap[u2]? = some (.cells #[.int .i64 sz, .int .i64 tm] 46), fun W => VA W O0 (.slice A0 T.l.length n0) (T.l.map af), fun W' => W'.heap[u1]? = some (.cells #[.int .i64 a.f0, .int .i64 a.f1, .int .i64 a.f2, .string a.f3, .string a.f4] 34)] w20) := HL6.out.below hb; clear hb; obtain ⟨p00, p01, p02, p03, p04⟩ := acBox (HL7.out.va 2 rfl)))
            clear p00 p01 p02 p03 p04
            clear b0 b1 b2 b3 b4 x0 x1
            clear c0 c1 HL6
            obtain ⟨c0, c1⟩ := HL7.out.c
            obtain ⟨b0, b1, b2, b3, b4⟩ := acBox (HL7.out.va 2 rfl)
            obtain ⟨x0, x1⟩ := inBox (HL7.out.va 0 rfl)
            go_upto_region 17 with (first | (go_at_call 24; refine (HL7.out.sts.Rename (i := 0) rfl HL7.out.glob HI.out HN.out.1 a.f3 a.f4 HOK.out.path HOK.out.text).mono ?_; rintro e w2 ⟨rfl, hs, hk⟩; have HL8 : Hid (Law w Kb2 b p m [(p, renameT T a.f3 a.f4)] (newT 2000) [fun W' => W'.heap[u2]? = some (.cells #[.int .i64 sz, .int .i64 tm] 46), fun W => VA W O0 (.slice A0 T.l.length n0) (T.l.map af), fun W' => W'.heap[u1]? = some (.cells #[.int .i64 a.f0, .int .i64 a.f1, .int .i64 a.f2, .string a.f3, .string a.f4] 34)] w2) := HL7.out.step hs hk; rw [HRE.out]; clear hs hk))
            clear b0 b1 b2 b3 b4 x0 x1
            clear c0 c1 HL7
            rw [rename_err (T := T) (a := a.f3) (b := a.f4) (by rw [HRE.out]; decide)] at HL8
            obtain ⟨s2, t2, e2, hs2⟩ : ∃ s2 t2 e2, statT T a.f4 = (s2, t2, e2) := ⟨_, _, _, rfl⟩
            have HS2 := Lib.hid hs2
            clear hs2
            obtain ⟨c0, c1⟩ := HL8.out.c
            obtain ⟨b0, b1, b2, b3, b4⟩ := acBox (HL8.out.va 2 rfl)
            obtain ⟨x0, x1⟩ := inBox (HL8.out.va 0 rfl)
            go_upto_region 18 with (first | (go_at_call 23; refine (HL8.out.sts.Stat (i := 0) rfl a.f4 HOK.out.text).mono ?_; rintro e w2 ⟨rfl, hb⟩; have HL9 : Hid (Law w Kb2 b p m [(p, T)] (newT 2000) [fun W' => W'.heap[u2]? = some (.cells #[.int .i64 sz, .int .i64 tm] 46), fun W => VA W O0 (.slice A0 T.l.length n0) (T.l.map af), fun W' => W'.heap[u1]? = some (.cells #[.int .i64 a.f0, .int .i64 a.f1, .int .i64 a.f2, .string a.f3, .string a.f4] 34)] w2) := HL8.out.below hb; rw [HS2.out]; clear hb))
            clear b0 b1 b2 b3 b4 x0 x1
            clear c0 c1 HL8
            have HL10 := Lib.hid (HL9.out.box1 (.cells #[.int .i64 s2, .int .i64 t2] 46))
            generalize w2.alloc (.cells #[.int .i64 s2, .int .i64 t2] 46) = Wb3 at HL10
            generalize w2.heap.size = u3 at HL10
            obtain ⟨Kb3, hKb⟩ : ∃ K' : Nat → Prop, K' = fun k => Kb2 k ∨ k = u3 := ⟨_, rfl⟩
            rw [← hKb] at HL10
            have hKb3 : ∀ k, Kb2 k → Kb3 k := fun k h => by rw [hKb]; exact .inl h
            clear hKb HL9
            obtain ⟨c0, c1⟩ := HL10.out.c
            obtain ⟨b0, b1, b2, b3, b4⟩ := acBox (HL10.out.va 3 rfl)
            obtain ⟨x0, x1⟩ := inBox (HL10.out.va 1 rfl)
            obtain ⟨y0, y1⟩ := inBox (HL10.out.va 0 rfl)
            go_wp2_with (first
              | (go_at_call 16; refine (HL10.out.sts.All (i := 0) rfl HI.out).mono ?_; rintro e w5 ⟨v5, rfl, hv, hb⟩; obtain ⟨A5, n5, rfl⟩ := hv.slice; have HX5 : Hid (Law w Kb3 b p m [(p, T)] (newT 2000) [fun W' => W'.heap[u3]? = some (.cells #[.int .i64 s2, .int .i64 t2] 46), fun W' => W'.heap[u2]? = some (.cells #[.int .i64 sz, .int .i64 tm] 46), fun W => VA W O0 (.slice A0 T.l.length n0) (T.l.map af), fun W' => W'.heap[u1]? = some (.cells #[.int .i64 a.f0, .int .i64 a.f1, .int .i64 a.f2, .string a.f3, .string a.f4] 34)] w5) := HL10.out.below hb; have HV5 := Lib.hid hv; clear hv hb)
              | (go_at_call 22; refine (same_call HV5.out (HX5.out.va 2 rfl) rfl HNL.out).mono ?_; rintro e w6 ⟨rfl, hb⟩; have HX6 : Hid (Law w Kb3 b p m [(p, T)] (newT 2000) [fun W' => W'.heap[u3]? = some (.cells #[.int .i64 s2, .int .i64 t2] 46), fun W' => W'.heap[u2]? = some (.cells #[.int .i64 sz, .int .i64 tm] 46), fun W => VA W O0 (.slice A0 T.l.length n0) (T.l.map af), fun W' => W'.heap[u1]? = some (.cells #[.int .i64 a.f0, .int .i64 a.f1, .int .i64 a.f2, .string a.f3, .string a.f4] 34)] w6) := HX5.out.below hb; clear hb))
            go_roundw
            case rel => exact ⟨k + 1, T, last, by omega, by go_num, rfl, HX6.out.drop HLs.out (fun k h => hKb3 k (hKb2 k (HK0.out k (hKb1 k h)))) (fun x hx => by cases hx), HI.out.mono (Nat.le_succ _), HLA.out⟩
            case measure => simp [intOf]; omega
          · obtain ⟨sz, tm, hst⟩ : ∃ sz tm, statT T a.f3 = (sz, tm, 0) := ⟨_, _, by rw [← h2]⟩
            have HST := Lib.hid hst
            have HRE := Lib.hid h1
            clear hst h1 h2
            obtain ⟨c0, c1⟩ := HL4.out.c
            obtain ⟨b0, b1, b2, b3, b4⟩ := acBox (HL4.out.va 1 rfl)
            go_upto_region 14 with (first | (go_at_call 23; refine (HL4.out.sts.Stat (i := 0) rfl a.f3 HOK.out.path).mono ?_; rintro e w2 ⟨rfl, hb⟩; have HL5 : Hid (Law w K0 b p m [(p, T)] (newT 2000) [fun W => VA W O0 (.slice A0 T.l.length n0) (T.l.map af), fun W' => W'.heap[u1]? = some (.cells #[.int .i64 a.f0, .int .i64 a.f1, .int .i64 a.f2, .string a.f3, .string a.f4] 34)] w2) := HL4.out.below hb; rw [HST.out]; clear hb))
            clear b0 b1 b2 b3 b4
            clear c0 c1 HL4
            have HL6 := Lib.hid (HL5.out.box1 (.cells #[.int .i64 sz, .int .i64 tm] 46))
            generalize w2.alloc (.cells #[.int .i64 sz, .int .i64 tm] 46) = Wb2 at HL6
            generalize w2.heap.size = u2 at HL6
            obtain ⟨Kb2, hKb⟩ : ∃ K' : Nat → Prop, K' = fun k => K0 k ∨ k = u2 := ⟨_, rfl⟩
            rw [← hKb] at HL6
            have hKb2 : ∀ k, K0 k → Kb2 k := fun k h => by rw [hKb]; exact .inl h
            clear hKb HL5
            obtain ⟨c0, c1⟩ := HL6.out.c
            obtain ⟨b0, b1, b2, b3, b4⟩ := acBox (HL6.out.va 2 rfl)
            obtain ⟨x0, x1⟩ := inBox (HL6.out.va 0 rfl)
            go_upto_region 16 with (first
              | (go_at_call 13; refine (pickn_call a.f0 8 HOK.out.op (by decide) _).mono ?_; rintro e w20 ⟨rfl, hb⟩; rw [HJ.out]; have HL7 : Hid (Law w Kb2 b p m [(p, T)] (newT 2000) [fun W' => W'.heap[u2]? = some (.cells #[.int .i64 sz, .int .i64 tm] 46), fun W => VA W O0 (.slice A0 T.l.length n0) (T.l.map af), fun W' => W'.heap[u1]? = some (.cells #[.int .i64 a.f0, .int .i64 a.f1, .int .i64 a.f2, .string a.f3, .string a.f4] 34)] w20) := HL6.out.below hb; clear hb; obtain ⟨p00, p01, p02, p03, p04⟩ := acBox (HL7.out.va 2 rfl)))
            clear p00 p01 p02 p03 p04
            clear b0 b1 b2 b3 b4 x0 x1
            clear c0 c1 HL6
            obtain ⟨c0, c1⟩ := HL7.out.c
            obtain ⟨b0, b1, b2, b3, b4⟩ := acBox (HL7.out.va 2 rfl)
            obtain ⟨x0, x1⟩ := inBox (HL7.out.va 0 rfl)
            go_upto_region 17 with (first | (go_at_call 24; refine (HL7.out.sts.Rename (i := 0) rfl HL7.out.glob HI.out HN.out.1 a.f3 a.f4 HOK.out.path HOK.out.text).mono ?_; rintro e w2 ⟨rfl, hs, hk⟩; have HL8 : Hid (Law w Kb2 b p m [(p, renameT T a.f3 a.f4)] (newT 2000) [fun W' => W'.heap[u2]? = some (.cells #[.int .i64 sz, .int .i64 tm] 46), fun W => VA W O0 (.slice A0 T.l.length n0) (T.l.map af), fun W' => W'.heap[u1]? = some (.cells #[.int .i64 a.f0, .int .i64 a.f1, .int .i64 a.f2, .string a.f3, .string a.f4] 34)] w2) := HL7.out.step hs hk; rw [HRE.out]; clear hs hk))
            clear b0 b1 b2 b3 b4 x0 x1
            clear c0 c1 HL7
            rw [rename_err (T := T) (a := a.f3) (b := a.f4) (by rw [HRE.out]; decide)] at HL8
            obtain ⟨s2, t2, e2, hs2⟩ : ∃ s2 t2 e2, statT T a.f4 = (s2, t2, e2) := ⟨_, _, _, rfl⟩
            have HS2 := Lib.hid hs2
            clear hs2
            obtain ⟨c0, c1⟩ := HL8.out.c
            obtain ⟨b0, b1, b2, b3, b4⟩ := acBox (HL8.out.va 2 rfl)
            obtain ⟨x0, x1⟩ := inBox (HL8.out.va 0 rfl)
            go_upto_region 18 with (first | (go_at_call 23; refine (HL8.out.sts.Stat (i := 0) rfl a.f4 HOK.out.text).mono ?_; rintro e w2 ⟨rfl, hb⟩; have HL9 : Hid (Law w Kb2 b p m [(p, T)] (newT 2000) [fun W' => W'.heap[u2]? = some (.cells #[.int .i64 sz, .int .i64 tm] 46), fun W => VA W O0 (.slice A0 T.l.length n0) (T.l.map af), fun W' => W'.heap[u1]? = some (.cells #[.int .i64 a.f0, .int .i64 a.f1, .int .i64 a.f2, .string a.f3, .string a.f4] 34)] w2) := HL8.out.below hb; rw [HS2.out]; clear hb))
            clear b0 b1 b2 b3 b4 x0 x1
            clear c0 c1 HL8
            have HL10 := Lib.hid (HL9.out.box1 (.cells #[.int .i64 s2, .int .i64 t2] 46))
            generalize w2.alloc (.cells #[.int .i64 s2, .int .i64 t2] 46) = Wb3 at HL10
            generalize w2.heap.size = u3 at HL10
            obtain ⟨Kb3, hKb⟩ : ∃ K' : Nat → Prop, K' = fun k => Kb2 k ∨ k = u3 := ⟨_, rfl⟩
            rw [← hKb] at HL10
            have hKb3 : ∀ k, Kb2 k → Kb3 k := fun k h => by rw [hKb]; exact .inl h
            clear hKb HL9
            obtain ⟨c0, c1⟩ := HL10.out.c
            obtain ⟨b0, b1, b2, b3, b4⟩ := acBox (HL10.out.va 3 rfl)
            obtain ⟨x0, x1⟩ := inBox (HL10.out.va 1 rfl)
            obtain ⟨y0, y1⟩ := inBox (HL10.out.va 0 rfl)
            go_wp2_with (first
              | (go_at_call 16; refine (HL10.out.sts.All (i := 0) rfl HI.out).mono ?_; rintro e w5 ⟨v5, rfl, hv, hb⟩; obtain ⟨A5, n5, rfl⟩ := hv.slice; have HX5 : Hid (Law w Kb3 b p m [(p, T)] (newT 2000) [fun W' => W'.heap[u3]? = some (.cells #[.int .i64 s2, .int .i64 t2] 46), fun W' => W'.heap[u2]? = some (.cells #[.int .i64 sz, .int .i64 tm] 46), fun W => VA W O0 (.slice A0 T.l.length n0) (T.l.map af), fun W' => W'.heap[u1]? = some (.cells #[.int .i64 a.f0, .int .i64 a.f1, .int .i64 a.f2, .string a.f3, .string a.f4] 34)] w5) := HL10.out.below hb; have HV5 := Lib.hid hv; clear hv hb)
              | (go_at_call 22; refine (same_call HV5.out (HX5.out.va 2 rfl) rfl HNL.out).mono ?_; rintro e w6 ⟨rfl, hb⟩; have HX6 : Hid (Law w Kb3 b p m [(p, T)] (newT 2000) [fun W' => W'.heap[u3]? = some (.cells #[.int .i64 s2, .int .i64 t2] 46), fun W' => W'.heap[u2]? = some (.cells #[.int .i64 sz, .int .i64 tm] 46), fun W => VA W O0 (.slice A0 T.l.length n0) (T.l.map af), fun W' => W'.heap[u1]? = some (.cells #[.int .i64 a.f0, .int .i64 a.f1, .int .i64 a.f2, .string a.f3, .string a.f4] 34)] w6) := HX5.out.below hb; clear hb))
            go_roundw
            case rel => exact ⟨k + 1, T, last, by omega, by go_num, rfl, HX6.out.drop HLs.out (fun k h => hKb3 k (hKb2 k (HK0.out k (hKb1 k h)))) (fun x hx => by cases hx), HI.out.mono (Nat.le_succ _), HLA.out⟩
            case measure => simp [intOf]; omega
        · have d5 : decide (pickI a.f0 8 = 5) = false := decide_eq_false h5
          by_cases h4 : 4 ≤ pickI a.f0 8
          · have d4 : decide (4 ≤ pickI a.f0 8) = true := decide_eq_true h4
            obtain ⟨c0, c1⟩ := HL1.out.c
            obtain ⟨b0, b1, b2, b3, b4⟩ := acBox (HL1.out.va 0 rfl)
            go_wp2_with (first
              | (go_at_call 13; refine (pickn_call a.f0 8 HOK.out.op (by decide) _).mono ?_; rintro e w20 ⟨rfl, hb⟩; have HL2 : Hid (Law w Kb1 b p m [(p, T)] (newT 2000) [fun W' => W'.heap[u1]? = some (.cells #[.int .i64 a.f0, .int .i64 a.f1, .int .i64 a.f2, .string a.f3, .string a.f4] 34)] w20) := HL1.out.below hb; clear hb; obtain ⟨p00, p01, p02, p03, p04⟩ := acBox (HL2.out.va 0 rfl))
              | (go_at_call 13; refine (pickn_call a.f0 8 HOK.out.op (by decide) _).mono ?_; rintro e w21 ⟨rfl, hb⟩; have HL3 : Hid (Law w Kb1 b p m [(p, T)] (newT 2000) [fun W' => W'.heap[u1]? = some (.cells #[.int .i64 a.f0, .int .i64 a.f1, .int .i64 a.f2, .string a.f3, .string a.f4] 34)] w21) := HL2.out.below hb; clear hb; obtain ⟨p10, p11, p12, p13, p14⟩ := acBox (HL3.out.va 0 rfl)))
            clear p00 p01 p02 p03 p04 p10 p11 p12 p13 p14
            clear b0 b1 b2 b3 b4
            clear c0 c1 HL1
            go_roundw
            case rel => exact ⟨k + 1, T, last, by omega, by go_num, rfl, HL3.out.drop HLs.out hKb1 (fun x hx => by cases hx), HI.out.mono (Nat.le_succ _), HLA.out⟩
            case measure => simp [intOf]; omega
          · have d4 : decide (4 ≤ pickI a.f0 8) = false := decide_eq_false h4
            clear h4
            obtain ⟨c0, c1⟩ := HL1.out.c
            obtain ⟨b0, b1, b2, b3, b4⟩ := acBox (HL1.out.va 0 rfl)
            go_upto_region 12 with (first
              | (go_at_call 13; refine (pickn_call a.f0 8 HOK.out.op (by decide) _).mono ?_; rintro e w20 ⟨rfl, hb⟩; have HL2 : Hid (Law w Kb1 b p m [(p, T)] (newT 2000) [fun W' => W'.heap[u1]? = some (.cells #[.int .i64 a.f0, .int .i64 a.f1, .int .i64 a.f2, .string a.f3, .string a.f4] 34)] w20) := HL1.out.below hb; clear hb; obtain ⟨p00, p01, p02, p03, p04⟩ := acBox (HL2.out.va 0 rfl)))
            clear p00 p01 p02 p03 p04
            clear b0 b1 b2 b3 b4
            clear c0 c1 HL1
            obtain ⟨c0, c1⟩ := HL2.out.c
            obtain ⟨b0, b1, b2, b3, b4⟩ := acBox (HL2.out.va 0 rfl)
            go_upto_region 13 with (first | (go_at_call 16; refine (HL2.out.sts.All (i := 0) rfl HI.out).mono ?_; rintro e w2 ⟨v0, rfl, hv, hb⟩; obtain ⟨K0, O0, hl, hk1⟩ := HL2.out.view1 hv hb; obtain ⟨A0, n0, rfl⟩ := hv.slice; have HL3 := Lib.hid hl; have HK0 := Lib.hid hk1; clear hv hb hl hk1))
            clear b0 b1 b2 b3 b4
            clear c0 c1 HL2
            have HNL : Hid ((T.l.map af).length ≤ 1000000) := by unfold Hid; rw [List.length_map]; exact Nat.le_trans HI.out.good.many (by decide)
            obtain ⟨sz, tm, er, hst⟩ : ∃ sz tm er, statT T a.f3 = (sz, tm, er) := ⟨_, _, _, rfl⟩
            have hsl := stat_le HI.out a.f3
            rw [hst] at hsl
            simp only at hsl
            have HST := Lib.hid hst
            clear hst
            obtain ⟨c0, c1⟩ := HL3.out.c
            obtain ⟨b0, b1, b2, b3, b4⟩ := acBox (HL3.out.va 1 rfl)
            go_upto_region 14 with (first | (go_at_call 23; refine (HL3.out.sts.Stat (i := 0) rfl a.f3 HOK.out.path).mono ?_; rintro e w2 ⟨rfl, hb⟩; have HL4 : Hid (Law w K0 b p m [(p, T)] (newT 2000) [fun W => VA W O0 (.slice A0 T.l.length n0) (T.l.map af), fun W' => W'.heap[u1]? = some (.cells #[.int .i64 a.f0, .int .i64 a.f1, .int .i64 a.f2, .string a.f3, .string a.f4] 34)] w2) := HL3.out.below hb; rw [HST.out]; clear hb))
            clear b0 b1 b2 b3 b4
            clear c0 c1 HL3
            have HL5 := Lib.hid (HL4.out.box1 (.cells #[.int .i64 sz, .int .i64 tm] 46))
            generalize w2.alloc (.cells #[.int .i64 sz, .int .i64 tm] 46) = Wb2 at HL5
            generalize w2.heap.size = u2 at HL5
            obtain ⟨Kb2, hKb⟩ : ∃ K' : Nat → Prop, K' = fun k => K0 k ∨ k = u2 := ⟨_, rfl⟩
            rw [← hKb] at HL5
            have hKb2 : ∀ k, K0 k → Kb2 k := fun k h => by rw [hKb]; exact .inl h
            clear hKb HL4
            obtain ⟨c0, c1⟩ := HL5.out.c
            obtain ⟨b0, b1, b2, b3, b4⟩ := acBox (HL5.out.va 2 rfl)
            obtain ⟨x0, x1⟩ := inBox (HL5.out.va 0 rfl)
            go_upto_region 20 with (first
              | (go_at_call 13; refine (pickn_call a.f0 8 HOK.out.op (by decide) _).mono ?_; rintro e w20 ⟨rfl, hb⟩; have HL6 : Hid (Law w Kb2 b p m [(p, T)] (newT 2000) [fun W' => W'.heap[u2]? = some (.cells #[.int .i64 sz, .int .i64 tm] 46), fun W => VA W O0 (.slice A0 T.l.length n0) (T.l.map af), fun W' => W'.heap[u1]? = some (.cells #[.int .i64 a.f0, .int .i64 a.f1, .int .i64 a.f2, .string a.f3, .string a.f4] 34)] w20) := HL5.out.below hb; clear hb; obtain ⟨p00, p01, p02, p03, p04⟩ := acBox (HL6.out.va 2 rfl)))
            clear p00 p01 p02 p03 p04
            clear b0 b1 b2 b3 b4 x0 x1
            clear c0 c1 HL5
            rcases write_cases T true a.f3 a.f4 with h1 | h1 | h1 | h1 | h1
            · have HRE := Lib.hid h1
              clear h1
              obtain ⟨c0, c1⟩ := HL6.out.c
              obtain ⟨b0, b1, b2, b3, b4⟩ := acBox (HL6.out.va 2 rfl)
              obtain ⟨x0, x1⟩ := inBox (HL6.out.va 0 rfl)
              go_upto_region 21 with (first | (go_at_call 25; refine (HL6.out.sts.Append (i := 0) rfl HL6.out.glob HI.out HN.out.1 a.f3 a.f4 HOK.out.path (Nat.le_trans HOK.out.text (by decide))).mono ?_; rintro e w2 ⟨rfl, hs, hk⟩; have HL7 : Hid (Law w Kb2 b p m [(p, writeT T true a.f3 a.f4)] (newT 2000) [fun W' => W'.heap[u2]? = some (.cells #[.int .i64 sz, .int .i64 tm] 46), fun W => VA W O0 (.slice A0 T.l.length n0) (T.l.map af), fun W' => W'.heap[u1]? = some (.cells #[.int .i64 a.f0, .int .i64 a.f1, .int .i64 a.f2, .string a.f3, .string a.f4] 34)] w2) := HL6.out.step hs hk; rw [HRE.out]; clear hs hk))
              clear b0 b1 b2 b3 b4 x0 x1
              clear c0 c1 HL6
              have HS2 : Hid (statT (writeT T true a.f3 a.f4) a.f3 = (sz + a.f4.size, T.clock + 1, 0)) := by
                have h := append_ok HI.out HRE.out
                rw [HST.out] at h
                exact h
              have HI2 : Hid (Inv (k + 1) (writeT T true a.f3 a.f4)) := inv_write HI.out true (Nat.le_trans HOK.out.text (by decide))
              have HC2 : Hid ((writeT T true a.f3 a.f4).clock = T.clock + 1) := write_clock HRE.out
              have hcl := HI.out.clock
              have dl : decide (T.clock + 1 ≤ last) = false := decide_eq_false (by have := HLA.out; omega)
              generalize writeT T true a.f3 a.f4 = T2 at HL7 HS2 HI2 HC2
              obtain ⟨c0, c1⟩ := HL7.out.c
              obtain ⟨b0, b1, b2, b3, b4⟩ := acBox (HL7.out.va 2 rfl)
              obtain ⟨x0, x1⟩ := inBox (HL7.out.va 0 rfl)
              go_upto_region 22 with (first | (go_at_call 23; refine (HL7.out.sts.Stat (i := 0) rfl a.f3 HOK.out.path).mono ?_; rintro e w2 ⟨rfl, hb⟩; have HL8 : Hid (Law w Kb2 b p m [(p, T2)] (newT 2000) [fun W' => W'.heap[u2]? = some (.cells #[.int .i64 sz, .int .i64 tm] 46), fun W => VA W O0 (.slice A0 T.l.length n0) (T.l.map af), fun W' => W'.heap[u1]? = some (.cells #[.int .i64 a.f0, .int .i64 a.f1, .int .i64 a.f2, .string a.f3, .string a.f4] 34)] w2) := HL7.out.below hb; rw [HS2.out]; clear hb))
              clear b0 b1 b2 b3 b4 x0 x1
              clear c0 c1 HL7
              have HL9 := Lib.hid (HL8.out.box1 (.cells #[.int .i64 (sz + a.f4.size), .int .i64 (T.clock + 1)] 46))
              generalize w2.alloc (.cells #[.int .i64 (sz + a.f4.size), .int .i64 (T.clock + 1)] 46) = Wb3 at HL9
              generalize w2.heap.size = u3 at HL9
              obtain ⟨Kb3, hKb⟩ : ∃ K' : Nat → Prop, K' = fun k => Kb2 k ∨ k = u3 := ⟨_, rfl⟩
              rw [← hKb] at HL9
              have hKb3 : ∀ k, Kb2 k → Kb3 k := fun k h => by rw [hKb]; exact .inl h
              clear hKb HL8
              obtain ⟨c0, c1⟩ := HL9.out.c
              obtain ⟨b0, b1, b2, b3, b4⟩ := acBox (HL9.out.va 3 rfl)
              obtain ⟨x0, x1⟩ := inBox (HL9.out.va 1 rfl)
              obtain ⟨y0, y1⟩ := inBox (HL9.out.va 0 rfl)
              go_wp2_with fail
              go_roundw
              case rel => exact ⟨k + 1, T2, T.clock + 1, by omega, by go_num, rfl, HL9.out.drop HLs.out (fun k h => hKb3 k (hKb2 k (HK0.out k (hKb1 k h)))) (fun x hx => by cases hx), HI2.out, Int.le_of_eq HC2.out.symm⟩
              case measure => simp [intOf]; omega
            · have HRE := Lib.hid h1
              clear h1
              obtain ⟨c0, c1⟩ := HL6.out.c
              obtain ⟨b0, b1, b2, b3, b4⟩ := acBox (HL6.out.va 2 rfl)
              obtain ⟨x0, x1⟩ := inBox (HL6.out.va 0 rfl)
              go_upto_region 21 with (first | (go_at_call 25; refine (HL6.out.sts.Append (i := 0) rfl HL6.out.glob HI.out HN.out.1 a.f3 a.f4 HOK.out.path (Nat.le_trans HOK.out.text (by decide))).mono ?_; rintro e w2 ⟨rfl, hs, hk⟩; have HL7 : Hid (Law w Kb2 b p m [(p, writeT T true a.f3 a.f4)] (newT 2000) [fun W' => W'.heap[u2]? = some (.cells #[.int .i64 sz, .int .i64 tm] 46), fun W => VA W O0 (.slice A0 T.l.length n0) (T.l.map af), fun W' => W'.heap[u1]? = some (.cells #[.int .i64 a.f0, .int .i64 a.f1, .int .i64 a.f2, .string a.f3, .string a.f4] 34)] w2) := HL6.out.step hs hk; rw [HRE.out]; clear hs hk))
              clear b0 b1 b2 b3 b4 x0 x1
              clear c0 c1 HL6
              rw [write_err (T := T) (st := true) (q := a.f3) (s := a.f4) (by rw [HRE.out]; decide)] at HL7
              obtain ⟨c0, c1⟩ := HL7.out.c
              obtain ⟨b0, b1, b2, b3, b4⟩ := acBox (HL7.out.va 2 rfl)
              obtain ⟨x0, x1⟩ := inBox (HL7.out.va 0 rfl)
              go_upto_region 22 with (first | (go_at_call 23; refine (HL7.out.sts.Stat (i := 0) rfl a.f3 HOK.out.path).mono ?_; rintro e w2 ⟨rfl, hb⟩; have HL8 : Hid (Law w Kb2 b p m [(p, T)] (newT 2000) [fun W' => W'.heap[u2]? = some (.cells #[.int .i64 sz, .int .i64 tm] 46), fun W => VA W O0 (.slice A0 T.l.length n0) (T.l.map af), fun W' => W'.heap[u1]? = some (.cells #[.int .i64 a.f0, .int .i64 a.f1, .int .i64 a.f2, .string a.f3, .string a.f4] 34)] w2) := HL7.out.below hb; rw [HST.out]; clear hb))
              clear b0 b1 b2 b3 b4 x0 x1
              clear c0 c1 HL7
              have HL9 := Lib.hid (HL8.out.box1 (.cells #[.int .i64 sz, .int .i64 tm] 46))
              generalize w2.alloc (.cells #[.int .i64 sz, .int .i64 tm] 46) = Wb3 at HL9
              generalize w2.heap.size = u3 at HL9
              obtain ⟨Kb3, hKb⟩ : ∃ K' : Nat → Prop, K' = fun k => Kb2 k ∨ k = u3 := ⟨_, rfl⟩
              rw [← hKb] at HL9
              have hKb3 : ∀ k, Kb2 k → Kb3 k := fun k h => by rw [hKb]; exact .inl h
              clear hKb HL8
              obtain ⟨c0, c1⟩ := HL9.out.c
              obtain ⟨b0, b1, b2, b3, b4⟩ := acBox (HL9.out.va 3 rfl)
              obtain ⟨x0, x1⟩ := inBox (HL9.out.va 1 rfl)
              obtain ⟨y0, y1⟩ := inBox (HL9.out.va 0 rfl)
              go_wp2_with (first
                | (go_at_call 16; refine (HL9.out.sts.All (i := 0) rfl HI.out).mono ?_; rintro e w5 ⟨v5, rfl, hv, hb⟩; obtain ⟨A5, n5, rfl⟩ := hv.slice; have HX5 : Hid (Law w Kb3 b p m [(p, T)] (newT 2000) [fun W' => W'.heap[u3]? = some (.cells #[.int .i64 sz, .int .i64 tm] 46), fun W' => W'.heap[u2]? = some (.cells #[.int .i64 sz, .int .i64 tm] 46), fun W => VA W O0 (.slice A0 T.l.length n0) (T.l.map af), fun W' => W'.heap[u1]? = some (.cells #[.int .i64 a.f0, .int .i64 a.f1, .int .i64 a.f2, .string a.f3, .string a.f4] 34)] w5) := HL9.out.below hb; have HV5 := Lib.hid hv; clear hv hb)
                | (go_at_call 22; refine (same_call HV5.out (HX5.out.va 2 rfl) rfl HNL.out).mono ?_; rintro e w6 ⟨rfl, hb⟩; have HX6 : Hid (Law w Kb3 b p m [(p, T)] (newT 2000) [fun W' => W'.heap[u3]? = some (.cells #[.int .i64 sz, .int .i64 tm] 46), fun W' => W'.heap[u2]? = some (.cells #[.int .i64 sz, .int .i64 tm] 46), fun W => VA W O0 (.slice A0 T.l.length n0) (T.l.map af), fun W' => W'.heap[u1]? = some (.cells #[.int .i64 a.f0, .int .i64 a.f1, .int .i64 a.f2, .string a.f3, .string a.f4] 34)] w6) := HX5.out.below hb; clear hb))
              go_roundw
              case rel => exact ⟨k + 1, T, last, by omega, by go_num, rfl, HX6.out.drop HLs.out (fun k h => hKb3 k (hKb2 k (HK0.out k (hKb1 k h)))) (fun x hx => by cases hx), HI.out.mono (Nat.le_succ _), HLA.out⟩
              case measure => simp [intOf]; omega
            · have HRE := Lib.hid h1
              clear h1
              obtain ⟨c0, c1⟩ := HL6.out.c
              obtain ⟨b0, b1, b2, b3, b4⟩ := acBox (HL6.out.va 2 rfl)
              obtain ⟨x0, x1⟩ := inBox (HL6.out.va 0 rfl)
              go_upto_region 21 with (first | (go_at_call 25; refine (HL6.out.sts.Append (i := 0) rfl HL6.out.glob HI.out HN.out.1 a.f3 a.f4 HOK.out.path (Nat.le_trans HOK.out.text (by decide))).mono ?_; rintro e w2 ⟨rfl, hs, hk⟩; have HL7 : Hid (Law w Kb2 b p m [(p, writeT T true a.f3 a.f4)] (newT 2000) [fun W' => W'.heap[u2]? = some (.cells #[.int .i64 sz, .int .i64 tm] 46), fun W => VA W O0 (.slice A0 T.l.length n0) (T.l.map af), fun W' => W'.heap[u1]? = some (.cells #[.int .i64 a.f0, .int .i64 a.f1, .int .i64 a.f2, .string a.f3, .string a.f4] 34)] w2) := HL6.out.step hs hk; rw [HRE.out]; clear hs hk))
              clear b0 b1 b2 b3 b4 x0 x1
              clear c0 c1 HL6
              rw [write_err (T := T) (st := true) (q := a.f3) (s := a.f4) (by rw [HRE.out]; decide)] at HL7
              obtain ⟨c0, c1⟩ := HL7.out.c
              obtain ⟨b0, b1, b2, b3, b4⟩ := acBox (HL7.out.va 2 rfl)
              obtain ⟨x0, x1⟩ := inBox (HL7.out.va 0 rfl)
              go_upto_region 22 with (first | (go_at_call 23; refine (HL7.out.sts.Stat (i := 0) rfl a.f3 HOK.out.path).mono ?_; rintro e w2 ⟨rfl, hb⟩; have HL8 : Hid (Law w Kb2 b p m [(p, T)] (newT 2000) [fun W' => W'.heap[u2]? = some (.cells #[.int .i64 sz, .int .i64 tm] 46), fun W => VA W O0 (.slice A0 T.l.length n0) (T.l.map af), fun W' => W'.heap[u1]? = some (.cells #[.int .i64 a.f0, .int .i64 a.f1, .int .i64 a.f2, .string a.f3, .string a.f4] 34)] w2) := HL7.out.below hb; rw [HST.out]; clear hb))
              clear b0 b1 b2 b3 b4 x0 x1
              clear c0 c1 HL7
              have HL9 := Lib.hid (HL8.out.box1 (.cells #[.int .i64 sz, .int .i64 tm] 46))
              generalize w2.alloc (.cells #[.int .i64 sz, .int .i64 tm] 46) = Wb3 at HL9
              generalize w2.heap.size = u3 at HL9
              obtain ⟨Kb3, hKb⟩ : ∃ K' : Nat → Prop, K' = fun k => Kb2 k ∨ k = u3 := ⟨_, rfl⟩
              rw [← hKb] at HL9
              have hKb3 : ∀ k, Kb2 k → Kb3 k := fun k h => by rw [hKb]; exact .inl h
              clear hKb HL8
              obtain ⟨c0, c1⟩ := HL9.out.c
              obtain ⟨b0, b1, b2, b3, b4⟩ := acBox (HL9.out.va 3 rfl)
              obtain ⟨x0, x1⟩ := inBox (HL9.out.va 1 rfl)
              obtain ⟨y0, y1⟩ := inBox (HL9.out.va 0 rfl)
              go_wp2_with (first
                | (go_at_call 16; refine (HL9.out.sts.All (i := 0) rfl HI.out).mono ?_; rintro e w5 ⟨v5, rfl, hv, hb⟩; obtain ⟨A5, n5, rfl⟩ := hv.slice; have HX5 : Hid (Law w Kb3 b p m [(p, T)] (newT 2000) [fun W' => W'.heap[u3]? = some (.cells #[.int .i64 sz, .int .i64 tm] 46), fun W' => W'.heap[u2]? = some (.cells #[.int .i64 sz, .int .i64 tm] 46), fun W => VA W O0 (.slice A0 T.l.length n0) (T.l.map af), fun W' => W'.heap[u1]? = some (.cells #[.int .i64 a.f0, .int .i64 a.f1, .int .i64 a.f2, .string a.f3, .string a.f4] 34)] w5) := HL9.out.below hb; have HV5 := Lib.hid hv; clear hv hb)
                | (go_at_call 22; refine (same_call HV5.out (HX5.out.va 2 rfl) rfl HNL.out).mono ?_; rintro e w6 ⟨rfl, hb⟩; have HX6 : Hid (Law w Kb3 b p m [(p, T)] (newT 2000) [fun W' => W'.heap[u3]? = some (.cells #[.int .i64 sz, .int .i64 tm] 46), fun W' => W'.heap[u2]? = some (.cells #[.int .i64 sz, .int .i64 tm] 46), fun W => VA W O0 (.slice A0 T.l.length n0) (T.l.map af), fun W' => W'.heap[u1]? = some (.cells #[.int .i64 a.f0, .int .i64 a.f1, .int .i64 a.f2, .string a.f3, .string a.f4] 34)] w6) := HX5.out.below hb; clear hb))
              go_roundw
              case rel => exact ⟨k + 1, T, last, by omega, by go_num, rfl, HX6.out.drop HLs.out (fun k h => hKb3 k (hKb2 k (HK0.out k (hKb1 k h)))) (fun x hx => by cases hx), HI.out.mono (Nat.le_succ _), HLA.out⟩
              case measure => simp [intOf]; omega
            · have HRE := Lib.hid h1
              clear h1
              obtain ⟨c0, c1⟩ := HL6.out.c
              obtain ⟨b0, b1, b2, b3, b4⟩ := acBox (HL6.out.va 2 rfl)
              obtain ⟨x0, x1⟩ := inBox (HL6.out.va 0 rfl)
              go_upto_region 21 with (first | (go_at_call 25; refine (HL6.out.sts.Append (i := 0) rfl HL6.out.glob HI.out HN.out.1 a.f3 a.f4 HOK.out.path (Nat.le_trans HOK.out.text (by decide))).mono ?_; rintro e w2 ⟨rfl, hs, hk⟩; have HL7 : Hid (Law w Kb2 b p m [(p, writeT T true a.f3 a.f4)] (newT 2000) [fun W' => W'.heap[u2]? = some (.cells #[.int .i64 sz, .int .i64 tm] 46), fun W => VA W O0 (.slice A0 T.l.length n0) (T.l.map af), fun W' => W'.heap[u1]? = some (.cells #[.int .i64 a.f0, .int .i64 a.f1, .int .i64 a.f2, .string a.f3, .string a.f4] 34)] w2) := HL6.out.step hs hk; rw [HRE.out]; clear hs hk))
              clear b0 b1 b2 b3 b4 x0 x1
              clear c0 c1 HL6
              rw [write_err (T := T) (st := true) (q := a.f3) (s := a.f4) (by rw [HRE.out]; decide)] at HL7
              obtain ⟨c0, c1⟩ := HL7.out.c
              obtain ⟨b0, b1, b2, b3, b4⟩ := acBox (HL7.out.va 2 rfl)
              obtain ⟨x0, x1⟩ := inBox (HL7.out.va 0 rfl)
              go_upto_region 22 with (first | (go_at_call 23; refine (HL7.out.sts.Stat (i := 0) rfl a.f3 HOK.out.path).mono ?_; rintro e w2 ⟨rfl, hb⟩; have HL8 : Hid (Law w Kb2 b p m [(p, T)] (newT 2000) [fun W' => W'.heap[u2]? = some (.cells #[.int .i64 sz, .int .i64 tm] 46), fun W => VA W O0 (.slice A0 T.l.length n0) (T.l.map af), fun W' => W'.heap[u1]? = some (.cells #[.int .i64 a.f0, .int .i64 a.f1, .int .i64 a.f2, .string a.f3, .string a.f4] 34)] w2) := HL7.out.below hb; rw [HST.out]; clear hb))
              clear b0 b1 b2 b3 b4 x0 x1
              clear c0 c1 HL7
              have HL9 := Lib.hid (HL8.out.box1 (.cells #[.int .i64 sz, .int .i64 tm] 46))
              generalize w2.alloc (.cells #[.int .i64 sz, .int .i64 tm] 46) = Wb3 at HL9
              generalize w2.heap.size = u3 at HL9
              obtain ⟨Kb3, hKb⟩ : ∃ K' : Nat → Prop, K' = fun k => Kb2 k ∨ k = u3 := ⟨_, rfl⟩
              rw [← hKb] at HL9
              have hKb3 : ∀ k, Kb2 k → Kb3 k := fun k h => by rw [hKb]; exact .inl h
              clear hKb HL8
              obtain ⟨c0, c1⟩ := HL9.out.c
              obtain ⟨b0, b1, b2, b3, b4⟩ := acBox (HL9.out.va 3 rfl)
              obtain ⟨x0, x1⟩ := inBox (HL9.out.va 1 rfl)
              obtain ⟨y0, y1⟩ := inBox (HL9.out.va 0 rfl)
              go_wp2_with (first
                | (go_at_call 16; refine (HL9.out.sts.All (i := 0) rfl HI.out).mono ?_; rintro e w5 ⟨v5, rfl, hv, hb⟩; obtain ⟨A5, n5, rfl⟩ := hv.slice; have HX5 : Hid (Law w Kb3 b p m [(p, T)] (newT 2000) [fun W' => W'.heap[u3]? = some (.cells #[.int .i64 sz, .int .i64 tm] 46), fun W' => W'.heap[u2]? = some (.cells #[.int .i64 sz, .int .i64 tm] 46), fun W => VA W O0 (.slice A0 T.l.length n0) (T.l.map af), fun W' => W'.heap[u1]? = some (.cells #[.int .i64 a.f0, .int .i64 a.f1, .int .i64 a.f2, .string a.f3, .string a.f4] 34)] w5) := HL9.out.below hb; have HV5 := Lib.hid hv; clear hv hb)
                | (go_at_call 22; refine (same_call HV5.out (HX5.out.va 2 rfl) rfl HNL.out).mono ?_; rintro e w6 ⟨rfl, hb⟩; have HX6 : Hid (Law w Kb3 b p m [(p, T)] (newT 2000) [fun W' => W'.heap[u3]? = some (.cells #[.int .i64 sz, .int .i64 tm] 46), fun W' => W'.heap[u2]? = some (.cells #[.int .i64 sz, .int .i64 tm] 46), fun W => VA W O0 (.slice A0 T.l.length n0) (T.l.map af), fun W' => W'.heap[u1]? = some (.cells #[.int .i64 a.f0, .int .i64 a.f1, .int .i64 a.f2, .string a.f3, .string a.f4] 34)] w6) := HX5.out.below hb; clear hb))
              go_roundw
              case rel => exact ⟨k + 1, T, last, by omega, by go_num, rfl, HX6.out.drop HLs.out (fun k h => hKb3 k (hKb2 k (HK0.out k (hKb1 k h)))) (fun x hx => by cases hx), HI.out.mono (Nat.le_succ _), HLA.out⟩
              case measure => simp [intOf]; omega
            · have HRE := Lib.hid h1
              clear h1
              obtain ⟨c0, c1⟩ := HL6.out.c
              obtain ⟨b0, b1, b2, b3, b4⟩ := acBox (HL6.out.va 2 rfl)
              obtain ⟨x0, x1⟩ := inBox (HL6.out.va 0 rfl)
              go_upto_region 21 with (first | (go_at_call 25; refine (HL6.out.sts.Append (i := 0) rfl HL6.out.glob HI.out HN.out.1 a.f3 a.f4 HOK.out.path (Nat.le_trans HOK.out.text (by decide))).mono ?_; rintro e w2 ⟨rfl, hs, hk⟩; have HL7 : Hid (Law w Kb2 b p m [(p, writeT T true a.f3 a.f4)] (newT 2000) [fun W' => W'.heap[u2]? = some (.cells #[.int .i64 sz, .int .i64 tm] 46), fun W => VA W O0 (.slice A0 T.l.length n0) (T.l.map af), fun W' => W'.heap[u1]? = some (.cells #[.int .i64 a.f0, .int .i64 a.f1, .int .i64 a.f2, .string a.f3, .string a.f4] 34)] w2) := HL6.out.step hs hk; rw [HRE.out]; clear hs hk))
              clear b0 b1 b2 b3 b4 x0 x1
              clear c0 c1 HL6
              rw [write_err (T := T) (st := true) (q := a.f3) (s := a.f4) (by rw [HRE.out]; decide)] at HL7
              obtain ⟨c0, c1⟩ := HL7.out.c
              obtain ⟨b0, b1, b2, b3, b4⟩ := acBox (HL7.out.va 2 rfl)
              obtain ⟨x0, x1⟩ := inBox (HL7.out.va 0 rfl)
              go_upto_region 22 with (first | (go_at_call 23; refine (HL7.out.sts.Stat (i := 0) rfl a.f3 HOK.out.path).mono ?_; rintro e w2 ⟨rfl, hb⟩; have HL8 : Hid (Law w Kb2 b p m [(p, T)] (newT 2000) [fun W' => W'.heap[u2]? = some (.cells #[.int .i64 sz, .int .i64 tm] 46), fun W => VA W O0 (.slice A0 T.l.length n0) (T.l.map af), fun W' => W'.heap[u1]? = some (.cells #[.int .i64 a.f0, .int .i64 a.f1, .int .i64 a.f2, .string a.f3, .string a.f4] 34)] w2) := HL7.out.below hb; rw [HST.out]; clear hb))
              clear b0 b1 b2 b3 b4 x0 x1
              clear c0 c1 HL7
              have HL9 := Lib.hid (HL8.out.box1 (.cells #[.int .i64 sz, .int .i64 tm] 46))
              generalize w2.alloc (.cells #[.int .i64 sz, .int .i64 tm] 46) = Wb3 at HL9
              generalize w2.heap.size = u3 at HL9
              obtain ⟨Kb3, hKb⟩ : ∃ K' : Nat → Prop, K' = fun k => Kb2 k ∨ k = u3 := ⟨_, rfl⟩
              rw [← hKb] at HL9
              have hKb3 : ∀ k, Kb2 k → Kb3 k := fun k h => by rw [hKb]; exact .inl h
              clear hKb HL8
              obtain ⟨c0, c1⟩ := HL9.out.c
              obtain ⟨b0, b1, b2, b3, b4⟩ := acBox (HL9.out.va 3 rfl)
              obtain ⟨x0, x1⟩ := inBox (HL9.out.va 1 rfl)
              obtain ⟨y0, y1⟩ := inBox (HL9.out.va 0 rfl)
              go_wp2_with (first
                | (go_at_call 16; refine (HL9.out.sts.All (i := 0) rfl HI.out).mono ?_; rintro e w5 ⟨v5, rfl, hv, hb⟩; obtain ⟨A5, n5, rfl⟩ := hv.slice; have HX5 : Hid (Law w Kb3 b p m [(p, T)] (newT 2000) [fun W' => W'.heap[u3]? = some (.cells #[.int .i64 sz, .int .i64 tm] 46), fun W' => W'.heap[u2]? = some (.cells #[.int .i64 sz, .int .i64 tm] 46), fun W => VA W O0 (.slice A0 T.l.length n0) (T.l.map af), fun W' => W'.heap[u1]? = some (.cells #[.int .i64 a.f0, .int .i64 a.f1, .int .i64 a.f2, .string a.f3, .string a.f4] 34)] w5) := HL9.out.below hb; have HV5 := Lib.hid hv; clear hv hb)
                | (go_at_call 22; refine (same_call HV5.out (HX5.out.va 2 rfl) rfl HNL.out).mono ?_; rintro e w6 ⟨rfl, hb⟩; have HX6 : Hid (Law w Kb3 b p m [(p, T)] (newT 2000) [fun W' => W'.heap[u3]? = some (.cells #[.int .i64 sz, .int .i64 tm] 46), fun W' => W'.heap[u2]? = some (.cells #[.int .i64 sz, .int .i64 tm] 46), fun W => VA W O0 (.slice A0 T.l.length n0) (T.l.map af), fun W' => W'.heap[u1]? = some (.cells #[.int .i64 a.f0, .int .i64 a.f1, .int .i64 a.f2, .string a.f3, .string a.f4] 34)] w6) := HX5.out.below hb; clear hb))
              go_roundw
              case rel => exact ⟨k + 1, T, last, by omega, by go_num, rfl, HX6.out.drop HLs.out (fun k h => hKb3 k (hKb2 k (HK0.out k (hKb1 k h)))) (fun x hx => by cases hx), HI.out.mono (Nat.le_succ _), HLA.out⟩
              case measure => simp [intOf]; omega
      · go_wp2_with fail
        go_ret
        exact ⟨rfl, HL0.out.bel⟩
end
end Go.Proofs.YtajiidkmijeidaaDoor.Fr
