import Derived.Test.YtajiidkmijeidaaDoorWholeP
/- FilesWhole. -/
namespace Go.Proofs.YtajiidkmijeidaaDoor.Fr
open Go.RowKit Go.Proofs.YtajiidkmijeidaaDoor.F Go.Proofs.YtajiidkmijeidaaDoorW.PrintWords
set_option linter.unusedVariables false
set_option linter.unusedSimpArgs false

section
variable {w : World}
set_option maxHeartbeats 8000000 in
set_option maxRecDepth 100000 in
theorem R_FilesWhole (hG : Glob w) (A : Option Addr) (c : Nat) (l : List Ac) (hA : Acs w A c l) (old : ByteArray) (wold : old.size ≤ 140737488351232) (text : ByteArray) (wtext : text.size ≤ 140737488351232) (many : Int) (wmany : (Lit.int .i64 many).wf = true) (part : Int) (wpart : (Lit.int .i64 part).wf = true) :
    Calls Tryd.prog 9 #[.slice A l.length c, .string old, .string text, .int .i64 many, .int .i64 part] w fun e w' => e = .returned (.bool true) ∧ Below w.heap.size w w' := by
  have HG := Lib.hid hG
  have HA := Lib.hid hA
  have capl := hA.cap
  have hmany := int_wf wmany
  have hpart := int_wf wpart
  clear hG hA
  go_enter Tryd.func9, Tryd.ntmps9
  go_upto_region 4 with (first
    | (go_at_call 11; refine (shown_call HG.out).mono ?_; rintro e w1 ⟨rfl, hb⟩; have HB1 := Lib.hid hb; clear hb)
    | (go_at_call 12; refine (small_call (HA.out.below HB1.out)).mono ?_; rintro e w2 ⟨r1, rfl, hr, hb⟩; have HR1 := Lib.hid hr; have HB2 := Lib.hid (HB1.out.trans (hb.mono HB1.out.size)); clear hr hb)
    | (go_at_call 14; refine (begun_sts _ 1048576 (by decide) (by decide)).mono ?_; rintro e w4 ⟨p, m, rfl, hs, hb⟩; have HL0 := Lib.hid (law_begun HG.out HB2.out hs hb); clear hs hb))
  generalize w4.alloc (.cells #[.pointer (some ⟨p, 0, none⟩), .pointer (some ⟨m, 0, none⟩)] 29) = W0 at HL0
  generalize w4.heap.size = b at HL0
  obtain ⟨K, hK⟩ : ∃ K : Nat → Prop, K = fun k => k < w2.heap.size ∨ k = b := ⟨_, rfl⟩
  rw [← hK] at HL0
  clear hK
  cases r1 with
  | false =>
    go_wp2_with fail
    go_ret
    exact ⟨rfl, HL0.out.bel⟩
  | true =>
    have HSM := Lib.hid (HR1.out rfl)
    clear HR1
    have hl60 := HSM.out.1
    have HI0 : Hid (Inv 0 (newT 1048576)) := inv_new (by decide) (by decide)
    by_cases hs0 : 500 < old.size
    · have hd0 : decide ((500 : Int) < (old.size : Int)) = true := decide_eq_true (by omega)
      go_wp2_with fail
      go_ret
      exact ⟨rfl, HL0.out.bel⟩
    have hd0 : decide ((500 : Int) < (old.size : Int)) = false := decide_eq_false (by omega)
    by_cases hs1 : 500 < text.size
    · have hd1 : decide ((500 : Int) < (text.size : Int)) = true := decide_eq_true (by omega)
      go_wp2_with fail
      go_ret
      exact ⟨rfl, HL0.out.bel⟩
    have hd1 : decide ((500 : Int) < (text.size : Int)) = false := decide_eq_false (by omega)
    have ho : old.size ≤ 1000000000 := by omega
    have ht : text.size ≤ 1000000000 := by omega
    go_wp2_with fail
    go_loopw [15] (fun i wr => ∃ (k : Nat) (T : TS), k ≤ l.length ∧ i = .int .i64 k ∧ Hid (Law w K b p m [(p, T)] T [] wr) ∧ Hid (Inv k T))
      (fun i _ => l.length - (intOf i).toNat)
    case atStart => exact ⟨0, _, Nat.zero_le _, rfl, HL0.out, HI0.out⟩
    case round =>
      clear HL0 HI0
      obtain ⟨k, T, hk, rfl, HL0, HI⟩ := hrel
      by_cases hlk : k < l.length
      · skip
        obtain ⟨ad, e, hac⟩ := HA.out.at hlk
        subst e
        have HAC := Lib.hid hac
        have HOK := Lib.hid (HSM.out.ac HA.out hlk)
        have HN : Hid (k ≤ 1000000 ∧ k + 1 ≤ 1000000) := by unfold Hid; omega
        generalize l[k] = a at hac HAC HOK
        clear hac
        obtain ⟨⟨c0, c1, e0, e1, e2, e3, e4⟩, _⟩ := HL0.out.S HAC.out
        by_cases h1 : a.f3 = (⟨#[111, 119, 110]⟩ : ByteArray)
        · rw [h1] at e3
          go_wp2_with fail
          go_roundw
          case rel => exact ⟨k + 1, T, by omega, by go_num, HL0.out, HI.out.mono (Nat.le_succ _)⟩
          case measure => simp [intOf]; omega
        obtain ⟨n1, m1⟩ := lit_ne [111, 119, 110] h1
        by_cases h2 : a.f3 = (⟨#[98, 101, 115, 105, 100, 101]⟩ : ByteArray)
        · rw [h2] at e3 n1 m1
          go_wp2_with fail
          go_roundw
          case rel => exact ⟨k + 1, T, by omega, by go_num, HL0.out, HI.out.mono (Nat.le_succ _)⟩
          case measure => simp [intOf]; omega
        obtain ⟨n2, m2⟩ := lit_ne [98, 101, 115, 105, 100, 101] h2
        go_upto_region 10 with fail
        have HL0d : Hid (Law w K b p m [(p, T)] T [] (World.drew _)) := HL0.out.below (Below.refl _ _).drew
        (go_region_held3 (fun W => (W.cell? ⟨b, 0, none⟩ = some (.pointer (some ⟨p, 0, none⟩)) ∧ W.cell? ⟨b, 1, none⟩ = some (.pointer (some ⟨m, 0, none⟩)) ∧ W.cell? (ad.add (k * 5)) = some (.int .i64 a.f0) ∧ W.cell? ⟨(ad.add (k * 5)).block, (ad.add (k * 5)).off + 1, none⟩ = some (.int .i64 a.f1) ∧ W.cell? ⟨(ad.add (k * 5)).block, (ad.add (k * 5)).off + 2, none⟩ = some (.int .i64 a.f2) ∧ W.cell? ⟨(ad.add (k * 5)).block, (ad.add (k * 5)).off + 3, none⟩ = some (.string a.f3) ∧ W.cell? ⟨(ad.add (k * 5)).block, (ad.add (k * 5)).off + 4, none⟩ = some (.string a.f4)) ∧ Hid (Below w.heap.size w W)) (first | exact HL1.out.S HAC.out | exact HL0d.out.S HAC.out) (first
          | (go_at_call 15; refine (HL0d.out.sts.Does HL0d.out.glob HI.out HN.out.1 a HOK.out).mono ?_; rintro e w2 ⟨rfl, hs, hk⟩; have HL1 : Hid (Law w K b p m [(p, actT T a)] (actT T a) [] w2) := HL0d.out.step hs hk; clear hs hk)))
        clear c0 c1 e0 e1 e2 e3 e4 HL0 HL0d
        go_wp2_with fail
        go_roundw
        case rel => exact ⟨k + 1, _, by omega, by go_num, HL1.out, inv_act HI.out a (Nat.le_trans HOK.out.text (by decide))⟩
        case measure => simp [intOf]; omega
      · skip
        have HN : Hid (k ≤ 1000000 ∧ k + 1 ≤ 1000000 ∧ k + 1 + 1 ≤ 1000000 ∧ k + 1 + 1 + 1 ≤ 1000000 ∧ k + 1 + 1 + 1 + 1 ≤ 1000000) := by unfold Hid; omega
        obtain ⟨c0, c1⟩ := HL0.out.c
        go_upto_region 12 with (first | (go_at_call 27; refine (HL0.out.sts.Remove (i := 0) rfl HL0.out.glob HI.out HN.out.1 (⟨#[98, 101, 115, 105, 100, 101]⟩ : ByteArray) (by decide)).mono ?_; rintro e w2 ⟨rfl, hs, hk⟩; have HL1 : Hid (Law w K b p m [(p, removeT T besB)] T [] w2) := HL0.out.step hs hk; clear hs hk))
        clear c0 c1 HL0
        have HI1 : Hid (Inv (k + 1) (removeT T besB)) := inv_remove HI.out besB
        have HB1 : Hid (findF (removeT T besB).l besB = none) := remove_none besB
        generalize removeT T besB = T1 at HL1 HI1 HB1
        by_cases h2 : writeE T1 false ownB old = 0
        · have H2 := Lib.hid h2
          clear h2
          obtain ⟨c0, c1⟩ := HL1.out.c
          go_upto_region 14 with (first | (go_at_call 28; refine (HL1.out.sts.Write (i := 0) rfl HL1.out.glob HI1.out HN.out.2.1 (⟨#[111, 119, 110]⟩ : ByteArray) old (by decide) ho).mono ?_; rintro e w2 ⟨rfl, hs, hk⟩; have HL2 : Hid (Law w K b p m [(p, writeT T1 false ownB old)] T [] w2) := HL1.out.step hs hk; rw [show writeE T1 false (⟨#[111, 119, 110]⟩ : ByteArray) old = 0 from H2.out]; clear hs hk))
          clear c0 c1 HL1
          have HI2 : Hid (Inv (k + 1 + 1) (writeT T1 false ownB old)) := inv_write HI1.out false ho
          obtain ⟨c0, c1⟩ := HL2.out.c
          go_upto_region 15 with (first | (go_at_call 18; refine (HL2.out.sts.Sync (i := 0) rfl HL2.out.glob HI2.out HN.out.2.2.1).mono ?_; rintro e w2 ⟨rfl, hs, hk⟩; have HL3 : Hid (Law w K b p m [(p, syncT (writeT T1 false ownB old))] T [] w2) := HL2.out.step hs hk; clear hs hk))
          clear c0 c1 HL2
          have HI3 : Hid (Inv (k + 1 + 1) (syncT (writeT T1 false ownB old))) := inv_sync HI2.out.room HI2.out.clock HI2.out.good
          by_cases h4 : writeE (syncT (writeT T1 false ownB old)) false besB text = 0
          · have H4 := Lib.hid h4
            obtain ⟨hr, _⟩ := whole_rename HI1.out H2.out h4
            obtain ⟨hc, hro, hrb⟩ := whole_end HI1.out ho ht HB1.out H2.out h4 many part
            have HRE := Lib.hid hr
            have HCH := Lib.hid hc
            have HRO := Lib.hid hro
            have HRB := Lib.hid hrb
            clear h4 hr hc hro hrb
            have HI4 : Hid (Inv (k + 1 + 1 + 1) (writeT (syncT (writeT T1 false ownB old)) false besB text)) := inv_write HI3.out false ht
            have HI5 : Hid (Inv (k + 1 + 1 + 1 + 1) (renameT (writeT (syncT (writeT T1 false ownB old)) false besB text) besB ownB)) := inv_rename HI4.out _ _
            generalize syncT (writeT T1 false ownB old) = T3 at HL3 HI3 HI4 HI5 H4 HRE HCH HRO HRB
            obtain ⟨c0, c1⟩ := HL3.out.c
            go_upto_region 17 with (first | (go_at_call 28; refine (HL3.out.sts.Write (i := 0) rfl HL3.out.glob HI3.out HN.out.2.2.1 (⟨#[98, 101, 115, 105, 100, 101]⟩ : ByteArray) text (by decide) ht).mono ?_; rintro e w2 ⟨rfl, hs, hk⟩; have HL4 : Hid (Law w K b p m [(p, writeT T3 false besB text)] T [] w2) := HL3.out.step hs hk; rw [show writeE T3 false (⟨#[98, 101, 115, 105, 100, 101]⟩ : ByteArray) text = 0 from H4.out]; clear hs hk))
            clear c0 c1 HL3
            generalize writeT T3 false besB text = T4 at HL4 HI4 HI5 HRE HCH HRO HRB
            obtain ⟨c0, c1⟩ := HL4.out.c
            go_upto_region 19 with (first
              | (go_at_call 24; refine (HL4.out.sts.Rename (i := 0) rfl HL4.out.glob HI4.out HN.out.2.2.2.1 (⟨#[98, 101, 115, 105, 100, 101]⟩ : ByteArray) (⟨#[111, 119, 110]⟩ : ByteArray) (by decide) (by decide)).mono ?_; rintro e w2 ⟨rfl, hs, hk⟩; rw [show renameE T4 (⟨#[98, 101, 115, 105, 100, 101]⟩ : ByteArray) (⟨#[111, 119, 110]⟩ : ByteArray) = 0 from HRE.out]; have HL5 : Hid (Law w K b p m [(p, renameT T4 besB ownB)] T [] w2) := HL4.out.step hs hk; obtain ⟨d0, d1⟩ := HL5.out.c; clear hs hk)
              | (go_at_call 21; refine (HL5.out.sts.Pending (i := 0) rfl).mono ?_; rintro e w3 ⟨rfl, rfl⟩; rw [HCH.out]))
            clear d0 d1
            clear c0 c1 HL4
            generalize renameT T4 besB ownB = T5 at HL5 HI5 HCH HRO HRB
            obtain ⟨c0, c1⟩ := HL5.out.c
            go_upto_region 20 with (first | (go_at_call 20; refine (HL5.out.sts.Crash (i := 0) rfl HL5.out.glob HI5.out HN.out.2.2.2.2 many part hpart.2).mono ?_; rintro e w2 ⟨rfl, hs, hk⟩; have HL6 : Hid (Law w K b p m [(p, crashT T5 many part)] T [] w2) := HL5.out.step hs hk; clear hs hk))
            clear c0 c1 HL5
            have HPE : Hid ((crashT T5 many part).ch.length = 0) := rfl
            generalize crashT T5 many part = T6 at HL6 HRO HRB HPE
            have HRO1 : Hid ((readT T6 ownB).1 = if 2 ≤ many then text else old) := by unfold Hid; rw [HRO.out]
            have HRO2 : Hid ((readT T6 ownB).2 = 0) := by unfold Hid; rw [HRO.out]
            by_cases m2 : 2 ≤ many
            · have q1 : decide (2 ≤ many) = true := decide_eq_true m2
              rw [if_pos m2] at HRO1
              rw [if_pos m2] at HRB
              obtain ⟨c0, c1⟩ := HL6.out.c
              go_upto_region 21 with (first | (go_at_call 29; refine (HL6.out.sts.Read (i := 0) rfl (⟨#[111, 119, 110]⟩ : ByteArray) (by decide)).mono ?_; rintro e w2 ⟨rfl, rfl⟩; rw [show (readT T6 (⟨#[111, 119, 110]⟩ : ByteArray)).1 = _ from HRO1.out, show (readT T6 (⟨#[111, 119, 110]⟩ : ByteArray)).2 = 0 from HRO2.out]))
              go_upto_region 22 with (first | (go_at_call 29; refine (HL6.out.sts.Read (i := 0) rfl (⟨#[98, 101, 115, 105, 100, 101]⟩ : ByteArray) (by decide)).mono ?_; rintro e w2 ⟨rfl, rfl⟩; rw [show (readT T6 (⟨#[98, 101, 115, 105, 100, 101]⟩ : ByteArray)).2 = _ from HRB.out]))
              go_wp2_with (first | (go_at_call 21; refine (HL6.out.sts.Pending (i := 0) rfl).mono ?_; rintro e w3 ⟨rfl, rfl⟩; rw [HPE.out]))
              go_ret
              exact ⟨by first | rfl | (simp; done) | (simp; omega), HL6.out.bel⟩
            · by_cases m1 : many = 1
              · have q1 : decide (2 ≤ many) = false := decide_eq_false m2
                have q2 : decide (many = 1) = true := decide_eq_true m1
                rw [if_neg m2] at HRO1
                rw [if_neg m2, if_pos (Or.inl m1)] at HRB
                obtain ⟨c0, c1⟩ := HL6.out.c
                go_upto_region 21 with (first | (go_at_call 29; refine (HL6.out.sts.Read (i := 0) rfl (⟨#[111, 119, 110]⟩ : ByteArray) (by decide)).mono ?_; rintro e w2 ⟨rfl, rfl⟩; rw [show (readT T6 (⟨#[111, 119, 110]⟩ : ByteArray)).1 = _ from HRO1.out, show (readT T6 (⟨#[111, 119, 110]⟩ : ByteArray)).2 = 0 from HRO2.out]))
                go_upto_region 22 with (first | (go_at_call 29; refine (HL6.out.sts.Read (i := 0) rfl (⟨#[98, 101, 115, 105, 100, 101]⟩ : ByteArray) (by decide)).mono ?_; rintro e w2 ⟨rfl, rfl⟩; rw [show (readT T6 (⟨#[98, 101, 115, 105, 100, 101]⟩ : ByteArray)).2 = _ from HRB.out]))
                go_wp2_with (first | (go_at_call 21; refine (HL6.out.sts.Pending (i := 0) rfl).mono ?_; rintro e w3 ⟨rfl, rfl⟩; rw [HPE.out]))
                go_ret
                exact ⟨by first | rfl | (simp; done) | (simp; omega), HL6.out.bel⟩
              · by_cases hp : 1 ≤ part
                · have q1 : decide (2 ≤ many) = false := decide_eq_false m2
                  have q2 : decide (many = 1) = false := decide_eq_false m1
                  have q3 : decide (1 ≤ part) = true := decide_eq_true hp
                  rw [if_neg m2] at HRO1
                  rw [if_neg m2, if_pos (Or.inr hp)] at HRB
                  obtain ⟨c0, c1⟩ := HL6.out.c
                  go_upto_region 21 with (first | (go_at_call 29; refine (HL6.out.sts.Read (i := 0) rfl (⟨#[111, 119, 110]⟩ : ByteArray) (by decide)).mono ?_; rintro e w2 ⟨rfl, rfl⟩; rw [show (readT T6 (⟨#[111, 119, 110]⟩ : ByteArray)).1 = _ from HRO1.out, show (readT T6 (⟨#[111, 119, 110]⟩ : ByteArray)).2 = 0 from HRO2.out]))
                  go_upto_region 22 with (first | (go_at_call 29; refine (HL6.out.sts.Read (i := 0) rfl (⟨#[98, 101, 115, 105, 100, 101]⟩ : ByteArray) (by decide)).mono ?_; rintro e w2 ⟨rfl, rfl⟩; rw [show (readT T6 (⟨#[98, 101, 115, 105, 100, 101]⟩ : ByteArray)).2 = _ from HRB.out]))
                  go_wp2_with (first | (go_at_call 21; refine (HL6.out.sts.Pending (i := 0) rfl).mono ?_; rintro e w3 ⟨rfl, rfl⟩; rw [HPE.out]))
                  go_ret
                  exact ⟨by first | rfl | (simp; done) | (simp; omega), HL6.out.bel⟩
                · have q1 : decide (2 ≤ many) = false := decide_eq_false m2
                  have q2 : decide (many = 1) = false := decide_eq_false m1
                  have q3 : decide (1 ≤ part) = false := decide_eq_false hp
                  rw [if_neg m2] at HRO1
                  rw [if_neg m2, if_neg (fun h => h.elim m1 hp)] at HRB
                  obtain ⟨c0, c1⟩ := HL6.out.c
                  go_upto_region 21 with (first | (go_at_call 29; refine (HL6.out.sts.Read (i := 0) rfl (⟨#[111, 119, 110]⟩ : ByteArray) (by decide)).mono ?_; rintro e w2 ⟨rfl, rfl⟩; rw [show (readT T6 (⟨#[111, 119, 110]⟩ : ByteArray)).1 = _ from HRO1.out, show (readT T6 (⟨#[111, 119, 110]⟩ : ByteArray)).2 = 0 from HRO2.out]))
                  go_upto_region 22 with (first | (go_at_call 29; refine (HL6.out.sts.Read (i := 0) rfl (⟨#[98, 101, 115, 105, 100, 101]⟩ : ByteArray) (by decide)).mono ?_; rintro e w2 ⟨rfl, rfl⟩; rw [show (readT T6 (⟨#[98, 101, 115, 105, 100, 101]⟩ : ByteArray)).2 = _ from HRB.out]))
                  go_wp2_with (first | (go_at_call 21; refine (HL6.out.sts.Pending (i := 0) rfl).mono ?_; rintro e w3 ⟨rfl, rfl⟩; rw [HPE.out]))
                  go_ret
                  exact ⟨by first | rfl | (simp; done) | (simp; omega), HL6.out.bel⟩
          · have H4 : Hid (decide (writeE (syncT (writeT T1 false ownB old)) false besB text = 0) = false) := decide_eq_false h4
            have H4' := H4.out
            clear h4
            generalize hx : syncT (writeT T1 false ownB old) = T3 at HL3 HI3 H4'
            clear hx
            obtain ⟨c0, c1⟩ := HL3.out.c
            generalize hw : writeE T3 false besB text = we at H4'
            have hne : ¬ we = 0 := of_decide_eq_false H4'
            go_wp2_with (first | (go_at_call 28; refine (HL3.out.sts.Write (i := 0) rfl HL3.out.glob HI3.out HN.out.2.2.1 (⟨#[98, 101, 115, 105, 100, 101]⟩ : ByteArray) text (by decide) ht).mono ?_; rintro e w2 ⟨rfl, hs, hk⟩; rw [show writeE T3 false (⟨#[98, 101, 115, 105, 100, 101]⟩ : ByteArray) text = we from hw]; have HL9 : Hid (Law w K b p m [(p, writeT T3 false besB text)] T [] w2) := HL3.out.step hs hk; clear hs hk))
            go_ret
            exact ⟨rfl, HL9.out.bel⟩
        · have H4' : decide (writeE T1 false ownB old = 0) = false := decide_eq_false h2
          clear h2
          obtain ⟨c0, c1⟩ := HL1.out.c
          generalize hw : writeE T1 false ownB old = we at H4'
          have hne : ¬ we = 0 := of_decide_eq_false H4'
          go_wp2_with (first | (go_at_call 28; refine (HL1.out.sts.Write (i := 0) rfl HL1.out.glob HI1.out HN.out.2.1 (⟨#[111, 119, 110]⟩ : ByteArray) old (by decide) ho).mono ?_; rintro e w2 ⟨rfl, hs, hk⟩; rw [show writeE T1 false (⟨#[111, 119, 110]⟩ : ByteArray) old = we from hw]; have HL9 : Hid (Law w K b p m [(p, writeT T1 false ownB old)] T [] w2) := HL1.out.step hs hk; clear hs hk))
          go_ret
          exact ⟨rfl, HL9.out.bel⟩
end
end Go.Proofs.YtajiidkmijeidaaDoor.Fr
