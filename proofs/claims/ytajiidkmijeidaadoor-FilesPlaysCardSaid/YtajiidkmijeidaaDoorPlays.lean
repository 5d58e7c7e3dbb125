import Derived.Test.YtajiidkmijeidaaDoorGlob
/- FilesPlays. -/
namespace Go.Proofs.YtajiidkmijeidaaDoor.Fr
open Go.RowKit Go.Proofs.YtajiidkmijeidaaDoor.F Go.Proofs.YtajiidkmijeidaaDoorW.PrintWords
set_option linter.unusedVariables false
set_option linter.unusedSimpArgs false

section
variable {w : World}
set_option maxHeartbeats 8000000 in
set_option maxRecDepth 100000 in
theorem R_FilesPlays (hG : Glob w) (room : Int) (wroom : (Lit.int .i64 room).wf = true) (A : Option Addr) (c : Nat) (l : List Ac) (hA : Acs w A c l) :
    Calls Tryd.prog 10 #[.int .i64 room, .slice A l.length c] w fun e w' => e = .returned (.bool true) ∧ Below w.heap.size w w' := by
  have HG := Lib.hid hG
  have HA := Lib.hid hA
  have capl := hA.cap
  have hroom := int_wf wroom
  clear hG hA
  go_enter Tryd.func10, Tryd.ntmps10
  go_upto_region 3 with (first
    | (go_at_call 11; refine (shown_call HG.out).mono ?_; rintro e w1 ⟨rfl, hb⟩; have HB1 := Lib.hid hb; clear hb)
    | (go_at_call 12; refine (small_call (HA.out.below HB1.out)).mono ?_; rintro e w2 ⟨r1, rfl, hr, hb⟩; have HR1 := Lib.hid hr; have HB2 := Lib.hid (HB1.out.trans (hb.mono HB1.out.size)); clear hr hb))
  clear HB1
  cases r1 with
  | false =>
    go_wp2_with fail
    go_ret
    exact ⟨rfl, HB2.out⟩
  | true =>
    have HSM := Lib.hid (HR1.out rfl)
    clear HR1
    by_cases hr : room < 1 ∨ 1073741824 < room
    · rcases Classical.em (room < 1) with h1 | h1
      · have hd : decide (room < 1) = true := decide_eq_true h1
        go_wp2_with (first
          | (go_at_call 14; refine (begun_none _ room hr).mono ?_; rintro e w3 ⟨rfl, hb⟩; have HB3 := Lib.hid (HB2.out.trans (hb.mono HB2.out.size)); clear hb))
        go_ret
        exact ⟨rfl, HB3.out.alloc HB3.out.size _⟩
      · have hd : decide (room < 1) = false := decide_eq_false h1
        have hd2 : decide (1073741824 < room) = true := decide_eq_true (by omega)
        go_wp2_with (first
          | (go_at_call 14; refine (begun_none _ room hr).mono ?_; rintro e w3 ⟨rfl, hb⟩; have HB3 := Lib.hid (HB2.out.trans (hb.mono HB2.out.size)); clear hb))
        go_ret
        exact ⟨rfl, HB3.out.alloc HB3.out.size _⟩
    · go_upto_region 6 with (first | (go_at_call 14; refine (begun_sts _ room (by omega) (by omega)).mono ?_; rintro e w4 ⟨p, m, rfl, hs, hb⟩; have HL0 := Lib.hid (law_begun HG.out HB2.out hs hb); clear hs hb))
      generalize w4.alloc (.cells #[.pointer (some ⟨p, 0, none⟩), .pointer (some ⟨m, 0, none⟩)] 29) = W0 at HL0
      generalize w4.heap.size = b at HL0
      obtain ⟨K, hK⟩ : ∃ K : Nat → Prop, K = fun k => k < w2.heap.size ∨ k = b := ⟨_, rfl⟩
      rw [← hK] at HL0
      clear hK
      have hl60 := HSM.out.1
      have HI0 : Hid (Inv 0 (newT room)) := inv_new (by omega) (by omega)
      go_wp2_with fail
      go_loopw [9] (fun i wr => ∃ (k : Nat) (T : TS), k ≤ l.length ∧ i = .int .i64 k ∧ Hid (Law w K b p m [(p, T)] T [] wr) ∧ Hid (Inv k T))
        (fun i _ => l.length - (intOf i).toNat)
      case atStart => exact ⟨0, _, Nat.zero_le _, rfl, HL0.out, HI0.out⟩
      case round =>
        clear HL0 HI0
        obtain ⟨k, T, hk, rfl, HL0, HI⟩ := hrel
        by_cases hlk : k < l.length
        · obtain ⟨ad, e, hac⟩ := HA.out.at hlk
          subst e
          have HAC := Lib.hid hac
          have HOK := Lib.hid (HSM.out.ac HA.out hlk)
          have HN : Hid (k ≤ 1000000 ∧ k + 1 ≤ 1000000) := by unfold Hid; omega
          generalize l[k] = a at hac HAC HOK
          clear hac
          obtain ⟨⟨c0, c1, e0, e1, e2, e3, e4⟩, _⟩ := HL0.out.S HAC.out
          go_upto_region 12 with (first | (go_at_call 19; refine (HL0.out.sts.Clone (i := 0) rfl HI.out HN.out.1).mono ?_; rintro e w2 ⟨q, rfl, hs, hb⟩; have HL1 : Hid (Law w K b p m [(p, T), (q, T)] T [] w2) := HL0.out.more hs hb; clear hs hb))
          clear c0 c1 e0 e1 e2 e3 e4 HL0
          obtain ⟨⟨c0, c1, e0, e1, e2, e3, e4⟩, _⟩ := HL1.out.S HAC.out
          go_upto_region 15 with (first | (go_at_call 28; refine (HL1.out.sts.Write (i := 1) rfl HL1.out.glob HI.out HN.out.1 (⟨#[111, 119, 110]⟩ : ByteArray) a.f4 (by decide) (Nat.le_trans HOK.out.text (by decide))).mono ?_; rintro e w2 ⟨rfl, hs, hk⟩; have HL2 : Hid (Law w K b p m [(p, T), (q, writeT T false (⟨#[111, 119, 110]⟩ : ByteArray) a.f4)] T [] w2) := HL1.out.step hs hk; clear hs hk))
          clear c0 c1 e0 e1 e2 e3 e4 HL1
          have HI2 : Hid (Inv (k + 1) (writeT T false (⟨#[111, 119, 110]⟩ : ByteArray) a.f4)) := inv_write HI.out false (Nat.le_trans HOK.out.text (by decide))
          generalize writeT T false (⟨#[111, 119, 110]⟩ : ByteArray) a.f4 = U at HL2 HI2
          obtain ⟨⟨c0, c1, e0, e1, e2, e3, e4⟩, _⟩ := HL2.out.S HAC.out
          have HL2d : Hid (Law w K b p m [(p, T), (q, U)] T [] (World.drew _)) := HL2.out.below (Below.refl _ _).drew
          (go_region_held3 (fun W => (W.cell? ⟨b, 0, none⟩ = some (.pointer (some ⟨p, 0, none⟩)) ∧ W.cell? ⟨b, 1, none⟩ = some (.pointer (some ⟨m, 0, none⟩)) ∧ W.cell? (ad.add (k * 5)) = some (.int .i64 a.f0) ∧ W.cell? ⟨(ad.add (k * 5)).block, (ad.add (k * 5)).off + 1, none⟩ = some (.int .i64 a.f1) ∧ W.cell? ⟨(ad.add (k * 5)).block, (ad.add (k * 5)).off + 2, none⟩ = some (.int .i64 a.f2) ∧ W.cell? ⟨(ad.add (k * 5)).block, (ad.add (k * 5)).off + 3, none⟩ = some (.string a.f3) ∧ W.cell? ⟨(ad.add (k * 5)).block, (ad.add (k * 5)).off + 4, none⟩ = some (.string a.f4)) ∧ Hid (Below w.heap.size w W)) (first | exact HL3.out.S HAC.out | exact HL2d.out.S HAC.out) (first
            | (go_at_call 20; refine (HL2d.out.sts.Crash (i := 1) rfl HL2d.out.glob HI2.out HN.out.2 a.f1 a.f2 HOK.out.part).mono ?_; rintro e w2 ⟨rfl, hs, hk⟩; have HL3 : Hid (Law w K b p m [(p, T), (q, crashT U a.f1 a.f2)] T [] w2) := HL2d.out.step hs hk; clear hs hk)))
          clear c0 c1 e0 e1 e2 e3 e4 HL2 HL2d
          go_upto_region 16 with fail
          obtain ⟨⟨c0, c1, e0, e1, e2, e3, e4⟩, _⟩ := HL3.out.S HAC.out
          have HL3d : Hid (Law w K b p m [(p, T), (q, crashT U a.f1 a.f2)] T [] (World.drew _)) := HL3.out.below (Below.refl _ _).drew
          (go_region_held3 (fun W => (W.cell? ⟨b, 0, none⟩ = some (.pointer (some ⟨p, 0, none⟩)) ∧ W.cell? ⟨b, 1, none⟩ = some (.pointer (some ⟨m, 0, none⟩)) ∧ W.cell? (ad.add (k * 5)) = some (.int .i64 a.f0) ∧ W.cell? ⟨(ad.add (k * 5)).block, (ad.add (k * 5)).off + 1, none⟩ = some (.int .i64 a.f1) ∧ W.cell? ⟨(ad.add (k * 5)).block, (ad.add (k * 5)).off + 2, none⟩ = some (.int .i64 a.f2) ∧ W.cell? ⟨(ad.add (k * 5)).block, (ad.add (k * 5)).off + 3, none⟩ = some (.string a.f3) ∧ W.cell? ⟨(ad.add (k * 5)).block, (ad.add (k * 5)).off + 4, none⟩ = some (.string a.f4)) ∧ Hid (Below w.heap.size w W)) (first | exact HL4.out.S HAC.out | exact HL3d.out.S HAC.out) (first
            | (go_at_call 15; refine (HL3d.out.sts.Does HL3d.out.glob HI.out HN.out.1 a HOK.out).mono ?_; rintro e w2 ⟨rfl, hs, hk⟩; have HL4 : Hid (Law w K b p m [(p, actT T a), (q, crashT U a.f1 a.f2)] (actT T a) [] w2) := HL3d.out.step hs hk; clear hs hk)))
          clear c0 c1 e0 e1 e2 e3 e4 HL3 HL3d
          have HI3 : Hid (Inv (k + 1) (actT T a)) := inv_act HI.out a (Nat.le_trans HOK.out.text (by decide))
          generalize actT T a = T' at HL4 HI3
          obtain ⟨⟨c0, c1, e0, e1, e2, e3, e4⟩, _⟩ := HL4.out.S HAC.out
          go_upto_region 18 with (first | (go_at_call 30; refine (HL4.out.sts.Alike HI3.out HN.out.2).mono ?_; rintro e w2 ⟨rfl, hb⟩; have HL5 : Hid (Law w K b p m [(p, T'), (q, crashT U a.f1 a.f2)] T' [] w2) := HL4.out.below hb; clear hb))
          clear c0 c1 e0 e1 e2 e3 e4 HL4
          obtain ⟨⟨c0, c1, e0, e1, e2, e3, e4⟩, _⟩ := HL5.out.S HAC.out
          have HL5d : Hid (Law w K b p m [(p, T'), (q, crashT U a.f1 a.f2)] T' [] (World.drew _)) := HL5.out.below (Below.refl _ _).drew
          (go_region_held3 (fun W => (W.cell? ⟨b, 0, none⟩ = some (.pointer (some ⟨p, 0, none⟩)) ∧ W.cell? ⟨b, 1, none⟩ = some (.pointer (some ⟨m, 0, none⟩)) ∧ W.cell? (ad.add (k * 5)) = some (.int .i64 a.f0) ∧ W.cell? ⟨(ad.add (k * 5)).block, (ad.add (k * 5)).off + 1, none⟩ = some (.int .i64 a.f1) ∧ W.cell? ⟨(ad.add (k * 5)).block, (ad.add (k * 5)).off + 2, none⟩ = some (.int .i64 a.f2) ∧ W.cell? ⟨(ad.add (k * 5)).block, (ad.add (k * 5)).off + 3, none⟩ = some (.string a.f3) ∧ W.cell? ⟨(ad.add (k * 5)).block, (ad.add (k * 5)).off + 4, none⟩ = some (.string a.f4)) ∧ Hid (Below w.heap.size w W)) (exact HL5d.out.S HAC.out) (first
            | (go_at_call 29; refine (HL5d.out.sts.Read (i := 0) rfl a.f3 HOK.out.path).mono ?_; rintro e w2 ⟨rfl, rfl⟩)))
          have HL6 := HL5d
          clear c0 c1 e0 e1 e2 e3 e4 HL5 HL5d
          go_upto_region 19 with fail
          obtain ⟨⟨c0, c1, e0, e1, e2, e3, e4⟩, _⟩ := HL6.out.S HAC.out
          have HL6d : Hid (Law w K b p m [(p, T'), (q, crashT U a.f1 a.f2)] T' [] (World.drew _)) := HL6.out.below (Below.refl _ _).drew
          (go_region_held3 (fun W => (W.cell? ⟨b, 0, none⟩ = some (.pointer (some ⟨p, 0, none⟩)) ∧ W.cell? ⟨b, 1, none⟩ = some (.pointer (some ⟨m, 0, none⟩)) ∧ W.cell? (ad.add (k * 5)) = some (.int .i64 a.f0) ∧ W.cell? ⟨(ad.add (k * 5)).block, (ad.add (k * 5)).off + 1, none⟩ = some (.int .i64 a.f1) ∧ W.cell? ⟨(ad.add (k * 5)).block, (ad.add (k * 5)).off + 2, none⟩ = some (.int .i64 a.f2) ∧ W.cell? ⟨(ad.add (k * 5)).block, (ad.add (k * 5)).off + 3, none⟩ = some (.string a.f3) ∧ W.cell? ⟨(ad.add (k * 5)).block, (ad.add (k * 5)).off + 4, none⟩ = some (.string a.f4)) ∧ Hid (Below w.heap.size w W)) (first | exact HL7.out.S HAC.out | exact HL6d.out.S HAC.out) (first
            | (go_at_call 31; refine (HL6d.out.sts.rRead HI3.out a.f3).mono ?_; rintro e w2 ⟨rfl, hb⟩; have HL7 : Hid (Law w K b p m [(p, T'), (q, crashT U a.f1 a.f2)] T' [] w2) := HL6d.out.below hb; clear hb)))
          clear c0 c1 e0 e1 e2 e3 e4 HL6 HL6d
          go_wp2_with fail
          go_roundw
          case rel => exact ⟨k + 1, T', by omega, by go_num, HL7.out.fst, HI3.out⟩
          case measure => simp [intOf]; omega
        · go_wp2_with fail
          go_ret
          exact ⟨rfl, HL0.out.bel⟩
end
end Go.Proofs.YtajiidkmijeidaaDoor.Fr
