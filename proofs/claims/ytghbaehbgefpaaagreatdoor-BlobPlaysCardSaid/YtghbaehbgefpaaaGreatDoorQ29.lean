import Derived.Test.YtghbaehbgefpaaaGreatDoorQ28
/- Several texts of this session in one: the walks of the functions that the laws reach, and what they tell. -/
set_option linter.unusedVariables false
set_option linter.unusedSimpArgs false
namespace Go.Proofs.YtghbaehbgefpaaaGreatDoor.Fr
open Go.RowKit Go.Proofs.YtghbaehbgefpaaaGreatDoor.F Go.Proofs.YtghbaehbgefpaaaGreatDoorW.PrintWords
section
variable {m : Nat} {T : TS} {B : Nat → Prop}
set_option maxHeartbeats 4000000 in
set_option maxRecDepth 100000 in
theorem rRename_call (w : World) (hT : Rf w m T B) (hO : TOK T) (q r : ByteArray) (hq : q.size ≤ 100000) (hr : r.size ≤ 100000) :
    Calls Tryz.prog 59 #[.pointer (some ⟨m, 0, none⟩), .string q, .string r] w fun e w' => e = .returned (.int .i64 (renameE T q r)) ∧ RfEnd w m B (renameT T q r) w' := by
  have HX := Lib.hid hT
  have HO := Lib.hid hO
  have HL := Lib.hid (Nat.le_trans hO.many (by decide : 100000 ≤ 1000000))
  have HL2 : Hid ((dropF T.l q).length ≤ 1000000) := Nat.le_trans (dropF_length T.l q) HL.out
  obtain ⟨vl, vs, vc, h⟩ := hT
  have HT := Lib.hid h
  have hlt := h.lt
  have c2 := h.c2
  clear h hO
  cases hf : findF T.l q with
  | none =>
    have HF := Lib.hid (findI_none hf)
    have h1 : Hid (renameE T q r = 4) := by unfold renameE; rw [Hid, hf]; rfl
    have h2 : Hid (renameT T q r = T) := by unfold renameT; rw [Hid, hf]; exact if_neg (by simp)
    clear hf
    rw [h1.out, h2.out]
    go_enter Tryz.func59, Tryz.ntmps59
    go_wp2_with (first
      | (go_at_call 63; refine (rfind_call HT.out.now HL.out _).mono ?_; rintro e w1 ⟨rfl, hd⟩; rw [HF.out]; have HB1 := Lib.hid (drawn_below hd); clear hd))
    go_ret
    exact ⟨rfl, RfEnd.same HX.out HB1.out⟩
  | some f =>
    obtain ⟨i, hi, hfi, hli⟩ := findI_some hf
    have HF := Lib.hid hfi
    clear hfi hli
    cases hp : pathV r with
    | false =>
      have h1 : Hid (renameE T q r = 1) := by unfold renameE; rw [Hid, hf, hp]; rfl
      have h2 : Hid (renameT T q r = T) := by unfold renameT; rw [Hid, hp]; exact if_neg (by simp)
      have HP := Lib.hid hp
      clear hf hp
      rw [h1.out, h2.out]
      go_enter Tryz.func59, Tryz.ntmps59
      go_wp2_with (first
        | (go_at_call 63; refine (rfind_call HT.out.now HL.out _).mono ?_; rintro e w1 ⟨rfl, hd⟩; rw [HF.out]; have HB1 := Lib.hid (drawn_below hd); clear hd)
        | (go_at_call 46; refine (rpath_call r hr _).mono ?_; rintro e w2 ⟨rfl, hd⟩; rw [HP.out]; have HB2 := Lib.hid (HB1.out.trans ((drawn_below hd).mono HB1.out.size)); have c2b := (HB2.out.cell (p := ⟨m, 2, none⟩) hlt).trans c2; clear hd))
      go_ret
      exact ⟨rfl, RfEnd.same HX.out HB2.out⟩
    | true =>
      have HP := Lib.hid hp
      have hse : (q.toList == r.toList) = sameB q r := by unfold sameB; rw [ByteArray.toList_eq, ByteArray.toList_eq]
      cases hs : sameB q r with
      | true =>
        have h1 : Hid (renameE T q r = 0) := by unfold renameE; rw [Hid, hf, hp, hs]; rfl
        have h2 : Hid (renameT T q r = T) := by unfold renameT; rw [Hid, hs]; exact if_neg (by simp)
        rw [hs] at hse
        clear hf hp hs
        rw [h1.out, h2.out]
        go_enter Tryz.func59, Tryz.ntmps59
        go_wp2_with (first
          | (go_at_call 63; refine (rfind_call HT.out.now HL.out _).mono ?_; rintro e w1 ⟨rfl, hd⟩; rw [HF.out]; have HB1 := Lib.hid (drawn_below hd); clear hd)
          | (go_at_call 46; refine (rpath_call r hr _).mono ?_; rintro e w2 ⟨rfl, hd⟩; rw [HP.out]; have HB2 := Lib.hid (HB1.out.trans ((drawn_below hd).mono HB1.out.size)); have c2b := (HB2.out.cell (p := ⟨m, 2, none⟩) hlt).trans c2; clear hd))
        go_ret
        exact ⟨rfl, RfEnd.same HX.out HB2.out⟩
      | false =>
        cases hb : blockT T.l r q with
        | true =>
          have h1 : Hid (renameE T q r = 5) := by unfold renameE; rw [Hid, hf, hp, hs, hb]; rfl
          have h2 : Hid (renameT T q r = T) := by unfold renameT; rw [Hid, hb]; exact if_neg (by simp)
          rw [block_but] at hb
          have H3 := Lib.hid hb
          rw [hs] at hse
          clear hf hp hs hb
          rw [h1.out, h2.out]
          go_enter Tryz.func59, Tryz.ntmps59
          go_wp2_with (first
            | (go_at_call 63; refine (rfind_call HT.out.now HL.out _).mono ?_; rintro e w1 ⟨rfl, hd⟩; rw [HF.out]; have HB1 := Lib.hid (drawn_below hd); clear hd)
            | (go_at_call 46; refine (rpath_call r hr _).mono ?_; rintro e w2 ⟨rfl, hd⟩; rw [HP.out]; have HB2 := Lib.hid (HB1.out.trans ((drawn_below hd).mono HB1.out.size)); have c2b := (HB2.out.cell (p := ⟨m, 2, none⟩) hlt).trans c2; clear hd)
            | (go_at_call 65; refine (rdrop_call (HT.out.below HB2.out).now HL.out _).mono ?_; rintro e w3 ⟨v3, rfl, hv3, hb3⟩; have HV3 := Lib.hid hv3; have HB3 := Lib.hid (HB2.out.trans (hb3.mono HB2.out.size)); clear hv3 hb3)
            | (go_at_call 87; refine (rblocked_call HV3.out HL2.out _).mono ?_; rintro e w4 ⟨rfl, hd⟩; rw [H3.out]; have HB4 := Lib.hid (HB3.out.trans ((drawn_below hd).mono HB3.out.size)); clear hd))
          go_ret
          exact ⟨rfl, RfEnd.same HX.out HB4.out⟩
        | false =>
          have h1 : Hid (renameE T q r = 0) := by unfold renameE; rw [Hid, hf, hp, hs, hb]; rfl
          have h2 : Hid (renameT T q r = doneT T ⟨4, q, r, 0⟩) := by unfold renameT; rw [Hid, hf, hp, hs, hb]; exact if_pos ⟨rfl, rfl, rfl, rfl⟩
          rw [block_but] at hb
          have H3 := Lib.hid hb
          have HD : Hid (∀ W, Rf W m T B → Calls Tryz.prog 84 #[.pointer (some ⟨m, 0, none⟩), .agg #[.int .i64 4, .string q, .string r, .int .i64 0]] W fun e w' => e = .returned (.tuple #[]) ∧ RfEnd W m B (doneT T ⟨4, q, r, 0⟩) w') := fun W hW =>
            rchange_call W hW ⟨4, q, r, 0⟩ ⟨.inr (.inr (.inr rfl)), hq, Nat.le_trans hr (by decide), fun _ => hr⟩ HO.out.many (fun f hf => Nat.le_trans (HO.out.texts f hf) (by decide)) HO.out.clock HO.out.chs
          rw [hs] at hse
          clear hf hp hs hb
          rw [h1.out, h2.out]
          go_enter Tryz.func59, Tryz.ntmps59
          go_wp2_with (first
            | (go_at_call 63; refine (rfind_call HT.out.now HL.out _).mono ?_; rintro e w1 ⟨rfl, hd⟩; rw [HF.out]; have HB1 := Lib.hid (drawn_below hd); clear hd)
            | (go_at_call 46; refine (rpath_call r hr _).mono ?_; rintro e w2 ⟨rfl, hd⟩; rw [HP.out]; have HB2 := Lib.hid (HB1.out.trans ((drawn_below hd).mono HB1.out.size)); have c2b := (HB2.out.cell (p := ⟨m, 2, none⟩) hlt).trans c2; clear hd)
            | (go_at_call 65; refine (rdrop_call (HT.out.below HB2.out).now HL.out _).mono ?_; rintro e w3 ⟨v3, rfl, hv3, hb3⟩; have HV3 := Lib.hid hv3; have HB3 := Lib.hid (HB2.out.trans (hb3.mono HB2.out.size)); clear hv3 hb3)
            | (go_at_call 87; refine (rblocked_call HV3.out HL2.out _).mono ?_; rintro e w4 ⟨rfl, hd⟩; rw [H3.out]; have HB4 := Lib.hid (HB3.out.trans ((drawn_below hd).mono HB3.out.size)); clear hd)
            | (go_at_call 84; refine (HD.out _ (HX.out.below HB4.out)).mono ?_; rintro e w5 ⟨rfl, he5⟩; have HE5 := Lib.hid he5; clear he5))
          go_ret
          exact ⟨rfl, HE5.out.left HB4.out⟩
end
structure WrMid (w w2 : World) (B : Nat → Prop) (L : List Fl) (c : Cg) (v : Value) (wc : World) : Prop where
  row : VF wc (fun k => B k ∨ (w2.heap.size ≤ k ∧ k < wc.heap.size)) v L
  box : wc.heap[w2.heap.size]? = some (.cells #[.int .i64 c.f0, .string c.f1, .string c.f2, .int .i64 c.f3] 98 (0, 0))
  below : Below w.heap.size w wc
theorem WrMid.step {w w2 : World} {B : Nat → Prop} {L : List Fl} {c : Cg} {v : Value} {wc wd : World} (h : WrMid w w2 B L c v wc) (hb : Below wc.heap.size wc wd) : WrMid w w2 B L c v wd :=
  ⟨Kd.V_mono (Kd.V_below h.row hb) fun k hk => hk.imp id fun hk => ⟨hk.1, Nat.lt_of_lt_of_le hk.2 hb.size⟩, (hb.block _ (Array.getElem?_eq_some_iff.1 h.box).1).trans h.box, h.below.trans (hb.mono h.below.size)⟩
section
variable {m : Nat} {T : TS} {B : Nat → Prop}
set_option maxHeartbeats 4000000 in
set_option maxRecDepth 100000 in
theorem rwr_1 (w : World) (hT : Rf w m T B) (hO : TOK T) (hS : Srt T.l) (hP : Pth T.l) (stays : Bool) (q s : ByteArray) (hq : q.size ≤ 100000) (hs : s.size ≤ 1000000000) (kd : Int) (hkd : kd = if stays = true then 2 else 1) (h1 : pathV q = false) :
    Calls Tryz.prog 79 #[.pointer (some ⟨m, 0, none⟩), .int .i64 kd, .string q, .string s] w fun e w' => e = .returned (.int .i64 1) ∧ Below w.heap.size w w' := by
  have HP := Lib.hid h1
  clear h1 hkd
  go_enter Tryz.func79, Tryz.ntmps79
  go_wp2_with (first
    | (go_at_call 46; refine (rpath_call q hq _).mono ?_; rintro e w2 ⟨rfl, hd⟩; rw [HP.out]; have HB2 := Lib.hid (drawn_below hd); clear hd))
  go_ret
  exact ⟨rfl, HB2.out⟩
set_option maxHeartbeats 4000000 in
set_option maxRecDepth 100000 in
theorem rwr_3 (w : World) (hT : Rf w m T B) (hO : TOK T) (hS : Srt T.l) (hP : Pth T.l) (stays : Bool) (q s : ByteArray) (hq : q.size ≤ 100000) (hs : s.size ≤ 1000000000) (kd : Int) (hkd : kd = if stays = true then 2 else 1) (h1 : pathV q = true) (h2 : 16777216 < sizeT T stays q s) :
    Calls Tryz.prog 79 #[.pointer (some ⟨m, 0, none⟩), .int .i64 kd, .string q, .string s] w fun e w' => e = .returned (.int .i64 3) ∧ Below w.heap.size w w' := by
  have HX := Lib.hid hT
  have HO := Lib.hid hO
  have HP := Lib.hid h1
  have HL := Lib.hid (Nat.le_trans hO.many (by decide : 100000 ≤ 1000000))
  have hroom := hO.room
  have hclock := hO.clock
  have hc : CgOK ⟨kd, q, s, T.clock + 1⟩ := ⟨by cases stays <;> subst hkd <;> first | exact .inl rfl | exact .inr (.inl rfl), hq, hs, fun e => by cases stays <;> subst hkd <;> simp at e⟩
  have HC := Lib.hid hc
  obtain ⟨t, ht, hts⟩ := write_after T stays q s
  have hcw : writeC T stays q s = ⟨kd, q, s, T.clock + 1⟩ := by unfold writeC; rw [← hkd]
  rw [hcw] at ht
  have hhad : hadT T q ≤ 1000000000 := by
    unfold hadT textF
    cases e : findF T.l q with
    | none => exact Nat.zero_le _
    | some f => exact hO.texts f (mem_of_find e)
  have htz : t.size ≤ 2000000000 := by
    rw [hts]
    unfold sizeT
    cases stays
    · exact Nat.le_trans hs (by decide)
    · show s.size + hadT T q ≤ _
      omega
  obtain ⟨hu1, hu2⟩ := put_used hS ⟨q, t, T.clock + 1⟩
  have hfind := find_put hS ⟨q, t, T.clock + 1⟩
  have hfull := full_eq hS stays q s
  rw [hcw, ht] at hfull
  have HT' := Lib.hid ht
  obtain ⟨L', hL'⟩ : ∃ L', L' = putF T.l ⟨q, t, T.clock + 1⟩ := ⟨_, rfl⟩
  rw [← hL'] at hu1 hu2 hfind hfull ht
  have HLe := Lib.hid ht
  have HLw : Hid (afterF T.l (writeC T stays q s) = L') := by rw [Hid, hcw]; exact ht
  have hlen' : L'.length ≤ 1000000 := by have := hO.many; split at hu2 <;> omega
  have husd : usedF L' ≤ 10000000000000000 := by have := hO.used; have h2 : (⟨q, t, T.clock + 1⟩ : Fl).f1.size = t.size := rfl; omega
  have HL' := Lib.hid hlen'
  have HU' := Lib.hid husd
  obtain ⟨i, hi, hfi, hli⟩ := findI_some hfind
  have HF := Lib.hid hfi
  have HLI := Lib.hid hli
  obtain ⟨vl, vs, vc, h⟩ := hT
  have HT := Lib.hid h
  have hlt := h.lt
  have c1 := h.c1
  have c2 := h.c2
  have hblk := Lib.hid (block_eq hP q)
  clear h hO hS hP h1 hkd hc hcw hL' hu1 hu2 hfind ht hfi hli husd hlen'
  have D3 : decide ((16777216 : Int) < (t.size : Int)) = true := decide_eq_true (by omega)
  go_enter Tryz.func79, Tryz.ntmps79
  go_upto_region 4 with (first
    | (go_at_call 46; refine (rpath_call q hq _).mono ?_; rintro e w2 ⟨rfl, hd⟩; rw [HP.out]; have HB2 := Lib.hid (drawn_below hd); clear hd))
  have c1b := (HB2.out.cell (p := ⟨m, 1, none⟩) hlt).trans c1
  have hlt2 := Nat.lt_of_lt_of_le hlt HB2.out.size
  have c2b := (HB2.out.cell (p := ⟨m, 2, none⟩) hlt).trans c2
  have HB0 : Hid (Below w2.heap.size w2 ((w2.alloc (.cells #[.int .i64 kd, .string q, .string s, .int .i64 (T.clock + 1)] 98)).drew)) := (newBelow w2 _).drew
  have HW : Hid (∀ wx v', VF wx (fun k => B k ∨ (((w2.alloc (.cells #[.int .i64 kd, .string q, .string s, .int .i64 (T.clock + 1)] 98)).drew).heap.size ≤ k ∧ k < wx.heap.size)) v' L' → VF wx (fun k => B k ∨ (w2.heap.size ≤ k ∧ k < wx.heap.size)) v' L') :=
    fun wx v' h => Kd.V_mono h fun k hk => hk.imp id fun hk => ⟨Nat.le_trans HB0.out.size hk.1, hk.2⟩
  go_upto_region 5 with (fail)
  go_cut [11] (fun v11 wc => ∃ A1 k1, v11 = .slice A1 L'.length k1 ∧ Hid (L'.length ≤ k1 ∧ WrMid w w2 B L' ⟨kd, q, s, T.clock + 1⟩ (.slice A1 L'.length k1) wc))
  case first =>
    go_region_with (first
      | (go_at_call 41; refine (rafter_call _ B _ T.l (Kd.V_below HT.out.now (HB2.out.trans (HB0.out.mono HB2.out.size))) HO.out.many (fun f hf => Nat.le_trans (HO.out.texts f hf) (by decide)) ⟨kd, q, s, T.clock + 1⟩ HC.out).mono ?_; rw [HLe.out]; rintro e w3 ⟨v3, rfl, hv3, hb3⟩; obtain ⟨A1, k1, rfl⟩ := Kd.V_slice hv3; have HM : Hid (WrMid w w2 B L' ⟨kd, q, s, T.clock + 1⟩ (.slice A1 L'.length k1) w3) := ⟨HW.out _ _ hv3, (hb3.block w2.heap.size (by show w2.heap.size < (w2.alloc _).heap.size; rw [World.size_alloc]; omega)).trans (World.alloc_heap_new w2 _), HB2.out.trans ((HB0.out.trans (hb3.mono HB0.out.size)).mono HB2.out.size)⟩; have HK1 := Lib.hid (Kd.V_reads' hv3).2.1; clear hv3 hb3))
    all_goals
      go_wp2_with fail
      go_meet
      exact ⟨_, _, rfl, HK1.out, HM.out⟩
  case rest =>
    obtain ⟨A1, k1, rfl, hM0⟩ := hcut
    have HM := Lib.hid hM0.out.2
    clear hM0
    go_upto_region 7 with (first
      | (go_at_call 63; refine (rfind_call HM.out.row HL'.out _).mono ?_; rintro e w4 ⟨rfl, hd⟩; rw [HF.out]; have HM4 := Lib.hid (HM.out.step (drawn_below hd)); clear hd))
    obtain ⟨ad, cc, e, hlc, q0, q1, q2⟩ := VF_at HM4.out.row hi
    rw [HLI.out] at q0 q1 q2
    cases e
    have c2d := (HM4.out.below.cell (p := ⟨m, 2, none⟩) hlt).trans c2
    have hlt4 := Nat.lt_of_lt_of_le hlt HM4.out.below.size
    go_wp2_with fail
    go_ret
    exact ⟨rfl, HM4.out.below⟩
set_option maxHeartbeats 4000000 in
set_option maxRecDepth 100000 in
theorem rwr_5 (w : World) (hT : Rf w m T B) (hO : TOK T) (hS : Srt T.l) (hP : Pth T.l) (stays : Bool) (q s : ByteArray) (hq : q.size ≤ 100000) (hs : s.size ≤ 1000000000) (kd : Int) (hkd : kd = if stays = true then 2 else 1) (h1 : pathV q = true) (h2 : ¬ 16777216 < sizeT T stays q s) (h3 : blockT T.l q ⟨#[]⟩ = true) :
    Calls Tryz.prog 79 #[.pointer (some ⟨m, 0, none⟩), .int .i64 kd, .string q, .string s] w fun e w' => e = .returned (.int .i64 5) ∧ Below w.heap.size w w' := by
  have HX := Lib.hid hT
  have HO := Lib.hid hO
  have HP := Lib.hid h1
  have HL := Lib.hid (Nat.le_trans hO.many (by decide : 100000 ≤ 1000000))
  have hroom := hO.room
  have hclock := hO.clock
  have hc : CgOK ⟨kd, q, s, T.clock + 1⟩ := ⟨by cases stays <;> subst hkd <;> first | exact .inl rfl | exact .inr (.inl rfl), hq, hs, fun e => by cases stays <;> subst hkd <;> simp at e⟩
  have HC := Lib.hid hc
  obtain ⟨t, ht, hts⟩ := write_after T stays q s
  have hcw : writeC T stays q s = ⟨kd, q, s, T.clock + 1⟩ := by unfold writeC; rw [← hkd]
  rw [hcw] at ht
  have hhad : hadT T q ≤ 1000000000 := by
    unfold hadT textF
    cases e : findF T.l q with
    | none => exact Nat.zero_le _
    | some f => exact hO.texts f (mem_of_find e)
  have htz : t.size ≤ 2000000000 := by
    rw [hts]
    unfold sizeT
    cases stays
    · exact Nat.le_trans hs (by decide)
    · show s.size + hadT T q ≤ _
      omega
  obtain ⟨hu1, hu2⟩ := put_used hS ⟨q, t, T.clock + 1⟩
  have hfind := find_put hS ⟨q, t, T.clock + 1⟩
  have hfull := full_eq hS stays q s
  rw [hcw, ht] at hfull
  have HT' := Lib.hid ht
  obtain ⟨L', hL'⟩ : ∃ L', L' = putF T.l ⟨q, t, T.clock + 1⟩ := ⟨_, rfl⟩
  rw [← hL'] at hu1 hu2 hfind hfull ht
  have HLe := Lib.hid ht
  have HLw : Hid (afterF T.l (writeC T stays q s) = L') := by rw [Hid, hcw]; exact ht
  have hlen' : L'.length ≤ 1000000 := by have := hO.many; split at hu2 <;> omega
  have husd : usedF L' ≤ 10000000000000000 := by have := hO.used; have h2 : (⟨q, t, T.clock + 1⟩ : Fl).f1.size = t.size := rfl; omega
  have HL' := Lib.hid hlen'
  have HU' := Lib.hid husd
  obtain ⟨i, hi, hfi, hli⟩ := findI_some hfind
  have HF := Lib.hid hfi
  have HLI := Lib.hid hli
  obtain ⟨vl, vs, vc, h⟩ := hT
  have HT := Lib.hid h
  have hlt := h.lt
  have c1 := h.c1
  have c2 := h.c2
  have hblk := Lib.hid (block_eq hP q)
  clear h hO hS hP h1 hkd hc hcw hL' hu1 hu2 hfind ht hfi hli husd hlen'
  have D3 : decide ((16777216 : Int) < (t.size : Int)) = false := decide_eq_false (by omega)
  have H3 : Hid (blockR T.l q = true) := by rw [Hid, ← hblk.out]; exact h3
  clear h3
  go_enter Tryz.func79, Tryz.ntmps79
  go_upto_region 4 with (first
    | (go_at_call 46; refine (rpath_call q hq _).mono ?_; rintro e w2 ⟨rfl, hd⟩; rw [HP.out]; have HB2 := Lib.hid (drawn_below hd); clear hd))
  have c1b := (HB2.out.cell (p := ⟨m, 1, none⟩) hlt).trans c1
  have hlt2 := Nat.lt_of_lt_of_le hlt HB2.out.size
  have c2b := (HB2.out.cell (p := ⟨m, 2, none⟩) hlt).trans c2
  have HB0 : Hid (Below w2.heap.size w2 ((w2.alloc (.cells #[.int .i64 kd, .string q, .string s, .int .i64 (T.clock + 1)] 98)).drew)) := (newBelow w2 _).drew
  have HW : Hid (∀ wx v', VF wx (fun k => B k ∨ (((w2.alloc (.cells #[.int .i64 kd, .string q, .string s, .int .i64 (T.clock + 1)] 98)).drew).heap.size ≤ k ∧ k < wx.heap.size)) v' L' → VF wx (fun k => B k ∨ (w2.heap.size ≤ k ∧ k < wx.heap.size)) v' L') :=
    fun wx v' h => Kd.V_mono h fun k hk => hk.imp id fun hk => ⟨Nat.le_trans HB0.out.size hk.1, hk.2⟩
  go_upto_region 5 with (fail)
  go_cut [11] (fun v11 wc => ∃ A1 k1, v11 = .slice A1 L'.length k1 ∧ Hid (L'.length ≤ k1 ∧ WrMid w w2 B L' ⟨kd, q, s, T.clock + 1⟩ (.slice A1 L'.length k1) wc))
  case first =>
    go_region_with (first
      | (go_at_call 41; refine (rafter_call _ B _ T.l (Kd.V_below HT.out.now (HB2.out.trans (HB0.out.mono HB2.out.size))) HO.out.many (fun f hf => Nat.le_trans (HO.out.texts f hf) (by decide)) ⟨kd, q, s, T.clock + 1⟩ HC.out).mono ?_; rw [HLe.out]; rintro e w3 ⟨v3, rfl, hv3, hb3⟩; obtain ⟨A1, k1, rfl⟩ := Kd.V_slice hv3; have HM : Hid (WrMid w w2 B L' ⟨kd, q, s, T.clock + 1⟩ (.slice A1 L'.length k1) w3) := ⟨HW.out _ _ hv3, (hb3.block w2.heap.size (by show w2.heap.size < (w2.alloc _).heap.size; rw [World.size_alloc]; omega)).trans (World.alloc_heap_new w2 _), HB2.out.trans ((HB0.out.trans (hb3.mono HB0.out.size)).mono HB2.out.size)⟩; have HK1 := Lib.hid (Kd.V_reads' hv3).2.1; clear hv3 hb3))
    all_goals
      go_wp2_with fail
      go_meet
      exact ⟨_, _, rfl, HK1.out, HM.out⟩
  case rest =>
    obtain ⟨A1, k1, rfl, hM0⟩ := hcut
    have HM := Lib.hid hM0.out.2
    clear hM0
    go_upto_region 7 with (first
      | (go_at_call 63; refine (rfind_call HM.out.row HL'.out _).mono ?_; rintro e w4 ⟨rfl, hd⟩; rw [HF.out]; have HM4 := Lib.hid (HM.out.step (drawn_below hd)); clear hd))
    obtain ⟨ad, cc, e, hlc, q0, q1, q2⟩ := VF_at HM4.out.row hi
    rw [HLI.out] at q0 q1 q2
    cases e
    have c2d := (HM4.out.below.cell (p := ⟨m, 2, none⟩) hlt).trans c2
    have hlt4 := Nat.lt_of_lt_of_le hlt HM4.out.below.size
    go_wp2_with (first
      | (go_at_call 87; refine (rblocked_call (HT.out.below HM4.out.below).now HL.out _).mono ?_; rintro e w5 ⟨rfl, hd⟩; rw [H3.out]; have HM5 := Lib.hid (HM4.out.step (drawn_below hd)); clear hd))
    go_ret
    exact ⟨rfl, HM5.out.below⟩
set_option maxHeartbeats 4000000 in
set_option maxRecDepth 100000 in
theorem rwr_6 (w : World) (hT : Rf w m T B) (hO : TOK T) (hS : Srt T.l) (hP : Pth T.l) (stays : Bool) (q s : ByteArray) (hq : q.size ≤ 100000) (hs : s.size ≤ 1000000000) (kd : Int) (hkd : kd = if stays = true then 2 else 1) (h1 : pathV q = true) (h2 : ¬ 16777216 < sizeT T stays q s) (h3 : blockT T.l q ⟨#[]⟩ = false) (h4 : decide (T.room < (usedF (afterF T.l (writeC T stays q s)) : Int)) = true) :
    Calls Tryz.prog 79 #[.pointer (some ⟨m, 0, none⟩), .int .i64 kd, .string q, .string s] w fun e w' => e = .returned (.int .i64 6) ∧ Below w.heap.size w w' := by
  have HX := Lib.hid hT
  have HO := Lib.hid hO
  have HP := Lib.hid h1
  have HL := Lib.hid (Nat.le_trans hO.many (by decide : 100000 ≤ 1000000))
  have hroom := hO.room
  have hclock := hO.clock
  have hc : CgOK ⟨kd, q, s, T.clock + 1⟩ := ⟨by cases stays <;> subst hkd <;> first | exact .inl rfl | exact .inr (.inl rfl), hq, hs, fun e => by cases stays <;> subst hkd <;> simp at e⟩
  have HC := Lib.hid hc
  obtain ⟨t, ht, hts⟩ := write_after T stays q s
  have hcw : writeC T stays q s = ⟨kd, q, s, T.clock + 1⟩ := by unfold writeC; rw [← hkd]
  rw [hcw] at ht
  have hhad : hadT T q ≤ 1000000000 := by
    unfold hadT textF
    cases e : findF T.l q with
    | none => exact Nat.zero_le _
    | some f => exact hO.texts f (mem_of_find e)
  have htz : t.size ≤ 2000000000 := by
    rw [hts]
    unfold sizeT
    cases stays
    · exact Nat.le_trans hs (by decide)
    · show s.size + hadT T q ≤ _
      omega
  obtain ⟨hu1, hu2⟩ := put_used hS ⟨q, t, T.clock + 1⟩
  have hfind := find_put hS ⟨q, t, T.clock + 1⟩
  have hfull := full_eq hS stays q s
  rw [hcw, ht] at hfull
  have HT' := Lib.hid ht
  obtain ⟨L', hL'⟩ : ∃ L', L' = putF T.l ⟨q, t, T.clock + 1⟩ := ⟨_, rfl⟩
  rw [← hL'] at hu1 hu2 hfind hfull ht
  have HLe := Lib.hid ht
  have HLw : Hid (afterF T.l (writeC T stays q s) = L') := by rw [Hid, hcw]; exact ht
  have hlen' : L'.length ≤ 1000000 := by have := hO.many; split at hu2 <;> omega
  have husd : usedF L' ≤ 10000000000000000 := by have := hO.used; have h2 : (⟨q, t, T.clock + 1⟩ : Fl).f1.size = t.size := rfl; omega
  have HL' := Lib.hid hlen'
  have HU' := Lib.hid husd
  obtain ⟨i, hi, hfi, hli⟩ := findI_some hfind
  have HF := Lib.hid hfi
  have HLI := Lib.hid hli
  obtain ⟨vl, vs, vc, h⟩ := hT
  have HT := Lib.hid h
  have hlt := h.lt
  have c1 := h.c1
  have c2 := h.c2
  have hblk := Lib.hid (block_eq hP q)
  clear h hO hS hP h1 hkd hc hcw hL' hu1 hu2 hfind ht hfi hli husd hlen'
  rw [show afterF T.l (writeC T stays q s) = L' from HLw.out] at h4
  have D3 : decide ((16777216 : Int) < (t.size : Int)) = false := decide_eq_false (by omega)
  have H3 : Hid (blockR T.l q = false) := by rw [Hid, ← hblk.out]; exact h3
  clear h3
  have D1 : decide (T.room < (usedF L' : Int)) = true := h4
  clear h4
  go_enter Tryz.func79, Tryz.ntmps79
  go_upto_region 4 with (first
    | (go_at_call 46; refine (rpath_call q hq _).mono ?_; rintro e w2 ⟨rfl, hd⟩; rw [HP.out]; have HB2 := Lib.hid (drawn_below hd); clear hd))
  have c1b := (HB2.out.cell (p := ⟨m, 1, none⟩) hlt).trans c1
  have hlt2 := Nat.lt_of_lt_of_le hlt HB2.out.size
  have c2b := (HB2.out.cell (p := ⟨m, 2, none⟩) hlt).trans c2
  have HB0 : Hid (Below w2.heap.size w2 ((w2.alloc (.cells #[.int .i64 kd, .string q, .string s, .int .i64 (T.clock + 1)] 98)).drew)) := (newBelow w2 _).drew
  have HW : Hid (∀ wx v', VF wx (fun k => B k ∨ (((w2.alloc (.cells #[.int .i64 kd, .string q, .string s, .int .i64 (T.clock + 1)] 98)).drew).heap.size ≤ k ∧ k < wx.heap.size)) v' L' → VF wx (fun k => B k ∨ (w2.heap.size ≤ k ∧ k < wx.heap.size)) v' L') :=
    fun wx v' h => Kd.V_mono h fun k hk => hk.imp id fun hk => ⟨Nat.le_trans HB0.out.size hk.1, hk.2⟩
  go_upto_region 5 with (fail)
  go_cut [11] (fun v11 wc => ∃ A1 k1, v11 = .slice A1 L'.length k1 ∧ Hid (L'.length ≤ k1 ∧ WrMid w w2 B L' ⟨kd, q, s, T.clock + 1⟩ (.slice A1 L'.length k1) wc))
  case first =>
    go_region_with (first
      | (go_at_call 41; refine (rafter_call _ B _ T.l (Kd.V_below HT.out.now (HB2.out.trans (HB0.out.mono HB2.out.size))) HO.out.many (fun f hf => Nat.le_trans (HO.out.texts f hf) (by decide)) ⟨kd, q, s, T.clock + 1⟩ HC.out).mono ?_; rw [HLe.out]; rintro e w3 ⟨v3, rfl, hv3, hb3⟩; obtain ⟨A1, k1, rfl⟩ := Kd.V_slice hv3; have HM : Hid (WrMid w w2 B L' ⟨kd, q, s, T.clock + 1⟩ (.slice A1 L'.length k1) w3) := ⟨HW.out _ _ hv3, (hb3.block w2.heap.size (by show w2.heap.size < (w2.alloc _).heap.size; rw [World.size_alloc]; omega)).trans (World.alloc_heap_new w2 _), HB2.out.trans ((HB0.out.trans (hb3.mono HB0.out.size)).mono HB2.out.size)⟩; have HK1 := Lib.hid (Kd.V_reads' hv3).2.1; clear hv3 hb3))
    all_goals
      go_wp2_with fail
      go_meet
      exact ⟨_, _, rfl, HK1.out, HM.out⟩
  case rest =>
    obtain ⟨A1, k1, rfl, hM0⟩ := hcut
    have HM := Lib.hid hM0.out.2
    clear hM0
    go_upto_region 7 with (first
      | (go_at_call 63; refine (rfind_call HM.out.row HL'.out _).mono ?_; rintro e w4 ⟨rfl, hd⟩; rw [HF.out]; have HM4 := Lib.hid (HM.out.step (drawn_below hd)); clear hd))
    obtain ⟨ad, cc, e, hlc, q0, q1, q2⟩ := VF_at HM4.out.row hi
    rw [HLI.out] at q0 q1 q2
    cases e
    have c2d := (HM4.out.below.cell (p := ⟨m, 2, none⟩) hlt).trans c2
    have hlt4 := Nat.lt_of_lt_of_le hlt HM4.out.below.size
    go_upto_region 11 with (first
      | (go_at_call 87; refine (rblocked_call (HT.out.below HM4.out.below).now HL.out _).mono ?_; rintro e w5 ⟨rfl, hd⟩; rw [H3.out]; have HM5 := Lib.hid (HM4.out.step (drawn_below hd)); clear hd))
    have c05 := (HM5.out.below.cell (p := ⟨m, 0, none⟩) hlt).trans (HT.out.c0)
    have hlt5 := Nat.lt_of_lt_of_le hlt HM5.out.below.size
    go_cut [59] (fun v59 wc => v59 = .bool true ∧ Hid (WrMid w w2 B L' ⟨kd, q, s, T.clock + 1⟩ (.slice (some ad) L'.length k1) wc))
    case first =>
      have HM5d := Lib.hid (HM5.out.step (Below.refl _ _).drew)
      have c05d := (HM5d.out.below.cell (p := ⟨m, 0, none⟩) hlt).trans (HT.out.c0)
      first | (go_region_with (first | (go_at_call 62; refine (rused_call HM5d.out.row HL'.out HU'.out).mono ?_; rintro e w6 ⟨rfl, hd⟩; have HM6 := Lib.hid (HM5d.out.step (drawn_below hd)); have c06 := (HM6.out.below.cell (p := ⟨m, 0, none⟩) hlt).trans (HT.out.c0); clear hd))) | fail
      all_goals
        go_wp2_with fail
        go_meet
        exact ⟨rfl, HM6⟩
    case rest =>
      obtain ⟨rfl, HMc⟩ := hcut
      go_wp2_with fail
      go_ret
      exact ⟨rfl, HMc.out.below⟩
set_option maxHeartbeats 4000000 in
set_option maxRecDepth 100000 in
theorem rwr_7 (w : World) (hT : Rf w m T B) (hO : TOK T) (hS : Srt T.l) (hP : Pth T.l) (stays : Bool) (q s : ByteArray) (hq : q.size ≤ 100000) (hs : s.size ≤ 1000000000) (kd : Int) (hkd : kd = if stays = true then 2 else 1) (h1 : pathV q = true) (h2 : ¬ 16777216 < sizeT T stays q s) (h3 : blockT T.l q ⟨#[]⟩ = false) (h4 : decide (T.room < (usedF (afterF T.l (writeC T stays q s)) : Int)) = false) (h5 : decide ((200 : Int) < ((afterF T.l (writeC T stays q s)).length : Int)) = true) :
    Calls Tryz.prog 79 #[.pointer (some ⟨m, 0, none⟩), .int .i64 kd, .string q, .string s] w fun e w' => e = .returned (.int .i64 6) ∧ Below w.heap.size w w' := by
  have HX := Lib.hid hT
  have HO := Lib.hid hO
  have HP := Lib.hid h1
  have HL := Lib.hid (Nat.le_trans hO.many (by decide : 100000 ≤ 1000000))
  have hroom := hO.room
  have hclock := hO.clock
  have hc : CgOK ⟨kd, q, s, T.clock + 1⟩ := ⟨by cases stays <;> subst hkd <;> first | exact .inl rfl | exact .inr (.inl rfl), hq, hs, fun e => by cases stays <;> subst hkd <;> simp at e⟩
  have HC := Lib.hid hc
  obtain ⟨t, ht, hts⟩ := write_after T stays q s
  have hcw : writeC T stays q s = ⟨kd, q, s, T.clock + 1⟩ := by unfold writeC; rw [← hkd]
  rw [hcw] at ht
  have hhad : hadT T q ≤ 1000000000 := by
    unfold hadT textF
    cases e : findF T.l q with
    | none => exact Nat.zero_le _
    | some f => exact hO.texts f (mem_of_find e)
  have htz : t.size ≤ 2000000000 := by
    rw [hts]
    unfold sizeT
    cases stays
    · exact Nat.le_trans hs (by decide)
    · show s.size + hadT T q ≤ _
      omega
  obtain ⟨hu1, hu2⟩ := put_used hS ⟨q, t, T.clock + 1⟩
  have hfind := find_put hS ⟨q, t, T.clock + 1⟩
  have hfull := full_eq hS stays q s
  rw [hcw, ht] at hfull
  have HT' := Lib.hid ht
  obtain ⟨L', hL'⟩ : ∃ L', L' = putF T.l ⟨q, t, T.clock + 1⟩ := ⟨_, rfl⟩
  rw [← hL'] at hu1 hu2 hfind hfull ht
  have HLe := Lib.hid ht
  have HLw : Hid (afterF T.l (writeC T stays q s) = L') := by rw [Hid, hcw]; exact ht
  have hlen' : L'.length ≤ 1000000 := by have := hO.many; split at hu2 <;> omega
  have husd : usedF L' ≤ 10000000000000000 := by have := hO.used; have h2 : (⟨q, t, T.clock + 1⟩ : Fl).f1.size = t.size := rfl; omega
  have HL' := Lib.hid hlen'
  have HU' := Lib.hid husd
  obtain ⟨i, hi, hfi, hli⟩ := findI_some hfind
  have HF := Lib.hid hfi
  have HLI := Lib.hid hli
  obtain ⟨vl, vs, vc, h⟩ := hT
  have HT := Lib.hid h
  have hlt := h.lt
  have c1 := h.c1
  have c2 := h.c2
  have hblk := Lib.hid (block_eq hP q)
  clear h hO hS hP h1 hkd hc hcw hL' hu1 hu2 hfind ht hfi hli husd hlen'
  rw [show afterF T.l (writeC T stays q s) = L' from HLw.out] at h4 h5
  have D3 : decide ((16777216 : Int) < (t.size : Int)) = false := decide_eq_false (by omega)
  have H3 : Hid (blockR T.l q = false) := by rw [Hid, ← hblk.out]; exact h3
  clear h3
  have D1 : decide (T.room < (usedF L' : Int)) = false := h4
  have D2 : decide ((200 : Int) < (L'.length : Int)) = true := h5
  clear h4 h5
  go_enter Tryz.func79, Tryz.ntmps79
  go_upto_region 4 with (first
    | (go_at_call 46; refine (rpath_call q hq _).mono ?_; rintro e w2 ⟨rfl, hd⟩; rw [HP.out]; have HB2 := Lib.hid (drawn_below hd); clear hd))
  have c1b := (HB2.out.cell (p := ⟨m, 1, none⟩) hlt).trans c1
  have hlt2 := Nat.lt_of_lt_of_le hlt HB2.out.size
  have c2b := (HB2.out.cell (p := ⟨m, 2, none⟩) hlt).trans c2
  have HB0 : Hid (Below w2.heap.size w2 ((w2.alloc (.cells #[.int .i64 kd, .string q, .string s, .int .i64 (T.clock + 1)] 98)).drew)) := (newBelow w2 _).drew
  have HW : Hid (∀ wx v', VF wx (fun k => B k ∨ (((w2.alloc (.cells #[.int .i64 kd, .string q, .string s, .int .i64 (T.clock + 1)] 98)).drew).heap.size ≤ k ∧ k < wx.heap.size)) v' L' → VF wx (fun k => B k ∨ (w2.heap.size ≤ k ∧ k < wx.heap.size)) v' L') :=
    fun wx v' h => Kd.V_mono h fun k hk => hk.imp id fun hk => ⟨Nat.le_trans HB0.out.size hk.1, hk.2⟩
  go_upto_region 5 with (fail)
  go_cut [11] (fun v11 wc => ∃ A1 k1, v11 = .slice A1 L'.length k1 ∧ Hid (L'.length ≤ k1 ∧ WrMid w w2 B L' ⟨kd, q, s, T.clock + 1⟩ (.slice A1 L'.length k1) wc))
  case first =>
    go_region_with (first
      | (go_at_call 41; refine (rafter_call _ B _ T.l (Kd.V_below HT.out.now (HB2.out.trans (HB0.out.mono HB2.out.size))) HO.out.many (fun f hf => Nat.le_trans (HO.out.texts f hf) (by decide)) ⟨kd, q, s, T.clock + 1⟩ HC.out).mono ?_; rw [HLe.out]; rintro e w3 ⟨v3, rfl, hv3, hb3⟩; obtain ⟨A1, k1, rfl⟩ := Kd.V_slice hv3; have HM : Hid (WrMid w w2 B L' ⟨kd, q, s, T.clock + 1⟩ (.slice A1 L'.length k1) w3) := ⟨HW.out _ _ hv3, (hb3.block w2.heap.size (by show w2.heap.size < (w2.alloc _).heap.size; rw [World.size_alloc]; omega)).trans (World.alloc_heap_new w2 _), HB2.out.trans ((HB0.out.trans (hb3.mono HB0.out.size)).mono HB2.out.size)⟩; have HK1 := Lib.hid (Kd.V_reads' hv3).2.1; clear hv3 hb3))
    all_goals
      go_wp2_with fail
      go_meet
      exact ⟨_, _, rfl, HK1.out, HM.out⟩
  case rest =>
    obtain ⟨A1, k1, rfl, hM0⟩ := hcut
    have HM := Lib.hid hM0.out.2
    clear hM0
    go_upto_region 7 with (first
      | (go_at_call 63; refine (rfind_call HM.out.row HL'.out _).mono ?_; rintro e w4 ⟨rfl, hd⟩; rw [HF.out]; have HM4 := Lib.hid (HM.out.step (drawn_below hd)); clear hd))
    obtain ⟨ad, cc, e, hlc, q0, q1, q2⟩ := VF_at HM4.out.row hi
    rw [HLI.out] at q0 q1 q2
    cases e
    have c2d := (HM4.out.below.cell (p := ⟨m, 2, none⟩) hlt).trans c2
    have hlt4 := Nat.lt_of_lt_of_le hlt HM4.out.below.size
    go_upto_region 11 with (first
      | (go_at_call 87; refine (rblocked_call (HT.out.below HM4.out.below).now HL.out _).mono ?_; rintro e w5 ⟨rfl, hd⟩; rw [H3.out]; have HM5 := Lib.hid (HM4.out.step (drawn_below hd)); clear hd))
    have c05 := (HM5.out.below.cell (p := ⟨m, 0, none⟩) hlt).trans (HT.out.c0)
    have hlt5 := Nat.lt_of_lt_of_le hlt HM5.out.below.size
    go_cut [59] (fun v59 wc => v59 = .bool true ∧ Hid (WrMid w w2 B L' ⟨kd, q, s, T.clock + 1⟩ (.slice (some ad) L'.length k1) wc))
    case first =>
      have HM5d := Lib.hid (HM5.out.step (Below.refl _ _).drew)
      have c05d := (HM5d.out.below.cell (p := ⟨m, 0, none⟩) hlt).trans (HT.out.c0)
      first | (go_region_held3 (fun w' => w'.cell? ⟨m, 0, none⟩ = some (.int .i64 T.room) ∧ Hid (WrMid w w2 B L' ⟨kd, q, s, T.clock + 1⟩ (.slice (some ad) L'.length k1) w')) (first | exact ⟨c05d, HM5d⟩ | exact ⟨c06, HM6⟩) (first | (go_at_call 62; refine (rused_call HM5d.out.row HL'.out HU'.out).mono ?_; rintro e w6 ⟨rfl, hd⟩; have HM6 := Lib.hid (HM5d.out.step (drawn_below hd)); have c06 := (HM6.out.below.cell (p := ⟨m, 0, none⟩) hlt).trans (HT.out.c0); clear hd))) | fail
      all_goals
        go_wp2_with fail
        go_meet
        exact ⟨rfl, HM6⟩
    case rest =>
      obtain ⟨rfl, HMc⟩ := hcut
      go_wp2_with fail
      go_ret
      exact ⟨rfl, HMc.out.below⟩
set_option maxHeartbeats 4000000 in
set_option maxRecDepth 100000 in
theorem rwr_0 (w : World) (hT : Rf w m T B) (hO : TOK T) (hS : Srt T.l) (hP : Pth T.l) (stays : Bool) (q s : ByteArray) (hq : q.size ≤ 100000) (hs : s.size ≤ 1000000000) (kd : Int) (hkd : kd = if stays = true then 2 else 1) (h1 : pathV q = true) (h2 : ¬ 16777216 < sizeT T stays q s) (h3 : blockT T.l q ⟨#[]⟩ = false) (h4 : decide (T.room < (usedF (afterF T.l (writeC T stays q s)) : Int)) = false) (h5 : decide ((200 : Int) < ((afterF T.l (writeC T stays q s)).length : Int)) = false) :
    Calls Tryz.prog 79 #[.pointer (some ⟨m, 0, none⟩), .int .i64 kd, .string q, .string s] w fun e w' => e = .returned (.int .i64 0) ∧ RfEnd w m B (doneT T ⟨kd, q, s, T.clock + 1⟩) w' := by
  have HX := Lib.hid hT
  have HO := Lib.hid hO
  have HP := Lib.hid h1
  have HL := Lib.hid (Nat.le_trans hO.many (by decide : 100000 ≤ 1000000))
  have hroom := hO.room
  have hclock := hO.clock
  have hc : CgOK ⟨kd, q, s, T.clock + 1⟩ := ⟨by cases stays <;> subst hkd <;> first | exact .inl rfl | exact .inr (.inl rfl), hq, hs, fun e => by cases stays <;> subst hkd <;> simp at e⟩
  have HC := Lib.hid hc
  obtain ⟨t, ht, hts⟩ := write_after T stays q s
  have hcw : writeC T stays q s = ⟨kd, q, s, T.clock + 1⟩ := by unfold writeC; rw [← hkd]
  rw [hcw] at ht
  have hhad : hadT T q ≤ 1000000000 := by
    unfold hadT textF
    cases e : findF T.l q with
    | none => exact Nat.zero_le _
    | some f => exact hO.texts f (mem_of_find e)
  have htz : t.size ≤ 2000000000 := by
    rw [hts]
    unfold sizeT
    cases stays
    · exact Nat.le_trans hs (by decide)
    · show s.size + hadT T q ≤ _
      omega
  obtain ⟨hu1, hu2⟩ := put_used hS ⟨q, t, T.clock + 1⟩
  have hfind := find_put hS ⟨q, t, T.clock + 1⟩
  have hfull := full_eq hS stays q s
  rw [hcw, ht] at hfull
  have HT' := Lib.hid ht
  obtain ⟨L', hL'⟩ : ∃ L', L' = putF T.l ⟨q, t, T.clock + 1⟩ := ⟨_, rfl⟩
  rw [← hL'] at hu1 hu2 hfind hfull ht
  have HLe := Lib.hid ht
  have HLw : Hid (afterF T.l (writeC T stays q s) = L') := by rw [Hid, hcw]; exact ht
  have hlen' : L'.length ≤ 1000000 := by have := hO.many; split at hu2 <;> omega
  have husd : usedF L' ≤ 10000000000000000 := by have := hO.used; have h2 : (⟨q, t, T.clock + 1⟩ : Fl).f1.size = t.size := rfl; omega
  have HL' := Lib.hid hlen'
  have HU' := Lib.hid husd
  obtain ⟨i, hi, hfi, hli⟩ := findI_some hfind
  have HF := Lib.hid hfi
  have HLI := Lib.hid hli
  obtain ⟨vl, vs, vc, h⟩ := hT
  have HT := Lib.hid h
  have hlt := h.lt
  have c1 := h.c1
  have c2 := h.c2
  have hblk := Lib.hid (block_eq hP q)
  clear h hO hS hP h1 hkd hc hcw hL' hu1 hu2 hfind ht hfi hli husd hlen'
  rw [show afterF T.l (writeC T stays q s) = L' from HLw.out] at h4 h5
  have D3 : decide ((16777216 : Int) < (t.size : Int)) = false := decide_eq_false (by omega)
  have H3 : Hid (blockR T.l q = false) := by rw [Hid, ← hblk.out]; exact h3
  clear h3
  have D1 : decide (T.room < (usedF L' : Int)) = false := h4
  have D2 : decide ((200 : Int) < (L'.length : Int)) = false := h5
  clear h4 h5
  go_enter Tryz.func79, Tryz.ntmps79
  go_upto_region 4 with (first
    | (go_at_call 46; refine (rpath_call q hq _).mono ?_; rintro e w2 ⟨rfl, hd⟩; rw [HP.out]; have HB2 := Lib.hid (drawn_below hd); clear hd))
  have c1b := (HB2.out.cell (p := ⟨m, 1, none⟩) hlt).trans c1
  have hlt2 := Nat.lt_of_lt_of_le hlt HB2.out.size
  have c2b := (HB2.out.cell (p := ⟨m, 2, none⟩) hlt).trans c2
  have HB0 : Hid (Below w2.heap.size w2 ((w2.alloc (.cells #[.int .i64 kd, .string q, .string s, .int .i64 (T.clock + 1)] 98)).drew)) := (newBelow w2 _).drew
  have HW : Hid (∀ wx v', VF wx (fun k => B k ∨ (((w2.alloc (.cells #[.int .i64 kd, .string q, .string s, .int .i64 (T.clock + 1)] 98)).drew).heap.size ≤ k ∧ k < wx.heap.size)) v' L' → VF wx (fun k => B k ∨ (w2.heap.size ≤ k ∧ k < wx.heap.size)) v' L') :=
    fun wx v' h => Kd.V_mono h fun k hk => hk.imp id fun hk => ⟨Nat.le_trans HB0.out.size hk.1, hk.2⟩
  go_upto_region 5 with (fail)
  go_cut [11] (fun v11 wc => ∃ A1 k1, v11 = .slice A1 L'.length k1 ∧ Hid (L'.length ≤ k1 ∧ WrMid w w2 B L' ⟨kd, q, s, T.clock + 1⟩ (.slice A1 L'.length k1) wc))
  case first =>
    go_region_with (first
      | (go_at_call 41; refine (rafter_call _ B _ T.l (Kd.V_below HT.out.now (HB2.out.trans (HB0.out.mono HB2.out.size))) HO.out.many (fun f hf => Nat.le_trans (HO.out.texts f hf) (by decide)) ⟨kd, q, s, T.clock + 1⟩ HC.out).mono ?_; rw [HLe.out]; rintro e w3 ⟨v3, rfl, hv3, hb3⟩; obtain ⟨A1, k1, rfl⟩ := Kd.V_slice hv3; have HM : Hid (WrMid w w2 B L' ⟨kd, q, s, T.clock + 1⟩ (.slice A1 L'.length k1) w3) := ⟨HW.out _ _ hv3, (hb3.block w2.heap.size (by show w2.heap.size < (w2.alloc _).heap.size; rw [World.size_alloc]; omega)).trans (World.alloc_heap_new w2 _), HB2.out.trans ((HB0.out.trans (hb3.mono HB0.out.size)).mono HB2.out.size)⟩; have HK1 := Lib.hid (Kd.V_reads' hv3).2.1; clear hv3 hb3))
    all_goals
      go_wp2_with fail
      go_meet
      exact ⟨_, _, rfl, HK1.out, HM.out⟩
  case rest =>
    obtain ⟨A1, k1, rfl, hM0⟩ := hcut
    have HM := Lib.hid hM0.out.2
    clear hM0
    go_upto_region 7 with (first
      | (go_at_call 63; refine (rfind_call HM.out.row HL'.out _).mono ?_; rintro e w4 ⟨rfl, hd⟩; rw [HF.out]; have HM4 := Lib.hid (HM.out.step (drawn_below hd)); clear hd))
    obtain ⟨ad, cc, e, hlc, q0, q1, q2⟩ := VF_at HM4.out.row hi
    rw [HLI.out] at q0 q1 q2
    cases e
    have c2d := (HM4.out.below.cell (p := ⟨m, 2, none⟩) hlt).trans c2
    have hlt4 := Nat.lt_of_lt_of_le hlt HM4.out.below.size
    go_upto_region 11 with (first
      | (go_at_call 87; refine (rblocked_call (HT.out.below HM4.out.below).now HL.out _).mono ?_; rintro e w5 ⟨rfl, hd⟩; rw [H3.out]; have HM5 := Lib.hid (HM4.out.step (drawn_below hd)); clear hd))
    have c05 := (HM5.out.below.cell (p := ⟨m, 0, none⟩) hlt).trans (HT.out.c0)
    have hlt5 := Nat.lt_of_lt_of_le hlt HM5.out.below.size
    go_cut [59] (fun v59 wc => v59 = .bool false ∧ Hid (WrMid w w2 B L' ⟨kd, q, s, T.clock + 1⟩ (.slice (some ad) L'.length k1) wc))
    case first =>
      have HM5d := Lib.hid (HM5.out.step (Below.refl _ _).drew)
      have c05d := (HM5d.out.below.cell (p := ⟨m, 0, none⟩) hlt).trans (HT.out.c0)
      first | (go_region_held3 (fun w' => w'.cell? ⟨m, 0, none⟩ = some (.int .i64 T.room) ∧ Hid (WrMid w w2 B L' ⟨kd, q, s, T.clock + 1⟩ (.slice (some ad) L'.length k1) w')) (first | exact ⟨c05d, HM5d⟩ | exact ⟨c06, HM6⟩) (first | (go_at_call 62; refine (rused_call HM5d.out.row HL'.out HU'.out).mono ?_; rintro e w6 ⟨rfl, hd⟩; have HM6 := Lib.hid (HM5d.out.step (drawn_below hd)); have c06 := (HM6.out.below.cell (p := ⟨m, 0, none⟩) hlt).trans (HT.out.c0); clear hd))) | fail
      all_goals
        go_wp2_with fail
        go_meet
        exact ⟨rfl, HM6⟩
    case rest =>
      obtain ⟨rfl, HMc⟩ := hcut
      have b0 : wc.cell? ⟨w2.heap.size, 0, none⟩ = some (.int .i64 kd) := by simp [World.cell?, HMc.out.box]
      have b1 : wc.cell? ⟨w2.heap.size, 1, none⟩ = some (.string q) := by simp [World.cell?, HMc.out.box]
      have b2 : wc.cell? ⟨w2.heap.size, 2, none⟩ = some (.string s) := by simp [World.cell?, HMc.out.box]
      have b3 : wc.cell? ⟨w2.heap.size, 3, none⟩ = some (.int .i64 (T.clock + 1)) := by simp [World.cell?, HMc.out.box]
      have HD : Hid (∀ W, Rf W m T B → Calls Tryz.prog 84 #[.pointer (some ⟨m, 0, none⟩), .agg #[.int .i64 kd, .string q, .string s, .int .i64 (T.clock + 1)]] W fun e w' => e = .returned (.tuple #[]) ∧ RfEnd W m B (doneT T ⟨kd, q, s, T.clock + 1⟩) w') := fun W hW =>
        rchange_call W hW ⟨kd, q, s, T.clock + 1⟩ HC.out HO.out.many (fun f hf => Nat.le_trans (HO.out.texts f hf) (by decide)) HO.out.clock HO.out.chs
      go_wp2_with (first
        | (go_at_call 84; refine (HD.out _ (HX.out.below HMc.out.below)).mono ?_; rintro e w7 ⟨rfl, he⟩; have HE := Lib.hid he; clear he))
      go_ret
      exact ⟨rfl, HE.out.left HMc.out.below⟩
end
end Go.Proofs.YtghbaehbgefpaaaGreatDoor.Fr
