import Derived.Test.YtghbaehbgefpaaaGreatDoorQ29
/- Several texts of this session in one: the walks of the functions that the laws reach, and what they tell. -/
set_option linter.unusedVariables false
set_option linter.unusedSimpArgs false
namespace Go.Proofs.YtghbaehbgefpaaaGreatDoor.Fr
open Go.RowKit Go.Proofs.YtghbaehbgefpaaaGreatDoor.F Go.Proofs.YtghbaehbgefpaaaGreatDoorW.PrintWords
section
variable {m : Nat} {T : TS} {B : Nat → Prop}
theorem rwrite_call (w : World) (hT : Rf w m T B) (hO : TOK T) (hS : Srt T.l) (hP : Pth T.l) (stays : Bool) (q s : ByteArray) (hq : q.size ≤ 100000) (hs : s.size ≤ 1000000000) (kd : Int) (hkd : kd = if stays = true then 2 else 1) :
    Calls Tryz.prog 79 #[.pointer (some ⟨m, 0, none⟩), .int .i64 kd, .string q, .string s] w fun e w' => e = .returned (.int .i64 (writeE T stays q s)) ∧ RfEnd w m B (writeT T stays q s) w' := by
  have hne : ∀ n : Int, n ≠ 0 → writeE T stays q s = n → (∀ (e : Ending) (w' : World), (e = .returned (.int .i64 n) ∧ Below w.heap.size w w') → e = .returned (.int .i64 (writeE T stays q s)) ∧ RfEnd w m B (writeT T stays q s) w') := by
    rintro n hn he e w' ⟨rfl, hb⟩
    rw [he]
    refine ⟨rfl, ?_⟩
    unfold writeT
    rw [if_neg (by rw [he]; exact hn)]
    exact RfEnd.same hT hb
  cases h1 : pathV q with
  | false => exact (rwr_1 w hT hO hS hP stays q s hq hs kd hkd h1).mono (hne 1 (by decide) (by unfold writeE; rw [h1]; rfl))
  | true =>
    by_cases h2 : 16777216 < sizeT T stays q s
    · exact (rwr_3 w hT hO hS hP stays q s hq hs kd hkd h1 h2).mono (hne 3 (by decide) (by unfold writeE; rw [h1]; exact if_pos h2))
    · cases h3 : blockT T.l q ⟨#[]⟩ with
      | true => exact (rwr_5 w hT hO hS hP stays q s hq hs kd hkd h1 h2 h3).mono (hne 5 (by decide) (by unfold writeE; rw [h1, h3]; exact (if_neg h2).trans rfl))
      | false =>
        have hf := full_eq hS stays q s
        cases h4 : decide (T.room < (usedF (afterF T.l (writeC T stays q s)) : Int)) with
        | true =>
          rw [h4] at hf
          exact (rwr_6 w hT hO hS hP stays q s hq hs kd hkd h1 h2 h3 h4).mono (hne 6 (by decide) (by unfold writeE; rw [h1, h3, hf]; exact (if_neg h2).trans rfl))
        | false =>
          cases h5 : decide ((200 : Int) < ((afterF T.l (writeC T stays q s)).length : Int)) with
          | true =>
            have h5' : decide (200 < (afterF T.l (writeC T stays q s)).length) = true := by rw [decide_eq_true_eq] at h5 ⊢; omega
            rw [h4, h5'] at hf
            exact (rwr_7 w hT hO hS hP stays q s hq hs kd hkd h1 h2 h3 h4 h5).mono (hne 6 (by decide) (by unfold writeE; rw [h1, h3, hf]; exact (if_neg h2).trans rfl))
          | false =>
            have h5' : decide (200 < (afterF T.l (writeC T stays q s)).length) = false := by rw [decide_eq_false_iff_not] at h5 ⊢; omega
            rw [h4, h5'] at hf
            have he : writeE T stays q s = 0 := by unfold writeE; rw [h1, h3, hf]; exact (if_neg h2).trans rfl
            have ht : writeT T stays q s = doneT T ⟨kd, q, s, T.clock + 1⟩ := by
              unfold writeT
              rw [if_pos he]
              unfold writeC
              rw [← hkd]
            rw [he, ht]
            exact rwr_0 w hT hO hS hP stays q s hq hs kd hkd h1 h2 h3 h4 h5
set_option maxHeartbeats 1000000 in
set_option maxRecDepth 100000 in
theorem rWrite_call (w : World) (hT : Rf w m T B) (hO : TOK T) (hS : Srt T.l) (hP : Pth T.l) (q s : ByteArray) (hq : q.size ≤ 100000) (hs : s.size ≤ 1000000000) :
    Calls Tryz.prog 58 #[.pointer (some ⟨m, 0, none⟩), .string q, .string s] w fun e w' => e = .returned (.int .i64 (writeE T false q s)) ∧ RfEnd w m B (writeT T false q s) w' := by
  have H := Lib.hid (rwrite_call w hT hO hS hP false q s hq hs 1 rfl)
  clear hT hO hS hP
  go_enter Tryz.func58, Tryz.ntmps58
  go_wp2_with (first | (go_at_call 79; refine H.out.mono ?_; rintro e w' ⟨rfl, h⟩; have HE := Lib.hid h; clear h))
  go_ret
  exact ⟨rfl, HE.out⟩
set_option maxHeartbeats 1000000 in
set_option maxRecDepth 100000 in
theorem rAppend_call (w : World) (hT : Rf w m T B) (hO : TOK T) (hS : Srt T.l) (hP : Pth T.l) (q s : ByteArray) (hq : q.size ≤ 100000) (hs : s.size ≤ 1000000000) :
    Calls Tryz.prog 48 #[.pointer (some ⟨m, 0, none⟩), .string q, .string s] w fun e w' => e = .returned (.int .i64 (writeE T true q s)) ∧ RfEnd w m B (writeT T true q s) w' := by
  have H := Lib.hid (rwrite_call w hT hO hS hP true q s hq hs 2 rfl)
  clear hT hO hS hP
  go_enter Tryz.func48, Tryz.ntmps48
  go_wp2_with (first | (go_at_call 79; refine H.out.mono ?_; rintro e w' ⟨rfl, h⟩; have HE := Lib.hid h; clear h))
  go_ret
  exact ⟨rfl, HE.out⟩
end
def RNewEnd (w : World) (T : TS) (e : Ending) (w' : World) : Prop :=
  ∃ m B, e = .returned (.tuple #[.pointer (some ⟨m, 0, none⟩), .int .i64 0]) ∧ Rf w' m T B ∧ Below w.heap.size w w' ∧ w.heap.size ≤ m ∧ ∀ k, B k → w.heap.size ≤ k
theorem rnew_end (w : World) (room : Int) : RNewEnd w (newT room) (.returned (.tuple #[.pointer (some ⟨w.heap.size, 0, none⟩), .int .i64 0])) (w.alloc (.cells #[.int .i64 room, .int .i64 0, .slice none 0 0, .slice none 0 0, .slice none 0 0] 87)) :=
  ⟨w.heap.size, fun _ => False, rfl, ⟨.slice none 0 0, .slice none 0 0, .slice none 0 0, {
    at_ := World.alloc_heap_new w _
    now := Kd.V_nil _ _ _ _ _
    last := Kd.V_nil _ _ _ _ _
    row := Kd.V_nil _ _ _ _ _
    nil := fun _ => rfl
    free := fun k hk => hk.elim }⟩, newBelow w _, Nat.le_refl _, fun k hk => hk.elim⟩
set_option maxHeartbeats 1000000 in
set_option maxRecDepth 100000 in
theorem rNew_call (w : World) (room : Int) (h1 : 1 ≤ room) (h2 : room ≤ 1073741824) : Calls Tryz.prog 28 #[.int .i64 room] w (RNewEnd w (newT room)) := by
  have H := Lib.hid (rnew_end w room)
  have d1 : decide (room < 1) = false := decide_eq_false (by omega)
  have d2 : decide (1073741824 < room) = false := decide_eq_false (by omega)
  go_enter Tryz.func28, Tryz.ntmps28
  go_wp2
  go_ret2
  exact H.out
theorem VC_get {w : World} {B : Nat → Prop} {v : Value} {l : List Cg} (h : VC w B v l) {i : Nat} (hi : i < l.length) :
    ∃ ad c, v = .slice (some ad) l.length c ∧ l.length ≤ c ∧ w.cell? (ad.add (i * 4)) = some (.int .i64 l[i].f0) ∧ w.cell? ⟨(ad.add (i * 4)).block, (ad.add (i * 4)).off + 1, none⟩ = some (.string l[i].f1) ∧ w.cell? ⟨(ad.add (i * 4)).block, (ad.add (i * 4)).off + 2, none⟩ = some (.string l[i].f2) ∧ w.cell? ⟨(ad.add (i * 4)).block, (ad.add (i * 4)).off + 3, none⟩ = some (.int .i64 l[i].f3) := by
  obtain ⟨ad, c, e, hc, hcell⟩ := VC_at h (by omega)
  have hc4 : ∀ j u, j < 4 → (cgCells l[i])[j]? = some u → w.cell? (ad.add (i * 4 + j)) = some u := fun j u hj hu => hcell _ _ (by rw [cgCells_at l i hi j hj]; exact hu)
  exact ⟨ad, c, e, hc, hc4 0 _ (by decide) rfl, by rw [← add_field _ _ 1 (by omega)]; exact hc4 1 _ (by decide) rfl, by rw [← add_field _ _ 2 (by omega)]; exact hc4 2 _ (by decide) rfl, by rw [← add_field _ _ 3 (by omega)]; exact hc4 3 _ (by decide) rfl⟩
theorem rcrash_end {w W : World} {m : Nat} {T : TS} {B : Nat → Prop} {L' : List Fl} {vl vs vc u : Value} (h : RfAt w m T B vl vs vc) (hb : Below w.heap.size w W) (hv : VF W (fun q => B q ∨ (w.heap.size ≤ q ∧ q < W.heap.size)) u L') :
    RfEnd w m B (syncT { T with l := L' }) (((W.setCell ⟨m, 2, none⟩ u).setCell ⟨m, 3, none⟩ u).setCell ⟨m, 4, none⟩ (.slice none 0 0)) := by
  have hlt := h.lt
  have hat := (hb.block m hlt).trans h.at_
  have h2 := heap_setCell_same W m 2 _ _ u hat
  have h3 := heap_setCell_same _ m 3 _ _ u h2
  have h4 := heap_setCell_same _ m 4 _ _ (.slice none 0 0) h3
  have hCW : Chg (fun k => k = m) W (((W.setCell ⟨m, 2, none⟩ u).setCell ⟨m, 3, none⟩ u).setCell ⟨m, 4, none⟩ (.slice none 0 0)) := (((Chg.refl (fun k => k = m) W).setCell (p := ⟨m, 2, none⟩) (fun _ => rfl) _).setCell (p := ⟨m, 3, none⟩) (fun _ => rfl) _).setCell (p := ⟨m, 4, none⟩) (fun _ => rfl) _
  have hne : ∀ q, (B q ∨ (w.heap.size ≤ q ∧ q < W.heap.size)) → q < W.heap.size ∧ q ≠ m := by
    rintro q (hq | hq)
    · exact ⟨Nat.lt_of_lt_of_le (h.free q hq).1 hb.size, (h.free q hq).2⟩
    · exact ⟨hq.2, by have := hq.1; omega⟩
  have hv' : VF (((W.setCell ⟨m, 2, none⟩ u).setCell ⟨m, 3, none⟩ u).setCell ⟨m, 4, none⟩ (.slice none 0 0)) (fun q => B q ∨ (w.heap.size ≤ q ∧ q < W.heap.size)) u L' := Kd.V_step hv fun k hk hl => hCW.block k hl (hne k hk).2
  refine ⟨fun q => B q ∨ (w.heap.size ≤ q ∧ q < W.heap.size), ⟨u, u, .slice none 0 0, ?_⟩, (Chg.of_below hb _).trans hCW fun _ _ e => e, fun k hk => hk.imp id fun e => e.1⟩
  exact {
    at_ := by rw [h4]; simp [syncT]
    now := hv'
    last := hv'
    row := Kd.V_nil _ _ _ _ _
    nil := fun _ => rfl
    free := fun k hk => ⟨Nat.lt_of_lt_of_le (hne k hk).1 hCW.size, (hne k hk).2⟩ }
section
variable {m : Nat} {T : TS} {B : Nat → Prop}
set_option maxHeartbeats 4000000 in
set_option maxRecDepth 100000 in
theorem rCrash_call (w : World) (hT : Rf w m T B) (many part : Int) (hn : T.ch.length ≤ 1000000) (hcs : ∀ c ∈ T.ch, CgOK c)
    (hL : ∀ k, k ≤ T.ch.length → (foldF T.last (T.ch.take k)).length ≤ 100000 ∧ ∀ f ∈ foldF T.last (T.ch.take k), f.f1.size ≤ 1000000000000) :
    Calls Tryz.prog 22 #[.pointer (some ⟨m, 0, none⟩), .int .i64 many, .int .i64 part] w fun e w' => e = .returned (.tuple #[]) ∧ RfEnd w m B (crashT T many part) w' := by
  obtain ⟨vl, vs, vc, h⟩ := hT
  obtain ⟨av, cv, rfl⟩ := Kd.V_slice h.row
  have hcap := (Kd.V_reads' h.row).2.1
  have HT := Lib.hid h
  have HL := Lib.hid hL
  have HCS := Lib.hid hcs
  have c3 := h.c3
  have c4 := h.c4
  have hlt := h.lt
  clear h hL hcs
  obtain ⟨K, hK⟩ : ∃ K, K = keptN many T.ch.length := ⟨_, rfl⟩
  have hKn : K ≤ T.ch.length := by rw [hK]; unfold keptN; omega
  have hKI : (max 0 (min many (T.ch.length : Int)) : Int) = K := by rw [hK]; unfold keptN; omega
  have HK := Lib.hid hK
  clear hK
  have HEnd : Hid (∀ W v7 L', Below w.heap.size w W → VF W (fun q => B q ∨ (w.heap.size ≤ q ∧ q < W.heap.size)) v7 L' → RfEnd w m B (syncT { T with l := L' }) (((W.setCell ⟨m, 2, none⟩ v7).setCell ⟨m, 3, none⟩ v7).setCell ⟨m, 4, none⟩ (.slice none 0 0))) := fun W v7 L' h1 h2 => rcrash_end HT.out h1 h2
  go_enter Tryz.func22, Tryz.ntmps22
  go_wp2_with fail
  go_loopw [7, 8] (fun v7 i wr => ∃ (k : Nat), k ≤ K ∧ i = .int .i64 k ∧ Hid (VF wr (fun q => B q ∨ (w.heap.size ≤ q ∧ q < wr.heap.size)) v7 (foldF T.last (T.ch.take k))) ∧ Hid (Below w.heap.size w wr))
    (fun v7 i _ => K - (intOf i).toNat)
  case atStart => exact ⟨0, Nat.zero_le _, rfl, Kd.V_mono HT.out.last fun k hk => .inl hk, Below.refl _ _⟩
  case round =>
    obtain ⟨k, hk, rfl, HV, HB⟩ := hrel
    have hat := (HB.out.block m hlt).trans HT.out.at_
    have d4 : wr.cell? ⟨m, 4, none⟩ = some (.slice av T.ch.length cv) := by simp [World.cell?, hat]
    have g2 : wr.frozen? ⟨m, 2, none⟩ = false := by simp [World.frozen?, hat]
    have g3 : wr.frozen? ⟨m, 3, none⟩ = false := by simp [World.frozen?, hat]
    have g4 : wr.frozen? ⟨m, 4, none⟩ = false := by simp [World.frozen?, hat]
    have d2 : wr.cell? ⟨m, 2, none⟩ = some vl := by simp [World.cell?, hat]
    have d3 : wr.cell? ⟨m, 3, none⟩ = some vs := by simp [World.cell?, hat]
    have hmw := Nat.lt_of_lt_of_le hlt HB.out.size
    have hrow : VC wr B (.slice av T.ch.length cv) T.ch := (HT.out.below HB.out).row
    clear hat
    by_cases hlk : k < K
    · have hkn : k < T.ch.length := by omega
      obtain ⟨ad, cc, e, hcc, q0, q1, q2, q3⟩ := VC_get hrow hkn
      have hst := Lib.hid (foldF_succ T.last T.ch k hkn)
      have hok := Lib.hid (HCS.out _ (List.getElem_mem hkn))
      have hlk' := Lib.hid (HL.out k (by omega))
      have HW : Hid (∀ wx v' r, VF wx (fun q => (B q ∨ (w.heap.size ≤ q ∧ q < wr.heap.size)) ∨ (wr.heap.size ≤ q ∧ q < wx.heap.size)) v' r → wr.heap.size ≤ wx.heap.size → VF wx (fun q => B q ∨ (w.heap.size ≤ q ∧ q < wx.heap.size)) v' r) := fun wx v' r h hs => Kd.V_mono h fun q hq => by
        have := HB.out.size
        rcases hq with (hq | hq) | hq
        · exact .inl hq
        · exact .inr ⟨hq.1, by omega⟩
        · exact .inr ⟨by omega, hq.2⟩
      clear hrow
      cases e
      generalize T.ch[k] = c at q0 q1 q2 q3 hst hok
      obtain ⟨ck, cq, cs, ct⟩ := c
      go_wp2_with (first
        | (go_at_call 41; refine (rafter_call _ _ _ _ HV.out hlk'.out.1 hlk'.out.2 ⟨ck, cq, cs, ct⟩ hok.out).mono ?_; rintro e w3 ⟨v3, rfl, hv3, hb3⟩; have HV3 := Lib.hid (HW.out _ _ _ hv3 hb3.size); have HB3 := Lib.hid (HB.out.trans (hb3.mono HB.out.size)); clear hv3 hb3))
      go_roundw
      case rel => exact ⟨k + 1, by omega, by go_num, by rw [hst.out]; exact HV3.out, HB3.out⟩
      case measure => simp [intOf]; omega
    · have hkK : k = K := by omega
      subst hkK
      by_cases hl2 : k < T.ch.length
      · obtain ⟨ad, cc, e, hcc, q0, q1, q2, q3⟩ := VC_get hrow hl2
        have hok := Lib.hid (HCS.out _ (List.getElem_mem hl2))
        have hlk' := Lib.hid (HL.out k (by omega))
        have HCR : Hid (crashL T many part = if T.ch[k].f0 ≤ 2 ∧ 1 ≤ part then afterF (foldF T.last (T.ch.take k)) (cutC T.ch[k] part) else foldF T.last (T.ch.take k)) := by
          unfold Hid crashL
          simp only [← HK.out, List.getElem?_eq_getElem hl2]
        clear hrow
        cases e
        generalize T.ch[k] = c at q0 q1 q2 q3 hok HCR
        obtain ⟨ck, cq, cs, ct⟩ := c
        by_cases hkd : ck ≤ 2
        · by_cases hp1 : 1 ≤ part
          · have hcr : Hid (crashL T many part = afterF (foldF T.last (T.ch.take k)) (cutC ⟨ck, cq, cs, ct⟩ part)) := by
              rw [Hid, HCR.out, if_pos ⟨hkd, hp1⟩]
            obtain ⟨N, hN⟩ : ∃ N : Nat, min part (cs.size : Int) = N := ⟨(min part (cs.size : Int)).toNat, by omega⟩
            have hNs : N ≤ cs.size := by omega
            have hcut : Hid (cutC ⟨ck, cq, cs, ct⟩ part = ⟨ck, cq, cs.extract 0 N, ct⟩) := by
              unfold Hid cutC
              rw [cutS_pos (by omega)]
              simp only [hN, Int.toNat_natCast]
            have hok2 : Hid (CgOK ⟨ck, cq, cs.extract 0 N, ct⟩) := by
              have h0 := hok.out
              refine ⟨h0.kind, h0.path, ?_, fun e => ?_⟩
              · have h2 : cs.size ≤ 1000000000 := h0.text
                show (cs.extract 0 N).size ≤ _
                rw [ByteArray.size_extract]
                omega
              · have : ck = 4 := e
                omega
            have HW : Hid (∀ W0 wx v' r, Below wr.heap.size wr W0 → VF wx (fun q => (B q ∨ (w.heap.size ≤ q ∧ q < wr.heap.size)) ∨ (W0.heap.size ≤ q ∧ q < wx.heap.size)) v' r → W0.heap.size ≤ wx.heap.size → VF wx (fun q => B q ∨ (w.heap.size ≤ q ∧ q < wx.heap.size)) v' r) := fun W0 wx v' r h0 h hs => Kd.V_mono h fun q hq => by
              have := HB.out.size
              have := h0.size
              rcases hq with (hq | hq) | hq
              · exact .inl hq
              · exact .inr ⟨hq.1, by omega⟩
              · exact .inr ⟨by omega, hq.2⟩
            have HFE : Hid (∀ wx, Below w.heap.size w wx → (wx.frozen? ⟨m, 2, none⟩ = false ∧ wx.frozen? ⟨m, 3, none⟩ = false ∧ wx.frozen? ⟨m, 4, none⟩ = false) ∧ wx.cell? ⟨m, 2, none⟩ = some vl ∧ wx.cell? ⟨m, 3, none⟩ = some vs ∧ wx.cell? ⟨m, 4, none⟩ = some (.slice (some ad) T.ch.length cv)) := fun wx hx => by
              have hat := (hx.block m hlt).trans HT.out.at_
              exact ⟨⟨by simp [World.frozen?, hat], by simp [World.frozen?, hat], by simp [World.frozen?, hat]⟩, by simp [World.cell?, hat], by simp [World.cell?, hat], by simp [World.cell?, hat]⟩
            have hlc := hlk'.out.1
            have HB0 : Hid (Below wr.heap.size wr (wr.alloc (.cells #[.int .i64 ck, .string cq, .string (cs.extract 0 N), .int .i64 ct] 98))) := newBelow wr _
            go_wp2_with (first
              | (go_at_call 41; refine (rafter_call _ _ _ _ (Kd.V_alloc HV.out _) hlk'.out.1 hlk'.out.2 ⟨ck, cq, cs.extract 0 N, ct⟩ hok2.out).mono ?_; rintro e w3 ⟨v3, rfl, hv3, hb3⟩; obtain ⟨A7, k7, rfl⟩ := Kd.V_slice hv3; have HB3 := Lib.hid (HB.out.trans ((HB0.out.trans (hb3.mono HB0.out.size)).mono HB.out.size)); have HX := Lib.hid (HEnd.out w3 _ _ HB3.out (HW.out _ _ _ _ HB0.out hv3 hb3.size)); obtain ⟨⟨x2, x3, x4⟩, y2, y3, y4⟩ := HFE.out w3 HB3.out; have hm3 := Nat.lt_of_lt_of_le hlt HB3.out.size; clear hv3 hb3))
            go_end0
            refine ⟨rfl, ?_⟩
            unfold crashT
            rw [hcr.out, hcut.out]
            exact HX.out
          · have hcr : Hid (crashL T many part = foldF T.last (T.ch.take k)) := by
              rw [Hid, HCR.out, if_neg (fun e => hp1 e.2)]
            obtain ⟨A7, k7, rfl⟩ := Kd.V_slice HV.out
            have HX := Lib.hid (HEnd.out wr _ _ HB.out HV.out)
            go_wp2_with fail
            go_end0
            refine ⟨rfl, ?_⟩
            unfold crashT
            rw [hcr.out]
            exact HX.out
        · have hcr : Hid (crashL T many part = foldF T.last (T.ch.take k)) := by
            rw [Hid, HCR.out, if_neg (fun e => hkd e.1)]
          obtain ⟨A7, k7, rfl⟩ := Kd.V_slice HV.out
          have HX := Lib.hid (HEnd.out wr _ _ HB.out HV.out)
          go_wp2_with fail
          go_end0
          refine ⟨rfl, ?_⟩
          unfold crashT
          rw [hcr.out]
          exact HX.out
      · have hcr : Hid (crashL T many part = foldF T.last (T.ch.take k)) := by
          unfold Hid crashL
          simp only [← HK.out, List.getElem?_eq_none (Nat.le_of_not_lt hl2)]
        obtain ⟨A7, k7, rfl⟩ := Kd.V_slice HV.out
        have HX := Lib.hid (HEnd.out wr _ _ HB.out HV.out)
        clear hrow
        go_wp2_with fail
        go_end0
        refine ⟨rfl, ?_⟩
        unfold crashT
        rw [hcr.out]
        exact HX.out
end
structure Good (room : Int) (l : List Fl) : Prop where
  srt : Srt l
  pth : Pth l
  used : (usedF l : Int) ≤ room
  many : l.length ≤ 200
  texts : ∀ f ∈ l, f.f1.size ≤ 16777216
structure CgIn (c : Cg) : Prop where
  kind : KindOK c
  path : pathV c.f1 = true
  text : c.f2.size ≤ 1000000000
  dest : c.f0 = 4 → pathV c.f2 = true
theorem path_size {q : ByteArray} (h : pathV q = true) : q.size ≤ 100 := by
  unfold pathV at h
  simp only [Bool.and_eq_true, decide_eq_true_eq] at h
  have := h.1.2
  omega
theorem CgIn.ok {c : Cg} (h : CgIn c) : CgOK c := ⟨h.kind, Nat.le_trans (path_size h.path) (by decide), h.text, fun e => Nat.le_trans (path_size (h.dest e)) (by decide)⟩
theorem pth_put {l : List Fl} (h : Pth l) {f : Fl} (hf : pathV f.f0 = true) : Pth (putF l f) := fun g hg => by
  rcases mem_put.1 hg with rfl | hg
  · exact hf
  · exact h g hg.1
theorem pth_drop {l : List Fl} (h : Pth l) (q : ByteArray) : Pth (dropF l q) := fun g hg => h g (mem_drop.1 hg).1
theorem pth_after {l : List Fl} (h : Pth l) {c : Cg} (hc : CgIn c) : Pth (afterF l c) := by
  rcases hc.kind with e | e | e | e
  · unfold afterF
    rw [if_pos e]
    exact pth_put h hc.path
  · unfold afterF
    rw [if_neg (by omega), if_pos e]
    exact pth_put h hc.path
  · unfold afterF
    rw [if_neg (by omega), if_neg (by omega), if_pos e]
    exact pth_drop h _
  · unfold afterF
    rw [if_neg (by omega), if_neg (by omega), if_neg (by omega)]
    split
    · exact h
    · exact pth_put (pth_drop h _) (hc.dest e)
theorem text_le {l : List Fl} {f : Fl} (h : f ∈ l) : f.f1.size ≤ usedF l := by
  induction l with
  | nil => cases h
  | cons g r ih =>
    rw [used_cons]
    rcases List.mem_cons.1 h with rfl | h
    · omega
    · have := ih h
      omega
theorem had_le (l : List Fl) (q : ByteArray) : (textF l q).size ≤ usedF l := by
  unfold textF
  cases e : findF l q with
  | none => exact Nat.zero_le _
  | some f => exact text_le (mem_of_find e)
theorem good_cut {room : Int} {l : List Fl} (h : Good room l) {c : Cg} (hc : CgIn c) (hk : c.f0 ≤ 2) {part : Int} (hg : Good room (afterF l c)) : Good room (afterF l (cutC c part)) := by
  obtain ⟨k, q, s, t⟩ := c
  have hcs : (cutS s part).size ≤ s.size := by
    unfold cutS
    split
    · exact Nat.le_refl _
    · rw [ByteArray.size_extract]; omega
  have hk' : k = 1 ∨ k = 2 := by
    have h0 : k ≤ 2 := hk
    rcases hc.kind with e | e | e | e <;> (simp only at e; omega)
  rcases hk' with rfl | rfl
  · have e1 : afterF l ⟨1, q, s, t⟩ = putF l ⟨q, s, t⟩ := rfl
    have e2 : afterF l (cutC ⟨1, q, s, t⟩ part) = putF l ⟨q, cutS s part, t⟩ := rfl
    rw [e1] at hg
    rw [e2]
    obtain ⟨a1, a2⟩ := put_used h.srt ⟨q, s, t⟩
    obtain ⟨b1, b2⟩ := put_used h.srt ⟨q, cutS s part, t⟩
    have hu := hg.used
    have hm := hg.many
    simp only at a1 a2 b1 b2
    have ht := hg.texts _ (mem_put.2 (.inl rfl))
    simp only at ht
    exact ⟨srt_put h.srt _, pth_put h.pth hc.path, by omega, by rw [b2, ← a2]; exact hm, fun g hg' => by
      rcases mem_put.1 hg' with rfl | hg'
      · show (cutS s part).size ≤ _
        omega
      · exact h.texts g hg'.1⟩
  · have e1 : afterF l ⟨2, q, s, t⟩ = putF l ⟨q, textF l q ++ s, t⟩ := rfl
    have e2 : afterF l (cutC ⟨2, q, s, t⟩ part) = putF l ⟨q, textF l q ++ cutS s part, t⟩ := rfl
    rw [e1] at hg
    rw [e2]
    obtain ⟨a1, a2⟩ := put_used h.srt ⟨q, textF l q ++ s, t⟩
    obtain ⟨b1, b2⟩ := put_used h.srt ⟨q, textF l q ++ cutS s part, t⟩
    have hu := hg.used
    have hm := hg.many
    simp only [ByteArray.size_append] at a1 a2 b1 b2
    have ht := hg.texts _ (mem_put.2 (.inl rfl))
    simp only [ByteArray.size_append] at ht
    exact ⟨srt_put h.srt _, pth_put h.pth hc.path, by omega, by rw [b2, ← a2]; exact hm, fun g hg' => by
      rcases mem_put.1 hg' with rfl | hg'
      · show (textF l q ++ cutS s part).size ≤ _
        rw [ByteArray.size_append]
        omega
      · exact h.texts g hg'.1⟩
structure Inv (n : Nat) (T : TS) : Prop where
  room : 1 ≤ T.room ∧ T.room ≤ 1073741824
  clock : 0 ≤ T.clock ∧ T.clock ≤ n
  chs : T.ch.length ≤ n
  cin : ∀ c ∈ T.ch, CgIn c
  runs : ∀ k, k ≤ T.ch.length → Good T.room (foldF T.last (T.ch.take k))
  fold : foldF T.last T.ch = T.l
theorem Inv.good {n : Nat} {T : TS} (h : Inv n T) : Good T.room T.l := by
  have := h.runs T.ch.length (Nat.le_refl _)
  rw [List.take_length, h.fold] at this
  exact this
theorem Inv.tok {n : Nat} {T : TS} (h : Inv n T) (hn : n ≤ 1000000) : TOK T where
  room := by have := h.room; omega
  clock := by have := h.clock; omega
  many := Nat.le_trans h.good.many (by decide)
  texts := fun f hf => Nat.le_trans (h.good.texts f hf) (by decide)
  paths := fun f hf => Nat.le_trans (path_size (h.good.pth f hf)) (by decide)
  used := by have := h.good.used; have := h.room; omega
  chs := Nat.le_trans h.chs hn
theorem Inv.mono {n n' : Nat} {T : TS} (h : Inv n T) (hn : n ≤ n') : Inv n' T := ⟨h.room, by have := h.clock; omega, Nat.le_trans h.chs hn, h.cin, h.runs, h.fold⟩
theorem inv_new {room : Int} (h1 : 1 ≤ room) (h2 : room ≤ 1073741824) : Inv 0 (newT room) where
  room := ⟨h1, h2⟩
  clock := ⟨Int.le_refl _, Int.le_refl _⟩
  chs := Nat.le_refl _
  cin := fun c hc => by cases hc
  runs := fun k hk => by
    have : foldF (newT room).last ((newT room).ch.take k) = [] := by show foldF [] (List.take k []) = []; rw [List.take_nil]; rfl
    rw [this]
    exact ⟨List.Pairwise.nil, fun f hf => (by cases hf), (by show (0 : Int) ≤ room; omega), Nat.zero_le _, fun f hf => (by cases hf)⟩
  fold := rfl
theorem foldF_snoc (l : List Fl) (cs : List Cg) (c : Cg) : foldF l (cs ++ [c]) = afterF (foldF l cs) c := by
  unfold foldF
  rw [List.foldl_append]
  rfl
theorem inv_done {n : Nat} {T : TS} (h : Inv n T) {c : Cg} (hc : CgIn c) (hg : Good T.room (afterF T.l c)) : Inv (n + 1) (doneT T c) where
  room := h.room
  clock := by have := h.clock; show 0 ≤ T.clock + 1 ∧ T.clock + 1 ≤ ((n + 1 : Nat) : Int); omega
  chs := by
    show (T.ch ++ [c]).length ≤ n + 1
    rw [List.length_append]
    exact Nat.add_le_add_right h.chs 1
  cin := fun d hd => by
    rcases List.mem_append.1 hd with hd | hd
    · exact h.cin d hd
    · rw [List.mem_singleton.1 hd]
      exact hc
  runs := fun k hk => by
    have hk' : k ≤ T.ch.length + 1 := by
      have : (T.ch ++ [c]).length = T.ch.length + 1 := by rw [List.length_append]; rfl
      rw [← this]
      exact hk
    show Good T.room (foldF T.last ((T.ch ++ [c]).take k))
    by_cases e : k ≤ T.ch.length
    · rw [List.take_append_of_le_length e]
      exact h.runs k e
    · rw [List.take_of_length_le (by rw [List.length_append, List.length_singleton]; omega), foldF_snoc, h.fold]
      exact hg
  fold := by
    show foldF T.last (T.ch ++ [c]) = afterF T.l c
    rw [foldF_snoc, h.fold]
theorem inv_sync {n : Nat} {T : TS} (h1 : 1 ≤ T.room ∧ T.room ≤ 1073741824) (h2 : 0 ≤ T.clock ∧ T.clock ≤ n) (h3 : Good T.room T.l) : Inv n (syncT T) where
  room := h1
  clock := h2
  chs := Nat.zero_le _
  cin := fun c hc => by cases hc
  runs := fun k hk => by
    show Good T.room (foldF T.l (List.take k []))
    rw [List.take_nil]
    exact h3
  fold := rfl
theorem inv_crash {n : Nat} {T : TS} (h : Inv n T) (many part : Int) : Inv n (crashT T many part) := by
  refine inv_sync h.room h.clock ?_
  show Good T.room (crashL T many part)
  have hK : keptN many T.ch.length ≤ T.ch.length := by unfold keptN; omega
  unfold crashL
  simp only
  cases e : T.ch[keptN many T.ch.length]? with
  | none => exact h.runs _ hK
  | some c =>
    simp only
    obtain ⟨hlt, hget⟩ := List.getElem?_eq_some_iff.1 e
    split
    next hh =>
      refine good_cut (h.runs _ hK) (h.cin c (by rw [← hget]; exact List.getElem_mem hlt)) hh.1 ?_
      have := h.runs (keptN many T.ch.length + 1) hlt
      rw [foldF_succ _ _ _ hlt, hget] at this
      exact this
    next => exact h.runs _ hK
theorem writeE_zero {T : TS} {stays : Bool} {q s : ByteArray} (h : writeE T stays q s = 0) : pathV q = true ∧ sizeT T stays q s ≤ 16777216 ∧ blockT T.l q ⟨#[]⟩ = false ∧ fullT T stays q s = false := by
  unfold writeE at h
  cases h1 : pathV q with
  | false => rw [h1] at h; simp at h
  | true =>
    rw [h1] at h
    by_cases h2 : 16777216 < sizeT T stays q s
    · simp [h2] at h
    · cases h3 : blockT T.l q ⟨#[]⟩ with
      | true => rw [h3] at h; simp [h2] at h
      | false =>
        cases h4 : fullT T stays q s with
        | true => rw [h3, h4] at h; simp [h2] at h
        | false => exact ⟨rfl, by omega, rfl, rfl⟩
theorem writeC_in {T : TS} {stays : Bool} {q s : ByteArray} (h : pathV q = true) (hs : s.size ≤ 1000000000) : CgIn (writeC T stays q s) := by
  cases stays
  · exact ⟨.inl rfl, h, hs, fun e => absurd e (show ¬ ((1 : Int) = 4) by decide)⟩
  · exact ⟨.inr (.inl rfl), h, hs, fun e => absurd e (show ¬ ((2 : Int) = 4) by decide)⟩
theorem inv_write {n : Nat} {T : TS} (h : Inv n T) (stays : Bool) {q s : ByteArray} (hs : s.size ≤ 1000000000) : Inv (n + 1) (writeT T stays q s) := by
  unfold writeT
  split
  next he =>
    obtain ⟨h1, h2, h3, h4⟩ := writeE_zero he
    have hc := writeC_in (T := T) (stays := stays) h1 hs
    refine inv_done h hc ?_
    obtain ⟨t, e1, e2⟩ := write_after T stays q s
    have hf := full_eq h.good.srt stays q s
    rw [h4] at hf
    have hf' := hf.symm
    rw [Bool.or_eq_false_iff, decide_eq_false_iff_not, decide_eq_false_iff_not] at hf'
    refine ⟨srt_after h.good.srt _, pth_after h.good.pth hc, by omega, by omega, fun f hm => ?_⟩
    rw [e1] at hm
    rcases mem_put.1 hm with rfl | hm
    · show t.size ≤ _
      omega
    · exact h.good.texts f hm.1
  next => exact h.mono (Nat.le_succ n)
theorem inv_remove {n : Nat} {T : TS} (h : Inv n T) (q : ByteArray) : Inv (n + 1) (removeT T q) := by
  unfold removeT
  split
  next he =>
    unfold removeE at he
    cases hf : findF T.l q with
    | none => rw [hf] at he; simp at he
    | some f =>
      obtain ⟨a1, a2⟩ := (find_some_iff h.good.srt).1 hf
      have hq : pathV q = true := by rw [← a2]; exact h.good.pth f a1
      refine inv_done h ⟨.inr (.inr (.inl rfl)), hq, Nat.zero_le _, fun e => absurd e (show ¬ ((3 : Int) = 4) by decide)⟩ ?_
      show Good T.room (dropF T.l q)
      obtain ⟨b1, b2⟩ := drop_some h.good.srt hf
      have := h.good.used
      have := h.good.many
      exact ⟨srt_drop h.good.srt q, pth_drop h.good.pth q, by omega, by omega, fun g hg => h.good.texts g (mem_drop.1 hg).1⟩
  next => exact h.mono (Nat.le_succ n)
theorem inv_rename {n : Nat} {T : TS} (h : Inv n T) (a b : ByteArray) : Inv (n + 1) (renameT T a b) := by
  unfold renameT
  split
  next he =>
    obtain ⟨h1, h2, h3, h4⟩ := he
    cases hf : findF T.l a with
    | none => rw [hf] at h1; cases h1
    | some f =>
      obtain ⟨a1, a2⟩ := (find_some_iff h.good.srt).1 hf
      have hq : pathV a = true := by rw [← a2]; exact h.good.pth f a1
      have hbs := path_size h2
      refine inv_done h ⟨.inr (.inr (.inr rfl)), hq, (by show b.size ≤ _; omega), fun _ => h2⟩ ?_
      have e1 : afterF T.l ⟨4, a, b, 0⟩ = putF (dropF T.l a) ⟨b, f.f1, f.f2⟩ := by
        show (match findF T.l a with | none => T.l | some f => putF (dropF T.l a) ⟨b, f.f1, f.f2⟩) = _
        rw [hf]
      rw [e1]
      have hsd := srt_drop h.good.srt a
      obtain ⟨b1, b2⟩ := drop_some h.good.srt hf
      obtain ⟨c1, c2⟩ := put_used hsd ⟨b, f.f1, f.f2⟩
      have := h.good.used
      have := h.good.many
      simp only at c1 c2
      refine ⟨srt_put hsd _, pth_put (pth_drop h.good.pth a) h2, by omega, by split at c2 <;> omega, fun g hg => ?_⟩
      rcases mem_put.1 hg with rfl | hg
      · exact h.good.texts f a1
      · exact h.good.texts g (mem_drop.1 hg.1).1
  next => exact h.mono (Nat.le_succ n)
structure Pr (w : World) (φ : Phi) (p : Nat) (A : Nat → Prop) (m : Nat) (B : Nat → Prop) (T : TS) : Prop where
  tr : Tr w φ p T A
  rf : Rf w m T B
  am : ∀ k, A k → k ≠ m ∧ ¬ B k
  fm : ∀ k, φ k ≠ none → k ≠ m
theorem Rf.free {w : World} {m : Nat} {T : TS} {B : Nat → Prop} (h : Rf w m T B) {k : Nat} (hk : B k) : k < w.heap.size ∧ k ≠ m := by
  obtain ⟨vl, vs, vc, h⟩ := h
  exact h.free k hk
theorem Tr.files {w : World} {φ : Phi} {p : Nat} {T : TS} {A : Nat → Prop} (h : Tr w φ p T A) : FilesOK w φ := by
  obtain ⟨bn, bl, v, h⟩ := h
  exact h.files
theorem Tr.free {w : World} {φ : Phi} {p : Nat} {T : TS} {A : Nat → Prop} (h : Tr w φ p T A) {k : Nat} (hk : A k) : k < w.heap.size ∧ φ k = none := by
  obtain ⟨bn, bl, v, h⟩ := h
  exact h.free k hk
theorem Pr.below {w w' : World} {φ : Phi} {p m : Nat} {A B : Nat → Prop} {T : TS} (h : Pr w φ p A m B T) (hb : Below w.heap.size w w') : Pr w' φ p A m B T := ⟨h.tr.below hb, h.rf.below hb, h.am, h.fm⟩
structure Af where
  f0 : ByteArray
  f1 : ByteArray
def zA : Af := ⟨⟨#[]⟩, ⟨#[]⟩⟩
def kA : Kd Af := Kd.iso (Kd.pair Kd.string Kd.string) (fun x : Af => (x.f0, x.f1))
theorem kA_open {w : World} {x : Af} {cs : List Value} (h : kA.K w x cs) : cs = [.string x.f0, .string x.f1] := by
  obtain ⟨_, _, rfl, rfl, rfl⟩ := h
  exact rfl
theorem kA_mkM (w : World) (base : Nat) (ok : Nat → Prop) (x : Af) : kA.M w base ok x [.string x.f0, .string x.f1] := ⟨[.string x.f0], [.string x.f1], rfl, rfl, rfl⟩
def rd_A (xs : List Af) (i : Int) : Af := xs.getD i.toNat zA
theorem at_A {w : World} {A : Option Addr} {n : Nat} {xs : List Af} (h : Kd.C kA w A n xs) (i : Int) (h0 : 0 ≤ i) (h1 : i < n) : ∃ ad, A = some ad ∧ w.cell? (ad.add (i.toNat * 2)) = some (.string (rd_A xs i).f0) ∧ w.cell? ⟨(ad.add (i.toNat * 2)).block, (ad.add (i.toNat * 2)).off + 1, none⟩ = some (.string (rd_A xs i).f1) := by
  obtain ⟨ad, c, e, _, hK, hc0⟩ := Kd.C_get h zA i h0 h1
  have hc : ∀ j u, c[j]? = some u → w.cell? (ad.add (i.toNat * 2 + j)) = some u := hc0
  obtain rfl := kA_open hK
  exact ⟨ad, e, hc 0 _ rfl, by rw [← add_field _ _ 1 (by omega)]; exact hc 1 _ rfl⟩
def af (f : Fl) : Af := ⟨f.f0, f.f1⟩
abbrev VA (w : World) (ok : Nat → Prop) (v : Value) (l : List Af) : Prop := Kd.V kA 95 w 0 ok v l
theorem reps_af (w : World) (base : Nat) (ok : Nat → Prop) (l : List Fl) : Reps (kA.M w base ok) 2 (l.map af) (l.flatMap flCells) := by
  induction l with
  | nil => exact Reps.none _ _
  | cons f r ih => exact Reps.c2 (kA_mkM w base ok (af f)) ih
theorem va_of_own {w : World} {base : Nat} {v : Value} {l : List Fl} (h : w.ownsRow base 95 2 v l.length (l.flatMap flCells)) : VA w (fun k => base ≤ k ∧ k < w.heap.size) v (l.map af) := by
  have hR : Kd.R kA 95 w base (fun k => base ≤ k ∧ k < w.heap.size) v (l.map af) :=
    ⟨fun k hk => ⟨own_base h k hk, own_lt h k hk⟩, ⟨l.flatMap flCells, by rw [List.length_map]; exact h, reps_af _ _ _ l⟩⟩
  exact Kd.R_V hR
def AllEnd (w : World) (T : TS) (e : Ending) (w' : World) : Prop := ∃ v, e = .returned v ∧ VA w' (fun k => w.heap.size ≤ k ∧ k < w'.heap.size) v (T.l.map af) ∧ Below w.heap.size w w'
theorem all_view {w : World} {φ : Phi} {p n : Nat} {T : TS} {A : Nat → Prop} (hT : Tr w φ p T A) (hI : Inv n T) : Calls Tryz.prog 36 #[.pointer (some ⟨p, 0, none⟩)] w (AllEnd w T) := by
  refine (all_call w hT hI.good.srt (Nat.le_trans hI.good.many (by decide)) fun f hf => Nat.le_trans (path_size (hI.good.pth f hf)) (by decide)).mono ?_
  rintro e w' ⟨v, rfl, hr, hb⟩
  exact ⟨v, rfl, va_of_own hr, hb⟩
theorem VA.below {w w' : World} {ok : Nat → Prop} {v : Value} {l : List Af} (h : VA w ok v l) (hb : Below w.heap.size w w') : VA w' ok v l := Kd.V_below h hb
end Go.Proofs.YtghbaehbgefpaaaGreatDoor.Fr
