import Derived.Test.YtghbaehbgefpaaaGreatDoorQ26
/- Several texts of this session in one: the walks of the functions that the laws reach, and what they tell. -/
set_option linter.unusedVariables false
set_option linter.unusedSimpArgs false
namespace Go.Proofs.YtghbaehbgefpaaaGreatDoor.Fr
open Go.RowKit Go.Proofs.YtghbaehbgefpaaaGreatDoor.F Go.Proofs.YtghbaehbgefpaaaGreatDoorW.PrintWords
def kC : Kd Cg := Kd.iso (Kd.pair (Kd.int .i64) (Kd.pair Kd.string (Kd.pair Kd.string (Kd.int .i64)))) (fun x : Cg => (x.f0, x.f1, x.f2, x.f3))
theorem kC_open {w : World} {x : Cg} {cs : List Value} (h : kC.K w x cs) : cs = [.int .i64 x.f0, .string x.f1, .string x.f2, .int .i64 x.f3] := by
  obtain ⟨_, _, rfl, rfl, ⟨_, _, rfl, rfl, ⟨_, _, rfl, rfl, rfl⟩⟩⟩ := h
  exact rfl
def cgCells (x : Cg) : List Value := [.int .i64 x.f0, .string x.f1, .string x.f2, .int .i64 x.f3]
theorem kC_mkM (w : World) (base : Nat) (ok : Nat → Prop) (x : Cg) : kC.M w base ok x (cgCells x) := ⟨[.int .i64 x.f0], [.string x.f1, .string x.f2, .int .i64 x.f3], rfl, rfl, ⟨[.string x.f1], [.string x.f2, .int .i64 x.f3], rfl, rfl, ⟨[.string x.f2], [.int .i64 x.f3], rfl, rfl, rfl⟩⟩⟩
abbrev VF (w : World) (B : Nat → Prop) (v : Value) (l : List Fl) : Prop := Kd.V k89 89 w 0 B v l
abbrev VC (w : World) (B : Nat → Prop) (v : Value) (l : List Cg) : Prop := Kd.V kC 98 w 0 B v l
structure RfAt (w : World) (m : Nat) (T : TS) (B : Nat → Prop) (vl vs vc : Value) : Prop where
  at_ : w.heap[m]? = some (.cells #[.int .i64 T.room, .int .i64 T.clock, vl, vs, vc] 87 (0, 0))
  now : VF w B vl T.l
  last : VF w B vs T.last
  row : VC w B vc T.ch
  nil : T.ch = [] → vc = .slice none 0 0
  free : ∀ k, B k → k < w.heap.size ∧ k ≠ m
def Rf (w : World) (m : Nat) (T : TS) (B : Nat → Prop) : Prop := ∃ vl vs vc, RfAt w m T B vl vs vc
section
variable {w w' : World} {m : Nat} {T : TS} {B S : Nat → Prop} {vl vs vc : Value}
theorem RfAt.lt (h : RfAt w m T B vl vs vc) : m < w.heap.size := (Array.getElem?_eq_some_iff.1 h.at_).1
theorem RfAt.c0 (h : RfAt w m T B vl vs vc) : w.cell? ⟨m, 0, none⟩ = some (.int .i64 T.room) := by simp [World.cell?, h.at_]
theorem RfAt.c1 (h : RfAt w m T B vl vs vc) : w.cell? ⟨m, 1, none⟩ = some (.int .i64 T.clock) := by simp [World.cell?, h.at_]
theorem RfAt.c2 (h : RfAt w m T B vl vs vc) : w.cell? ⟨m, 2, none⟩ = some vl := by simp [World.cell?, h.at_]
theorem RfAt.c3 (h : RfAt w m T B vl vs vc) : w.cell? ⟨m, 3, none⟩ = some vs := by simp [World.cell?, h.at_]
theorem RfAt.c4 (h : RfAt w m T B vl vs vc) : w.cell? ⟨m, 4, none⟩ = some vc := by simp [World.cell?, h.at_]
theorem RfAt.fz (h : RfAt w m T B vl vs vc) (k : Nat) : w.frozen? ⟨m, k, none⟩ = false := by simp [World.frozen?, h.at_]
theorem RfAt.chg (h : RfAt w m T B vl vs vc) (hc : Chg S w w') (hm : ¬ S m) (hs : ∀ k, B k → ¬ S k) : RfAt w' m T B vl vs vc where
  at_ := (hc.block m h.lt hm).trans h.at_
  now := Kd.V_step h.now fun k hk hl => hc.block k hl (hs k hk)
  last := Kd.V_step h.last fun k hk hl => hc.block k hl (hs k hk)
  row := Kd.V_step h.row fun k hk hl => hc.block k hl (hs k hk)
  nil := h.nil
  free := fun k hk => ⟨Nat.lt_of_lt_of_le (h.free k hk).1 hc.size, (h.free k hk).2⟩
theorem Rf.chg (h : Rf w m T B) (hc : Chg S w w') (hm : ¬ S m) (hs : ∀ k, B k → ¬ S k) : Rf w' m T B := by
  obtain ⟨vl, vs, vc, h⟩ := h
  exact ⟨vl, vs, vc, h.chg hc hm hs⟩
theorem RfAt.below (h : RfAt w m T B vl vs vc) (hb : Below w.heap.size w w') : RfAt w' m T B vl vs vc := h.chg (Chg.of_below hb fun _ => False) (fun e => e) fun _ _ e => e
theorem Rf.below (h : Rf w m T B) (hb : Below w.heap.size w w') : Rf w' m T B := h.chg (Chg.of_below hb fun _ => False) (fun e => e) fun _ _ e => e
theorem Rf.lt (h : Rf w m T B) : m < w.heap.size := by
  obtain ⟨vl, vs, vc, h⟩ := h
  exact h.lt
end
def RfEnd (w : World) (m : Nat) (B : Nat → Prop) (T' : TS) (w' : World) : Prop := ∃ B', Rf w' m T' B' ∧ Chg (fun k => k = m) w w' ∧ ∀ k, B' k → B k ∨ w.heap.size ≤ k
theorem drawn_below {w w' : World} (h : Drawn0 w w') : Below w.heap.size w w' := by
  obtain ⟨n, rfl⟩ := h.out
  exact pw_below_drewN (Below.refl _ _) n
section
variable {w : World} {B : Nat → Prop} {v : Value} {l : List Fl}
theorem rfind_call (h : VF w B v l) (hl : l.length ≤ 1000000) (q : ByteArray) : Calls Tryz.prog 63 #[v, .string q] w fun e w' => e = .returned (.int .i64 (findI l q)) ∧ Drawn0 w w' := by
  obtain ⟨A, c, rfl⟩ := Kd.V_slice h
  obtain ⟨_, hc, hC⟩ := Kd.V_reads' h
  exact cooperageref5_Find.calls _ A c l q _ w hC hc (Find_f l q hl)
theorem rdrop_call (h : VF w B v l) (hl : l.length ≤ 1000000) (q : ByteArray) : Calls Tryz.prog 65 #[v, .string q] w fun e w' => ∃ v', e = .returned v' ∧ VF w' (fun k => w.heap.size ≤ k ∧ k < w'.heap.size) v' (dropF l q) ∧ Below w.heap.size w w' := by
  obtain ⟨A, c, rfl⟩ := Kd.V_slice h
  obtain ⟨_, hc, hC⟩ := Kd.V_reads' h
  refine (cooperageref5_drop.calls _ A c l q _ w hC hc (drop_f l q hl _ (Nat.lt_succ_self _))).mono ?_
  rintro e w' ⟨v', rfl, hr, hb⟩
  exact ⟨v', rfl, Kd.V_mono (Kd.R_V (Kd.R_bound hr)) fun k hk => ⟨hk.2.1, hk.2.2.1⟩, hb⟩
theorem rput_call (h : VF w B v l) (hl : l.length ≤ 1000000) (p s : ByteArray) (t : Int) : Calls Tryz.prog 64 #[v, .agg #[.string p, .string s, .int .i64 t]] w fun e w' => ∃ v', e = .returned v' ∧ VF w' (fun k => w.heap.size ≤ k ∧ k < w'.heap.size) v' (putF l ⟨p, s, t⟩) ∧ Below w.heap.size w w' := by
  obtain ⟨A, c, rfl⟩ := Kd.V_slice h
  obtain ⟨_, hc, hC⟩ := Kd.V_reads' h
  refine (cooperageref5_put.calls _ A c l p s t _ w hC hc (put_f l p s t hl)).mono ?_
  rintro e w' ⟨v', rfl, hr, hb⟩
  exact ⟨v', rfl, Kd.V_mono (Kd.R_V (Kd.R_bound hr)) fun k hk => ⟨hk.2.1, hk.2.2.1⟩, hb⟩
theorem rblocked_call (h : VF w B v l) (hl : l.length ≤ 1000000) (q : ByteArray) : Calls Tryz.prog 87 #[v, .string q] w fun e w' => e = .returned (.bool (blockR l q)) ∧ Drawn0 w w' := by
  obtain ⟨A, c, rfl⟩ := Kd.V_slice h
  obtain ⟨_, hc, hC⟩ := Kd.V_reads' h
  exact cooperageref5_blocked.calls _ A c l q _ w hC hc (blocked_f l q hl)
theorem rused_call (h : VF w B v l) (hl : l.length ≤ 1000000) (hu : usedF l ≤ 10000000000000000) : Calls Tryz.prog 62 #[v] w fun e w' => e = .returned (.int .i64 (usedF l)) ∧ Drawn0 w w' := by
  obtain ⟨A, c, rfl⟩ := Kd.V_slice h
  obtain ⟨_, hc, hC⟩ := Kd.V_reads' h
  exact cooperageref5_used.calls _ A c l _ w hC hc (used_f l hl hu)
theorem VF_at (h : VF w B v l) {i : Nat} (hi : i < l.length) : ∃ ad c, v = .slice (some ad) l.length c ∧ l.length ≤ c ∧ w.cell? (ad.add (i * 3)) = some (.string l[i].f0) ∧ w.cell? ⟨(ad.add (i * 3)).block, (ad.add (i * 3)).off + 1, none⟩ = some (.string l[i].f1) ∧ w.cell? ⟨(ad.add (i * 3)).block, (ad.add (i * 3)).off + 2, none⟩ = some (.int .i64 l[i].f2) := by
  obtain ⟨A, c, rfl⟩ := Kd.V_slice h
  obtain ⟨_, hc, hC⟩ := Kd.V_reads' h
  have := at_T89 hC (i : Int) (by omega) (by omega)
  rw [rd_at l i hi, Int.toNat_natCast] at this
  obtain ⟨ad, rfl, h1, h2, h3⟩ := this
  exact ⟨ad, c, rfl, hc, h1, h2, h3⟩
end
def AfterEnd (w : World) (B : Nat → Prop) (r : List Fl) (e : Ending) (w' : World) : Prop :=
  ∃ v', e = .returned v' ∧ VF w' (fun k => B k ∨ (w.heap.size ≤ k ∧ k < w'.heap.size)) v' r ∧ Below w.heap.size w w'
theorem after_new {w W w' : World} {B : Nat → Prop} {r : List Fl} {v' : Value} (hb : Below w.heap.size w W) (h : VF w' (fun k => W.heap.size ≤ k ∧ k < w'.heap.size) v' r) (hb2 : Below W.heap.size W w') : AfterEnd w B r (.returned v') w' :=
  ⟨v', rfl, Kd.V_mono h fun k hk => .inr ⟨Nat.le_trans hb.size hk.1, hk.2⟩, hb.trans (hb2.mono hb.size)⟩
theorem cell_lt {w : World} {a : Addr} {u : Value} (h : w.cell? a = some u) : a.block < w.heap.size := by
  unfold World.cell? at h
  cases e : w.heap[a.block]? with
  | none => rw [e] at h; cases h
  | some o => exact (Array.getElem?_eq_some_iff.1 e).1
set_option maxHeartbeats 4000000 in
set_option maxRecDepth 100000 in
theorem rafter_none (w : World) (B : Nat → Prop) (v : Value) (l : List Fl) (h : VF w B v l) (hl : l.length ≤ 100000) (ck : Int) (cp cs : ByteArray) (ct : Int) (hk : KindOK ⟨ck, cp, cs, ct⟩) (hs : cs.size ≤ 1000000000) (hf : findF l cp = none) :
    Calls Tryz.prog 41 #[v, .agg #[.int .i64 ck, .string cp, .string cs, .int .i64 ct]] w (AfterEnd w B (afterF l ⟨ck, cp, cs, ct⟩)) := by
  have HF := Lib.hid (findI_none hf)
  have HL := Lib.hid (Nat.le_trans hl (by decide : 100000 ≤ 1000000))
  have HV := Lib.hid h
  have HT : Hid (textF l cp = ⟨#[]⟩) := by unfold Hid textF; rw [hf]
  have HA : Hid (¬ ck = 1 → ¬ ck = 2 → ¬ ck = 3 → afterF l ⟨ck, cp, cs, ct⟩ = l) := by
    intro h1 h2 h3
    unfold afterF
    simp only [h1, h2, h3, if_false, hf]
  have hsz : (⟨#[]⟩ : ByteArray).size + cs.size ≤ maxLen := by
    show 0 + cs.size ≤ 9223372036854775807
    omega
  have hcat : (⟨#[]⟩ : ByteArray) ++ cs = cs := by
    apply ByteArray.ext
    simp
  have HE1 : Hid (afterF l ⟨1, cp, cs, ct⟩ = putF l ⟨cp, cs, ct⟩) := rfl
  have HE2 : Hid (afterF l ⟨2, cp, cs, ct⟩ = putF l ⟨cp, cs, ct⟩) := by
    show putF l ⟨cp, textF l cp ++ cs, ct⟩ = _
    rw [HT.out, hcat]
  have HE3 : Hid (afterF l ⟨3, cp, cs, ct⟩ = dropF l cp) := rfl
  clear h hf hl
  go_enter Tryz.func41, Tryz.ntmps41
  go_upto_region 2 with (first
    | (go_at_call 63; refine (rfind_call (Kd.V_alloc HV.out _) HL.out _).mono ?_; rintro e w1 ⟨rfl, hd⟩; rw [HF.out]; have HB := Lib.hid (((newBelow w (.cells #[.int .i64 ck, .string cp, .string cs, .int .i64 ct] 98))).trans ((drawn_below hd).mono (by rw [World.size_alloc]; omega))); have hbx := ((drawn_below hd).block w.heap.size (by rw [World.size_alloc]; omega)).trans (World.alloc_heap_new w _); have b0 : w1.cell? ⟨w.heap.size, 0, none⟩ = some (.int .i64 ck) := (by simp [World.cell?, hbx]); have b1 : w1.cell? ⟨w.heap.size, 1, none⟩ = some (.string cp) := (by simp [World.cell?, hbx]); have b2 : w1.cell? ⟨w.heap.size, 2, none⟩ = some (.string cs) := (by simp [World.cell?, hbx]); have b3 : w1.cell? ⟨w.heap.size, 3, none⟩ = some (.int .i64 ct) := (by simp [World.cell?, hbx]); clear hbx hd))
  have HV1 : Hid (VF w1 B v l) := Kd.V_below HV.out HB.out
  rcases hk with e | e | e | e
  · obtain rfl : ck = 1 := e
    go_wp2_with (first
      | (go_at_call 64; refine (rput_call HV1.out HL.out _ _ _).mono ?_; rintro e w2 ⟨v', rfl, hv2, hb2⟩; have HX := Lib.hid (after_new (B := B) HB.out hv2 hb2); clear hv2 hb2))
    go_ret
    rw [HE1.out]
    exact HX.out
  · obtain rfl : ck = 2 := e
    go_wp2_with (first
      | (go_at_call 64; refine (rput_call HV1.out HL.out _ _ _).mono ?_; rintro e w2 ⟨v', rfl, hv2, hb2⟩; have HX := Lib.hid (after_new (B := B) HB.out hv2 hb2); clear hv2 hb2))
    go_ret
    rw [HE2.out]
    exact HX.out
  · obtain rfl : ck = 3 := e
    go_wp2_with (first
      | (go_at_call 65; refine (rdrop_call HV1.out HL.out _).mono ?_; rintro e w2 ⟨v', rfl, hv2, hb2⟩; have HX := Lib.hid (after_new (B := B) HB.out hv2 hb2); clear hv2 hb2))
    go_ret
    rw [HE3.out]
    exact HX.out
  · obtain rfl : ck = 4 := e
    go_wp2_with fail
    go_ret
    rw [HA.out (by decide) (by decide) (by decide)]
    show AfterEnd w B l (.returned v) w1
    exact ⟨_, rfl, Kd.V_mono HV1.out fun k hk => .inl hk, HB.out⟩
set_option maxHeartbeats 4000000 in
set_option maxRecDepth 100000 in
theorem rafter_some (w : World) (B : Nat → Prop) (v : Value) (l : List Fl) (h : VF w B v l) (hl : l.length ≤ 100000) (ck : Int) (cp cs : ByteArray) (ct : Int) (hk : KindOK ⟨ck, cp, cs, ct⟩) (hs : cs.size ≤ 1000000000) (f : Fl) (hf : findF l cp = some f) (hfs : f.f1.size ≤ 1000000000000) :
    Calls Tryz.prog 41 #[v, .agg #[.int .i64 ck, .string cp, .string cs, .int .i64 ct]] w (AfterEnd w B (afterF l ⟨ck, cp, cs, ct⟩)) := by
  obtain ⟨i, hi, hfi, hli⟩ := findI_some hf
  have HF := Lib.hid hfi
  have HLI := Lib.hid hli
  have HL := Lib.hid (Nat.le_trans hl (by decide : 100000 ≤ 1000000))
  have HV := Lib.hid h
  have HT : Hid (textF l cp = f.f1) := by unfold Hid textF; rw [hf]
  have hsz : f.f1.size + cs.size ≤ maxLen := by
    show f.f1.size + cs.size ≤ 9223372036854775807
    omega
  have HE1 : Hid (afterF l ⟨1, cp, cs, ct⟩ = putF l ⟨cp, cs, ct⟩) := rfl
  have HE2 : Hid (afterF l ⟨2, cp, cs, ct⟩ = putF l ⟨cp, f.f1 ++ cs, ct⟩) := by
    show putF l ⟨cp, textF l cp ++ cs, ct⟩ = _
    rw [HT.out]
  have HE3 : Hid (afterF l ⟨3, cp, cs, ct⟩ = dropF l cp) := rfl
  have HE4 : Hid (afterF l ⟨4, cp, cs, ct⟩ = putF (dropF l cp) ⟨cs, f.f1, f.f2⟩) := by
    show (match findF l cp with | none => l | some f => putF (dropF l cp) ⟨cs, f.f1, f.f2⟩) = _
    rw [hf]
  clear h hf hl hfi hli
  go_enter Tryz.func41, Tryz.ntmps41
  go_upto_region 2 with (first
    | (go_at_call 63; refine (rfind_call (Kd.V_alloc HV.out _) HL.out _).mono ?_; rintro e w1 ⟨rfl, hd⟩; rw [HF.out]; have HB := Lib.hid (((newBelow w (.cells #[.int .i64 ck, .string cp, .string cs, .int .i64 ct] 98))).trans ((drawn_below hd).mono (by rw [World.size_alloc]; omega))); have hbx := ((drawn_below hd).block w.heap.size (by rw [World.size_alloc]; omega)).trans (World.alloc_heap_new w _); have b0 : w1.cell? ⟨w.heap.size, 0, none⟩ = some (.int .i64 ck) := (by simp [World.cell?, hbx]); have b1 : w1.cell? ⟨w.heap.size, 1, none⟩ = some (.string cp) := (by simp [World.cell?, hbx]); have b2 : w1.cell? ⟨w.heap.size, 2, none⟩ = some (.string cs) := (by simp [World.cell?, hbx]); have b3 : w1.cell? ⟨w.heap.size, 3, none⟩ = some (.int .i64 ct) := (by simp [World.cell?, hbx]); clear hbx hd))
  have HV1 : Hid (VF w1 B v l) := Kd.V_below HV.out HB.out
  obtain ⟨ad, cc, e, hlc, q0, q1, q2⟩ := VF_at HV1.out hi
  rw [HLI.out] at q0 q1 q2
  subst e
  rcases hk with e | e | e | e
  · obtain rfl : ck = 1 := e
    go_wp2_with (first
      | (go_at_call 64; refine (rput_call HV1.out HL.out _ _ _).mono ?_; rintro e w2 ⟨v', rfl, hv2, hb2⟩; have HX := Lib.hid (after_new (B := B) HB.out hv2 hb2); clear hv2 hb2))
    go_ret
    rw [HE1.out]
    exact HX.out
  · obtain rfl : ck = 2 := e
    go_wp2_with (first
      | (go_at_call 64; refine (rput_call HV1.out HL.out _ _ _).mono ?_; rintro e w2 ⟨v', rfl, hv2, hb2⟩; have HX := Lib.hid (after_new (B := B) HB.out hv2 hb2); clear hv2 hb2))
    go_ret
    rw [HE2.out]
    exact HX.out
  · obtain rfl : ck = 3 := e
    go_wp2_with (first
      | (go_at_call 65; refine (rdrop_call HV1.out HL.out _).mono ?_; rintro e w2 ⟨v', rfl, hv2, hb2⟩; have HX := Lib.hid (after_new (B := B) HB.out hv2 hb2); clear hv2 hb2))
    go_ret
    rw [HE3.out]
    exact HX.out
  · obtain rfl : ck = 4 := e
    have hadb := cell_lt q0
    have hwb := cell_lt b1
    have HB1 : Hid (Below w1.heap.size w1 w1.drew) := (Below.refl _ w1).drew
    have HS : Hid (∀ W, Below w1.heap.size w1 W → (W.cell? ⟨w.heap.size, 1, none⟩ = some (.string cp) ∧ W.cell? ⟨w.heap.size, 2, none⟩ = some (.string cs) ∧ W.cell? ⟨(ad.add (i * 3)).block, (ad.add (i * 3)).off + 1, none⟩ = some (.string f.f1) ∧ W.cell? ⟨(ad.add (i * 3)).block, (ad.add (i * 3)).off + 2, none⟩ = some (.int .i64 f.f2)) ∧ Hid (Below w1.heap.size w1 W)) := fun W hW =>
      ⟨⟨(hW.cell (p := ⟨w.heap.size, 1, none⟩) hwb).trans b1, (hW.cell (p := ⟨w.heap.size, 2, none⟩) hwb).trans b2, (hW.cell (p := ⟨(ad.add (i * 3)).block, (ad.add (i * 3)).off + 1, none⟩) hadb).trans q1, (hW.cell (p := ⟨(ad.add (i * 3)).block, (ad.add (i * 3)).off + 2, none⟩) hadb).trans q2⟩, hW⟩
    have HL2 : Hid ((dropF l cp).length ≤ 1000000) := Nat.le_trans (dropF_length l cp) HL.out
    go_wp2_with fail
    first | (go_region_held3 (fun W => (W.cell? ⟨w.heap.size, 1, none⟩ = some (.string cp) ∧ W.cell? ⟨w.heap.size, 2, none⟩ = some (.string cs) ∧ W.cell? ⟨(ad.add (i * 3)).block, (ad.add (i * 3)).off + 1, none⟩ = some (.string f.f1) ∧ W.cell? ⟨(ad.add (i * 3)).block, (ad.add (i * 3)).off + 2, none⟩ = some (.int .i64 f.f2)) ∧ Hid (Below w1.heap.size w1 W)) (first | exact HS.out _ HB3.out | exact HS.out _ HB2.out | exact HS.out _ HB1.out) (first
      | (go_at_call 65; refine (rdrop_call (Kd.V_drew HV1.out) HL.out _).mono ?_; rintro e w2 ⟨v', rfl, hv2, hb2⟩; have HV2 := Lib.hid hv2; have HB2 := Lib.hid (HB1.out.trans hb2); clear hv2 hb2)
      | (go_at_call 64; refine (rput_call HV2.out HL2.out _ _ _).mono ?_; rintro e w3 ⟨v'', rfl, hv3, hb3⟩; have HX := Lib.hid (after_new (B := B) (HB.out.trans (HB2.out.mono HB.out.size)) hv3 hb3); have HB3 := Lib.hid (HB2.out.trans (hb3.mono HB2.out.size)); clear hv3 hb3))) | fail
    all_goals
      go_wp2_with fail
      go_ret
      rw [HE4.out]
      exact HX.out
theorem rafter_call (w : World) (B : Nat → Prop) (v : Value) (l : List Fl) (h : VF w B v l) (hl : l.length ≤ 100000) (hfs : ∀ f ∈ l, f.f1.size ≤ 1000000000000) (c : Cg) (hc : CgOK c) :
    Calls Tryz.prog 41 #[v, .agg (cgCells c).toArray] w (AfterEnd w B (afterF l c)) := by
  obtain ⟨ck, cp, cs, ct⟩ := c
  cases hf : findF l cp with
  | none => exact rafter_none w B v l h hl ck cp cs ct hc.kind hc.text hf
  | some f => exact rafter_some w B v l h hl ck cp cs ct hc.kind hc.text f hf (hfs f (mem_of_find hf))
theorem cgCells_at (ch : List Cg) (k : Nat) (hk : k < ch.length) (j : Nat) (hj : j < 4) : (ch.flatMap cgCells)[k * 4 + j]? = (cgCells ch[k])[j]? := by
  induction ch generalizing k with
  | nil => cases hk
  | cons c cs ih =>
    rw [List.flatMap_cons]
    have h4 : (cgCells c).length = 4 := rfl
    cases k with
    | zero => rw [List.getElem?_append_left (by omega)]; simp
    | succ k =>
      rw [List.getElem?_append_right (by omega), h4, show (k + 1) * 4 + j - 4 = k * 4 + j by omega, ih k (by simpa using hk)]
      simp
theorem cgCells_len (ch : List Cg) : (ch.flatMap cgCells).length = ch.length * 4 := by
  induction ch with
  | nil => rfl
  | cons c cs ih =>
    rw [List.flatMap_cons, List.length_append, ih, List.length_cons]
    have h4 : (cgCells c).length = 4 := rfl
    omega
theorem cgCells_one {ch : List Cg} {u : Value} (hu : u ∈ ch.flatMap cgCells) : u.oneCell' = true := by
  rw [List.mem_flatMap] at hu
  obtain ⟨c, _, hc⟩ := hu
  unfold cgCells at hc
  simp only [List.mem_cons, List.not_mem_nil, or_false] at hc
  rcases hc with rfl | rfl | rfl | rfl <;> rfl
theorem reps_cg {R : Cg → List Value → Prop} (hR : ∀ c, R c (cgCells c)) (l : List Cg) : Reps R 4 l (l.flatMap cgCells) := by
  refine ⟨cgCells_len l, fun j p hj => ?_⟩
  obtain ⟨hjl, rfl⟩ := List.getElem?_eq_some_iff.1 hj
  have : ((l.flatMap cgCells).drop (j * 4)).take 4 = cgCells l[j] := by
    apply List.ext_getElem?
    intro i
    rw [List.getElem?_take]
    by_cases hi : i < 4
    · rw [if_pos hi, List.getElem?_drop, cgCells_at l j hjl i hi]
    · rw [if_neg hi]
      exact (List.getElem?_eq_none (by show 4 ≤ i; omega)).symm
  rw [this]
  exact hR _
theorem VC_of_own {w : World} {base : Nat} {v : Value} {l : List Cg} (h : w.ownsRow base 98 4 v l.length (l.flatMap cgCells)) : VC w (fun k => base ≤ k ∧ k < w.heap.size) v l :=
  Kd.R_V (base := base) ⟨fun k hk => h.lt k hk, _, h, reps_cg (fun c => kC_mkM _ _ _ c) l⟩
theorem VC_at {w : World} {B : Nat → Prop} {v : Value} {l : List Cg} (h : VC w B v l) (h0 : 0 < l.length) :
    ∃ ad c, v = .slice (some ad) l.length c ∧ l.length ≤ c ∧ ∀ (j : Nat) u, (l.flatMap cgCells)[j]? = some u → w.cell? (ad.add j) = some u := by
  obtain ⟨A, c, rfl⟩ := Kd.V_slice h
  obtain ⟨_, hc, hC⟩ := Kd.V_reads' h
  obtain ⟨ad, rfl, hall⟩ := hC.2.2 h0
  refine ⟨ad, c, rfl, hc, fun j u hu => ?_⟩
  have hj : j < l.length * 4 := by
    have := (List.getElem?_eq_some_iff.1 hu).1
    rw [cgCells_len] at this
    exact this
  have hk : j / 4 < l.length := by omega
  obtain ⟨c', _, hK, hcell⟩ := hall (j / 4) _ (List.getElem?_eq_getElem hk)
  obtain rfl := kC_open hK
  have e1 : j = j / 4 * 4 + j % 4 := by omega
  rw [e1, cgCells_at l _ hk _ (Nat.mod_lt _ (by decide))] at hu
  rw [e1]
  exact hcell (j % 4) u hu
theorem infoCg : (Tryz.prog.info? 98).map (fun i => (i.zero, i.size, i.bytes)) = some (some (.agg #[.int .i64 0, .string ⟨#[]⟩, .string ⟨#[]⟩, .int .i64 0]), 4, 48) := by kernel_rfl
structure ChMid (w : World) (m : Nat) (T : TS) (B : Nat → Prop) (L : List Fl) (vs vc : Value) (c : Cg) (wc : World) (u : Value) : Prop where
  at_ : wc.heap[m]? = some (.cells #[.int .i64 T.room, .int .i64 T.clock, u, vs, vc] 87 (0, 0))
  now : VF wc (fun k => B k ∨ (w.heap.size ≤ k ∧ k < wc.heap.size)) u L
  chg : Chg (fun k => k = m) w wc
  box : wc.heap[w.heap.size]? = some (.cells #[.int .i64 c.f0, .string c.f1, .string c.f2, .int .i64 c.f3] 98 (0, 0))
theorem ch_mid {w w1 : World} {m : Nat} {T : TS} {B : Nat → Prop} {L : List Fl} {vl vs vc u : Value} {c : Cg} (h : RfAt w m T B vl vs vc) (hb : Below w.heap.size w w1) (hv : VF w1 (fun k => B k ∨ (w.heap.size ≤ k ∧ k < w1.heap.size)) u L)
    (hbx : w1.heap[w.heap.size]? = some (.cells #[.int .i64 c.f0, .string c.f1, .string c.f2, .int .i64 c.f3] 98 (0, 0))) : ChMid w m T B L vs vc c (w1.setCell ⟨m, 2, none⟩ u) u := by
  have hlt := h.lt
  have hat1 := (hb.block m hlt).trans h.at_
  refine ⟨?_, ?_, ?_, ?_⟩
  · rw [heap_setCell_same w1 m 2 _ _ u hat1]
    simp
  · refine Kd.V_mono (Kd.V_far hv (fun k hk => ?_) u) fun k hk => hk.imp id fun hk => ⟨hk.1, by simpa using hk.2⟩
    rcases hk with hk | hk
    · exact (h.free k hk).2
    · exact fun e => by have := hk.1; simp only at e; omega
  · exact ((Chg.refl (fun k => k = m) w).below hb).setCell (p := ⟨m, 2, none⟩) (fun _ => rfl) _
  · rw [Below.heap_setCell w1 ⟨m, 2, none⟩ u w.heap.size (fun e => by simp only at e; omega)]
    exact hbx
theorem ChMid.far {w wc : World} {m : Nat} {T : TS} {B : Nat → Prop} {L : List Fl} {vs vc u : Value} {c : Cg} (hfree : ∀ k, B k → k < w.heap.size ∧ k ≠ m) (hlt : m < w.heap.size) (h : ChMid w m T B L vs vc c wc u) :
    ChMid w m { T with clock := T.clock + 1 } B L vs vc c (wc.setCell ⟨m, 1, none⟩ (.int .i64 (T.clock + 1))) u := by
  refine ⟨?_, ?_, ?_, ?_⟩
  · rw [heap_setCell_same wc m 1 _ _ _ h.at_]
    simp
  · refine Kd.V_mono (Kd.V_far h.now (fun k hk => ?_) _) fun k hk => hk.imp id fun hk => ⟨hk.1, by simpa using hk.2⟩
    rcases hk with hk | hk
    · exact (hfree k hk).2
    · exact fun e => by have := hk.1; simp only at e; omega
  · exact h.chg.setCell (p := ⟨m, 1, none⟩) (fun _ => rfl) _
  · rw [Below.heap_setCell wc ⟨m, 1, none⟩ _ w.heap.size (fun e => by simp only at e; omega)]
    exact h.box
theorem ChMid.lt {w wc : World} {m : Nat} {T : TS} {B : Nat → Prop} {L : List Fl} {vs vc u : Value} {c : Cg} (h : ChMid w m T B L vs vc c wc u) : m < wc.heap.size ∧ w.heap.size < wc.heap.size :=
  ⟨(Array.getElem?_eq_some_iff.1 h.at_).1, (Array.getElem?_eq_some_iff.1 h.box).1⟩
theorem ChMid.below {w wc wd : World} {m : Nat} {T : TS} {B : Nat → Prop} {L : List Fl} {vs vc u : Value} {c : Cg} (h : ChMid w m T B L vs vc c wc u) (hb : Below wc.heap.size wc wd) : ChMid w m T B L vs vc c wd u :=
  ⟨(hb.block m h.lt.1).trans h.at_, Kd.V_mono (Kd.V_below h.now hb) fun k hk => hk.imp id fun hk => ⟨hk.1, Nat.lt_of_lt_of_le hk.2 hb.size⟩, h.chg.below hb, (hb.block _ h.lt.2).trans h.box⟩
theorem ch_end {w wE : World} {m : Nat} {T T1 : TS} {B : Nat → Prop} {L : List Fl} {vl vs vc u v5 : Value} {c : Cg} {base : Nat} (h : RfAt w m T B vl vs vc) (h3 : ChMid w m T1 B L vs vc c wE u) (hbase : w.heap.size ≤ base) (hlast : T1.last = T.last)
    (hown : wE.ownsRow base 98 4 v5 (T1.ch ++ [c]).length ((T1.ch ++ [c]).flatMap cgCells)) : RfEnd w m B { T1 with l := L, ch := T1.ch ++ [c] } (wE.setCell ⟨m, 4, none⟩ v5) := by
  have hlt := h.lt
  have hC := h3.chg.setCell (p := ⟨m, 4, none⟩) (fun _ => rfl) v5
  refine ⟨fun k => (B k ∨ w.heap.size ≤ k) ∧ k < wE.heap.size ∧ k ≠ m, ⟨u, vs, v5, ?_⟩, hC, fun k hk => hk.1⟩
  exact {
    at_ := by
      rw [heap_setCell_same wE m 4 _ _ _ h3.at_]
      simp
    now := by
      refine Kd.V_mono (Kd.V_bound (Kd.V_far h3.now (fun k hk => ?_) _)) fun k hk => ?_
      · rcases hk with hk | hk
        · exact (h.free k hk).2
        · exact fun e => by have := hk.1; simp only at e; omega
      · have h2 : k < wE.heap.size := by simpa using hk.2
        rcases hk.1 with hk | hk
        · exact ⟨.inl hk, h2, (h.free k hk).2⟩
        · exact ⟨.inr hk.1, h2, by have := hk.1; omega⟩
    last := by
      show VF _ _ vs T1.last
      rw [hlast]
      refine Kd.V_mono (Kd.V_step h.last fun k hk hl => hC.block k hl (h.free k hk).2) fun k hk => ⟨.inl hk, Nat.lt_of_lt_of_le (h.free k hk).1 h3.chg.size, (h.free k hk).2⟩
    row := by
      refine Kd.V_mono (Kd.V_far (VC_of_own hown) (fun k hk => ?_) _) fun k hk => ⟨.inr (Nat.le_trans hbase hk.1), hk.2, ?_⟩
      · exact fun e => by have := hk.1; simp only at e; omega
      · have := hk.1
        omega
    nil := fun e => by simp at e
    free := fun k hk => ⟨by simpa using hk.2.1, hk.2.2⟩ }
section
variable {m : Nat} {T : TS} {B : Nat → Prop}
set_option maxHeartbeats 4000000 in
set_option maxRecDepth 100000 in
theorem rchange_call (w : World) (hT : Rf w m T B) (c : Cg) (hc : CgOK c) (hl : T.l.length ≤ 100000) (hfs : ∀ f ∈ T.l, f.f1.size ≤ 1000000000000) (hck : 0 ≤ T.clock ∧ T.clock ≤ 1000000000000) (hch : T.ch.length ≤ 1000000) :
    Calls Tryz.prog 84 #[.pointer (some ⟨m, 0, none⟩), .agg (cgCells c).toArray] w fun e w' => e = .returned (.tuple #[]) ∧ RfEnd w m B (doneT T c) w' := by
  obtain ⟨vl, vs, vc, h⟩ := hT
  have HT := Lib.hid h
  have HC := Lib.hid hc
  have HFS := Lib.hid hfs
  have c2 := h.c2
  have hlt := h.lt
  clear h hc hfs
  obtain ⟨ck, cp, cs, ct⟩ := c
  unfold cgCells
  go_enter Tryz.func84, Tryz.ntmps84
  have HB0 : Hid (Below w.heap.size w ((w.alloc (.cells #[.int .i64 ck, .string cp, .string cs, .int .i64 ct] 98)).drew)) := (newBelow w _).drew
  have HW : Hid (∀ w1 v', VF w1 (fun k => B k ∨ (((w.alloc (.cells #[.int .i64 ck, .string cp, .string cs, .int .i64 ct] 98)).drew).heap.size ≤ k ∧ k < w1.heap.size)) v' (afterF T.l ⟨ck, cp, cs, ct⟩) → VF w1 (fun k => B k ∨ (w.heap.size ≤ k ∧ k < w1.heap.size)) v' (afterF T.l ⟨ck, cp, cs, ct⟩)) :=
    fun w1 v' h => Kd.V_mono h fun k hk => hk.imp id fun hk => ⟨Nat.le_trans HB0.out.size hk.1, hk.2⟩
  go_upto_region 1 with (fail)
  go_cut [13] (fun v13 wc => v13 = .pointer (some ⟨m, 2, none⟩) ∧ Hid (∃ A1 k1, ChMid w m T B (afterF T.l ⟨ck, cp, cs, ct⟩) vs vc ⟨ck, cp, cs, ct⟩ wc (.slice A1 (afterF T.l ⟨ck, cp, cs, ct⟩).length k1)))
  case first =>
    go_region_with (first
      | (go_at_call 41; refine (rafter_call _ B _ T.l (Kd.V_below HT.out.now HB0.out) hl HFS.out ⟨ck, cp, cs, ct⟩ HC.out).mono ?_; rintro e w1 ⟨v1, rfl, hv1, hb1⟩; obtain ⟨A1, k1, rfl⟩ := Kd.V_slice hv1; have hb2 := HB0.out.trans (hb1.mono HB0.out.size); have hat1 := (hb2.block m hlt).trans HT.out.at_; have d2 : w1.cell? ⟨m, 2, none⟩ = some vl := (by simp [World.cell?, hat1]); have g2 : w1.frozen? ⟨m, 2, none⟩ = false := (by simp [World.frozen?, hat1]); have HM := Lib.hid (ch_mid (c := ⟨ck, cp, cs, ct⟩) HT.out hb2 (HW.out _ _ hv1) ((hb1.block w.heap.size (by show w.heap.size < (w.alloc _).heap.size; rw [World.size_alloc]; omega)).trans (World.alloc_heap_new w _))); clear hv1 hb1 hb2 hat1))
    all_goals
      go_wp2_with fail
      go_meet
      exact ⟨rfl, _, _, HM.out⟩
  case rest =>
    obtain ⟨rfl, hM⟩ := hcut
    obtain ⟨A1, k1, hM⟩ := hM.out
    have HM := Lib.hid hM
    have m1 : wc.cell? ⟨m, 1, none⟩ = some (.int .i64 T.clock) := by simp [World.cell?, hM.at_]
    have f1 : wc.frozen? ⟨m, 1, none⟩ = false := by simp [World.frozen?, hM.at_]
    have HM3 := Lib.hid (ChMid.far HT.out.free hlt hM)
    clear hM
    go_upto_region 3 with (fail)
    generalize wc.setCell ⟨m, 1, none⟩ (.int .i64 (T.clock + 1)) = W3 at HM3
    clear m1 f1
    have m4 : W3.cell? ⟨m, 4, none⟩ = some vc := by simp [World.cell?, HM3.out.at_]
    have hmw := HM3.out.lt.1
    obtain ⟨i0, hi, hz0, hz1, hz2⟩ := info_parts infoCg
    go_cut [4] (fun v4 wd => ∃ g cap, v4 = .slice (some ⟨g, 0, none⟩) T.ch.length cap ∧ Hid (wd.ownsRow W3.heap.size 98 4 (.slice (some ⟨g, 0, none⟩) T.ch.length cap) T.ch.length (T.ch.flatMap cgCells) ∧ Below W3.heap.size W3 wd))
    case first =>
      have hO : Hid (World.ownsRow (W3.alloc (.cells #[] 98)) W3.heap.size 98 4 (.slice (some ⟨W3.heap.size, 0, none⟩) 0 0) 0 []) := ⟨rfl, .inr ⟨W3.heap.size, 0, #[], rfl, Nat.le_refl _, World.alloc_heap_new W3 _, Nat.le_refl _, by unfold maxLen; omega, rfl, rfl⟩⟩
      by_cases h0 : T.ch = []
      · obtain rfl := HT.out.nil h0
        go_wp2_with fail
        go_meet
        refine ⟨W3.heap.size, 0, by rw [h0]; rfl, ?_⟩
        rw [h0]
        exact ⟨hO.out, newBelow W3 _⟩
      · have hpos : 0 < T.ch.length := List.length_pos_iff.2 h0
        obtain ⟨ad, cc, e, hcc, hcells⟩ := VC_at (Kd.V_step HT.out.row fun k hk hl => HM3.out.chg.block k hl (HT.out.free k hk).2) hpos
        have HCE := Lib.hid hcells
        have H63 : Hid (0 + T.ch.length ≤ maxLen) := by unfold Hid maxLen; omega
        have HBB : Hid ((0 + T.ch.length) * 48 ≤ 140737488355328) := by unfold Hid; omega
        have hlen := Lib.hid (cgCells_len T.ch)
        have hone : Hid (∀ u ∈ T.ch.flatMap cgCells, u.oneCell' = true) := fun u hu => cgCells_one hu
        have hnw : Hid (∀ (j : Nat) u, (T.ch.flatMap cgCells)[j]? = some u → (W3.alloc (.cells #[] 98)).cell? (ad.add j) = some u) := fun j u hu => by
          have h1 := HCE.out j u hu
          rw [← h1]
          exact World.cell?_of_block (Below.heap_alloc W3 _ _ (cell_lt h1))
        clear hcells h0
        subst e
        go_wp2_with (first
          | (at_builtin; refine wpList_append_lies _ rfl _ _ 85 rfl W3.heap.size 98 i0 _ 4 48 Tryz.underlying85 hi hz0 hz1 hz2 rfl (by decide) (.slice (some ⟨W3.heap.size, 0, none⟩) 0 0) 0 [] rfl hO.out ad T.ch.length cc (T.ch.flatMap cgCells) rfl hlen.out hnw.out hone.out hpos H63.out HBB.out (by rw [World.size_alloc]; exact Nat.le_succ _) _ rfl ?_; intro g cap w4 h1 h2 h3 h4; have HX := Lib.hid h1; have HG := Lib.hid h2; clear h1 h2 h3 h4))
        go_meet
        refine ⟨g, cap, ?_, ?_, ?_⟩
        · simp
        · have := HX.out
          rw [Nat.zero_add, List.nil_append] at this
          exact this
        · exact (newBelow W3 _).grown HG.out (by rw [World.size_alloc]; exact Nat.le_succ _) fun k hk => by cases hk; exact Nat.le_refl _
    case rest =>
      obtain ⟨g, cap, rfl, hOB⟩ := hcut
      have HOWN := Lib.hid hOB.out.1
      have HBD := Lib.hid hOB.out.2
      have HMD := Lib.hid (HM3.out.below hOB.out.2)
      have hM := HM3.out.below hOB.out.2
      have b0 : wc.cell? ⟨w.heap.size, 0, none⟩ = some (.int .i64 ck) := by simp [World.cell?, hM.box]
      have b1 : wc.cell? ⟨w.heap.size, 1, none⟩ = some (.string cp) := by simp [World.cell?, hM.box]
      have b2 : wc.cell? ⟨w.heap.size, 2, none⟩ = some (.string cs) := by simp [World.cell?, hM.box]
      have b3 : wc.cell? ⟨w.heap.size, 3, none⟩ = some (.int .i64 ct) := by simp [World.cell?, hM.box]
      have hwd := hM.lt.1
      have hww := hM.lt.2
      have hg3 : W3.heap.size ≤ g := by
        rcases hOB.out.1.2 with ⟨e, _⟩ | ⟨g', cap', cur', e, hle, _⟩
        · cases e
        · cases e
          exact hle
      have hg3' : g < wc.heap.size := (hOB.out.1.lt g rfl).2
      clear hOB hM
      have H63 : Hid (T.ch.length + 1 ≤ maxLen) := by unfold Hid maxLen; omega
      have HBB : Hid ((T.ch.length + 1) * 48 ≤ 140737488355328) := by unfold Hid; omega
      have hone : Hid (∀ u ∈ cgCells ⟨ck, cp, cs, ct⟩, u.oneCell' = true) := fun u hu => cgCells_one (ch := [⟨ck, cp, cs, ct⟩]) (by simpa using hu)
      have hnw : Hid (∀ (j : Nat) u, (cgCells ⟨ck, cp, cs, ct⟩)[j]? = some u → (wc.alloc (.cells #[.int .i64 ck, .string cp, .string cs, .int .i64 ct] 98)).cell? ((⟨wc.heap.size, 0, none⟩ : Addr).add j) = some u) := World.news_of_block (World.alloc_heap_new wc _)
      have HEnd : Hid (∀ g2 cap2 wE, wE.ownsRow W3.heap.size 98 4 (.slice (some ⟨g2, 0, none⟩) (T.ch.length + 1) cap2) (T.ch.length + 1) (T.ch.flatMap cgCells ++ cgCells ⟨ck, cp, cs, ct⟩) → (wc.alloc (.cells #[.int .i64 ck, .string cp, .string cs, .int .i64 ct] 98)).grownBy wE (some g) →
          (wE.frozen? ⟨m, 4, none⟩ = false ∧ wE.cell? ⟨m, 4, none⟩ = some vc) ∧ RfEnd w m B (doneT T ⟨ck, cp, cs, ct⟩) (wE.setCell ⟨m, 4, none⟩ (.slice (some ⟨g2, 0, none⟩) (T.ch.length + 1) cap2))) := by
        intro g2 cap2 wE h1 h2
        have hB : Below W3.heap.size W3 wE := (HBD.out.trans ((newBelow wc _).mono HBD.out.size)).grown h2 (by rw [World.size_alloc]; exact Nat.le_succ_of_le HBD.out.size) fun k hk => by cases hk; exact hg3
        have hME := HM3.out.below hB
        refine ⟨⟨by simp [World.frozen?, hME.at_], by simp [World.cell?, hME.at_]⟩, ?_⟩
        refine ch_end (T1 := { T with clock := T.clock + 1 }) HT.out hME HM3.out.chg.size rfl ?_
        have e1 : (T.ch ++ [(⟨ck, cp, cs, ct⟩ : Cg)]).length = T.ch.length + 1 := by simp
        have e2 : (T.ch ++ [(⟨ck, cp, cs, ct⟩ : Cg)]).flatMap cgCells = T.ch.flatMap cgCells ++ cgCells ⟨ck, cp, cs, ct⟩ := by simp
        show wE.ownsRow _ _ _ _ (T.ch ++ [(⟨ck, cp, cs, ct⟩ : Cg)]).length ((T.ch ++ [(⟨ck, cp, cs, ct⟩ : Cg)]).flatMap cgCells)
        rw [e1, e2]
        exact h1
      go_wp2_with (first
        | (at_builtin; refine wpList_append_lies _ rfl _ _ 85 rfl W3.heap.size 98 i0 _ 4 48 Tryz.underlying85 hi hz0 hz1 hz2 rfl (by decide) (.slice (some ⟨g, 0, none⟩) T.ch.length cap) T.ch.length (T.ch.flatMap cgCells) rfl (HOWN.out.alloc _) ⟨wc.heap.size, 0, none⟩ 1 1 (cgCells ⟨ck, cp, cs, ct⟩) rfl rfl hnw.out hone.out (by decide) H63.out HBB.out (by rw [World.size_alloc]; exact Nat.le_succ_of_le HBD.out.size) _ rfl ?_; intro g2 cap2 wE h1 h2 h3 h4; obtain ⟨⟨fE, cE⟩, hE⟩ := HEnd.out g2 cap2 wE h1 h2; have HX := Lib.hid hE; clear h1 h2 h3 h4 hE))
      go_end0
      exact ⟨rfl, HX.out⟩
end
end Go.Proofs.YtghbaehbgefpaaaGreatDoor.Fr
