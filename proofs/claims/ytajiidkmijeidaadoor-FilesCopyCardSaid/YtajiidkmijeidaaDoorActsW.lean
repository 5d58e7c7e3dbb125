import Derived.Test.YtajiidkmijeidaaDoorWays
/- acts: an act on a tree alone. -/
namespace Go.Proofs.YtajiidkmijeidaaDoor.Fr
open Go.RowKit Go.Proofs.YtajiidkmijeidaaDoor.F Go.Proofs.YtajiidkmijeidaaDoorW.PrintWords
set_option linter.unusedVariables false
set_option linter.unusedSimpArgs false
section
variable {K : Nat → Prop} {L : List (Nat × TS)} {m p i n : Nat} {T Tm : TS} {w : World}
set_option maxHeartbeats 4000000 in
set_option maxRecDepth 100000 in
theorem acts_0 (h : Sts K L m Tm w) (hi : L[i]? = some (p, T)) (hG : Glob w) (hI : Inv n T) (hn : n ≤ 1000000) (a : Ac) (ha : AcOK a) (hj : pickI a.f0 8 = 0) :
    Calls Tryd.prog 26 #[.agg #[.pointer (some ⟨p, 0, none⟩), .pointer (some ⟨m, 0, none⟩)], .agg #[.int .i64 a.f0, .int .i64 a.f1, .int .i64 a.f2, .string a.f3, .string a.f4]] w (StEnd K (L.set i (p, actT T a)) m Tm w (.tuple #[])) := by
  have HS := Lib.hid h
  have HG := Lib.hid hG
  have HI := Lib.hid hI
  have HA := Lib.hid ha
  have HJ := Lib.hid hj
  have HX := Lib.hid hi
  have HT : Hid (actT T a = writeT T false a.f3 a.f4) := by unfold Hid actT; simp only; rw [hj]; rfl
  clear h hG hI ha hj hi
  rw [HT.out]
  go_enter Tryd.func26, Tryd.ntmps26
  go_upto_region 2 with (first | (go_at_call 13; refine (pick_call a.f0 0 HA.out.op HJ.out _).mono ?_; rintro e w1 ⟨rfl, hb⟩; have HB1 := Lib.hid ((newBelow2 w _ _).trans (hb.mono (by rw [World.size_alloc, World.size_alloc]; omega))); have HX1 := Lib.hid ((AcBoxes.new w p m a).chg (Chg.of_below hb fun _ => False) fun k e => e.elim); clear hb))
  obtain ⟨c0, c1, c2, c3, c4, c5, c6⟩ := HX1.out.cells
  go_wp2_with (first | (go_at_call 28; refine ((HS.out.below HB1.out).Write HX.out (HG.out.below HB1.out) HI.out hn a.f3 a.f4 HA.out.path (Nat.le_trans HA.out.text (by decide))).mono ?_; rintro e w2 ⟨rfl, hs, hk⟩; have HS2 := Lib.hid hs; have HK2 := Lib.hid ((Kp.of HB1.out).trans hk); clear hs hk))
  go_end0
  exact ⟨rfl, HS2.out, HK2.out⟩
set_option maxHeartbeats 4000000 in
set_option maxRecDepth 100000 in
theorem acts_1 (h : Sts K L m Tm w) (hi : L[i]? = some (p, T)) (hG : Glob w) (hI : Inv n T) (hn : n ≤ 1000000) (a : Ac) (ha : AcOK a) (hj : pickI a.f0 8 = 1) :
    Calls Tryd.prog 26 #[.agg #[.pointer (some ⟨p, 0, none⟩), .pointer (some ⟨m, 0, none⟩)], .agg #[.int .i64 a.f0, .int .i64 a.f1, .int .i64 a.f2, .string a.f3, .string a.f4]] w (StEnd K (L.set i (p, actT T a)) m Tm w (.tuple #[])) := by
  have HS := Lib.hid h
  have HG := Lib.hid hG
  have HI := Lib.hid hI
  have HA := Lib.hid ha
  have HJ := Lib.hid hj
  have HX := Lib.hid hi
  have HT : Hid (actT T a = writeT T false a.f3 a.f4) := by unfold Hid actT; simp only; rw [hj]; rfl
  clear h hG hI ha hj hi
  rw [HT.out]
  go_enter Tryd.func26, Tryd.ntmps26
  go_upto_region 2 with (first | (go_at_call 13; refine (pick_call a.f0 1 HA.out.op HJ.out _).mono ?_; rintro e w1 ⟨rfl, hb⟩; have HB1 := Lib.hid ((newBelow2 w _ _).trans (hb.mono (by rw [World.size_alloc, World.size_alloc]; omega))); have HX1 := Lib.hid ((AcBoxes.new w p m a).chg (Chg.of_below hb fun _ => False) fun k e => e.elim); clear hb))
  obtain ⟨c0, c1, c2, c3, c4, c5, c6⟩ := HX1.out.cells
  go_wp2_with (first | (go_at_call 28; refine ((HS.out.below HB1.out).Write HX.out (HG.out.below HB1.out) HI.out hn a.f3 a.f4 HA.out.path (Nat.le_trans HA.out.text (by decide))).mono ?_; rintro e w2 ⟨rfl, hs, hk⟩; have HS2 := Lib.hid hs; have HK2 := Lib.hid ((Kp.of HB1.out).trans hk); clear hs hk))
  go_end0
  exact ⟨rfl, HS2.out, HK2.out⟩
set_option maxHeartbeats 4000000 in
set_option maxRecDepth 100000 in
theorem acts_2 (h : Sts K L m Tm w) (hi : L[i]? = some (p, T)) (hG : Glob w) (hI : Inv n T) (hn : n ≤ 1000000) (a : Ac) (ha : AcOK a) (hj : pickI a.f0 8 = 2) :
    Calls Tryd.prog 26 #[.agg #[.pointer (some ⟨p, 0, none⟩), .pointer (some ⟨m, 0, none⟩)], .agg #[.int .i64 a.f0, .int .i64 a.f1, .int .i64 a.f2, .string a.f3, .string a.f4]] w (StEnd K (L.set i (p, actT T a)) m Tm w (.tuple #[])) := by
  have HS := Lib.hid h
  have HG := Lib.hid hG
  have HI := Lib.hid hI
  have HA := Lib.hid ha
  have HJ := Lib.hid hj
  have HX := Lib.hid hi
  have HT : Hid (actT T a = writeT T true a.f3 a.f4) := by unfold Hid actT; simp only; rw [hj]; rfl
  clear h hG hI ha hj hi
  rw [HT.out]
  go_enter Tryd.func26, Tryd.ntmps26
  go_upto_region 2 with (first | (go_at_call 13; refine (pick_call a.f0 2 HA.out.op HJ.out _).mono ?_; rintro e w1 ⟨rfl, hb⟩; have HB1 := Lib.hid ((newBelow2 w _ _).trans (hb.mono (by rw [World.size_alloc, World.size_alloc]; omega))); have HX1 := Lib.hid ((AcBoxes.new w p m a).chg (Chg.of_below hb fun _ => False) fun k e => e.elim); clear hb))
  obtain ⟨c0, c1, c2, c3, c4, c5, c6⟩ := HX1.out.cells
  go_wp2_with (first | (go_at_call 25; refine ((HS.out.below HB1.out).Append HX.out (HG.out.below HB1.out) HI.out hn a.f3 a.f4 HA.out.path (Nat.le_trans HA.out.text (by decide))).mono ?_; rintro e w2 ⟨rfl, hs, hk⟩; have HS2 := Lib.hid hs; have HK2 := Lib.hid ((Kp.of HB1.out).trans hk); clear hs hk))
  go_end0
  exact ⟨rfl, HS2.out, HK2.out⟩
set_option maxHeartbeats 4000000 in
set_option maxRecDepth 100000 in
theorem acts_3 (h : Sts K L m Tm w) (hi : L[i]? = some (p, T)) (hG : Glob w) (hI : Inv n T) (hn : n ≤ 1000000) (a : Ac) (ha : AcOK a) (hj : pickI a.f0 8 = 3) :
    Calls Tryd.prog 26 #[.agg #[.pointer (some ⟨p, 0, none⟩), .pointer (some ⟨m, 0, none⟩)], .agg #[.int .i64 a.f0, .int .i64 a.f1, .int .i64 a.f2, .string a.f3, .string a.f4]] w (StEnd K (L.set i (p, actT T a)) m Tm w (.tuple #[])) := by
  have HS := Lib.hid h
  have HG := Lib.hid hG
  have HI := Lib.hid hI
  have HA := Lib.hid ha
  have HJ := Lib.hid hj
  have HX := Lib.hid hi
  have HT : Hid (actT T a = writeT T true a.f3 a.f4) := by unfold Hid actT; simp only; rw [hj]; rfl
  clear h hG hI ha hj hi
  rw [HT.out]
  go_enter Tryd.func26, Tryd.ntmps26
  go_upto_region 2 with (first | (go_at_call 13; refine (pick_call a.f0 3 HA.out.op HJ.out _).mono ?_; rintro e w1 ⟨rfl, hb⟩; have HB1 := Lib.hid ((newBelow2 w _ _).trans (hb.mono (by rw [World.size_alloc, World.size_alloc]; omega))); have HX1 := Lib.hid ((AcBoxes.new w p m a).chg (Chg.of_below hb fun _ => False) fun k e => e.elim); clear hb))
  obtain ⟨c0, c1, c2, c3, c4, c5, c6⟩ := HX1.out.cells
  go_wp2_with (first | (go_at_call 25; refine ((HS.out.below HB1.out).Append HX.out (HG.out.below HB1.out) HI.out hn a.f3 a.f4 HA.out.path (Nat.le_trans HA.out.text (by decide))).mono ?_; rintro e w2 ⟨rfl, hs, hk⟩; have HS2 := Lib.hid hs; have HK2 := Lib.hid ((Kp.of HB1.out).trans hk); clear hs hk))
  go_end0
  exact ⟨rfl, HS2.out, HK2.out⟩
set_option maxHeartbeats 4000000 in
set_option maxRecDepth 100000 in
theorem acts_4 (h : Sts K L m Tm w) (hi : L[i]? = some (p, T)) (hG : Glob w) (hI : Inv n T) (hn : n ≤ 1000000) (a : Ac) (ha : AcOK a) (hj : pickI a.f0 8 = 4) :
    Calls Tryd.prog 26 #[.agg #[.pointer (some ⟨p, 0, none⟩), .pointer (some ⟨m, 0, none⟩)], .agg #[.int .i64 a.f0, .int .i64 a.f1, .int .i64 a.f2, .string a.f3, .string a.f4]] w (StEnd K (L.set i (p, actT T a)) m Tm w (.tuple #[])) := by
  have HS := Lib.hid h
  have HG := Lib.hid hG
  have HI := Lib.hid hI
  have HA := Lib.hid ha
  have HJ := Lib.hid hj
  have HX := Lib.hid hi
  have HT : Hid (actT T a = removeT T a.f3) := by unfold Hid actT; simp only; rw [hj]; rfl
  clear h hG hI ha hj hi
  rw [HT.out]
  go_enter Tryd.func26, Tryd.ntmps26
  go_upto_region 2 with (first | (go_at_call 13; refine (pick_call a.f0 4 HA.out.op HJ.out _).mono ?_; rintro e w1 ⟨rfl, hb⟩; have HB1 := Lib.hid ((newBelow2 w _ _).trans (hb.mono (by rw [World.size_alloc, World.size_alloc]; omega))); have HX1 := Lib.hid ((AcBoxes.new w p m a).chg (Chg.of_below hb fun _ => False) fun k e => e.elim); clear hb))
  obtain ⟨c0, c1, c2, c3, c4, c5, c6⟩ := HX1.out.cells
  go_wp2_with (first | (go_at_call 27; refine ((HS.out.below HB1.out).Remove HX.out (HG.out.below HB1.out) HI.out hn a.f3 HA.out.path).mono ?_; rintro e w2 ⟨rfl, hs, hk⟩; have HS2 := Lib.hid hs; have HK2 := Lib.hid ((Kp.of HB1.out).trans hk); clear hs hk))
  go_end0
  exact ⟨rfl, HS2.out, HK2.out⟩
set_option maxHeartbeats 4000000 in
set_option maxRecDepth 100000 in
theorem acts_5 (h : Sts K L m Tm w) (hi : L[i]? = some (p, T)) (hG : Glob w) (hI : Inv n T) (hn : n ≤ 1000000) (a : Ac) (ha : AcOK a) (hj : pickI a.f0 8 = 5) :
    Calls Tryd.prog 26 #[.agg #[.pointer (some ⟨p, 0, none⟩), .pointer (some ⟨m, 0, none⟩)], .agg #[.int .i64 a.f0, .int .i64 a.f1, .int .i64 a.f2, .string a.f3, .string a.f4]] w (StEnd K (L.set i (p, actT T a)) m Tm w (.tuple #[])) := by
  have HS := Lib.hid h
  have HG := Lib.hid hG
  have HI := Lib.hid hI
  have HA := Lib.hid ha
  have HJ := Lib.hid hj
  have HX := Lib.hid hi
  have HT : Hid (actT T a = renameT T a.f3 a.f4) := by unfold Hid actT; simp only; rw [hj]; rfl
  clear h hG hI ha hj hi
  rw [HT.out]
  go_enter Tryd.func26, Tryd.ntmps26
  go_upto_region 2 with (first | (go_at_call 13; refine (pick_call a.f0 5 HA.out.op HJ.out _).mono ?_; rintro e w1 ⟨rfl, hb⟩; have HB1 := Lib.hid ((newBelow2 w _ _).trans (hb.mono (by rw [World.size_alloc, World.size_alloc]; omega))); have HX1 := Lib.hid ((AcBoxes.new w p m a).chg (Chg.of_below hb fun _ => False) fun k e => e.elim); clear hb))
  obtain ⟨c0, c1, c2, c3, c4, c5, c6⟩ := HX1.out.cells
  go_wp2_with (first | (go_at_call 24; refine ((HS.out.below HB1.out).Rename HX.out (HG.out.below HB1.out) HI.out hn a.f3 a.f4 HA.out.path HA.out.text).mono ?_; rintro e w2 ⟨rfl, hs, hk⟩; have HS2 := Lib.hid hs; have HK2 := Lib.hid ((Kp.of HB1.out).trans hk); clear hs hk))
  go_end0
  exact ⟨rfl, HS2.out, HK2.out⟩
set_option maxHeartbeats 4000000 in
set_option maxRecDepth 100000 in
theorem acts_6 (h : Sts K L m Tm w) (hi : L[i]? = some (p, T)) (hG : Glob w) (hI : Inv n T) (hn : n ≤ 1000000) (a : Ac) (ha : AcOK a) (hj : pickI a.f0 8 = 6) :
    Calls Tryd.prog 26 #[.agg #[.pointer (some ⟨p, 0, none⟩), .pointer (some ⟨m, 0, none⟩)], .agg #[.int .i64 a.f0, .int .i64 a.f1, .int .i64 a.f2, .string a.f3, .string a.f4]] w (StEnd K (L.set i (p, actT T a)) m Tm w (.tuple #[])) := by
  have HS := Lib.hid h
  have HG := Lib.hid hG
  have HI := Lib.hid hI
  have HA := Lib.hid ha
  have HJ := Lib.hid hj
  have HX := Lib.hid hi
  have HT : Hid (actT T a = syncT T) := by unfold Hid actT; simp only; rw [hj]; rfl
  clear h hG hI ha hj hi
  rw [HT.out]
  go_enter Tryd.func26, Tryd.ntmps26
  go_upto_region 2 with (first | (go_at_call 13; refine (pick_call a.f0 6 HA.out.op HJ.out _).mono ?_; rintro e w1 ⟨rfl, hb⟩; have HB1 := Lib.hid ((newBelow2 w _ _).trans (hb.mono (by rw [World.size_alloc, World.size_alloc]; omega))); have HX1 := Lib.hid ((AcBoxes.new w p m a).chg (Chg.of_below hb fun _ => False) fun k e => e.elim); clear hb))
  obtain ⟨c0, c1, c2, c3, c4, c5, c6⟩ := HX1.out.cells
  go_wp2_with (first | (go_at_call 18; refine ((HS.out.below HB1.out).Sync HX.out (HG.out.below HB1.out) HI.out hn ).mono ?_; rintro e w2 ⟨rfl, hs, hk⟩; have HS2 := Lib.hid hs; have HK2 := Lib.hid ((Kp.of HB1.out).trans hk); clear hs hk))
  go_end0
  exact ⟨rfl, HS2.out, HK2.out⟩
set_option maxHeartbeats 4000000 in
set_option maxRecDepth 100000 in
theorem acts_7 (h : Sts K L m Tm w) (hi : L[i]? = some (p, T)) (hG : Glob w) (hI : Inv n T) (hn : n ≤ 1000000) (a : Ac) (ha : AcOK a) (hj : pickI a.f0 8 = 7) :
    Calls Tryd.prog 26 #[.agg #[.pointer (some ⟨p, 0, none⟩), .pointer (some ⟨m, 0, none⟩)], .agg #[.int .i64 a.f0, .int .i64 a.f1, .int .i64 a.f2, .string a.f3, .string a.f4]] w (StEnd K (L.set i (p, actT T a)) m Tm w (.tuple #[])) := by
  have HS := Lib.hid h
  have HG := Lib.hid hG
  have HI := Lib.hid hI
  have HA := Lib.hid ha
  have HJ := Lib.hid hj
  have HX := Lib.hid hi
  have HT : Hid (actT T a = crashT T a.f1 a.f2) := by unfold Hid actT; simp only; rw [hj]; rfl
  clear h hG hI ha hj hi
  rw [HT.out]
  go_enter Tryd.func26, Tryd.ntmps26
  go_upto_region 2 with (first | (go_at_call 13; refine (pick_call a.f0 7 HA.out.op HJ.out _).mono ?_; rintro e w1 ⟨rfl, hb⟩; have HB1 := Lib.hid ((newBelow2 w _ _).trans (hb.mono (by rw [World.size_alloc, World.size_alloc]; omega))); have HX1 := Lib.hid ((AcBoxes.new w p m a).chg (Chg.of_below hb fun _ => False) fun k e => e.elim); clear hb))
  obtain ⟨c0, c1, c2, c3, c4, c5, c6⟩ := HX1.out.cells
  go_wp2_with (first | (go_at_call 20; refine ((HS.out.below HB1.out).Crash HX.out (HG.out.below HB1.out) HI.out hn a.f1 a.f2 HA.out.part).mono ?_; rintro e w2 ⟨rfl, hs, hk⟩; have HS2 := Lib.hid hs; have HK2 := Lib.hid ((Kp.of HB1.out).trans hk); clear hs hk))
  go_end0
  exact ⟨rfl, HS2.out, HK2.out⟩
theorem Sts.Acts (h : Sts K L m Tm w) (hi : L[i]? = some (p, T)) (hG : Glob w) (hI : Inv n T) (hn : n ≤ 1000000) (a : Ac) (ha : AcOK a) :
    Calls Tryd.prog 26 #[.agg #[.pointer (some ⟨p, 0, none⟩), .pointer (some ⟨m, 0, none⟩)], .agg #[.int .i64 a.f0, .int .i64 a.f1, .int .i64 a.f2, .string a.f3, .string a.f4]] w (StEnd K (L.set i (p, actT T a)) m Tm w (.tuple #[])) := by
  obtain ⟨h0, h1⟩ := pickI_lt a.f0
  rcases (by omega : pickI a.f0 8 = 0 ∨ pickI a.f0 8 = 1 ∨ pickI a.f0 8 = 2 ∨ pickI a.f0 8 = 3 ∨ pickI a.f0 8 = 4 ∨ pickI a.f0 8 = 5 ∨ pickI a.f0 8 = 6 ∨ pickI a.f0 8 = 7) with e | e | e | e | e | e | e | e
  · exact acts_0 h hi hG hI hn a ha e
  · exact acts_1 h hi hG hI hn a ha e
  · exact acts_2 h hi hG hI hn a ha e
  · exact acts_3 h hi hG hI hn a ha e
  · exact acts_4 h hi hG hI hn a ha e
  · exact acts_5 h hi hG hI hn a ha e
  · exact acts_6 h hi hG hI hn a ha e
  · exact acts_7 h hi hG hI hn a ha e
end
end Go.Proofs.YtajiidkmijeidaaDoor.Fr
