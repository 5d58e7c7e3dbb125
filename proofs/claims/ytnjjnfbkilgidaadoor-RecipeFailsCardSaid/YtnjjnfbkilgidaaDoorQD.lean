import Derived.Test.YtnjjnfbkilgidaaDoorQC
import Derived.Test.YtnjjnfbkilgidaaDoorRows
import Derived.LaidSub
import Derived.Lib.LaidTab
import Derived.Deep.Slices
import Derived.ChangeArms
import Derived.Lib.SplitLaws
import Derived.Test.YtnjjnfbkilgidaaDoorQB
/- Several texts of this session in one: the walks of the functions that the laws reach, and what they tell. -/
namespace Go.Proofs.YtnjjnfbkilgidaaDoor.K
open Go.Proofs.YtnjjnfbkilgidaaDoor.Fr
open Go.Proofs.YtnjjnfbkilgidaaDoor
open Go.Proofs.YtnjjnfbkilgidaaDoor.F (S31 at_T31 errW errW_none errW_some k31 k31_mk k31_mkM k31_open k31_openM rd_T31 z31)
open Go.RowKit Go.Proofs.YtnjjnfbkilgidaaDoorW.PrintWords Go.Proofs.YtnjjnfbkilgidaaDoorW.PrintLast Go.Proofs.YtnjjnfbkilgidaaDoorW.PrintMore
attribute [local go_sem] max2_int min2_int max_two min_two max_three min_three max_four min_four   -- for this text's walks alone
set_option linter.unusedVariables false
set_option linter.unusedSimpArgs false

-- GIVEN: recipe_Run (function 11)

/-! ### cooperagelaw15_shown: function 8 -/
def cooperagelaw15_shown.f  : Option (Bool) := (recipe_Run.f (([(⟨#[99, 111, 112, 121, 32, 97, 32, 116]⟩ : ByteArray), (⟨#[109, 111, 114, 101, 32, 116, 32, 120, 32, 121]⟩ : ByteArray)] : List ByteArray)) (([(⟨(⟨#[97]⟩ : ByteArray), (⟨#[113]⟩ : ByteArray)⟩ : S31)] : List (S31))) (⟨#[116]⟩ : ByteArray) 99).bind fun bt107 => ((recipe_Run.f (([(⟨#[45, 115, 97, 109, 101, 32, 97, 32, 98]⟩ : ByteArray), (⟨#[64, 102, 97, 105, 108]⟩ : ByteArray)] : List ByteArray)) (([(⟨(⟨#[97]⟩ : ByteArray), (⟨#[49]⟩ : ByteArray)⟩ : S31), (⟨(⟨#[98]⟩ : ByteArray), (⟨#[50]⟩ : ByteArray)⟩ : S31)] : List (S31))) (⟨#[116]⟩ : ByteArray) 99).bind fun bt116 => (if bt107.1.toList = ([113, 120, 32, 121, 10] : List UInt8) then (if bt107.2.1 = true then (if bt107.2.2 = 0 then (if bt116.2.1 = true then (some false) else (some (bt116.2.2 == 11))) else (some false)) else (some false)) else (some false)))
set_option maxHeartbeats 8000000 in
set_option maxRecDepth 100000 in
theorem cooperagelaw15_shown.calls  (r : Bool) (w : World) (hG : Fr.Glob w) (h : cooperagelaw15_shown.f  = some r) :
    Calls Tryd.prog 8 #[] w fun e w' => e = .returned (.bool r) ∧ Below w.heap.size w w' := by
  have hu31 := Tryd.underlying31
  have HB := Aside0.mk (Below.refl w.heap.size w)
  have H : ((recipe_Run.f (([(⟨#[99, 111, 112, 121, 32, 97, 32, 116]⟩ : ByteArray), (⟨#[109, 111, 114, 101, 32, 116, 32, 120, 32, 121]⟩ : ByteArray)] : List ByteArray)) (([(⟨(⟨#[97]⟩ : ByteArray), (⟨#[113]⟩ : ByteArray)⟩ : S31)] : List (S31))) (⟨#[116]⟩ : ByteArray) 99).bind fun bt107 => ((recipe_Run.f (([(⟨#[45, 115, 97, 109, 101, 32, 97, 32, 98]⟩ : ByteArray), (⟨#[64, 102, 97, 105, 108]⟩ : ByteArray)] : List ByteArray)) (([(⟨(⟨#[97]⟩ : ByteArray), (⟨#[49]⟩ : ByteArray)⟩ : S31), (⟨(⟨#[98]⟩ : ByteArray), (⟨#[50]⟩ : ByteArray)⟩ : S31)] : List (S31))) (⟨#[116]⟩ : ByteArray) 99).bind fun bt116 => (if bt107.1.toList = ([113, 120, 32, 121, 10] : List UInt8) then (if bt107.2.1 = true then (if bt107.2.2 = 0 then (if bt116.2.1 = true then (some false) else (some (bt116.2.2 == 11))) else (some false)) else (some false)) else (some false)))) = some r := h
  clear h
  obtain ⟨y101, hy101⟩ : ∃ y_ : List ByteArray, y_ = (([(⟨#[99, 111, 112, 121, 32, 97, 32, 116]⟩ : ByteArray), (⟨#[109, 111, 114, 101, 32, 116, 32, 120, 32, 121]⟩ : ByteArray)] : List ByteArray)) := ⟨_, rfl⟩
  replace H : ((recipe_Run.f y101 (([(⟨(⟨#[97]⟩ : ByteArray), (⟨#[113]⟩ : ByteArray)⟩ : S31)] : List (S31))) (⟨#[116]⟩ : ByteArray) 99).bind fun bt107 => ((recipe_Run.f (([(⟨#[45, 115, 97, 109, 101, 32, 97, 32, 98]⟩ : ByteArray), (⟨#[64, 102, 97, 105, 108]⟩ : ByteArray)] : List ByteArray)) (([(⟨(⟨#[97]⟩ : ByteArray), (⟨#[49]⟩ : ByteArray)⟩ : S31), (⟨(⟨#[98]⟩ : ByteArray), (⟨#[50]⟩ : ByteArray)⟩ : S31)] : List (S31))) (⟨#[116]⟩ : ByteArray) 99).bind fun bt116 => (if bt107.1.toList = ([113, 120, 32, 121, 10] : List UInt8) then (if bt107.2.1 = true then (if bt107.2.2 = 0 then (if bt116.2.1 = true then (some false) else (some (bt116.2.2 == 11))) else (some false)) else (some false)) else (some false)))) = some r := by first | (rw [hy101]; with_reducible exact H) | (have H2_ := (Option.bind_some _ _).symm.trans H; rw [hy101]; with_reducible exact H2_) | (have H2_ := (Option.bind_some _ _).symm.trans H; with_reducible exact H2_) | with_reducible exact H | (rw [hy101]; exact H) | exact H
  have Ny101 := Aside0.mk hy101
  clear hy101
  obtain ⟨y104, hy104⟩ : ∃ y_ : List (S31), y_ = (([(⟨(⟨#[97]⟩ : ByteArray), (⟨#[113]⟩ : ByteArray)⟩ : S31)] : List (S31))) := ⟨_, rfl⟩
  replace H : ((recipe_Run.f y101 y104 (⟨#[116]⟩ : ByteArray) 99).bind fun bt107 => ((recipe_Run.f (([(⟨#[45, 115, 97, 109, 101, 32, 97, 32, 98]⟩ : ByteArray), (⟨#[64, 102, 97, 105, 108]⟩ : ByteArray)] : List ByteArray)) (([(⟨(⟨#[97]⟩ : ByteArray), (⟨#[49]⟩ : ByteArray)⟩ : S31), (⟨(⟨#[98]⟩ : ByteArray), (⟨#[50]⟩ : ByteArray)⟩ : S31)] : List (S31))) (⟨#[116]⟩ : ByteArray) 99).bind fun bt116 => (if bt107.1.toList = ([113, 120, 32, 121, 10] : List UInt8) then (if bt107.2.1 = true then (if bt107.2.2 = 0 then (if bt116.2.1 = true then (some false) else (some (bt116.2.2 == 11))) else (some false)) else (some false)) else (some false)))) = some r := by first | (rw [hy104]; with_reducible exact H) | (have H2_ := (Option.bind_some _ _).symm.trans H; rw [hy104]; with_reducible exact H2_) | (have H2_ := (Option.bind_some _ _).symm.trans H; with_reducible exact H2_) | with_reducible exact H | (rw [hy104]; exact H) | exact H
  have Ny104 := Aside0.mk hy104
  clear hy104
  replace H := Option.bind_eq_some_iff.mp H
  obtain ⟨⟨t107, t108, t109⟩, A10, H⟩ := H
  replace H : ((recipe_Run.f (([(⟨#[45, 115, 97, 109, 101, 32, 97, 32, 98]⟩ : ByteArray), (⟨#[64, 102, 97, 105, 108]⟩ : ByteArray)] : List ByteArray)) (([(⟨(⟨#[97]⟩ : ByteArray), (⟨#[49]⟩ : ByteArray)⟩ : S31), (⟨(⟨#[98]⟩ : ByteArray), (⟨#[50]⟩ : ByteArray)⟩ : S31)] : List (S31))) (⟨#[116]⟩ : ByteArray) 99).bind fun bt116 => (if t107.toList = ([113, 120, 32, 121, 10] : List UInt8) then (if t108 = true then (if t109 = 0 then (if bt116.2.1 = true then (some false) else (some (bt116.2.2 == 11))) else (some false)) else (some false)) else (some false))) = some r := H
  have A1 := Aside0.mk A10
  clear A10
  obtain ⟨y110, hy110⟩ : ∃ y_ : List ByteArray, y_ = (([(⟨#[45, 115, 97, 109, 101, 32, 97, 32, 98]⟩ : ByteArray), (⟨#[64, 102, 97, 105, 108]⟩ : ByteArray)] : List ByteArray)) := ⟨_, rfl⟩
  replace H : ((recipe_Run.f y110 (([(⟨(⟨#[97]⟩ : ByteArray), (⟨#[49]⟩ : ByteArray)⟩ : S31), (⟨(⟨#[98]⟩ : ByteArray), (⟨#[50]⟩ : ByteArray)⟩ : S31)] : List (S31))) (⟨#[116]⟩ : ByteArray) 99).bind fun bt116 => (if t107.toList = ([113, 120, 32, 121, 10] : List UInt8) then (if t108 = true then (if t109 = 0 then (if bt116.2.1 = true then (some false) else (some (bt116.2.2 == 11))) else (some false)) else (some false)) else (some false))) = some r := by first | (rw [hy110]; with_reducible exact H) | (have H2_ := (Option.bind_some _ _).symm.trans H; rw [hy110]; with_reducible exact H2_) | (have H2_ := (Option.bind_some _ _).symm.trans H; with_reducible exact H2_) | with_reducible exact H | (rw [hy110]; exact H) | exact H
  have Ny110 := Aside0.mk hy110
  clear hy110
  obtain ⟨y113, hy113⟩ : ∃ y_ : List (S31), y_ = (([(⟨(⟨#[97]⟩ : ByteArray), (⟨#[49]⟩ : ByteArray)⟩ : S31), (⟨(⟨#[98]⟩ : ByteArray), (⟨#[50]⟩ : ByteArray)⟩ : S31)] : List (S31))) := ⟨_, rfl⟩
  replace H : ((recipe_Run.f y110 y113 (⟨#[116]⟩ : ByteArray) 99).bind fun bt116 => (if t107.toList = ([113, 120, 32, 121, 10] : List UInt8) then (if t108 = true then (if t109 = 0 then (if bt116.2.1 = true then (some false) else (some (bt116.2.2 == 11))) else (some false)) else (some false)) else (some false))) = some r := by first | (rw [hy113]; with_reducible exact H) | (have H2_ := (Option.bind_some _ _).symm.trans H; rw [hy113]; with_reducible exact H2_) | (have H2_ := (Option.bind_some _ _).symm.trans H; with_reducible exact H2_) | with_reducible exact H | (rw [hy113]; exact H) | exact H
  have Ny113 := Aside0.mk hy113
  clear hy113
  replace H := Option.bind_eq_some_iff.mp H
  obtain ⟨⟨t116, t117, t118⟩, A20, H⟩ := H
  replace H : (if t107.toList = ([113, 120, 32, 121, 10] : List UInt8) then (if t108 = true then (if t109 = 0 then (if t117 = true then (some false) else (some (t118 == 11))) else (some false)) else (some false)) else (some false)) = some r := H
  have A2 := Aside0.mk A20
  clear A20
  by_cases c3 : t107.toList = ([113, 120, 32, 121, 10] : List UInt8)
  · rw [if_pos c3] at H
    have c3b0 : (t107.toList == ([113, 120, 32, 121, 10] : List UInt8)) = true := beq_iff_eq.mpr c3
    have c3b1 : (t107.toList != ([113, 120, 32, 121, 10] : List UInt8)) = false := bne_eq_false_iff_eq.mpr c3
    clear c3
    by_cases c4 : t108 = true
    · subst c4
      have H1 : (if t109 = 0 then (if t117 = true then (some false) else (some (t118 == 11))) else (some false)) = some r := by rw [if_pos rfl] at H; exact H
      clear H
      have H := H1
      clear H1
      by_cases c5 : t109 = 0
      · rw [if_pos c5] at H
        have c5b0 : (t109 == 0) = true := beq_iff_eq.mpr c5
        have c5b1 : (t109 != 0) = false := bne_eq_false_iff_eq.mpr c5
        clear c5
        by_cases c6 : t117 = true
        · subst c6
          have H1 : (some false) = some r := by rw [if_pos rfl] at H; exact H
          clear H
          have H := H1
          clear H1
          obtain rfl := Option.some.inj H
          go_enter Tryd.func8, Tryd.ntmps8
          go_wp2_with (first | ((with_reducible refine gate_dst (N := 8) rfl ?_); refine Kd.R_lit Kd.string _ 9 ?hg (N := 8) ?hd (xs := ([(⟨#[99, 111, 112, 121, 32, 97, 32, 116]⟩ : ByteArray), (⟨#[109, 111, 114, 101, 32, 116, 32, 120, 32, 121]⟩ : ByteArray)] : List ByteArray)) (inner := [.string (⟨#[99, 111, 112, 121, 32, 97, 32, 116]⟩ : ByteArray), .string (⟨#[109, 111, 114, 101, 32, 116, 32, 120, 32, 121]⟩ : ByteArray)]) (ok := fun _ => True) (okp := fun _ => True) ?hr ?hp (fun _ hk => hk) trivial (Below.refl _ _) (Nat.le_refl _) (by simp) ?_; (case hd => rfl); (case hg => rfl); (case hr => first | (go_simp; done) | (go_simp; rfl)); (case hp => exact (Reps.one (show Kd.M Kd.string _ _ _ (⟨#[99, 111, 112, 121, 32, 97, 32, 116]⟩ : ByteArray) [.string (⟨#[99, 111, 112, 121, 32, 97, 32, 116]⟩ : ByteArray)] from rfl) (Reps.one (show Kd.M Kd.string _ _ _ (⟨#[109, 111, 114, 101, 32, 116, 32, 120, 32, 121]⟩ : ByteArray) [.string (⟨#[109, 111, 114, 101, 32, 116, 32, 120, 32, 121]⟩ : ByteArray)] from rfl) (Reps.none _ _)))); intro v102 w7 ho8 hb hg_ hnew_; clear hg_ hnew_; (first | rw [← Ny101.out] at ho8 | (simp only [Int.reduceToNat] at ho8; rw [← Ny101.out] at ho8)); have n0_ := Aside0.mk (Kd.R_lower ho8 (below_size (by repeat (first | (with_reducible first | exact HB.out | apply below_alloc | apply pw_below_drewN | apply below_drew1) | exact HB.out)))); have n1_ := Aside0.mk (below_step (by repeat (first | (with_reducible first | exact HB.out | apply below_alloc | apply pw_below_drewN | apply below_drew1) | exact HB.out)) hb); clear HB; have HO103 := n0_; have HB := n1_; clear n0_ n1_; clear hb ho8) | ((with_reducible refine gate_dst (N := 10) rfl ?_); refine Kd.R_lit k31 _ 31 ?hg (N := 10) ?hd (xs := ([(⟨(⟨#[97]⟩ : ByteArray), (⟨#[113]⟩ : ByteArray)⟩ : S31)] : List (S31))) (inner := [.string (⟨#[97]⟩ : ByteArray), .string (⟨#[113]⟩ : ByteArray)]) (ok := fun _ => True) (okp := fun _ => True) ?hr ?hp (fun _ hk => hk) trivial (Below.refl _ _) (Nat.le_refl _) (by simp) ?_; (case hd => rfl); (case hg => rfl); (case hr => first | (go_simp; done) | (go_simp; rfl)); (case hp => exact (Reps.c2 (show Kd.M k31 _ _ _ (⟨(⟨#[97]⟩ : ByteArray), (⟨#[113]⟩ : ByteArray)⟩ : S31) [.string (⟨#[97]⟩ : ByteArray), .string (⟨#[113]⟩ : ByteArray)] from (k31_mkM _ _ _ (⟨(⟨#[97]⟩ : ByteArray), (⟨#[113]⟩ : ByteArray)⟩ : S31) )) (Reps.none _ _))); intro v105 w9 ho10 hb hg_ hnew_; clear hg_ hnew_; (first | rw [← Ny104.out] at ho10 | (simp only [Int.reduceToNat] at ho10; rw [← Ny104.out] at ho10)); have n0_ := Aside0.mk (Kd.R_below (by (with_reducible repeat (first | apply Kd.R_alloc | apply Kd.R_drewN | apply Kd.R_drew)); exact HO103.out) hb); have n1_ := Aside0.mk (Kd.R_lower ho10 (below_size (by repeat (first | (with_reducible first | exact HB.out | apply below_alloc | apply pw_below_drewN | apply below_drew1) | exact HB.out)))); have n2_ := Aside0.mk (below_step (by repeat (first | (with_reducible first | exact HB.out | apply below_alloc | apply pw_below_drewN | apply below_drew1) | exact HB.out)) hb); clear HO103; clear HB; have HO103 := n0_; have HO106 := n1_; have HB := n2_; clear n0_ n1_ n2_; clear hb ho10; obtain ⟨Ao11, co11, eo11⟩ := Kd.R_slice HO103.out; subst eo11; obtain ⟨Ao12, co12, eo12⟩ := Kd.R_slice HO106.out; subst eo12) | ((with_reducible refine gate_callee (f := 11) rfl ?_); refine goesL_ (some 11) rfl rfl Tryd.func11 (by kernel_rfl) rfl #[.slice Ao11 y101.length co11, .slice Ao12 y104.length co12, .string (⟨#[116]⟩ : ByteArray), .int .i64 99] rfl (by (try simp only [List.map_toArray, List.map_cons, List.map_nil]); first | done | rfl | (simp only [List.length_drop, List.length_take]; rfl)) ?_; (with_reducible refine (recipe_Run.calls _ _ y101 _ _ y104 (⟨#[116]⟩ : ByteArray) 99 t107 true t109 _ ?side1 ?side2 ?side3 ?side4 ?side5 A1.out).mono ?_); (case side1 => exact Fr.Glob.below hG (by repeat (first | (with_reducible first | exact HB.out | apply below_alloc | apply pw_below_drewN | apply below_drew1) | exact HB.out))); (case side2 => repeat (first | exact (Kd.R_reads' HO103.out).2.2 | (with_reducible refine Kd.C_alloc ?_ _) | (with_reducible refine Kd.C_drewN ?_ _) | (with_reducible refine Kd.C_drew ?_))); (case side3 => exact (Kd.R_reads' HO103.out).2.1); (case side4 => repeat (first | exact (Kd.R_reads' HO106.out).2.2 | (with_reducible refine Kd.C_alloc ?_ _) | (with_reducible refine Kd.C_drewN ?_ _) | (with_reducible refine Kd.C_drew ?_))); (case side5 => exact (Kd.R_reads' HO106.out).2.1); rintro e w13 ⟨rfl, hb⟩; refine ⟨_, rfl, ?_⟩; have n0_ := Aside0.mk (Kd.R_below (by (with_reducible repeat (first | apply Kd.R_alloc | apply Kd.R_drewN | apply Kd.R_drew)); exact HO103.out) hb); have n1_ := Aside0.mk (Kd.R_below (by (with_reducible repeat (first | apply Kd.R_alloc | apply Kd.R_drewN | apply Kd.R_drew)); exact HO106.out) hb); have n2_ := Aside0.mk (below_step (by repeat (first | (with_reducible first | exact HB.out | apply below_alloc | apply pw_below_drewN | apply below_drew1) | exact HB.out)) hb); clear HO103; clear HO106; clear HB; have HO103 := n0_; have HO106 := n1_; have HB := n2_; clear n0_ n1_ n2_; (try clear hb); (try clear hb2); (try clear hk); (try clear hi)) | ((with_reducible refine gate_dst (N := 16) rfl ?_); refine Kd.R_lit Kd.string _ 9 ?hg (N := 16) ?hd (xs := ([(⟨#[45, 115, 97, 109, 101, 32, 97, 32, 98]⟩ : ByteArray), (⟨#[64, 102, 97, 105, 108]⟩ : ByteArray)] : List ByteArray)) (inner := [.string (⟨#[45, 115, 97, 109, 101, 32, 97, 32, 98]⟩ : ByteArray), .string (⟨#[64, 102, 97, 105, 108]⟩ : ByteArray)]) (ok := fun _ => True) (okp := fun _ => True) ?hr ?hp (fun _ hk => hk) trivial (Below.refl _ _) (Nat.le_refl _) (by simp) ?_; (case hd => rfl); (case hg => rfl); (case hr => first | (go_simp; done) | (go_simp; rfl)); (case hp => exact (Reps.one (show Kd.M Kd.string _ _ _ (⟨#[45, 115, 97, 109, 101, 32, 97, 32, 98]⟩ : ByteArray) [.string (⟨#[45, 115, 97, 109, 101, 32, 97, 32, 98]⟩ : ByteArray)] from rfl) (Reps.one (show Kd.M Kd.string _ _ _ (⟨#[64, 102, 97, 105, 108]⟩ : ByteArray) [.string (⟨#[64, 102, 97, 105, 108]⟩ : ByteArray)] from rfl) (Reps.none _ _)))); intro v111 w14 ho15 hb hg_ hnew_; clear hg_ hnew_; (first | rw [← Ny110.out] at ho15 | (simp only [Int.reduceToNat] at ho15; rw [← Ny110.out] at ho15)); have n0_ := Aside0.mk (Kd.R_elder' (by (with_reducible repeat (first | apply Kd.R_alloc | apply Kd.R_drewN | apply Kd.R_drew)); exact HO103.out) (Kd.R_base ho15) hb); have n1_ := Aside0.mk (Kd.R_below (by (with_reducible repeat (first | apply Kd.R_alloc | apply Kd.R_drewN | apply Kd.R_drew)); exact HO106.out) hb); have n2_ := Aside0.mk (Kd.R_lower (Kd.R_new' ho15 (Kd.R_lt (by (with_reducible repeat (first | apply Kd.R_alloc | apply Kd.R_drewN | apply Kd.R_drew)); exact HO103.out))) (below_size (by repeat (first | (with_reducible first | exact HB.out | apply below_alloc | apply pw_below_drewN | apply below_drew1) | exact HB.out)))); have n3_ := Aside0.mk (below_step (by repeat (first | (with_reducible first | exact HB.out | apply below_alloc | apply pw_below_drewN | apply below_drew1) | exact HB.out)) hb); clear HO103; clear HO106; clear HB; have HO103 := n0_; have HO106 := n1_; have HO112 := n2_; have HB := n3_; clear n0_ n1_ n2_ n3_; clear hb ho15) | ((with_reducible refine gate_dst (N := 19) rfl ?_); refine Kd.R_lit k31 _ 31 ?hg (N := 19) ?hd (xs := ([(⟨(⟨#[97]⟩ : ByteArray), (⟨#[49]⟩ : ByteArray)⟩ : S31), (⟨(⟨#[98]⟩ : ByteArray), (⟨#[50]⟩ : ByteArray)⟩ : S31)] : List (S31))) (inner := [.string (⟨#[97]⟩ : ByteArray), .string (⟨#[49]⟩ : ByteArray), .string (⟨#[98]⟩ : ByteArray), .string (⟨#[50]⟩ : ByteArray)]) (ok := fun _ => True) (okp := fun _ => True) ?hr ?hp (fun _ hk => hk) trivial (Below.refl _ _) (Nat.le_refl _) (by simp) ?_; (case hd => rfl); (case hg => rfl); (case hr => first | (go_simp; done) | (go_simp; rfl)); (case hp => exact (Reps.c2 (show Kd.M k31 _ _ _ (⟨(⟨#[97]⟩ : ByteArray), (⟨#[49]⟩ : ByteArray)⟩ : S31) [.string (⟨#[97]⟩ : ByteArray), .string (⟨#[49]⟩ : ByteArray)] from (k31_mkM _ _ _ (⟨(⟨#[97]⟩ : ByteArray), (⟨#[49]⟩ : ByteArray)⟩ : S31) )) (Reps.c2 (show Kd.M k31 _ _ _ (⟨(⟨#[98]⟩ : ByteArray), (⟨#[50]⟩ : ByteArray)⟩ : S31) [.string (⟨#[98]⟩ : ByteArray), .string (⟨#[50]⟩ : ByteArray)] from (k31_mkM _ _ _ (⟨(⟨#[98]⟩ : ByteArray), (⟨#[50]⟩ : ByteArray)⟩ : S31) )) (Reps.none _ _)))); intro v114 w16 ho17 hb hg_ hnew_; clear hg_ hnew_; (first | rw [← Ny113.out] at ho17 | (simp only [Int.reduceToNat] at ho17; rw [← Ny113.out] at ho17)); have n0_ := Aside0.mk (Kd.R_below (by (with_reducible repeat (first | apply Kd.R_alloc | apply Kd.R_drewN | apply Kd.R_drew)); exact HO103.out) hb); have n1_ := Aside0.mk (Kd.R_elder' (by (with_reducible repeat (first | apply Kd.R_alloc | apply Kd.R_drewN | apply Kd.R_drew)); exact HO106.out) (Kd.R_base ho17) hb); have n2_ := Aside0.mk (Kd.R_below (by (with_reducible repeat (first | apply Kd.R_alloc | apply Kd.R_drewN | apply Kd.R_drew)); exact HO112.out) hb); have n3_ := Aside0.mk (Kd.R_lower (Kd.R_new' ho17 (Kd.R_lt (by (with_reducible repeat (first | apply Kd.R_alloc | apply Kd.R_drewN | apply Kd.R_drew)); exact HO106.out))) (below_size (by repeat (first | (with_reducible first | exact HB.out | apply below_alloc | apply pw_below_drewN | apply below_drew1) | exact HB.out)))); have n4_ := Aside0.mk (below_step (by repeat (first | (with_reducible first | exact HB.out | apply below_alloc | apply pw_below_drewN | apply below_drew1) | exact HB.out)) hb); clear HO103; clear HO106; clear HO112; clear HB; have HO103 := n0_; have HO106 := n1_; have HO112 := n2_; have HO115 := n3_; have HB := n4_; clear n0_ n1_ n2_ n3_ n4_; clear hb ho17; obtain ⟨Ao18, co18, eo18⟩ := Kd.R_slice HO112.out; subst eo18; obtain ⟨Ao19, co19, eo19⟩ := Kd.R_slice HO115.out; subst eo19) | ((with_reducible refine gate_callee (f := 11) rfl ?_); refine goesL_ (some 20) rfl rfl Tryd.func11 (by kernel_rfl) rfl #[.slice Ao18 y110.length co18, .slice Ao19 y113.length co19, .string (⟨#[116]⟩ : ByteArray), .int .i64 99] rfl (by (try simp only [List.map_toArray, List.map_cons, List.map_nil]); first | done | rfl | (simp only [List.length_drop, List.length_take]; rfl)) ?_; (with_reducible refine (recipe_Run.calls _ _ y110 _ _ y113 (⟨#[116]⟩ : ByteArray) 99 t116 true t118 _ ?side1 ?side2 ?side3 ?side4 ?side5 A2.out).mono ?_); (case side1 => exact Fr.Glob.below hG (by repeat (first | (with_reducible first | exact HB.out | apply below_alloc | apply pw_below_drewN | apply below_drew1) | exact HB.out))); (case side2 => repeat (first | exact (Kd.R_reads' HO112.out).2.2 | (with_reducible refine Kd.C_alloc ?_ _) | (with_reducible refine Kd.C_drewN ?_ _) | (with_reducible refine Kd.C_drew ?_))); (case side3 => exact (Kd.R_reads' HO112.out).2.1); (case side4 => repeat (first | exact (Kd.R_reads' HO115.out).2.2 | (with_reducible refine Kd.C_alloc ?_ _) | (with_reducible refine Kd.C_drewN ?_ _) | (with_reducible refine Kd.C_drew ?_))); (case side5 => exact (Kd.R_reads' HO115.out).2.1); rintro e w20 ⟨rfl, hb⟩; refine ⟨_, rfl, ?_⟩; have n0_ := Aside0.mk (Kd.R_below (by (with_reducible repeat (first | apply Kd.R_alloc | apply Kd.R_drewN | apply Kd.R_drew)); exact HO103.out) hb); have n1_ := Aside0.mk (Kd.R_below (by (with_reducible repeat (first | apply Kd.R_alloc | apply Kd.R_drewN | apply Kd.R_drew)); exact HO106.out) hb); have n2_ := Aside0.mk (Kd.R_below (by (with_reducible repeat (first | apply Kd.R_alloc | apply Kd.R_drewN | apply Kd.R_drew)); exact HO112.out) hb); have n3_ := Aside0.mk (Kd.R_below (by (with_reducible repeat (first | apply Kd.R_alloc | apply Kd.R_drewN | apply Kd.R_drew)); exact HO115.out) hb); have n4_ := Aside0.mk (below_step (by repeat (first | (with_reducible first | exact HB.out | apply below_alloc | apply pw_below_drewN | apply below_drew1) | exact HB.out)) hb); clear HO103; clear HO106; clear HO112; clear HO115; clear HB; have HO103 := n0_; have HO106 := n1_; have HO112 := n2_; have HO115 := n3_; have HB := n4_; clear n0_ n1_ n2_ n3_ n4_; (try clear hb); (try clear hb2); (try clear hk); (try clear hi)))
          go_ret
          exact ⟨by first | rfl | (simp [errW_none, errW_some] <;> rfl) | (simp [*, errW_none, errW_some] <;> rfl), by repeat (first | (with_reducible first | exact HB.out | apply below_alloc | apply pw_below_drewN | apply below_drew1) | exact HB.out)⟩
        · replace c6 := Bool.eq_false_iff.mpr c6
          subst c6
          have H1 : (some (t118 == 11)) = some r := by rw [if_neg (show ¬ (false = true) by decide)] at H; exact H
          clear H
          have H := H1
          clear H1
          obtain rfl := Option.some.inj H
          go_enter Tryd.func8, Tryd.ntmps8
          go_wp2_with (first | ((with_reducible refine gate_dst (N := 8) rfl ?_); refine Kd.R_lit Kd.string _ 9 ?hg (N := 8) ?hd (xs := ([(⟨#[99, 111, 112, 121, 32, 97, 32, 116]⟩ : ByteArray), (⟨#[109, 111, 114, 101, 32, 116, 32, 120, 32, 121]⟩ : ByteArray)] : List ByteArray)) (inner := [.string (⟨#[99, 111, 112, 121, 32, 97, 32, 116]⟩ : ByteArray), .string (⟨#[109, 111, 114, 101, 32, 116, 32, 120, 32, 121]⟩ : ByteArray)]) (ok := fun _ => True) (okp := fun _ => True) ?hr ?hp (fun _ hk => hk) trivial (Below.refl _ _) (Nat.le_refl _) (by simp) ?_; (case hd => rfl); (case hg => rfl); (case hr => first | (go_simp; done) | (go_simp; rfl)); (case hp => exact (Reps.one (show Kd.M Kd.string _ _ _ (⟨#[99, 111, 112, 121, 32, 97, 32, 116]⟩ : ByteArray) [.string (⟨#[99, 111, 112, 121, 32, 97, 32, 116]⟩ : ByteArray)] from rfl) (Reps.one (show Kd.M Kd.string _ _ _ (⟨#[109, 111, 114, 101, 32, 116, 32, 120, 32, 121]⟩ : ByteArray) [.string (⟨#[109, 111, 114, 101, 32, 116, 32, 120, 32, 121]⟩ : ByteArray)] from rfl) (Reps.none _ _)))); intro v102 w21 ho22 hb hg_ hnew_; clear hg_ hnew_; (first | rw [← Ny101.out] at ho22 | (simp only [Int.reduceToNat] at ho22; rw [← Ny101.out] at ho22)); have n0_ := Aside0.mk (Kd.R_lower ho22 (below_size (by repeat (first | (with_reducible first | exact HB.out | apply below_alloc | apply pw_below_drewN | apply below_drew1) | exact HB.out)))); have n1_ := Aside0.mk (below_step (by repeat (first | (with_reducible first | exact HB.out | apply below_alloc | apply pw_below_drewN | apply below_drew1) | exact HB.out)) hb); clear HB; have HO103 := n0_; have HB := n1_; clear n0_ n1_; clear hb ho22) | ((with_reducible refine gate_dst (N := 10) rfl ?_); refine Kd.R_lit k31 _ 31 ?hg (N := 10) ?hd (xs := ([(⟨(⟨#[97]⟩ : ByteArray), (⟨#[113]⟩ : ByteArray)⟩ : S31)] : List (S31))) (inner := [.string (⟨#[97]⟩ : ByteArray), .string (⟨#[113]⟩ : ByteArray)]) (ok := fun _ => True) (okp := fun _ => True) ?hr ?hp (fun _ hk => hk) trivial (Below.refl _ _) (Nat.le_refl _) (by simp) ?_; (case hd => rfl); (case hg => rfl); (case hr => first | (go_simp; done) | (go_simp; rfl)); (case hp => exact (Reps.c2 (show Kd.M k31 _ _ _ (⟨(⟨#[97]⟩ : ByteArray), (⟨#[113]⟩ : ByteArray)⟩ : S31) [.string (⟨#[97]⟩ : ByteArray), .string (⟨#[113]⟩ : ByteArray)] from (k31_mkM _ _ _ (⟨(⟨#[97]⟩ : ByteArray), (⟨#[113]⟩ : ByteArray)⟩ : S31) )) (Reps.none _ _))); intro v105 w23 ho24 hb hg_ hnew_; clear hg_ hnew_; (first | rw [← Ny104.out] at ho24 | (simp only [Int.reduceToNat] at ho24; rw [← Ny104.out] at ho24)); have n0_ := Aside0.mk (Kd.R_below (by (with_reducible repeat (first | apply Kd.R_alloc | apply Kd.R_drewN | apply Kd.R_drew)); exact HO103.out) hb); have n1_ := Aside0.mk (Kd.R_lower ho24 (below_size (by repeat (first | (with_reducible first | exact HB.out | apply below_alloc | apply pw_below_drewN | apply below_drew1) | exact HB.out)))); have n2_ := Aside0.mk (below_step (by repeat (first | (with_reducible first | exact HB.out | apply below_alloc | apply pw_below_drewN | apply below_drew1) | exact HB.out)) hb); clear HO103; clear HB; have HO103 := n0_; have HO106 := n1_; have HB := n2_; clear n0_ n1_ n2_; clear hb ho24; obtain ⟨Ao25, co25, eo25⟩ := Kd.R_slice HO103.out; subst eo25; obtain ⟨Ao26, co26, eo26⟩ := Kd.R_slice HO106.out; subst eo26) | ((with_reducible refine gate_callee (f := 11) rfl ?_); refine goesL_ (some 11) rfl rfl Tryd.func11 (by kernel_rfl) rfl #[.slice Ao25 y101.length co25, .slice Ao26 y104.length co26, .string (⟨#[116]⟩ : ByteArray), .int .i64 99] rfl (by (try simp only [List.map_toArray, List.map_cons, List.map_nil]); first | done | rfl | (simp only [List.length_drop, List.length_take]; rfl)) ?_; (with_reducible refine (recipe_Run.calls _ _ y101 _ _ y104 (⟨#[116]⟩ : ByteArray) 99 t107 true t109 _ ?side1 ?side2 ?side3 ?side4 ?side5 A1.out).mono ?_); (case side1 => exact Fr.Glob.below hG (by repeat (first | (with_reducible first | exact HB.out | apply below_alloc | apply pw_below_drewN | apply below_drew1) | exact HB.out))); (case side2 => repeat (first | exact (Kd.R_reads' HO103.out).2.2 | (with_reducible refine Kd.C_alloc ?_ _) | (with_reducible refine Kd.C_drewN ?_ _) | (with_reducible refine Kd.C_drew ?_))); (case side3 => exact (Kd.R_reads' HO103.out).2.1); (case side4 => repeat (first | exact (Kd.R_reads' HO106.out).2.2 | (with_reducible refine Kd.C_alloc ?_ _) | (with_reducible refine Kd.C_drewN ?_ _) | (with_reducible refine Kd.C_drew ?_))); (case side5 => exact (Kd.R_reads' HO106.out).2.1); rintro e w27 ⟨rfl, hb⟩; refine ⟨_, rfl, ?_⟩; have n0_ := Aside0.mk (Kd.R_below (by (with_reducible repeat (first | apply Kd.R_alloc | apply Kd.R_drewN | apply Kd.R_drew)); exact HO103.out) hb); have n1_ := Aside0.mk (Kd.R_below (by (with_reducible repeat (first | apply Kd.R_alloc | apply Kd.R_drewN | apply Kd.R_drew)); exact HO106.out) hb); have n2_ := Aside0.mk (below_step (by repeat (first | (with_reducible first | exact HB.out | apply below_alloc | apply pw_below_drewN | apply below_drew1) | exact HB.out)) hb); clear HO103; clear HO106; clear HB; have HO103 := n0_; have HO106 := n1_; have HB := n2_; clear n0_ n1_ n2_; (try clear hb); (try clear hb2); (try clear hk); (try clear hi)) | ((with_reducible refine gate_dst (N := 16) rfl ?_); refine Kd.R_lit Kd.string _ 9 ?hg (N := 16) ?hd (xs := ([(⟨#[45, 115, 97, 109, 101, 32, 97, 32, 98]⟩ : ByteArray), (⟨#[64, 102, 97, 105, 108]⟩ : ByteArray)] : List ByteArray)) (inner := [.string (⟨#[45, 115, 97, 109, 101, 32, 97, 32, 98]⟩ : ByteArray), .string (⟨#[64, 102, 97, 105, 108]⟩ : ByteArray)]) (ok := fun _ => True) (okp := fun _ => True) ?hr ?hp (fun _ hk => hk) trivial (Below.refl _ _) (Nat.le_refl _) (by simp) ?_; (case hd => rfl); (case hg => rfl); (case hr => first | (go_simp; done) | (go_simp; rfl)); (case hp => exact (Reps.one (show Kd.M Kd.string _ _ _ (⟨#[45, 115, 97, 109, 101, 32, 97, 32, 98]⟩ : ByteArray) [.string (⟨#[45, 115, 97, 109, 101, 32, 97, 32, 98]⟩ : ByteArray)] from rfl) (Reps.one (show Kd.M Kd.string _ _ _ (⟨#[64, 102, 97, 105, 108]⟩ : ByteArray) [.string (⟨#[64, 102, 97, 105, 108]⟩ : ByteArray)] from rfl) (Reps.none _ _)))); intro v111 w28 ho29 hb hg_ hnew_; clear hg_ hnew_; (first | rw [← Ny110.out] at ho29 | (simp only [Int.reduceToNat] at ho29; rw [← Ny110.out] at ho29)); have n0_ := Aside0.mk (Kd.R_elder' (by (with_reducible repeat (first | apply Kd.R_alloc | apply Kd.R_drewN | apply Kd.R_drew)); exact HO103.out) (Kd.R_base ho29) hb); have n1_ := Aside0.mk (Kd.R_below (by (with_reducible repeat (first | apply Kd.R_alloc | apply Kd.R_drewN | apply Kd.R_drew)); exact HO106.out) hb); have n2_ := Aside0.mk (Kd.R_lower (Kd.R_new' ho29 (Kd.R_lt (by (with_reducible repeat (first | apply Kd.R_alloc | apply Kd.R_drewN | apply Kd.R_drew)); exact HO103.out))) (below_size (by repeat (first | (with_reducible first | exact HB.out | apply below_alloc | apply pw_below_drewN | apply below_drew1) | exact HB.out)))); have n3_ := Aside0.mk (below_step (by repeat (first | (with_reducible first | exact HB.out | apply below_alloc | apply pw_below_drewN | apply below_drew1) | exact HB.out)) hb); clear HO103; clear HO106; clear HB; have HO103 := n0_; have HO106 := n1_; have HO112 := n2_; have HB := n3_; clear n0_ n1_ n2_ n3_; clear hb ho29) | ((with_reducible refine gate_dst (N := 19) rfl ?_); refine Kd.R_lit k31 _ 31 ?hg (N := 19) ?hd (xs := ([(⟨(⟨#[97]⟩ : ByteArray), (⟨#[49]⟩ : ByteArray)⟩ : S31), (⟨(⟨#[98]⟩ : ByteArray), (⟨#[50]⟩ : ByteArray)⟩ : S31)] : List (S31))) (inner := [.string (⟨#[97]⟩ : ByteArray), .string (⟨#[49]⟩ : ByteArray), .string (⟨#[98]⟩ : ByteArray), .string (⟨#[50]⟩ : ByteArray)]) (ok := fun _ => True) (okp := fun _ => True) ?hr ?hp (fun _ hk => hk) trivial (Below.refl _ _) (Nat.le_refl _) (by simp) ?_; (case hd => rfl); (case hg => rfl); (case hr => first | (go_simp; done) | (go_simp; rfl)); (case hp => exact (Reps.c2 (show Kd.M k31 _ _ _ (⟨(⟨#[97]⟩ : ByteArray), (⟨#[49]⟩ : ByteArray)⟩ : S31) [.string (⟨#[97]⟩ : ByteArray), .string (⟨#[49]⟩ : ByteArray)] from (k31_mkM _ _ _ (⟨(⟨#[97]⟩ : ByteArray), (⟨#[49]⟩ : ByteArray)⟩ : S31) )) (Reps.c2 (show Kd.M k31 _ _ _ (⟨(⟨#[98]⟩ : ByteArray), (⟨#[50]⟩ : ByteArray)⟩ : S31) [.string (⟨#[98]⟩ : ByteArray), .string (⟨#[50]⟩ : ByteArray)] from (k31_mkM _ _ _ (⟨(⟨#[98]⟩ : ByteArray), (⟨#[50]⟩ : ByteArray)⟩ : S31) )) (Reps.none _ _)))); intro v114 w30 ho31 hb hg_ hnew_; clear hg_ hnew_; (first | rw [← Ny113.out] at ho31 | (simp only [Int.reduceToNat] at ho31; rw [← Ny113.out] at ho31)); have n0_ := Aside0.mk (Kd.R_below (by (with_reducible repeat (first | apply Kd.R_alloc | apply Kd.R_drewN | apply Kd.R_drew)); exact HO103.out) hb); have n1_ := Aside0.mk (Kd.R_elder' (by (with_reducible repeat (first | apply Kd.R_alloc | apply Kd.R_drewN | apply Kd.R_drew)); exact HO106.out) (Kd.R_base ho31) hb); have n2_ := Aside0.mk (Kd.R_below (by (with_reducible repeat (first | apply Kd.R_alloc | apply Kd.R_drewN | apply Kd.R_drew)); exact HO112.out) hb); have n3_ := Aside0.mk (Kd.R_lower (Kd.R_new' ho31 (Kd.R_lt (by (with_reducible repeat (first | apply Kd.R_alloc | apply Kd.R_drewN | apply Kd.R_drew)); exact HO106.out))) (below_size (by repeat (first | (with_reducible first | exact HB.out | apply below_alloc | apply pw_below_drewN | apply below_drew1) | exact HB.out)))); have n4_ := Aside0.mk (below_step (by repeat (first | (with_reducible first | exact HB.out | apply below_alloc | apply pw_below_drewN | apply below_drew1) | exact HB.out)) hb); clear HO103; clear HO106; clear HO112; clear HB; have HO103 := n0_; have HO106 := n1_; have HO112 := n2_; have HO115 := n3_; have HB := n4_; clear n0_ n1_ n2_ n3_ n4_; clear hb ho31; obtain ⟨Ao32, co32, eo32⟩ := Kd.R_slice HO112.out; subst eo32; obtain ⟨Ao33, co33, eo33⟩ := Kd.R_slice HO115.out; subst eo33) | ((with_reducible refine gate_callee (f := 11) rfl ?_); refine goesL_ (some 20) rfl rfl Tryd.func11 (by kernel_rfl) rfl #[.slice Ao32 y110.length co32, .slice Ao33 y113.length co33, .string (⟨#[116]⟩ : ByteArray), .int .i64 99] rfl (by (try simp only [List.map_toArray, List.map_cons, List.map_nil]); first | done | rfl | (simp only [List.length_drop, List.length_take]; rfl)) ?_; (with_reducible refine (recipe_Run.calls _ _ y110 _ _ y113 (⟨#[116]⟩ : ByteArray) 99 t116 false t118 _ ?side1 ?side2 ?side3 ?side4 ?side5 A2.out).mono ?_); (case side1 => exact Fr.Glob.below hG (by repeat (first | (with_reducible first | exact HB.out | apply below_alloc | apply pw_below_drewN | apply below_drew1) | exact HB.out))); (case side2 => repeat (first | exact (Kd.R_reads' HO112.out).2.2 | (with_reducible refine Kd.C_alloc ?_ _) | (with_reducible refine Kd.C_drewN ?_ _) | (with_reducible refine Kd.C_drew ?_))); (case side3 => exact (Kd.R_reads' HO112.out).2.1); (case side4 => repeat (first | exact (Kd.R_reads' HO115.out).2.2 | (with_reducible refine Kd.C_alloc ?_ _) | (with_reducible refine Kd.C_drewN ?_ _) | (with_reducible refine Kd.C_drew ?_))); (case side5 => exact (Kd.R_reads' HO115.out).2.1); rintro e w34 ⟨rfl, hb⟩; refine ⟨_, rfl, ?_⟩; have n0_ := Aside0.mk (Kd.R_below (by (with_reducible repeat (first | apply Kd.R_alloc | apply Kd.R_drewN | apply Kd.R_drew)); exact HO103.out) hb); have n1_ := Aside0.mk (Kd.R_below (by (with_reducible repeat (first | apply Kd.R_alloc | apply Kd.R_drewN | apply Kd.R_drew)); exact HO106.out) hb); have n2_ := Aside0.mk (Kd.R_below (by (with_reducible repeat (first | apply Kd.R_alloc | apply Kd.R_drewN | apply Kd.R_drew)); exact HO112.out) hb); have n3_ := Aside0.mk (Kd.R_below (by (with_reducible repeat (first | apply Kd.R_alloc | apply Kd.R_drewN | apply Kd.R_drew)); exact HO115.out) hb); have n4_ := Aside0.mk (below_step (by repeat (first | (with_reducible first | exact HB.out | apply below_alloc | apply pw_below_drewN | apply below_drew1) | exact HB.out)) hb); clear HO103; clear HO106; clear HO112; clear HO115; clear HB; have HO103 := n0_; have HO106 := n1_; have HO112 := n2_; have HO115 := n3_; have HB := n4_; clear n0_ n1_ n2_ n3_ n4_; (try clear hb); (try clear hb2); (try clear hk); (try clear hi)))
          go_ret
          exact ⟨by first | rfl | (simp [errW_none, errW_some] <;> rfl) | (simp [*, errW_none, errW_some] <;> rfl), by repeat (first | (with_reducible first | exact HB.out | apply below_alloc | apply pw_below_drewN | apply below_drew1) | exact HB.out)⟩
      · rw [if_neg c5] at H
        have c5b0 : (t109 == 0) = false := beq_eq_false_iff_ne.mpr c5
        have c5b1 : (t109 != 0) = true := bne_iff_ne.mpr c5
        obtain rfl := Option.some.inj H
        go_enter Tryd.func8, Tryd.ntmps8
        go_wp2_with (first | ((with_reducible refine gate_dst (N := 8) rfl ?_); refine Kd.R_lit Kd.string _ 9 ?hg (N := 8) ?hd (xs := ([(⟨#[99, 111, 112, 121, 32, 97, 32, 116]⟩ : ByteArray), (⟨#[109, 111, 114, 101, 32, 116, 32, 120, 32, 121]⟩ : ByteArray)] : List ByteArray)) (inner := [.string (⟨#[99, 111, 112, 121, 32, 97, 32, 116]⟩ : ByteArray), .string (⟨#[109, 111, 114, 101, 32, 116, 32, 120, 32, 121]⟩ : ByteArray)]) (ok := fun _ => True) (okp := fun _ => True) ?hr ?hp (fun _ hk => hk) trivial (Below.refl _ _) (Nat.le_refl _) (by simp) ?_; (case hd => rfl); (case hg => rfl); (case hr => first | (go_simp; done) | (go_simp; rfl)); (case hp => exact (Reps.one (show Kd.M Kd.string _ _ _ (⟨#[99, 111, 112, 121, 32, 97, 32, 116]⟩ : ByteArray) [.string (⟨#[99, 111, 112, 121, 32, 97, 32, 116]⟩ : ByteArray)] from rfl) (Reps.one (show Kd.M Kd.string _ _ _ (⟨#[109, 111, 114, 101, 32, 116, 32, 120, 32, 121]⟩ : ByteArray) [.string (⟨#[109, 111, 114, 101, 32, 116, 32, 120, 32, 121]⟩ : ByteArray)] from rfl) (Reps.none _ _)))); intro v102 w35 ho36 hb hg_ hnew_; clear hg_ hnew_; (first | rw [← Ny101.out] at ho36 | (simp only [Int.reduceToNat] at ho36; rw [← Ny101.out] at ho36)); have n0_ := Aside0.mk (Kd.R_lower ho36 (below_size (by repeat (first | (with_reducible first | exact HB.out | apply below_alloc | apply pw_below_drewN | apply below_drew1) | exact HB.out)))); have n1_ := Aside0.mk (below_step (by repeat (first | (with_reducible first | exact HB.out | apply below_alloc | apply pw_below_drewN | apply below_drew1) | exact HB.out)) hb); clear HB; have HO103 := n0_; have HB := n1_; clear n0_ n1_; clear hb ho36) | ((with_reducible refine gate_dst (N := 10) rfl ?_); refine Kd.R_lit k31 _ 31 ?hg (N := 10) ?hd (xs := ([(⟨(⟨#[97]⟩ : ByteArray), (⟨#[113]⟩ : ByteArray)⟩ : S31)] : List (S31))) (inner := [.string (⟨#[97]⟩ : ByteArray), .string (⟨#[113]⟩ : ByteArray)]) (ok := fun _ => True) (okp := fun _ => True) ?hr ?hp (fun _ hk => hk) trivial (Below.refl _ _) (Nat.le_refl _) (by simp) ?_; (case hd => rfl); (case hg => rfl); (case hr => first | (go_simp; done) | (go_simp; rfl)); (case hp => exact (Reps.c2 (show Kd.M k31 _ _ _ (⟨(⟨#[97]⟩ : ByteArray), (⟨#[113]⟩ : ByteArray)⟩ : S31) [.string (⟨#[97]⟩ : ByteArray), .string (⟨#[113]⟩ : ByteArray)] from (k31_mkM _ _ _ (⟨(⟨#[97]⟩ : ByteArray), (⟨#[113]⟩ : ByteArray)⟩ : S31) )) (Reps.none _ _))); intro v105 w37 ho38 hb hg_ hnew_; clear hg_ hnew_; (first | rw [← Ny104.out] at ho38 | (simp only [Int.reduceToNat] at ho38; rw [← Ny104.out] at ho38)); have n0_ := Aside0.mk (Kd.R_below (by (with_reducible repeat (first | apply Kd.R_alloc | apply Kd.R_drewN | apply Kd.R_drew)); exact HO103.out) hb); have n1_ := Aside0.mk (Kd.R_lower ho38 (below_size (by repeat (first | (with_reducible first | exact HB.out | apply below_alloc | apply pw_below_drewN | apply below_drew1) | exact HB.out)))); have n2_ := Aside0.mk (below_step (by repeat (first | (with_reducible first | exact HB.out | apply below_alloc | apply pw_below_drewN | apply below_drew1) | exact HB.out)) hb); clear HO103; clear HB; have HO103 := n0_; have HO106 := n1_; have HB := n2_; clear n0_ n1_ n2_; clear hb ho38; obtain ⟨Ao39, co39, eo39⟩ := Kd.R_slice HO103.out; subst eo39; obtain ⟨Ao40, co40, eo40⟩ := Kd.R_slice HO106.out; subst eo40) | ((with_reducible refine gate_callee (f := 11) rfl ?_); refine goesL_ (some 11) rfl rfl Tryd.func11 (by kernel_rfl) rfl #[.slice Ao39 y101.length co39, .slice Ao40 y104.length co40, .string (⟨#[116]⟩ : ByteArray), .int .i64 99] rfl (by (try simp only [List.map_toArray, List.map_cons, List.map_nil]); first | done | rfl | (simp only [List.length_drop, List.length_take]; rfl)) ?_; (with_reducible refine (recipe_Run.calls _ _ y101 _ _ y104 (⟨#[116]⟩ : ByteArray) 99 t107 true t109 _ ?side1 ?side2 ?side3 ?side4 ?side5 A1.out).mono ?_); (case side1 => exact Fr.Glob.below hG (by repeat (first | (with_reducible first | exact HB.out | apply below_alloc | apply pw_below_drewN | apply below_drew1) | exact HB.out))); (case side2 => repeat (first | exact (Kd.R_reads' HO103.out).2.2 | (with_reducible refine Kd.C_alloc ?_ _) | (with_reducible refine Kd.C_drewN ?_ _) | (with_reducible refine Kd.C_drew ?_))); (case side3 => exact (Kd.R_reads' HO103.out).2.1); (case side4 => repeat (first | exact (Kd.R_reads' HO106.out).2.2 | (with_reducible refine Kd.C_alloc ?_ _) | (with_reducible refine Kd.C_drewN ?_ _) | (with_reducible refine Kd.C_drew ?_))); (case side5 => exact (Kd.R_reads' HO106.out).2.1); rintro e w41 ⟨rfl, hb⟩; refine ⟨_, rfl, ?_⟩; have n0_ := Aside0.mk (Kd.R_below (by (with_reducible repeat (first | apply Kd.R_alloc | apply Kd.R_drewN | apply Kd.R_drew)); exact HO103.out) hb); have n1_ := Aside0.mk (Kd.R_below (by (with_reducible repeat (first | apply Kd.R_alloc | apply Kd.R_drewN | apply Kd.R_drew)); exact HO106.out) hb); have n2_ := Aside0.mk (below_step (by repeat (first | (with_reducible first | exact HB.out | apply below_alloc | apply pw_below_drewN | apply below_drew1) | exact HB.out)) hb); clear HO103; clear HO106; clear HB; have HO103 := n0_; have HO106 := n1_; have HB := n2_; clear n0_ n1_ n2_; (try clear hb); (try clear hb2); (try clear hk); (try clear hi)) | ((with_reducible refine gate_dst (N := 16) rfl ?_); refine Kd.R_lit Kd.string _ 9 ?hg (N := 16) ?hd (xs := ([(⟨#[45, 115, 97, 109, 101, 32, 97, 32, 98]⟩ : ByteArray), (⟨#[64, 102, 97, 105, 108]⟩ : ByteArray)] : List ByteArray)) (inner := [.string (⟨#[45, 115, 97, 109, 101, 32, 97, 32, 98]⟩ : ByteArray), .string (⟨#[64, 102, 97, 105, 108]⟩ : ByteArray)]) (ok := fun _ => True) (okp := fun _ => True) ?hr ?hp (fun _ hk => hk) trivial (Below.refl _ _) (Nat.le_refl _) (by simp) ?_; (case hd => rfl); (case hg => rfl); (case hr => first | (go_simp; done) | (go_simp; rfl)); (case hp => exact (Reps.one (show Kd.M Kd.string _ _ _ (⟨#[45, 115, 97, 109, 101, 32, 97, 32, 98]⟩ : ByteArray) [.string (⟨#[45, 115, 97, 109, 101, 32, 97, 32, 98]⟩ : ByteArray)] from rfl) (Reps.one (show Kd.M Kd.string _ _ _ (⟨#[64, 102, 97, 105, 108]⟩ : ByteArray) [.string (⟨#[64, 102, 97, 105, 108]⟩ : ByteArray)] from rfl) (Reps.none _ _)))); intro v111 w42 ho43 hb hg_ hnew_; clear hg_ hnew_; (first | rw [← Ny110.out] at ho43 | (simp only [Int.reduceToNat] at ho43; rw [← Ny110.out] at ho43)); have n0_ := Aside0.mk (Kd.R_elder' (by (with_reducible repeat (first | apply Kd.R_alloc | apply Kd.R_drewN | apply Kd.R_drew)); exact HO103.out) (Kd.R_base ho43) hb); have n1_ := Aside0.mk (Kd.R_below (by (with_reducible repeat (first | apply Kd.R_alloc | apply Kd.R_drewN | apply Kd.R_drew)); exact HO106.out) hb); have n2_ := Aside0.mk (Kd.R_lower (Kd.R_new' ho43 (Kd.R_lt (by (with_reducible repeat (first | apply Kd.R_alloc | apply Kd.R_drewN | apply Kd.R_drew)); exact HO103.out))) (below_size (by repeat (first | (with_reducible first | exact HB.out | apply below_alloc | apply pw_below_drewN | apply below_drew1) | exact HB.out)))); have n3_ := Aside0.mk (below_step (by repeat (first | (with_reducible first | exact HB.out | apply below_alloc | apply pw_below_drewN | apply below_drew1) | exact HB.out)) hb); clear HO103; clear HO106; clear HB; have HO103 := n0_; have HO106 := n1_; have HO112 := n2_; have HB := n3_; clear n0_ n1_ n2_ n3_; clear hb ho43) | ((with_reducible refine gate_dst (N := 19) rfl ?_); refine Kd.R_lit k31 _ 31 ?hg (N := 19) ?hd (xs := ([(⟨(⟨#[97]⟩ : ByteArray), (⟨#[49]⟩ : ByteArray)⟩ : S31), (⟨(⟨#[98]⟩ : ByteArray), (⟨#[50]⟩ : ByteArray)⟩ : S31)] : List (S31))) (inner := [.string (⟨#[97]⟩ : ByteArray), .string (⟨#[49]⟩ : ByteArray), .string (⟨#[98]⟩ : ByteArray), .string (⟨#[50]⟩ : ByteArray)]) (ok := fun _ => True) (okp := fun _ => True) ?hr ?hp (fun _ hk => hk) trivial (Below.refl _ _) (Nat.le_refl _) (by simp) ?_; (case hd => rfl); (case hg => rfl); (case hr => first | (go_simp; done) | (go_simp; rfl)); (case hp => exact (Reps.c2 (show Kd.M k31 _ _ _ (⟨(⟨#[97]⟩ : ByteArray), (⟨#[49]⟩ : ByteArray)⟩ : S31) [.string (⟨#[97]⟩ : ByteArray), .string (⟨#[49]⟩ : ByteArray)] from (k31_mkM _ _ _ (⟨(⟨#[97]⟩ : ByteArray), (⟨#[49]⟩ : ByteArray)⟩ : S31) )) (Reps.c2 (show Kd.M k31 _ _ _ (⟨(⟨#[98]⟩ : ByteArray), (⟨#[50]⟩ : ByteArray)⟩ : S31) [.string (⟨#[98]⟩ : ByteArray), .string (⟨#[50]⟩ : ByteArray)] from (k31_mkM _ _ _ (⟨(⟨#[98]⟩ : ByteArray), (⟨#[50]⟩ : ByteArray)⟩ : S31) )) (Reps.none _ _)))); intro v114 w44 ho45 hb hg_ hnew_; clear hg_ hnew_; (first | rw [← Ny113.out] at ho45 | (simp only [Int.reduceToNat] at ho45; rw [← Ny113.out] at ho45)); have n0_ := Aside0.mk (Kd.R_below (by (with_reducible repeat (first | apply Kd.R_alloc | apply Kd.R_drewN | apply Kd.R_drew)); exact HO103.out) hb); have n1_ := Aside0.mk (Kd.R_elder' (by (with_reducible repeat (first | apply Kd.R_alloc | apply Kd.R_drewN | apply Kd.R_drew)); exact HO106.out) (Kd.R_base ho45) hb); have n2_ := Aside0.mk (Kd.R_below (by (with_reducible repeat (first | apply Kd.R_alloc | apply Kd.R_drewN | apply Kd.R_drew)); exact HO112.out) hb); have n3_ := Aside0.mk (Kd.R_lower (Kd.R_new' ho45 (Kd.R_lt (by (with_reducible repeat (first | apply Kd.R_alloc | apply Kd.R_drewN | apply Kd.R_drew)); exact HO106.out))) (below_size (by repeat (first | (with_reducible first | exact HB.out | apply below_alloc | apply pw_below_drewN | apply below_drew1) | exact HB.out)))); have n4_ := Aside0.mk (below_step (by repeat (first | (with_reducible first | exact HB.out | apply below_alloc | apply pw_below_drewN | apply below_drew1) | exact HB.out)) hb); clear HO103; clear HO106; clear HO112; clear HB; have HO103 := n0_; have HO106 := n1_; have HO112 := n2_; have HO115 := n3_; have HB := n4_; clear n0_ n1_ n2_ n3_ n4_; clear hb ho45; obtain ⟨Ao46, co46, eo46⟩ := Kd.R_slice HO112.out; subst eo46; obtain ⟨Ao47, co47, eo47⟩ := Kd.R_slice HO115.out; subst eo47) | ((with_reducible refine gate_callee (f := 11) rfl ?_); refine goesL_ (some 20) rfl rfl Tryd.func11 (by kernel_rfl) rfl #[.slice Ao46 y110.length co46, .slice Ao47 y113.length co47, .string (⟨#[116]⟩ : ByteArray), .int .i64 99] rfl (by (try simp only [List.map_toArray, List.map_cons, List.map_nil]); first | done | rfl | (simp only [List.length_drop, List.length_take]; rfl)) ?_; (with_reducible refine (recipe_Run.calls _ _ y110 _ _ y113 (⟨#[116]⟩ : ByteArray) 99 t116 t117 t118 _ ?side1 ?side2 ?side3 ?side4 ?side5 A2.out).mono ?_); (case side1 => exact Fr.Glob.below hG (by repeat (first | (with_reducible first | exact HB.out | apply below_alloc | apply pw_below_drewN | apply below_drew1) | exact HB.out))); (case side2 => repeat (first | exact (Kd.R_reads' HO112.out).2.2 | (with_reducible refine Kd.C_alloc ?_ _) | (with_reducible refine Kd.C_drewN ?_ _) | (with_reducible refine Kd.C_drew ?_))); (case side3 => exact (Kd.R_reads' HO112.out).2.1); (case side4 => repeat (first | exact (Kd.R_reads' HO115.out).2.2 | (with_reducible refine Kd.C_alloc ?_ _) | (with_reducible refine Kd.C_drewN ?_ _) | (with_reducible refine Kd.C_drew ?_))); (case side5 => exact (Kd.R_reads' HO115.out).2.1); rintro e w48 ⟨rfl, hb⟩; refine ⟨_, rfl, ?_⟩; have n0_ := Aside0.mk (Kd.R_below (by (with_reducible repeat (first | apply Kd.R_alloc | apply Kd.R_drewN | apply Kd.R_drew)); exact HO103.out) hb); have n1_ := Aside0.mk (Kd.R_below (by (with_reducible repeat (first | apply Kd.R_alloc | apply Kd.R_drewN | apply Kd.R_drew)); exact HO106.out) hb); have n2_ := Aside0.mk (Kd.R_below (by (with_reducible repeat (first | apply Kd.R_alloc | apply Kd.R_drewN | apply Kd.R_drew)); exact HO112.out) hb); have n3_ := Aside0.mk (Kd.R_below (by (with_reducible repeat (first | apply Kd.R_alloc | apply Kd.R_drewN | apply Kd.R_drew)); exact HO115.out) hb); have n4_ := Aside0.mk (below_step (by repeat (first | (with_reducible first | exact HB.out | apply below_alloc | apply pw_below_drewN | apply below_drew1) | exact HB.out)) hb); clear HO103; clear HO106; clear HO112; clear HO115; clear HB; have HO103 := n0_; have HO106 := n1_; have HO112 := n2_; have HO115 := n3_; have HB := n4_; clear n0_ n1_ n2_ n3_ n4_; (try clear hb); (try clear hb2); (try clear hk); (try clear hi)))
        go_ret
        exact ⟨by first | rfl | (simp [errW_none, errW_some] <;> rfl) | (simp [*, errW_none, errW_some] <;> rfl), by repeat (first | (with_reducible first | exact HB.out | apply below_alloc | apply pw_below_drewN | apply below_drew1) | exact HB.out)⟩
    · replace c4 := Bool.eq_false_iff.mpr c4
      subst c4
      have H1 : (some false) = some r := by rw [if_neg (show ¬ (false = true) by decide)] at H; exact H
      clear H
      have H := H1
      clear H1
      obtain rfl := Option.some.inj H
      go_enter Tryd.func8, Tryd.ntmps8
      go_wp2_with (first | ((with_reducible refine gate_dst (N := 8) rfl ?_); refine Kd.R_lit Kd.string _ 9 ?hg (N := 8) ?hd (xs := ([(⟨#[99, 111, 112, 121, 32, 97, 32, 116]⟩ : ByteArray), (⟨#[109, 111, 114, 101, 32, 116, 32, 120, 32, 121]⟩ : ByteArray)] : List ByteArray)) (inner := [.string (⟨#[99, 111, 112, 121, 32, 97, 32, 116]⟩ : ByteArray), .string (⟨#[109, 111, 114, 101, 32, 116, 32, 120, 32, 121]⟩ : ByteArray)]) (ok := fun _ => True) (okp := fun _ => True) ?hr ?hp (fun _ hk => hk) trivial (Below.refl _ _) (Nat.le_refl _) (by simp) ?_; (case hd => rfl); (case hg => rfl); (case hr => first | (go_simp; done) | (go_simp; rfl)); (case hp => exact (Reps.one (show Kd.M Kd.string _ _ _ (⟨#[99, 111, 112, 121, 32, 97, 32, 116]⟩ : ByteArray) [.string (⟨#[99, 111, 112, 121, 32, 97, 32, 116]⟩ : ByteArray)] from rfl) (Reps.one (show Kd.M Kd.string _ _ _ (⟨#[109, 111, 114, 101, 32, 116, 32, 120, 32, 121]⟩ : ByteArray) [.string (⟨#[109, 111, 114, 101, 32, 116, 32, 120, 32, 121]⟩ : ByteArray)] from rfl) (Reps.none _ _)))); intro v102 w49 ho50 hb hg_ hnew_; clear hg_ hnew_; (first | rw [← Ny101.out] at ho50 | (simp only [Int.reduceToNat] at ho50; rw [← Ny101.out] at ho50)); have n0_ := Aside0.mk (Kd.R_lower ho50 (below_size (by repeat (first | (with_reducible first | exact HB.out | apply below_alloc | apply pw_below_drewN | apply below_drew1) | exact HB.out)))); have n1_ := Aside0.mk (below_step (by repeat (first | (with_reducible first | exact HB.out | apply below_alloc | apply pw_below_drewN | apply below_drew1) | exact HB.out)) hb); clear HB; have HO103 := n0_; have HB := n1_; clear n0_ n1_; clear hb ho50) | ((with_reducible refine gate_dst (N := 10) rfl ?_); refine Kd.R_lit k31 _ 31 ?hg (N := 10) ?hd (xs := ([(⟨(⟨#[97]⟩ : ByteArray), (⟨#[113]⟩ : ByteArray)⟩ : S31)] : List (S31))) (inner := [.string (⟨#[97]⟩ : ByteArray), .string (⟨#[113]⟩ : ByteArray)]) (ok := fun _ => True) (okp := fun _ => True) ?hr ?hp (fun _ hk => hk) trivial (Below.refl _ _) (Nat.le_refl _) (by simp) ?_; (case hd => rfl); (case hg => rfl); (case hr => first | (go_simp; done) | (go_simp; rfl)); (case hp => exact (Reps.c2 (show Kd.M k31 _ _ _ (⟨(⟨#[97]⟩ : ByteArray), (⟨#[113]⟩ : ByteArray)⟩ : S31) [.string (⟨#[97]⟩ : ByteArray), .string (⟨#[113]⟩ : ByteArray)] from (k31_mkM _ _ _ (⟨(⟨#[97]⟩ : ByteArray), (⟨#[113]⟩ : ByteArray)⟩ : S31) )) (Reps.none _ _))); intro v105 w51 ho52 hb hg_ hnew_; clear hg_ hnew_; (first | rw [← Ny104.out] at ho52 | (simp only [Int.reduceToNat] at ho52; rw [← Ny104.out] at ho52)); have n0_ := Aside0.mk (Kd.R_below (by (with_reducible repeat (first | apply Kd.R_alloc | apply Kd.R_drewN | apply Kd.R_drew)); exact HO103.out) hb); have n1_ := Aside0.mk (Kd.R_lower ho52 (below_size (by repeat (first | (with_reducible first | exact HB.out | apply below_alloc | apply pw_below_drewN | apply below_drew1) | exact HB.out)))); have n2_ := Aside0.mk (below_step (by repeat (first | (with_reducible first | exact HB.out | apply below_alloc | apply pw_below_drewN | apply below_drew1) | exact HB.out)) hb); clear HO103; clear HB; have HO103 := n0_; have HO106 := n1_; have HB := n2_; clear n0_ n1_ n2_; clear hb ho52; obtain ⟨Ao53, co53, eo53⟩ := Kd.R_slice HO103.out; subst eo53; obtain ⟨Ao54, co54, eo54⟩ := Kd.R_slice HO106.out; subst eo54) | ((with_reducible refine gate_callee (f := 11) rfl ?_); refine goesL_ (some 11) rfl rfl Tryd.func11 (by kernel_rfl) rfl #[.slice Ao53 y101.length co53, .slice Ao54 y104.length co54, .string (⟨#[116]⟩ : ByteArray), .int .i64 99] rfl (by (try simp only [List.map_toArray, List.map_cons, List.map_nil]); first | done | rfl | (simp only [List.length_drop, List.length_take]; rfl)) ?_; (with_reducible refine (recipe_Run.calls _ _ y101 _ _ y104 (⟨#[116]⟩ : ByteArray) 99 t107 false t109 _ ?side1 ?side2 ?side3 ?side4 ?side5 A1.out).mono ?_); (case side1 => exact Fr.Glob.below hG (by repeat (first | (with_reducible first | exact HB.out | apply below_alloc | apply pw_below_drewN | apply below_drew1) | exact HB.out))); (case side2 => repeat (first | exact (Kd.R_reads' HO103.out).2.2 | (with_reducible refine Kd.C_alloc ?_ _) | (with_reducible refine Kd.C_drewN ?_ _) | (with_reducible refine Kd.C_drew ?_))); (case side3 => exact (Kd.R_reads' HO103.out).2.1); (case side4 => repeat (first | exact (Kd.R_reads' HO106.out).2.2 | (with_reducible refine Kd.C_alloc ?_ _) | (with_reducible refine Kd.C_drewN ?_ _) | (with_reducible refine Kd.C_drew ?_))); (case side5 => exact (Kd.R_reads' HO106.out).2.1); rintro e w55 ⟨rfl, hb⟩; refine ⟨_, rfl, ?_⟩; have n0_ := Aside0.mk (Kd.R_below (by (with_reducible repeat (first | apply Kd.R_alloc | apply Kd.R_drewN | apply Kd.R_drew)); exact HO103.out) hb); have n1_ := Aside0.mk (Kd.R_below (by (with_reducible repeat (first | apply Kd.R_alloc | apply Kd.R_drewN | apply Kd.R_drew)); exact HO106.out) hb); have n2_ := Aside0.mk (below_step (by repeat (first | (with_reducible first | exact HB.out | apply below_alloc | apply pw_below_drewN | apply below_drew1) | exact HB.out)) hb); clear HO103; clear HO106; clear HB; have HO103 := n0_; have HO106 := n1_; have HB := n2_; clear n0_ n1_ n2_; (try clear hb); (try clear hb2); (try clear hk); (try clear hi)) | ((with_reducible refine gate_dst (N := 16) rfl ?_); refine Kd.R_lit Kd.string _ 9 ?hg (N := 16) ?hd (xs := ([(⟨#[45, 115, 97, 109, 101, 32, 97, 32, 98]⟩ : ByteArray), (⟨#[64, 102, 97, 105, 108]⟩ : ByteArray)] : List ByteArray)) (inner := [.string (⟨#[45, 115, 97, 109, 101, 32, 97, 32, 98]⟩ : ByteArray), .string (⟨#[64, 102, 97, 105, 108]⟩ : ByteArray)]) (ok := fun _ => True) (okp := fun _ => True) ?hr ?hp (fun _ hk => hk) trivial (Below.refl _ _) (Nat.le_refl _) (by simp) ?_; (case hd => rfl); (case hg => rfl); (case hr => first | (go_simp; done) | (go_simp; rfl)); (case hp => exact (Reps.one (show Kd.M Kd.string _ _ _ (⟨#[45, 115, 97, 109, 101, 32, 97, 32, 98]⟩ : ByteArray) [.string (⟨#[45, 115, 97, 109, 101, 32, 97, 32, 98]⟩ : ByteArray)] from rfl) (Reps.one (show Kd.M Kd.string _ _ _ (⟨#[64, 102, 97, 105, 108]⟩ : ByteArray) [.string (⟨#[64, 102, 97, 105, 108]⟩ : ByteArray)] from rfl) (Reps.none _ _)))); intro v111 w56 ho57 hb hg_ hnew_; clear hg_ hnew_; (first | rw [← Ny110.out] at ho57 | (simp only [Int.reduceToNat] at ho57; rw [← Ny110.out] at ho57)); have n0_ := Aside0.mk (Kd.R_elder' (by (with_reducible repeat (first | apply Kd.R_alloc | apply Kd.R_drewN | apply Kd.R_drew)); exact HO103.out) (Kd.R_base ho57) hb); have n1_ := Aside0.mk (Kd.R_below (by (with_reducible repeat (first | apply Kd.R_alloc | apply Kd.R_drewN | apply Kd.R_drew)); exact HO106.out) hb); have n2_ := Aside0.mk (Kd.R_lower (Kd.R_new' ho57 (Kd.R_lt (by (with_reducible repeat (first | apply Kd.R_alloc | apply Kd.R_drewN | apply Kd.R_drew)); exact HO103.out))) (below_size (by repeat (first | (with_reducible first | exact HB.out | apply below_alloc | apply pw_below_drewN | apply below_drew1) | exact HB.out)))); have n3_ := Aside0.mk (below_step (by repeat (first | (with_reducible first | exact HB.out | apply below_alloc | apply pw_below_drewN | apply below_drew1) | exact HB.out)) hb); clear HO103; clear HO106; clear HB; have HO103 := n0_; have HO106 := n1_; have HO112 := n2_; have HB := n3_; clear n0_ n1_ n2_ n3_; clear hb ho57) | ((with_reducible refine gate_dst (N := 19) rfl ?_); refine Kd.R_lit k31 _ 31 ?hg (N := 19) ?hd (xs := ([(⟨(⟨#[97]⟩ : ByteArray), (⟨#[49]⟩ : ByteArray)⟩ : S31), (⟨(⟨#[98]⟩ : ByteArray), (⟨#[50]⟩ : ByteArray)⟩ : S31)] : List (S31))) (inner := [.string (⟨#[97]⟩ : ByteArray), .string (⟨#[49]⟩ : ByteArray), .string (⟨#[98]⟩ : ByteArray), .string (⟨#[50]⟩ : ByteArray)]) (ok := fun _ => True) (okp := fun _ => True) ?hr ?hp (fun _ hk => hk) trivial (Below.refl _ _) (Nat.le_refl _) (by simp) ?_; (case hd => rfl); (case hg => rfl); (case hr => first | (go_simp; done) | (go_simp; rfl)); (case hp => exact (Reps.c2 (show Kd.M k31 _ _ _ (⟨(⟨#[97]⟩ : ByteArray), (⟨#[49]⟩ : ByteArray)⟩ : S31) [.string (⟨#[97]⟩ : ByteArray), .string (⟨#[49]⟩ : ByteArray)] from (k31_mkM _ _ _ (⟨(⟨#[97]⟩ : ByteArray), (⟨#[49]⟩ : ByteArray)⟩ : S31) )) (Reps.c2 (show Kd.M k31 _ _ _ (⟨(⟨#[98]⟩ : ByteArray), (⟨#[50]⟩ : ByteArray)⟩ : S31) [.string (⟨#[98]⟩ : ByteArray), .string (⟨#[50]⟩ : ByteArray)] from (k31_mkM _ _ _ (⟨(⟨#[98]⟩ : ByteArray), (⟨#[50]⟩ : ByteArray)⟩ : S31) )) (Reps.none _ _)))); intro v114 w58 ho59 hb hg_ hnew_; clear hg_ hnew_; (first | rw [← Ny113.out] at ho59 | (simp only [Int.reduceToNat] at ho59; rw [← Ny113.out] at ho59)); have n0_ := Aside0.mk (Kd.R_below (by (with_reducible repeat (first | apply Kd.R_alloc | apply Kd.R_drewN | apply Kd.R_drew)); exact HO103.out) hb); have n1_ := Aside0.mk (Kd.R_elder' (by (with_reducible repeat (first | apply Kd.R_alloc | apply Kd.R_drewN | apply Kd.R_drew)); exact HO106.out) (Kd.R_base ho59) hb); have n2_ := Aside0.mk (Kd.R_below (by (with_reducible repeat (first | apply Kd.R_alloc | apply Kd.R_drewN | apply Kd.R_drew)); exact HO112.out) hb); have n3_ := Aside0.mk (Kd.R_lower (Kd.R_new' ho59 (Kd.R_lt (by (with_reducible repeat (first | apply Kd.R_alloc | apply Kd.R_drewN | apply Kd.R_drew)); exact HO106.out))) (below_size (by repeat (first | (with_reducible first | exact HB.out | apply below_alloc | apply pw_below_drewN | apply below_drew1) | exact HB.out)))); have n4_ := Aside0.mk (below_step (by repeat (first | (with_reducible first | exact HB.out | apply below_alloc | apply pw_below_drewN | apply below_drew1) | exact HB.out)) hb); clear HO103; clear HO106; clear HO112; clear HB; have HO103 := n0_; have HO106 := n1_; have HO112 := n2_; have HO115 := n3_; have HB := n4_; clear n0_ n1_ n2_ n3_ n4_; clear hb ho59; obtain ⟨Ao60, co60, eo60⟩ := Kd.R_slice HO112.out; subst eo60; obtain ⟨Ao61, co61, eo61⟩ := Kd.R_slice HO115.out; subst eo61) | ((with_reducible refine gate_callee (f := 11) rfl ?_); refine goesL_ (some 20) rfl rfl Tryd.func11 (by kernel_rfl) rfl #[.slice Ao60 y110.length co60, .slice Ao61 y113.length co61, .string (⟨#[116]⟩ : ByteArray), .int .i64 99] rfl (by (try simp only [List.map_toArray, List.map_cons, List.map_nil]); first | done | rfl | (simp only [List.length_drop, List.length_take]; rfl)) ?_; (with_reducible refine (recipe_Run.calls _ _ y110 _ _ y113 (⟨#[116]⟩ : ByteArray) 99 t116 t117 t118 _ ?side1 ?side2 ?side3 ?side4 ?side5 A2.out).mono ?_); (case side1 => exact Fr.Glob.below hG (by repeat (first | (with_reducible first | exact HB.out | apply below_alloc | apply pw_below_drewN | apply below_drew1) | exact HB.out))); (case side2 => repeat (first | exact (Kd.R_reads' HO112.out).2.2 | (with_reducible refine Kd.C_alloc ?_ _) | (with_reducible refine Kd.C_drewN ?_ _) | (with_reducible refine Kd.C_drew ?_))); (case side3 => exact (Kd.R_reads' HO112.out).2.1); (case side4 => repeat (first | exact (Kd.R_reads' HO115.out).2.2 | (with_reducible refine Kd.C_alloc ?_ _) | (with_reducible refine Kd.C_drewN ?_ _) | (with_reducible refine Kd.C_drew ?_))); (case side5 => exact (Kd.R_reads' HO115.out).2.1); rintro e w62 ⟨rfl, hb⟩; refine ⟨_, rfl, ?_⟩; have n0_ := Aside0.mk (Kd.R_below (by (with_reducible repeat (first | apply Kd.R_alloc | apply Kd.R_drewN | apply Kd.R_drew)); exact HO103.out) hb); have n1_ := Aside0.mk (Kd.R_below (by (with_reducible repeat (first | apply Kd.R_alloc | apply Kd.R_drewN | apply Kd.R_drew)); exact HO106.out) hb); have n2_ := Aside0.mk (Kd.R_below (by (with_reducible repeat (first | apply Kd.R_alloc | apply Kd.R_drewN | apply Kd.R_drew)); exact HO112.out) hb); have n3_ := Aside0.mk (Kd.R_below (by (with_reducible repeat (first | apply Kd.R_alloc | apply Kd.R_drewN | apply Kd.R_drew)); exact HO115.out) hb); have n4_ := Aside0.mk (below_step (by repeat (first | (with_reducible first | exact HB.out | apply below_alloc | apply pw_below_drewN | apply below_drew1) | exact HB.out)) hb); clear HO103; clear HO106; clear HO112; clear HO115; clear HB; have HO103 := n0_; have HO106 := n1_; have HO112 := n2_; have HO115 := n3_; have HB := n4_; clear n0_ n1_ n2_ n3_ n4_; (try clear hb); (try clear hb2); (try clear hk); (try clear hi)))
      go_ret
      exact ⟨by first | rfl | (simp [errW_none, errW_some] <;> rfl) | (simp [*, errW_none, errW_some] <;> rfl), by repeat (first | (with_reducible first | exact HB.out | apply below_alloc | apply pw_below_drewN | apply below_drew1) | exact HB.out)⟩
  · rw [if_neg c3] at H
    have c3b0 : (t107.toList == ([113, 120, 32, 121, 10] : List UInt8)) = false := beq_eq_false_iff_ne.mpr c3
    have c3b1 : (t107.toList != ([113, 120, 32, 121, 10] : List UInt8)) = true := bne_iff_ne.mpr c3
    obtain rfl := Option.some.inj H
    go_enter Tryd.func8, Tryd.ntmps8
    go_wp2_with (first | ((with_reducible refine gate_dst (N := 8) rfl ?_); refine Kd.R_lit Kd.string _ 9 ?hg (N := 8) ?hd (xs := ([(⟨#[99, 111, 112, 121, 32, 97, 32, 116]⟩ : ByteArray), (⟨#[109, 111, 114, 101, 32, 116, 32, 120, 32, 121]⟩ : ByteArray)] : List ByteArray)) (inner := [.string (⟨#[99, 111, 112, 121, 32, 97, 32, 116]⟩ : ByteArray), .string (⟨#[109, 111, 114, 101, 32, 116, 32, 120, 32, 121]⟩ : ByteArray)]) (ok := fun _ => True) (okp := fun _ => True) ?hr ?hp (fun _ hk => hk) trivial (Below.refl _ _) (Nat.le_refl _) (by simp) ?_; (case hd => rfl); (case hg => rfl); (case hr => first | (go_simp; done) | (go_simp; rfl)); (case hp => exact (Reps.one (show Kd.M Kd.string _ _ _ (⟨#[99, 111, 112, 121, 32, 97, 32, 116]⟩ : ByteArray) [.string (⟨#[99, 111, 112, 121, 32, 97, 32, 116]⟩ : ByteArray)] from rfl) (Reps.one (show Kd.M Kd.string _ _ _ (⟨#[109, 111, 114, 101, 32, 116, 32, 120, 32, 121]⟩ : ByteArray) [.string (⟨#[109, 111, 114, 101, 32, 116, 32, 120, 32, 121]⟩ : ByteArray)] from rfl) (Reps.none _ _)))); intro v102 w63 ho64 hb hg_ hnew_; clear hg_ hnew_; (first | rw [← Ny101.out] at ho64 | (simp only [Int.reduceToNat] at ho64; rw [← Ny101.out] at ho64)); have n0_ := Aside0.mk (Kd.R_lower ho64 (below_size (by repeat (first | (with_reducible first | exact HB.out | apply below_alloc | apply pw_below_drewN | apply below_drew1) | exact HB.out)))); have n1_ := Aside0.mk (below_step (by repeat (first | (with_reducible first | exact HB.out | apply below_alloc | apply pw_below_drewN | apply below_drew1) | exact HB.out)) hb); clear HB; have HO103 := n0_; have HB := n1_; clear n0_ n1_; clear hb ho64) | ((with_reducible refine gate_dst (N := 10) rfl ?_); refine Kd.R_lit k31 _ 31 ?hg (N := 10) ?hd (xs := ([(⟨(⟨#[97]⟩ : ByteArray), (⟨#[113]⟩ : ByteArray)⟩ : S31)] : List (S31))) (inner := [.string (⟨#[97]⟩ : ByteArray), .string (⟨#[113]⟩ : ByteArray)]) (ok := fun _ => True) (okp := fun _ => True) ?hr ?hp (fun _ hk => hk) trivial (Below.refl _ _) (Nat.le_refl _) (by simp) ?_; (case hd => rfl); (case hg => rfl); (case hr => first | (go_simp; done) | (go_simp; rfl)); (case hp => exact (Reps.c2 (show Kd.M k31 _ _ _ (⟨(⟨#[97]⟩ : ByteArray), (⟨#[113]⟩ : ByteArray)⟩ : S31) [.string (⟨#[97]⟩ : ByteArray), .string (⟨#[113]⟩ : ByteArray)] from (k31_mkM _ _ _ (⟨(⟨#[97]⟩ : ByteArray), (⟨#[113]⟩ : ByteArray)⟩ : S31) )) (Reps.none _ _))); intro v105 w65 ho66 hb hg_ hnew_; clear hg_ hnew_; (first | rw [← Ny104.out] at ho66 | (simp only [Int.reduceToNat] at ho66; rw [← Ny104.out] at ho66)); have n0_ := Aside0.mk (Kd.R_below (by (with_reducible repeat (first | apply Kd.R_alloc | apply Kd.R_drewN | apply Kd.R_drew)); exact HO103.out) hb); have n1_ := Aside0.mk (Kd.R_lower ho66 (below_size (by repeat (first | (with_reducible first | exact HB.out | apply below_alloc | apply pw_below_drewN | apply below_drew1) | exact HB.out)))); have n2_ := Aside0.mk (below_step (by repeat (first | (with_reducible first | exact HB.out | apply below_alloc | apply pw_below_drewN | apply below_drew1) | exact HB.out)) hb); clear HO103; clear HB; have HO103 := n0_; have HO106 := n1_; have HB := n2_; clear n0_ n1_ n2_; clear hb ho66; obtain ⟨Ao67, co67, eo67⟩ := Kd.R_slice HO103.out; subst eo67; obtain ⟨Ao68, co68, eo68⟩ := Kd.R_slice HO106.out; subst eo68) | ((with_reducible refine gate_callee (f := 11) rfl ?_); refine goesL_ (some 11) rfl rfl Tryd.func11 (by kernel_rfl) rfl #[.slice Ao67 y101.length co67, .slice Ao68 y104.length co68, .string (⟨#[116]⟩ : ByteArray), .int .i64 99] rfl (by (try simp only [List.map_toArray, List.map_cons, List.map_nil]); first | done | rfl | (simp only [List.length_drop, List.length_take]; rfl)) ?_; (with_reducible refine (recipe_Run.calls _ _ y101 _ _ y104 (⟨#[116]⟩ : ByteArray) 99 t107 t108 t109 _ ?side1 ?side2 ?side3 ?side4 ?side5 A1.out).mono ?_); (case side1 => exact Fr.Glob.below hG (by repeat (first | (with_reducible first | exact HB.out | apply below_alloc | apply pw_below_drewN | apply below_drew1) | exact HB.out))); (case side2 => repeat (first | exact (Kd.R_reads' HO103.out).2.2 | (with_reducible refine Kd.C_alloc ?_ _) | (with_reducible refine Kd.C_drewN ?_ _) | (with_reducible refine Kd.C_drew ?_))); (case side3 => exact (Kd.R_reads' HO103.out).2.1); (case side4 => repeat (first | exact (Kd.R_reads' HO106.out).2.2 | (with_reducible refine Kd.C_alloc ?_ _) | (with_reducible refine Kd.C_drewN ?_ _) | (with_reducible refine Kd.C_drew ?_))); (case side5 => exact (Kd.R_reads' HO106.out).2.1); rintro e w69 ⟨rfl, hb⟩; refine ⟨_, rfl, ?_⟩; have n0_ := Aside0.mk (Kd.R_below (by (with_reducible repeat (first | apply Kd.R_alloc | apply Kd.R_drewN | apply Kd.R_drew)); exact HO103.out) hb); have n1_ := Aside0.mk (Kd.R_below (by (with_reducible repeat (first | apply Kd.R_alloc | apply Kd.R_drewN | apply Kd.R_drew)); exact HO106.out) hb); have n2_ := Aside0.mk (below_step (by repeat (first | (with_reducible first | exact HB.out | apply below_alloc | apply pw_below_drewN | apply below_drew1) | exact HB.out)) hb); clear HO103; clear HO106; clear HB; have HO103 := n0_; have HO106 := n1_; have HB := n2_; clear n0_ n1_ n2_; (try clear hb); (try clear hb2); (try clear hk); (try clear hi)) | ((with_reducible refine gate_dst (N := 16) rfl ?_); refine Kd.R_lit Kd.string _ 9 ?hg (N := 16) ?hd (xs := ([(⟨#[45, 115, 97, 109, 101, 32, 97, 32, 98]⟩ : ByteArray), (⟨#[64, 102, 97, 105, 108]⟩ : ByteArray)] : List ByteArray)) (inner := [.string (⟨#[45, 115, 97, 109, 101, 32, 97, 32, 98]⟩ : ByteArray), .string (⟨#[64, 102, 97, 105, 108]⟩ : ByteArray)]) (ok := fun _ => True) (okp := fun _ => True) ?hr ?hp (fun _ hk => hk) trivial (Below.refl _ _) (Nat.le_refl _) (by simp) ?_; (case hd => rfl); (case hg => rfl); (case hr => first | (go_simp; done) | (go_simp; rfl)); (case hp => exact (Reps.one (show Kd.M Kd.string _ _ _ (⟨#[45, 115, 97, 109, 101, 32, 97, 32, 98]⟩ : ByteArray) [.string (⟨#[45, 115, 97, 109, 101, 32, 97, 32, 98]⟩ : ByteArray)] from rfl) (Reps.one (show Kd.M Kd.string _ _ _ (⟨#[64, 102, 97, 105, 108]⟩ : ByteArray) [.string (⟨#[64, 102, 97, 105, 108]⟩ : ByteArray)] from rfl) (Reps.none _ _)))); intro v111 w70 ho71 hb hg_ hnew_; clear hg_ hnew_; (first | rw [← Ny110.out] at ho71 | (simp only [Int.reduceToNat] at ho71; rw [← Ny110.out] at ho71)); have n0_ := Aside0.mk (Kd.R_elder' (by (with_reducible repeat (first | apply Kd.R_alloc | apply Kd.R_drewN | apply Kd.R_drew)); exact HO103.out) (Kd.R_base ho71) hb); have n1_ := Aside0.mk (Kd.R_below (by (with_reducible repeat (first | apply Kd.R_alloc | apply Kd.R_drewN | apply Kd.R_drew)); exact HO106.out) hb); have n2_ := Aside0.mk (Kd.R_lower (Kd.R_new' ho71 (Kd.R_lt (by (with_reducible repeat (first | apply Kd.R_alloc | apply Kd.R_drewN | apply Kd.R_drew)); exact HO103.out))) (below_size (by repeat (first | (with_reducible first | exact HB.out | apply below_alloc | apply pw_below_drewN | apply below_drew1) | exact HB.out)))); have n3_ := Aside0.mk (below_step (by repeat (first | (with_reducible first | exact HB.out | apply below_alloc | apply pw_below_drewN | apply below_drew1) | exact HB.out)) hb); clear HO103; clear HO106; clear HB; have HO103 := n0_; have HO106 := n1_; have HO112 := n2_; have HB := n3_; clear n0_ n1_ n2_ n3_; clear hb ho71) | ((with_reducible refine gate_dst (N := 19) rfl ?_); refine Kd.R_lit k31 _ 31 ?hg (N := 19) ?hd (xs := ([(⟨(⟨#[97]⟩ : ByteArray), (⟨#[49]⟩ : ByteArray)⟩ : S31), (⟨(⟨#[98]⟩ : ByteArray), (⟨#[50]⟩ : ByteArray)⟩ : S31)] : List (S31))) (inner := [.string (⟨#[97]⟩ : ByteArray), .string (⟨#[49]⟩ : ByteArray), .string (⟨#[98]⟩ : ByteArray), .string (⟨#[50]⟩ : ByteArray)]) (ok := fun _ => True) (okp := fun _ => True) ?hr ?hp (fun _ hk => hk) trivial (Below.refl _ _) (Nat.le_refl _) (by simp) ?_; (case hd => rfl); (case hg => rfl); (case hr => first | (go_simp; done) | (go_simp; rfl)); (case hp => exact (Reps.c2 (show Kd.M k31 _ _ _ (⟨(⟨#[97]⟩ : ByteArray), (⟨#[49]⟩ : ByteArray)⟩ : S31) [.string (⟨#[97]⟩ : ByteArray), .string (⟨#[49]⟩ : ByteArray)] from (k31_mkM _ _ _ (⟨(⟨#[97]⟩ : ByteArray), (⟨#[49]⟩ : ByteArray)⟩ : S31) )) (Reps.c2 (show Kd.M k31 _ _ _ (⟨(⟨#[98]⟩ : ByteArray), (⟨#[50]⟩ : ByteArray)⟩ : S31) [.string (⟨#[98]⟩ : ByteArray), .string (⟨#[50]⟩ : ByteArray)] from (k31_mkM _ _ _ (⟨(⟨#[98]⟩ : ByteArray), (⟨#[50]⟩ : ByteArray)⟩ : S31) )) (Reps.none _ _)))); intro v114 w72 ho73 hb hg_ hnew_; clear hg_ hnew_; (first | rw [← Ny113.out] at ho73 | (simp only [Int.reduceToNat] at ho73; rw [← Ny113.out] at ho73)); have n0_ := Aside0.mk (Kd.R_below (by (with_reducible repeat (first | apply Kd.R_alloc | apply Kd.R_drewN | apply Kd.R_drew)); exact HO103.out) hb); have n1_ := Aside0.mk (Kd.R_elder' (by (with_reducible repeat (first | apply Kd.R_alloc | apply Kd.R_drewN | apply Kd.R_drew)); exact HO106.out) (Kd.R_base ho73) hb); have n2_ := Aside0.mk (Kd.R_below (by (with_reducible repeat (first | apply Kd.R_alloc | apply Kd.R_drewN | apply Kd.R_drew)); exact HO112.out) hb); have n3_ := Aside0.mk (Kd.R_lower (Kd.R_new' ho73 (Kd.R_lt (by (with_reducible repeat (first | apply Kd.R_alloc | apply Kd.R_drewN | apply Kd.R_drew)); exact HO106.out))) (below_size (by repeat (first | (with_reducible first | exact HB.out | apply below_alloc | apply pw_below_drewN | apply below_drew1) | exact HB.out)))); have n4_ := Aside0.mk (below_step (by repeat (first | (with_reducible first | exact HB.out | apply below_alloc | apply pw_below_drewN | apply below_drew1) | exact HB.out)) hb); clear HO103; clear HO106; clear HO112; clear HB; have HO103 := n0_; have HO106 := n1_; have HO112 := n2_; have HO115 := n3_; have HB := n4_; clear n0_ n1_ n2_ n3_ n4_; clear hb ho73; obtain ⟨Ao74, co74, eo74⟩ := Kd.R_slice HO112.out; subst eo74; obtain ⟨Ao75, co75, eo75⟩ := Kd.R_slice HO115.out; subst eo75) | ((with_reducible refine gate_callee (f := 11) rfl ?_); refine goesL_ (some 20) rfl rfl Tryd.func11 (by kernel_rfl) rfl #[.slice Ao74 y110.length co74, .slice Ao75 y113.length co75, .string (⟨#[116]⟩ : ByteArray), .int .i64 99] rfl (by (try simp only [List.map_toArray, List.map_cons, List.map_nil]); first | done | rfl | (simp only [List.length_drop, List.length_take]; rfl)) ?_; (with_reducible refine (recipe_Run.calls _ _ y110 _ _ y113 (⟨#[116]⟩ : ByteArray) 99 t116 t117 t118 _ ?side1 ?side2 ?side3 ?side4 ?side5 A2.out).mono ?_); (case side1 => exact Fr.Glob.below hG (by repeat (first | (with_reducible first | exact HB.out | apply below_alloc | apply pw_below_drewN | apply below_drew1) | exact HB.out))); (case side2 => repeat (first | exact (Kd.R_reads' HO112.out).2.2 | (with_reducible refine Kd.C_alloc ?_ _) | (with_reducible refine Kd.C_drewN ?_ _) | (with_reducible refine Kd.C_drew ?_))); (case side3 => exact (Kd.R_reads' HO112.out).2.1); (case side4 => repeat (first | exact (Kd.R_reads' HO115.out).2.2 | (with_reducible refine Kd.C_alloc ?_ _) | (with_reducible refine Kd.C_drewN ?_ _) | (with_reducible refine Kd.C_drew ?_))); (case side5 => exact (Kd.R_reads' HO115.out).2.1); rintro e w76 ⟨rfl, hb⟩; refine ⟨_, rfl, ?_⟩; have n0_ := Aside0.mk (Kd.R_below (by (with_reducible repeat (first | apply Kd.R_alloc | apply Kd.R_drewN | apply Kd.R_drew)); exact HO103.out) hb); have n1_ := Aside0.mk (Kd.R_below (by (with_reducible repeat (first | apply Kd.R_alloc | apply Kd.R_drewN | apply Kd.R_drew)); exact HO106.out) hb); have n2_ := Aside0.mk (Kd.R_below (by (with_reducible repeat (first | apply Kd.R_alloc | apply Kd.R_drewN | apply Kd.R_drew)); exact HO112.out) hb); have n3_ := Aside0.mk (Kd.R_below (by (with_reducible repeat (first | apply Kd.R_alloc | apply Kd.R_drewN | apply Kd.R_drew)); exact HO115.out) hb); have n4_ := Aside0.mk (below_step (by repeat (first | (with_reducible first | exact HB.out | apply below_alloc | apply pw_below_drewN | apply below_drew1) | exact HB.out)) hb); clear HO103; clear HO106; clear HO112; clear HO115; clear HB; have HO103 := n0_; have HO106 := n1_; have HO112 := n2_; have HO115 := n3_; have HB := n4_; clear n0_ n1_ n2_ n3_ n4_; (try clear hb); (try clear hb2); (try clear hk); (try clear hi)))
    go_ret
    exact ⟨by first | rfl | (simp [errW_none, errW_some] <;> rfl) | (simp [*, errW_none, errW_some] <;> rfl), by repeat (first | (with_reducible first | exact HB.out | apply below_alloc | apply pw_below_drewN | apply below_drew1) | exact HB.out)⟩

/-! ### cooperagelaw15_short: function 9 -/
def cooperagelaw15_short.l0 : Nat → List ByteArray → Int → Option (Bool)
  | 0, _, _ => none
  | k + 1, x0, x3 => if x3 < (x0.length : Int) then (if 0 ≤ x3 then (if ((rdOf ByteArray.empty x0 x3).size : Int) > 5000 then (some false) else (cooperagelaw15_short.l0 k x0 (wrap64 (x3 + 1)))) else (none)) else (some true)
def cooperagelaw15_short.f (k : Nat) (l0 : List ByteArray) : Option (Bool) := if (l0.length : Int) > 30 then (some false) else (cooperagelaw15_short.l0 k l0 0)
theorem cooperagelaw15_short.mono_l : ∀ k, (∀ y0 y1, LeO (cooperagelaw15_short.l0 k y0 y1) (cooperagelaw15_short.l0 (k + 1) y0 y1))
  | 0 => fun _ _ r h => by simp [cooperagelaw15_short.l0] at h
  | k + 1 => by
    have ih0 := cooperagelaw15_short.mono_l k
    · intro y0 y1
      unfold cooperagelaw15_short.l0
      repeat' first
      | (with_reducible exact ih0 _ _)
      | (with_reducible exact LeO.refl _)
      | (with_reducible exact LeO.none _)
      | (with_reducible refine LeO.ite ?_ ?_)
      | (with_reducible refine LeO.bind ?_ (fun _ => ?_))
      | exact ih0 _ _
      | exact LeO.none _
      | refine LeO.ite ?_ ?_
      | refine LeO.bind ?_ (fun _ => ?_)
theorem cooperagelaw15_short.mono : ∀ a0 k, LeO (cooperagelaw15_short.f k a0) (cooperagelaw15_short.f (k + 1) a0) := by
  intro a0 k
  have ih0 := cooperagelaw15_short.mono_l k
  unfold cooperagelaw15_short.f
  repeat' first
      | (with_reducible exact ih0 _ _)
      | (with_reducible exact LeO.refl _)
      | (with_reducible exact LeO.none _)
      | (with_reducible refine LeO.ite ?_ ?_)
      | (with_reducible refine LeO.bind ?_ (fun _ => ?_))
      | exact ih0 _ _
      | exact LeO.none _
      | refine LeO.ite ?_ ?_
      | refine LeO.bind ?_ (fun _ => ?_)
set_option maxHeartbeats 8000000 in
set_option maxRecDepth 100000 in
theorem cooperagelaw15_short.calls (k : Nat) (A0 : Option Addr) (c0 : Nat) (l0 : List ByteArray) (r : Bool) (w : World) (hr0 : Kd.C Kd.string w A0 l0.length l0) (hc0 : l0.length ≤ c0) (h : cooperagelaw15_short.f k l0 = some r) :
    Calls Tryd.prog 9 #[.slice A0 l0.length c0] w fun e w' => e = .returned (.bool r) ∧ Drawn0 w w' := by
  have HR0 := Aside0.mk hr0
  have HC0 := Aside0.mk hc0
  clear hr0 hc0
  have H : (if (l0.length : Int) > 30 then (some false) else (cooperagelaw15_short.l0 k l0 0)) = some r := h
  clear h
  by_cases c2 : (l0.length : Int) > 30
  · rw [if_pos c2] at H
    have c2b0 : decide (30 < (l0.length : Int)) = true := decide_eq_true c2
    have c2b1 : decide (30 < l0.length) = true := decide_eq_true (by omega)
    clear c2
    obtain rfl := Option.some.inj H
    go_enter Tryd.func9, Tryd.ntmps9
    go_wp2
    go_ret
    exact ⟨by first | rfl | (simp; done) | (simp [*]; done), by repeat (first | exact Drawn0.refl _ | apply Drawn0.step)⟩
  · rw [if_neg c2] at H
    have c2b0 : decide (30 < (l0.length : Int)) = false := decide_eq_false c2
    have c2b1 : decide (30 < l0.length) = false := decide_eq_false (by omega)
    clear c2
    have H' := Aside0.mk H
    clear H
    go_enter Tryd.func9, Tryd.ntmps9
    go_wp2
    go_loopg [3] k (fun kq v3 w' => ∃ (x3_1 : Int), v3 = .int .i64 x3_1 ∧ Aside0 (cooperagelaw15_short.l0 kq l0 x3_1 = some r) ∧ Aside0 (kq ≤ k) ∧ Drawn0 w w')
    case atStart => exact ⟨(0), (by first | rfl | (simp; done) | (simp [*]; done)), H', ⟨Nat.le_refl _⟩, by repeat (first | exact Drawn0.refl _ | apply Drawn0.step)⟩
    case round =>
      clear H'
      try clear c2
      try clear c2b0
      try clear c2b1
      try clear p2
      obtain ⟨x3_1, rfl, HA, HK1, ⟨m1, rfl⟩⟩ := hrel
      cases gk with
      | zero => exact absurd HA.out (by simp [cooperagelaw15_short.l0])
      | succ k1 =>
        have H := HA.out
        clear HA
        simp only [cooperagelaw15_short.l0] at H
        by_cases c3 : x3_1 < (l0.length : Int)
        · rw [if_pos c3] at H
          have c3b0 : decide (x3_1 < (l0.length : Int)) = true := decide_eq_true c3
          clear c3
          by_cases c4 : 0 ≤ x3_1
          · rw [if_pos c4] at H
            have c4b0 : decide (0 ≤ x3_1) = true := decide_eq_true c4
            clear c4
            by_cases c5 : ((rdOf ByteArray.empty l0 x3_1).size : Int) > 5000
            · rw [if_pos c5] at H
              have c5b0 : decide (5000 < ((rdOf ByteArray.empty l0 x3_1).size : Int)) = true := decide_eq_true c5
              have c5b1 : decide (5000 < (rdOf ByteArray.empty l0 x3_1).size) = true := decide_eq_true (by omega)
              clear c5
              obtain rfl := Option.some.inj H
              have p119 : 0 ≤ (x3_1 : Int) := of_decide_eq_true (by first | (with_reducible assumption) | assumption)
              have q119 : x3_1 < (l0.length : Int) := of_decide_eq_true (by first | (with_reducible assumption) | assumption)
              obtain ⟨ad119, e119, hx119_0⟩ := Kd.at_string HR0.out x3_1 p119 q119
              cases e119
              replace p119 := eq_true p119
              replace q119 := eq_true q119
              go_wp2
              go_ret
              exact ⟨by first | rfl | (simp; done) | (simp [*]; done), by repeat (first | exact Drawn0.refl _ | apply Drawn0.step)⟩
            · rw [if_neg c5] at H
              have c5b0 : decide (5000 < ((rdOf ByteArray.empty l0 x3_1).size : Int)) = false := decide_eq_false c5
              have c5b1 : decide (5000 < (rdOf ByteArray.empty l0 x3_1).size) = false := decide_eq_false (by omega)
              clear c5
              have H' := Aside0.mk H
              clear H
              have p119 : 0 ≤ (x3_1 : Int) := of_decide_eq_true (by first | (with_reducible assumption) | assumption)
              have q119 : x3_1 < (l0.length : Int) := of_decide_eq_true (by first | (with_reducible assumption) | assumption)
              obtain ⟨ad119, e119, hx119_0⟩ := Kd.at_string HR0.out x3_1 p119 q119
              cases e119
              replace p119 := eq_true p119
              replace q119 := eq_true q119
              go_wp2
              go_roundg k1
              case measure => have := HK1.out; omega
              case rel => exact ⟨(wrap64 (x3_1 + 1)), (by first | rfl | (simp; done) | (simp [*]; done)), H', ⟨by have := HK1.out; omega⟩, by repeat (first | exact Drawn0.refl _ | apply Drawn0.step)⟩
          · rw [if_neg c4] at H
            exact absurd H (by simp)
        · rw [if_neg c3] at H
          have c3b0 : decide (x3_1 < (l0.length : Int)) = false := decide_eq_false c3
          clear c3
          obtain rfl := Option.some.inj H
          go_wp2
          go_ret
          exact ⟨by first | rfl | (simp; done) | (simp [*]; done), by repeat (first | exact Drawn0.refl _ | apply Drawn0.step)⟩

end Go.Proofs.YtnjjnfbkilgidaaDoor.K
namespace Go.Proofs.YtnjjnfbkilgidaaDoor.K
open Go.Proofs.YtnjjnfbkilgidaaDoor.Fr
open Go.Proofs.YtnjjnfbkilgidaaDoor
open Go.Proofs.YtnjjnfbkilgidaaDoor.F (S31 at_T31 errW errW_none errW_some k31 k31_mk k31_mkM k31_open k31_openM rd_T31 z31)
open Go.RowKit Go.Proofs.YtnjjnfbkilgidaaDoorW.PrintWords Go.Proofs.YtnjjnfbkilgidaaDoorW.PrintLast Go.Proofs.YtnjjnfbkilgidaaDoorW.PrintMore
attribute [local go_sem] max2_int min2_int max_two min_two max_three min_three max_four min_four   -- for this text's walks alone
set_option linter.unusedVariables false
set_option linter.unusedSimpArgs false

/-! ### cooperagelaw15_small: function 10 -/
def cooperagelaw15_small.l0 : Nat → List (S31) → Int → Option (Bool)
  | 0, _, _ => none
  | k + 1, x0, x3 => if x3 < (x0.length : Int) then (if 0 ≤ x3 then (if (((rd_T31 x0 x3).f1).size : Int) > 5000 then (some false) else (if (((rd_T31 x0 x3).f0).size : Int) > 120 then (some false) else (cooperagelaw15_small.l0 k x0 (wrap64 (x3 + 1))))) else (none)) else (some true)
def cooperagelaw15_small.f (k : Nat) (l0 : List (S31)) : Option (Bool) := if (l0.length : Int) > 12 then (some false) else (cooperagelaw15_small.l0 k l0 0)
theorem cooperagelaw15_small.mono_l : ∀ k, (∀ y0 y1, LeO (cooperagelaw15_small.l0 k y0 y1) (cooperagelaw15_small.l0 (k + 1) y0 y1))
  | 0 => fun _ _ r h => by simp [cooperagelaw15_small.l0] at h
  | k + 1 => by
    have ih0 := cooperagelaw15_small.mono_l k
    · intro y0 y1
      unfold cooperagelaw15_small.l0
      repeat' first
      | (with_reducible exact ih0 _ _)
      | (with_reducible exact LeO.refl _)
      | (with_reducible exact LeO.none _)
      | (with_reducible refine LeO.ite ?_ ?_)
      | (with_reducible refine LeO.bind ?_ (fun _ => ?_))
      | exact ih0 _ _
      | exact LeO.none _
      | refine LeO.ite ?_ ?_
      | refine LeO.bind ?_ (fun _ => ?_)
theorem cooperagelaw15_small.mono : ∀ a0 k, LeO (cooperagelaw15_small.f k a0) (cooperagelaw15_small.f (k + 1) a0) := by
  intro a0 k
  have ih0 := cooperagelaw15_small.mono_l k
  unfold cooperagelaw15_small.f
  repeat' first
      | (with_reducible exact ih0 _ _)
      | (with_reducible exact LeO.refl _)
      | (with_reducible exact LeO.none _)
      | (with_reducible refine LeO.ite ?_ ?_)
      | (with_reducible refine LeO.bind ?_ (fun _ => ?_))
      | exact ih0 _ _
      | exact LeO.none _
      | refine LeO.ite ?_ ?_
      | refine LeO.bind ?_ (fun _ => ?_)
set_option maxHeartbeats 8000000 in
set_option maxRecDepth 100000 in
theorem cooperagelaw15_small.calls (k : Nat) (A0 : Option Addr) (c0 : Nat) (l0 : List (S31)) (r : Bool) (w : World) (hr0 : Kd.C k31 w A0 l0.length l0) (hc0 : l0.length ≤ c0) (h : cooperagelaw15_small.f k l0 = some r) :
    Calls Tryd.prog 10 #[.slice A0 l0.length c0] w fun e w' => e = .returned (.bool r) ∧ Drawn0 w w' := by
  have HR0 := Aside0.mk hr0
  have HC0 := Aside0.mk hc0
  clear hr0 hc0
  have H : (if (l0.length : Int) > 12 then (some false) else (cooperagelaw15_small.l0 k l0 0)) = some r := h
  clear h
  by_cases c2 : (l0.length : Int) > 12
  · rw [if_pos c2] at H
    have c2b0 : decide (12 < (l0.length : Int)) = true := decide_eq_true c2
    have c2b1 : decide (12 < l0.length) = true := decide_eq_true (by omega)
    clear c2
    obtain rfl := Option.some.inj H
    go_enter Tryd.func10, Tryd.ntmps10
    go_wp2
    go_ret
    exact ⟨by first | rfl | (simp; done) | (simp [*]; done), by repeat (first | exact Drawn0.refl _ | apply Drawn0.step)⟩
  · rw [if_neg c2] at H
    have c2b0 : decide (12 < (l0.length : Int)) = false := decide_eq_false c2
    have c2b1 : decide (12 < l0.length) = false := decide_eq_false (by omega)
    clear c2
    have H' := Aside0.mk H
    clear H
    go_enter Tryd.func10, Tryd.ntmps10
    go_wp2
    go_loopg [3] k (fun kq v3 w' => ∃ (x3_1 : Int), v3 = .int .i64 x3_1 ∧ Aside0 (cooperagelaw15_small.l0 kq l0 x3_1 = some r) ∧ Aside0 (kq ≤ k) ∧ Drawn0 w w')
    case atStart => exact ⟨(0), (by first | rfl | (simp; done) | (simp [*]; done)), H', ⟨Nat.le_refl _⟩, by repeat (first | exact Drawn0.refl _ | apply Drawn0.step)⟩
    case round =>
      clear H'
      try clear c1
      try clear c2
      try clear c2b0
      try clear c2b1
      try clear p2
      obtain ⟨x3_1, rfl, HA, HK1, ⟨m1, rfl⟩⟩ := hrel
      cases gk with
      | zero => exact absurd HA.out (by simp [cooperagelaw15_small.l0])
      | succ k1 =>
        have H := HA.out
        clear HA
        simp only [cooperagelaw15_small.l0] at H
        by_cases c3 : x3_1 < (l0.length : Int)
        · rw [if_pos c3] at H
          have c3b0 : decide (x3_1 < (l0.length : Int)) = true := decide_eq_true c3
          clear c3
          by_cases c4 : 0 ≤ x3_1
          · rw [if_pos c4] at H
            have c4b0 : decide (0 ≤ x3_1) = true := decide_eq_true c4
            clear c4
            by_cases c5 : (((rd_T31 l0 x3_1).f1).size : Int) > 5000
            · rw [if_pos c5] at H
              have c5b0 : decide (5000 < (((rd_T31 l0 x3_1).f1).size : Int)) = true := decide_eq_true c5
              have c5b1 : decide (5000 < ((rd_T31 l0 x3_1).f1).size) = true := decide_eq_true (by omega)
              clear c5
              obtain rfl := Option.some.inj H
              have p120 : 0 ≤ (x3_1 : Int) := of_decide_eq_true (by first | (with_reducible assumption) | assumption)
              have q120 : x3_1 < (l0.length : Int) := of_decide_eq_true (by first | (with_reducible assumption) | assumption)
              obtain ⟨ad120, e120, hx120_0, hx120_1⟩ := at_T31 HR0.out x3_1 p120 q120
              cases e120
              replace p120 := eq_true p120
              replace q120 := eq_true q120
              go_wp2
              go_ret
              exact ⟨by first | rfl | (simp; done) | (simp [*]; done), by repeat (first | exact Drawn0.refl _ | apply Drawn0.step)⟩
            · rw [if_neg c5] at H
              have c5b0 : decide (5000 < (((rd_T31 l0 x3_1).f1).size : Int)) = false := decide_eq_false c5
              have c5b1 : decide (5000 < ((rd_T31 l0 x3_1).f1).size) = false := decide_eq_false (by omega)
              clear c5
              by_cases c6 : (((rd_T31 l0 x3_1).f0).size : Int) > 120
              · rw [if_pos c6] at H
                have c6b0 : decide (120 < (((rd_T31 l0 x3_1).f0).size : Int)) = true := decide_eq_true c6
                have c6b1 : decide (120 < ((rd_T31 l0 x3_1).f0).size) = true := decide_eq_true (by omega)
                clear c6
                obtain rfl := Option.some.inj H
                have p120 : 0 ≤ (x3_1 : Int) := of_decide_eq_true (by first | (with_reducible assumption) | assumption)
                have q120 : x3_1 < (l0.length : Int) := of_decide_eq_true (by first | (with_reducible assumption) | assumption)
                obtain ⟨ad120, e120, hx120_0, hx120_1⟩ := at_T31 HR0.out x3_1 p120 q120
                cases e120
                replace p120 := eq_true p120
                replace q120 := eq_true q120
                have p121 : 0 ≤ (x3_1 : Int) := of_decide_eq_true (by first | (with_reducible assumption) | assumption)
                have q121 : x3_1 < (l0.length : Int) := of_decide_eq_true (by first | (with_reducible assumption) | assumption)
                obtain ⟨ad121, e121, hx121_0, hx121_1⟩ := at_T31 HR0.out x3_1 p121 q121
                obtain rfl : ad120 = ad121 := (by injection e121)
                replace p121 := eq_true p121
                replace q121 := eq_true q121
                go_wp2
                go_ret
                exact ⟨by first | rfl | (simp; done) | (simp [*]; done), by repeat (first | exact Drawn0.refl _ | apply Drawn0.step)⟩
              · rw [if_neg c6] at H
                have c6b0 : decide (120 < (((rd_T31 l0 x3_1).f0).size : Int)) = false := decide_eq_false c6
                have c6b1 : decide (120 < ((rd_T31 l0 x3_1).f0).size) = false := decide_eq_false (by omega)
                clear c6
                have H' := Aside0.mk H
                clear H
                have p120 : 0 ≤ (x3_1 : Int) := of_decide_eq_true (by first | (with_reducible assumption) | assumption)
                have q120 : x3_1 < (l0.length : Int) := of_decide_eq_true (by first | (with_reducible assumption) | assumption)
                obtain ⟨ad120, e120, hx120_0, hx120_1⟩ := at_T31 HR0.out x3_1 p120 q120
                cases e120
                replace p120 := eq_true p120
                replace q120 := eq_true q120
                have p121 : 0 ≤ (x3_1 : Int) := of_decide_eq_true (by first | (with_reducible assumption) | assumption)
                have q121 : x3_1 < (l0.length : Int) := of_decide_eq_true (by first | (with_reducible assumption) | assumption)
                obtain ⟨ad121, e121, hx121_0, hx121_1⟩ := at_T31 HR0.out x3_1 p121 q121
                obtain rfl : ad120 = ad121 := (by injection e121)
                replace p121 := eq_true p121
                replace q121 := eq_true q121
                go_wp2
                go_roundg k1
                case measure => have := HK1.out; omega
                case rel => exact ⟨(wrap64 (x3_1 + 1)), (by first | rfl | (simp; done) | (simp [*]; done)), H', ⟨by have := HK1.out; omega⟩, by repeat (first | exact Drawn0.refl _ | apply Drawn0.step)⟩
          · rw [if_neg c4] at H
            exact absurd H (by simp)
        · rw [if_neg c3] at H
          have c3b0 : decide (x3_1 < (l0.length : Int)) = false := decide_eq_false c3
          clear c3
          obtain rfl := Option.some.inj H
          go_wp2
          go_ret
          exact ⟨by first | rfl | (simp; done) | (simp [*]; done), by repeat (first | exact Drawn0.refl _ | apply Drawn0.step)⟩

end Go.Proofs.YtnjjnfbkilgidaaDoor.K
/- Plain: the examples, and whether scripts and files can be gone through. -/
namespace Go.Proofs.YtnjjnfbkilgidaaDoor.Pure
open Go.RowKit Go.Proofs.YtnjjnfbkilgidaaDoor.Fr Go.Proofs.YtnjjnfbkilgidaaDoor.K Go.Proofs.YtnjjnfbkilgidaaDoorW.PrintWords
open Go.Proofs.YtnjjnfbkilgidaaDoor.Hand (joinV wordsV wordsGo blank linesV linesGo ba_ext)
set_option linter.unusedVariables false
set_option linter.unusedSimpArgs false
theorem short_loop (l : List ByteArray) (hl : l.length ≤ 30) : ∀ (n i : Nat), i + n = l.length → Ev fun k => cooperagelaw15_short.l0 k l (i : Int) = some ((l.drop i).all fun x => decide (x.size ≤ 5000)) := by
  intro n
  induction n with
  | zero =>
    intro i hi
    refine Ev.up (Ev.of fun k => ?_)
    simp only [cooperagelaw15_short.l0]
    rw [if_neg (by omega), List.drop_eq_nil_of_le (by omega)]
    rfl
  | succ n ih =>
    intro i hi
    have hlt : i < l.length := by omega
    have hr := rdo hlt
    by_cases h : l[i].size ≤ 5000
    · refine Ev.up ((ih (i + 1) (by omega)).mp fun k hk => ?_)
      simp only [cooperagelaw15_short.l0]
      rw [if_pos (by omega), if_pos (by omega), hr, if_neg (by omega), w64s i (by omega), hk, List.drop_eq_getElem_cons hlt, List.all_cons, decide_eq_true h]
      rfl
    · refine Ev.up (Ev.of fun k => ?_)
      simp only [cooperagelaw15_short.l0]
      rw [if_pos (by omega), if_pos (by omega), hr, if_pos (by omega), List.drop_eq_getElem_cons hlt, List.all_cons, decide_eq_false h]
      rfl
def shortB (l : List ByteArray) : Bool := decide (l.length ≤ 30) && l.all fun x => decide (x.size ≤ 5000)
theorem short_f (l : List ByteArray) : Ev fun k => cooperagelaw15_short.f k l = some (shortB l) := by
  unfold shortB
  by_cases h : l.length ≤ 30
  · refine (short_loop l h l.length 0 (by omega)).mp fun k hk => ?_
    unfold cooperagelaw15_short.f
    rw [if_neg (by omega), decide_eq_true h]
    exact hk
  · refine Ev.of fun k => ?_
    unfold cooperagelaw15_short.f
    rw [if_pos (by omega), decide_eq_false h]
    rfl
theorem shortB_get {l : List ByteArray} (h : shortB l = true) : l.length ≤ 30 ∧ ∀ x ∈ l, x.size ≤ 5000 := by
  unfold shortB at h
  rw [Bool.and_eq_true, decide_eq_true_eq, List.all_eq_true] at h
  exact ⟨h.1, fun x hx => of_decide_eq_true (h.2 x hx)⟩
theorem small_loop (l : List Fi) (hl : l.length ≤ 12) : ∀ (n i : Nat), i + n = l.length → Ev fun k => cooperagelaw15_small.l0 k l (i : Int) = some ((l.drop i).all fun x => decide (x.f1.size ≤ 5000) && decide (x.f0.size ≤ 120)) := by
  intro n
  induction n with
  | zero =>
    intro i hi
    refine Ev.up (Ev.of fun k => ?_)
    simp only [cooperagelaw15_small.l0]
    rw [if_neg (by omega), List.drop_eq_nil_of_le (by omega)]
    rfl
  | succ n ih =>
    intro i hi
    have hlt : i < l.length := by omega
    have hr := rdF hlt
    by_cases h : l[i].f1.size ≤ 5000
    · by_cases h2 : l[i].f0.size ≤ 120
      · refine Ev.up ((ih (i + 1) (by omega)).mp fun k hk => ?_)
        simp only [cooperagelaw15_small.l0]
        rw [if_pos (by omega), if_pos (by omega), hr, if_neg (by omega), if_neg (by omega), w64s i (by omega), hk, List.drop_eq_getElem_cons hlt, List.all_cons, decide_eq_true h, decide_eq_true h2]
        rfl
      · refine Ev.up (Ev.of fun k => ?_)
        simp only [cooperagelaw15_small.l0]
        rw [if_pos (by omega), if_pos (by omega), hr, if_neg (by omega), if_pos (by omega), List.drop_eq_getElem_cons hlt, List.all_cons, decide_eq_false h2, Bool.and_false]
        rfl
    · refine Ev.up (Ev.of fun k => ?_)
      simp only [cooperagelaw15_small.l0]
      rw [if_pos (by omega), if_pos (by omega), hr, if_pos (by omega), List.drop_eq_getElem_cons hlt, List.all_cons, decide_eq_false h]
      rfl
def smallB (l : List Fi) : Bool := decide (l.length ≤ 12) && l.all fun x => decide (x.f1.size ≤ 5000) && decide (x.f0.size ≤ 120)
theorem small_f (l : List Fi) : Ev fun k => cooperagelaw15_small.f k l = some (smallB l) := by
  unfold smallB
  by_cases h : l.length ≤ 12
  · refine (small_loop l h l.length 0 (by omega)).mp fun k hk => ?_
    unfold cooperagelaw15_small.f
    rw [if_neg (by omega), decide_eq_true h]
    exact hk
  · refine Ev.of fun k => ?_
    unfold cooperagelaw15_small.f
    rw [if_pos (by omega), decide_eq_false h]
    rfl
theorem smallB_get {l : List Fi} (h : smallB l = true) : l.length ≤ 12 ∧ ∀ x ∈ l, x.f1.size ≤ 5000 ∧ x.f0.size ≤ 120 := by
  unfold smallB at h
  rw [Bool.and_eq_true, decide_eq_true_eq, List.all_eq_true] at h
  refine ⟨h.1, fun x hx => ?_⟩
  have := h.2 x hx
  rw [Bool.and_eq_true] at this
  exact ⟨of_decide_eq_true this.1, of_decide_eq_true this.2⟩
/-! #### The examples -/
theorem ex1 : runV [⟨#[99, 111, 112, 121, 32, 97, 32, 116]⟩, ⟨#[109, 111, 114, 101, 32, 116, 32, 120, 32, 121]⟩] [⟨⟨#[97]⟩, ⟨#[113]⟩⟩] ⟨#[116]⟩ 99 = (⟨#[113, 120, 32, 121, 10]⟩, true, 0) := by decide +kernel
theorem ex2 : runV [⟨#[45, 115, 97, 109, 101, 32, 97, 32, 98]⟩, ⟨#[64, 102, 97, 105, 108]⟩] [⟨⟨#[97]⟩, ⟨#[49]⟩⟩, ⟨⟨#[98]⟩, ⟨#[50]⟩⟩] ⟨#[116]⟩ 99 = (⟨#[]⟩, false, 11) := by decide +kernel
theorem shown_f : cooperagelaw15_shown.f = some true := by
  unfold cooperagelaw15_shown.f
  rw [run_ok _ _ _ _ (by decide) (by simp only [List.forall_mem_cons, List.not_mem_nil, false_imp_iff, implies_true, and_true]; decide) (by decide) (by simp only [List.forall_mem_cons, List.not_mem_nil, false_imp_iff, implies_true, and_true]; decide) (by decide), Option.bind_some,
    run_ok _ _ _ _ (by decide) (by simp only [List.forall_mem_cons, List.not_mem_nil, false_imp_iff, implies_true, and_true]; decide) (by decide) (by simp only [List.forall_mem_cons, List.not_mem_nil, false_imp_iff, implies_true, and_true]; decide) (by decide), Option.bind_some, ex1, ex2]
  rw [if_pos (by rw [tl]), if_pos rfl, if_pos rfl, if_neg (by decide)]
  rfl
end Go.Proofs.YtnjjnfbkilgidaaDoor.Pure
namespace Go.Proofs.YtnjjnfbkilgidaaDoor.K
open Go.Proofs.YtnjjnfbkilgidaaDoor.Fr
open Go.Proofs.YtnjjnfbkilgidaaDoor
open Go.Proofs.YtnjjnfbkilgidaaDoor.F (S31 at_T31 errW errW_none errW_some k31 k31_mk k31_mkM k31_open k31_openM rd_T31 z31)
open Go.RowKit Go.Proofs.YtnjjnfbkilgidaaDoorW.PrintWords Go.Proofs.YtnjjnfbkilgidaaDoorW.PrintLast Go.Proofs.YtnjjnfbkilgidaaDoorW.PrintMore
attribute [local go_sem] max2_int min2_int max_two min_two max_three min_three max_four min_four   -- for this text's walks alone
set_option linter.unusedVariables false
set_option linter.unusedSimpArgs false

/-! ### cooperagelaw15_named: function 12 -/
mutual
def cooperagelaw15_named.l0 : Nat → List ByteArray → Int → Option (Bool)
  | 0, _, _ => none
  | k + 1, x0, x3 => if x3 < (x0.length : Int) then (cooperagelaw15_named.l1 k x0 x3 0) else (some false)
def cooperagelaw15_named.l1 : Nat → List ByteArray → Int → Int → Option (Bool)
  | 0, _, _, _ => none
  | k + 1, x0, x3, x4 => if 0 ≤ x3 then (if x3 < (x0.length : Int) then (if (wrap64 (x4 + 9)) ≤ ((rdOf ByteArray.empty x0 x3).size : Int) then (if 0 ≤ x4 then (if x4 ≤ (wrap64 (x4 + 9)) then (if ((rdOf ByteArray.empty x0 x3).extract (x4 : Int).toNat ((wrap64 (x4 + 9)) : Int).toNat).toList = ([110, 111, 110, 101, 47, 115, 117, 99, 104] : List UInt8) then (some true) else (cooperagelaw15_named.l1 k x0 x3 (wrap64 (x4 + 1)))) else (none)) else (none)) else (cooperagelaw15_named.l0 k x0 (wrap64 (x3 + 1)))) else (none)) else (none)
end
def cooperagelaw15_named.f (k : Nat) (l0 : List ByteArray) : Option (Bool) := cooperagelaw15_named.l0 k l0 0
theorem cooperagelaw15_named.mono_l : ∀ k, (∀ y0 y1, LeO (cooperagelaw15_named.l0 k y0 y1) (cooperagelaw15_named.l0 (k + 1) y0 y1)) ∧ (∀ y0 y1 y2, LeO (cooperagelaw15_named.l1 k y0 y1 y2) (cooperagelaw15_named.l1 (k + 1) y0 y1 y2))
  | 0 => ⟨fun _ _ r h => by simp [cooperagelaw15_named.l0] at h, fun _ _ _ r h => by simp [cooperagelaw15_named.l1] at h⟩
  | k + 1 => by
    obtain ⟨ih0, ih1⟩ := cooperagelaw15_named.mono_l k
    refine ⟨?_, ?_⟩
    · intro y0 y1
      unfold cooperagelaw15_named.l0
      repeat' first
      | (with_reducible exact ih0 _ _)
      | (with_reducible exact ih1 _ _ _)
      | (with_reducible exact LeO.refl _)
      | (with_reducible exact LeO.none _)
      | (with_reducible refine LeO.ite ?_ ?_)
      | (with_reducible refine LeO.bind ?_ (fun _ => ?_))
      | exact ih0 _ _
      | exact ih1 _ _ _
      | exact LeO.none _
      | refine LeO.ite ?_ ?_
      | refine LeO.bind ?_ (fun _ => ?_)
    · intro y0 y1 y2
      unfold cooperagelaw15_named.l1
      repeat' first
      | (with_reducible exact ih0 _ _)
      | (with_reducible exact ih1 _ _ _)
      | (with_reducible exact LeO.refl _)
      | (with_reducible exact LeO.none _)
      | (with_reducible refine LeO.ite ?_ ?_)
      | (with_reducible refine LeO.bind ?_ (fun _ => ?_))
      | exact ih0 _ _
      | exact ih1 _ _ _
      | exact LeO.none _
      | refine LeO.ite ?_ ?_
      | refine LeO.bind ?_ (fun _ => ?_)
theorem cooperagelaw15_named.mono : ∀ a0 k, LeO (cooperagelaw15_named.f k a0) (cooperagelaw15_named.f (k + 1) a0) := by
  intro a0 k
  obtain ⟨ih0, ih1⟩ := cooperagelaw15_named.mono_l k
  unfold cooperagelaw15_named.f
  repeat' first
      | (with_reducible exact ih0 _ _)
      | (with_reducible exact ih1 _ _ _)
      | (with_reducible exact LeO.refl _)
      | (with_reducible exact LeO.none _)
      | (with_reducible refine LeO.ite ?_ ?_)
      | (with_reducible refine LeO.bind ?_ (fun _ => ?_))
      | exact ih0 _ _
      | exact ih1 _ _ _
      | exact LeO.none _
      | refine LeO.ite ?_ ?_
      | refine LeO.bind ?_ (fun _ => ?_)
set_option maxHeartbeats 8000000 in
set_option maxRecDepth 100000 in
theorem cooperagelaw15_named.calls (k : Nat) (A0 : Option Addr) (c0 : Nat) (l0 : List ByteArray) (r : Bool) (w : World) (hr0 : Kd.C Kd.string w A0 l0.length l0) (hc0 : l0.length ≤ c0) (h : cooperagelaw15_named.f k l0 = some r) :
    Calls Tryd.prog 12 #[.slice A0 l0.length c0] w fun e w' => e = .returned (.bool r) ∧ Drawn0 w w' := by
  have HR0 := Aside0.mk hr0
  have HC0 := Aside0.mk hc0
  clear hr0 hc0
  have H : (cooperagelaw15_named.l0 k l0 0) = some r := h
  clear h
  have H' := Aside0.mk H
  clear H
  go_enter Tryd.func12, Tryd.ntmps12
  go_wp2
  go_loopg [3] k (fun kq v3 w' => ∃ (x3_1 : Int), v3 = .int .i64 x3_1 ∧ Aside0 (cooperagelaw15_named.l0 kq l0 x3_1 = some r) ∧ Aside0 (kq ≤ k) ∧ Drawn0 w w')
  case atStart => exact ⟨(0), (by first | rfl | (simp; done) | (simp [*]; done)), H', ⟨Nat.le_refl _⟩, by repeat (first | exact Drawn0.refl _ | apply Drawn0.step)⟩
  case round =>
    clear H'
    try clear c1
    obtain ⟨x3_1, rfl, HA, HK1, ⟨m1, rfl⟩⟩ := hrel
    cases gk with
    | zero => exact absurd HA.out (by simp [cooperagelaw15_named.l0])
    | succ k1 =>
      have H := HA.out
      clear HA
      simp only [cooperagelaw15_named.l0] at H
      by_cases c2 : x3_1 < (l0.length : Int)
      · rw [if_pos c2] at H
        have c2b0 : decide (x3_1 < (l0.length : Int)) = true := decide_eq_true c2
        clear c2
        have H' := Aside0.mk H
        clear H
        go_wp2
        go_loopg [4] k1 (fun kq v4 w' => ∃ (x4_2 : Int), v4 = .int .i64 x4_2 ∧ Aside0 (cooperagelaw15_named.l1 kq l0 x3_1 x4_2 = some r) ∧ Aside0 (kq ≤ k1) ∧ Drawn0 w w')
        case atStart => exact ⟨(0), (by first | rfl | (simp; done) | (simp [*]; done)), H', ⟨Nat.le_refl _⟩, by repeat (first | exact Drawn0.refl _ | apply Drawn0.step)⟩
        case round =>
          clear H'
          try clear c1
          try clear c2
          try clear c2b0
          try clear p2
          obtain ⟨x4_2, rfl, HA, HK2, ⟨m2, rfl⟩⟩ := hrel
          cases gk with
          | zero => exact absurd HA.out (by simp [cooperagelaw15_named.l1])
          | succ k2 =>
            have H := HA.out
            clear HA
            simp only [cooperagelaw15_named.l1] at H
            by_cases c3 : 0 ≤ x3_1
            · rw [if_pos c3] at H
              have c3b0 : decide (0 ≤ x3_1) = true := decide_eq_true c3
              clear c3
              by_cases c4 : x3_1 < (l0.length : Int)
              · rw [if_pos c4] at H
                have c4b0 : decide (x3_1 < (l0.length : Int)) = true := decide_eq_true c4
                clear c4
                by_cases c5 : (wrap64 (x4_2 + 9)) ≤ ((rdOf ByteArray.empty l0 x3_1).size : Int)
                · rw [if_pos c5] at H
                  have c5b0 : decide ((wrap64 (x4_2 + 9)) ≤ ((rdOf ByteArray.empty l0 x3_1).size : Int)) = true := decide_eq_true c5
                  clear c5
                  by_cases c6 : 0 ≤ x4_2
                  · rw [if_pos c6] at H
                    have c6b0 := eq_true c6
                    have c6b1 : decide (0 ≤ x4_2) = true := decide_eq_true c6
                    clear c6
                    by_cases c7 : x4_2 ≤ (wrap64 (x4_2 + 9))
                    · rw [if_pos c7] at H
                      have c7b0 := eq_true c7
                      have c7b1 : decide (x4_2 ≤ (wrap64 (x4_2 + 9))) = true := decide_eq_true c7
                      have c8b0 := eq_true (of_decide_eq_true (by first | (with_reducible assumption) | assumption) : (wrap64 (x4_2 + 9)) ≤ ((rdOf ByteArray.empty l0 x3_1).size : Int))
                      by_cases c9 : ((rdOf ByteArray.empty l0 x3_1).extract (x4_2 : Int).toNat ((wrap64 (x4_2 + 9)) : Int).toNat).toList = ([110, 111, 110, 101, 47, 115, 117, 99, 104] : List UInt8)
                      · rw [if_pos c9] at H
                        have c9b0 : (((rdOf ByteArray.empty l0 x3_1).extract (x4_2 : Int).toNat ((wrap64 (x4_2 + 9)) : Int).toNat).toList == ([110, 111, 110, 101, 47, 115, 117, 99, 104] : List UInt8)) = true := beq_iff_eq.mpr c9
                        have c9b1 : (((rdOf ByteArray.empty l0 x3_1).extract (x4_2 : Int).toNat ((wrap64 (x4_2 + 9)) : Int).toNat).toList != ([110, 111, 110, 101, 47, 115, 117, 99, 104] : List UInt8)) = false := bne_eq_false_iff_eq.mpr c9
                        clear c9
                        obtain rfl := Option.some.inj H
                        have p164 : 0 ≤ (x3_1 : Int) := of_decide_eq_true (by first | (with_reducible assumption) | assumption)
                        have q164 : x3_1 < (l0.length : Int) := of_decide_eq_true (by first | (with_reducible assumption) | assumption)
                        obtain ⟨ad164, e164, hx164_0⟩ := Kd.at_string HR0.out x3_1 p164 q164
                        cases e164
                        replace p164 := eq_true p164
                        replace q164 := eq_true q164
                        have p165 : 0 ≤ (x3_1 : Int) := of_decide_eq_true (by first | (with_reducible assumption) | assumption)
                        have q165 : x3_1 < (l0.length : Int) := of_decide_eq_true (by first | (with_reducible assumption) | assumption)
                        obtain ⟨ad165, e165, hx165_0⟩ := Kd.at_string HR0.out x3_1 p165 q165
                        obtain rfl : ad164 = ad165 := (by injection e165)
                        replace p165 := eq_true p165
                        replace q165 := eq_true q165
                        go_wp2
                        go_ret
                        exact ⟨by first | rfl | (simp; done) | (simp [*]; done), by repeat (first | exact Drawn0.refl _ | apply Drawn0.step)⟩
                      · rw [if_neg c9] at H
                        have c9b0 : (((rdOf ByteArray.empty l0 x3_1).extract (x4_2 : Int).toNat ((wrap64 (x4_2 + 9)) : Int).toNat).toList == ([110, 111, 110, 101, 47, 115, 117, 99, 104] : List UInt8)) = false := beq_eq_false_iff_ne.mpr c9
                        have c9b1 : (((rdOf ByteArray.empty l0 x3_1).extract (x4_2 : Int).toNat ((wrap64 (x4_2 + 9)) : Int).toNat).toList != ([110, 111, 110, 101, 47, 115, 117, 99, 104] : List UInt8)) = true := bne_iff_ne.mpr c9
                        have H' := Aside0.mk H
                        clear H
                        have p164 : 0 ≤ (x3_1 : Int) := of_decide_eq_true (by first | (with_reducible assumption) | assumption)
                        have q164 : x3_1 < (l0.length : Int) := of_decide_eq_true (by first | (with_reducible assumption) | assumption)
                        obtain ⟨ad164, e164, hx164_0⟩ := Kd.at_string HR0.out x3_1 p164 q164
                        cases e164
                        replace p164 := eq_true p164
                        replace q164 := eq_true q164
                        have p165 : 0 ≤ (x3_1 : Int) := of_decide_eq_true (by first | (with_reducible assumption) | assumption)
                        have q165 : x3_1 < (l0.length : Int) := of_decide_eq_true (by first | (with_reducible assumption) | assumption)
                        obtain ⟨ad165, e165, hx165_0⟩ := Kd.at_string HR0.out x3_1 p165 q165
                        obtain rfl : ad164 = ad165 := (by injection e165)
                        replace p165 := eq_true p165
                        replace q165 := eq_true q165
                        go_wp2
                        go_roundg k2
                        case measure => have := HK1.out; have := HK2.out; omega
                        case rel => exact ⟨(wrap64 (x4_2 + 1)), (by first | rfl | (simp; done) | (simp [*]; done)), H', ⟨by have := HK1.out; have := HK2.out; omega⟩, by repeat (first | exact Drawn0.refl _ | apply Drawn0.step)⟩
                    · rw [if_neg c7] at H
                      exact absurd H (by simp)
                  · rw [if_neg c6] at H
                    exact absurd H (by simp)
                · rw [if_neg c5] at H
                  have c5b0 : decide ((wrap64 (x4_2 + 9)) ≤ ((rdOf ByteArray.empty l0 x3_1).size : Int)) = false := decide_eq_false c5
                  clear c5
                  have H' := Aside0.mk H
                  clear H
                  have p164 : 0 ≤ (x3_1 : Int) := of_decide_eq_true (by first | (with_reducible assumption) | assumption)
                  have q164 : x3_1 < (l0.length : Int) := of_decide_eq_true (by first | (with_reducible assumption) | assumption)
                  obtain ⟨ad164, e164, hx164_0⟩ := Kd.at_string HR0.out x3_1 p164 q164
                  cases e164
                  replace p164 := eq_true p164
                  replace q164 := eq_true q164
                  go_wp2
                  go_roundg k2
                  case measure => have := HK1.out; have := HK2.out; omega
                  case rel => exact ⟨(wrap64 (x3_1 + 1)), (by first | rfl | (simp; done) | (simp [*]; done)), H', ⟨by have := HK1.out; have := HK2.out; omega⟩, by repeat (first | exact Drawn0.refl _ | apply Drawn0.step)⟩
              · rw [if_neg c4] at H
                exact absurd H (by simp)
            · rw [if_neg c3] at H
              exact absurd H (by simp)
      · rw [if_neg c2] at H
        have c2b0 : decide (x3_1 < (l0.length : Int)) = false := decide_eq_false c2
        clear c2
        obtain rfl := Option.some.inj H
        go_wp2
        go_ret
        exact ⟨by first | rfl | (simp; done) | (simp [*]; done), by repeat (first | exact Drawn0.refl _ | apply Drawn0.step)⟩

-- NOT PRINTED: function 5 (cooperagelaw15_RecipeFails)

end Go.Proofs.YtnjjnfbkilgidaaDoor.K
/- What a row's start gives. -/
namespace Go.Proofs.YtnjjnfbkilgidaaDoor.Fr
open Go.RowKit Go.Proofs.YtnjjnfbkilgidaaDoor.F Go.Proofs.YtnjjnfbkilgidaaDoorW.PrintWords
set_option linter.unusedVariables false
theorem glob_of_shaped {W : World} (h : W.ShapedOpen Tryd.prog) : Glob W := by
  obtain ⟨m, hm⟩ : ∃ m, W.cell? ⟨0, 0, none⟩ = some (.int .i64 m) := Go.Proofs.cell_of_shapedOpen_int (zero := #[.int .i64 0]) (t := 3) h (of_decide_eq_true (by kernel_rfl)) (by kernel_rfl) rfl (by kernel_rfl) (by kernel_rfl) Tryd.underlying3
  exact ⟨cell_lt hm, m, hm⟩
def ok31 (a : Fi) : Prop := a.f0.size ≤ maxLen ∧ a.f1.size ≤ maxLen
/-- A parameter of files. -/
def Fls (W : World) (A : Option Addr) (c : Nat) (l : List Fi) : Prop := Kd.C k31 W A l.length l ∧ l.length ≤ c
theorem acs_of {W : World} {A : Option Addr} {c : Nat} {l : List Fi} (hC : Kd.C k31 W A l.length l) (hc : l.length ≤ c) (ho : ∀ a ∈ l, ok31 a) : Fls W A c l := ⟨hC, hc⟩
end Go.Proofs.YtnjjnfbkilgidaaDoor.Fr
/- A parameter that is a slice, opened to a list: what an element reads as is told by the caller. -/
namespace Go.Proofs.YtnjjnfbkilgidaaDoor.Open
open Go.ChangeShapes Go.WideShapes Go.RowKit Go.Proofs.YtnjjnfbkilgidaaDoorW.PrintWords
set_option linter.unusedVariables false
theorem open_list {H : Type} {enc : TypeId × Value → H} {P : Program} {w : World} {base : Nat} {spare : Nat → Bool} {held : Bool} {α : Type} (K : Kd α) (ok : α → Prop) {t e : TypeId} {fuel : Nat} {cs : List Value} {x : DataW H × List MemPlace}
    (ht : P.underlying t = some (.slice e)) (hsz : P.cellsOf e = K.sz) (hel : ∀ n cs' y, DataW.trod enc P w base spare held n e cs' = some y → ∃ a : α, K.K w a cs' ∧ ok a)
    (h : DataW.trod enc P w base spare held fuel t cs = some x) :
    ∃ (A : Option Addr) (l : List α) (c : Nat), cs = [.slice A l.length c] ∧ Kd.C K w A l.length l ∧ l.length ≤ c ∧ ∀ a ∈ l, ok a := by
  rcases Go.Deep.open_slice ht h with ⟨h0, _⟩ | ⟨a, len, cap, m, n, D, Pl, hcs, hb, hl, hm, hmm, hx, hi⟩
  · exact ⟨none, [], 0, h0, ⟨rfl, by simp, fun h => by simp at h⟩, Nat.zero_le _, fun a ha => by simp at ha⟩
  · have hlm : len ≤ m := by rw [hmm]; split <;> omega
    have hex : ∀ i : Fin len, ∃ y : α, ∃ cs', K.K w y cs' ∧ ok y ∧ w.cells? base (a.add (i.1 * P.cellsOf e)) (P.cellsOf e) = some cs' := by
      intro i
      obtain ⟨cs', h1, h2⟩ := hi i.1 (by omega)
      obtain ⟨y, h3, h4⟩ := hel n cs' _ h2
      exact ⟨y, cs', h3, h4, h1⟩
    refine ⟨some a, List.ofFn fun i => Classical.choose (hex i), cap, by rw [hcs, List.length_ofFn], ?_, by rw [List.length_ofFn]; exact hl, ?_⟩
    · refine ⟨rfl, by rw [List.length_ofFn]; unfold maxLen at hm; omega, fun _ => ⟨a, rfl, fun j p hj => ?_⟩⟩
      obtain ⟨hjl, hp⟩ := List.getElem?_eq_some_iff.1 hj
      rw [List.getElem_ofFn] at hp
      rw [List.length_ofFn] at hjl
      obtain ⟨cs', h1, h2, h3⟩ := Classical.choose_spec (hex ⟨j, hjl⟩)
      rw [hp] at h1
      refine ⟨cs', K.K_len h1, h1, fun i u hu => ?_⟩
      obtain ⟨_, hcl, hat⟩ := World.cells?_some h3
      have hil : i < P.cellsOf e := by rw [hsz, ← K.K_len h1]; exact (List.getElem?_eq_some_iff.1 hu).1
      have := hat i hil
      rw [Go.Deep.add_add, hu] at this
      rw [← hsz]
      exact this
    · intro y hy
      obtain ⟨i, hi⟩ := List.mem_ofFn.1 hy
      rw [← hi]
      obtain ⟨cs', h1, h2, h3⟩ := Classical.choose_spec (hex i)
      exact h2
theorem el_int {H : Type} {enc : TypeId × Value → H} {P : Program} {w : World} {base : Nat} {spare : Nat → Bool} {held : Bool} {k : IntKind} {e : TypeId} (he : P.underlying e = some (.int k)) :
    ∀ n cs' (y : DataW H × List MemPlace), DataW.trod enc P w base spare held n e cs' = some y → ∃ a : Int, (Kd.int k).K w a cs' ∧ (Lit.int k a).wf = true := by
  intro n cs' y h
  obtain ⟨a, rfl, _, hw⟩ := DataW.trod_int he h
  exact ⟨a, rfl, hw⟩
theorem el_string {H : Type} {enc : TypeId × Value → H} {P : Program} {w : World} {base : Nat} {spare : Nat → Bool} {held : Bool} {e : TypeId} (he : P.underlying e = some .string) :
    ∀ n cs' (y : DataW H × List MemPlace), DataW.trod enc P w base spare held n e cs' = some y → ∃ a : ByteArray, Kd.string.K w a cs' ∧ True := by
  intro n cs' y h
  obtain ⟨a, rfl, _⟩ := DataW.trod_string he h
  exact ⟨a, rfl, trivial⟩
theorem el_strs {H : Type} {enc : TypeId × Value → H} {P : Program} {w : World} {base : Nat} {spare : Nat → Bool} {held : Bool} {t e : TypeId} (ht : P.underlying t = some (.slice e)) (he : P.underlying e = some .string) (hz : P.cellsOf e = 1) :
    ∀ n cs' (y : DataW H × List MemPlace), DataW.trod enc P w base spare held n t cs' = some y → ∃ l : List ByteArray, (Kd.slice e Kd.string).K w l cs' ∧ True := by
  intro n cs' y h
  obtain ⟨A, l, c, h1, h2, h3, _⟩ := open_list Kd.string (fun _ => True) ht hz (el_string he) h
  exact ⟨l, ⟨A, c, h1, h3, h2⟩, trivial⟩
theorem reads_moved {α : Type} {R R' : α → List Value → Prop} {size : Nat} {w w1 : World} {A : Option Addr} {n : Nat} {ps : List α} (h : ReadsRow R size w A n ps) (hb : ∀ k, k < w.heap.size → w1.heap[k]? = w.heap[k]?) (hR : ∀ p c, R p c → R' p c) : ReadsRow R' size w1 A n ps :=
  ⟨h.1, h.2.1, fun hn => by
    obtain ⟨ad, e, hc⟩ := h.2.2 hn
    refine ⟨ad, e, fun j p hj => ?_⟩
    obtain ⟨c, hs, hr, hcell⟩ := hc j p hj
    refine ⟨c, hs, hR _ _ hr, fun i u hu => ?_⟩
    have h1 := hcell i u hu
    have h2 := hb _ (World.block_lt_of_cell? w _ h1)
    simpa [World.cell?, h2] using h1⟩
theorem V_strs {w : World} {A : Option Addr} {c e t base : Nat} {l : List (List ByteArray)} (h : Kd.C (Kd.slice e Kd.string) w A l.length l) (hl : l.length ≤ c) : Kd.V (Kd.slice e Kd.string) t w base (fun _ => True) (.slice A l.length c) l :=
  Kd.V_mk hl (fun W' hW => reads_moved h (fun k hk => hW k trivial hk) (by
    rintro p cs ⟨A', c', e', hl', hr'⟩
    exact ⟨A', c', e', hl', reads_moved hr' (fun k hk => hW k trivial hk) (fun _ _ h => h)⟩))
theorem V_strs0 {w : World} {A : Option Addr} {c t base : Nat} {l : List ByteArray} (h : Kd.C Kd.string w A l.length l) (hl : l.length ≤ c) : Kd.V Kd.string t w base (fun _ => True) (.slice A l.length c) l :=
  Kd.V_mk hl (fun W' hW => reads_moved h (fun k hk => hW k trivial hk) (fun _ _ h => h))
end Go.Proofs.YtnjjnfbkilgidaaDoor.Open
open Go
namespace Go.Proofs.YtnjjnfbkilgidaaDoor.Spl
/-- A list of bytes, cut at each byte c. -/
def splG (c : UInt8) (cur : List UInt8) : List UInt8 → List (List UInt8)
  | [] => [cur.reverse]
  | b :: t => if b = c then cur.reverse :: splG c [] t else splG c (b :: cur) t
theorem splG_app (c : UInt8) (b : List UInt8) : ∀ a cur : List UInt8, splG c cur (a ++ c :: b) = splG c cur a ++ splG c [] b := by
  intro a
  induction a with
  | nil => intro cur; simp [splG]
  | cons x t ih =>
    intro cur
    simp only [List.cons_append, splG]
    split
    · rw [ih]; rfl
    · exact ih _
theorem splG_len (c : UInt8) : ∀ a cur : List UInt8, (splG c cur a).length = a.count c + 1 := by
  intro a
  induction a with
  | nil => intro cur; rfl
  | cons x t ih =>
    intro cur
    simp only [splG]
    split
    · next h => subst h; rw [List.length_cons, ih, List.count_cons_self]
    · next h => rw [ih, List.count_cons_of_ne (by simpa using h)]
theorem splG_none (c : UInt8) : ∀ a cur : List UInt8, (∀ x ∈ a, x ≠ c) → splG c cur a = [cur.reverse ++ a] := by
  intro a
  induction a with
  | nil => intro cur _; simp [splG]
  | cons x t ih =>
    intro cur h
    rw [splG, if_neg (h x (by simp)), ih _ (fun y hy => h y (by simp [hy]))]
    simp
theorem splG_cur (c : UInt8) : ∀ a cur : List UInt8, ∃ h r, splG c [] a = h :: r ∧ splG c cur a = (cur.reverse ++ h) :: r := by
  intro a
  induction a with
  | nil => intro cur; exact ⟨[], [], rfl, by simp [splG]⟩
  | cons x t ih =>
    intro cur
    simp only [splG]
    split
    · exact ⟨[], splG c [] t, rfl, by simp⟩
    · obtain ⟨h, r, e1, e2⟩ := ih [x]
      obtain ⟨h', r', e1', e2'⟩ := ih (x :: cur)
      rw [e1] at e1'
      injection e1' with q1 q2
      subst q1 q2
      exact ⟨_, _, e2, by rw [e2']; simp⟩
theorem splitK_G (c : UInt8) : ∀ l : List UInt8, Lib.splitK [c] 0 (Lib.count l [c]) l = splG c [] l := by
  intro l
  induction l with
  | nil => rw [Lib.count_miss (by simp [Lib.index])]; rfl
  | cons b t ih =>
    by_cases h : b = c
    · subst h
      have hix : Lib.index (b :: t) [b] = ((0 : Nat) : Int) := by rw [Lib.index]; simp [List.isPrefixOf]
      rw [Lib.count_cons_eq, Nat.add_comm, Lib.splitK, hix]
      simp only [splG, if_true]
      rw [if_neg (by decide)]
      simpa using ih
    · rw [Lib.count_cons_ne b c t h, splG, if_neg h]
      obtain ⟨h1, r1, e1, e2⟩ := splG_cur c t [b]
      rw [e2]
      have hp : ([c] : List UInt8).isPrefixOf (b :: t) = false := by simp [List.isPrefixOf, Ne.symm h]
      have hix : Lib.index (b :: t) [c] = if Lib.index t [c] == -1 then -1 else Lib.index t [c] + 1 := by rw [Lib.index, hp]; simp
      rw [e1] at ih
      by_cases hm : Lib.index t [c] = -1
      · rw [Lib.count_miss hm] at ih ⊢
        simp only [Lib.splitK] at ih ⊢
        injection ih with q1 q2
        subst q1 q2
        simp
      · have hge := Lib.index_ge t [c]
        obtain ⟨j, hj⟩ : ∃ j : Nat, Lib.index t [c] = j := ⟨(Lib.index t [c]).toNat, by omega⟩
        have hix' : Lib.index (b :: t) [c] = ((j + 1 : Nat) : Int) := by rw [hix, if_neg (fun e => hm (beq_iff_eq.1 e)), hj]; omega
        rw [Lib.count_hit (by simp) hj, Nat.add_comm, Lib.splitK] at ih ⊢
        rw [hj, if_neg (by simp)] at ih
        rw [hix', if_neg (by simp; omega)]
        injection ih with q1 q2
        simp only [Int.toNat_natCast, Nat.add_zero, List.length_cons, List.length_nil, Nat.zero_add] at q1 q2 ⊢
        rw [show j + 1 + 1 = (j + 1) + 1 from rfl, List.take_succ_cons, List.drop_succ_cons, q1, q2]
        simp
end Go.Proofs.YtnjjnfbkilgidaaDoor.Spl
/- Plain facts of paths. -/
namespace Go.Proofs.YtnjjnfbkilgidaaDoor.Fr
open Go.RowKit Go.Proofs.YtnjjnfbkilgidaaDoor.F Go.Proofs.YtnjjnfbkilgidaaDoorW.PrintWords Go.Proofs.YtnjjnfbkilgidaaDoor.Spl
set_option linter.unusedVariables false
set_option linter.unusedSimpArgs false
def badL (p : List UInt8) : Bool := p.isEmpty || p == [46] || p == [46, 46]
theorem parts_eq (s : ByteArray) : (partsB s).map (·.data.toList) = splG 47 [] s.data.toList := by
  unfold partsB
  rw [Lib.splitB_data]
  exact splitK_G 47 _
/-- What ends in a stroke is no path. -/
theorem path_end (s : ByteArray) : pathV (s ++ (⟨#[47]⟩ : ByteArray)) = false := by
  unfold pathV
  have e1 : (partsB (s ++ (⟨#[47]⟩ : ByteArray))).all (fun p => !badPart p) = (splG 47 [] (s ++ (⟨#[47]⟩ : ByteArray)).data.toList).all (fun p => !badL p) := by
    rw [← parts_eq, List.all_map]
    congr 1
    funext p
    simp only [badPart, badL, Function.comp_apply, ByteArray.toList_eq]
  have e2 : (s ++ (⟨#[47]⟩ : ByteArray)).data.toList = s.data.toList ++ [47] := by
    simp [ByteArray.data_append, Array.toList_append]
  rw [e1, e2, splG_app, List.all_append (xs := splG 47 [] s.data.toList)]
  simp [splG, badL]
end Go.Proofs.YtnjjnfbkilgidaaDoor.Fr
