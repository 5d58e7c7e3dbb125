-- fixed by fix_text.py. Written by a program of this session (hprint.py over the kit's print).
import Derived.Test.YtocpfgdajomjiaaDoorL0
import Derived.Test.YtocpfgdajomjiaaDoorL2
import Derived.Test.YtocpfgdajomjiaaDoorHandLine
namespace Go.Proofs.YtocpfgdajomjiaaDoor.L
open Go.Proofs.YtocpfgdajomjiaaDoor.Hand3
open Go.Proofs.YtocpfgdajomjiaaDoor
open Go.RowKit Go.Proofs.YtocpfgdajomjiaaDoorW.PrintWords Go.Proofs.YtocpfgdajomjiaaDoorW.PrintLast Go.Proofs.YtocpfgdajomjiaaDoorW.PrintMore
attribute [local go_sem] max2_int min2_int max_two min_two max_three min_three max_four min_four   -- for this text's walks alone
set_option linter.unusedVariables false
set_option linter.unusedSimpArgs false

/-! ### cooperagelaw4_shown: function 38 -/
def cooperagelaw4_shown.j0 : Nat → ByteArray → ByteArray → Bool → Option (Bool)
  | 0, _, _, _ => none
  | k + 1, x3, x5, x53 => if x53 = true then (some false) else (if 0 ≤ 10 then (if 10 ≤ (x5.size : Int) then (if x3.size + (x5.extract 0 10).size ≤ 9223372036854775807 then ((line_Scan.f (x3 ++ (x5.extract 0 10))).bind fun bt121 => ((cooperagelaw4_sameAll.f k bt121.1 (([(([(⟨#[97]⟩ : ByteArray)] : List ByteArray))] : List (List ByteArray)))).bind fun t131 => (if t131 = true then (some (bt121.2 == 11)) else (some false)))) else (none)) else (none)) else (none))
def cooperagelaw4_shown.f (k : Nat)  : Option (Bool) := (line_Put.f (([(⟨#[97, 32, 98]⟩ : ByteArray)] : List ByteArray))).bind fun bt109 => ((line_Put.f (([(⟨#[97]⟩ : ByteArray)] : List ByteArray))).bind fun bt114 => ((line_Put.f (([(⟨#[98]⟩ : ByteArray)] : List ByteArray))).bind fun bt119 => (if (bt109.1.size : Int) < 6 then (cooperagelaw4_shown.j0 k bt114.1 bt119.1 true) else (if 0 ≤ 6 then (if 6 ≤ (bt109.1.size : Int) then (if (bt109.1.extract 0 6).toList = ([97, 37, 50, 48, 98, 32] : List UInt8) then (if bt109.2 = 0 then (if (bt114.1.size : Int) = 11 then (if bt114.2 = 0 then (if (bt119.1.size : Int) = 11 then (cooperagelaw4_shown.j0 k bt114.1 bt119.1 (bt119.2 != 0)) else (cooperagelaw4_shown.j0 k bt114.1 bt119.1 true)) else (cooperagelaw4_shown.j0 k bt114.1 bt119.1 true)) else (cooperagelaw4_shown.j0 k bt114.1 bt119.1 true)) else (cooperagelaw4_shown.j0 k bt114.1 bt119.1 true)) else (cooperagelaw4_shown.j0 k bt114.1 bt119.1 true)) else (none)) else (none)))))
theorem cooperagelaw4_shown.mono_l : ∀ k, (∀ y0 y1 y2, LeO (cooperagelaw4_shown.j0 k y0 y1 y2) (cooperagelaw4_shown.j0 (k + 1) y0 y1 y2))
  | 0 => fun _ _ _ r h => by simp [cooperagelaw4_shown.j0] at h
  | k + 1 => by
    have ih0 := cooperagelaw4_shown.mono_l k
    · intro y0 y1 y2
      unfold cooperagelaw4_shown.j0
      repeat' first
      | (with_reducible exact ih0 _ _ _)
      | (with_reducible exact cooperagelaw4_sameAll.mono _ _ _)
      | (with_reducible exact LeO.refl _)
      | (with_reducible exact LeO.none _)
      | (with_reducible refine LeO.ite ?_ ?_)
      | (with_reducible refine LeO.bind ?_ (fun _ => ?_))
      | exact ih0 _ _ _
      | exact cooperagelaw4_sameAll.mono _ _ _
      | exact LeO.none _
      | refine LeO.ite ?_ ?_
      | refine LeO.bind ?_ (fun _ => ?_)
theorem cooperagelaw4_shown.mono : ∀ k, LeO (cooperagelaw4_shown.f k ) (cooperagelaw4_shown.f (k + 1) ) := by
  intro  k
  have ih0 := cooperagelaw4_shown.mono_l k
  unfold cooperagelaw4_shown.f
  repeat' first
      | (with_reducible exact ih0 _ _ _)
      | (with_reducible exact cooperagelaw4_sameAll.mono _ _ _)
      | (with_reducible exact LeO.refl _)
      | (with_reducible exact LeO.none _)
      | (with_reducible refine LeO.ite ?_ ?_)
      | (with_reducible refine LeO.bind ?_ (fun _ => ?_))
      | exact ih0 _ _ _
      | exact cooperagelaw4_sameAll.mono _ _ _
      | exact LeO.none _
      | refine LeO.ite ?_ ?_
      | refine LeO.bind ?_ (fun _ => ?_)
set_option maxHeartbeats 8000000 in
set_option maxRecDepth 100000 in
theorem cooperagelaw4_shown.calls (k : Nat)  (r : Bool) (w : World) (hG : Hand3.Glob w) (h : cooperagelaw4_shown.f k  = some r) :
    Calls Tryd.prog 38 #[] w fun e w' => e = .returned (.bool r) ∧ Below w.heap.size w w' := by
  have HB := Aside0.mk (Below.refl w.heap.size w)
  have H : ((line_Put.f (([(⟨#[97, 32, 98]⟩ : ByteArray)] : List ByteArray))).bind fun bt109 => ((line_Put.f (([(⟨#[97]⟩ : ByteArray)] : List ByteArray))).bind fun bt114 => ((line_Put.f (([(⟨#[98]⟩ : ByteArray)] : List ByteArray))).bind fun bt119 => (if (bt109.1.size : Int) < 6 then (cooperagelaw4_shown.j0 k bt114.1 bt119.1 true) else (if 0 ≤ 6 then (if 6 ≤ (bt109.1.size : Int) then (if (bt109.1.extract 0 6).toList = ([97, 37, 50, 48, 98, 32] : List UInt8) then (if bt109.2 = 0 then (if (bt114.1.size : Int) = 11 then (if bt114.2 = 0 then (if (bt119.1.size : Int) = 11 then (cooperagelaw4_shown.j0 k bt114.1 bt119.1 (bt119.2 != 0)) else (cooperagelaw4_shown.j0 k bt114.1 bt119.1 true)) else (cooperagelaw4_shown.j0 k bt114.1 bt119.1 true)) else (cooperagelaw4_shown.j0 k bt114.1 bt119.1 true)) else (cooperagelaw4_shown.j0 k bt114.1 bt119.1 true)) else (cooperagelaw4_shown.j0 k bt114.1 bt119.1 true)) else (none)) else (none)))))) = some r := h
  clear h
  obtain ⟨y106, hy106⟩ : ∃ y_ : List ByteArray, y_ = (([(⟨#[97, 32, 98]⟩ : ByteArray)] : List ByteArray)) := ⟨_, rfl⟩
  replace H : ((line_Put.f y106).bind fun bt109 => ((line_Put.f (([(⟨#[97]⟩ : ByteArray)] : List ByteArray))).bind fun bt114 => ((line_Put.f (([(⟨#[98]⟩ : ByteArray)] : List ByteArray))).bind fun bt119 => (if (bt109.1.size : Int) < 6 then (cooperagelaw4_shown.j0 k bt114.1 bt119.1 true) else (if 0 ≤ 6 then (if 6 ≤ (bt109.1.size : Int) then (if (bt109.1.extract 0 6).toList = ([97, 37, 50, 48, 98, 32] : List UInt8) then (if bt109.2 = 0 then (if (bt114.1.size : Int) = 11 then (if bt114.2 = 0 then (if (bt119.1.size : Int) = 11 then (cooperagelaw4_shown.j0 k bt114.1 bt119.1 (bt119.2 != 0)) else (cooperagelaw4_shown.j0 k bt114.1 bt119.1 true)) else (cooperagelaw4_shown.j0 k bt114.1 bt119.1 true)) else (cooperagelaw4_shown.j0 k bt114.1 bt119.1 true)) else (cooperagelaw4_shown.j0 k bt114.1 bt119.1 true)) else (cooperagelaw4_shown.j0 k bt114.1 bt119.1 true)) else (none)) else (none)))))) = some r := by first | (rw [hy106]; with_reducible exact H) | (have H2_ := (Option.bind_some _ _).symm.trans H; rw [hy106]; with_reducible exact H2_) | (have H2_ := (Option.bind_some _ _).symm.trans H; with_reducible exact H2_) | with_reducible exact H | (rw [hy106]; exact H) | exact H
  have Ny106 := Aside0.mk hy106
  clear hy106
  replace H := Option.bind_eq_some_iff.mp H
  obtain ⟨⟨t109, t110⟩, A10, H⟩ := H
  replace H : ((line_Put.f (([(⟨#[97]⟩ : ByteArray)] : List ByteArray))).bind fun bt114 => ((line_Put.f (([(⟨#[98]⟩ : ByteArray)] : List ByteArray))).bind fun bt119 => (if (t109.size : Int) < 6 then (cooperagelaw4_shown.j0 k bt114.1 bt119.1 true) else (if 0 ≤ 6 then (if 6 ≤ (t109.size : Int) then (if (t109.extract 0 6).toList = ([97, 37, 50, 48, 98, 32] : List UInt8) then (if t110 = 0 then (if (bt114.1.size : Int) = 11 then (if bt114.2 = 0 then (if (bt119.1.size : Int) = 11 then (cooperagelaw4_shown.j0 k bt114.1 bt119.1 (bt119.2 != 0)) else (cooperagelaw4_shown.j0 k bt114.1 bt119.1 true)) else (cooperagelaw4_shown.j0 k bt114.1 bt119.1 true)) else (cooperagelaw4_shown.j0 k bt114.1 bt119.1 true)) else (cooperagelaw4_shown.j0 k bt114.1 bt119.1 true)) else (cooperagelaw4_shown.j0 k bt114.1 bt119.1 true)) else (none)) else (none))))) = some r := H
  have A1 := Aside0.mk A10
  clear A10
  obtain ⟨y111, hy111⟩ : ∃ y_ : List ByteArray, y_ = (([(⟨#[97]⟩ : ByteArray)] : List ByteArray)) := ⟨_, rfl⟩
  replace H : ((line_Put.f y111).bind fun bt114 => ((line_Put.f (([(⟨#[98]⟩ : ByteArray)] : List ByteArray))).bind fun bt119 => (if (t109.size : Int) < 6 then (cooperagelaw4_shown.j0 k bt114.1 bt119.1 true) else (if 0 ≤ 6 then (if 6 ≤ (t109.size : Int) then (if (t109.extract 0 6).toList = ([97, 37, 50, 48, 98, 32] : List UInt8) then (if t110 = 0 then (if (bt114.1.size : Int) = 11 then (if bt114.2 = 0 then (if (bt119.1.size : Int) = 11 then (cooperagelaw4_shown.j0 k bt114.1 bt119.1 (bt119.2 != 0)) else (cooperagelaw4_shown.j0 k bt114.1 bt119.1 true)) else (cooperagelaw4_shown.j0 k bt114.1 bt119.1 true)) else (cooperagelaw4_shown.j0 k bt114.1 bt119.1 true)) else (cooperagelaw4_shown.j0 k bt114.1 bt119.1 true)) else (cooperagelaw4_shown.j0 k bt114.1 bt119.1 true)) else (none)) else (none))))) = some r := by first | (rw [hy111]; with_reducible exact H) | (have H2_ := (Option.bind_some _ _).symm.trans H; rw [hy111]; with_reducible exact H2_) | (have H2_ := (Option.bind_some _ _).symm.trans H; with_reducible exact H2_) | with_reducible exact H | (rw [hy111]; exact H) | exact H
  have Ny111 := Aside0.mk hy111
  clear hy111
  replace H := Option.bind_eq_some_iff.mp H
  obtain ⟨⟨t114, t115⟩, A20, H⟩ := H
  replace H : ((line_Put.f (([(⟨#[98]⟩ : ByteArray)] : List ByteArray))).bind fun bt119 => (if (t109.size : Int) < 6 then (cooperagelaw4_shown.j0 k t114 bt119.1 true) else (if 0 ≤ 6 then (if 6 ≤ (t109.size : Int) then (if (t109.extract 0 6).toList = ([97, 37, 50, 48, 98, 32] : List UInt8) then (if t110 = 0 then (if (t114.size : Int) = 11 then (if t115 = 0 then (if (bt119.1.size : Int) = 11 then (cooperagelaw4_shown.j0 k t114 bt119.1 (bt119.2 != 0)) else (cooperagelaw4_shown.j0 k t114 bt119.1 true)) else (cooperagelaw4_shown.j0 k t114 bt119.1 true)) else (cooperagelaw4_shown.j0 k t114 bt119.1 true)) else (cooperagelaw4_shown.j0 k t114 bt119.1 true)) else (cooperagelaw4_shown.j0 k t114 bt119.1 true)) else (none)) else (none)))) = some r := H
  have A2 := Aside0.mk A20
  clear A20
  obtain ⟨y116, hy116⟩ : ∃ y_ : List ByteArray, y_ = (([(⟨#[98]⟩ : ByteArray)] : List ByteArray)) := ⟨_, rfl⟩
  replace H : ((line_Put.f y116).bind fun bt119 => (if (t109.size : Int) < 6 then (cooperagelaw4_shown.j0 k t114 bt119.1 true) else (if 0 ≤ 6 then (if 6 ≤ (t109.size : Int) then (if (t109.extract 0 6).toList = ([97, 37, 50, 48, 98, 32] : List UInt8) then (if t110 = 0 then (if (t114.size : Int) = 11 then (if t115 = 0 then (if (bt119.1.size : Int) = 11 then (cooperagelaw4_shown.j0 k t114 bt119.1 (bt119.2 != 0)) else (cooperagelaw4_shown.j0 k t114 bt119.1 true)) else (cooperagelaw4_shown.j0 k t114 bt119.1 true)) else (cooperagelaw4_shown.j0 k t114 bt119.1 true)) else (cooperagelaw4_shown.j0 k t114 bt119.1 true)) else (cooperagelaw4_shown.j0 k t114 bt119.1 true)) else (none)) else (none)))) = some r := by first | (rw [hy116]; with_reducible exact H) | (have H2_ := (Option.bind_some _ _).symm.trans H; rw [hy116]; with_reducible exact H2_) | (have H2_ := (Option.bind_some _ _).symm.trans H; with_reducible exact H2_) | with_reducible exact H | (rw [hy116]; exact H) | exact H
  have Ny116 := Aside0.mk hy116
  clear hy116
  replace H := Option.bind_eq_some_iff.mp H
  obtain ⟨⟨t119, t120⟩, A30, H⟩ := H
  replace H : (if (t109.size : Int) < 6 then (cooperagelaw4_shown.j0 k t114 t119 true) else (if 0 ≤ 6 then (if 6 ≤ (t109.size : Int) then (if (t109.extract 0 6).toList = ([97, 37, 50, 48, 98, 32] : List UInt8) then (if t110 = 0 then (if (t114.size : Int) = 11 then (if t115 = 0 then (if (t119.size : Int) = 11 then (cooperagelaw4_shown.j0 k t114 t119 (t120 != 0)) else (cooperagelaw4_shown.j0 k t114 t119 true)) else (cooperagelaw4_shown.j0 k t114 t119 true)) else (cooperagelaw4_shown.j0 k t114 t119 true)) else (cooperagelaw4_shown.j0 k t114 t119 true)) else (cooperagelaw4_shown.j0 k t114 t119 true)) else (none)) else (none))) = some r := H
  have A3 := Aside0.mk A30
  clear A30
  have HC4 := Aside0.mk H
  clear H
  go_enter Tryd.func38, Tryd.ntmps38
  go_upto_region 4 with (first | ((with_reducible refine gate_dst (N := 10) rfl ?_); (try (refine gate_guard (by rfl) ?_; dsimp only)); refine Kd.R_lit Kd.string _ 9 ?hg (N := 10) ?hd (xs := ([(⟨#[97, 32, 98]⟩ : ByteArray)] : List ByteArray)) (inner := [.string (⟨#[97, 32, 98]⟩ : ByteArray)]) (ok := fun _ => True) (okp := fun _ => True) ?hr ?hp (fun _ hk => hk) trivial (Below.refl _ _) (Nat.le_refl _) (by simp) ?_; (case hd => rfl); (case hg => rfl); (case hr => first | (go_simp; done) | (go_simp; rfl)); (case hp => exact (Reps.one (show Kd.M Kd.string _ _ _ (⟨#[97, 32, 98]⟩ : ByteArray) [.string (⟨#[97, 32, 98]⟩ : ByteArray)] from rfl) (Reps.none _ _))); intro v107 w5 ho6 hb hg_ hnew_; clear hg_ hnew_; (first | rw [← Ny106.out] at ho6 | (simp only [Int.reduceToNat] at ho6; rw [← Ny106.out] at ho6)); have n0_ := Aside0.mk (Kd.R_lower ho6 (below_size (by repeat (first | (with_reducible first | exact HB.out | apply below_alloc | apply pw_below_drewN | apply below_drew1) | exact HB.out)))); have n1_ := Aside0.mk (below_step (by repeat (first | (with_reducible first | exact HB.out | apply below_alloc | apply pw_below_drewN | apply below_drew1) | exact HB.out)) hb); clear HB; have HO108 := n0_; have HB := n1_; clear n0_ n1_; clear hb ho6; obtain ⟨Ao7, co7, eo7⟩ := Kd.R_slice HO108.out; subst eo7) | ((with_reducible refine gate_callee (f := 40) rfl ?_); refine goesL_ (some 11) rfl rfl Tryd.func40 (by kernel_rfl) rfl #[.slice Ao7 y106.length co7] rfl (by (try simp only [List.map_toArray, List.map_cons, List.map_nil]); first | done | rfl | (simp only [List.length_drop, List.length_take]; rfl)) ?_; (with_reducible refine (line_Put.calls _ _ y106 t109 t110 _ ?side1 ?side2 ?side3 A1.out).mono ?_); (case side1 => exact Hand3.Glob.below hG (by repeat (first | (with_reducible first | exact HB.out | apply below_alloc | apply pw_below_drewN | apply below_drew1) | exact HB.out))); (case side2 => repeat (first | exact (Kd.R_reads' HO108.out).2.2 | (with_reducible refine Kd.C_alloc ?_ _) | (with_reducible refine Kd.C_drewN ?_ _) | (with_reducible refine Kd.C_drew ?_))); (case side3 => exact (Kd.R_reads' HO108.out).2.1); rintro e w8 ⟨rfl, hb⟩; refine ⟨_, rfl, ?_⟩; have n0_ := Aside0.mk (Kd.R_below (by (with_reducible repeat (first | apply Kd.R_alloc | apply Kd.R_drewN | apply Kd.R_drew)); exact HO108.out) hb); have n1_ := Aside0.mk (below_step (by repeat (first | (with_reducible first | exact HB.out | apply below_alloc | apply pw_below_drewN | apply below_drew1) | exact HB.out)) hb); clear HO108; clear HB; have HO108 := n0_; have HB := n1_; clear n0_ n1_; (try clear hb); (try clear hb2); (try clear hk); (try clear hi)) | ((with_reducible refine gate_dst (N := 15) rfl ?_); (try (refine gate_guard (by rfl) ?_; dsimp only)); refine Kd.R_lit Kd.string _ 9 ?hg (N := 15) ?hd (xs := ([(⟨#[97]⟩ : ByteArray)] : List ByteArray)) (inner := [.string (⟨#[97]⟩ : ByteArray)]) (ok := fun _ => True) (okp := fun _ => True) ?hr ?hp (fun _ hk => hk) trivial (Below.refl _ _) (Nat.le_refl _) (by simp) ?_; (case hd => rfl); (case hg => rfl); (case hr => first | (go_simp; done) | (go_simp; rfl)); (case hp => exact (Reps.one (show Kd.M Kd.string _ _ _ (⟨#[97]⟩ : ByteArray) [.string (⟨#[97]⟩ : ByteArray)] from rfl) (Reps.none _ _))); intro v112 w9 ho10 hb hg_ hnew_; clear hg_ hnew_; (first | rw [← Ny111.out] at ho10 | (simp only [Int.reduceToNat] at ho10; rw [← Ny111.out] at ho10)); have n0_ := Aside0.mk (Kd.R_elder' (by (with_reducible repeat (first | apply Kd.R_alloc | apply Kd.R_drewN | apply Kd.R_drew)); exact HO108.out) (Kd.R_base ho10) hb); have n1_ := Aside0.mk (Kd.R_lower (Kd.R_new' ho10 (Kd.R_lt (by (with_reducible repeat (first | apply Kd.R_alloc | apply Kd.R_drewN | apply Kd.R_drew)); exact HO108.out))) (below_size (by repeat (first | (with_reducible first | exact HB.out | apply below_alloc | apply pw_below_drewN | apply below_drew1) | exact HB.out)))); have n2_ := Aside0.mk (below_step (by repeat (first | (with_reducible first | exact HB.out | apply below_alloc | apply pw_below_drewN | apply below_drew1) | exact HB.out)) hb); clear HO108; clear HB; have HO108 := n0_; have HO113 := n1_; have HB := n2_; clear n0_ n1_ n2_; clear hb ho10; obtain ⟨Ao11, co11, eo11⟩ := Kd.R_slice HO113.out; subst eo11) | ((with_reducible refine gate_callee (f := 40) rfl ?_); refine goesL_ (some 16) rfl rfl Tryd.func40 (by kernel_rfl) rfl #[.slice Ao11 y111.length co11] rfl (by (try simp only [List.map_toArray, List.map_cons, List.map_nil]); first | done | rfl | (simp only [List.length_drop, List.length_take]; rfl)) ?_; (with_reducible refine (line_Put.calls _ _ y111 t114 t115 _ ?side1 ?side2 ?side3 A2.out).mono ?_); (case side1 => exact Hand3.Glob.below hG (by repeat (first | (with_reducible first | exact HB.out | apply below_alloc | apply pw_below_drewN | apply below_drew1) | exact HB.out))); (case side2 => repeat (first | exact (Kd.R_reads' HO113.out).2.2 | (with_reducible refine Kd.C_alloc ?_ _) | (with_reducible refine Kd.C_drewN ?_ _) | (with_reducible refine Kd.C_drew ?_))); (case side3 => exact (Kd.R_reads' HO113.out).2.1); rintro e w12 ⟨rfl, hb⟩; refine ⟨_, rfl, ?_⟩; have n0_ := Aside0.mk (Kd.R_below (by (with_reducible repeat (first | apply Kd.R_alloc | apply Kd.R_drewN | apply Kd.R_drew)); exact HO108.out) hb); have n1_ := Aside0.mk (Kd.R_below (by (with_reducible repeat (first | apply Kd.R_alloc | apply Kd.R_drewN | apply Kd.R_drew)); exact HO113.out) hb); have n2_ := Aside0.mk (below_step (by repeat (first | (with_reducible first | exact HB.out | apply below_alloc | apply pw_below_drewN | apply below_drew1) | exact HB.out)) hb); clear HO108; clear HO113; clear HB; have HO108 := n0_; have HO113 := n1_; have HB := n2_; clear n0_ n1_ n2_; (try clear hb); (try clear hb2); (try clear hk); (try clear hi)) | ((with_reducible refine gate_dst (N := 20) rfl ?_); (try (refine gate_guard (by rfl) ?_; dsimp only)); refine Kd.R_lit Kd.string _ 9 ?hg (N := 20) ?hd (xs := ([(⟨#[98]⟩ : ByteArray)] : List ByteArray)) (inner := [.string (⟨#[98]⟩ : ByteArray)]) (ok := fun _ => True) (okp := fun _ => True) ?hr ?hp (fun _ hk => hk) trivial (Below.refl _ _) (Nat.le_refl _) (by simp) ?_; (case hd => rfl); (case hg => rfl); (case hr => first | (go_simp; done) | (go_simp; rfl)); (case hp => exact (Reps.one (show Kd.M Kd.string _ _ _ (⟨#[98]⟩ : ByteArray) [.string (⟨#[98]⟩ : ByteArray)] from rfl) (Reps.none _ _))); intro v117 w13 ho14 hb hg_ hnew_; clear hg_ hnew_; (first | rw [← Ny116.out] at ho14 | (simp only [Int.reduceToNat] at ho14; rw [← Ny116.out] at ho14)); have n0_ := Aside0.mk (Kd.R_elder' (by (with_reducible repeat (first | apply Kd.R_alloc | apply Kd.R_drewN | apply Kd.R_drew)); exact HO108.out) (Kd.R_base ho14) hb); have n1_ := Aside0.mk (Kd.R_elder' (by (with_reducible repeat (first | apply Kd.R_alloc | apply Kd.R_drewN | apply Kd.R_drew)); exact HO113.out) (Kd.R_base ho14) hb); have n2_ := Aside0.mk (Kd.R_lower (Kd.R_new' (Kd.R_new' ho14 (Kd.R_lt (by (with_reducible repeat (first | apply Kd.R_alloc | apply Kd.R_drewN | apply Kd.R_drew)); exact HO108.out))) (Kd.R_lt (by (with_reducible repeat (first | apply Kd.R_alloc | apply Kd.R_drewN | apply Kd.R_drew)); exact HO113.out))) (below_size (by repeat (first | (with_reducible first | exact HB.out | apply below_alloc | apply pw_below_drewN | apply below_drew1) | exact HB.out)))); have n3_ := Aside0.mk (below_step (by repeat (first | (with_reducible first | exact HB.out | apply below_alloc | apply pw_below_drewN | apply below_drew1) | exact HB.out)) hb); clear HO108; clear HO113; clear HB; have HO108 := n0_; have HO113 := n1_; have HO118 := n2_; have HB := n3_; clear n0_ n1_ n2_ n3_; clear hb ho14; obtain ⟨Ao15, co15, eo15⟩ := Kd.R_slice HO118.out; subst eo15) | ((with_reducible refine gate_callee (f := 40) rfl ?_); refine goesL_ (some 21) rfl rfl Tryd.func40 (by kernel_rfl) rfl #[.slice Ao15 y116.length co15] rfl (by (try simp only [List.map_toArray, List.map_cons, List.map_nil]); first | done | rfl | (simp only [List.length_drop, List.length_take]; rfl)) ?_; (with_reducible refine (line_Put.calls _ _ y116 t119 t120 _ ?side1 ?side2 ?side3 A3.out).mono ?_); (case side1 => exact Hand3.Glob.below hG (by repeat (first | (with_reducible first | exact HB.out | apply below_alloc | apply pw_below_drewN | apply below_drew1) | exact HB.out))); (case side2 => repeat (first | exact (Kd.R_reads' HO118.out).2.2 | (with_reducible refine Kd.C_alloc ?_ _) | (with_reducible refine Kd.C_drewN ?_ _) | (with_reducible refine Kd.C_drew ?_))); (case side3 => exact (Kd.R_reads' HO118.out).2.1); rintro e w16 ⟨rfl, hb⟩; refine ⟨_, rfl, ?_⟩; have n0_ := Aside0.mk (Kd.R_below (by (with_reducible repeat (first | apply Kd.R_alloc | apply Kd.R_drewN | apply Kd.R_drew)); exact HO108.out) hb); have n1_ := Aside0.mk (Kd.R_below (by (with_reducible repeat (first | apply Kd.R_alloc | apply Kd.R_drewN | apply Kd.R_drew)); exact HO113.out) hb); have n2_ := Aside0.mk (Kd.R_below (by (with_reducible repeat (first | apply Kd.R_alloc | apply Kd.R_drewN | apply Kd.R_drew)); exact HO118.out) hb); have n3_ := Aside0.mk (below_step (by repeat (first | (with_reducible first | exact HB.out | apply below_alloc | apply pw_below_drewN | apply below_drew1) | exact HB.out)) hb); clear HO108; clear HO113; clear HO118; clear HB; have HO108 := n0_; have HO113 := n1_; have HO118 := n2_; have HB := n3_; clear n0_ n1_ n2_ n3_; (try clear hb); (try clear hb2); (try clear hk); (try clear hi)))
  (try simp only [Act.put, List.setIfInBounds_toArray, List.set_cons_zero, List.set_cons_succ])
  go_cut [53] (fun v53 wc => ∃ (kq : Nat) (x53_3 : Bool), v53 = .bool x53_3 ∧ Aside0 (cooperagelaw4_shown.j0 kq t114 t119 x53_3 = some r) ∧ Aside0 (kq ≤ k) ∧ Aside0 (Below w.heap.size w wc))
  case first =>
    have H := HC4.out
    clear HC4
    by_cases c17 : (t109.size : Int) < 6
    · rw [if_pos c17] at H
      have c17b0 : decide ((t109.size : Int) < 6) = true := decide_eq_true c17
      have c17b1 : decide (t109.size < 6) = true := decide_eq_true (by omega)
      clear c17
      (first | rw [c17b0] | (simp only [i64_w, i32_w]; rw [c17b0]) | skip)
      have H' := Aside0.mk H
      clear H
      go_wp2
      go_meet
      case rel => exact ⟨_, (true), (by first | rfl | (simp; done) | (simp [*]; done)), H', ⟨by first | omega | exact Nat.le_refl _⟩, ⟨by repeat (first | (with_reducible first | exact HB.out | apply below_alloc | apply pw_below_drewN | apply below_drew1) | exact HB.out)⟩⟩
    · rw [if_neg c17] at H
      have c17b0 : decide ((t109.size : Int) < 6) = false := decide_eq_false c17
      have c17b1 : decide (t109.size < 6) = false := decide_eq_false (by omega)
      clear c17
      (first | rw [c17b0] | (simp only [i64_w, i32_w]; rw [c17b0]) | skip)
      by_cases c18 : 0 ≤ 6
      · rw [if_pos c18] at H
        have c18b0 := eq_true c18
        have c18b1 : decide (0 ≤ 6) = true := decide_eq_true c18
        clear c18
        by_cases c19 : 6 ≤ (t109.size : Int)
        · rw [if_pos c19] at H
          have c19b0 := eq_true c19
          have c19b1 : decide (6 ≤ (t109.size : Int)) = true := decide_eq_true c19
          clear c19
          by_cases c20 : (t109.extract 0 6).toList = ([97, 37, 50, 48, 98, 32] : List UInt8)
          · rw [if_pos c20] at H
            have c20b0 : ((t109.extract 0 6).toList == ([97, 37, 50, 48, 98, 32] : List UInt8)) = true := beq_iff_eq.mpr c20
            have c20b1 : ((t109.extract 0 6).toList != ([97, 37, 50, 48, 98, 32] : List UInt8)) = false := bne_eq_false_iff_eq.mpr c20
            clear c20
            by_cases c21 : t110 = 0
            · rw [if_pos c21] at H
              have c21b0 : (t110 == 0) = true := beq_iff_eq.mpr c21
              have c21b1 : (t110 != 0) = false := bne_eq_false_iff_eq.mpr c21
              clear c21
              by_cases c22 : (t114.size : Int) = 11
              · rw [if_pos c22] at H
                have c22b0 : ((t114.size : Int) == 11) = true := beq_iff_eq.mpr c22
                have c22b1 : ((t114.size : Int) != 11) = false := bne_eq_false_iff_eq.mpr c22
                clear c22
                by_cases c23 : t115 = 0
                · rw [if_pos c23] at H
                  have c23b0 : (t115 == 0) = true := beq_iff_eq.mpr c23
                  have c23b1 : (t115 != 0) = false := bne_eq_false_iff_eq.mpr c23
                  clear c23
                  by_cases c24 : (t119.size : Int) = 11
                  · rw [if_pos c24] at H
                    have c24b0 : ((t119.size : Int) == 11) = true := beq_iff_eq.mpr c24
                    have c24b1 : ((t119.size : Int) != 11) = false := bne_eq_false_iff_eq.mpr c24
                    clear c24
                    have H' := Aside0.mk H
                    clear H
                    go_wp2
                    go_meet
                    case rel => exact ⟨_, ((t120 != 0)), (by first | rfl | (simp; done) | (simp [*]; done)), H', ⟨by first | omega | exact Nat.le_refl _⟩, ⟨by repeat (first | (with_reducible first | exact HB.out | apply below_alloc | apply pw_below_drewN | apply below_drew1) | exact HB.out)⟩⟩
                  · rw [if_neg c24] at H
                    have c24b0 : ((t119.size : Int) == 11) = false := beq_eq_false_iff_ne.mpr c24
                    have c24b1 : ((t119.size : Int) != 11) = true := bne_iff_ne.mpr c24
                    have H' := Aside0.mk H
                    clear H
                    go_wp2
                    go_meet
                    case rel => exact ⟨_, (true), (by first | rfl | (simp; done) | (simp [*]; done)), H', ⟨by first | omega | exact Nat.le_refl _⟩, ⟨by repeat (first | (with_reducible first | exact HB.out | apply below_alloc | apply pw_below_drewN | apply below_drew1) | exact HB.out)⟩⟩
                · rw [if_neg c23] at H
                  have c23b0 : (t115 == 0) = false := beq_eq_false_iff_ne.mpr c23
                  have c23b1 : (t115 != 0) = true := bne_iff_ne.mpr c23
                  have H' := Aside0.mk H
                  clear H
                  go_wp2
                  go_meet
                  case rel => exact ⟨_, (true), (by first | rfl | (simp; done) | (simp [*]; done)), H', ⟨by first | omega | exact Nat.le_refl _⟩, ⟨by repeat (first | (with_reducible first | exact HB.out | apply below_alloc | apply pw_below_drewN | apply below_drew1) | exact HB.out)⟩⟩
              · rw [if_neg c22] at H
                have c22b0 : ((t114.size : Int) == 11) = false := beq_eq_false_iff_ne.mpr c22
                have c22b1 : ((t114.size : Int) != 11) = true := bne_iff_ne.mpr c22
                have H' := Aside0.mk H
                clear H
                go_wp2
                go_meet
                case rel => exact ⟨_, (true), (by first | rfl | (simp; done) | (simp [*]; done)), H', ⟨by first | omega | exact Nat.le_refl _⟩, ⟨by repeat (first | (with_reducible first | exact HB.out | apply below_alloc | apply pw_below_drewN | apply below_drew1) | exact HB.out)⟩⟩
            · rw [if_neg c21] at H
              have c21b0 : (t110 == 0) = false := beq_eq_false_iff_ne.mpr c21
              have c21b1 : (t110 != 0) = true := bne_iff_ne.mpr c21
              have H' := Aside0.mk H
              clear H
              go_wp2
              go_meet
              case rel => exact ⟨_, (true), (by first | rfl | (simp; done) | (simp [*]; done)), H', ⟨by first | omega | exact Nat.le_refl _⟩, ⟨by repeat (first | (with_reducible first | exact HB.out | apply below_alloc | apply pw_below_drewN | apply below_drew1) | exact HB.out)⟩⟩
          · rw [if_neg c20] at H
            have c20b0 : ((t109.extract 0 6).toList == ([97, 37, 50, 48, 98, 32] : List UInt8)) = false := beq_eq_false_iff_ne.mpr c20
            have c20b1 : ((t109.extract 0 6).toList != ([97, 37, 50, 48, 98, 32] : List UInt8)) = true := bne_iff_ne.mpr c20
            have H' := Aside0.mk H
            clear H
            go_wp2
            go_meet
            case rel => exact ⟨_, (true), (by first | rfl | (simp; done) | (simp [*]; done)), H', ⟨by first | omega | exact Nat.le_refl _⟩, ⟨by repeat (first | (with_reducible first | exact HB.out | apply below_alloc | apply pw_below_drewN | apply below_drew1) | exact HB.out)⟩⟩
        · rw [if_neg c19] at H
          exact absurd H (by simp)
      · rw [if_neg c18] at H
        exact absurd H (by simp)
  case rest =>
    clear HC4
    try clear c1
    try clear c2
    try clear p2
    try clear c3
    try clear c4
    try clear c17
    try clear c17b0
    try clear c17b1
    try clear c18
    try clear c18b0
    try clear c18b1
    try clear c19
    try clear c19b0
    try clear c19b1
    try clear c20
    try clear c20b0
    try clear c20b1
    try clear c21
    try clear c21b0
    try clear c21b1
    try clear c22
    try clear c22b0
    try clear c22b1
    try clear c23
    try clear c23b0
    try clear c23b1
    try clear c24
    try clear c24b0
    try clear c24b1
    obtain ⟨kq, x53_3, rfl, HA, HJ3, HB⟩ := hcut
    cases kq with
    | zero => exact absurd HA.out (by simp [cooperagelaw4_shown.j0])
    | succ kj3 =>
      have H := HA.out
      clear HA
      simp only [cooperagelaw4_shown.j0] at H
      by_cases c25 : x53_3 = true
      · subst c25
        have H1 : (some false) = some r := by rw [if_pos rfl] at H; exact H
        clear H
        have H := H1
        clear H1
        obtain rfl := Option.some.inj H
        go_wp2
        go_ret
        exact ⟨by first | rfl | (simp [errW_none, errW_some] <;> rfl) | (simp [*, errW_none, errW_some] <;> rfl) | (simp [errW_none, errW_some]; cases a0.toList <;> rfl), by repeat (first | (with_reducible first | exact HB.out | apply below_alloc | apply pw_below_drewN | apply below_drew1) | exact HB.out)⟩
      · replace c25 := Bool.eq_false_iff.mpr c25
        subst c25
        have H1 : (if 0 ≤ 10 then (if 10 ≤ (t119.size : Int) then (if t114.size + (t119.extract 0 10).size ≤ 9223372036854775807 then ((line_Scan.f (t114 ++ (t119.extract 0 10))).bind fun bt121 => ((cooperagelaw4_sameAll.f kj3 bt121.1 (([(([(⟨#[97]⟩ : ByteArray)] : List ByteArray))] : List (List ByteArray)))).bind fun t131 => (if t131 = true then (some (bt121.2 == 11)) else (some false)))) else (none)) else (none)) else (none)) = some r := by rw [if_neg (show ¬ (false = true) by decide)] at H; exact H
        clear H
        have H := H1
        clear H1
        by_cases c26 : 0 ≤ 10
        · rw [if_pos c26] at H
          have c26b0 := eq_true c26
          have c26b1 : decide (0 ≤ 10) = true := decide_eq_true c26
          clear c26
          by_cases c27 : 10 ≤ (t119.size : Int)
          · rw [if_pos c27] at H
            have c27b0 := eq_true c27
            have c27b1 : decide (10 ≤ (t119.size : Int)) = true := decide_eq_true c27
            clear c27
            by_cases c28 : t114.size + (t119.extract 0 10).size ≤ 9223372036854775807
            · rw [if_pos c28] at H
              have c28b0 := eq_true c28
              have c28b1 : decide (t114.size + (t119.extract 0 10).size ≤ 9223372036854775807) = true := decide_eq_true c28
              try have c28b2 : (9223372036854775807 < t114.size + (t119.extract 0 10).size) = False := eq_false (Nat.not_lt.2 c28)
              replace H := Option.bind_eq_some_iff.mp H
              obtain ⟨⟨t121, t122⟩, A290, H⟩ := H
              replace H : ((cooperagelaw4_sameAll.f kj3 t121 (([(([(⟨#[97]⟩ : ByteArray)] : List ByteArray))] : List (List ByteArray)))).bind fun t131 => (if t131 = true then (some (t122 == 11)) else (some false))) = some r := H
              have A29 := Aside0.mk A290
              clear A290
              obtain ⟨y125, hy125⟩ : ∃ y_ : List ByteArray, y_ = (([(⟨#[97]⟩ : ByteArray)] : List ByteArray)) := ⟨_, rfl⟩
              replace H : ((cooperagelaw4_sameAll.f kj3 t121 (([y125] : List (List ByteArray)))).bind fun t131 => (if t131 = true then (some (t122 == 11)) else (some false))) = some r := by first | (rw [hy125]; with_reducible exact H) | (have H2_ := (Option.bind_some _ _).symm.trans H; rw [hy125]; with_reducible exact H2_) | (have H2_ := (Option.bind_some _ _).symm.trans H; with_reducible exact H2_) | with_reducible exact H | (rw [hy125]; exact H) | exact H
              have Ny125 := Aside0.mk hy125
              clear hy125
              obtain ⟨y128, hy128⟩ : ∃ y_ : List (List ByteArray), y_ = (([y125] : List (List ByteArray))) := ⟨_, rfl⟩
              replace H : ((cooperagelaw4_sameAll.f kj3 t121 y128).bind fun t131 => (if t131 = true then (some (t122 == 11)) else (some false))) = some r := by first | (rw [hy128]; with_reducible exact H) | (have H2_ := (Option.bind_some _ _).symm.trans H; rw [hy128]; with_reducible exact H2_) | (have H2_ := (Option.bind_some _ _).symm.trans H; with_reducible exact H2_) | with_reducible exact H | (rw [hy128]; exact H) | exact H
              have Ny128 := Aside0.mk hy128
              clear hy128
              replace H := Option.bind_eq_some_iff.mp H
              obtain ⟨t131, A300, H⟩ := H
              replace H : (if t131 = true then (some (t122 == 11)) else (some false)) = some r := H
              have A30 := Aside0.mk A300
              clear A300
              by_cases c31 : t131 = true
              · subst c31
                have H1 : (some (t122 == 11)) = some r := by rw [if_pos rfl] at H; exact H
                clear H
                have H := H1
                clear H1
                obtain rfl := Option.some.inj H
                go_wp2_with (first | ((with_reducible refine gate_callee (f := 44) rfl ?_); refine goesL_ (some 59) rfl rfl Tryd.func44 (by kernel_rfl) rfl #[.string (t114 ++ (t119.extract 0 10))] rfl (by (try simp only [List.map_toArray, List.map_cons, List.map_nil]); first | done | rfl | (simp only [List.length_drop, List.length_take]; rfl)) ?_; (with_reducible refine (line_Scan.calls (t114 ++ (t119.extract 0 10)) t121 t122 _ ?side1 A29.out).mono ?_); (case side1 => exact Hand3.Glob.below hG (by repeat (first | (with_reducible first | exact HB.out | apply below_alloc | apply pw_below_drewN | apply below_drew1) | exact HB.out))); rintro e w32 ⟨v123, rfl, ho0, hb⟩; refine ⟨_, rfl, ?_⟩; have n0_ := Aside0.mk (Kd.N_lower (Kd.N_mono (ok' := fun k_ => True) (Kd.S_N (Kd.S_bound ho0)) (fun k_ hk_ => trivial)) (below_size (by repeat (first | (with_reducible first | exact HB.out | apply below_alloc | apply pw_below_drewN | apply below_drew1) | exact HB.out)))); have n1_ := Aside0.mk (below_step (by repeat (first | (with_reducible first | exact HB.out | apply below_alloc | apply pw_below_drewN | apply below_drew1) | exact HB.out)) hb); clear HB; have HO124 := n0_; have HB := n1_; clear n0_ n1_; (try clear hb); (try clear hb2); (try clear hk); (try clear hi); (try clear ho0)) | ((with_reducible refine gate_dst (N := 63) rfl ?_); (try (refine gate_guard (by rfl) ?_; dsimp only)); refine Kd.R_lit Kd.string _ 9 ?hg (N := 63) ?hd (xs := ([(⟨#[97]⟩ : ByteArray)] : List ByteArray)) (inner := [.string (⟨#[97]⟩ : ByteArray)]) (ok := fun _ => True) (okp := fun _ => True) ?hr ?hp (fun _ hk => hk) trivial (Below.refl _ _) (Nat.le_refl _) (by simp) ?_; (case hd => rfl); (case hg => rfl); (case hr => first | (go_simp; done) | (go_simp; rfl)); (case hp => exact (Reps.one (show Kd.M Kd.string _ _ _ (⟨#[97]⟩ : ByteArray) [.string (⟨#[97]⟩ : ByteArray)] from rfl) (Reps.none _ _))); intro v126 w33 ho34 hb hg_ hnew_; clear hg_ hnew_; (first | rw [← Ny125.out] at ho34 | (simp only [Int.reduceToNat] at ho34; rw [← Ny125.out] at ho34)); have n0_ := Aside0.mk (Kd.N_elder' (by (with_reducible repeat (first | apply Kd.N_alloc | apply Kd.N_drewN | apply Kd.N_drew)); exact HO124.out) (Kd.R_base ho34) hb); have n1_ := Aside0.mk (Kd.R_lower ho34 (below_size (by repeat (first | (with_reducible first | exact HB.out | apply below_alloc | apply pw_below_drewN | apply below_drew1) | exact HB.out)))); have n2_ := Aside0.mk (below_step (by repeat (first | (with_reducible first | exact HB.out | apply below_alloc | apply pw_below_drewN | apply below_drew1) | exact HB.out)) hb); clear HO124; clear HB; have HO124 := n0_; have HO127 := n1_; have HB := n2_; clear n0_ n1_ n2_; clear hb ho34; obtain ⟨Ao35, co35, eo35⟩ := Kd.R_slice HO127.out; subst eo35) | ((with_reducible refine gate_dst (N := 64) rfl ?_); (try (refine gate_guard (by rfl) ?_; dsimp only)); refine Kd.N_lit (Kd.slice 9 Kd.string) _ 23 ?hg (N' := 64) ?hd (xs := ([y125] : List (List ByteArray))) (inner := [.slice Ao35 y125.length co35]) (ok := (fun k_ => some k_ ≠ (v123 : Value).ownBlock)) (okp := (fun k_ => some k_ ≠ (v123 : Value).ownBlock)) ?hr ?hp (fun _ hk => hk) ((show ∀ k_, w33.heap.size ≤ k_ → (fun k_ => some k_ ≠ (v123 : Value).ownBlock) k_ from fun k_ hk => Kd.fresh' (Kd.N_lt (by (with_reducible repeat (first | apply Kd.N_alloc | apply Kd.N_drewN | apply Kd.N_drew)); exact HO124.out)) k_ hk) _ (Nat.le_refl _)) (Below.refl _ _) (Nat.le_refl _) (by simp) ?_; (case hd => rfl); (case hg => rfl); (case hr => first | (go_simp; done) | (go_simp; rfl)); (case hp => exact (Reps.one (show Kd.FK (Kd.slice 9 Kd.string) _ _ y125 [.slice Ao35 y125.length co35] from (Kd.FK_slice_mk (Kd.R_reads' (Kd.R_mono (ok' := (fun k_ => some k_ ≠ (v123 : Value).ownBlock)) (Kd.R_apart' (HO127.out) (Kd.N_typed HO124.out) (by decide)) (fun k_ hk => hk.2))).2.1 (Kd.R_F (Kd.R_mono (ok' := (fun k_ => some k_ ≠ (v123 : Value).ownBlock)) (Kd.R_apart' (HO127.out) (Kd.N_typed HO124.out) (by decide)) (fun k_ hk => hk.2))))) (Reps.none _ _))); intro v129 w36 ho37 hb hg_ hnew_; clear hg_ hnew_; (first | rw [← Ny128.out] at ho37 | (simp only [Int.reduceToNat] at ho37; rw [← Ny128.out] at ho37)); have n0_ := Aside0.mk (Kd.N_elder' (by (with_reducible repeat (first | apply Kd.N_alloc | apply Kd.N_drewN | apply Kd.N_drew)); exact HO124.out) (Kd.N_base ho37) hb); have n1_ := Aside0.mk (Kd.N_lower ho37 (below_size (by repeat (first | (with_reducible first | exact HB.out | apply below_alloc | apply pw_below_drewN | apply below_drew1) | exact HB.out)))); have n2_ := Aside0.mk (below_step (by repeat (first | (with_reducible first | exact HB.out | apply below_alloc | apply pw_below_drewN | apply below_drew1) | exact HB.out)) hb); clear HO124; clear HB; clear HO127; have HO124 := n0_; have HO130 := n1_; have HB := n2_; clear n0_ n1_ n2_; clear hb ho37; obtain ⟨Ao38, co38, eo38⟩ := Kd.N_slice HO124.out; subst eo38; obtain ⟨Ao39, co39, eo39⟩ := Kd.N_slice HO130.out; subst eo39) | ((with_reducible refine gate_callee (f := 47) rfl ?_); refine goesL_ (some 65) rfl rfl Tryd.func47 (by kernel_rfl) rfl #[.slice Ao38 t121.length co38, .slice Ao39 y128.length co39] rfl (by (try simp only [List.map_toArray, List.map_cons, List.map_nil]); first | done | rfl | (simp only [List.length_drop, List.length_take]; rfl)) ?_; (with_reducible refine (cooperagelaw4_sameAll.calls kj3 _ _ t121 _ _ y128 true _ ?side1 ?side2 ?side3 ?side4 A30.out).mono ?_); (case side1 => repeat (first | exact (Kd.N_reads' HO124.out).2.2 | (with_reducible refine Kd.C_alloc ?_ _) | (with_reducible refine Kd.C_drewN ?_ _) | (with_reducible refine Kd.C_drew ?_))); (case side2 => exact (Kd.N_reads' HO124.out).2.1); (case side3 => repeat (first | exact (Kd.N_reads' HO130.out).2.2 | (with_reducible refine Kd.C_alloc ?_ _) | (with_reducible refine Kd.C_drewN ?_ _) | (with_reducible refine Kd.C_drew ?_))); (case side4 => exact (Kd.N_reads' HO130.out).2.1); rintro e w' ⟨rfl, ⟨nd, rfl⟩⟩; refine ⟨_, rfl, ?_⟩))
                go_ret
                exact ⟨by first | rfl | (simp [errW_none, errW_some] <;> rfl) | (simp [*, errW_none, errW_some] <;> rfl) | (simp [errW_none, errW_some]; cases a0.toList <;> rfl), by repeat (first | (with_reducible first | exact HB.out | apply below_alloc | apply pw_below_drewN | apply below_drew1) | exact HB.out)⟩
              · replace c31 := Bool.eq_false_iff.mpr c31
                subst c31
                have H1 : (some false) = some r := by rw [if_neg (show ¬ (false = true) by decide)] at H; exact H
                clear H
                have H := H1
                clear H1
                obtain rfl := Option.some.inj H
                go_wp2_with (first | ((with_reducible refine gate_callee (f := 44) rfl ?_); refine goesL_ (some 59) rfl rfl Tryd.func44 (by kernel_rfl) rfl #[.string (t114 ++ (t119.extract 0 10))] rfl (by (try simp only [List.map_toArray, List.map_cons, List.map_nil]); first | done | rfl | (simp only [List.length_drop, List.length_take]; rfl)) ?_; (with_reducible refine (line_Scan.calls (t114 ++ (t119.extract 0 10)) t121 t122 _ ?side1 A29.out).mono ?_); (case side1 => exact Hand3.Glob.below hG (by repeat (first | (with_reducible first | exact HB.out | apply below_alloc | apply pw_below_drewN | apply below_drew1) | exact HB.out))); rintro e w40 ⟨v123, rfl, ho0, hb⟩; refine ⟨_, rfl, ?_⟩; have n0_ := Aside0.mk (Kd.N_lower (Kd.N_mono (ok' := fun k_ => True) (Kd.S_N (Kd.S_bound ho0)) (fun k_ hk_ => trivial)) (below_size (by repeat (first | (with_reducible first | exact HB.out | apply below_alloc | apply pw_below_drewN | apply below_drew1) | exact HB.out)))); have n1_ := Aside0.mk (below_step (by repeat (first | (with_reducible first | exact HB.out | apply below_alloc | apply pw_below_drewN | apply below_drew1) | exact HB.out)) hb); clear HB; have HO124 := n0_; have HB := n1_; clear n0_ n1_; (try clear hb); (try clear hb2); (try clear hk); (try clear hi); (try clear ho0)) | ((with_reducible refine gate_dst (N := 63) rfl ?_); (try (refine gate_guard (by rfl) ?_; dsimp only)); refine Kd.R_lit Kd.string _ 9 ?hg (N := 63) ?hd (xs := ([(⟨#[97]⟩ : ByteArray)] : List ByteArray)) (inner := [.string (⟨#[97]⟩ : ByteArray)]) (ok := fun _ => True) (okp := fun _ => True) ?hr ?hp (fun _ hk => hk) trivial (Below.refl _ _) (Nat.le_refl _) (by simp) ?_; (case hd => rfl); (case hg => rfl); (case hr => first | (go_simp; done) | (go_simp; rfl)); (case hp => exact (Reps.one (show Kd.M Kd.string _ _ _ (⟨#[97]⟩ : ByteArray) [.string (⟨#[97]⟩ : ByteArray)] from rfl) (Reps.none _ _))); intro v126 w41 ho42 hb hg_ hnew_; clear hg_ hnew_; (first | rw [← Ny125.out] at ho42 | (simp only [Int.reduceToNat] at ho42; rw [← Ny125.out] at ho42)); have n0_ := Aside0.mk (Kd.N_elder' (by (with_reducible repeat (first | apply Kd.N_alloc | apply Kd.N_drewN | apply Kd.N_drew)); exact HO124.out) (Kd.R_base ho42) hb); have n1_ := Aside0.mk (Kd.R_lower ho42 (below_size (by repeat (first | (with_reducible first | exact HB.out | apply below_alloc | apply pw_below_drewN | apply below_drew1) | exact HB.out)))); have n2_ := Aside0.mk (below_step (by repeat (first | (with_reducible first | exact HB.out | apply below_alloc | apply pw_below_drewN | apply below_drew1) | exact HB.out)) hb); clear HO124; clear HB; have HO124 := n0_; have HO127 := n1_; have HB := n2_; clear n0_ n1_ n2_; clear hb ho42; obtain ⟨Ao43, co43, eo43⟩ := Kd.R_slice HO127.out; subst eo43) | ((with_reducible refine gate_dst (N := 64) rfl ?_); (try (refine gate_guard (by rfl) ?_; dsimp only)); refine Kd.N_lit (Kd.slice 9 Kd.string) _ 23 ?hg (N' := 64) ?hd (xs := ([y125] : List (List ByteArray))) (inner := [.slice Ao43 y125.length co43]) (ok := (fun k_ => some k_ ≠ (v123 : Value).ownBlock)) (okp := (fun k_ => some k_ ≠ (v123 : Value).ownBlock)) ?hr ?hp (fun _ hk => hk) ((show ∀ k_, w41.heap.size ≤ k_ → (fun k_ => some k_ ≠ (v123 : Value).ownBlock) k_ from fun k_ hk => Kd.fresh' (Kd.N_lt (by (with_reducible repeat (first | apply Kd.N_alloc | apply Kd.N_drewN | apply Kd.N_drew)); exact HO124.out)) k_ hk) _ (Nat.le_refl _)) (Below.refl _ _) (Nat.le_refl _) (by simp) ?_; (case hd => rfl); (case hg => rfl); (case hr => first | (go_simp; done) | (go_simp; rfl)); (case hp => exact (Reps.one (show Kd.FK (Kd.slice 9 Kd.string) _ _ y125 [.slice Ao43 y125.length co43] from (Kd.FK_slice_mk (Kd.R_reads' (Kd.R_mono (ok' := (fun k_ => some k_ ≠ (v123 : Value).ownBlock)) (Kd.R_apart' (HO127.out) (Kd.N_typed HO124.out) (by decide)) (fun k_ hk => hk.2))).2.1 (Kd.R_F (Kd.R_mono (ok' := (fun k_ => some k_ ≠ (v123 : Value).ownBlock)) (Kd.R_apart' (HO127.out) (Kd.N_typed HO124.out) (by decide)) (fun k_ hk => hk.2))))) (Reps.none _ _))); intro v129 w44 ho45 hb hg_ hnew_; clear hg_ hnew_; (first | rw [← Ny128.out] at ho45 | (simp only [Int.reduceToNat] at ho45; rw [← Ny128.out] at ho45)); have n0_ := Aside0.mk (Kd.N_elder' (by (with_reducible repeat (first | apply Kd.N_alloc | apply Kd.N_drewN | apply Kd.N_drew)); exact HO124.out) (Kd.N_base ho45) hb); have n1_ := Aside0.mk (Kd.N_lower ho45 (below_size (by repeat (first | (with_reducible first | exact HB.out | apply below_alloc | apply pw_below_drewN | apply below_drew1) | exact HB.out)))); have n2_ := Aside0.mk (below_step (by repeat (first | (with_reducible first | exact HB.out | apply below_alloc | apply pw_below_drewN | apply below_drew1) | exact HB.out)) hb); clear HO124; clear HB; clear HO127; have HO124 := n0_; have HO130 := n1_; have HB := n2_; clear n0_ n1_ n2_; clear hb ho45; obtain ⟨Ao46, co46, eo46⟩ := Kd.N_slice HO124.out; subst eo46; obtain ⟨Ao47, co47, eo47⟩ := Kd.N_slice HO130.out; subst eo47) | ((with_reducible refine gate_callee (f := 47) rfl ?_); refine goesL_ (some 65) rfl rfl Tryd.func47 (by kernel_rfl) rfl #[.slice Ao46 t121.length co46, .slice Ao47 y128.length co47] rfl (by (try simp only [List.map_toArray, List.map_cons, List.map_nil]); first | done | rfl | (simp only [List.length_drop, List.length_take]; rfl)) ?_; (with_reducible refine (cooperagelaw4_sameAll.calls kj3 _ _ t121 _ _ y128 false _ ?side1 ?side2 ?side3 ?side4 A30.out).mono ?_); (case side1 => repeat (first | exact (Kd.N_reads' HO124.out).2.2 | (with_reducible refine Kd.C_alloc ?_ _) | (with_reducible refine Kd.C_drewN ?_ _) | (with_reducible refine Kd.C_drew ?_))); (case side2 => exact (Kd.N_reads' HO124.out).2.1); (case side3 => repeat (first | exact (Kd.N_reads' HO130.out).2.2 | (with_reducible refine Kd.C_alloc ?_ _) | (with_reducible refine Kd.C_drewN ?_ _) | (with_reducible refine Kd.C_drew ?_))); (case side4 => exact (Kd.N_reads' HO130.out).2.1); rintro e w' ⟨rfl, ⟨nd, rfl⟩⟩; refine ⟨_, rfl, ?_⟩))
                go_ret
                exact ⟨by first | rfl | (simp [errW_none, errW_some] <;> rfl) | (simp [*, errW_none, errW_some] <;> rfl) | (simp [errW_none, errW_some]; cases a0.toList <;> rfl), by repeat (first | (with_reducible first | exact HB.out | apply below_alloc | apply pw_below_drewN | apply below_drew1) | exact HB.out)⟩
            · rw [if_neg c28] at H
              exact absurd H (by simp)
          · rw [if_neg c27] at H
            exact absurd H (by simp)
        · rw [if_neg c26] at H
          exact absurd H (by simp)

end Go.Proofs.YtocpfgdajomjiaaDoor.L
