import Derived.Test.YtocpfgdajomjiaaDoorL0
import Derived.Test.YtocpfgdajomjiaaDoorL2
import Derived.Test.YtocpfgdajomjiaaDoorL3
import Derived.Test.YtocpfgdajomjiaaDoorL11
import Derived.Test.YtocpfgdajomjiaaDoorHandLine
import Derived.Test.YtocpfgdajomjiaaDoorLineA
import Derived.Test.YtocpfgdajomjiaaDoorPureG
import Derived.Test.YtocpfgdajomjiaaDoorL5
import Derived.Test.YtocpfgdajomjiaaDoorL14
import Derived.Deep.Slices
import Derived.ChangeArms
/- Several texts of this session in one (merge.py): the walks of the functions that the laws reach. -/
namespace Go.Proofs.YtocpfgdajomjiaaDoor.L
open Go.Proofs.YtocpfgdajomjiaaDoor.Hand3
open Go.Proofs.YtocpfgdajomjiaaDoor
open Go.RowKit Go.Proofs.YtocpfgdajomjiaaDoorW.PrintWords Go.Proofs.YtocpfgdajomjiaaDoorW.PrintLast Go.Proofs.YtocpfgdajomjiaaDoorW.PrintMore
attribute [local go_sem] max2_int min2_int max_two min_two max_three min_three max_four min_four   -- for this text's walks alone
set_option linter.unusedVariables false
set_option linter.unusedSimpArgs false

/-! ### cooperagelaw4_LineTurns: function 15 -/
mutual
def cooperagelaw4_LineTurns.j0 : Nat → List ByteArray → Int → Int → Bool → Bool → Option (Bool)
  | 0, _, _, _, _, _ => none
  | k + 1, x0, x1, x2, x7, x27 => if x27 = true then (some x7) else ((line_Put.f x0).bind fun bt224 => (if bt224.2 = 0 then (if x1 < 0 then (cooperagelaw4_LineTurns.j1 k x0 x1 x2 x7 bt224.1 true) else (cooperagelaw4_LineTurns.j1 k x0 x1 x2 x7 bt224.1 (decide (x1 ≥ (wrap64 ((bt224.1.size : Int) - 1)))))) else (cooperagelaw4_LineTurns.j1 k x0 x1 x2 x7 bt224.1 true)))
def cooperagelaw4_LineTurns.j1 : Nat → List ByteArray → Int → Int → Bool → ByteArray → Bool → Option (Bool)
  | 0, _, _, _, _, _, _ => none
  | k + 1, x0, x1, x2, x7, x9, x46 => if x46 = true then (some x7) else (if 0 ≤ x1 then (if x1 ≤ (x9.size : Int) then ((some (([x2] : List Int) : List Int)).bind fun y226 => (if (x9.extract 0 (x1 : Int).toNat).size + (strOfNums y226).size ≤ 9223372036854775807 then (if 0 ≤ (wrap64 (x1 + 1)) then (if (wrap64 (x1 + 1)) ≤ (x9.size : Int) then (if ((x9.extract 0 (x1 : Int).toNat) ++ (strOfNums y226)).size + (x9.extract ((wrap64 (x1 + 1)) : Int).toNat x9.size).size ≤ 9223372036854775807 then ((line_Scan.f (((x9.extract 0 (x1 : Int).toNat) ++ (strOfNums y226)) ++ (x9.extract ((wrap64 (x1 + 1)) : Int).toNat x9.size))).bind fun bt229 => (if (((x9.extract 0 (x1 : Int).toNat) ++ (strOfNums y226)) ++ (x9.extract ((wrap64 (x1 + 1)) : Int).toNat x9.size)).toList = x9.toList then ((cooperagelaw4_sameAll.f k bt229.1 (([x0] : List (List ByteArray)))).bind fun t236 => (if t236 = true then (some (bt229.2 == (x9.size : Int))) else (some false))) else (if (bt229.1.length : Int) = 0 then (some (bt229.2 == 0)) else (some false)))) else (none)) else (none)) else (none)) else (none))) else (none)) else (none))
end
def cooperagelaw4_LineTurns.f (k : Nat) (l0 : List ByteArray) (a1 : Int) (a2 : Int) : Option (Bool) := (cooperagelaw4_shown.f k).bind fun t219 => ((cooperagelaw4_tiny.f k (([l0] : List (List ByteArray)))).bind fun t223 => (if t219 = true then (if t223 = true then (cooperagelaw4_LineTurns.j0 k l0 a1 a2 t219 (a2 == 10)) else (cooperagelaw4_LineTurns.j0 k l0 a1 a2 t219 true)) else (cooperagelaw4_LineTurns.j0 k l0 a1 a2 t219 true)))
theorem cooperagelaw4_LineTurns.mono_l : ∀ k, (∀ y0 y1 y2 y3 y4, LeO (cooperagelaw4_LineTurns.j0 k y0 y1 y2 y3 y4) (cooperagelaw4_LineTurns.j0 (k + 1) y0 y1 y2 y3 y4)) ∧ (∀ y0 y1 y2 y3 y4 y5, LeO (cooperagelaw4_LineTurns.j1 k y0 y1 y2 y3 y4 y5) (cooperagelaw4_LineTurns.j1 (k + 1) y0 y1 y2 y3 y4 y5))
  | 0 => ⟨fun _ _ _ _ _ r h => by simp [cooperagelaw4_LineTurns.j0] at h, fun _ _ _ _ _ _ r h => by simp [cooperagelaw4_LineTurns.j1] at h⟩
  | k + 1 => by
    obtain ⟨ih0, ih1⟩ := cooperagelaw4_LineTurns.mono_l k
    refine ⟨?_, ?_⟩
    · intro y0 y1 y2 y3 y4
      unfold cooperagelaw4_LineTurns.j0
      repeat' first
      | (with_reducible exact ih0 _ _ _ _ _)
      | (with_reducible exact ih1 _ _ _ _ _ _)
      | (with_reducible exact cooperagelaw4_sameAll.mono _ _ _)
      | (with_reducible exact cooperagelaw4_shown.mono _)
      | (with_reducible exact cooperagelaw4_tiny.mono _ _)
      | (with_reducible exact LeO.refl _)
      | (with_reducible exact LeO.none _)
      | (with_reducible refine LeO.ite ?_ ?_)
      | (with_reducible refine LeO.bind ?_ (fun _ => ?_))
      | exact ih0 _ _ _ _ _
      | exact ih1 _ _ _ _ _ _
      | exact cooperagelaw4_sameAll.mono _ _ _
      | exact cooperagelaw4_shown.mono _
      | exact cooperagelaw4_tiny.mono _ _
      | exact LeO.none _
      | refine LeO.ite ?_ ?_
      | refine LeO.bind ?_ (fun _ => ?_)
    · intro y0 y1 y2 y3 y4 y5
      unfold cooperagelaw4_LineTurns.j1
      repeat' first
      | (with_reducible exact ih0 _ _ _ _ _)
      | (with_reducible exact ih1 _ _ _ _ _ _)
      | (with_reducible exact cooperagelaw4_sameAll.mono _ _ _)
      | (with_reducible exact cooperagelaw4_shown.mono _)
      | (with_reducible exact cooperagelaw4_tiny.mono _ _)
      | (with_reducible exact LeO.refl _)
      | (with_reducible exact LeO.none _)
      | (with_reducible refine LeO.ite ?_ ?_)
      | (with_reducible refine LeO.bind ?_ (fun _ => ?_))
      | exact ih0 _ _ _ _ _
      | exact ih1 _ _ _ _ _ _
      | exact cooperagelaw4_sameAll.mono _ _ _
      | exact cooperagelaw4_shown.mono _
      | exact cooperagelaw4_tiny.mono _ _
      | exact LeO.none _
      | refine LeO.ite ?_ ?_
      | refine LeO.bind ?_ (fun _ => ?_)
theorem cooperagelaw4_LineTurns.mono : ∀ a0 a1 a2 k, LeO (cooperagelaw4_LineTurns.f k a0 a1 a2) (cooperagelaw4_LineTurns.f (k + 1) a0 a1 a2) := by
  intro a0 a1 a2 k
  obtain ⟨ih0, ih1⟩ := cooperagelaw4_LineTurns.mono_l k
  unfold cooperagelaw4_LineTurns.f
  repeat' first
      | (with_reducible exact ih0 _ _ _ _ _)
      | (with_reducible exact ih1 _ _ _ _ _ _)
      | (with_reducible exact cooperagelaw4_sameAll.mono _ _ _)
      | (with_reducible exact cooperagelaw4_shown.mono _)
      | (with_reducible exact cooperagelaw4_tiny.mono _ _)
      | (with_reducible exact LeO.refl _)
      | (with_reducible exact LeO.none _)
      | (with_reducible refine LeO.ite ?_ ?_)
      | (with_reducible refine LeO.bind ?_ (fun _ => ?_))
      | exact ih0 _ _ _ _ _
      | exact ih1 _ _ _ _ _ _
      | exact cooperagelaw4_sameAll.mono _ _ _
      | exact cooperagelaw4_shown.mono _
      | exact cooperagelaw4_tiny.mono _ _
      | exact LeO.none _
      | refine LeO.ite ?_ ?_
      | refine LeO.bind ?_ (fun _ => ?_)
def cooperagelaw4_LineTurns.T8 : Bool × List (List Nat × List Nat) := (true, [([], []), ([], []), ([0, 1], [0, 1]), ([], []), ([3], [3]), ([4], [4]), ([2, 5], [2, 5]), ([], []), ([], []), ([8], [8]), ([7, 9], [7, 9]), ([6, 10], [6, 10]), ([11, 0, 1, 2, 3, 4, 5, 6, 7, 8, 9, 10, 11], [11])])
def cooperagelaw4_LineTurns.B8 : List Nat := [0, 0, 3, 0, 8, 24, 63, 0, 0, 256, 896, 2047, 4095]
theorem cooperagelaw4_LineTurns.tab8 : rtab .any (opsOf Tryd.f15 8) = cooperagelaw4_LineTurns.T8 := by kernel_rfl
theorem cooperagelaw4_LineTurns.bits8 : waitsOk cooperagelaw4_LineTurns.T8.2 cooperagelaw4_LineTurns.B8 = true := by kernel_rfl
set_option maxHeartbeats 8000000 in
set_option maxRecDepth 100000 in
theorem cooperagelaw4_LineTurns.calls (k : Nat) (P0_ : Nat → Prop) (A0 : Option Addr) (c0 : Nat) (l0 : List ByteArray) (a1 : Int) (a2 : Int) (r : Bool) (w : World) (hG : Hand3.Glob w) (hs0 : Kd.V Kd.string 9 w w.heap.size (fun k_ => P0_ k_) (.slice A0 l0.length c0) l0) (h : cooperagelaw4_LineTurns.f k l0 a1 a2 = some r) :
    Calls Tryd.prog 15 #[.slice A0 l0.length c0, .int .i64 a1, .int .u8 a2] w fun e w' => e = .returned (.bool r) ∧ Below w.heap.size w w' := by
  have HO0 := Aside0.mk (show Kd.V Kd.string 9 w w.heap.size (fun k_ => (P0_ k_ ∨ w.heap.size ≤ k_)) (.slice A0 l0.length c0) l0 from Kd.V_mono hs0 (fun k_ hk => .inl hk))
  have HB := Aside0.mk (Below.refl w.heap.size w)
  have H : ((cooperagelaw4_shown.f k).bind fun t219 => ((cooperagelaw4_tiny.f k (([l0] : List (List ByteArray)))).bind fun t223 => (if t219 = true then (if t223 = true then (cooperagelaw4_LineTurns.j0 k l0 a1 a2 t219 (a2 == 10)) else (cooperagelaw4_LineTurns.j0 k l0 a1 a2 t219 true)) else (cooperagelaw4_LineTurns.j0 k l0 a1 a2 t219 true)))) = some r := h
  clear h
  replace H := Option.bind_eq_some_iff.mp H
  obtain ⟨t219, A40, H⟩ := H
  replace H : ((cooperagelaw4_tiny.f k (([l0] : List (List ByteArray)))).bind fun t223 => (if t219 = true then (if t223 = true then (cooperagelaw4_LineTurns.j0 k l0 a1 a2 t219 (a2 == 10)) else (cooperagelaw4_LineTurns.j0 k l0 a1 a2 t219 true)) else (cooperagelaw4_LineTurns.j0 k l0 a1 a2 t219 true))) = some r := H
  have A4 := Aside0.mk A40
  clear A40
  obtain ⟨y220, hy220⟩ : ∃ y_ : List (List ByteArray), y_ = (([l0] : List (List ByteArray))) := ⟨_, rfl⟩
  replace H : ((cooperagelaw4_tiny.f k y220).bind fun t223 => (if t219 = true then (if t223 = true then (cooperagelaw4_LineTurns.j0 k l0 a1 a2 t219 (a2 == 10)) else (cooperagelaw4_LineTurns.j0 k l0 a1 a2 t219 true)) else (cooperagelaw4_LineTurns.j0 k l0 a1 a2 t219 true))) = some r := by first | (rw [hy220]; with_reducible exact H) | (have H2_ := (Option.bind_some _ _).symm.trans H; rw [hy220]; with_reducible exact H2_) | (have H2_ := (Option.bind_some _ _).symm.trans H; with_reducible exact H2_) | with_reducible exact H | (rw [hy220]; exact H) | exact H
  have Ny220 := Aside0.mk hy220
  clear hy220
  replace H := Option.bind_eq_some_iff.mp H
  obtain ⟨t223, A50, H⟩ := H
  replace H : (if t219 = true then (if t223 = true then (cooperagelaw4_LineTurns.j0 k l0 a1 a2 t219 (a2 == 10)) else (cooperagelaw4_LineTurns.j0 k l0 a1 a2 t219 true)) else (cooperagelaw4_LineTurns.j0 k l0 a1 a2 t219 true)) = some r := H
  have A5 := Aside0.mk A50
  clear A50
  have HC6 := Aside0.mk H
  clear H
  go_enter Tryd.func15, Tryd.ntmps15
  go_upto_region 3 with (first | ((with_reducible refine gate_callee (f := 38) rfl ?_); refine goesL_ (some 14) rfl rfl Tryd.func38 (by kernel_rfl) rfl #[] rfl (by (try simp only [List.map_toArray, List.map_cons, List.map_nil]); first | done | rfl | (simp only [List.length_drop, List.length_take]; rfl)) ?_; (with_reducible refine (cooperagelaw4_shown.calls k  t219 _ ?side1 A4.out).mono ?_); (case side1 => exact Hand3.Glob.below hG (by repeat (first | (with_reducible first | exact HB.out | apply below_alloc | apply pw_below_drewN | apply below_drew1) | exact HB.out))); rintro e w7 ⟨rfl, hb⟩; refine ⟨_, rfl, ?_⟩; have n0_ := Aside0.mk (Kd.V_below (by (with_reducible repeat (first | apply Kd.V_alloc | apply Kd.V_drewN | apply Kd.V_drew)); exact HO0.out) hb); have n1_ := Aside0.mk (below_step (by repeat (first | (with_reducible first | exact HB.out | apply below_alloc | apply pw_below_drewN | apply below_drew1) | exact HB.out)) hb); clear HO0; clear HB; have HO0 := n0_; have HB := n1_; clear n0_ n1_; (try clear hb); (try clear hb2); (try clear hk); (try clear hi)) | ((with_reducible refine gate_dst (N := 16) rfl ?_); (try (refine gate_guard (by rfl) ?_; dsimp only)); refine Kd.N_lit (Kd.slice 9 Kd.string) _ 23 ?hg (N' := 16) ?hd (xs := ([l0] : List (List ByteArray))) (inner := [.slice A0 l0.length c0]) (ok := (fun k_ => (P0_ k_ ∨ w.heap.size ≤ k_))) (okp := (fun k_ => (P0_ k_ ∨ w.heap.size ≤ k_))) ?hr ?hp (fun _ hk => hk) ((show ∀ k_, w7.heap.size ≤ k_ → (fun k_ => (P0_ k_ ∨ w.heap.size ≤ k_)) k_ from fun k_ hk => (.inr (Nat.le_trans (below_size (by repeat (first | (with_reducible first | exact HB.out | apply below_alloc | apply pw_below_drewN | apply below_drew1) | exact HB.out))) hk))) _ (Nat.le_refl _)) (Below.refl _ _) (Nat.le_refl _) (by simp) ?_; (case hd => rfl); (case hg => rfl); (case hr => first | (go_simp; done) | (go_simp; rfl)); (case hp => exact (Reps.one (show Kd.FK (Kd.slice 9 Kd.string) _ _ l0 [.slice A0 l0.length c0] from (Kd.FK_slice_mk (Kd.V_reads' (Kd.V_mono (ok' := (fun k_ => (P0_ k_ ∨ w.heap.size ≤ k_))) (HO0.out) (fun k_ hk => hk))).2.1 (Kd.V_F (Kd.V_mono (ok' := (fun k_ => (P0_ k_ ∨ w.heap.size ≤ k_))) (HO0.out) (fun k_ hk => hk))))) (Reps.none _ _))); intro v221 w8 ho9 hb hg_ hnew_; clear hg_ hnew_; (first | rw [← Ny220.out] at ho9 | (simp only [Int.reduceToNat] at ho9; rw [← Ny220.out] at ho9)); have n0_ := Aside0.mk (Kd.V_elder' (by (with_reducible repeat (first | apply Kd.V_alloc | apply Kd.V_drewN | apply Kd.V_drew)); exact HO0.out) (by first | exact Kd.N_base ho9 | exact Kd.S_base ho9) hb); have n1_ := Aside0.mk (Kd.N_lower ho9 (below_size (by repeat (first | (with_reducible first | exact HB.out | apply below_alloc | apply pw_below_drewN | apply below_drew1) | exact HB.out)))); have n2_ := Aside0.mk (below_step (by repeat (first | (with_reducible first | exact HB.out | apply below_alloc | apply pw_below_drewN | apply below_drew1) | exact HB.out)) hb); clear HO0; clear HB; have HO0 := n0_; have HO222 := n1_; have HB := n2_; clear n0_ n1_ n2_; clear hb ho9; obtain ⟨Ao10, co10, eo10⟩ := Kd.N_slice HO222.out; subst eo10) | ((with_reducible refine gate_callee (f := 48) rfl ?_); refine goesL_ (some 17) rfl rfl Tryd.func48 (by kernel_rfl) rfl #[.slice Ao10 y220.length co10] rfl (by (try simp only [List.map_toArray, List.map_cons, List.map_nil]); first | done | rfl | (simp only [List.length_drop, List.length_take]; rfl)) ?_; (with_reducible refine (cooperagelaw4_tiny.calls k _ _ y220 t223 _ ?side1 ?side2 A5.out).mono ?_); (case side1 => repeat (first | exact (Kd.N_reads' HO222.out).2.2 | (with_reducible refine Kd.C_alloc ?_ _) | (with_reducible refine Kd.C_drewN ?_ _) | (with_reducible refine Kd.C_drew ?_))); (case side2 => exact (Kd.N_reads' HO222.out).2.1); rintro e w' ⟨rfl, ⟨nd, rfl⟩⟩; refine ⟨_, rfl, ?_⟩))
  (try simp only [Act.put, List.setIfInBounds_toArray, List.set_cons_zero, List.set_cons_succ])
  go_cut [27] (fun v27 wc => ∃ (kq : Nat) (x27_5 : Bool), v27 = .bool x27_5 ∧ Aside0 (cooperagelaw4_LineTurns.j0 kq l0 a1 a2 t219 x27_5 = some r) ∧ Aside0 (kq ≤ k) ∧ Aside0 (Kd.V Kd.string 9 wc w.heap.size (fun k_ => (P0_ k_ ∨ w.heap.size ≤ k_)) (.slice A0 l0.length c0) l0) ∧ Aside0 (Below w.heap.size w wc))
  case first =>
    have H := HC6.out
    clear HC6
    by_cases c11 : t219 = true
    · subst c11
      have H1 : (if t223 = true then (cooperagelaw4_LineTurns.j0 k l0 a1 a2 true (a2 == 10)) else (cooperagelaw4_LineTurns.j0 k l0 a1 a2 true true)) = some r := by rw [if_pos rfl] at H; exact H
      clear H
      have H := H1
      clear H1
      by_cases c12 : t223 = true
      · subst c12
        have H1 : (cooperagelaw4_LineTurns.j0 k l0 a1 a2 true (a2 == 10)) = some r := by rw [if_pos rfl] at H; exact H
        clear H
        have H := H1
        clear H1
        have H' := Aside0.mk H
        clear H
        go_wp2
        go_meet
        case rel => exact ⟨_, ((a2 == 10)), (by first | rfl | (simp; done) | (simp [*]; done)), H', ⟨by first | omega | exact Nat.le_refl _⟩, ⟨by (with_reducible repeat (first | apply Kd.V_alloc | apply Kd.V_drewN | apply Kd.V_drew)); exact Kd.V_mono HO0.out (fun _ hk => hk.1)⟩, ⟨by repeat (first | (with_reducible first | exact HB.out | apply below_alloc | apply pw_below_drewN | apply below_drew1) | exact HB.out)⟩⟩
      · replace c12 := Bool.eq_false_iff.mpr c12
        subst c12
        have H1 : (cooperagelaw4_LineTurns.j0 k l0 a1 a2 true true) = some r := by rw [if_neg (show ¬ (false = true) by decide)] at H; exact H
        clear H
        have H := H1
        clear H1
        have H' := Aside0.mk H
        clear H
        go_wp2
        go_meet
        case rel => exact ⟨_, (true), (by first | rfl | (simp; done) | (simp [*]; done)), H', ⟨by first | omega | exact Nat.le_refl _⟩, ⟨by (with_reducible repeat (first | apply Kd.V_alloc | apply Kd.V_drewN | apply Kd.V_drew)); exact Kd.V_mono HO0.out (fun _ hk => hk.1)⟩, ⟨by repeat (first | (with_reducible first | exact HB.out | apply below_alloc | apply pw_below_drewN | apply below_drew1) | exact HB.out)⟩⟩
    · replace c11 := Bool.eq_false_iff.mpr c11
      subst c11
      have H1 : (cooperagelaw4_LineTurns.j0 k l0 a1 a2 false true) = some r := by rw [if_neg (show ¬ (false = true) by decide)] at H; exact H
      clear H
      have H := H1
      clear H1
      have H' := Aside0.mk H
      clear H
      go_wp2
      go_meet
      case rel => exact ⟨_, (true), (by first | rfl | (simp; done) | (simp [*]; done)), H', ⟨by first | omega | exact Nat.le_refl _⟩, ⟨by (with_reducible repeat (first | apply Kd.V_alloc | apply Kd.V_drewN | apply Kd.V_drew)); exact Kd.V_mono HO0.out (fun _ hk => hk.1)⟩, ⟨by repeat (first | (with_reducible first | exact HB.out | apply below_alloc | apply pw_below_drewN | apply below_drew1) | exact HB.out)⟩⟩
  case rest =>
    clear HC6
    try clear c1
    try clear p2
    try clear c3
    try clear c4
    try clear c11
    try clear c12
    obtain ⟨kq, x27_5, rfl, HA, HJ5, HO_0, HB⟩ := hcut
    cases kq with
    | zero => exact absurd HA.out (by simp [cooperagelaw4_LineTurns.j0])
    | succ kj5 =>
      have H := HA.out
      clear HA
      simp only [cooperagelaw4_LineTurns.j0] at H
      by_cases c13 : x27_5 = true
      · subst c13
        have H1 : (some t219) = some r := by rw [if_pos rfl] at H; exact H
        clear H
        have H := H1
        clear H1
        obtain rfl := Option.some.inj H
        go_wp2
        go_ret
        exact ⟨by first | rfl | (simp [errW_none, errW_some] <;> rfl) | (simp [*, errW_none, errW_some] <;> rfl) | (simp [errW_none, errW_some]; cases a0.toList <;> rfl), by repeat (first | (with_reducible first | exact HB.out | apply below_alloc | apply pw_below_drewN | apply below_drew1) | exact HB.out)⟩
      · replace c13 := Bool.eq_false_iff.mpr c13
        subst c13
        have H1 : ((line_Put.f l0).bind fun bt224 => (if bt224.2 = 0 then (if a1 < 0 then (cooperagelaw4_LineTurns.j1 kj5 l0 a1 a2 t219 bt224.1 true) else (cooperagelaw4_LineTurns.j1 kj5 l0 a1 a2 t219 bt224.1 (decide (a1 ≥ (wrap64 ((bt224.1.size : Int) - 1)))))) else (cooperagelaw4_LineTurns.j1 kj5 l0 a1 a2 t219 bt224.1 true))) = some r := by rw [if_neg (show ¬ (false = true) by decide)] at H; exact H
        clear H
        have H := H1
        clear H1
        replace H := Option.bind_eq_some_iff.mp H
        obtain ⟨⟨t224, t225⟩, A140, H⟩ := H
        replace H : (if t225 = 0 then (if a1 < 0 then (cooperagelaw4_LineTurns.j1 kj5 l0 a1 a2 t219 t224 true) else (cooperagelaw4_LineTurns.j1 kj5 l0 a1 a2 t219 t224 (decide (a1 ≥ (wrap64 ((t224.size : Int) - 1)))))) else (cooperagelaw4_LineTurns.j1 kj5 l0 a1 a2 t219 t224 true)) = some r := H
        have A14 := Aside0.mk A140
        clear A140
        have HC15 := Aside0.mk H
        clear H
        go_upto_region 6 with (first | ((with_reducible refine gate_callee (f := 40) rfl ?_); refine goesL_ (some 31) rfl rfl Tryd.func40 (by kernel_rfl) rfl #[.slice A0 l0.length c0] rfl (by (try simp only [List.map_toArray, List.map_cons, List.map_nil]); first | done | rfl | (simp only [List.length_drop, List.length_take]; rfl)) ?_; (with_reducible refine (line_Put.calls _ _ l0 t224 t225 _ ?side1 ?side2 ?side3 A14.out).mono ?_); (case side1 => exact Hand3.Glob.below hG (by repeat (first | (with_reducible first | exact HB.out | apply below_alloc | apply pw_below_drewN | apply below_drew1) | exact HB.out))); (case side2 => repeat (first | exact (Kd.V_reads' HO_0.out).2.2 | (with_reducible refine Kd.C_alloc ?_ _) | (with_reducible refine Kd.C_drewN ?_ _) | (with_reducible refine Kd.C_drew ?_))); (case side3 => exact (Kd.V_reads' HO_0.out).2.1); rintro e w16 ⟨rfl, hb⟩; refine ⟨_, rfl, ?_⟩; have n0_ := Aside0.mk (Kd.V_below (by (with_reducible repeat (first | apply Kd.V_alloc | apply Kd.V_drewN | apply Kd.V_drew)); exact HO_0.out) hb); have n1_ := Aside0.mk (below_step (by repeat (first | (with_reducible first | exact HB.out | apply below_alloc | apply pw_below_drewN | apply below_drew1) | exact HB.out)) hb); clear HO_0; clear HB; have HO_0 := n0_; have HB := n1_; clear n0_ n1_; (try clear hb); (try clear hb2); (try clear hk); (try clear hi)))
        (try simp only [Act.put, List.setIfInBounds_toArray, List.set_cons_zero, List.set_cons_succ])
        go_cut [46] (fun v46 wc => ∃ (kq : Nat) (x46_14 : Bool), v46 = .bool x46_14 ∧ Aside0 (cooperagelaw4_LineTurns.j1 kq l0 a1 a2 t219 t224 x46_14 = some r) ∧ Aside0 (kq ≤ kj5) ∧ Aside0 (Kd.V Kd.string 9 wc w.heap.size (fun k_ => (P0_ k_ ∨ w.heap.size ≤ k_)) (.slice A0 l0.length c0) l0) ∧ Aside0 (Below w.heap.size w wc))
        case first =>
          have H := HC15.out
          clear HC15
          by_cases c17 : t225 = 0
          · rw [if_pos c17] at H
            have c17b0 : (t225 == 0) = true := beq_iff_eq.mpr c17
            have c17b1 : (t225 != 0) = false := bne_eq_false_iff_eq.mpr c17
            clear c17
            (first | rw [c17b0] | (simp only [i64_w, i32_w]; rw [c17b0]) | skip)
            by_cases c18 : a1 < 0
            · rw [if_pos c18] at H
              have c18b0 : decide (a1 < 0) = true := decide_eq_true c18
              clear c18
              have H' := Aside0.mk H
              clear H
              go_wp2
              go_meet
              case rel => exact ⟨_, (true), (by first | rfl | (simp; done) | (simp [*]; done)), H', ⟨by have := HJ5.out; first | omega | exact Nat.le_refl _⟩, ⟨by (with_reducible repeat (first | apply Kd.V_alloc | apply Kd.V_drewN | apply Kd.V_drew)); exact HO_0.out⟩, ⟨by repeat (first | (with_reducible first | exact HB.out | apply below_alloc | apply pw_below_drewN | apply below_drew1) | exact HB.out)⟩⟩
            · rw [if_neg c18] at H
              have c18b0 : decide (a1 < 0) = false := decide_eq_false c18
              clear c18
              have H' := Aside0.mk H
              clear H
              go_wp2
              go_meet
              case rel => exact ⟨_, (decide (a1 ≥ (wrap64 ((t224.size : Int) - 1)))), (by first | rfl | (simp; done) | (simp [*]; done)), H', ⟨by have := HJ5.out; first | omega | exact Nat.le_refl _⟩, ⟨by (with_reducible repeat (first | apply Kd.V_alloc | apply Kd.V_drewN | apply Kd.V_drew)); exact HO_0.out⟩, ⟨by repeat (first | (with_reducible first | exact HB.out | apply below_alloc | apply pw_below_drewN | apply below_drew1) | exact HB.out)⟩⟩
          · rw [if_neg c17] at H
            have c17b0 : (t225 == 0) = false := beq_eq_false_iff_ne.mpr c17
            have c17b1 : (t225 != 0) = true := bne_iff_ne.mpr c17
            (first | rw [c17b0] | (simp only [i64_w, i32_w]; rw [c17b0]) | skip)
            have H' := Aside0.mk H
            clear H
            go_wp2
            go_meet
            case rel => exact ⟨_, (true), (by first | rfl | (simp; done) | (simp [*]; done)), H', ⟨by have := HJ5.out; first | omega | exact Nat.le_refl _⟩, ⟨by (with_reducible repeat (first | apply Kd.V_alloc | apply Kd.V_drewN | apply Kd.V_drew)); exact HO_0.out⟩, ⟨by repeat (first | (with_reducible first | exact HB.out | apply below_alloc | apply pw_below_drewN | apply below_drew1) | exact HB.out)⟩⟩
        case rest =>
          clear HC15
          try clear c1
          try clear p2
          try clear c3
          try clear c4
          try clear p6
          try clear c11
          try clear c12
          try clear c13
          try clear c15
          try clear c17
          try clear c17b0
          try clear c17b1
          try clear c18
          try clear c18b0
          try clear p2
          obtain ⟨kq, x46_14, rfl, HA, HJ14, HO_0, HB⟩ := hcut
          cases kq with
          | zero => exact absurd HA.out (by simp [cooperagelaw4_LineTurns.j1])
          | succ kj14 =>
            have H := HA.out
            clear HA
            simp only [cooperagelaw4_LineTurns.j1] at H
            by_cases c19 : x46_14 = true
            · subst c19
              have H1 : (some t219) = some r := by rw [if_pos rfl] at H; exact H
              clear H
              have H := H1
              clear H1
              obtain rfl := Option.some.inj H
              go_wp2
              go_ret
              exact ⟨by first | rfl | (simp [errW_none, errW_some] <;> rfl) | (simp [*, errW_none, errW_some] <;> rfl) | (simp [errW_none, errW_some]; cases a0.toList <;> rfl), by repeat (first | (with_reducible first | exact HB.out | apply below_alloc | apply pw_below_drewN | apply below_drew1) | exact HB.out)⟩
            · replace c19 := Bool.eq_false_iff.mpr c19
              subst c19
              have H1 : (if 0 ≤ a1 then (if a1 ≤ (t224.size : Int) then ((some (([a2] : List Int) : List Int)).bind fun y226 => (if (t224.extract 0 (a1 : Int).toNat).size + (strOfNums y226).size ≤ 9223372036854775807 then (if 0 ≤ (wrap64 (a1 + 1)) then (if (wrap64 (a1 + 1)) ≤ (t224.size : Int) then (if ((t224.extract 0 (a1 : Int).toNat) ++ (strOfNums y226)).size + (t224.extract ((wrap64 (a1 + 1)) : Int).toNat t224.size).size ≤ 9223372036854775807 then ((line_Scan.f (((t224.extract 0 (a1 : Int).toNat) ++ (strOfNums y226)) ++ (t224.extract ((wrap64 (a1 + 1)) : Int).toNat t224.size))).bind fun bt229 => (if (((t224.extract 0 (a1 : Int).toNat) ++ (strOfNums y226)) ++ (t224.extract ((wrap64 (a1 + 1)) : Int).toNat t224.size)).toList = t224.toList then ((cooperagelaw4_sameAll.f kj14 bt229.1 (([l0] : List (List ByteArray)))).bind fun t236 => (if t236 = true then (some (bt229.2 == (t224.size : Int))) else (some false))) else (if (bt229.1.length : Int) = 0 then (some (bt229.2 == 0)) else (some false)))) else (none)) else (none)) else (none)) else (none))) else (none)) else (none)) = some r := by rw [if_neg (show ¬ (false = true) by decide)] at H; exact H
              clear H
              have H := H1
              clear H1
              by_cases c20 : 0 ≤ a1
              · rw [if_pos c20] at H
                have c20b0 := eq_true c20
                have c20b1 : decide (0 ≤ a1) = true := decide_eq_true c20
                clear c20
                by_cases c21 : a1 ≤ (t224.size : Int)
                · rw [if_pos c21] at H
                  have c21b0 := eq_true c21
                  have c21b1 : decide (a1 ≤ (t224.size : Int)) = true := decide_eq_true c21
                  clear c21
                  obtain ⟨y226, hy226⟩ : ∃ y_ : List Int, y_ = (([a2] : List Int)) := ⟨_, rfl⟩
                  replace H : (if (t224.extract 0 (a1 : Int).toNat).size + (strOfNums y226).size ≤ 9223372036854775807 then (if 0 ≤ (wrap64 (a1 + 1)) then (if (wrap64 (a1 + 1)) ≤ (t224.size : Int) then (if ((t224.extract 0 (a1 : Int).toNat) ++ (strOfNums y226)).size + (t224.extract ((wrap64 (a1 + 1)) : Int).toNat t224.size).size ≤ 9223372036854775807 then ((line_Scan.f (((t224.extract 0 (a1 : Int).toNat) ++ (strOfNums y226)) ++ (t224.extract ((wrap64 (a1 + 1)) : Int).toNat t224.size))).bind fun bt229 => (if (((t224.extract 0 (a1 : Int).toNat) ++ (strOfNums y226)) ++ (t224.extract ((wrap64 (a1 + 1)) : Int).toNat t224.size)).toList = t224.toList then ((cooperagelaw4_sameAll.f kj14 bt229.1 (([l0] : List (List ByteArray)))).bind fun t236 => (if t236 = true then (some (bt229.2 == (t224.size : Int))) else (some false))) else (if (bt229.1.length : Int) = 0 then (some (bt229.2 == 0)) else (some false)))) else (none)) else (none)) else (none)) else (none)) = some r := by first | (rw [hy226]; with_reducible exact H) | (have H2_ := (Option.bind_some _ _).symm.trans H; rw [hy226]; with_reducible exact H2_) | (have H2_ := (Option.bind_some _ _).symm.trans H; with_reducible exact H2_) | with_reducible exact H | (rw [hy226]; exact H) | exact H
                  have Ny226 := Aside0.mk hy226
                  clear hy226
                  by_cases c22 : (t224.extract 0 (a1 : Int).toNat).size + (strOfNums y226).size ≤ 9223372036854775807
                  · rw [if_pos c22] at H
                    have c22b0 := eq_true c22
                    have c22b1 : decide ((t224.extract 0 (a1 : Int).toNat).size + (strOfNums y226).size ≤ 9223372036854775807) = true := decide_eq_true c22
                    try have c22b2 : (9223372036854775807 < (t224.extract 0 (a1 : Int).toNat).size + (strOfNums y226).size) = False := eq_false (Nat.not_lt.2 c22)
                    have e14 : (t224.extract 0 (a1 : Int).toNat).size = (a1 : Int).toNat := by simp only [ByteArray.size_extract]; have := of_eq_true c21b0; have := of_eq_true c20b0; omega
                    have c22b3 : (9223372036854775807 < (a1 : Int).toNat + (strOfNums y226).size) = False := eq_false (by rw [e14] at c22; omega)
                    have E14 := Aside0.mk e14
                    clear e14
                    obtain ⟨ji23, hji23⟩ : ∃ j_ : Int, (wrap64 (a1 + 1)) = j_ := ⟨_, rfl⟩
                    replace H : (if 0 ≤ (ji23) then (if (ji23) ≤ (t224.size : Int) then (if ((t224.extract 0 (a1 : Int).toNat) ++ (strOfNums y226)).size + (t224.extract ((ji23) : Int).toNat t224.size).size ≤ 9223372036854775807 then ((line_Scan.f (((t224.extract 0 (a1 : Int).toNat) ++ (strOfNums y226)) ++ (t224.extract ((ji23) : Int).toNat t224.size))).bind fun bt229 => (if (((t224.extract 0 (a1 : Int).toNat) ++ (strOfNums y226)) ++ (t224.extract ((ji23) : Int).toNat t224.size)).toList = t224.toList then ((cooperagelaw4_sameAll.f kj14 bt229.1 (([l0] : List (List ByteArray)))).bind fun t236 => (if t236 = true then (some (bt229.2 == (t224.size : Int))) else (some false))) else (if (bt229.1.length : Int) = 0 then (some (bt229.2 == 0)) else (some false)))) else (none)) else (none)) else (none)) = some r := by first | (rw [hji23] at H; exact H) | (simp only [hji23] at H ⊢; exact H)
                    have hji23w : (IntKind.i64.wrap (a1 + 1)) = ji23 := (i64_w _).trans hji23
                    by_cases c24 : 0 ≤ (ji23)
                    · rw [if_pos c24] at H
                      have c24b0 := eq_true c24
                      have c24b1 : decide (0 ≤ (ji23)) = true := decide_eq_true c24
                      clear c24
                      by_cases c25 : (ji23) ≤ (t224.size : Int)
                      · rw [if_pos c25] at H
                        have c25b0 := eq_true c25
                        have c25b1 : decide ((ji23) ≤ (t224.size : Int)) = true := decide_eq_true c25
                        clear c25
                        by_cases c26 : ((t224.extract 0 (a1 : Int).toNat) ++ (strOfNums y226)).size + (t224.extract ((ji23) : Int).toNat t224.size).size ≤ 9223372036854775807
                        · rw [if_pos c26] at H
                          have c26b0 := eq_true c26
                          have c26b1 : decide (((t224.extract 0 (a1 : Int).toNat) ++ (strOfNums y226)).size + (t224.extract ((ji23) : Int).toNat t224.size).size ≤ 9223372036854775807) = true := decide_eq_true c26
                          try have c26b2 : (9223372036854775807 < ((t224.extract 0 (a1 : Int).toNat) ++ (strOfNums y226)).size + (t224.extract ((ji23) : Int).toNat t224.size).size) = False := eq_false (Nat.not_lt.2 c26)
                          have c26b3 : (9223372036854775807 < (a1 : Int).toNat + (strOfNums y226).size + (t224.size - (ji23 : Int).toNat)) = False := eq_false (by have e := c26; rw [ByteArray.size_append, E14.out, ByteArray.size_extract] at e; omega)
                          try (have c26sb0 := c26b0; simp only [ByteArray.size_append] at c26sb0)
                          try (have c26sb1 := c26b1; simp only [ByteArray.size_append] at c26sb1)
                          try (have c26sb2 := c26b2; simp only [ByteArray.size_append] at c26sb2)
                          replace H := Option.bind_eq_some_iff.mp H
                          obtain ⟨⟨t229, t230⟩, A270, H⟩ := H
                          replace H : (if (((t224.extract 0 (a1 : Int).toNat) ++ (strOfNums y226)) ++ (t224.extract ((ji23) : Int).toNat t224.size)).toList = t224.toList then ((cooperagelaw4_sameAll.f kj14 t229 (([l0] : List (List ByteArray)))).bind fun t236 => (if t236 = true then (some (t230 == (t224.size : Int))) else (some false))) else (if (t229.length : Int) = 0 then (some (t230 == 0)) else (some false))) = some r := H
                          have A27 := Aside0.mk A270
                          clear A270
                          by_cases c28 : (((t224.extract 0 (a1 : Int).toNat) ++ (strOfNums y226)) ++ (t224.extract ((ji23) : Int).toNat t224.size)).toList = t224.toList
                          · rw [if_pos c28] at H
                            have c28b0 : ((((t224.extract 0 (a1 : Int).toNat) ++ (strOfNums y226)) ++ (t224.extract ((ji23) : Int).toNat t224.size)).toList == t224.toList) = true := beq_iff_eq.mpr c28
                            have c28b1 : ((((t224.extract 0 (a1 : Int).toNat) ++ (strOfNums y226)) ++ (t224.extract ((ji23) : Int).toNat t224.size)).toList != t224.toList) = false := bne_eq_false_iff_eq.mpr c28
                            clear c28
                            obtain ⟨y233, hy233⟩ : ∃ y_ : List (List ByteArray), y_ = (([l0] : List (List ByteArray))) := ⟨_, rfl⟩
                            replace H : ((cooperagelaw4_sameAll.f kj14 t229 y233).bind fun t236 => (if t236 = true then (some (t230 == (t224.size : Int))) else (some false))) = some r := by first | (rw [hy233]; with_reducible exact H) | (have H2_ := (Option.bind_some _ _).symm.trans H; rw [hy233]; with_reducible exact H2_) | (have H2_ := (Option.bind_some _ _).symm.trans H; with_reducible exact H2_) | with_reducible exact H | (rw [hy233]; exact H) | exact H
                            have Ny233 := Aside0.mk hy233
                            clear hy233
                            replace H := Option.bind_eq_some_iff.mp H
                            obtain ⟨t236, A290, H⟩ := H
                            replace H : (if t236 = true then (some (t230 == (t224.size : Int))) else (some false)) = some r := H
                            have A29 := Aside0.mk A290
                            clear A290
                            by_cases c30 : t236 = true
                            · subst c30
                              have H1 : (some (t230 == (t224.size : Int))) = some r := by rw [if_pos rfl] at H; exact H
                              clear H
                              have H := H1
                              clear H1
                              obtain rfl := Option.some.inj H
                              try go_wp2
                              have n0_ := Aside0.mk (Kd.V_drew HO_0.out)
                              have n1_ := Aside0.mk (below_drew1 HB.out)
                              clear HO_0
                              clear HB
                              have HO_0 := n0_
                              have HB := n1_
                              clear n0_ n1_
                              refine start_ (n := 13) (S := fun w' => True) (ds := []) #[false, false, false, false, false, false, false, false, false, false, false, false, false] (by kernel_rfl) rfl rfl trivial (fun hHeld => ?_); refine with_tabW cooperagelaw4_LineTurns.tab8 cooperagelaw4_LineTurns.bits8 (fun HT_ HW_ => ?_)
                              generalize wc.drew = w31 at HO_0 HB hHeld ⊢
                              refine pure_ (i := 0) (N := some 48) (v := ?_) (a' := ?_) #[true, false, false, false, false, false, false, false, false, false, false, false, false] rfl rfl (any_of HT_.out (by kernel_rfl)) (fun _ _ _ h => h) (Or.inl ⟨by rfl, ?_⟩) ?_ ?_
                              rotate_left
                              · intro w'
                                go_simp
                                with_reducible rfl
                              rotate_left
                              · simp only [Act.put, List.setIfInBounds_toArray, List.set_cons_zero, List.set_cons_succ, i64_w, i32_w]
                                rfl
                              refine pure_ (i := 1) (N := some 49) (v := ?_) (a' := ?_) #[true, true, false, false, false, false, false, false, false, false, false, false, false] rfl rfl (any_of HT_.out (by kernel_rfl)) (fun _ _ _ h => h) (Or.inl ⟨by rfl, ?_⟩) ?_ ?_
                              rotate_left
                              · intro w'
                                go_simp
                                with_reducible rfl
                              rotate_left
                              · simp only [Act.put, List.setIfInBounds_toArray, List.set_cons_zero, List.set_cons_succ, i64_w, i32_w]
                                rfl
                              refine pure_ (i := 2) (N := some 50) (v := ?_) (a' := ?_) #[true, true, true, false, false, false, false, false, false, false, false, false, false] rfl rfl (any_of HT_.out (by kernel_rfl)) (fun _ _ _ h => h) (Or.inl ⟨by rfl, ?_⟩) ?_ ?_
                              rotate_left
                              · intro w'
                                go_simp
                                with_reducible rfl
                              rotate_left
                              · simp only [Act.put, List.setIfInBounds_toArray, List.set_cons_zero, List.set_cons_succ, i64_w, i32_w]
                                rfl
                              refine pure_ (i := 3) (N := some 51) (v := ?_) (a' := ?_) #[true, true, true, true, false, false, false, false, false, false, false, false, false] rfl rfl (any_of HT_.out (by kernel_rfl)) (fun _ _ _ h => h) (Or.inl ⟨by rfl, ?_⟩) ?_ ?_
                              rotate_left
                              · intro w'
                                go_simp
                                with_reducible rfl
                              rotate_left
                              · simp only [Act.put, List.setIfInBounds_toArray, List.set_cons_zero, List.set_cons_succ, i64_w, i32_w]
                                rfl
                              refine pure_ (i := 7) (N := some 55) (v := ?_) (a' := ?_) #[true, true, true, true, false, false, false, true, false, false, false, false, false] rfl rfl (any_of HT_.out (by kernel_rfl)) (fun _ _ _ h => h) (Or.inl ⟨by rfl, ?_⟩) ?_ ?_
                              rotate_left
                              · intro w'
                                go_simp
                                with_reducible rfl
                              rotate_left
                              · simp only [Act.put, List.setIfInBounds_toArray, List.set_cons_zero, List.set_cons_succ, i64_w, i32_w]
                                rfl
                              refine pure_ (i := 8) (N := some 56) (v := ?_) (a' := ?_) #[true, true, true, true, false, false, false, true, true, false, false, false, false] rfl rfl (any_of HT_.out (by kernel_rfl)) (fun _ _ _ h => h) (Or.inl ⟨by rfl, ?_⟩) ?_ ?_
                              rotate_left
                              · intro w'
                                go_simp
                                with_reducible rfl
                              rotate_left
                              · simp only [Act.put, List.setIfInBounds_toArray, List.set_cons_zero, List.set_cons_succ, i64_w, i32_w]
                                rfl
                              refine pure_ (i := 9) (N := some 57) (v := ?_) (a' := ?_) #[true, true, true, true, false, false, false, true, true, true, false, false, false] rfl rfl (any_of HT_.out (by kernel_rfl)) (fun _ _ _ h => h) (Or.inl ⟨by rfl, ?_⟩) ?_ ?_
                              rotate_left
                              · intro w'
                                go_simp
                                with_reducible rfl
                              rotate_left
                              · simp only [Act.put, List.setIfInBounds_toArray, List.set_cons_zero, List.set_cons_succ, i64_w, i32_w]
                                rfl
                              refine pure_ (i := 10) (N := some 58) (v := ?_) (a' := ?_) #[true, true, true, true, false, false, false, true, true, true, true, false, false] rfl rfl (any_of HT_.out (by kernel_rfl)) (fun _ _ _ h => h) (Or.inl ⟨by rfl, ?_⟩) ?_ ?_
                              rotate_left
                              · intro w'
                                go_simp
                                with_reducible rfl
                              rotate_left
                              · simp only [Act.put, List.setIfInBounds_toArray, List.set_cons_zero, List.set_cons_succ, i64_w, i32_w]
                                rfl
                              refine one_ (i := 4) (N := some 52) #[true, true, true, true, true, false, false, true, true, true, true, false, false] rfl rfl (one_of HT_.out (by kernel_rfl)) (by decide) (fun K hK => ?_)
                              refine Kd.R_lit_step (Kd.int .u8) _ 5 ?hg (N := 52) ?hd (xs := ([a2] : List Int)) (inner := [.int .u8 a2]) (ok := fun _ => True) (okp := fun _ => True) ?hr ?hp (fun _ hk => hk) trivial (Below.refl _ _) (Nat.le_refl _) (by simp) ?_; (case hd => rfl); (case hg => rfl); (case hr => first | (go_simp; done) | (go_simp; rfl)); (case hp => exact (Reps.one (show Kd.M (Kd.int .u8) _ _ _ a2 [.int .u8 a2] from rfl) (Reps.none _ _)))
                              intro v227 w32 ho33 hb hg_ hnew_
                              clear hg_ hnew_
                              (first | rw [← Ny226.out] at ho33 | (simp only [Int.reduceToNat] at ho33; rw [← Ny226.out] at ho33))
                              have n0_ := Aside0.mk (Kd.V_elder' (by (with_reducible repeat (first | apply Kd.V_alloc | apply Kd.V_drewN | apply Kd.V_drew)); exact HO_0.out) (Kd.R_base ho33) hb)
                              have n1_ := Aside0.mk (Kd.R_lower (Kd.R_newM (M := fun k_ => (w.heap.size ≤ k_)) ho33 (below_size (by repeat (first | (with_reducible first | exact HB.out | apply below_alloc | apply pw_below_drewN | apply below_drew1) | exact HB.out))) (fun k_ h_ => h_)) (below_size (by repeat (first | (with_reducible first | exact HB.out | apply below_alloc | apply pw_below_drewN | apply below_drew1) | exact HB.out))))
                              have n2_ := Aside0.mk (below_step (by repeat (first | (with_reducible first | exact HB.out | apply below_alloc | apply pw_below_drewN | apply below_drew1) | exact HB.out)) hb)
                              clear HO_0
                              clear HB
                              have HO_0 := n0_
                              have HO228 := n1_
                              have HB := n2_
                              clear n0_ n1_ n2_
                              clear hb ho33
                              refine hK.out _ _ trivial (fun hHeld => ?_)
                              clear hK K
                              refine norm_ (a' := ?_) ?_ ?_
                              rotate_left
                              · show Act.put _ (some 52) _ = _
                                simp only [Act.put, List.setIfInBounds_toArray, List.set_cons_zero, List.set_cons_succ, i64_w, i32_w]
                                rfl
                              refine one_ (i := 5) (N := some 53) #[true, true, true, true, true, true, false, true, true, true, true, false, false] rfl rfl (one_of HT_.out (by kernel_rfl)) (by decide) (fun K hK => ?_)
                              have hcv34 := own_string (P := Tryd.prog) Tryd.underlying48 Tryd.underlying5 Tryd.underlying9 (Kd.own_of_R HO228.out)
                              refine value_ (w1 := ?_) (v := ?_) (by rfl) rfl ?_ ?_
                              rotate_left 2
                              · go_simp
                                constructor
                                · rfl
                                · rfl
                              clear hcv34
                              refine hK.out _ _ trivial (fun hHeld => ?_)
                              clear hK K
                              refine norm_ (a' := ?_) ?_ ?_
                              rotate_left
                              · show Act.put _ (some 53) _ = _
                                simp only [Act.put, List.setIfInBounds_toArray, List.set_cons_zero, List.set_cons_succ, i64_w, i32_w]
                                rfl
                              refine pure_ (i := 6) (N := some 54) (v := ?_) (a' := ?_) #[true, true, true, true, true, true, true, true, true, true, true, false, false] rfl rfl (any_of HT_.out (by kernel_rfl)) (fun _ _ _ h => h) (Or.inl ⟨by rfl, ?_⟩) ?_ ?_
                              rotate_left
                              · intro w'
                                go_simp
                                with_reducible rfl
                              rotate_left
                              · simp only [Act.put, List.setIfInBounds_toArray, List.set_cons_zero, List.set_cons_succ, i64_w, i32_w]
                                rfl
                              refine pure_ (i := 11) (N := some 59) (v := ?_) (a' := ?_) #[true, true, true, true, true, true, true, true, true, true, true, true, false] rfl rfl (any_of HT_.out (by kernel_rfl)) (fun _ _ _ h => h) (Or.inl ⟨by rfl, ?_⟩) ?_ ?_
                              rotate_left
                              · intro w'
                                go_simp
                                with_reducible rfl
                              rotate_left
                              · simp only [Act.put, List.setIfInBounds_toArray, List.set_cons_zero, List.set_cons_succ, i64_w, i32_w]
                                rfl
                              refine pure_ (i := 12) (N := some 11) (v := ?_) (a' := ?_) #[true, true, true, true, true, true, true, true, true, true, true, true, true] rfl rfl (any_of HT_.out (by kernel_rfl)) (fun _ _ _ h => h) (Or.inl ⟨by rfl, ?_⟩) ?_ ?_
                              rotate_left
                              · intro w'
                                go_simp
                                with_reducible rfl
                              rotate_left
                              · simp only [Act.put, List.setIfInBounds_toArray, List.set_cons_zero, List.set_cons_succ, i64_w, i32_w]
                                rfl
                              refine done_ (done_of HT_.out (by kernel_rfl)) ?_
                              try go_wp2_with (first | ((with_reducible refine gate_callee (f := 44) rfl ?_); refine goesL_ (some 62) rfl rfl Tryd.func44 (by kernel_rfl) rfl #[.string (((t224.extract 0 (a1 : Int).toNat) ++ (strOfNums y226)) ++ (t224.extract ((ji23) : Int).toNat t224.size))] rfl (by (try simp only [List.map_toArray, List.map_cons, List.map_nil]); first | done | (simp only [hji23]; rfl) | rfl | (simp only [List.length_drop, List.length_take]; rfl)) ?_; (with_reducible refine (line_Scan.calls (((t224.extract 0 (a1 : Int).toNat) ++ (strOfNums y226)) ++ (t224.extract ((ji23) : Int).toNat t224.size)) t229 t230 _ ?side1 A27.out).mono ?_); (case side1 => exact Hand3.Glob.below hG (by repeat (first | (with_reducible first | exact HB.out | apply below_alloc | apply pw_below_drewN | apply below_drew1) | exact HB.out))); rintro e w35 ⟨v231, rfl, ho0, hb⟩; refine ⟨_, rfl, ?_⟩; have n0_ := Aside0.mk (Kd.V_elder' (by (with_reducible repeat (first | apply Kd.V_alloc | apply Kd.V_drewN | apply Kd.V_drew)); exact HO_0.out) (by first | exact Kd.N_base ho0 | exact Kd.S_base ho0) hb); have n1_ := Aside0.mk (Kd.R_below (by (with_reducible repeat (first | apply Kd.R_alloc | apply Kd.R_drewN | apply Kd.R_drew)); exact HO228.out) hb); have n2_ := Aside0.mk (Kd.N_lower (Kd.N_mono (ok' := fun k_ => (P0_ k_ ∨ w.heap.size ≤ k_) ∧ some k_ ≠ (v227 : Value).ownBlock) (Kd.S_N (Kd.S_bound ho0)) (fun k_ hk_ => ⟨(.inr (Nat.le_trans (below_size (by repeat (first | (with_reducible first | exact HB.out | apply below_alloc | apply pw_below_drewN | apply below_drew1) | exact HB.out))) hk_.2.1)), (Kd.fresh' (Kd.R_lt (by (with_reducible repeat (first | apply Kd.R_alloc | apply Kd.R_drewN | apply Kd.R_drew)); exact HO228.out)) k_ hk_.2.1)⟩)) (below_size (by repeat (first | (with_reducible first | exact HB.out | apply below_alloc | apply pw_below_drewN | apply below_drew1) | exact HB.out)))); have n3_ := Aside0.mk (below_step (by repeat (first | (with_reducible first | exact HB.out | apply below_alloc | apply pw_below_drewN | apply below_drew1) | exact HB.out)) hb); clear HO_0; clear HO228; clear HB; have HO_0 := n0_; have HO228 := n1_; have HO232 := n2_; have HB := n3_; clear n0_ n1_ n2_ n3_; (try clear hb); (try clear hb2); (try clear hk); (try clear hi); (try clear ho0)) | ((with_reducible refine gate_dst (N := 70) rfl ?_); (try (refine gate_guard (by rfl) ?_; dsimp only)); refine Kd.N_lit (Kd.slice 9 Kd.string) _ 23 ?hg (N' := 70) ?hd (xs := ([l0] : List (List ByteArray))) (inner := [.slice A0 l0.length c0]) (ok := (fun k_ => (P0_ k_ ∨ w.heap.size ≤ k_) ∧ some k_ ≠ (v227 : Value).ownBlock ∧ some k_ ≠ (v231 : Value).ownBlock)) (okp := (fun k_ => (P0_ k_ ∨ w.heap.size ≤ k_) ∧ some k_ ≠ (v227 : Value).ownBlock ∧ some k_ ≠ (v231 : Value).ownBlock)) ?hr ?hp (fun _ hk => hk) ((show ∀ k_, w35.heap.size ≤ k_ → (fun k_ => (P0_ k_ ∨ w.heap.size ≤ k_) ∧ some k_ ≠ (v227 : Value).ownBlock ∧ some k_ ≠ (v231 : Value).ownBlock) k_ from fun k_ hk => ⟨(.inr (Nat.le_trans (below_size (by repeat (first | (with_reducible first | exact HB.out | apply below_alloc | apply pw_below_drewN | apply below_drew1) | exact HB.out))) hk)), Kd.fresh' (Kd.R_lt (by (with_reducible repeat (first | apply Kd.R_alloc | apply Kd.R_drewN | apply Kd.R_drew)); exact HO228.out)) k_ hk, Kd.fresh' (Kd.N_lt (by (with_reducible repeat (first | apply Kd.N_alloc | apply Kd.N_drewN | apply Kd.N_drew)); exact HO232.out)) k_ hk⟩) _ (Nat.le_refl _)) (Below.refl _ _) (Nat.le_refl _) (by simp) ?_; (case hd => rfl); (case hg => rfl); (case hr => first | (go_simp; done) | (go_simp; rfl)); (case hp => exact (Reps.one (show Kd.FK (Kd.slice 9 Kd.string) _ _ l0 [.slice A0 l0.length c0] from (Kd.FK_slice_mk (Kd.V_reads' (Kd.V_mono (ok' := (fun k_ => (P0_ k_ ∨ w.heap.size ≤ k_) ∧ some k_ ≠ (v227 : Value).ownBlock ∧ some k_ ≠ (v231 : Value).ownBlock)) (HO_0.out) (fun k_ hk => ⟨hk.1.1, ⟨hk.1.2, hk.2⟩⟩))).2.1 (Kd.V_F (Kd.V_mono (ok' := (fun k_ => (P0_ k_ ∨ w.heap.size ≤ k_) ∧ some k_ ≠ (v227 : Value).ownBlock ∧ some k_ ≠ (v231 : Value).ownBlock)) (HO_0.out) (fun k_ hk => ⟨hk.1.1, ⟨hk.1.2, hk.2⟩⟩))))) (Reps.none _ _))); intro v234 w36 ho37 hb hg_ hnew_; clear hg_ hnew_; (first | rw [← Ny233.out] at ho37 | (simp only [Int.reduceToNat] at ho37; rw [← Ny233.out] at ho37)); have n0_ := Aside0.mk (Kd.V_elder' (by (with_reducible repeat (first | apply Kd.V_alloc | apply Kd.V_drewN | apply Kd.V_drew)); exact HO_0.out) (by first | exact Kd.N_base ho37 | exact Kd.S_base ho37) hb); have n1_ := Aside0.mk (Kd.R_below (by (with_reducible repeat (first | apply Kd.R_alloc | apply Kd.R_drewN | apply Kd.R_drew)); exact HO228.out) hb); have n2_ := Aside0.mk (Kd.N_elder' (by (with_reducible repeat (first | apply Kd.N_alloc | apply Kd.N_drewN | apply Kd.N_drew)); exact HO232.out) (by first | exact Kd.N_base ho37 | exact Kd.S_base ho37) hb); have n3_ := Aside0.mk (Kd.N_lower ho37 (below_size (by repeat (first | (with_reducible first | exact HB.out | apply below_alloc | apply pw_below_drewN | apply below_drew1) | exact HB.out)))); have n4_ := Aside0.mk (below_step (by repeat (first | (with_reducible first | exact HB.out | apply below_alloc | apply pw_below_drewN | apply below_drew1) | exact HB.out)) hb); clear HO_0; clear HO228; clear HO232; clear HB; have HO_0 := n0_; have HO228 := n1_; have HO232 := n2_; have HO235 := n3_; have HB := n4_; clear n0_ n1_ n2_ n3_ n4_; clear hb ho37; obtain ⟨Ao38, co38, eo38⟩ := Kd.N_slice HO232.out; subst eo38; obtain ⟨Ao39, co39, eo39⟩ := Kd.N_slice HO235.out; subst eo39) | ((with_reducible refine gate_callee (f := 47) rfl ?_); refine goesL_ (some 71) rfl rfl Tryd.func47 (by kernel_rfl) rfl #[.slice Ao38 t229.length co38, .slice Ao39 y233.length co39] rfl (by (try simp only [List.map_toArray, List.map_cons, List.map_nil]); first | done | rfl | (simp only [List.length_drop, List.length_take]; rfl)) ?_; (with_reducible refine (cooperagelaw4_sameAll.calls kj14 _ _ t229 _ _ y233 true _ ?side1 ?side2 ?side3 ?side4 A29.out).mono ?_); (case side1 => repeat (first | exact (Kd.N_reads' HO232.out).2.2 | (with_reducible refine Kd.C_alloc ?_ _) | (with_reducible refine Kd.C_drewN ?_ _) | (with_reducible refine Kd.C_drew ?_))); (case side2 => exact (Kd.N_reads' HO232.out).2.1); (case side3 => repeat (first | exact (Kd.N_reads' HO235.out).2.2 | (with_reducible refine Kd.C_alloc ?_ _) | (with_reducible refine Kd.C_drewN ?_ _) | (with_reducible refine Kd.C_drew ?_))); (case side4 => exact (Kd.N_reads' HO235.out).2.1); rintro e w' ⟨rfl, ⟨nd, rfl⟩⟩; refine ⟨_, rfl, ?_⟩))
                              go_ret
                              exact ⟨by first | rfl | (simp [errW_none, errW_some] <;> rfl) | (simp only [← hji23]; first | rfl | (simp [errW_none, errW_some] <;> rfl)) | (simp [*, errW_none, errW_some] <;> rfl) | (simp [errW_none, errW_some]; cases a0.toList <;> rfl), by repeat (first | (with_reducible first | exact HB.out | apply below_alloc | apply pw_below_drewN | apply below_drew1) | exact HB.out)⟩
                            · replace c30 := Bool.eq_false_iff.mpr c30
                              subst c30
                              have H1 : (some false) = some r := by rw [if_neg (show ¬ (false = true) by decide)] at H; exact H
                              clear H
                              have H := H1
                              clear H1
                              obtain rfl := Option.some.inj H
                              try go_wp2
                              have n0_ := Aside0.mk (Kd.V_drew HO_0.out)
                              have n1_ := Aside0.mk (below_drew1 HB.out)
                              clear HO_0
                              clear HB
                              have HO_0 := n0_
                              have HB := n1_
                              clear n0_ n1_
                              refine start_ (n := 13) (S := fun w' => True) (ds := []) #[false, false, false, false, false, false, false, false, false, false, false, false, false] (by kernel_rfl) rfl rfl trivial (fun hHeld => ?_); refine with_tabW cooperagelaw4_LineTurns.tab8 cooperagelaw4_LineTurns.bits8 (fun HT_ HW_ => ?_)
                              generalize wc.drew = w40 at HO_0 HB hHeld ⊢
                              refine pure_ (i := 0) (N := some 48) (v := ?_) (a' := ?_) #[true, false, false, false, false, false, false, false, false, false, false, false, false] rfl rfl (any_of HT_.out (by kernel_rfl)) (fun _ _ _ h => h) (Or.inl ⟨by rfl, ?_⟩) ?_ ?_
                              rotate_left
                              · intro w'
                                go_simp
                                with_reducible rfl
                              rotate_left
                              · simp only [Act.put, List.setIfInBounds_toArray, List.set_cons_zero, List.set_cons_succ, i64_w, i32_w]
                                rfl
                              refine pure_ (i := 1) (N := some 49) (v := ?_) (a' := ?_) #[true, true, false, false, false, false, false, false, false, false, false, false, false] rfl rfl (any_of HT_.out (by kernel_rfl)) (fun _ _ _ h => h) (Or.inl ⟨by rfl, ?_⟩) ?_ ?_
                              rotate_left
                              · intro w'
                                go_simp
                                with_reducible rfl
                              rotate_left
                              · simp only [Act.put, List.setIfInBounds_toArray, List.set_cons_zero, List.set_cons_succ, i64_w, i32_w]
                                rfl
                              refine pure_ (i := 2) (N := some 50) (v := ?_) (a' := ?_) #[true, true, true, false, false, false, false, false, false, false, false, false, false] rfl rfl (any_of HT_.out (by kernel_rfl)) (fun _ _ _ h => h) (Or.inl ⟨by rfl, ?_⟩) ?_ ?_
                              rotate_left
                              · intro w'
                                go_simp
                                with_reducible rfl
                              rotate_left
                              · simp only [Act.put, List.setIfInBounds_toArray, List.set_cons_zero, List.set_cons_succ, i64_w, i32_w]
                                rfl
                              refine pure_ (i := 3) (N := some 51) (v := ?_) (a' := ?_) #[true, true, true, true, false, false, false, false, false, false, false, false, false] rfl rfl (any_of HT_.out (by kernel_rfl)) (fun _ _ _ h => h) (Or.inl ⟨by rfl, ?_⟩) ?_ ?_
                              rotate_left
                              · intro w'
                                go_simp
                                with_reducible rfl
                              rotate_left
                              · simp only [Act.put, List.setIfInBounds_toArray, List.set_cons_zero, List.set_cons_succ, i64_w, i32_w]
                                rfl
                              refine pure_ (i := 7) (N := some 55) (v := ?_) (a' := ?_) #[true, true, true, true, false, false, false, true, false, false, false, false, false] rfl rfl (any_of HT_.out (by kernel_rfl)) (fun _ _ _ h => h) (Or.inl ⟨by rfl, ?_⟩) ?_ ?_
                              rotate_left
                              · intro w'
                                go_simp
                                with_reducible rfl
                              rotate_left
                              · simp only [Act.put, List.setIfInBounds_toArray, List.set_cons_zero, List.set_cons_succ, i64_w, i32_w]
                                rfl
                              refine pure_ (i := 8) (N := some 56) (v := ?_) (a' := ?_) #[true, true, true, true, false, false, false, true, true, false, false, false, false] rfl rfl (any_of HT_.out (by kernel_rfl)) (fun _ _ _ h => h) (Or.inl ⟨by rfl, ?_⟩) ?_ ?_
                              rotate_left
                              · intro w'
                                go_simp
                                with_reducible rfl
                              rotate_left
                              · simp only [Act.put, List.setIfInBounds_toArray, List.set_cons_zero, List.set_cons_succ, i64_w, i32_w]
                                rfl
                              refine pure_ (i := 9) (N := some 57) (v := ?_) (a' := ?_) #[true, true, true, true, false, false, false, true, true, true, false, false, false] rfl rfl (any_of HT_.out (by kernel_rfl)) (fun _ _ _ h => h) (Or.inl ⟨by rfl, ?_⟩) ?_ ?_
                              rotate_left
                              · intro w'
                                go_simp
                                with_reducible rfl
                              rotate_left
                              · simp only [Act.put, List.setIfInBounds_toArray, List.set_cons_zero, List.set_cons_succ, i64_w, i32_w]
                                rfl
                              refine pure_ (i := 10) (N := some 58) (v := ?_) (a' := ?_) #[true, true, true, true, false, false, false, true, true, true, true, false, false] rfl rfl (any_of HT_.out (by kernel_rfl)) (fun _ _ _ h => h) (Or.inl ⟨by rfl, ?_⟩) ?_ ?_
                              rotate_left
                              · intro w'
                                go_simp
                                with_reducible rfl
                              rotate_left
                              · simp only [Act.put, List.setIfInBounds_toArray, List.set_cons_zero, List.set_cons_succ, i64_w, i32_w]
                                rfl
                              refine one_ (i := 4) (N := some 52) #[true, true, true, true, true, false, false, true, true, true, true, false, false] rfl rfl (one_of HT_.out (by kernel_rfl)) (by decide) (fun K hK => ?_)
                              refine Kd.R_lit_step (Kd.int .u8) _ 5 ?hg (N := 52) ?hd (xs := ([a2] : List Int)) (inner := [.int .u8 a2]) (ok := fun _ => True) (okp := fun _ => True) ?hr ?hp (fun _ hk => hk) trivial (Below.refl _ _) (Nat.le_refl _) (by simp) ?_; (case hd => rfl); (case hg => rfl); (case hr => first | (go_simp; done) | (go_simp; rfl)); (case hp => exact (Reps.one (show Kd.M (Kd.int .u8) _ _ _ a2 [.int .u8 a2] from rfl) (Reps.none _ _)))
                              intro v227 w41 ho42 hb hg_ hnew_
                              clear hg_ hnew_
                              (first | rw [← Ny226.out] at ho42 | (simp only [Int.reduceToNat] at ho42; rw [← Ny226.out] at ho42))
                              have n0_ := Aside0.mk (Kd.V_elder' (by (with_reducible repeat (first | apply Kd.V_alloc | apply Kd.V_drewN | apply Kd.V_drew)); exact HO_0.out) (Kd.R_base ho42) hb)
                              have n1_ := Aside0.mk (Kd.R_lower (Kd.R_newM (M := fun k_ => (w.heap.size ≤ k_)) ho42 (below_size (by repeat (first | (with_reducible first | exact HB.out | apply below_alloc | apply pw_below_drewN | apply below_drew1) | exact HB.out))) (fun k_ h_ => h_)) (below_size (by repeat (first | (with_reducible first | exact HB.out | apply below_alloc | apply pw_below_drewN | apply below_drew1) | exact HB.out))))
                              have n2_ := Aside0.mk (below_step (by repeat (first | (with_reducible first | exact HB.out | apply below_alloc | apply pw_below_drewN | apply below_drew1) | exact HB.out)) hb)
                              clear HO_0
                              clear HB
                              have HO_0 := n0_
                              have HO228 := n1_
                              have HB := n2_
                              clear n0_ n1_ n2_
                              clear hb ho42
                              refine hK.out _ _ trivial (fun hHeld => ?_)
                              clear hK K
                              refine norm_ (a' := ?_) ?_ ?_
                              rotate_left
                              · show Act.put _ (some 52) _ = _
                                simp only [Act.put, List.setIfInBounds_toArray, List.set_cons_zero, List.set_cons_succ, i64_w, i32_w]
                                rfl
                              refine one_ (i := 5) (N := some 53) #[true, true, true, true, true, true, false, true, true, true, true, false, false] rfl rfl (one_of HT_.out (by kernel_rfl)) (by decide) (fun K hK => ?_)
                              have hcv43 := own_string (P := Tryd.prog) Tryd.underlying48 Tryd.underlying5 Tryd.underlying9 (Kd.own_of_R HO228.out)
                              refine value_ (w1 := ?_) (v := ?_) (by rfl) rfl ?_ ?_
                              rotate_left 2
                              · go_simp
                                constructor
                                · rfl
                                · rfl
                              clear hcv43
                              refine hK.out _ _ trivial (fun hHeld => ?_)
                              clear hK K
                              refine norm_ (a' := ?_) ?_ ?_
                              rotate_left
                              · show Act.put _ (some 53) _ = _
                                simp only [Act.put, List.setIfInBounds_toArray, List.set_cons_zero, List.set_cons_succ, i64_w, i32_w]
                                rfl
                              refine pure_ (i := 6) (N := some 54) (v := ?_) (a' := ?_) #[true, true, true, true, true, true, true, true, true, true, true, false, false] rfl rfl (any_of HT_.out (by kernel_rfl)) (fun _ _ _ h => h) (Or.inl ⟨by rfl, ?_⟩) ?_ ?_
                              rotate_left
                              · intro w'
                                go_simp
                                with_reducible rfl
                              rotate_left
                              · simp only [Act.put, List.setIfInBounds_toArray, List.set_cons_zero, List.set_cons_succ, i64_w, i32_w]
                                rfl
                              refine pure_ (i := 11) (N := some 59) (v := ?_) (a' := ?_) #[true, true, true, true, true, true, true, true, true, true, true, true, false] rfl rfl (any_of HT_.out (by kernel_rfl)) (fun _ _ _ h => h) (Or.inl ⟨by rfl, ?_⟩) ?_ ?_
                              rotate_left
                              · intro w'
                                go_simp
                                with_reducible rfl
                              rotate_left
                              · simp only [Act.put, List.setIfInBounds_toArray, List.set_cons_zero, List.set_cons_succ, i64_w, i32_w]
                                rfl
                              refine pure_ (i := 12) (N := some 11) (v := ?_) (a' := ?_) #[true, true, true, true, true, true, true, true, true, true, true, true, true] rfl rfl (any_of HT_.out (by kernel_rfl)) (fun _ _ _ h => h) (Or.inl ⟨by rfl, ?_⟩) ?_ ?_
                              rotate_left
                              · intro w'
                                go_simp
                                with_reducible rfl
                              rotate_left
                              · simp only [Act.put, List.setIfInBounds_toArray, List.set_cons_zero, List.set_cons_succ, i64_w, i32_w]
                                rfl
                              refine done_ (done_of HT_.out (by kernel_rfl)) ?_
                              try go_wp2_with (first | ((with_reducible refine gate_callee (f := 44) rfl ?_); refine goesL_ (some 62) rfl rfl Tryd.func44 (by kernel_rfl) rfl #[.string (((t224.extract 0 (a1 : Int).toNat) ++ (strOfNums y226)) ++ (t224.extract ((ji23) : Int).toNat t224.size))] rfl (by (try simp only [List.map_toArray, List.map_cons, List.map_nil]); first | done | (simp only [hji23]; rfl) | rfl | (simp only [List.length_drop, List.length_take]; rfl)) ?_; (with_reducible refine (line_Scan.calls (((t224.extract 0 (a1 : Int).toNat) ++ (strOfNums y226)) ++ (t224.extract ((ji23) : Int).toNat t224.size)) t229 t230 _ ?side1 A27.out).mono ?_); (case side1 => exact Hand3.Glob.below hG (by repeat (first | (with_reducible first | exact HB.out | apply below_alloc | apply pw_below_drewN | apply below_drew1) | exact HB.out))); rintro e w44 ⟨v231, rfl, ho0, hb⟩; refine ⟨_, rfl, ?_⟩; have n0_ := Aside0.mk (Kd.V_elder' (by (with_reducible repeat (first | apply Kd.V_alloc | apply Kd.V_drewN | apply Kd.V_drew)); exact HO_0.out) (by first | exact Kd.N_base ho0 | exact Kd.S_base ho0) hb); have n1_ := Aside0.mk (Kd.R_below (by (with_reducible repeat (first | apply Kd.R_alloc | apply Kd.R_drewN | apply Kd.R_drew)); exact HO228.out) hb); have n2_ := Aside0.mk (Kd.N_lower (Kd.N_mono (ok' := fun k_ => (P0_ k_ ∨ w.heap.size ≤ k_) ∧ some k_ ≠ (v227 : Value).ownBlock) (Kd.S_N (Kd.S_bound ho0)) (fun k_ hk_ => ⟨(.inr (Nat.le_trans (below_size (by repeat (first | (with_reducible first | exact HB.out | apply below_alloc | apply pw_below_drewN | apply below_drew1) | exact HB.out))) hk_.2.1)), (Kd.fresh' (Kd.R_lt (by (with_reducible repeat (first | apply Kd.R_alloc | apply Kd.R_drewN | apply Kd.R_drew)); exact HO228.out)) k_ hk_.2.1)⟩)) (below_size (by repeat (first | (with_reducible first | exact HB.out | apply below_alloc | apply pw_below_drewN | apply below_drew1) | exact HB.out)))); have n3_ := Aside0.mk (below_step (by repeat (first | (with_reducible first | exact HB.out | apply below_alloc | apply pw_below_drewN | apply below_drew1) | exact HB.out)) hb); clear HO_0; clear HO228; clear HB; have HO_0 := n0_; have HO228 := n1_; have HO232 := n2_; have HB := n3_; clear n0_ n1_ n2_ n3_; (try clear hb); (try clear hb2); (try clear hk); (try clear hi); (try clear ho0)) | ((with_reducible refine gate_dst (N := 70) rfl ?_); (try (refine gate_guard (by rfl) ?_; dsimp only)); refine Kd.N_lit (Kd.slice 9 Kd.string) _ 23 ?hg (N' := 70) ?hd (xs := ([l0] : List (List ByteArray))) (inner := [.slice A0 l0.length c0]) (ok := (fun k_ => (P0_ k_ ∨ w.heap.size ≤ k_) ∧ some k_ ≠ (v227 : Value).ownBlock ∧ some k_ ≠ (v231 : Value).ownBlock)) (okp := (fun k_ => (P0_ k_ ∨ w.heap.size ≤ k_) ∧ some k_ ≠ (v227 : Value).ownBlock ∧ some k_ ≠ (v231 : Value).ownBlock)) ?hr ?hp (fun _ hk => hk) ((show ∀ k_, w44.heap.size ≤ k_ → (fun k_ => (P0_ k_ ∨ w.heap.size ≤ k_) ∧ some k_ ≠ (v227 : Value).ownBlock ∧ some k_ ≠ (v231 : Value).ownBlock) k_ from fun k_ hk => ⟨(.inr (Nat.le_trans (below_size (by repeat (first | (with_reducible first | exact HB.out | apply below_alloc | apply pw_below_drewN | apply below_drew1) | exact HB.out))) hk)), Kd.fresh' (Kd.R_lt (by (with_reducible repeat (first | apply Kd.R_alloc | apply Kd.R_drewN | apply Kd.R_drew)); exact HO228.out)) k_ hk, Kd.fresh' (Kd.N_lt (by (with_reducible repeat (first | apply Kd.N_alloc | apply Kd.N_drewN | apply Kd.N_drew)); exact HO232.out)) k_ hk⟩) _ (Nat.le_refl _)) (Below.refl _ _) (Nat.le_refl _) (by simp) ?_; (case hd => rfl); (case hg => rfl); (case hr => first | (go_simp; done) | (go_simp; rfl)); (case hp => exact (Reps.one (show Kd.FK (Kd.slice 9 Kd.string) _ _ l0 [.slice A0 l0.length c0] from (Kd.FK_slice_mk (Kd.V_reads' (Kd.V_mono (ok' := (fun k_ => (P0_ k_ ∨ w.heap.size ≤ k_) ∧ some k_ ≠ (v227 : Value).ownBlock ∧ some k_ ≠ (v231 : Value).ownBlock)) (HO_0.out) (fun k_ hk => ⟨hk.1.1, ⟨hk.1.2, hk.2⟩⟩))).2.1 (Kd.V_F (Kd.V_mono (ok' := (fun k_ => (P0_ k_ ∨ w.heap.size ≤ k_) ∧ some k_ ≠ (v227 : Value).ownBlock ∧ some k_ ≠ (v231 : Value).ownBlock)) (HO_0.out) (fun k_ hk => ⟨hk.1.1, ⟨hk.1.2, hk.2⟩⟩))))) (Reps.none _ _))); intro v234 w45 ho46 hb hg_ hnew_; clear hg_ hnew_; (first | rw [← Ny233.out] at ho46 | (simp only [Int.reduceToNat] at ho46; rw [← Ny233.out] at ho46)); have n0_ := Aside0.mk (Kd.V_elder' (by (with_reducible repeat (first | apply Kd.V_alloc | apply Kd.V_drewN | apply Kd.V_drew)); exact HO_0.out) (by first | exact Kd.N_base ho46 | exact Kd.S_base ho46) hb); have n1_ := Aside0.mk (Kd.R_below (by (with_reducible repeat (first | apply Kd.R_alloc | apply Kd.R_drewN | apply Kd.R_drew)); exact HO228.out) hb); have n2_ := Aside0.mk (Kd.N_elder' (by (with_reducible repeat (first | apply Kd.N_alloc | apply Kd.N_drewN | apply Kd.N_drew)); exact HO232.out) (by first | exact Kd.N_base ho46 | exact Kd.S_base ho46) hb); have n3_ := Aside0.mk (Kd.N_lower ho46 (below_size (by repeat (first | (with_reducible first | exact HB.out | apply below_alloc | apply pw_below_drewN | apply below_drew1) | exact HB.out)))); have n4_ := Aside0.mk (below_step (by repeat (first | (with_reducible first | exact HB.out | apply below_alloc | apply pw_below_drewN | apply below_drew1) | exact HB.out)) hb); clear HO_0; clear HO228; clear HO232; clear HB; have HO_0 := n0_; have HO228 := n1_; have HO232 := n2_; have HO235 := n3_; have HB := n4_; clear n0_ n1_ n2_ n3_ n4_; clear hb ho46; obtain ⟨Ao47, co47, eo47⟩ := Kd.N_slice HO232.out; subst eo47; obtain ⟨Ao48, co48, eo48⟩ := Kd.N_slice HO235.out; subst eo48) | ((with_reducible refine gate_callee (f := 47) rfl ?_); refine goesL_ (some 71) rfl rfl Tryd.func47 (by kernel_rfl) rfl #[.slice Ao47 t229.length co47, .slice Ao48 y233.length co48] rfl (by (try simp only [List.map_toArray, List.map_cons, List.map_nil]); first | done | rfl | (simp only [List.length_drop, List.length_take]; rfl)) ?_; (with_reducible refine (cooperagelaw4_sameAll.calls kj14 _ _ t229 _ _ y233 false _ ?side1 ?side2 ?side3 ?side4 A29.out).mono ?_); (case side1 => repeat (first | exact (Kd.N_reads' HO232.out).2.2 | (with_reducible refine Kd.C_alloc ?_ _) | (with_reducible refine Kd.C_drewN ?_ _) | (with_reducible refine Kd.C_drew ?_))); (case side2 => exact (Kd.N_reads' HO232.out).2.1); (case side3 => repeat (first | exact (Kd.N_reads' HO235.out).2.2 | (with_reducible refine Kd.C_alloc ?_ _) | (with_reducible refine Kd.C_drewN ?_ _) | (with_reducible refine Kd.C_drew ?_))); (case side4 => exact (Kd.N_reads' HO235.out).2.1); rintro e w' ⟨rfl, ⟨nd, rfl⟩⟩; refine ⟨_, rfl, ?_⟩))
                              go_ret
                              exact ⟨by first | rfl | (simp [errW_none, errW_some] <;> rfl) | (simp only [← hji23]; first | rfl | (simp [errW_none, errW_some] <;> rfl)) | (simp [*, errW_none, errW_some] <;> rfl) | (simp [errW_none, errW_some]; cases a0.toList <;> rfl), by repeat (first | (with_reducible first | exact HB.out | apply below_alloc | apply pw_below_drewN | apply below_drew1) | exact HB.out)⟩
                          · rw [if_neg c28] at H
                            have c28b0 : ((((t224.extract 0 (a1 : Int).toNat) ++ (strOfNums y226)) ++ (t224.extract ((ji23) : Int).toNat t224.size)).toList == t224.toList) = false := beq_eq_false_iff_ne.mpr c28
                            have c28b1 : ((((t224.extract 0 (a1 : Int).toNat) ++ (strOfNums y226)) ++ (t224.extract ((ji23) : Int).toNat t224.size)).toList != t224.toList) = true := bne_iff_ne.mpr c28
                            by_cases c49 : (t229.length : Int) = 0
                            · rw [if_pos c49] at H
                              have c49b0 : ((t229.length : Int) == 0) = true := beq_iff_eq.mpr c49
                              have c49b1 : ((t229.length : Int) != 0) = false := bne_eq_false_iff_eq.mpr c49
                              clear c49
                              obtain rfl := Option.some.inj H
                              try go_wp2
                              have n0_ := Aside0.mk (Kd.V_drew HO_0.out)
                              have n1_ := Aside0.mk (below_drew1 HB.out)
                              clear HO_0
                              clear HB
                              have HO_0 := n0_
                              have HB := n1_
                              clear n0_ n1_
                              refine start_ (n := 13) (S := fun w' => True) (ds := []) #[false, false, false, false, false, false, false, false, false, false, false, false, false] (by kernel_rfl) rfl rfl trivial (fun hHeld => ?_); refine with_tabW cooperagelaw4_LineTurns.tab8 cooperagelaw4_LineTurns.bits8 (fun HT_ HW_ => ?_)
                              generalize wc.drew = w50 at HO_0 HB hHeld ⊢
                              refine pure_ (i := 0) (N := some 48) (v := ?_) (a' := ?_) #[true, false, false, false, false, false, false, false, false, false, false, false, false] rfl rfl (any_of HT_.out (by kernel_rfl)) (fun _ _ _ h => h) (Or.inl ⟨by rfl, ?_⟩) ?_ ?_
                              rotate_left
                              · intro w'
                                go_simp
                                with_reducible rfl
                              rotate_left
                              · simp only [Act.put, List.setIfInBounds_toArray, List.set_cons_zero, List.set_cons_succ, i64_w, i32_w]
                                rfl
                              refine pure_ (i := 1) (N := some 49) (v := ?_) (a' := ?_) #[true, true, false, false, false, false, false, false, false, false, false, false, false] rfl rfl (any_of HT_.out (by kernel_rfl)) (fun _ _ _ h => h) (Or.inl ⟨by rfl, ?_⟩) ?_ ?_
                              rotate_left
                              · intro w'
                                go_simp
                                with_reducible rfl
                              rotate_left
                              · simp only [Act.put, List.setIfInBounds_toArray, List.set_cons_zero, List.set_cons_succ, i64_w, i32_w]
                                rfl
                              refine pure_ (i := 2) (N := some 50) (v := ?_) (a' := ?_) #[true, true, true, false, false, false, false, false, false, false, false, false, false] rfl rfl (any_of HT_.out (by kernel_rfl)) (fun _ _ _ h => h) (Or.inl ⟨by rfl, ?_⟩) ?_ ?_
                              rotate_left
                              · intro w'
                                go_simp
                                with_reducible rfl
                              rotate_left
                              · simp only [Act.put, List.setIfInBounds_toArray, List.set_cons_zero, List.set_cons_succ, i64_w, i32_w]
                                rfl
                              refine pure_ (i := 3) (N := some 51) (v := ?_) (a' := ?_) #[true, true, true, true, false, false, false, false, false, false, false, false, false] rfl rfl (any_of HT_.out (by kernel_rfl)) (fun _ _ _ h => h) (Or.inl ⟨by rfl, ?_⟩) ?_ ?_
                              rotate_left
                              · intro w'
                                go_simp
                                with_reducible rfl
                              rotate_left
                              · simp only [Act.put, List.setIfInBounds_toArray, List.set_cons_zero, List.set_cons_succ, i64_w, i32_w]
                                rfl
                              refine pure_ (i := 7) (N := some 55) (v := ?_) (a' := ?_) #[true, true, true, true, false, false, false, true, false, false, false, false, false] rfl rfl (any_of HT_.out (by kernel_rfl)) (fun _ _ _ h => h) (Or.inl ⟨by rfl, ?_⟩) ?_ ?_
                              rotate_left
                              · intro w'
                                go_simp
                                with_reducible rfl
                              rotate_left
                              · simp only [Act.put, List.setIfInBounds_toArray, List.set_cons_zero, List.set_cons_succ, i64_w, i32_w]
                                rfl
                              refine pure_ (i := 8) (N := some 56) (v := ?_) (a' := ?_) #[true, true, true, true, false, false, false, true, true, false, false, false, false] rfl rfl (any_of HT_.out (by kernel_rfl)) (fun _ _ _ h => h) (Or.inl ⟨by rfl, ?_⟩) ?_ ?_
                              rotate_left
                              · intro w'
                                go_simp
                                with_reducible rfl
                              rotate_left
                              · simp only [Act.put, List.setIfInBounds_toArray, List.set_cons_zero, List.set_cons_succ, i64_w, i32_w]
                                rfl
                              refine pure_ (i := 9) (N := some 57) (v := ?_) (a' := ?_) #[true, true, true, true, false, false, false, true, true, true, false, false, false] rfl rfl (any_of HT_.out (by kernel_rfl)) (fun _ _ _ h => h) (Or.inl ⟨by rfl, ?_⟩) ?_ ?_
                              rotate_left
                              · intro w'
                                go_simp
                                with_reducible rfl
                              rotate_left
                              · simp only [Act.put, List.setIfInBounds_toArray, List.set_cons_zero, List.set_cons_succ, i64_w, i32_w]
                                rfl
                              refine pure_ (i := 10) (N := some 58) (v := ?_) (a' := ?_) #[true, true, true, true, false, false, false, true, true, true, true, false, false] rfl rfl (any_of HT_.out (by kernel_rfl)) (fun _ _ _ h => h) (Or.inl ⟨by rfl, ?_⟩) ?_ ?_
                              rotate_left
                              · intro w'
                                go_simp
                                with_reducible rfl
                              rotate_left
                              · simp only [Act.put, List.setIfInBounds_toArray, List.set_cons_zero, List.set_cons_succ, i64_w, i32_w]
                                rfl
                              refine one_ (i := 4) (N := some 52) #[true, true, true, true, true, false, false, true, true, true, true, false, false] rfl rfl (one_of HT_.out (by kernel_rfl)) (by decide) (fun K hK => ?_)
                              refine Kd.R_lit_step (Kd.int .u8) _ 5 ?hg (N := 52) ?hd (xs := ([a2] : List Int)) (inner := [.int .u8 a2]) (ok := fun _ => True) (okp := fun _ => True) ?hr ?hp (fun _ hk => hk) trivial (Below.refl _ _) (Nat.le_refl _) (by simp) ?_; (case hd => rfl); (case hg => rfl); (case hr => first | (go_simp; done) | (go_simp; rfl)); (case hp => exact (Reps.one (show Kd.M (Kd.int .u8) _ _ _ a2 [.int .u8 a2] from rfl) (Reps.none _ _)))
                              intro v227 w51 ho52 hb hg_ hnew_
                              clear hg_ hnew_
                              (first | rw [← Ny226.out] at ho52 | (simp only [Int.reduceToNat] at ho52; rw [← Ny226.out] at ho52))
                              have n0_ := Aside0.mk (Kd.V_elder' (by (with_reducible repeat (first | apply Kd.V_alloc | apply Kd.V_drewN | apply Kd.V_drew)); exact HO_0.out) (Kd.R_base ho52) hb)
                              have n1_ := Aside0.mk (Kd.R_lower (Kd.R_newM (M := fun k_ => (w.heap.size ≤ k_)) ho52 (below_size (by repeat (first | (with_reducible first | exact HB.out | apply below_alloc | apply pw_below_drewN | apply below_drew1) | exact HB.out))) (fun k_ h_ => h_)) (below_size (by repeat (first | (with_reducible first | exact HB.out | apply below_alloc | apply pw_below_drewN | apply below_drew1) | exact HB.out))))
                              have n2_ := Aside0.mk (below_step (by repeat (first | (with_reducible first | exact HB.out | apply below_alloc | apply pw_below_drewN | apply below_drew1) | exact HB.out)) hb)
                              clear HO_0
                              clear HB
                              have HO_0 := n0_
                              have HO228 := n1_
                              have HB := n2_
                              clear n0_ n1_ n2_
                              clear hb ho52
                              refine hK.out _ _ trivial (fun hHeld => ?_)
                              clear hK K
                              refine norm_ (a' := ?_) ?_ ?_
                              rotate_left
                              · show Act.put _ (some 52) _ = _
                                simp only [Act.put, List.setIfInBounds_toArray, List.set_cons_zero, List.set_cons_succ, i64_w, i32_w]
                                rfl
                              refine one_ (i := 5) (N := some 53) #[true, true, true, true, true, true, false, true, true, true, true, false, false] rfl rfl (one_of HT_.out (by kernel_rfl)) (by decide) (fun K hK => ?_)
                              have hcv53 := own_string (P := Tryd.prog) Tryd.underlying48 Tryd.underlying5 Tryd.underlying9 (Kd.own_of_R HO228.out)
                              refine value_ (w1 := ?_) (v := ?_) (by rfl) rfl ?_ ?_
                              rotate_left 2
                              · go_simp
                                constructor
                                · rfl
                                · rfl
                              clear hcv53
                              refine hK.out _ _ trivial (fun hHeld => ?_)
                              clear hK K
                              refine norm_ (a' := ?_) ?_ ?_
                              rotate_left
                              · show Act.put _ (some 53) _ = _
                                simp only [Act.put, List.setIfInBounds_toArray, List.set_cons_zero, List.set_cons_succ, i64_w, i32_w]
                                rfl
                              refine pure_ (i := 6) (N := some 54) (v := ?_) (a' := ?_) #[true, true, true, true, true, true, true, true, true, true, true, false, false] rfl rfl (any_of HT_.out (by kernel_rfl)) (fun _ _ _ h => h) (Or.inl ⟨by rfl, ?_⟩) ?_ ?_
                              rotate_left
                              · intro w'
                                go_simp
                                with_reducible rfl
                              rotate_left
                              · simp only [Act.put, List.setIfInBounds_toArray, List.set_cons_zero, List.set_cons_succ, i64_w, i32_w]
                                rfl
                              refine pure_ (i := 11) (N := some 59) (v := ?_) (a' := ?_) #[true, true, true, true, true, true, true, true, true, true, true, true, false] rfl rfl (any_of HT_.out (by kernel_rfl)) (fun _ _ _ h => h) (Or.inl ⟨by rfl, ?_⟩) ?_ ?_
                              rotate_left
                              · intro w'
                                go_simp
                                with_reducible rfl
                              rotate_left
                              · simp only [Act.put, List.setIfInBounds_toArray, List.set_cons_zero, List.set_cons_succ, i64_w, i32_w]
                                rfl
                              refine pure_ (i := 12) (N := some 11) (v := ?_) (a' := ?_) #[true, true, true, true, true, true, true, true, true, true, true, true, true] rfl rfl (any_of HT_.out (by kernel_rfl)) (fun _ _ _ h => h) (Or.inl ⟨by rfl, ?_⟩) ?_ ?_
                              rotate_left
                              · intro w'
                                go_simp
                                with_reducible rfl
                              rotate_left
                              · simp only [Act.put, List.setIfInBounds_toArray, List.set_cons_zero, List.set_cons_succ, i64_w, i32_w]
                                rfl
                              refine done_ (done_of HT_.out (by kernel_rfl)) ?_
                              try go_wp2_with (first | ((with_reducible refine gate_callee (f := 44) rfl ?_); refine goesL_ (some 62) rfl rfl Tryd.func44 (by kernel_rfl) rfl #[.string (((t224.extract 0 (a1 : Int).toNat) ++ (strOfNums y226)) ++ (t224.extract ((ji23) : Int).toNat t224.size))] rfl (by (try simp only [List.map_toArray, List.map_cons, List.map_nil]); first | done | (simp only [hji23]; rfl) | rfl | (simp only [List.length_drop, List.length_take]; rfl)) ?_; (with_reducible refine (line_Scan.calls (((t224.extract 0 (a1 : Int).toNat) ++ (strOfNums y226)) ++ (t224.extract ((ji23) : Int).toNat t224.size)) t229 t230 _ ?side1 A27.out).mono ?_); (case side1 => exact Hand3.Glob.below hG (by repeat (first | (with_reducible first | exact HB.out | apply below_alloc | apply pw_below_drewN | apply below_drew1) | exact HB.out))); rintro e w54 ⟨v231, rfl, ho0, hb⟩; refine ⟨_, rfl, ?_⟩; have n0_ := Aside0.mk (Kd.V_elder' (by (with_reducible repeat (first | apply Kd.V_alloc | apply Kd.V_drewN | apply Kd.V_drew)); exact HO_0.out) (by first | exact Kd.N_base ho0 | exact Kd.S_base ho0) hb); have n1_ := Aside0.mk (Kd.R_below (by (with_reducible repeat (first | apply Kd.R_alloc | apply Kd.R_drewN | apply Kd.R_drew)); exact HO228.out) hb); have n2_ := Aside0.mk (Kd.N_lower (Kd.N_mono (ok' := fun k_ => (P0_ k_ ∨ w.heap.size ≤ k_) ∧ some k_ ≠ (v227 : Value).ownBlock) (Kd.S_N (Kd.S_bound ho0)) (fun k_ hk_ => ⟨(.inr (Nat.le_trans (below_size (by repeat (first | (with_reducible first | exact HB.out | apply below_alloc | apply pw_below_drewN | apply below_drew1) | exact HB.out))) hk_.2.1)), (Kd.fresh' (Kd.R_lt (by (with_reducible repeat (first | apply Kd.R_alloc | apply Kd.R_drewN | apply Kd.R_drew)); exact HO228.out)) k_ hk_.2.1)⟩)) (below_size (by repeat (first | (with_reducible first | exact HB.out | apply below_alloc | apply pw_below_drewN | apply below_drew1) | exact HB.out)))); have n3_ := Aside0.mk (below_step (by repeat (first | (with_reducible first | exact HB.out | apply below_alloc | apply pw_below_drewN | apply below_drew1) | exact HB.out)) hb); clear HO_0; clear HO228; clear HB; have HO_0 := n0_; have HO228 := n1_; have HO232 := n2_; have HB := n3_; clear n0_ n1_ n2_ n3_; (try clear hb); (try clear hb2); (try clear hk); (try clear hi); (try clear ho0); obtain ⟨Ao55, co55, eo55⟩ := Kd.N_slice HO232.out; subst eo55))
                              go_ret
                              exact ⟨by first | rfl | (simp [errW_none, errW_some] <;> rfl) | (simp only [← hji23]; first | rfl | (simp [errW_none, errW_some] <;> rfl)) | (simp [*, errW_none, errW_some] <;> rfl) | (simp [errW_none, errW_some]; cases a0.toList <;> rfl), by repeat (first | (with_reducible first | exact HB.out | apply below_alloc | apply pw_below_drewN | apply below_drew1) | exact HB.out)⟩
                            · rw [if_neg c49] at H
                              have c49b0 : ((t229.length : Int) == 0) = false := beq_eq_false_iff_ne.mpr c49
                              have c49b1 : ((t229.length : Int) != 0) = true := bne_iff_ne.mpr c49
                              have c49b2 : ¬ (t229 = []) := fun h_ => c49 (by rw [h_]; rfl)
                              obtain rfl := Option.some.inj H
                              try go_wp2
                              have n0_ := Aside0.mk (Kd.V_drew HO_0.out)
                              have n1_ := Aside0.mk (below_drew1 HB.out)
                              clear HO_0
                              clear HB
                              have HO_0 := n0_
                              have HB := n1_
                              clear n0_ n1_
                              refine start_ (n := 13) (S := fun w' => True) (ds := []) #[false, false, false, false, false, false, false, false, false, false, false, false, false] (by kernel_rfl) rfl rfl trivial (fun hHeld => ?_); refine with_tabW cooperagelaw4_LineTurns.tab8 cooperagelaw4_LineTurns.bits8 (fun HT_ HW_ => ?_)
                              generalize wc.drew = w56 at HO_0 HB hHeld ⊢
                              refine pure_ (i := 0) (N := some 48) (v := ?_) (a' := ?_) #[true, false, false, false, false, false, false, false, false, false, false, false, false] rfl rfl (any_of HT_.out (by kernel_rfl)) (fun _ _ _ h => h) (Or.inl ⟨by rfl, ?_⟩) ?_ ?_
                              rotate_left
                              · intro w'
                                go_simp
                                with_reducible rfl
                              rotate_left
                              · simp only [Act.put, List.setIfInBounds_toArray, List.set_cons_zero, List.set_cons_succ, i64_w, i32_w]
                                rfl
                              refine pure_ (i := 1) (N := some 49) (v := ?_) (a' := ?_) #[true, true, false, false, false, false, false, false, false, false, false, false, false] rfl rfl (any_of HT_.out (by kernel_rfl)) (fun _ _ _ h => h) (Or.inl ⟨by rfl, ?_⟩) ?_ ?_
                              rotate_left
                              · intro w'
                                go_simp
                                with_reducible rfl
                              rotate_left
                              · simp only [Act.put, List.setIfInBounds_toArray, List.set_cons_zero, List.set_cons_succ, i64_w, i32_w]
                                rfl
                              refine pure_ (i := 2) (N := some 50) (v := ?_) (a' := ?_) #[true, true, true, false, false, false, false, false, false, false, false, false, false] rfl rfl (any_of HT_.out (by kernel_rfl)) (fun _ _ _ h => h) (Or.inl ⟨by rfl, ?_⟩) ?_ ?_
                              rotate_left
                              · intro w'
                                go_simp
                                with_reducible rfl
                              rotate_left
                              · simp only [Act.put, List.setIfInBounds_toArray, List.set_cons_zero, List.set_cons_succ, i64_w, i32_w]
                                rfl
                              refine pure_ (i := 3) (N := some 51) (v := ?_) (a' := ?_) #[true, true, true, true, false, false, false, false, false, false, false, false, false] rfl rfl (any_of HT_.out (by kernel_rfl)) (fun _ _ _ h => h) (Or.inl ⟨by rfl, ?_⟩) ?_ ?_
                              rotate_left
                              · intro w'
                                go_simp
                                with_reducible rfl
                              rotate_left
                              · simp only [Act.put, List.setIfInBounds_toArray, List.set_cons_zero, List.set_cons_succ, i64_w, i32_w]
                                rfl
                              refine pure_ (i := 7) (N := some 55) (v := ?_) (a' := ?_) #[true, true, true, true, false, false, false, true, false, false, false, false, false] rfl rfl (any_of HT_.out (by kernel_rfl)) (fun _ _ _ h => h) (Or.inl ⟨by rfl, ?_⟩) ?_ ?_
                              rotate_left
                              · intro w'
                                go_simp
                                with_reducible rfl
                              rotate_left
                              · simp only [Act.put, List.setIfInBounds_toArray, List.set_cons_zero, List.set_cons_succ, i64_w, i32_w]
                                rfl
                              refine pure_ (i := 8) (N := some 56) (v := ?_) (a' := ?_) #[true, true, true, true, false, false, false, true, true, false, false, false, false] rfl rfl (any_of HT_.out (by kernel_rfl)) (fun _ _ _ h => h) (Or.inl ⟨by rfl, ?_⟩) ?_ ?_
                              rotate_left
                              · intro w'
                                go_simp
                                with_reducible rfl
                              rotate_left
                              · simp only [Act.put, List.setIfInBounds_toArray, List.set_cons_zero, List.set_cons_succ, i64_w, i32_w]
                                rfl
                              refine pure_ (i := 9) (N := some 57) (v := ?_) (a' := ?_) #[true, true, true, true, false, false, false, true, true, true, false, false, false] rfl rfl (any_of HT_.out (by kernel_rfl)) (fun _ _ _ h => h) (Or.inl ⟨by rfl, ?_⟩) ?_ ?_
                              rotate_left
                              · intro w'
                                go_simp
                                with_reducible rfl
                              rotate_left
                              · simp only [Act.put, List.setIfInBounds_toArray, List.set_cons_zero, List.set_cons_succ, i64_w, i32_w]
                                rfl
                              refine pure_ (i := 10) (N := some 58) (v := ?_) (a' := ?_) #[true, true, true, true, false, false, false, true, true, true, true, false, false] rfl rfl (any_of HT_.out (by kernel_rfl)) (fun _ _ _ h => h) (Or.inl ⟨by rfl, ?_⟩) ?_ ?_
                              rotate_left
                              · intro w'
                                go_simp
                                with_reducible rfl
                              rotate_left
                              · simp only [Act.put, List.setIfInBounds_toArray, List.set_cons_zero, List.set_cons_succ, i64_w, i32_w]
                                rfl
                              refine one_ (i := 4) (N := some 52) #[true, true, true, true, true, false, false, true, true, true, true, false, false] rfl rfl (one_of HT_.out (by kernel_rfl)) (by decide) (fun K hK => ?_)
                              refine Kd.R_lit_step (Kd.int .u8) _ 5 ?hg (N := 52) ?hd (xs := ([a2] : List Int)) (inner := [.int .u8 a2]) (ok := fun _ => True) (okp := fun _ => True) ?hr ?hp (fun _ hk => hk) trivial (Below.refl _ _) (Nat.le_refl _) (by simp) ?_; (case hd => rfl); (case hg => rfl); (case hr => first | (go_simp; done) | (go_simp; rfl)); (case hp => exact (Reps.one (show Kd.M (Kd.int .u8) _ _ _ a2 [.int .u8 a2] from rfl) (Reps.none _ _)))
                              intro v227 w57 ho58 hb hg_ hnew_
                              clear hg_ hnew_
                              (first | rw [← Ny226.out] at ho58 | (simp only [Int.reduceToNat] at ho58; rw [← Ny226.out] at ho58))
                              have n0_ := Aside0.mk (Kd.V_elder' (by (with_reducible repeat (first | apply Kd.V_alloc | apply Kd.V_drewN | apply Kd.V_drew)); exact HO_0.out) (Kd.R_base ho58) hb)
                              have n1_ := Aside0.mk (Kd.R_lower (Kd.R_newM (M := fun k_ => (w.heap.size ≤ k_)) ho58 (below_size (by repeat (first | (with_reducible first | exact HB.out | apply below_alloc | apply pw_below_drewN | apply below_drew1) | exact HB.out))) (fun k_ h_ => h_)) (below_size (by repeat (first | (with_reducible first | exact HB.out | apply below_alloc | apply pw_below_drewN | apply below_drew1) | exact HB.out))))
                              have n2_ := Aside0.mk (below_step (by repeat (first | (with_reducible first | exact HB.out | apply below_alloc | apply pw_below_drewN | apply below_drew1) | exact HB.out)) hb)
                              clear HO_0
                              clear HB
                              have HO_0 := n0_
                              have HO228 := n1_
                              have HB := n2_
                              clear n0_ n1_ n2_
                              clear hb ho58
                              refine hK.out _ _ trivial (fun hHeld => ?_)
                              clear hK K
                              refine norm_ (a' := ?_) ?_ ?_
                              rotate_left
                              · show Act.put _ (some 52) _ = _
                                simp only [Act.put, List.setIfInBounds_toArray, List.set_cons_zero, List.set_cons_succ, i64_w, i32_w]
                                rfl
                              refine one_ (i := 5) (N := some 53) #[true, true, true, true, true, true, false, true, true, true, true, false, false] rfl rfl (one_of HT_.out (by kernel_rfl)) (by decide) (fun K hK => ?_)
                              have hcv59 := own_string (P := Tryd.prog) Tryd.underlying48 Tryd.underlying5 Tryd.underlying9 (Kd.own_of_R HO228.out)
                              refine value_ (w1 := ?_) (v := ?_) (by rfl) rfl ?_ ?_
                              rotate_left 2
                              · go_simp
                                constructor
                                · rfl
                                · rfl
                              clear hcv59
                              refine hK.out _ _ trivial (fun hHeld => ?_)
                              clear hK K
                              refine norm_ (a' := ?_) ?_ ?_
                              rotate_left
                              · show Act.put _ (some 53) _ = _
                                simp only [Act.put, List.setIfInBounds_toArray, List.set_cons_zero, List.set_cons_succ, i64_w, i32_w]
                                rfl
                              refine pure_ (i := 6) (N := some 54) (v := ?_) (a' := ?_) #[true, true, true, true, true, true, true, true, true, true, true, false, false] rfl rfl (any_of HT_.out (by kernel_rfl)) (fun _ _ _ h => h) (Or.inl ⟨by rfl, ?_⟩) ?_ ?_
                              rotate_left
                              · intro w'
                                go_simp
                                with_reducible rfl
                              rotate_left
                              · simp only [Act.put, List.setIfInBounds_toArray, List.set_cons_zero, List.set_cons_succ, i64_w, i32_w]
                                rfl
                              refine pure_ (i := 11) (N := some 59) (v := ?_) (a' := ?_) #[true, true, true, true, true, true, true, true, true, true, true, true, false] rfl rfl (any_of HT_.out (by kernel_rfl)) (fun _ _ _ h => h) (Or.inl ⟨by rfl, ?_⟩) ?_ ?_
                              rotate_left
                              · intro w'
                                go_simp
                                with_reducible rfl
                              rotate_left
                              · simp only [Act.put, List.setIfInBounds_toArray, List.set_cons_zero, List.set_cons_succ, i64_w, i32_w]
                                rfl
                              refine pure_ (i := 12) (N := some 11) (v := ?_) (a' := ?_) #[true, true, true, true, true, true, true, true, true, true, true, true, true] rfl rfl (any_of HT_.out (by kernel_rfl)) (fun _ _ _ h => h) (Or.inl ⟨by rfl, ?_⟩) ?_ ?_
                              rotate_left
                              · intro w'
                                go_simp
                                with_reducible rfl
                              rotate_left
                              · simp only [Act.put, List.setIfInBounds_toArray, List.set_cons_zero, List.set_cons_succ, i64_w, i32_w]
                                rfl
                              refine done_ (done_of HT_.out (by kernel_rfl)) ?_
                              try go_wp2_with (first | ((with_reducible refine gate_callee (f := 44) rfl ?_); refine goesL_ (some 62) rfl rfl Tryd.func44 (by kernel_rfl) rfl #[.string (((t224.extract 0 (a1 : Int).toNat) ++ (strOfNums y226)) ++ (t224.extract ((ji23) : Int).toNat t224.size))] rfl (by (try simp only [List.map_toArray, List.map_cons, List.map_nil]); first | done | (simp only [hji23]; rfl) | rfl | (simp only [List.length_drop, List.length_take]; rfl)) ?_; (with_reducible refine (line_Scan.calls (((t224.extract 0 (a1 : Int).toNat) ++ (strOfNums y226)) ++ (t224.extract ((ji23) : Int).toNat t224.size)) t229 t230 _ ?side1 A27.out).mono ?_); (case side1 => exact Hand3.Glob.below hG (by repeat (first | (with_reducible first | exact HB.out | apply below_alloc | apply pw_below_drewN | apply below_drew1) | exact HB.out))); rintro e w60 ⟨v231, rfl, ho0, hb⟩; refine ⟨_, rfl, ?_⟩; have n0_ := Aside0.mk (Kd.V_elder' (by (with_reducible repeat (first | apply Kd.V_alloc | apply Kd.V_drewN | apply Kd.V_drew)); exact HO_0.out) (by first | exact Kd.N_base ho0 | exact Kd.S_base ho0) hb); have n1_ := Aside0.mk (Kd.R_below (by (with_reducible repeat (first | apply Kd.R_alloc | apply Kd.R_drewN | apply Kd.R_drew)); exact HO228.out) hb); have n2_ := Aside0.mk (Kd.N_lower (Kd.N_mono (ok' := fun k_ => (P0_ k_ ∨ w.heap.size ≤ k_) ∧ some k_ ≠ (v227 : Value).ownBlock) (Kd.S_N (Kd.S_bound ho0)) (fun k_ hk_ => ⟨(.inr (Nat.le_trans (below_size (by repeat (first | (with_reducible first | exact HB.out | apply below_alloc | apply pw_below_drewN | apply below_drew1) | exact HB.out))) hk_.2.1)), (Kd.fresh' (Kd.R_lt (by (with_reducible repeat (first | apply Kd.R_alloc | apply Kd.R_drewN | apply Kd.R_drew)); exact HO228.out)) k_ hk_.2.1)⟩)) (below_size (by repeat (first | (with_reducible first | exact HB.out | apply below_alloc | apply pw_below_drewN | apply below_drew1) | exact HB.out)))); have n3_ := Aside0.mk (below_step (by repeat (first | (with_reducible first | exact HB.out | apply below_alloc | apply pw_below_drewN | apply below_drew1) | exact HB.out)) hb); clear HO_0; clear HO228; clear HB; have HO_0 := n0_; have HO228 := n1_; have HO232 := n2_; have HB := n3_; clear n0_ n1_ n2_ n3_; (try clear hb); (try clear hb2); (try clear hk); (try clear hi); (try clear ho0); obtain ⟨Ao61, co61, eo61⟩ := Kd.N_slice HO232.out; subst eo61))
                              go_ret
                              exact ⟨by first | rfl | (simp [errW_none, errW_some] <;> rfl) | (simp only [← hji23]; first | rfl | (simp [errW_none, errW_some] <;> rfl)) | (simp [*, errW_none, errW_some] <;> rfl) | (simp [errW_none, errW_some]; cases a0.toList <;> rfl), by repeat (first | (with_reducible first | exact HB.out | apply below_alloc | apply pw_below_drewN | apply below_drew1) | exact HB.out)⟩
                        · rw [if_neg c26] at H
                          exact absurd H (by simp)
                      · rw [if_neg c25] at H
                        exact absurd H (by simp)
                    · rw [if_neg c24] at H
                      exact absurd H (by simp)
                  · rw [if_neg c22] at H
                    exact absurd H (by simp)
                · rw [if_neg c21] at H
                  exact absurd H (by simp)
              · rw [if_neg c20] at H
                exact absurd H (by simp)

end Go.Proofs.YtocpfgdajomjiaaDoor.L
/- Plain facts of lines. -/
namespace Go.Proofs.YtocpfgdajomjiaaDoor.PureL
open Go.RowKit Go.Proofs.YtocpfgdajomjiaaDoor.PureR Go.Proofs.YtocpfgdajomjiaaDoor.Spl
open Go.Proofs.YtocpfgdajomjiaaDoor.Hand hiding text_Lines.f text_Words.f text_Trim.f text_Join.f text_Path.f text_Quote.f text_Lines.calls text_Words.calls text_Trim.calls text_Join.calls text_Path.calls text_Quote.calls Glob
set_option linter.unusedVariables false
set_option linter.unusedSimpArgs false
theorem quoteV_empty {s : ByteArray} (h : s.data.toList = []) : quoteV s = ⟨#[37]⟩ := by
  unfold quoteV
  rw [if_pos]
  rw [← len_data, h]
  rfl
theorem quoteV_full {s : ByteArray} (h : s.data.toList ≠ []) : (quoteV s).data.toList = s.data.toList.flatMap quoteB := quoteV_data (t := s.data.toList) h
theorem quoteV_ne (s : ByteArray) : (quoteV s).data.toList ≠ [] := by
  by_cases h : s.data.toList = []
  · rw [quoteV_empty h]
    simp
  · rw [quoteV_full h]
    cases hd : s.data.toList with
    | nil => exact absurd hd h
    | cons c t =>
      intro e
      rw [List.flatMap_cons, List.append_eq_nil_iff] at e
      have := quoteB_pos c
      rw [e.1] at this
      simp at this
theorem quoteV_sign (s : ByteArray) : ∀ c ∈ (quoteV s).data.toList, plainI c.toNat = true ∨ c = 37 := by
  intro c hc
  by_cases h : s.data.toList = []
  · rw [quoteV_empty h] at hc
    exact .inr (by simpa using hc)
  · rw [quoteV_full h] at hc
    obtain ⟨d, -, hd⟩ := List.mem_flatMap.1 hc
    exact quoteB_sign d c hd
theorem sign_ne {c : UInt8} (h : plainI c.toNat = true ∨ c = 37) : c ≠ 32 ∧ c ≠ 10 := by
  constructor <;> (rintro rfl; rcases h with h | h <;> exact absurd h (by decide))
theorem unq_quote (s : ByteArray) : unqV (quoteV s) = some s := by
  by_cases h : s.data.toList = []
  · rw [quoteV_empty h]
    have : s = (⟨#[]⟩ : ByteArray) := ba_ext h
    rw [this]
    rfl
  · have hf := quoteV_full h
    have hne : (quoteV s).data.toList ≠ [37] := by
      rw [hf]
      cases hd : s.data.toList with
      | nil => exact absurd hd h
      | cons c t =>
        intro e
        rw [List.flatMap_cons, quoteB] at e
        split at e
        next hp =>
          rw [List.singleton_append] at e
          injection e with e1 e2
          exact plain_no37 hp e1
        next => simp at e
    rw [unqV_of hne (congrArg decG hf), decG_quote]
    show (if s.data.toList ≠ [] ∧ quoteV ⟨s.data.toList.toArray⟩ = quoteV s then some (⟨s.data.toList.toArray⟩ : ByteArray) else none) = some s
    have hs : (⟨s.data.toList.toArray⟩ : ByteArray) = s := ba_ext rfl
    rw [hs, if_pos ⟨h, rfl⟩]
theorem unq_inv {x t : ByteArray} (h : unqV x = some t) : quoteV t = x := by
  unfold unqV at h
  split at h
  next hx =>
    injection h with h
    subst h
    exact ba_ext hx.symm
  next hx =>
    cases hd : decG x.data.toList with
    | none => rw [hd] at h; cases h
    | some l =>
      rw [hd] at h
      have h' : (if l ≠ [] ∧ quoteV ⟨l.toArray⟩ = x then some (⟨l.toArray⟩ : ByteArray) else none) = some t := h
      by_cases hc : l ≠ [] ∧ quoteV ⟨l.toArray⟩ = x
      · rw [if_pos hc] at h'
        injection h' with h'
        subst h'
        exact hc.2
      · rw [if_neg hc] at h'
        cases h'
theorem body_sign (l : List ByteArray) : ∀ c ∈ bodyL l, (plainI c.toNat = true ∨ c = 37) ∨ c = 32 := by
  intro c hc
  obtain ⟨x, -, hx⟩ := List.mem_flatMap.1 hc
  rcases List.mem_append.1 hx with h | h
  · exact .inl (quoteV_sign x c h)
  · exact .inr (by simpa using h)
theorem body_no10 (l : List ByteArray) : ∀ c ∈ bodyL l, c ≠ 10 := by
  intro c hc
  rcases body_sign l c hc with h | h
  · exact (sign_ne h).2
  · rw [h]; decide
theorem body_cons (x : ByteArray) (r : List ByteArray) : bodyL (x :: r) = (quoteV x).data.toList ++ 32 :: bodyL r := by simp [bodyL]
theorem body_map (l : List ByteArray) : bodyL l = ((l.map quoteV).map (·.data.toList)).flatMap (· ++ [32]) := by
  induction l with
  | nil => rfl
  | cons x r ih => rw [body_cons, ih]; simp
theorem body_ne {l : List ByteArray} (h : l ≠ []) : bodyL l ≠ [] := by
  cases l with
  | nil => exact absurd rfl h
  | cons x r => rw [body_cons]; simp
theorem body_split : ∀ l : List ByteArray, l ≠ [] → splG 32 [] (bodyL l).dropLast = l.map (fun x => (quoteV x).data.toList) ∧ (bodyL l).dropLast ++ [32] = bodyL l := by
  intro l
  induction l with
  | nil => intro h; exact absurd rfl h
  | cons x r ih =>
    intro _
    have hq : splG 32 [] (quoteV x).data.toList = [(quoteV x).data.toList] := by
      rw [splG_none 32 _ [] (fun c hc => (sign_ne (quoteV_sign x c hc)).1)]
      rfl
    rw [body_cons]
    cases r with
    | nil =>
      have e : (quoteV x).data.toList ++ 32 :: bodyL [] = (quoteV x).data.toList ++ [32] := rfl
      rw [e, List.dropLast_concat]
      exact ⟨hq, rfl⟩
    | cons y r' =>
      obtain ⟨i1, i2⟩ := ih (by simp)
      have hne := body_ne (l := y :: r') (by simp)
      have e : ((quoteV x).data.toList ++ 32 :: bodyL (y :: r')).dropLast = (quoteV x).data.toList ++ 32 :: (bodyL (y :: r')).dropLast := by
        rw [List.dropLast_append_of_ne_nil (by simp), List.dropLast_cons_of_ne_nil hne]
      rw [e, splG_app, hq, i1]
      refine ⟨rfl, ?_⟩
      rw [List.append_assoc, List.cons_append, i2]
theorem hexd_hex : ∀ d : Fin 16, hexL.contains (SumW.hexd d.val) = true := by decide +kernel
theorem hexList_hex : ∀ n : Nat, ∀ c ∈ SumW.hexList n, hexL.contains c = true := by
  intro n
  induction n using Nat.strongRecOn with
  | ind n ih =>
    intro c hc
    by_cases h : n < 16
    · rw [SumW.hexList_lt h, List.mem_singleton] at hc
      rw [hc]
      exact hexd_hex ⟨n, h⟩
    · rw [SumW.hexList_ge (by omega)] at hc
      rcases List.mem_append.1 hc with hc | hc
      · exact ih (n / 16) (by omega) c hc
      · rw [List.mem_singleton] at hc
        rw [hc]
        exact hexd_hex ⟨n % 16, Nat.mod_lt _ (by decide)⟩
theorem hex8_hex (n : Nat) : ∀ c ∈ (SumW.hex8 n).data.toList, hexL.contains c = true := by
  intro c hc
  exact hexList_hex (n + 4294967296) c (List.mem_of_mem_drop hc)
theorem hex_no10 {c : UInt8} (h : hexL.contains c = true) : c ≠ 10 := by
  rintro rfl
  exact absurd h (by decide)
theorem hex8_len {n : Nat} (h : n < 4294967296) : (SumW.hex8 n).data.toList.length = 8 := by rw [len_data]; exact hex8_size n h
theorem line_len (l : List ByteArray) : (lineL l).length = (bodyL l).length + 9 := by
  unfold lineL
  rw [List.length_append, List.length_append, hex8_len (adlOf_lt _)]
  rfl
theorem index_app (c : UInt8) (r : List UInt8) : ∀ l : List UInt8, c ∉ l → Lib.index (l ++ c :: r) [c] = l.length := by
  intro l
  induction l with
  | nil => intro _; rw [List.nil_append, Lib.index]; simp [List.isPrefixOf]
  | cons b t ih =>
    intro h
    rw [List.mem_cons, not_or] at h
    have hp : ([c] : List UInt8).isPrefixOf (b :: (t ++ c :: r)) = false := by simp [List.isPrefixOf, h.1]
    rw [List.cons_append, Lib.index, hp, ih h.2]
    simp
theorem cut_app (c : UInt8) (l r : List UInt8) (h : c ∉ l) : Lib.cut (l ++ c :: r) [c] = (l, r, true) := by
  unfold Lib.cut
  rw [index_app c r l h, if_pos (by omega)]
  simp
theorem bytes_map (l : List ByteArray) : (l.map (·.data.toList)).map (fun x => (⟨x.toArray⟩ : ByteArray)) = l := by
  rw [List.map_map]
  have : ((fun x : List UInt8 => (⟨x.toArray⟩ : ByteArray)) ∘ fun x : ByteArray => x.data.toList) = id := by
    funext x
    rfl
  rw [this, List.map_id]
theorem put_ok {l : List ByteArray} (h : (putV l).2 = 0) : 1 ≤ l.length ∧ l.length ≤ 40 ∧ (lineL l).length ≤ 13000 ∧ putV l = (⟨(lineL l).toArray⟩, 0) := by
  unfold putV at h ⊢
  split at h
  · exact absurd h (by decide)
  · split at h
    · exact absurd h (by decide)
    · split at h
      · exact absurd h (by decide)
      · next h1 h2 h3 => exact ⟨by omega, by omega, by omega, by rw [if_neg h1, if_neg h2, if_neg h3]⟩
theorem put_of {l : List ByteArray} (h1 : 1 ≤ l.length) (h2 : l.length ≤ 40) (h3 : (lineL l).length ≤ 13000) : putV l = (⟨(lineL l).toArray⟩, 0) := by
  unfold putV
  rw [if_neg (by omega), if_neg (by omega), if_neg (by omega)]
/-- What was put is taken. -/
theorem take_line {l : List ByteArray} (h : (putV l).2 = 0) (r : ByteArray) : takeV ((putV l).1 ++ r) = (l, r, 0) := by
  obtain ⟨h1, h2, h3, h4⟩ := put_ok h
  have hne : l ≠ [] := by intro e; subst e; simp at h1
  obtain ⟨s1, s2⟩ := body_split l hne
  have hll := line_len l
  obtain ⟨D, hD⟩ : ∃ D, (bodyL l).dropLast = D := ⟨_, rfl⟩
  rw [hD] at s1 s2
  clear hD
  have hbl : D.length + 1 = (bodyL l).length := by
    have := congrArg List.length s2
    rw [List.length_append] at this
    exact this
  have h8 := hex8_len (adlOf_lt (bodyL l))
  have hno : (10 : UInt8) ∉ bodyL l ++ (SumW.hex8 (adlOf (bodyL l))).data.toList := by
    intro hm
    rcases List.mem_append.1 hm with hm | hm
    · exact body_no10 l _ hm rfl
    · exact hex_no10 (hex8_hex _ _ hm) rfl
  have hd : ((putV l).1 ++ r).data.toList = (bodyL l ++ (SumW.hex8 (adlOf (bodyL l))).data.toList) ++ 10 :: r.data.toList := by
    rw [h4, data_app2]
    show lineL l ++ r.data.toList = _
    unfold lineL
    simp
  unfold takeV
  rw [hd, cut_app 10 _ _ hno, if_neg (show ¬ (true = false) by decide)]
  show takeB ⟨(bodyL l ++ (SumW.hex8 (adlOf (bodyL l))).data.toList).toArray⟩ ⟨r.data.toList.toArray⟩ = _
  have hr : (⟨r.data.toList.toArray⟩ : ByteArray) = r := rfl
  rw [hr]
  obtain ⟨a, ha⟩ : ∃ a : ByteArray, a = ⟨(bodyL l ++ (SumW.hex8 (adlOf (bodyL l))).data.toList).toArray⟩ := ⟨_, rfl⟩
  rw [← ha]
  have had : a.data.toList = bodyL l ++ (SumW.hex8 (adlOf (bodyL l))).data.toList := by rw [ha]
  have has : a.size = (bodyL l).length + 8 := by rw [← len_data, had, List.length_append, h8]
  have hs9 : a.size - 9 = D.length := by omega
  have hs8 : a.size - 8 = (bodyL l).length := by omega
  have ht9 : a.data.toList.take (a.size - 9) = D := by
    rw [hs9, had]
    rw [← s2, List.append_assoc, List.take_left]
  have ht8 : a.data.toList.take (a.size - 8) = bodyL l := by rw [hs8, had, List.take_left]
  have hd8 : a.data.toList.drop (a.size - 8) = (SumW.hex8 (adlOf (bodyL l))).data.toList := by rw [hs8, had, List.drop_left]
  have h32 : a.data.toList[a.size - 9]? = some 32 := by
    rw [hs9, had]
    rw [← s2, List.append_assoc, List.getElem?_append_right (Nat.le_refl _), Nat.sub_self]
    rfl
  have hform : formB a = true := by
    unfold formB
    rw [h32, hd8]
    simp only [Bool.and_eq_true, decide_eq_true_eq, List.all_eq_true]
    exact ⟨⟨⟨by omega, by omega⟩, trivial⟩, hex8_hex _⟩
  have hw : wordsB a = l.map quoteV := by
    have hwd := words_data a
    rw [show (a.extract 0 (a.size - 9)).data.toList = a.data.toList.take (a.size - 9) by rw [← ext_take], ht9, s1] at hwd
    rw [← bytes_map (wordsB a), hwd, List.map_map]
    rfl
  have hsum : SumW.hex8 (adlOf (a.data.toList.take (a.size - 8))) = a.extract (a.size - 8) a.size := by
    rw [ht8, ← ext_drop, hd8]
  unfold takeB
  rw [hform, if_neg (by decide), hw, if_neg (by rw [List.length_map]; omega), if_neg, if_pos hsum]
  · rw [List.map_map]
    have : ((fun x => (unqV x).getD ⟨#[]⟩) ∘ quoteV) = id := by
      funext x
      rw [Function.comp_apply, unq_quote]
      rfl
    rw [this, List.map_id]
  · rw [List.all_map]
    have : ((fun x => (unqV x).isSome) ∘ quoteV) = fun _ => true := by
      funext x
      rw [Function.comp_apply, unq_quote]
      rfl
    rw [this]
    simp
theorem splG_join (c : UInt8) : ∀ l cur : List UInt8, (splG c cur l).flatMap (· ++ [c]) = cur.reverse ++ l ++ [c] := by
  intro l
  induction l with
  | nil => intro cur; simp [splG]
  | cons b t ih =>
    intro cur
    rw [splG]
    split
    next h =>
      subst h
      rw [List.flatMap_cons, ih]
      simp
    next h =>
      rw [ih]
      simp
theorem takeB_err {a r : ByteArray} (h : (takeB a r).2.2 ≠ 0) : (takeB a r).1 = [] ∧ (takeB a r).2.1 = ⟨#[]⟩ := by
  unfold takeB at h ⊢
  split
  · exact ⟨rfl, rfl⟩
  · split
    · exact ⟨rfl, rfl⟩
    · split
      · exact ⟨rfl, rfl⟩
      · split
        · next h1 h2 h3 h4 =>
          rw [if_neg h1, if_neg h2, if_neg h3, if_pos h4] at h
          exact absurd rfl h
        · exact ⟨rfl, rfl⟩
theorem take_err {s : ByteArray} (h : (takeV s).2.2 ≠ 0) : (takeV s).1 = [] ∧ (takeV s).2.1 = ⟨#[]⟩ := by
  unfold takeV at h ⊢
  split
  · exact ⟨rfl, rfl⟩
  · next h1 =>
    rw [if_neg h1] at h
    exact takeB_err h
/-- What is taken is a line that was put. -/
theorem take_inv {s : ByteArray} (h : (takeV s).2.2 = 0) : (putV (takeV s).1).2 = 0 ∧ (putV (takeV s).1).1 ++ (takeV s).2.1 = s := by
  have hspec := (cut_one 10 s.data.toList).2
  unfold takeV at h ⊢
  split at h
  · exact absurd h (by decide)
  · next hf =>
    rw [if_neg hf]
    have hs : s.data.toList = (Lib.cut s.data.toList [10]).1 ++ 10 :: (Lib.cut s.data.toList [10]).2.1 := by
      rcases hspec with ⟨-, h⟩ | ⟨h, -⟩
      · exact h
      · exact absurd h hf
    obtain ⟨a, ha⟩ : ∃ a : ByteArray, a = ⟨(Lib.cut s.data.toList [10]).1.toArray⟩ := ⟨_, rfl⟩
    obtain ⟨r, hr⟩ : ∃ r : ByteArray, r = ⟨(Lib.cut s.data.toList [10]).2.1.toArray⟩ := ⟨_, rfl⟩
    have had : (Lib.cut s.data.toList [10]).1 = a.data.toList := by rw [ha]
    have hrd : (Lib.cut s.data.toList [10]).2.1 = r.data.toList := by rw [hr]
    rw [← ha, ← hr] at h ⊢
    rw [had, hrd] at hs
    clear ha hr had hrd hspec hf
    unfold takeB at h ⊢
    split at h
    · exact absurd h (by decide)
    · split at h
      · exact absurd h (by decide)
      · split at h
        · exact absurd h (by decide)
        · split at h
          · next h1 h2 h3 h4 =>
            rw [if_neg h1, if_neg h2, if_neg h3, if_pos h4]
            show (putV ((wordsB a).map fun x => (unqV x).getD ⟨#[]⟩)).2 = 0 ∧ (putV ((wordsB a).map fun x => (unqV x).getD ⟨#[]⟩)).1 ++ r = s
            have hform : formB a = true := by simpa using h1
            simp only [formB, Bool.and_eq_true, decide_eq_true_eq] at hform
            obtain ⟨⟨⟨f1, f2⟩, f3⟩, f4⟩ := hform
            have hsome : ∀ x ∈ wordsB a, (unqV x).isSome = true := by
              have : (wordsB a).all (fun x => (unqV x).isSome) = true := by rw [Bool.not_eq_false] at h3; exact h3
              exact List.all_eq_true.1 this
            have hq : ((wordsB a).map fun x => (unqV x).getD ⟨#[]⟩).map quoteV = wordsB a := by
              rw [List.map_map]
              conv => rhs; rw [← List.map_id (wordsB a)]
              refine List.map_congr_left fun x hx => ?_
              obtain ⟨t, ht⟩ := Option.isSome_iff_exists.1 (hsome x hx)
              rw [Function.comp_apply, ht]
              exact unq_inv ht
            have hlen : a.data.toList.length = a.size := len_data a
            have hbody : bodyL ((wordsB a).map fun x => (unqV x).getD ⟨#[]⟩) = a.data.toList.take (a.size - 8) := by
              have e1 : bodyL ((wordsB a).map fun x => (unqV x).getD ⟨#[]⟩) = ((((wordsB a).map fun x => (unqV x).getD ⟨#[]⟩).map quoteV).map (·.data.toList)).flatMap (· ++ [32]) := body_map _
              rw [e1, hq, words_data, splG_join, show (a.extract 0 (a.size - 9)).data.toList = a.data.toList.take (a.size - 9) by rw [← ext_take]]
              have h9 : a.size - 9 < a.data.toList.length := by omega
              rw [List.getElem?_eq_getElem h9] at f3
              rw [show a.size - 8 = (a.size - 9) + 1 by omega, List.take_succ_eq_append_getElem h9, Option.some.inj f3]
              rfl
            have hline : lineL ((wordsB a).map fun x => (unqV x).getD ⟨#[]⟩) = a.data.toList ++ [10] := by
              unfold lineL
              rw [hbody, h4, ← ext_drop]
              show a.data.toList.take (a.size - 8) ++ a.data.toList.drop (a.size - 8) ++ [10] = _
              rw [List.take_append_drop]
            have hwl : 1 ≤ (wordsB a).length := by
              have := congrArg List.length (words_data a)
              rw [List.length_map, splG_len] at this
              omega
            have hput := put_of (l := (wordsB a).map fun x => (unqV x).getD ⟨#[]⟩) (by rw [List.length_map]; exact hwl) (by rw [List.length_map]; omega) (by rw [hline, List.length_append]; simp; omega)
            rw [hput]
            refine ⟨rfl, ba_ext ?_⟩
            rw [data_app2, hs]
            show lineL ((wordsB a).map fun x => (unqV x).getD ⟨#[]⟩) ++ r.data.toList = _
            rw [hline]
            simp
          · exact absurd h (by decide)
end Go.Proofs.YtocpfgdajomjiaaDoor.PureL
/- Plain facts of lines one behind the other. -/
namespace Go.Proofs.YtocpfgdajomjiaaDoor.PureL
open Go.RowKit Go.Proofs.YtocpfgdajomjiaaDoor.PureR Go.Proofs.YtocpfgdajomjiaaDoor.Spl
open Go.Proofs.YtocpfgdajomjiaaDoor.Hand hiding text_Lines.f text_Words.f text_Trim.f text_Join.f text_Path.f text_Quote.f text_Lines.calls text_Words.calls text_Trim.calls text_Join.calls text_Path.calls text_Quote.calls Glob
set_option linter.unusedVariables false
set_option linter.unusedSimpArgs false
/-- Lines put one behind the other, and what is behind. -/
def cat : List (List ByteArray) → ByteArray → ByteArray
  | [], r => r
  | l :: t, r => (putV l).1 ++ cat t r
theorem ba_assoc (a b c : ByteArray) : (a ++ b) ++ c = a ++ (b ++ c) := by
  apply ba_ext
  simp [ByteArray.data_append, Array.toList_append]
theorem cat_app (xs ys : List (List ByteArray)) (r : ByteArray) : cat (xs ++ ys) r = cat xs (cat ys r) := by
  induction xs with
  | nil => rfl
  | cons l t ih => show (putV l).1 ++ cat (t ++ ys) r = _; rw [ih]; rfl
theorem cat_behind (xs : List (List ByteArray)) (r q : ByteArray) : cat xs r ++ q = cat xs (r ++ q) := by
  induction xs with
  | nil => rfl
  | cons l t ih => show ((putV l).1 ++ cat t r) ++ q = (putV l).1 ++ cat t (r ++ q); rw [ba_assoc, ih]
theorem scan_step {l : List ByteArray} (h : (putV l).2 = 0) (r : ByteArray) (tot f : Nat) : scanG tot (f + 1) ((putV l).1 ++ r) = (l, (tot : Int) - (r.size : Int)) :: scanG tot f r := by
  rw [scanG, take_line h r, if_pos rfl]
theorem scan_stop {u : ByteArray} (h : (takeV u).2.2 ≠ 0) (tot : Nat) : ∀ f, scanG tot f u = [] := by
  intro f
  cases f with
  | zero => rfl
  | succ f => rw [scanG, if_neg h]
theorem cat_size (xs : List (List ByteArray)) (r : ByteArray) : (cat xs r).size = (cat xs ⟨#[]⟩).size + r.size := by
  have := cat_behind xs ⟨#[]⟩ r
  have e : (⟨#[]⟩ : ByteArray) ++ r = r := ba_ext (by simp [ByteArray.data_append, Array.toList_append])
  rw [e] at this
  rw [← this, ByteArray.size_append]
theorem scan_cat (tot : Nat) (r : ByteArray) (hr : (takeV r).2.2 ≠ 0) : ∀ (xs : List (List ByteArray)) (f : Nat), (∀ l ∈ xs, (putV l).2 = 0) → xs.length ≤ f →
    (scanG tot f (cat xs r)).map (·.1) = xs ∧ (xs ≠ [] → lastE (scanG tot f (cat xs r)) = (tot : Int) - (r.size : Int)) := by
  intro xs
  induction xs with
  | nil =>
    intro f _ _
    rw [cat, scan_stop hr]
    exact ⟨rfl, fun h => absurd rfl h⟩
  | cons l t ih =>
    intro f hx hf
    obtain ⟨f, rfl⟩ : ∃ g, f = g + 1 := ⟨f - 1, by simp at hf; omega⟩
    have hl := hx l (by simp)
    obtain ⟨i1, i2⟩ := ih f (fun y hy => hx y (by simp [hy])) (by simpa using hf)
    rw [cat, scan_step hl]
    refine ⟨by rw [List.map_cons, i1], fun _ => ?_⟩
    cases t with
    | nil =>
      rw [cat, scan_stop hr]
      rfl
    | cons m t' =>
      have i3 := i2 (by simp)
      rw [← i3]
      unfold lastE
      cases hs : scanG tot f (cat (m :: t') r) with
      | nil => rw [hs] at i1; simp at i1
      | cons a b => rw [List.getLast?_cons_cons]
theorem scanV_cat (xs : List (List ByteArray)) (r : ByteArray) (hx : ∀ l ∈ xs, (putV l).2 = 0) (hr : (takeV r).2.2 ≠ 0) : scanV (cat xs r) = (xs, ((cat xs ⟨#[]⟩).size : Int)) := by
  have hsz := cat_size xs r
  have hlen : xs.length ≤ (cat xs r).size + 1 := by
    have : ∀ ys : List (List ByteArray), (∀ l ∈ ys, (putV l).2 = 0) → ys.length ≤ (cat ys ⟨#[]⟩).size := by
      intro ys
      induction ys with
      | nil => intro _; exact Nat.zero_le _
      | cons l t ih =>
        intro h
        have h1 := ih fun y hy => h y (by simp [hy])
        obtain ⟨-, -, -, h4⟩ := put_ok (h l (by simp))
        have h5 : 1 ≤ (putV l).1.size := by
          rw [h4]
          show 1 ≤ (lineL l).toArray.size
          rw [List.size_toArray, line_len]
          omega
        show t.length + 1 ≤ ((putV l).1 ++ cat t ⟨#[]⟩).size
        rw [ByteArray.size_append]
        omega
    have := this xs hx
    omega
  obtain ⟨h1, h2⟩ := scan_cat (cat xs r).size r hr xs ((cat xs r).size + 1) hx hlen
  unfold scanV scanP
  rw [h1]
  congr 1
  cases xs with
  | nil =>
    rw [cat, scan_stop hr]
    rfl
  | cons l t =>
    rw [h2 (by simp), hsz]
    omega
theorem take_no10 {u : ByteArray} (h : ∀ c ∈ u.data.toList, c ≠ 10) : (takeV u).2.2 ≠ 0 := by
  rcases cut_one 10 u.data.toList with ⟨h1, ⟨h2, h3⟩ | ⟨h2, h3⟩⟩
  · exfalso
    rw [h3] at h
    exact h 10 (by simp) rfl
  · unfold takeV
    rw [h2, if_pos rfl]
    decide
theorem putV_size {l : List ByteArray} (h : (putV l).2 = 0) : (putV l).1.size = (lineL l).length := by
  rw [(put_ok h).2.2.2]
  exact List.size_toArray
theorem putV_data {l : List ByteArray} (h : (putV l).2 = 0) : (putV l).1.data.toList = lineL l := by
  rw [(put_ok h).2.2.2]
/-- A part of a line that is put has no line feed, but at its end. -/
theorem line_no10 (l : List ByteArray) : lineL l = (bodyL l ++ (SumW.hex8 (adlOf (bodyL l))).data.toList) ++ [10] ∧ ∀ c ∈ bodyL l ++ (SumW.hex8 (adlOf (bodyL l))).data.toList, c ≠ 10 := by
  refine ⟨rfl, fun c hc => ?_⟩
  rcases List.mem_append.1 hc with h | h
  · exact body_no10 l c h
  · exact hex_no10 (hex8_hex _ c h)
end Go.Proofs.YtocpfgdajomjiaaDoor.PureL
/- The head of chapter 4's laws, plain. -/
namespace Go.Proofs.YtocpfgdajomjiaaDoor.PureL
open Go.RowKit Go.Proofs.YtocpfgdajomjiaaDoor.PureR Go.Proofs.YtocpfgdajomjiaaDoor.L Go.Proofs.YtocpfgdajomjiaaDoor.Hand3 Go.Proofs.YtocpfgdajomjiaaDoor.Spl Go.Proofs.YtocpfgdajomjiaaDoorW.PrintWords
open Go.Proofs.YtocpfgdajomjiaaDoor.Hand hiding text_Lines.f text_Words.f text_Trim.f text_Join.f text_Path.f text_Quote.f text_Lines.calls text_Words.calls text_Trim.calls text_Join.calls text_Path.calls text_Quote.calls Glob
set_option linter.unusedVariables false
set_option linter.unusedSimpArgs false
theorem put_okf (l : List ByteArray) (h : ∀ x ∈ l, x.size ≤ 100000) : line_Put.f l = some (putV l) := by
  unfold line_Put.f
  rw [if_pos]
  rw [List.all_eq_true]
  exact fun x hx => decide_eq_true (h x hx)
theorem take_okf (s : ByteArray) (h : s.size ≤ 100000) : line_Take.f s = some (takeV s) := by
  unfold line_Take.f
  rw [if_pos h]
theorem scan_okf (s : ByteArray) (h : s.size ≤ 100000) : line_Scan.f s = some (scanV s) := by
  unfold line_Scan.f
  rw [if_pos h]
theorem same4_loop (a : List ByteArray) (ha : a.length ≤ 100000) : ∀ (n i : Nat), i + n = a.length → Ev fun k => cooperagelaw4_same.l0 k a a (i : Int) = some true := by
  intro n
  induction n with
  | zero =>
    intro i hi
    refine Ev.up (Ev.of fun k => ?_)
    simp only [cooperagelaw4_same.l0]
    rw [if_neg (by omega)]
  | succ n ih =>
    intro i hi
    refine Ev.up ((ih (i + 1) (by omega)).mp fun k hk => ?_)
    simp only [cooperagelaw4_same.l0]
    rw [if_pos (by omega), if_pos (by omega), if_pos (by omega), if_pos trivial, w64s i (by omega)]
    exact hk
theorem same4_f (a : List ByteArray) (ha : a.length ≤ 100000) : Ev fun k => cooperagelaw4_same.f k a a = some true := by
  refine (same4_loop a ha a.length 0 (by omega)).mp fun k hk => ?_
  unfold cooperagelaw4_same.f
  rw [if_pos rfl]
  exact hk
theorem sameAll_loop (a : List (List ByteArray)) (ha : a.length ≤ 100000) (hx : ∀ l ∈ a, l.length ≤ 100000) : ∀ (n i : Nat), i + n = a.length → Ev fun k => cooperagelaw4_sameAll.l0 k a a (i : Int) = some true := by
  intro n
  induction n with
  | zero =>
    intro i hi
    refine Ev.up (Ev.of fun k => ?_)
    simp only [cooperagelaw4_sameAll.l0]
    rw [if_neg (by omega)]
  | succ n ih =>
    intro i hi
    have hlt : i < a.length := by omega
    have hr : (rd_L1 a (i : Int)).length ≤ 100000 := by
      have e : rd_L1 a (i : Int) = a[i] := by simp [rd_L1, List.getD_eq_getElem?_getD, List.getElem?_eq_getElem hlt]
      rw [e]
      exact hx _ (List.getElem_mem hlt)
    refine Ev.up (((same4_f _ hr).and (ih (i + 1) (by omega))).mp fun k hk => ?_)
    simp only [cooperagelaw4_sameAll.l0]
    rw [if_pos (by omega), if_pos (by omega), if_pos (by omega), hk.1, Option.bind_some, if_pos rfl, w64s i (by omega)]
    exact hk.2
theorem sameAll_f (a : List (List ByteArray)) (ha : a.length ≤ 100000) (hx : ∀ l ∈ a, l.length ≤ 100000) : Ev fun k => cooperagelaw4_sameAll.f k a a = some true := by
  refine (sameAll_loop a ha hx a.length 0 (by omega)).mp fun k hk => ?_
  unfold cooperagelaw4_sameAll.f
  rw [if_pos rfl]
  exact hk
theorem putA : (putV [(⟨#[97]⟩ : ByteArray)]).2 = 0 := by
  rw [put_of (by decide) (by decide) (by rw [line_len]; exact (by decide : (2 : Nat) + 9 ≤ 13000))]
theorem putB : (putV [(⟨#[98]⟩ : ByteArray)]).2 = 0 := by
  rw [put_of (by decide) (by decide) (by rw [line_len]; exact (by decide : (2 : Nat) + 9 ≤ 13000))]
theorem bodyAB : bodyL [(⟨#[97, 32, 98]⟩ : ByteArray)] = [97, 37, 50, 48, 98, 32] := by decide +kernel
theorem bodyA : bodyL [(⟨#[97]⟩ : ByteArray)] = [97, 32] := by decide +kernel
theorem bodyB : bodyL [(⟨#[98]⟩ : ByteArray)] = [98, 32] := by decide +kernel
theorem putAB : (putV [(⟨#[97, 32, 98]⟩ : ByteArray)]).2 = 0 := by
  rw [put_of (by decide) (by decide) (by rw [line_len, bodyAB]; decide)]
theorem shown4_f : Ev fun k => cooperagelaw4_shown.f k = some true := by
  have hab := putV_data putAB
  have ha := putV_data putA
  have hb := putV_data putB
  have sab := putV_size putAB
  have sa := putV_size putA
  have sb := putV_size putB
  rw [line_len, bodyAB] at sab
  rw [line_len, bodyA] at sa
  rw [line_len, bodyB] at sb
  have sab' : (putV [(⟨#[97, 32, 98]⟩ : ByteArray)]).1.size = 15 := sab
  have sa' : (putV [(⟨#[97]⟩ : ByteArray)]).1.size = 11 := sa
  have sb' : (putV [(⟨#[98]⟩ : ByteArray)]).1.size = 11 := sb
  have e6 : ((putV [(⟨#[97, 32, 98]⟩ : ByteArray)]).1.extract 0 6).toList = ([97, 37, 50, 48, 98, 32] : List UInt8) := by
    rw [tl, ← ext_take]
    show (putV [(⟨#[97, 32, 98]⟩ : ByteArray)]).1.data.toList.take 6 = _
    rw [hab]
    unfold lineL
    rw [bodyAB, List.append_assoc]
    rfl
  have hcut : (takeV ((putV [(⟨#[98]⟩ : ByteArray)]).1.extract 0 10)).2.2 ≠ 0 := by
    refine take_no10 fun c hc => ?_
    rw [← ext_take] at hc
    have hc' : c ∈ (putV [(⟨#[98]⟩ : ByteArray)]).1.data.toList.take 10 := hc
    obtain ⟨h1, h2⟩ := line_no10 [(⟨#[98]⟩ : ByteArray)]
    have h3 : (bodyL [(⟨#[98]⟩ : ByteArray)] ++ (SumW.hex8 (adlOf (bodyL [(⟨#[98]⟩ : ByteArray)]))).data.toList).length = 10 := by
      rw [List.length_append, hex8_len (adlOf_lt _), bodyB]
      rfl
    rw [hb, h1, ← h3, List.take_left] at hc'
    exact h2 c hc'
  have hscan : scanV ((putV [(⟨#[97]⟩ : ByteArray)]).1 ++ ((putV [(⟨#[98]⟩ : ByteArray)]).1.extract 0 10)) = ([[(⟨#[97]⟩ : ByteArray)]], 11) := by
    have := scanV_cat [[(⟨#[97]⟩ : ByteArray)]] ((putV [(⟨#[98]⟩ : ByteArray)]).1.extract 0 10) (by intro l hl; rw [List.mem_singleton.1 hl]; exact putA) hcut
    rw [show cat [[(⟨#[97]⟩ : ByteArray)]] ((putV [(⟨#[98]⟩ : ByteArray)]).1.extract 0 10) = (putV [(⟨#[97]⟩ : ByteArray)]).1 ++ ((putV [(⟨#[98]⟩ : ByteArray)]).1.extract 0 10) from rfl] at this
    rw [this]
    congr 1
    show (((putV [(⟨#[97]⟩ : ByteArray)]).1 ++ (⟨#[]⟩ : ByteArray)).size : Int) = 11
    rw [ByteArray.size_append, sa']
    rfl
  have hex : ((putV [(⟨#[98]⟩ : ByteArray)]).1.extract 0 10).size ≤ 11 := by rw [ByteArray.size_extract]; omega
  have hj : Ev fun k => cooperagelaw4_shown.j0 k (putV [(⟨#[97]⟩ : ByteArray)]).1 (putV [(⟨#[98]⟩ : ByteArray)]).1 false = some true := by
    refine Ev.up ((sameAll_f [[(⟨#[97]⟩ : ByteArray)]] (by simp) (by intro l hl; rw [List.mem_singleton.1 hl]; simp)).mp fun k hk => ?_)
    simp only [cooperagelaw4_shown.j0]
    rw [if_neg (by decide), if_pos (by decide), if_pos (by omega), if_pos (by omega), scan_okf _ (by rw [ByteArray.size_append]; omega), Option.bind_some, hscan, hk, Option.bind_some, if_pos rfl]
    rfl
  refine hj.mp fun k hk => ?_
  unfold cooperagelaw4_shown.f
  have one : ∀ b : ByteArray, b.size ≤ 10 → ∀ x ∈ [b], x.size ≤ 100000 := by
    intro b hb x hx
    rw [List.mem_singleton.1 hx]
    omega
  rw [put_okf _ (one _ (by decide)), Option.bind_some, put_okf _ (one _ (by decide)), Option.bind_some, put_okf _ (one _ (by decide)), Option.bind_some, if_neg (by omega), if_pos (by decide), if_pos (by omega), if_pos e6, if_pos putAB, if_pos (by omega), if_pos putA, if_pos (by omega), putB]
  exact hk
end Go.Proofs.YtocpfgdajomjiaaDoor.PureL
/- Are lines tiny? Plain. -/
namespace Go.Proofs.YtocpfgdajomjiaaDoor.PureL
open Go.RowKit Go.Proofs.YtocpfgdajomjiaaDoor.PureR Go.Proofs.YtocpfgdajomjiaaDoor.L Go.Proofs.YtocpfgdajomjiaaDoor.Hand3 Go.Proofs.YtocpfgdajomjiaaDoor.Spl Go.Proofs.YtocpfgdajomjiaaDoorW.PrintWords
open Go.Proofs.YtocpfgdajomjiaaDoor.Hand hiding text_Lines.f text_Words.f text_Trim.f text_Join.f text_Path.f text_Quote.f text_Lines.calls text_Words.calls text_Trim.calls text_Join.calls text_Path.calls text_Quote.calls Glob
set_option linter.unusedVariables false
set_option linter.unusedSimpArgs false
theorem rdL {a : List (List ByteArray)} {i : Nat} (h : i < a.length) : rd_L1 a (i : Int) = a[i] := by
  simp [rd_L1, List.getD_eq_getElem?_getD, List.getElem?_eq_getElem h]
def TinyP (l : List ByteArray) : Prop := l.length ≤ 50 ∧ ∀ x ∈ l, x.size ≤ 60
theorem tiny_l1 (ls : List (List ByteArray)) (hls : ls.length ≤ 12) (i : Nat) (hi : i < ls.length) (hl : ls[i].length ≤ 50) (K : ∃ b, (Ev fun k => cooperagelaw4_tiny.l0 k ls ((i + 1 : Nat) : Int) = some b) ∧ (b = true → ∀ l ∈ ls.drop (i + 1), TinyP l)) :
    ∀ (n j : Nat), j + n = ls[i].length → ∃ b, (Ev fun k => cooperagelaw4_tiny.l1 k ls (i : Int) (j : Int) = some b) ∧ (b = true → (∀ x ∈ ls[i].drop j, x.size ≤ 60) ∧ ∀ l ∈ ls.drop (i + 1), TinyP l) := by
  have hr := rdL hi
  intro n
  induction n with
  | zero =>
    intro j hj
    obtain ⟨b, hb, hp⟩ := K
    refine ⟨b, Ev.up (hb.mp fun k hk => ?_), fun h => ⟨fun x hx => ?_, hp h⟩⟩
    · unfold cooperagelaw4_tiny.l1
      rw [if_pos (by omega), if_pos (by omega), hr, if_neg (by omega), w64s i (by omega)]
      exact hk
    · rw [List.drop_eq_nil_of_le (by omega)] at hx
      exact absurd hx (by simp)
  | succ n ih =>
    intro j hj
    have hlt : j < ls[i].length := by omega
    have hr2 := rdo hlt
    by_cases h60 : ls[i][j].size ≤ 60
    · obtain ⟨b, hb, hp⟩ := ih (j + 1) (by omega)
      refine ⟨b, Ev.up (hb.mp fun k hk => ?_), fun h => ⟨fun x hx => ?_, (hp h).2⟩⟩
      · unfold cooperagelaw4_tiny.l1
        rw [if_pos (by omega), if_pos (by omega), hr, if_pos (by omega), if_pos (by omega), hr2, if_neg (by omega), w64s j (by omega)]
        exact hk
      · rw [List.drop_eq_getElem_cons hlt] at hx
        rcases List.mem_cons.1 hx with e | e
        · subst e
          exact h60
        · exact (hp h).1 x e
    · refine ⟨false, Ev.up (Ev.of fun k => ?_), fun h => by cases h⟩
      unfold cooperagelaw4_tiny.l1
      rw [if_pos (by omega), if_pos (by omega), hr, if_pos (by omega), if_pos (by omega), hr2, if_pos (by omega)]
theorem tiny_l0 (ls : List (List ByteArray)) (hls : ls.length ≤ 12) : ∀ (n i : Nat), i + n = ls.length → ∃ b, (Ev fun k => cooperagelaw4_tiny.l0 k ls (i : Int) = some b) ∧ (b = true → ∀ l ∈ ls.drop i, TinyP l) := by
  intro n
  induction n with
  | zero =>
    intro i hi
    refine ⟨true, Ev.up (Ev.of fun k => ?_), fun _ l hl => ?_⟩
    · unfold cooperagelaw4_tiny.l0
      rw [if_neg (by omega)]
    · rw [List.drop_eq_nil_of_le (by omega)] at hl
      exact absurd hl (by simp)
  | succ n ih =>
    intro i hi
    have hlt : i < ls.length := by omega
    have hr := rdL hlt
    by_cases h50 : ls[i].length ≤ 50
    · obtain ⟨b, hb, hp⟩ := tiny_l1 ls hls i hlt h50 (ih (i + 1) (by omega)) ls[i].length 0 (by omega)
      refine ⟨b, Ev.up (hb.mp fun k hk => ?_), fun h l hl => ?_⟩
      · unfold cooperagelaw4_tiny.l0
        rw [if_pos (by omega), if_pos (by omega), hr, if_neg (by omega)]
        exact hk
      · rw [List.drop_eq_getElem_cons hlt] at hl
        rcases List.mem_cons.1 hl with e | e
        · subst e
          exact ⟨h50, (hp h).1⟩
        · exact (hp h).2 l e
    · refine ⟨false, Ev.up (Ev.of fun k => ?_), fun h => by cases h⟩
      unfold cooperagelaw4_tiny.l0
      rw [if_pos (by omega), if_pos (by omega), hr, if_pos (by omega)]
theorem tiny_f (ls : List (List ByteArray)) : ∃ b, (Ev fun k => cooperagelaw4_tiny.f k ls = some b) ∧ (b = true → ls.length ≤ 12 ∧ ∀ l ∈ ls, TinyP l) := by
  by_cases h : ls.length ≤ 12
  · obtain ⟨b, hb, hp⟩ := tiny_l0 ls h ls.length 0 (by omega)
    refine ⟨b, hb.mp fun k hk => ?_, fun hb => ⟨h, hp hb⟩⟩
    unfold cooperagelaw4_tiny.f
    rw [if_neg (by omega)]
    exact hk
  · refine ⟨false, Ev.of fun k => ?_, fun h => by cases h⟩
    unfold cooperagelaw4_tiny.f
    rw [if_pos (by omega)]
end Go.Proofs.YtocpfgdajomjiaaDoor.PureL
/- Plain facts of the sum. -/
namespace Go.Proofs.YtocpfgdajomjiaaDoor.PureL
open Go.RowKit Go.Proofs.YtocpfgdajomjiaaDoor.SumW Go.Proofs.YtocpfgdajomjiaaDoorW.PrintWords
set_option linter.unusedVariables false
set_option linter.unusedSimpArgs false
def addv (n : Nat) (s : ByteArray) : Nat := adlSum (adl (adlStart n) s.data.toList)
theorem adlSum_lt (p : Nat × Nat) (h1 : p.1 < 65521) (h2 : p.2 < 65521) : adlSum p < 4294967296 := by unfold adlSum; omega
theorem addv_lt (n : Nat) (s : ByteArray) : addv n s < 4294967296 := by
  have h := adlStart_lt n
  have h2 := adl_lt s.data.toList _ h.1 h.2
  exact adlSum_lt _ h2.1 h2.2
theorem hex8_data (n : Nat) (hn : n < 4294967296) : (hex8 n).data.toList = [hexd (n / 268435456 % 16), hexd (n / 16777216 % 16), hexd (n / 1048576 % 16), hexd (n / 65536 % 16), hexd (n / 4096 % 16), hexd (n / 256 % 16), hexd (n / 16 % 16), hexd (n % 16)] := by
  unfold hex8
  rw [hexList_ge (by omega), hexList_ge (by omega), hexList_ge (by omega), hexList_ge (by omega), hexList_ge (by omega), hexList_ge (by omega), hexList_ge (by omega), hexList_ge (by omega), hexList_lt (by omega)]
  simp only [List.cons_append, List.nil_append, List.drop_succ_cons, List.drop_zero, Nat.div_div_eq_div_mul]
  have e : ∀ a b : Nat, a = b → hexd a = hexd b := fun a b h => by rw [h]
  congr 1
  · exact e _ _ (by omega)
  congr 1
  · exact e _ _ (by omega)
  congr 1
  · exact e _ _ (by omega)
  congr 1
  · exact e _ _ (by omega)
  congr 1
  · exact e _ _ (by omega)
  congr 1
  · exact e _ _ (by omega)
  congr 1
  · exact e _ _ (by omega)
  congr 1
  exact e _ _ (by omega)

theorem adl_append (p : Nat × Nat) (l m : List UInt8) : adl p (l ++ m) = adl (adl p l) m := List.foldl_append
theorem adlStart_sum (p : Nat × Nat) (h1 : p.1 < 65521) (h2 : p.2 < 65521) : adlStart (adlSum p) = p := by
  unfold adlStart adlSum
  apply Prod.ext
  · show (p.2 * 65536 + p.1) % 65536 % 65521 = p.1
    omega
  · show (p.2 * 65536 + p.1) / 65536 % 65521 = p.2
    omega
theorem adl_fst : ∀ (l : List UInt8) (p : Nat × Nat), p.1 < 65521 → (adl p l).1 = (p.1 + (l.map UInt8.toNat).sum) % 65521 := by
  intro l
  induction l with
  | nil => intro p h; simp [adl, Nat.mod_eq_of_lt h]
  | cons c l ih =>
    intro p h
    show (adl (adlStep p c) l).1 = _
    rw [ih _ (Nat.mod_lt _ (by decide))]
    simp only [adlStep, List.map_cons, List.sum_cons]
    omega
theorem adlSum_inj (p q : Nat × Nat) (h1 : p.1 < 65521) (h3 : q.1 < 65521) (h : adlSum p = adlSum q) : p = q := by
  unfold adlSum at h
  apply Prod.ext <;> omega
theorem hexd_inj : ∀ a, a < 16 → ∀ b, b < 16 → hexd a = hexd b → a = b := by decide +kernel
theorem hex8_inj (a b : Nat) (ha : a < 4294967296) (hb : b < 4294967296) (h : hex8 a = hex8 b) : a = b := by
  have e : (hex8 a).data.toList = (hex8 b).data.toList := by rw [h]
  rw [hex8_data a ha, hex8_data b hb] at e
  simp only [List.cons.injEq, and_true] at e
  obtain ⟨e1, e2, e3, e4, e5, e6, e7, e8⟩ := e
  have f1 := hexd_inj _ (Nat.mod_lt _ (by decide)) _ (Nat.mod_lt _ (by decide)) e1
  have f2 := hexd_inj _ (Nat.mod_lt _ (by decide)) _ (Nat.mod_lt _ (by decide)) e2
  have f3 := hexd_inj _ (Nat.mod_lt _ (by decide)) _ (Nat.mod_lt _ (by decide)) e3
  have f4 := hexd_inj _ (Nat.mod_lt _ (by decide)) _ (Nat.mod_lt _ (by decide)) e4
  have f5 := hexd_inj _ (Nat.mod_lt _ (by decide)) _ (Nat.mod_lt _ (by decide)) e5
  have f6 := hexd_inj _ (Nat.mod_lt _ (by decide)) _ (Nat.mod_lt _ (by decide)) e6
  have f7 := hexd_inj _ (Nat.mod_lt _ (by decide)) _ (Nat.mod_lt _ (by decide)) e7
  have f8 := hexd_inj _ (Nat.mod_lt _ (by decide)) _ (Nat.mod_lt _ (by decide)) e8
  omega
theorem addv_changed (n : Nat) (u v : List UInt8) (c e : UInt8) (h : addv n ⟨(u ++ c :: v).toArray⟩ = addv n ⟨(u ++ e :: v).toArray⟩) : c = e := by
  have hst := adlStart_lt n
  have h1 := adl_lt (u ++ c :: v) _ hst.1 hst.2
  have h2 := adl_lt (u ++ e :: v) _ hst.1 hst.2
  have h3 : adl (adlStart n) (u ++ c :: v) = adl (adlStart n) (u ++ e :: v) := adlSum_inj _ _ h1.1 h2.1 h
  have h4 := congrArg Prod.fst h3
  rw [adl_fst _ _ hst.1, adl_fst _ _ hst.1] at h4
  simp only [List.map_append, List.sum_append, List.map_cons, List.sum_cons] at h4
  have hc : c.toNat < 256 := UInt8.toNat_lt _
  have he : e.toNat < 256 := UInt8.toNat_lt _
  exact UInt8.toNat_inj.1 (by omega)
end Go.Proofs.YtocpfgdajomjiaaDoor.PureL
/- The reference's sum, plain. -/
namespace Go.Proofs.YtocpfgdajomjiaaDoor.PureL
open Go.RowKit Go.Proofs.YtocpfgdajomjiaaDoor.SumW Go.Proofs.YtocpfgdajomjiaaDoor.L Go.Proofs.YtocpfgdajomjiaaDoor.Hand3 Go.Proofs.YtocpfgdajomjiaaDoorW.PrintWords
set_option linter.unusedVariables false
set_option linter.unusedSimpArgs false
open Go.Proofs.YtocpfgdajomjiaaDoor.PureR (w64 len_data)
theorem bt_nat (s : ByteArray) (i : Nat) (h : i < s.size) : bt s (i : Int) = ((s.data.toList[i]'(by simpa using h)).toNat : Int) := by
  have h' : i < s.data.size := h
  unfold bt
  rw [dif_pos (by simpa using h)]
  simp [ByteArray.getElem_eq_getElem_data]
theorem drop_bt (s : ByteArray) (i : Nat) (h : i < s.size) : s.data.toList.drop i = (s.data.toList[i]'(by simpa using h)) :: s.data.toList.drop (i + 1) :=
  List.drop_eq_getElem_cons (by simpa using h)

theorem tmod_nat (a b : Nat) : Int.tmod (a : Int) (b : Int) = ((a % b : Nat) : Int) := rfl
theorem tdiv_nat (a b : Nat) : Int.tdiv (a : Int) (b : Int) = ((a / b : Nat) : Int) := rfl
theorem ref_loop (s : ByteArray) (hs : s.size ≤ 140737488351232) : ∀ (d k i a b : Nat), s.size - i = d → i ≤ s.size → d < k → a < 65521 → b < 65521 →
    cooperageref3_Add.l0 k s (a : Int) (b : Int) (i : Int) = some ((adlSum (adl (a, b) (s.data.toList.drop i)) : Nat) : Int) := by
  intro d
  induction d with
  | zero =>
    intro k i a b hd hi hk ha hb
    obtain ⟨k, rfl⟩ : ∃ m, k = m + 1 := ⟨k - 1, by omega⟩
    simp only [cooperageref3_Add.l0]
    rw [if_neg (by omega), List.drop_eq_nil_of_le (by simp; omega)]
    congr 1
    rw [w64 (x := (b : Int) * 65536) (by omega) (by omega), w64 (by omega) (by omega)]
    simp only [adl, List.foldl_nil, adlSum]
    omega
  | succ d ih =>
    intro k i a b hd hi hk ha hb
    obtain ⟨k, rfl⟩ : ∃ m, k = m + 1 := ⟨k - 1, by omega⟩
    have hlt : i < s.size := by omega
    simp only [cooperageref3_Add.l0]
    rw [if_pos (by omega), if_pos (by omega), bt_nat s i hlt]
    have hc : (s.data.toList[i]'(by simpa using hlt)).toNat < 256 := UInt8.toNat_lt _
    rw [drop_bt s i hlt]
    generalize hx : s.data.toList[i]'(by simpa using hlt) = x at hc ⊢
    rw [w64 (x := (x.toNat : Int)) (by omega) (by omega), w64 (x := (a : Int) + x.toNat) (by omega) (by omega), w64 (x := (i : Int) + 1) (by omega) (by omega)]
    rw [show (a : Int) + (x.toNat : Int) = ((a + x.toNat : Nat) : Int) by omega, show (65521 : Int) = ((65521 : Nat) : Int) from rfl, tmod_nat]
    have h1 : (a + x.toNat) % 65521 < 65521 := Nat.mod_lt _ (by decide)
    rw [w64 (x := (b : Int) + ((a + x.toNat) % 65521 : Nat)) (by omega) (by omega)]
    rw [show (b : Int) + (((a + x.toNat) % 65521 : Nat) : Int) = ((b + (a + x.toNat) % 65521 : Nat) : Int) by omega, tmod_nat, show (i : Int) + 1 = ((i + 1 : Nat) : Int) by omega]
    rw [ih k (i + 1) _ _ (by omega) (by omega) (by omega) h1 (Nat.mod_lt _ (by decide))]
    rfl
theorem refAdd_f (n : Nat) (s : ByteArray) (hn : n < 4294967296) (hs : s.size ≤ 140737488351232) (k : Nat) (hk : s.size < k) : cooperageref3_Add.f k (n : Int) s = some ((addv n s : Nat) : Int) := by
  unfold cooperageref3_Add.f
  rw [w64 (x := (n : Int)) (by omega) (by omega)]
  rw [show (65536 : Int) = ((65536 : Nat) : Int) from rfl, show (65521 : Int) = ((65521 : Nat) : Int) from rfl, tmod_nat, tmod_nat, tdiv_nat, w64 (by omega) (by omega), tmod_nat]
  have h := adlStart_lt n
  have := ref_loop s hs s.size k 0 (adlStart n).1 (adlStart n).2 (by omega) (by omega) hk h.1 h.2
  simpa [adlStart, addv] using this
theorem refOf_f (s : ByteArray) (hs : s.size ≤ 140737488351232) (k : Nat) (hk : s.size < k) : cooperageref3_Of.f k s = some ((addv 1 s : Nat) : Int) := by
  unfold cooperageref3_Of.f
  rw [show (1 : Int) = ((1 : Nat) : Int) from rfl, refAdd_f 1 s (by omega) hs k hk]
  rfl
theorem hexl_at : ∀ (m : Nat), m < 16 → ((⟨#[48, 49, 50, 51, 52, 53, 54, 55, 56, 57, 97, 98, 99, 100, 101, 102]⟩ : ByteArray).extract m (m + 1)) = ⟨#[hexd m]⟩ := by decide +kernel
theorem refHex_step (k v i : Nat) (x : ByteArray) (hv : v < 4294967296) (hi : i < 8) (hx : x.size ≤ 100) : cooperageref3_Hex.l0 (k + 1) (v : Int) x (i : Int) = cooperageref3_Hex.l0 k ((v / 16 : Nat) : Int) (⟨#[hexd (v % 16)]⟩ ++ x) ((i + 1 : Nat) : Int) := by
  have hm : v % 16 < 16 := Nat.mod_lt _ (by decide)
  simp only [cooperageref3_Hex.l0]
  rw [show (16 : Int) = ((16 : Nat) : Int) from rfl, tmod_nat, tdiv_nat, w64 (x := ((v % 16 : Nat) : Int)) (by omega) (by omega), w64 (x := ((v % 16 : Nat) : Int) + 1) (by omega) (by omega), w64 (x := (i : Int) + 1) (by omega) (by omega)]
  rw [if_pos (by omega), if_pos (by omega), if_pos (by omega), if_pos (by omega)]
  rw [show (((v % 16 : Nat) : Int) + 1).toNat = v % 16 + 1 by omega, Int.toNat_natCast, hexl_at _ hm]
  rw [if_pos (by show 1 + x.size ≤ _; omega)]
  rw [show (((v / 16 : Nat) : Int)) % 4294967296 = ((v / 16 : Nat) : Int) by omega, show (i : Int) + 1 = ((i + 1 : Nat) : Int) by omega]
theorem refHex_f (n : Nat) (hn : n < 4294967296) (k : Nat) (hk : 9 ≤ k) : cooperageref3_Hex.f k (n : Int) = some (hex8 n) := by
  obtain ⟨k, rfl⟩ : ∃ m, k = m + 9 := ⟨k - 9, by omega⟩
  unfold cooperageref3_Hex.f
  rw [show (0 : Int) = ((0 : Nat) : Int) from rfl]
  rw [refHex_step _ _ _ _ (by omega) (by omega) (by decide), refHex_step _ _ _ _ (by omega) (by omega) (by simp [ByteArray.size]), refHex_step _ _ _ _ (by omega) (by omega) (by simp [ByteArray.size]), refHex_step _ _ _ _ (by omega) (by omega) (by simp [ByteArray.size]),
    refHex_step _ _ _ _ (by omega) (by omega) (by simp [ByteArray.size]), refHex_step _ _ _ _ (by omega) (by omega) (by simp [ByteArray.size]), refHex_step _ _ _ _ (by omega) (by omega) (by simp [ByteArray.size]), refHex_step _ _ _ _ (by omega) (by omega) (by simp [ByteArray.size])]
  simp only [cooperageref3_Hex.l0]
  rw [if_neg (by decide)]
  congr 1
  apply ByteArray.ext
  apply Array.toList_inj.1
  rw [hex8_data n hn]
  simp [ByteArray.data_append, Nat.div_div_eq_div_mul]

end Go.Proofs.YtocpfgdajomjiaaDoor.PureL
/- LineOnce, plain. -/
namespace Go.Proofs.YtocpfgdajomjiaaDoor.PureL
open Go.RowKit Go.Proofs.YtocpfgdajomjiaaDoor.PureR Go.Proofs.YtocpfgdajomjiaaDoor.L Go.Proofs.YtocpfgdajomjiaaDoor.Hand3 Go.Proofs.YtocpfgdajomjiaaDoor.Spl Go.Proofs.YtocpfgdajomjiaaDoorW.PrintWords
open Go.Proofs.YtocpfgdajomjiaaDoor.Hand hiding text_Lines.f text_Words.f text_Trim.f text_Join.f text_Path.f text_Quote.f text_Lines.calls text_Words.calls text_Trim.calls text_Join.calls text_Path.calls text_Quote.calls Glob
set_option linter.unusedVariables false
set_option linter.unusedSimpArgs false
theorem quote_long (s : ByteArray) : s.size ≤ (quoteV s).size := by
  by_cases h : s.data.toList = []
  · have : s.size = 0 := by rw [← len_data, h]; rfl
    omega
  · rw [← len_data (quoteV s), quoteV_full h, ← len_data s]
    generalize s.data.toList = l
    induction l with
    | nil => exact Nat.le_refl _
    | cons c t ih =>
      rw [List.flatMap_cons, List.length_append, List.length_cons]
      have := quoteB_pos c
      omega
theorem body_mem {l : List ByteArray} {x : ByteArray} (h : x ∈ l) : x.size ≤ (bodyL l).length := by
  induction l with
  | nil => simp at h
  | cons y r ih =>
    rw [body_cons, List.length_append, List.length_cons, len_data]
    rcases List.mem_cons.1 h with e | e
    · subst e
      have := quote_long x
      omega
    · have := ih e
      omega
theorem ok_small {l : List ByteArray} (h : (putV l).2 = 0) : ∀ x ∈ l, x.size ≤ 13000 := by
  intro x hx
  have h1 := body_mem hx
  have h2 := (put_ok h).2.2.1
  rw [line_len] at h2
  omega
theorem LineOnce : ∀ (s : ByteArray), s.size ≤ 140737488351232 → ∃ k, cooperagelaw4_LineOnce.f k s = some true := by
  intro s _
  by_cases hs : s.size ≤ 14000
  · have hj : Ev fun k => cooperagelaw4_LineOnce.j0 k s true false = some true := by
      refine Ev.up (Ev.of fun k => ?_)
      simp only [cooperagelaw4_LineOnce.j0]
      rw [if_neg (by decide), take_okf s (by omega), Option.bind_some]
      by_cases h0 : (takeV s).2.2 = 0
      · obtain ⟨h1, h2⟩ := take_inv h0
        have h3 := congrArg ByteArray.size h2
        rw [ByteArray.size_append] at h3
        rw [if_pos h0, put_okf _ (fun x hx => Nat.le_trans (ok_small h1 x hx) (by decide)), Option.bind_some, if_pos h1, if_pos (by omega), h2, beq_self_eq_true]
      · obtain ⟨h1, h2⟩ := take_err h0
        rw [if_neg h0, h1, if_pos (by simp), h2, tl]
        rfl
    refine ((shown4_f.and hj).mp fun k h => ?_).get
    unfold cooperagelaw4_LineOnce.f
    rw [h.1, Option.bind_some, if_pos rfl, show decide ((s.size : Int) > 14000) = false from decide_eq_false (by omega)]
    exact h.2
  · have hj : Ev fun k => cooperagelaw4_LineOnce.j0 k s true true = some true := by
      refine Ev.up (Ev.of fun k => ?_)
      simp only [cooperagelaw4_LineOnce.j0]
      rw [if_pos trivial]
    refine ((shown4_f.and hj).mp fun k h => ?_).get
    unfold cooperagelaw4_LineOnce.f
    rw [h.1, Option.bind_some, if_pos rfl, show decide ((s.size : Int) > 14000) = true from decide_eq_true (by omega)]
    exact h.2
end Go.Proofs.YtocpfgdajomjiaaDoor.PureL
/- LineTurns, plain. -/
namespace Go.Proofs.YtocpfgdajomjiaaDoor.PureL
open Go.RowKit Go.Proofs.YtocpfgdajomjiaaDoor.PureR Go.Proofs.YtocpfgdajomjiaaDoor.L Go.Proofs.YtocpfgdajomjiaaDoor.Hand3 Go.Proofs.YtocpfgdajomjiaaDoor.Spl Go.Proofs.YtocpfgdajomjiaaDoorW.PrintWords
open Go.Proofs.YtocpfgdajomjiaaDoor.Hand hiding text_Lines.f text_Words.f text_Trim.f text_Join.f text_Path.f text_Quote.f text_Lines.calls text_Words.calls text_Trim.calls text_Join.calls text_Path.calls text_Quote.calls Glob
set_option linter.unusedVariables false
set_option linter.unusedSimpArgs false
theorem line_body {l l' : List ByteArray} (h : bodyL l = bodyL l') : lineL l = lineL l' := by unfold lineL; rw [h]
/-- Two lines that differ in one byte are one. -/
theorem turned {l l' : List ByteArray} {u v : List UInt8} {c e : UInt8} (h1 : lineL l = u ++ c :: v) (h2 : lineL l' = u ++ e :: v) : c = e := by
  have n1 := line_len l
  have n2 := line_len l'
  have hl := congrArg List.length h1
  have hl' := congrArg List.length h2
  rw [List.length_append, List.length_cons] at hl hl'
  have hm : (bodyL l').length = (bodyL l).length := by omega
  have hB : (lineL l).take (bodyL l).length = bodyL l := by unfold lineL; rw [List.append_assoc, List.take_left]
  have hB' : (lineL l').take (bodyL l).length = bodyL l' := by rw [← hm]; unfold lineL; rw [List.append_assoc, List.take_left]
  have hD : (lineL l).drop (bodyL l).length = (SumW.hex8 (adlOf (bodyL l))).data.toList ++ [10] := by unfold lineL; rw [List.append_assoc, List.drop_left]
  have hD' : (lineL l').drop (bodyL l).length = (SumW.hex8 (adlOf (bodyL l'))).data.toList ++ [10] := by rw [← hm]; unfold lineL; rw [List.append_assoc, List.drop_left]
  rw [h1] at hB hD
  rw [h2] at hB' hD'
  by_cases hu : (bodyL l).length ≤ u.length
  · rw [List.take_append_of_le_length hu] at hB hB'
    have := line_body (hB.symm.trans hB')
    rw [h1, h2] at this
    exact (List.cons.inj (List.append_cancel_left this)).1
  · obtain ⟨j, hj⟩ : ∃ j, (bodyL l).length = u.length + (j + 1) := ⟨(bodyL l).length - u.length - 1, by omega⟩
    have e1 : ∀ x : UInt8, (u ++ x :: v).take (u.length + (j + 1)) = u ++ x :: v.take j := by
      intro x
      rw [List.take_length_add_append, List.take_succ_cons]
    have e2 : ∀ x : UInt8, (u ++ x :: v).drop (u.length + (j + 1)) = v.drop j := by
      intro x
      rw [List.drop_length_add_append, List.drop_succ_cons]
    rw [hj, e1] at hB hB'
    rw [hj, e2] at hD hD'
    have hh := List.append_cancel_right (hD.symm.trans hD')
    have hs := hex8_inj _ _ (adlOf_lt _) (adlOf_lt _) (ba_ext hh)
    rw [← hB, ← hB'] at hs
    exact addv_changed 1 u (v.take j) c e hs
/-- The line feed is found where it is. -/
theorem feed_last {p r z : List UInt8} (h : p ++ 10 :: r = z ++ [10]) (hz : ∀ c ∈ z, c ≠ 10) : r = [] ∧ p = z := by
  have hl := congrArg List.length h
  simp only [List.length_append, List.length_cons, List.length_nil] at hl
  by_cases hp : p.length < z.length
  · exfalso
    have h1 : (p ++ 10 :: r)[p.length]? = some 10 := by rw [List.getElem?_append_right (Nat.le_refl _), Nat.sub_self]; rfl
    rw [h, List.getElem?_append_left hp] at h1
    exact hz 10 (List.mem_of_getElem? h1) rfl
  · have hr : r = [] := List.eq_nil_of_length_eq_zero (by omega)
    subst hr
    exact ⟨rfl, List.append_cancel_right h⟩
theorem turn_take {l : List ByteArray} {u v : List UInt8} {c e : UInt8} (h : lineL l = u ++ c :: (v ++ [10])) (he : e ≠ 10) (hne : c ≠ e) {t : ByteArray} (ht : t.data.toList = u ++ e :: (v ++ [10])) : (takeV t).2.2 ≠ 0 := by
  intro h0
  obtain ⟨i1, i2⟩ := take_inv h0
  obtain ⟨p1, p2⟩ := line_no10 l
  obtain ⟨q1, q2⟩ := line_no10 (takeV t).1
  have hd := congrArg (fun x : ByteArray => x.data.toList) i2
  simp only [data_app2] at hd
  rw [putV_data i1, ht] at hd
  have hz : ∀ x ∈ u ++ c :: v, x ≠ 10 := by
    have : u ++ c :: v = bodyL l ++ (SumW.hex8 (adlOf (bodyL l))).data.toList := by
      apply List.append_cancel_right (bs := [10])
      rw [← p1, h]
      simp
    rw [this]
    exact p2
  have hz2 : ∀ x ∈ u ++ e :: v, x ≠ 10 := by
    intro x hx
    rcases List.mem_append.1 hx with hx | hx
    · exact hz x (List.mem_append_left _ hx)
    · rcases List.mem_cons.1 hx with hx | hx
      · rw [hx]; exact he
      · exact hz x (List.mem_append_right _ (List.mem_cons_of_mem _ hx))
  rw [q1] at hd
  have hd2 : (bodyL (takeV t).1 ++ (SumW.hex8 (adlOf (bodyL (takeV t).1))).data.toList) ++ 10 :: (takeV t).2.1.data.toList = (u ++ e :: v) ++ [10] := by
    rw [List.append_assoc _ [10], List.singleton_append] at hd
    rw [hd]
    simp
  obtain ⟨r1, r2⟩ := feed_last hd2 hz2
  have hl' : lineL (takeV t).1 = u ++ e :: (v ++ [10]) := by
    rw [q1, r2]
    simp
  exact hne (turned h hl')
theorem scan_none {t : ByteArray} (h : (takeV t).2.2 ≠ 0) : scanV t = ([], 0) := by
  unfold scanV scanP
  rw [scan_stop h]
  rfl
theorem emptyR' (q : ByteArray) : q ++ (⟨#[]⟩ : ByteArray) = q := ba_ext (by simp [ByteArray.data_append, Array.toList_append])
theorem scan_same {l : List ByteArray} (h : (putV l).2 = 0) : scanV (putV l).1 = ([l], ((putV l).1.size : Int)) := by
  have h1 := scanV_cat [l] ⟨#[]⟩ (fun x hx => by rw [List.mem_singleton.1 hx]; exact h) (take_no10 (fun c hc => by simp at hc))
  have e : cat [l] ⟨#[]⟩ = (putV l).1 := emptyR' _
  rw [e] at h1
  exact h1
theorem turns_eval (l : List ByteArray) (X A B Cb T : ByteArray) (n : Nat) (c : Int) (hN : strOfNums [c] = Cb) (hA : X.extract 0 n = A) (hB : X.extract (n + 1) X.size = B) (hT : (A ++ Cb) ++ B = T)
    (g0 : (n : Int) ≤ (X.size : Int)) (g1 : A.size + Cb.size ≤ 9223372036854775807) (g2 : ((n + 1 : Nat) : Int) ≤ (X.size : Int)) (g3 : (A ++ Cb).size + B.size ≤ 9223372036854775807) (hw : wrap64 ((n : Int) + 1) = ((n + 1 : Nat) : Int)) (hTs : T.size ≤ 100000) (k : Nat) :
    cooperagelaw4_LineTurns.j1 (k + 1) l (n : Int) c true X false = (if T.toList = X.toList then ((cooperagelaw4_sameAll.f k (scanV T).1 [l]).bind fun t236 => (if t236 = true then some ((scanV T).2 == (X.size : Int)) else some false)) else (if ((scanV T).1.length : Int) = 0 then some ((scanV T).2 == 0) else some false)) := by
  have t1 : ((n : Int)).toNat = n := Int.toNat_natCast n
  have t2 : (((n + 1 : Nat) : Int)).toNat = n + 1 := Int.toNat_natCast _
  have z0 : (0 : Int) ≤ (n : Int) := Int.natCast_nonneg n
  have z1 : (0 : Int) ≤ ((n + 1 : Nat) : Int) := Int.natCast_nonneg _
  simp only [cooperagelaw4_LineTurns.j1]
  rw [if_neg (by decide), if_pos z0, if_pos g0, Option.bind_some, hN, hw, t1, t2, hA, hB, if_pos g1, if_pos z1, if_pos g2, if_pos g3, hT, scan_okf _ hTs, Option.bind_some]
theorem turns_data (l : List ByteArray) (X Cb : ByteArray) (cb : UInt8) (n : Nat) (hd : X.data.toList = lineL l) (hn : n + 1 < (lineL l).length) (hCd : Cb.data.toList = [cb]) :
    ∃ (u v : List UInt8) (c : UInt8), lineL l = u ++ c :: (v ++ [10]) ∧ ((X.extract 0 n ++ Cb) ++ X.extract (n + 1) X.size).data.toList = u ++ cb :: (v ++ [10]) ∧ (X.extract 0 n).size ≤ (lineL l).length ∧ (X.extract (n + 1) X.size).size ≤ (lineL l).length := by
  obtain ⟨q1, q2⟩ := line_no10 l
  clear q2
  generalize bodyL l ++ (SumW.hex8 (adlOf (bodyL l))).data.toList = P at q1
  rw [q1] at hd hn ⊢
  rw [List.length_append] at hn
  have hnP : n < P.length := by simpa using hn
  have a1 : (X.extract 0 n).data.toList = P.take n := by
    rw [← ext_take]
    show X.data.toList.take n = _
    rw [hd, List.take_append_of_le_length (Nat.le_of_lt hnP)]
  have a3 : (X.extract (n + 1) X.size).data.toList = P.drop (n + 1) ++ [10] := by
    rw [← ext_drop]
    show X.data.toList.drop (n + 1) = _
    rw [hd, List.drop_append_of_le_length hnP]
  refine ⟨P.take n, P.drop (n + 1), P[n], ?_, ?_, ?_, ?_⟩
  · have h1 := List.take_append_drop n P
    have h2 : P.drop n = P[n] :: P.drop (n + 1) := List.drop_eq_getElem_cons hnP
    rw [h2] at h1
    have h3 := congrArg (· ++ [(10 : UInt8)]) h1
    simp only [List.append_assoc, List.cons_append] at h3
    exact h3.symm
  · rw [data_app2, data_app2, a1, a3, hCd]
    simp
  · rw [← len_data, a1, List.length_take, List.length_append]
    exact Nat.le_trans (Nat.min_le_right _ _) (Nat.le_add_right _ _)
  · rw [← len_data, a3, List.length_append, List.length_append, List.length_drop]
    exact Nat.add_le_add_right (Nat.sub_le _ _) _
theorem turns_j1 (l : List ByteArray) (h0 : (putV l).2 = 0) (n : Nat) (hn : n + 1 < (lineL l).length) (cb : UInt8) (hcb : cb ≠ 10) :
    Ev fun k => cooperagelaw4_LineTurns.j1 k l (n : Int) (cb.toNat : Int) true (putV l).1 false = some true := by
  obtain ⟨-, p2, p3, -⟩ := put_ok h0
  have hs := putV_size h0
  have hd := putV_data h0
  have hsame := scan_same h0
  obtain ⟨Cb, hCb⟩ : ∃ x : ByteArray, (⟨#[cb]⟩ : ByteArray) = x := ⟨_, rfl⟩
  have hCd : Cb.data.toList = [cb] := by rw [← hCb]
  have s2 : Cb.size = 1 := by rw [← len_data, hCd]; rfl
  have hN : strOfNums [(cb.toNat : Int)] = Cb := (strOf_nums [cb]).trans hCb
  clear hCb
  generalize (putV l).1 = X at hs hd hsame ⊢
  obtain ⟨u, v, c, hL, hT, hA, hB⟩ := turns_data l X Cb cb n hd hn hCd
  generalize hAe : X.extract 0 n = A at hT hA
  generalize hBe : X.extract (n + 1) X.size = B at hT hB
  have hAC : (A ++ Cb).size = A.size + Cb.size := ByteArray.size_append ..
  have hT2 : ((A ++ Cb) ++ B).size = (A ++ Cb).size + B.size := ByteArray.size_append ..
  generalize hTe : (A ++ Cb) ++ B = T at hT hT2
  generalize hLl : (lineL l).length = L at hn hs hA hB p3
  have hTs : T.size ≤ 100000 := by omega
  have g0 : (n : Int) ≤ (X.size : Int) := by omega
  have g1 : A.size + Cb.size ≤ 9223372036854775807 := by omega
  have g2 : ((n + 1 : Nat) : Int) ≤ (X.size : Int) := by omega
  have g3 : (A ++ Cb).size + B.size ≤ 9223372036854775807 := by omega
  have hw : wrap64 ((n : Int) + 1) = ((n + 1 : Nat) : Int) := w64s n (by omega)
  have hev := turns_eval l X A B Cb T n (cb.toNat : Int) hN hAe hBe hTe g0 g1 g2 g3 hw hTs
  by_cases heq : c = cb
  · have hTX : T = X := ba_ext (by rw [hT, hd, hL, heq])
    refine Ev.up ((sameAll_f [l] (by simp) (fun x hxl => by rw [List.mem_singleton.1 hxl]; exact Nat.le_trans p2 (by decide))).mp fun k hk => ?_)
    rw [hev k, hTX, if_pos rfl, hsame, hk, Option.bind_some, if_pos rfl, beq_self_eq_true]
  · have herr := turn_take hL hcb heq hT
    have hne : ¬ T.toList = X.toList := by
      intro h
      have h2 := congrArg (fun x : ByteArray => x.data.toList) (tl_inj h)
      rw [hT, hd, hL] at h2
      exact heq (List.cons.inj (List.append_cancel_left h2)).1.symm
    refine Ev.up (Ev.of fun k => ?_)
    rw [hev k, if_neg hne, scan_none herr]
    rfl
theorem wf8 {a : Int} (h : (Lit.int .u8 a).wf = true) : ∃ n : Nat, a = (n : Int) ∧ n < 256 := by
  have : 0 ≤ a ∧ a ≤ 255 := by simpa [Lit.wf, IntKind.min, IntKind.max, IntKind.signed, IntKind.bits] using h
  exact ⟨a.toNat, by omega, by omega⟩
theorem turns_skip (l : List ByteArray) (n c : Int) (X : ByteArray) : Ev fun k => cooperagelaw4_LineTurns.j1 k l n c true X true = some true := by
  refine Ev.up (Ev.of fun k => ?_)
  simp only [cooperagelaw4_LineTurns.j1]
  rw [if_pos trivial]
theorem turns_j0 (l : List ByteArray) (hx : ∀ x ∈ l, x.size ≤ 100000) (n : Int) (cb : UInt8) (hcb : cb ≠ 10) : Ev fun k => cooperagelaw4_LineTurns.j0 k l n (cb.toNat : Int) true false = some true := by
  have hp := put_okf l hx
  by_cases h0 : (putV l).2 = 0
  · have hs := putV_size h0
    have h9 := line_len l
    have h13 := (put_ok h0).2.2.1
    generalize hX : (putV l).1.size = S at hs
    by_cases hn : n < 0
    · refine Ev.up ((turns_skip l n (cb.toNat : Int) (putV l).1).mp fun k hk => ?_)
      simp only [cooperagelaw4_LineTurns.j0]
      rw [if_neg (by decide), hp, Option.bind_some, if_pos h0, if_pos hn]
      exact hk
    · have hw : wrap64 ((S : Int) - 1) = (S : Int) - 1 := w64 (by omega) (by omega)
      by_cases hm : n ≥ (S : Int) - 1
      · refine Ev.up ((turns_skip l n (cb.toNat : Int) (putV l).1).mp fun k hk => ?_)
        simp only [cooperagelaw4_LineTurns.j0]
        rw [if_neg (by decide), hp, Option.bind_some, if_pos h0, if_neg hn, hX, hw, decide_eq_true hm]
        exact hk
      · obtain ⟨m, hmm⟩ : ∃ m : Nat, n = (m : Int) := ⟨n.toNat, by omega⟩
        subst hmm
        refine Ev.up ((turns_j1 l h0 m (by omega) cb hcb).mp fun k hk => ?_)
        simp only [cooperagelaw4_LineTurns.j0]
        rw [if_neg (by decide), hp, Option.bind_some, if_pos h0, if_neg hn, hX, hw, decide_eq_false hm]
        exact hk
  · refine Ev.up ((turns_skip l n (cb.toNat : Int) (putV l).1).mp fun k hk => ?_)
    simp only [cooperagelaw4_LineTurns.j0]
    rw [if_neg (by decide), hp, Option.bind_some, if_neg h0]
    exact hk
theorem turns_done (l : List ByteArray) (n c : Int) : Ev fun k => cooperagelaw4_LineTurns.j0 k l n c true true = some true := by
  refine Ev.up (Ev.of fun k => ?_)
  simp only [cooperagelaw4_LineTurns.j0]
  rw [if_pos trivial]
theorem LineTurns : ∀ (l : List ByteArray) (n : Int), (Lit.int .i64 n).wf = true → ∀ (c : Int), (Lit.int .u8 c).wf = true → ∃ k, cooperagelaw4_LineTurns.f k l n c = some true := by
  intro l n _ c hc
  obtain ⟨cn, rfl, hcn⟩ := wf8 hc
  obtain ⟨b, hb, hsm⟩ := tiny_f [l]
  have hd := turns_done l n (cn : Int)
  cases b with
  | true =>
    have ht := (hsm rfl).2 l List.mem_cons_self
    by_cases h10 : cn = 10
    · subst h10
      refine ((shown4_f.and (hb.and hd)).mp fun k h => ?_).get
      unfold cooperagelaw4_LineTurns.f
      rw [h.1, Option.bind_some, h.2.1, Option.bind_some, if_pos rfl, if_pos rfl]
      exact h.2.2
    · have e : ((UInt8.ofNat cn).toNat : Int) = (cn : Int) := by rw [show (UInt8.ofNat cn).toNat = cn from by simp [Nat.mod_eq_of_lt hcn]]
      have hcb : UInt8.ofNat cn ≠ 10 := by
        intro h
        have h2 := congrArg UInt8.toNat h
        rw [show (UInt8.ofNat cn).toNat = cn from by simp [Nat.mod_eq_of_lt hcn]] at h2
        exact h10 h2
      have hj := turns_j0 l (fun x hx => Nat.le_trans (ht.2 x hx) (by decide)) n (UInt8.ofNat cn) hcb
      rw [e] at hj
      have e10 : ((cn : Int) == 10) = false := beq_eq_false_iff_ne.2 (by omega)
      refine ((shown4_f.and (hb.and hj)).mp fun k h => ?_).get
      unfold cooperagelaw4_LineTurns.f
      rw [h.1, Option.bind_some, h.2.1, Option.bind_some, if_pos rfl, if_pos rfl, e10]
      exact h.2.2
  | false =>
    refine ((shown4_f.and (hb.and hd)).mp fun k h => ?_).get
    unfold cooperagelaw4_LineTurns.f
    rw [h.1, Option.bind_some, h.2.1, Option.bind_some, if_pos rfl, if_neg (by decide)]
    exact h.2.2
end Go.Proofs.YtocpfgdajomjiaaDoor.PureL
/- A parameter that is a slice, opened to a list: what an element reads as is told by the caller. -/
namespace Go.Proofs.YtocpfgdajomjiaaDoor.Open
open Go.ChangeShapes Go.WideShapes Go.RowKit Go.Proofs.YtocpfgdajomjiaaDoorW.PrintWords
set_option linter.unusedVariables false
theorem open_list {H : Type} {enc : TypeId × Value → H} {P : Program} {w : World} {base : Nat} {spare : Nat → Bool} {held : Bool} {α : Type} (K : Kd α) (ok : α → Prop) {t e : TypeId} {fuel : Nat} {cs : List Value} {x : DataW H × List MemPlace}
    (ht : P.underlying t = some (.slice e)) (hsz : P.cellsOf e = K.sz) (hel : ∀ n cs' y, DataW.trod enc P w base spare held n e cs' = some y → ∃ a : α, K.K w a cs' ∧ ok a)
    (h : DataW.trod enc P w base spare held fuel t cs = some x) :
    ∃ (A : Option Addr) (l : List α) (c : Nat), cs = [.slice A l.length c] ∧ Kd.C K w A l.length l ∧ l.length ≤ c ∧ ∀ a ∈ l, ok a := by
  rcases Go.Deep.open_slice ht h with ⟨h0, _⟩ | ⟨a, len, cap, m, n, D, Pl, hcs, hb, hl, hm, hmm, hx, hi⟩
  · exact ⟨none, [], 0, h0, ⟨rfl, by simp, fun h => by simp at h⟩, Nat.zero_le _, fun a ha => by simp at ha⟩
  · have hlm : len ≤ m := by rw [hmm]; split <;> omega
    have hex : ∀ i : Fin len, ∃ y : α, ∃ cs', K.K w y cs' ∧ ok y ∧ w.cells? base (a.add (i.1 * P.cellsOf e)) (P.cellsOf e) = some cs' := by
      intro i
      obtain ⟨cs', h1, h2⟩ := hi i.1 (by omega)
      obtain ⟨y, h3, h4⟩ := hel n cs' _ h2
      exact ⟨y, cs', h3, h4, h1⟩
    refine ⟨some a, List.ofFn fun i => Classical.choose (hex i), cap, by rw [hcs, List.length_ofFn], ?_, by rw [List.length_ofFn]; exact hl, ?_⟩
    · refine ⟨rfl, by rw [List.length_ofFn]; unfold maxLen at hm; omega, fun _ => ⟨a, rfl, fun j p hj => ?_⟩⟩
      obtain ⟨hjl, hp⟩ := List.getElem?_eq_some_iff.1 hj
      rw [List.getElem_ofFn] at hp
      rw [List.length_ofFn] at hjl
      obtain ⟨cs', h1, h2, h3⟩ := Classical.choose_spec (hex ⟨j, hjl⟩)
      rw [hp] at h1
      refine ⟨cs', K.K_len h1, h1, fun i u hu => ?_⟩
      obtain ⟨_, hcl, hat⟩ := World.cells?_some h3
      have hil : i < P.cellsOf e := by rw [hsz, ← K.K_len h1]; exact (List.getElem?_eq_some_iff.1 hu).1
      have := hat i hil
      rw [Go.Deep.add_add, hu] at this
      rw [← hsz]
      exact this
    · intro y hy
      obtain ⟨i, hi⟩ := List.mem_ofFn.1 hy
      rw [← hi]
      obtain ⟨cs', h1, h2, h3⟩ := Classical.choose_spec (hex i)
      exact h2
theorem el_int {H : Type} {enc : TypeId × Value → H} {P : Program} {w : World} {base : Nat} {spare : Nat → Bool} {held : Bool} {k : IntKind} {e : TypeId} (he : P.underlying e = some (.int k)) :
    ∀ n cs' (y : DataW H × List MemPlace), DataW.trod enc P w base spare held n e cs' = some y → ∃ a : Int, (Kd.int k).K w a cs' ∧ (Lit.int k a).wf = true := by
  intro n cs' y h
  obtain ⟨a, rfl, _, hw⟩ := DataW.trod_int he h
  exact ⟨a, rfl, hw⟩
theorem el_string {H : Type} {enc : TypeId × Value → H} {P : Program} {w : World} {base : Nat} {spare : Nat → Bool} {held : Bool} {e : TypeId} (he : P.underlying e = some .string) :
    ∀ n cs' (y : DataW H × List MemPlace), DataW.trod enc P w base spare held n e cs' = some y → ∃ a : ByteArray, Kd.string.K w a cs' ∧ True := by
  intro n cs' y h
  obtain ⟨a, rfl, _⟩ := DataW.trod_string he h
  exact ⟨a, rfl, trivial⟩
theorem el_strs {H : Type} {enc : TypeId × Value → H} {P : Program} {w : World} {base : Nat} {spare : Nat → Bool} {held : Bool} {t e : TypeId} (ht : P.underlying t = some (.slice e)) (he : P.underlying e = some .string) (hz : P.cellsOf e = 1) :
    ∀ n cs' (y : DataW H × List MemPlace), DataW.trod enc P w base spare held n t cs' = some y → ∃ l : List ByteArray, (Kd.slice e Kd.string).K w l cs' ∧ True := by
  intro n cs' y h
  obtain ⟨A, l, c, h1, h2, h3, _⟩ := open_list Kd.string (fun _ => True) ht hz (el_string he) h
  exact ⟨l, ⟨A, c, h1, h3, h2⟩, trivial⟩
theorem reads_moved {α : Type} {R R' : α → List Value → Prop} {size : Nat} {w w1 : World} {A : Option Addr} {n : Nat} {ps : List α} (h : ReadsRow R size w A n ps) (hb : ∀ k, k < w.heap.size → w1.heap[k]? = w.heap[k]?) (hR : ∀ p c, R p c → R' p c) : ReadsRow R' size w1 A n ps :=
  ⟨h.1, h.2.1, fun hn => by
    obtain ⟨ad, e, hc⟩ := h.2.2 hn
    refine ⟨ad, e, fun j p hj => ?_⟩
    obtain ⟨c, hs, hr, hcell⟩ := hc j p hj
    refine ⟨c, hs, hR _ _ hr, fun i u hu => ?_⟩
    have h1 := hcell i u hu
    have h2 := hb _ (World.block_lt_of_cell? w _ h1)
    simpa [World.cell?, h2] using h1⟩
theorem V_strs {w : World} {A : Option Addr} {c e t base : Nat} {l : List (List ByteArray)} (h : Kd.C (Kd.slice e Kd.string) w A l.length l) (hl : l.length ≤ c) : Kd.V (Kd.slice e Kd.string) t w base (fun _ => True) (.slice A l.length c) l :=
  Kd.V_mk hl (fun W' hW => reads_moved h (fun k hk => hW k trivial hk) (by
    rintro p cs ⟨A', c', e', hl', hr'⟩
    exact ⟨A', c', e', hl', reads_moved hr' (fun k hk => hW k trivial hk) (fun _ _ h => h)⟩))
theorem V_strs0 {w : World} {A : Option Addr} {c t base : Nat} {l : List ByteArray} (h : Kd.C Kd.string w A l.length l) (hl : l.length ≤ c) : Kd.V Kd.string t w base (fun _ => True) (.slice A l.length c) l :=
  Kd.V_mk hl (fun W' hW => reads_moved h (fun k hk => hW k trivial hk) (fun _ _ h => h))
end Go.Proofs.YtocpfgdajomjiaaDoor.Open
