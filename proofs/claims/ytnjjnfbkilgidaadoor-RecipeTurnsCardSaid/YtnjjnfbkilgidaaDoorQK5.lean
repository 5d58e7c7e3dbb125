import Derived.Test.YtnjjnfbkilgidaaDoorQC
import Derived.Test.YtnjjnfbkilgidaaDoorQD
-- Written by a program of this session (hprint.py over the kit's print).
namespace Go.Proofs.YtnjjnfbkilgidaaDoor.K
open Go.Proofs.YtnjjnfbkilgidaaDoor.Fr
open Go.Proofs.YtnjjnfbkilgidaaDoor
open Go.Proofs.YtnjjnfbkilgidaaDoor.F (S31 at_T31 errW errW_none errW_some k31 k31_mk k31_mkM k31_open k31_openM rd_T31 z31)
open Go.RowKit Go.Proofs.YtnjjnfbkilgidaaDoorW.PrintWords Go.Proofs.YtnjjnfbkilgidaaDoorW.PrintLast Go.Proofs.YtnjjnfbkilgidaaDoorW.PrintMore
attribute [local go_sem] max2_int min2_int max_two min_two max_three min_three max_four min_four   -- for this text's walks alone
set_option linter.unusedVariables false
set_option linter.unusedSimpArgs false

/-! ### cooperagelaw15_RecipeTurns: function 4 -/
mutual
def cooperagelaw15_RecipeTurns.j0 : Nat → ByteArray → Bool → Bool → Option (Bool)
  | 0, _, _, _ => none
  | k + 1, x0, x3, x25 => if x25 = true then (some x3) else ((some (([(⟨(⟨#[97]⟩ : ByteArray), x0⟩ : S31)] : List (S31)) : List (S31))).bind fun y143 => (if x0.toList = ([] : List UInt8) then (cooperagelaw15_RecipeTurns.j1 k x0 y143 x0 false) else (if 0 ≤ (wrap64 ((x0.size : Int) - 1)) then (if (wrap64 ((x0.size : Int) - 1)) < (x0.size : Int) then (cooperagelaw15_RecipeTurns.j1 k x0 y143 x0 ((bt x0 (wrap64 ((x0.size : Int) - 1))) != 10)) else (none)) else (none))))
def cooperagelaw15_RecipeTurns.j1 : Nat → ByteArray → List (S31) → ByteArray → Bool → Option (Bool)
  | 0, _, _, _, _ => none
  | k + 1, x0, x4, x5, x40 => if x40 = true then (if x0.size + 1 ≤ 9223372036854775807 then (cooperagelaw15_RecipeTurns.j2 k x0 x4 (x0 ++ (⟨#[10]⟩ : ByteArray))) else (none)) else (cooperagelaw15_RecipeTurns.j2 k x0 x4 x5)
def cooperagelaw15_RecipeTurns.j2 : Nat → ByteArray → List (S31) → ByteArray → Option (Bool)
  | 0, _, _, _ => none
  | k + 1, x0, x4, x5 => (recipe_Run.f (([(⟨#[114, 101, 118, 101, 114, 115, 101, 32, 97, 32, 98]⟩ : ByteArray), (⟨#[114, 101, 118, 101, 114, 115, 101, 32, 98, 32, 116]⟩ : ByteArray)] : List ByteArray)) x4 (⟨#[116]⟩ : ByteArray) 999).bind fun bt149 => ((recipe_Run.f (([(⟨#[115, 111, 114, 116, 32, 97, 32, 98]⟩ : ByteArray), (⟨#[115, 111, 114, 116, 32, 98, 32, 99]⟩ : ByteArray), (⟨#[115, 97, 109, 101, 32, 98, 32, 99]⟩ : ByteArray), (⟨#[109, 118, 32, 98, 32, 116]⟩ : ByteArray)] : List ByteArray)) x4 (⟨#[116]⟩ : ByteArray) 999).bind fun bt155 => ((recipe_Run.f (([(⟨#[117, 112, 112, 101, 114, 32, 97, 32, 98]⟩ : ByteArray), (⟨#[108, 111, 119, 101, 114, 32, 98, 32, 99]⟩ : ByteArray), (⟨#[108, 111, 119, 101, 114, 32, 97, 32, 100]⟩ : ByteArray), (⟨#[115, 97, 109, 101, 32, 99, 32, 100]⟩ : ByteArray), (⟨#[117, 112, 112, 101, 114, 32, 100, 32, 101]⟩ : ByteArray), (⟨#[115, 97, 109, 101, 32, 98, 32, 101]⟩ : ByteArray), (⟨#[99, 111, 110, 99, 97, 116, 32, 116, 32, 98, 32, 100]⟩ : ByteArray)] : List ByteArray)) x4 (⟨#[116]⟩ : ByteArray) 999).bind fun bt161 => (cooperagelaw15_RecipeTurns.l0 k x0 x5 bt149.1 bt149.2.2 bt155.1 bt155.2.2 bt161.1 bt161.2.2 (⟨#[]⟩ : ByteArray) (⟨#[]⟩ : ByteArray) 0)))
def cooperagelaw15_RecipeTurns.l0 : Nat → ByteArray → ByteArray → ByteArray → Int → ByteArray → Int → ByteArray → Int → ByteArray → ByteArray → Int → Option (Bool)
  | 0, _, _, _, _, _, _, _, _, _, _, _ => none
  | k + 1, x0, x5, x6, x8, x9, x11, x12, x14, x15, x16, x17 => if x17 < (x9.size : Int) then (if 0 ≤ x17 then (if (bt x9 x17) = 10 then (if (Op.bytesLess x16.toList x15.toList) = true then (some false) else (cooperagelaw15_RecipeTurns.l0 k x0 x5 x6 x8 x9 x11 x12 x14 x16 (⟨#[]⟩ : ByteArray) (wrap64 (x17 + 1)))) else (if x17 ≤ (wrap64 (x17 + 1)) then (if (wrap64 (x17 + 1)) ≤ (x9.size : Int) then (if x16.size + (x9.extract (x17 : Int).toNat ((wrap64 (x17 + 1)) : Int).toNat).size ≤ 9223372036854775807 then (cooperagelaw15_RecipeTurns.l0 k x0 x5 x6 x8 x9 x11 x12 x14 x15 (x16 ++ (x9.extract (x17 : Int).toNat ((wrap64 (x17 + 1)) : Int).toNat)) (wrap64 (x17 + 1))) else (none)) else (none)) else (none))) else (none)) else (if x8 = 0 then (if x6.toList = x5.toList then (if x11 = 0 then (if (x9.size : Int) = (x5.size : Int) then (if x16.toList = ([] : List UInt8) then (if x14 = 0 then (some ((x12.size : Int) == (wrap64 (2 * (x0.size : Int))))) else (some false)) else (some false)) else (some false)) else (some false)) else (some false)) else (some false))
end
def cooperagelaw15_RecipeTurns.f (k : Nat) (a0 : ByteArray) : Option (Bool) := (cooperagelaw15_shown.f).bind fun t142 => (if t142 = true then (cooperagelaw15_RecipeTurns.j0 k a0 t142 (decide ((a0.size : Int) > 1500))) else (cooperagelaw15_RecipeTurns.j0 k a0 t142 true))
theorem cooperagelaw15_RecipeTurns.mono_l : ∀ k, (∀ y0 y1 y2, LeO (cooperagelaw15_RecipeTurns.j0 k y0 y1 y2) (cooperagelaw15_RecipeTurns.j0 (k + 1) y0 y1 y2)) ∧ (∀ y0 y1 y2 y3, LeO (cooperagelaw15_RecipeTurns.j1 k y0 y1 y2 y3) (cooperagelaw15_RecipeTurns.j1 (k + 1) y0 y1 y2 y3)) ∧ (∀ y0 y1 y2, LeO (cooperagelaw15_RecipeTurns.j2 k y0 y1 y2) (cooperagelaw15_RecipeTurns.j2 (k + 1) y0 y1 y2)) ∧ (∀ y0 y1 y2 y3 y4 y5 y6 y7 y8 y9 y10, LeO (cooperagelaw15_RecipeTurns.l0 k y0 y1 y2 y3 y4 y5 y6 y7 y8 y9 y10) (cooperagelaw15_RecipeTurns.l0 (k + 1) y0 y1 y2 y3 y4 y5 y6 y7 y8 y9 y10))
  | 0 => ⟨fun _ _ _ r h => by simp [cooperagelaw15_RecipeTurns.j0] at h, fun _ _ _ _ r h => by simp [cooperagelaw15_RecipeTurns.j1] at h, fun _ _ _ r h => by simp [cooperagelaw15_RecipeTurns.j2] at h, fun _ _ _ _ _ _ _ _ _ _ _ r h => by simp [cooperagelaw15_RecipeTurns.l0] at h⟩
  | k + 1 => by
    obtain ⟨ih0, ih1, ih2, ih3⟩ := cooperagelaw15_RecipeTurns.mono_l k
    refine ⟨?_, ?_, ?_, ?_⟩
    · intro y0 y1 y2
      unfold cooperagelaw15_RecipeTurns.j0
      repeat' first
      | (with_reducible exact ih0 _ _ _)
      | (with_reducible exact ih1 _ _ _ _)
      | (with_reducible exact ih2 _ _ _)
      | (with_reducible exact ih3 _ _ _ _ _ _ _ _ _ _ _)
      | (with_reducible exact LeO.refl _)
      | (with_reducible exact LeO.none _)
      | (with_reducible refine LeO.ite ?_ ?_)
      | (with_reducible refine LeO.bind ?_ (fun _ => ?_))
      | exact ih0 _ _ _
      | exact ih1 _ _ _ _
      | exact ih2 _ _ _
      | exact ih3 _ _ _ _ _ _ _ _ _ _ _
      | exact LeO.none _
      | refine LeO.ite ?_ ?_
      | refine LeO.bind ?_ (fun _ => ?_)
    · intro y0 y1 y2 y3
      unfold cooperagelaw15_RecipeTurns.j1
      repeat' first
      | (with_reducible exact ih0 _ _ _)
      | (with_reducible exact ih1 _ _ _ _)
      | (with_reducible exact ih2 _ _ _)
      | (with_reducible exact ih3 _ _ _ _ _ _ _ _ _ _ _)
      | (with_reducible exact LeO.refl _)
      | (with_reducible exact LeO.none _)
      | (with_reducible refine LeO.ite ?_ ?_)
      | (with_reducible refine LeO.bind ?_ (fun _ => ?_))
      | exact ih0 _ _ _
      | exact ih1 _ _ _ _
      | exact ih2 _ _ _
      | exact ih3 _ _ _ _ _ _ _ _ _ _ _
      | exact LeO.none _
      | refine LeO.ite ?_ ?_
      | refine LeO.bind ?_ (fun _ => ?_)
    · intro y0 y1 y2
      unfold cooperagelaw15_RecipeTurns.j2
      repeat' first
      | (with_reducible exact ih0 _ _ _)
      | (with_reducible exact ih1 _ _ _ _)
      | (with_reducible exact ih2 _ _ _)
      | (with_reducible exact ih3 _ _ _ _ _ _ _ _ _ _ _)
      | (with_reducible exact LeO.refl _)
      | (with_reducible exact LeO.none _)
      | (with_reducible refine LeO.ite ?_ ?_)
      | (with_reducible refine LeO.bind ?_ (fun _ => ?_))
      | exact ih0 _ _ _
      | exact ih1 _ _ _ _
      | exact ih2 _ _ _
      | exact ih3 _ _ _ _ _ _ _ _ _ _ _
      | exact LeO.none _
      | refine LeO.ite ?_ ?_
      | refine LeO.bind ?_ (fun _ => ?_)
    · intro y0 y1 y2 y3 y4 y5 y6 y7 y8 y9 y10
      unfold cooperagelaw15_RecipeTurns.l0
      repeat' first
      | (with_reducible exact ih0 _ _ _)
      | (with_reducible exact ih1 _ _ _ _)
      | (with_reducible exact ih2 _ _ _)
      | (with_reducible exact ih3 _ _ _ _ _ _ _ _ _ _ _)
      | (with_reducible exact LeO.refl _)
      | (with_reducible exact LeO.none _)
      | (with_reducible refine LeO.ite ?_ ?_)
      | (with_reducible refine LeO.bind ?_ (fun _ => ?_))
      | exact ih0 _ _ _
      | exact ih1 _ _ _ _
      | exact ih2 _ _ _
      | exact ih3 _ _ _ _ _ _ _ _ _ _ _
      | exact LeO.none _
      | refine LeO.ite ?_ ?_
      | refine LeO.bind ?_ (fun _ => ?_)
theorem cooperagelaw15_RecipeTurns.mono : ∀ a0 k, LeO (cooperagelaw15_RecipeTurns.f k a0) (cooperagelaw15_RecipeTurns.f (k + 1) a0) := by
  intro a0 k
  obtain ⟨ih0, ih1, ih2, ih3⟩ := cooperagelaw15_RecipeTurns.mono_l k
  unfold cooperagelaw15_RecipeTurns.f
  repeat' first
      | (with_reducible exact ih0 _ _ _)
      | (with_reducible exact ih1 _ _ _ _)
      | (with_reducible exact ih2 _ _ _)
      | (with_reducible exact ih3 _ _ _ _ _ _ _ _ _ _ _)
      | (with_reducible exact LeO.refl _)
      | (with_reducible exact LeO.none _)
      | (with_reducible refine LeO.ite ?_ ?_)
      | (with_reducible refine LeO.bind ?_ (fun _ => ?_))
      | exact ih0 _ _ _
      | exact ih1 _ _ _ _
      | exact ih2 _ _ _
      | exact ih3 _ _ _ _ _ _ _ _ _ _ _
      | exact LeO.none _
      | refine LeO.ite ?_ ?_
      | refine LeO.bind ?_ (fun _ => ?_)
set_option maxHeartbeats 8000000 in
set_option maxRecDepth 100000 in
theorem cooperagelaw15_RecipeTurns.calls (k : Nat) (a0 : ByteArray) (r : Bool) (w : World) (hG : Fr.Glob w) (h : cooperagelaw15_RecipeTurns.f k a0 = some r) :
    Calls Tryd.prog 4 #[.string a0] w fun e w' => e = .returned (.bool r) ∧ Below w.heap.size w w' := by
  have hu31 := Tryd.underlying31
  have HB := Aside0.mk (Below.refl w.heap.size w)
  have H : ((cooperagelaw15_shown.f).bind fun t142 => (if t142 = true then (cooperagelaw15_RecipeTurns.j0 k a0 t142 (decide ((a0.size : Int) > 1500))) else (cooperagelaw15_RecipeTurns.j0 k a0 t142 true))) = some r := h
  clear h
  replace H := Option.bind_eq_some_iff.mp H
  obtain ⟨t142, A20, H⟩ := H
  replace H : (if t142 = true then (cooperagelaw15_RecipeTurns.j0 k a0 t142 (decide ((a0.size : Int) > 1500))) else (cooperagelaw15_RecipeTurns.j0 k a0 t142 true)) = some r := H
  have A2 := Aside0.mk A20
  clear A20
  have HC3 := Aside0.mk H
  clear H
  go_enter Tryd.func4, Tryd.ntmps4
  go_upto_region 2 with (first | ((with_reducible refine gate_callee (f := 8) rfl ?_); refine goesL_ (some 18) rfl rfl Tryd.func8 (by kernel_rfl) rfl #[] rfl (by (try simp only [List.map_toArray, List.map_cons, List.map_nil]); first | done | rfl | (simp only [List.length_drop, List.length_take]; rfl)) ?_; (with_reducible refine (cooperagelaw15_shown.calls  t142 _ ?side1 A2.out).mono ?_); (case side1 => exact Fr.Glob.below hG (by repeat (first | (with_reducible first | exact HB.out | apply below_alloc | apply pw_below_drewN | apply below_drew1) | exact HB.out))); rintro e w4 ⟨rfl, hb⟩; refine ⟨_, rfl, ?_⟩; have n0_ := Aside0.mk (below_step (by repeat (first | (with_reducible first | exact HB.out | apply below_alloc | apply pw_below_drewN | apply below_drew1) | exact HB.out)) hb); clear HB; have HB := n0_; clear n0_; (try clear hb); (try clear hb2); (try clear hk); (try clear hi)))
  (try simp only [Act.put, List.setIfInBounds_toArray, List.set_cons_zero, List.set_cons_succ])
  go_cut [25] (fun v25 wc => ∃ (kq : Nat) (x25_2 : Bool), v25 = .bool x25_2 ∧ Aside0 (cooperagelaw15_RecipeTurns.j0 kq a0 t142 x25_2 = some r) ∧ Aside0 (kq ≤ k) ∧ Aside0 (Below w.heap.size w wc))
  case first =>
    have H := HC3.out
    clear HC3
    by_cases c5 : t142 = true
    · subst c5
      have H1 : (cooperagelaw15_RecipeTurns.j0 k a0 true (decide ((a0.size : Int) > 1500))) = some r := by rw [if_pos rfl] at H; exact H
      clear H
      have H := H1
      clear H1
      have H' := Aside0.mk H
      clear H
      go_wp2
      go_meet
      case rel => exact ⟨_, (decide ((a0.size : Int) > 1500)), (by first | rfl | (simp; done) | (simp [*]; done)), H', ⟨by first | omega | exact Nat.le_refl _⟩, ⟨by repeat (first | (with_reducible first | exact HB.out | apply below_alloc | apply pw_below_drewN | apply below_drew1) | exact HB.out)⟩⟩
    · replace c5 := Bool.eq_false_iff.mpr c5
      subst c5
      have H1 : (cooperagelaw15_RecipeTurns.j0 k a0 false true) = some r := by rw [if_neg (show ¬ (false = true) by decide)] at H; exact H
      clear H
      have H := H1
      clear H1
      have H' := Aside0.mk H
      clear H
      go_wp2
      go_meet
      case rel => exact ⟨_, (true), (by first | rfl | (simp; done) | (simp [*]; done)), H', ⟨by first | omega | exact Nat.le_refl _⟩, ⟨by repeat (first | (with_reducible first | exact HB.out | apply below_alloc | apply pw_below_drewN | apply below_drew1) | exact HB.out)⟩⟩
  case rest =>
    clear HC3
    try clear p2
    try clear c4
    try clear c5
    obtain ⟨kq, x25_2, rfl, HA, HJ2, HB⟩ := hcut
    cases kq with
    | zero => exact absurd HA.out (by simp [cooperagelaw15_RecipeTurns.j0])
    | succ kj2 =>
      have H := HA.out
      clear HA
      simp only [cooperagelaw15_RecipeTurns.j0] at H
      by_cases c6 : x25_2 = true
      · subst c6
        have H1 : (some t142) = some r := by rw [if_pos rfl] at H; exact H
        clear H
        have H := H1
        clear H1
        obtain rfl := Option.some.inj H
        go_wp2
        go_ret
        exact ⟨by first | rfl | (simp [errW_none, errW_some] <;> rfl) | (simp [*, errW_none, errW_some] <;> rfl), by repeat (first | (with_reducible first | exact HB.out | apply below_alloc | apply pw_below_drewN | apply below_drew1) | exact HB.out)⟩
      · replace c6 := Bool.eq_false_iff.mpr c6
        subst c6
        have H1 : ((some (([(⟨(⟨#[97]⟩ : ByteArray), a0⟩ : S31)] : List (S31)) : List (S31))).bind fun y143 => (if a0.toList = ([] : List UInt8) then (cooperagelaw15_RecipeTurns.j1 kj2 a0 y143 a0 false) else (if 0 ≤ (wrap64 ((a0.size : Int) - 1)) then (if (wrap64 ((a0.size : Int) - 1)) < (a0.size : Int) then (cooperagelaw15_RecipeTurns.j1 kj2 a0 y143 a0 ((bt a0 (wrap64 ((a0.size : Int) - 1))) != 10)) else (none)) else (none)))) = some r := by rw [if_neg (show ¬ (false = true) by decide)] at H; exact H
        clear H
        have H := H1
        clear H1
        obtain ⟨y143, hy143⟩ : ∃ y_ : List (S31), y_ = (([(⟨(⟨#[97]⟩ : ByteArray), a0⟩ : S31)] : List (S31))) := ⟨_, rfl⟩
        replace H : (if a0.toList = ([] : List UInt8) then (cooperagelaw15_RecipeTurns.j1 kj2 a0 y143 a0 false) else (if 0 ≤ (wrap64 ((a0.size : Int) - 1)) then (if (wrap64 ((a0.size : Int) - 1)) < (a0.size : Int) then (cooperagelaw15_RecipeTurns.j1 kj2 a0 y143 a0 ((bt a0 (wrap64 ((a0.size : Int) - 1))) != 10)) else (none)) else (none))) = some r := by first | (rw [hy143]; with_reducible exact H) | (have H2_ := (Option.bind_some _ _).symm.trans H; rw [hy143]; with_reducible exact H2_) | (have H2_ := (Option.bind_some _ _).symm.trans H; with_reducible exact H2_) | with_reducible exact H | (rw [hy143]; exact H) | exact H
        have Ny143 := Aside0.mk hy143
        clear hy143
        have HC7 := Aside0.mk H
        clear H
        go_upto_region 6 with (first | ((with_reducible refine gate_dst (N := 29) rfl ?_); (try (refine gate_guard (by rfl) ?_; dsimp only)); refine Kd.R_lit k31 _ 31 ?hg (N := 29) ?hd (xs := ([(⟨(⟨#[97]⟩ : ByteArray), a0⟩ : S31)] : List (S31))) (inner := [.string (⟨#[97]⟩ : ByteArray), .string a0]) (ok := fun _ => True) (okp := fun _ => True) ?hr ?hp (fun _ hk => hk) trivial (Below.refl _ _) (Nat.le_refl _) (by simp) ?_; (case hd => rfl); (case hg => rfl); (case hr => first | (go_simp; done) | (go_simp; rfl)); (case hp => exact (Reps.c2 (show Kd.M k31 _ _ _ (⟨(⟨#[97]⟩ : ByteArray), a0⟩ : S31) [.string (⟨#[97]⟩ : ByteArray), .string a0] from (k31_mkM _ _ _ (⟨(⟨#[97]⟩ : ByteArray), a0⟩ : S31) )) (Reps.none _ _))); intro v144 w8 ho9 hb hg_ hnew_; clear hg_ hnew_; (first | rw [← Ny143.out] at ho9 | (simp only [Int.reduceToNat] at ho9; rw [← Ny143.out] at ho9)); have n0_ := Aside0.mk (Kd.R_lower ho9 (below_size (by repeat (first | (with_reducible first | exact HB.out | apply below_alloc | apply pw_below_drewN | apply below_drew1) | exact HB.out)))); have n1_ := Aside0.mk (below_step (by repeat (first | (with_reducible first | exact HB.out | apply below_alloc | apply pw_below_drewN | apply below_drew1) | exact HB.out)) hb); clear HB; have HO145 := n0_; have HB := n1_; clear n0_ n1_; clear hb ho9))
        (try simp only [Act.put, List.setIfInBounds_toArray, List.set_cons_zero, List.set_cons_succ])
        go_cut [40] (fun v40 wc => ∃ (kq : Nat) (x40_6 : Bool), v40 = .bool x40_6 ∧ Aside0 (cooperagelaw15_RecipeTurns.j1 kq a0 y143 a0 x40_6 = some r) ∧ Aside0 (kq ≤ kj2) ∧ Aside0 (Kd.R k31 31 wc w.heap.size (fun _ => True) v144 y143) ∧ Aside0 (Below w.heap.size w wc))
        case first =>
          have H := HC7.out
          clear HC7
          by_cases c10 : a0.toList = ([] : List UInt8)
          · rw [if_pos c10] at H
            have c10b0 : (a0.toList == ([] : List UInt8)) = true := beq_iff_eq.mpr c10
            have c10b1 : (a0.toList != ([] : List UInt8)) = false := bne_eq_false_iff_eq.mpr c10
            clear c10
            (first | rw [c10b0] | (simp only [i64_w, i32_w]; rw [c10b0]) | skip)
            have H' := Aside0.mk H
            clear H
            go_wp2
            go_meet
            case rel => exact ⟨_, (false), (by first | rfl | (simp; done) | (simp [*]; done)), H', ⟨by have := HJ2.out; first | omega | exact Nat.le_refl _⟩, ⟨by (with_reducible repeat (first | apply Kd.R_alloc | apply Kd.R_drewN | apply Kd.R_drew)); exact HO145.out⟩, ⟨by repeat (first | (with_reducible first | exact HB.out | apply below_alloc | apply pw_below_drewN | apply below_drew1) | exact HB.out)⟩⟩
          · rw [if_neg c10] at H
            have c10b0 : (a0.toList == ([] : List UInt8)) = false := beq_eq_false_iff_ne.mpr c10
            have c10b1 : (a0.toList != ([] : List UInt8)) = true := bne_iff_ne.mpr c10
            (first | rw [c10b0] | (simp only [i64_w, i32_w]; rw [c10b0]) | skip)
            obtain ⟨ji11, hji11⟩ : ∃ j_ : Int, (wrap64 ((a0.size : Int) - 1)) = j_ := ⟨_, rfl⟩
            replace H : (if 0 ≤ (ji11) then (if (ji11) < (a0.size : Int) then (cooperagelaw15_RecipeTurns.j1 kj2 a0 y143 a0 ((bt a0 (ji11)) != 10)) else (none)) else (none)) = some r := by first | (rw [hji11] at H; exact H) | (simp only [hji11] at H ⊢; exact H)
            have hji11w : (IntKind.i64.wrap ((a0.size : Int) - 1)) = ji11 := (i64_w _).trans hji11
            by_cases c12 : 0 ≤ (ji11)
            · rw [if_pos c12] at H
              have c12b0 : decide (0 ≤ (ji11)) = true := decide_eq_true c12
              clear c12
              by_cases c13 : (ji11) < (a0.size : Int)
              · rw [if_pos c13] at H
                have c13b0 : decide ((ji11) < (a0.size : Int)) = true := decide_eq_true c13
                clear c13
                have H' := Aside0.mk H
                clear H
                have p14 : 0 ≤ ((ji11) : Int) := of_decide_eq_true (by first | (with_reducible assumption) | assumption)
                have q14 : (ji11) < (a0.size : Int) := of_decide_eq_true (by first | (with_reducible assumption) | assumption)
                have hx14 := bt_at a0 (ji11)
                replace p14 := eq_true p14
                replace q14 := eq_true q14
                go_wp2
                go_meet
                case rel => exact ⟨_, (((bt a0 (ji11)) != 10)), (by first | rfl | (simp; done) | (simp only [← hji11] <;> (first | rfl | simp)) | (simp [*]; done)), H', ⟨by have := HJ2.out; first | omega | exact Nat.le_refl _⟩, ⟨by (with_reducible repeat (first | apply Kd.R_alloc | apply Kd.R_drewN | apply Kd.R_drew)); exact HO145.out⟩, ⟨by repeat (first | (with_reducible first | exact HB.out | apply below_alloc | apply pw_below_drewN | apply below_drew1) | exact HB.out)⟩⟩
              · rw [if_neg c13] at H
                exact absurd H (by simp)
            · rw [if_neg c12] at H
              exact absurd H (by simp)
        case rest =>
          clear HC7
          try clear c1
          try clear p1
          try clear q1
          try clear hx1
          try clear c2
          try clear p2
          try clear c4
          try clear c5
          try clear c6
          try clear p6
          try clear c8
          try clear c10
          try clear c10b0
          try clear c10b1
          try clear c12
          try clear c12b0
          try clear c13
          try clear c13b0
          try clear p14
          try clear q14
          try clear hx14
          try clear p14
          try clear p2
          try clear q14
          obtain ⟨kq, x40_6, rfl, HA, HJ6, HO_4, HB⟩ := hcut
          cases kq with
          | zero => exact absurd HA.out (by simp [cooperagelaw15_RecipeTurns.j1])
          | succ kj6 =>
            have H := HA.out
            clear HA
            simp only [cooperagelaw15_RecipeTurns.j1] at H
            have HC15 := Aside0.mk H
            clear H
            go_upto_if 40 with (fail)
            go_cut [5] (fun v5 wc => ∃ (kq : Nat) (x5_14 : ByteArray), v5 = .string x5_14 ∧ Aside0 (cooperagelaw15_RecipeTurns.j2 kq a0 y143 x5_14 = some r) ∧ Aside0 (kq ≤ kj6) ∧ Aside0 (Kd.R k31 31 wc w.heap.size (fun _ => True) v144 y143) ∧ Aside0 (Below w.heap.size w wc))
            case first =>
              have H := HC15.out
              clear HC15
              by_cases c16 : x40_6 = true
              · subst c16
                have H1 : (if a0.size + 1 ≤ 9223372036854775807 then (cooperagelaw15_RecipeTurns.j2 kj6 a0 y143 (a0 ++ (⟨#[10]⟩ : ByteArray))) else (none)) = some r := by rw [if_pos rfl] at H; exact H
                clear H
                have H := H1
                clear H1
                by_cases c17 : a0.size + 1 ≤ 9223372036854775807
                · rw [if_pos c17] at H
                  have c17b0 := eq_true c17
                  have c17b1 : decide (a0.size + 1 ≤ 9223372036854775807) = true := decide_eq_true c17
                  try have c17b2 : (9223372036854775807 < a0.size + 1) = False := eq_false (Nat.not_lt.2 c17)
                  have H' := Aside0.mk H
                  clear H
                  go_wp2
                  go_meet
                  case rel => exact ⟨_, (a0 ++ (⟨#[10]⟩ : ByteArray)), (by first | rfl | (simp; done) | (simp [*]; done)), H', ⟨by have := HJ2.out; have := HJ6.out; first | omega | exact Nat.le_refl _⟩, ⟨by (with_reducible repeat (first | apply Kd.R_alloc | apply Kd.R_drewN | apply Kd.R_drew)); exact HO_4.out⟩, ⟨by repeat (first | (with_reducible first | exact HB.out | apply below_alloc | apply pw_below_drewN | apply below_drew1) | exact HB.out)⟩⟩
                · rw [if_neg c17] at H
                  exact absurd H (by simp)
              · replace c16 := Bool.eq_false_iff.mpr c16
                subst c16
                have H1 : (cooperagelaw15_RecipeTurns.j2 kj6 a0 y143 a0) = some r := by rw [if_neg (show ¬ (false = true) by decide)] at H; exact H
                clear H
                have H := H1
                clear H1
                have H' := Aside0.mk H
                clear H
                go_wp2
                go_meet
                case rel => exact ⟨_, (a0), (by first | rfl | (simp; done) | (simp [*]; done)), H', ⟨by have := HJ2.out; have := HJ6.out; first | omega | exact Nat.le_refl _⟩, ⟨by (with_reducible repeat (first | apply Kd.R_alloc | apply Kd.R_drewN | apply Kd.R_drew)); exact HO_4.out⟩, ⟨by repeat (first | (with_reducible first | exact HB.out | apply below_alloc | apply pw_below_drewN | apply below_drew1) | exact HB.out)⟩⟩
            case rest =>
              clear HC15
              try clear c1
              try clear p1
              try clear q1
              try clear hx1
              try clear c2
              try clear p2
              try clear c4
              try clear c5
              try clear c6
              try clear p6
              try clear c8
              try clear c10
              try clear c10b0
              try clear c10b1
              try clear c12
              try clear c12b0
              try clear c13
              try clear c13b0
              try clear p14
              try clear q14
              try clear hx14
              try clear c16
              try clear c17
              try clear c17b0
              try clear c17b1
              try clear c17b2
              try clear p1
              try clear p14
              try clear p2
              try clear p6
              try clear q1
              try clear q14
              obtain ⟨kq, x5_14, rfl, HA, HJ14, HO_4, HB⟩ := hcut
              cases kq with
              | zero => exact absurd HA.out (by simp [cooperagelaw15_RecipeTurns.j2])
              | succ kj14 =>
                have H := HA.out
                clear HA
                simp only [cooperagelaw15_RecipeTurns.j2] at H
                obtain ⟨y146, hy146⟩ : ∃ y_ : List ByteArray, y_ = (([(⟨#[114, 101, 118, 101, 114, 115, 101, 32, 97, 32, 98]⟩ : ByteArray), (⟨#[114, 101, 118, 101, 114, 115, 101, 32, 98, 32, 116]⟩ : ByteArray)] : List ByteArray)) := ⟨_, rfl⟩
                replace H : ((recipe_Run.f y146 y143 (⟨#[116]⟩ : ByteArray) 999).bind fun bt149 => ((recipe_Run.f (([(⟨#[115, 111, 114, 116, 32, 97, 32, 98]⟩ : ByteArray), (⟨#[115, 111, 114, 116, 32, 98, 32, 99]⟩ : ByteArray), (⟨#[115, 97, 109, 101, 32, 98, 32, 99]⟩ : ByteArray), (⟨#[109, 118, 32, 98, 32, 116]⟩ : ByteArray)] : List ByteArray)) y143 (⟨#[116]⟩ : ByteArray) 999).bind fun bt155 => ((recipe_Run.f (([(⟨#[117, 112, 112, 101, 114, 32, 97, 32, 98]⟩ : ByteArray), (⟨#[108, 111, 119, 101, 114, 32, 98, 32, 99]⟩ : ByteArray), (⟨#[108, 111, 119, 101, 114, 32, 97, 32, 100]⟩ : ByteArray), (⟨#[115, 97, 109, 101, 32, 99, 32, 100]⟩ : ByteArray), (⟨#[117, 112, 112, 101, 114, 32, 100, 32, 101]⟩ : ByteArray), (⟨#[115, 97, 109, 101, 32, 98, 32, 101]⟩ : ByteArray), (⟨#[99, 111, 110, 99, 97, 116, 32, 116, 32, 98, 32, 100]⟩ : ByteArray)] : List ByteArray)) y143 (⟨#[116]⟩ : ByteArray) 999).bind fun bt161 => (cooperagelaw15_RecipeTurns.l0 kj14 a0 x5_14 bt149.1 bt149.2.2 bt155.1 bt155.2.2 bt161.1 bt161.2.2 (⟨#[]⟩ : ByteArray) (⟨#[]⟩ : ByteArray) 0)))) = some r := by first | (rw [hy146]; with_reducible exact H) | (have H2_ := (Option.bind_some _ _).symm.trans H; rw [hy146]; with_reducible exact H2_) | (have H2_ := (Option.bind_some _ _).symm.trans H; with_reducible exact H2_) | with_reducible exact H | (rw [hy146]; exact H) | exact H
                have Ny146 := Aside0.mk hy146
                clear hy146
                replace H := Option.bind_eq_some_iff.mp H
                obtain ⟨⟨t149, t150, t151⟩, A180, H⟩ := H
                replace H : ((recipe_Run.f (([(⟨#[115, 111, 114, 116, 32, 97, 32, 98]⟩ : ByteArray), (⟨#[115, 111, 114, 116, 32, 98, 32, 99]⟩ : ByteArray), (⟨#[115, 97, 109, 101, 32, 98, 32, 99]⟩ : ByteArray), (⟨#[109, 118, 32, 98, 32, 116]⟩ : ByteArray)] : List ByteArray)) y143 (⟨#[116]⟩ : ByteArray) 999).bind fun bt155 => ((recipe_Run.f (([(⟨#[117, 112, 112, 101, 114, 32, 97, 32, 98]⟩ : ByteArray), (⟨#[108, 111, 119, 101, 114, 32, 98, 32, 99]⟩ : ByteArray), (⟨#[108, 111, 119, 101, 114, 32, 97, 32, 100]⟩ : ByteArray), (⟨#[115, 97, 109, 101, 32, 99, 32, 100]⟩ : ByteArray), (⟨#[117, 112, 112, 101, 114, 32, 100, 32, 101]⟩ : ByteArray), (⟨#[115, 97, 109, 101, 32, 98, 32, 101]⟩ : ByteArray), (⟨#[99, 111, 110, 99, 97, 116, 32, 116, 32, 98, 32, 100]⟩ : ByteArray)] : List ByteArray)) y143 (⟨#[116]⟩ : ByteArray) 999).bind fun bt161 => (cooperagelaw15_RecipeTurns.l0 kj14 a0 x5_14 t149 t151 bt155.1 bt155.2.2 bt161.1 bt161.2.2 (⟨#[]⟩ : ByteArray) (⟨#[]⟩ : ByteArray) 0))) = some r := H
                have A18 := Aside0.mk A180
                clear A180
                obtain ⟨y152, hy152⟩ : ∃ y_ : List ByteArray, y_ = (([(⟨#[115, 111, 114, 116, 32, 97, 32, 98]⟩ : ByteArray), (⟨#[115, 111, 114, 116, 32, 98, 32, 99]⟩ : ByteArray), (⟨#[115, 97, 109, 101, 32, 98, 32, 99]⟩ : ByteArray), (⟨#[109, 118, 32, 98, 32, 116]⟩ : ByteArray)] : List ByteArray)) := ⟨_, rfl⟩
                replace H : ((recipe_Run.f y152 y143 (⟨#[116]⟩ : ByteArray) 999).bind fun bt155 => ((recipe_Run.f (([(⟨#[117, 112, 112, 101, 114, 32, 97, 32, 98]⟩ : ByteArray), (⟨#[108, 111, 119, 101, 114, 32, 98, 32, 99]⟩ : ByteArray), (⟨#[108, 111, 119, 101, 114, 32, 97, 32, 100]⟩ : ByteArray), (⟨#[115, 97, 109, 101, 32, 99, 32, 100]⟩ : ByteArray), (⟨#[117, 112, 112, 101, 114, 32, 100, 32, 101]⟩ : ByteArray), (⟨#[115, 97, 109, 101, 32, 98, 32, 101]⟩ : ByteArray), (⟨#[99, 111, 110, 99, 97, 116, 32, 116, 32, 98, 32, 100]⟩ : ByteArray)] : List ByteArray)) y143 (⟨#[116]⟩ : ByteArray) 999).bind fun bt161 => (cooperagelaw15_RecipeTurns.l0 kj14 a0 x5_14 t149 t151 bt155.1 bt155.2.2 bt161.1 bt161.2.2 (⟨#[]⟩ : ByteArray) (⟨#[]⟩ : ByteArray) 0))) = some r := by first | (rw [hy152]; with_reducible exact H) | (have H2_ := (Option.bind_some _ _).symm.trans H; rw [hy152]; with_reducible exact H2_) | (have H2_ := (Option.bind_some _ _).symm.trans H; with_reducible exact H2_) | with_reducible exact H | (rw [hy152]; exact H) | exact H
                have Ny152 := Aside0.mk hy152
                clear hy152
                replace H := Option.bind_eq_some_iff.mp H
                obtain ⟨⟨t155, t156, t157⟩, A190, H⟩ := H
                replace H : ((recipe_Run.f (([(⟨#[117, 112, 112, 101, 114, 32, 97, 32, 98]⟩ : ByteArray), (⟨#[108, 111, 119, 101, 114, 32, 98, 32, 99]⟩ : ByteArray), (⟨#[108, 111, 119, 101, 114, 32, 97, 32, 100]⟩ : ByteArray), (⟨#[115, 97, 109, 101, 32, 99, 32, 100]⟩ : ByteArray), (⟨#[117, 112, 112, 101, 114, 32, 100, 32, 101]⟩ : ByteArray), (⟨#[115, 97, 109, 101, 32, 98, 32, 101]⟩ : ByteArray), (⟨#[99, 111, 110, 99, 97, 116, 32, 116, 32, 98, 32, 100]⟩ : ByteArray)] : List ByteArray)) y143 (⟨#[116]⟩ : ByteArray) 999).bind fun bt161 => (cooperagelaw15_RecipeTurns.l0 kj14 a0 x5_14 t149 t151 t155 t157 bt161.1 bt161.2.2 (⟨#[]⟩ : ByteArray) (⟨#[]⟩ : ByteArray) 0)) = some r := H
                have A19 := Aside0.mk A190
                clear A190
                obtain ⟨y158, hy158⟩ : ∃ y_ : List ByteArray, y_ = (([(⟨#[117, 112, 112, 101, 114, 32, 97, 32, 98]⟩ : ByteArray), (⟨#[108, 111, 119, 101, 114, 32, 98, 32, 99]⟩ : ByteArray), (⟨#[108, 111, 119, 101, 114, 32, 97, 32, 100]⟩ : ByteArray), (⟨#[115, 97, 109, 101, 32, 99, 32, 100]⟩ : ByteArray), (⟨#[117, 112, 112, 101, 114, 32, 100, 32, 101]⟩ : ByteArray), (⟨#[115, 97, 109, 101, 32, 98, 32, 101]⟩ : ByteArray), (⟨#[99, 111, 110, 99, 97, 116, 32, 116, 32, 98, 32, 100]⟩ : ByteArray)] : List ByteArray)) := ⟨_, rfl⟩
                replace H : ((recipe_Run.f y158 y143 (⟨#[116]⟩ : ByteArray) 999).bind fun bt161 => (cooperagelaw15_RecipeTurns.l0 kj14 a0 x5_14 t149 t151 t155 t157 bt161.1 bt161.2.2 (⟨#[]⟩ : ByteArray) (⟨#[]⟩ : ByteArray) 0)) = some r := by first | (rw [hy158]; with_reducible exact H) | (have H2_ := (Option.bind_some _ _).symm.trans H; rw [hy158]; with_reducible exact H2_) | (have H2_ := (Option.bind_some _ _).symm.trans H; with_reducible exact H2_) | with_reducible exact H | (rw [hy158]; exact H) | exact H
                have Ny158 := Aside0.mk hy158
                clear hy158
                replace H := Option.bind_eq_some_iff.mp H
                obtain ⟨⟨t161, t162, t163⟩, A200, H⟩ := H
                replace H : (cooperagelaw15_RecipeTurns.l0 kj14 a0 x5_14 t149 t151 t155 t157 t161 t163 (⟨#[]⟩ : ByteArray) (⟨#[]⟩ : ByteArray) 0) = some r := H
                have A20 := Aside0.mk A200
                clear A200
                have H' := Aside0.mk H
                clear H
                go_wp2_with (first | ((with_reducible refine gate_dst (N := 44) rfl ?_); (try (refine gate_guard (by rfl) ?_; dsimp only)); refine Kd.R_lit Kd.string _ 9 ?hg (N := 44) ?hd (xs := ([(⟨#[114, 101, 118, 101, 114, 115, 101, 32, 97, 32, 98]⟩ : ByteArray), (⟨#[114, 101, 118, 101, 114, 115, 101, 32, 98, 32, 116]⟩ : ByteArray)] : List ByteArray)) (inner := [.string (⟨#[114, 101, 118, 101, 114, 115, 101, 32, 97, 32, 98]⟩ : ByteArray), .string (⟨#[114, 101, 118, 101, 114, 115, 101, 32, 98, 32, 116]⟩ : ByteArray)]) (ok := fun _ => True) (okp := fun _ => True) ?hr ?hp (fun _ hk => hk) trivial (Below.refl _ _) (Nat.le_refl _) (by simp) ?_; (case hd => rfl); (case hg => rfl); (case hr => first | (go_simp; done) | (go_simp; rfl)); (case hp => exact (Reps.one (show Kd.M Kd.string _ _ _ (⟨#[114, 101, 118, 101, 114, 115, 101, 32, 97, 32, 98]⟩ : ByteArray) [.string (⟨#[114, 101, 118, 101, 114, 115, 101, 32, 97, 32, 98]⟩ : ByteArray)] from rfl) (Reps.one (show Kd.M Kd.string _ _ _ (⟨#[114, 101, 118, 101, 114, 115, 101, 32, 98, 32, 116]⟩ : ByteArray) [.string (⟨#[114, 101, 118, 101, 114, 115, 101, 32, 98, 32, 116]⟩ : ByteArray)] from rfl) (Reps.none _ _)))); intro v147 w21 ho22 hb hg_ hnew_; clear hg_ hnew_; (first | rw [← Ny146.out] at ho22 | (simp only [Int.reduceToNat] at ho22; rw [← Ny146.out] at ho22)); have n0_ := Aside0.mk (Kd.R_below (by (with_reducible repeat (first | apply Kd.R_alloc | apply Kd.R_drewN | apply Kd.R_drew)); exact HO_4.out) hb); have n1_ := Aside0.mk (Kd.R_lower ho22 (below_size (by repeat (first | (with_reducible first | exact HB.out | apply below_alloc | apply pw_below_drewN | apply below_drew1) | exact HB.out)))); have n2_ := Aside0.mk (below_step (by repeat (first | (with_reducible first | exact HB.out | apply below_alloc | apply pw_below_drewN | apply below_drew1) | exact HB.out)) hb); clear HO_4; clear HB; have HO_4 := n0_; have HO148 := n1_; have HB := n2_; clear n0_ n1_ n2_; clear hb ho22; obtain ⟨Ao23, co23, eo23⟩ := Kd.R_slice HO148.out; subst eo23; obtain ⟨Ao24, co24, eo24⟩ := Kd.R_slice HO_4.out; subst eo24) | ((with_reducible refine gate_callee (f := 11) rfl ?_); refine goesL_ (some 46) rfl rfl Tryd.func11 (by kernel_rfl) rfl #[.slice Ao23 y146.length co23, .slice Ao24 y143.length co24, .string (⟨#[116]⟩ : ByteArray), .int .i64 999] rfl (by (try simp only [List.map_toArray, List.map_cons, List.map_nil]); first | done | rfl | (simp only [List.length_drop, List.length_take]; rfl)) ?_; (with_reducible refine (recipe_Run.calls _ _ y146 _ _ y143 (⟨#[116]⟩ : ByteArray) 999 t149 t150 t151 _ ?side1 ?side2 ?side3 ?side4 ?side5 A18.out).mono ?_); (case side1 => exact Fr.Glob.below hG (by repeat (first | (with_reducible first | exact HB.out | apply below_alloc | apply pw_below_drewN | apply below_drew1) | exact HB.out))); (case side2 => repeat (first | exact (Kd.R_reads' HO148.out).2.2 | (with_reducible refine Kd.C_alloc ?_ _) | (with_reducible refine Kd.C_drewN ?_ _) | (with_reducible refine Kd.C_drew ?_))); (case side3 => exact (Kd.R_reads' HO148.out).2.1); (case side4 => repeat (first | exact (Kd.R_reads' HO_4.out).2.2 | (with_reducible refine Kd.C_alloc ?_ _) | (with_reducible refine Kd.C_drewN ?_ _) | (with_reducible refine Kd.C_drew ?_))); (case side5 => exact (Kd.R_reads' HO_4.out).2.1); rintro e w25 ⟨rfl, hb⟩; refine ⟨_, rfl, ?_⟩; have n0_ := Aside0.mk (Kd.R_below (by (with_reducible repeat (first | apply Kd.R_alloc | apply Kd.R_drewN | apply Kd.R_drew)); exact HO_4.out) hb); have n1_ := Aside0.mk (Kd.R_below (by (with_reducible repeat (first | apply Kd.R_alloc | apply Kd.R_drewN | apply Kd.R_drew)); exact HO148.out) hb); have n2_ := Aside0.mk (below_step (by repeat (first | (with_reducible first | exact HB.out | apply below_alloc | apply pw_below_drewN | apply below_drew1) | exact HB.out)) hb); clear HO_4; clear HO148; clear HB; have HO_4 := n0_; have HO148 := n1_; have HB := n2_; clear n0_ n1_ n2_; (try clear hb); (try clear hb2); (try clear hk); (try clear hi)) | ((with_reducible refine gate_dst (N := 51) rfl ?_); (try (refine gate_guard (by rfl) ?_; dsimp only)); refine Kd.R_lit Kd.string _ 9 ?hg (N := 51) ?hd (xs := ([(⟨#[115, 111, 114, 116, 32, 97, 32, 98]⟩ : ByteArray), (⟨#[115, 111, 114, 116, 32, 98, 32, 99]⟩ : ByteArray), (⟨#[115, 97, 109, 101, 32, 98, 32, 99]⟩ : ByteArray), (⟨#[109, 118, 32, 98, 32, 116]⟩ : ByteArray)] : List ByteArray)) (inner := [.string (⟨#[115, 111, 114, 116, 32, 97, 32, 98]⟩ : ByteArray), .string (⟨#[115, 111, 114, 116, 32, 98, 32, 99]⟩ : ByteArray), .string (⟨#[115, 97, 109, 101, 32, 98, 32, 99]⟩ : ByteArray), .string (⟨#[109, 118, 32, 98, 32, 116]⟩ : ByteArray)]) (ok := fun _ => True) (okp := fun _ => True) ?hr ?hp (fun _ hk => hk) trivial (Below.refl _ _) (Nat.le_refl _) (by simp) ?_; (case hd => rfl); (case hg => rfl); (case hr => first | (go_simp; done) | (go_simp; rfl)); (case hp => exact (Reps.one (show Kd.M Kd.string _ _ _ (⟨#[115, 111, 114, 116, 32, 97, 32, 98]⟩ : ByteArray) [.string (⟨#[115, 111, 114, 116, 32, 97, 32, 98]⟩ : ByteArray)] from rfl) (Reps.one (show Kd.M Kd.string _ _ _ (⟨#[115, 111, 114, 116, 32, 98, 32, 99]⟩ : ByteArray) [.string (⟨#[115, 111, 114, 116, 32, 98, 32, 99]⟩ : ByteArray)] from rfl) (Reps.one (show Kd.M Kd.string _ _ _ (⟨#[115, 97, 109, 101, 32, 98, 32, 99]⟩ : ByteArray) [.string (⟨#[115, 97, 109, 101, 32, 98, 32, 99]⟩ : ByteArray)] from rfl) (Reps.one (show Kd.M Kd.string _ _ _ (⟨#[109, 118, 32, 98, 32, 116]⟩ : ByteArray) [.string (⟨#[109, 118, 32, 98, 32, 116]⟩ : ByteArray)] from rfl) (Reps.none _ _)))))); intro v153 w26 ho27 hb hg_ hnew_; clear hg_ hnew_; (first | rw [← Ny152.out] at ho27 | (simp only [Int.reduceToNat] at ho27; rw [← Ny152.out] at ho27)); have n0_ := Aside0.mk (Kd.R_below (by (with_reducible repeat (first | apply Kd.R_alloc | apply Kd.R_drewN | apply Kd.R_drew)); exact HO_4.out) hb); have n1_ := Aside0.mk (Kd.R_elder' (by (with_reducible repeat (first | apply Kd.R_alloc | apply Kd.R_drewN | apply Kd.R_drew)); exact HO148.out) (Kd.R_base ho27) hb); have n2_ := Aside0.mk (Kd.R_lower (Kd.R_new' ho27 (Kd.R_lt (by (with_reducible repeat (first | apply Kd.R_alloc | apply Kd.R_drewN | apply Kd.R_drew)); exact HO148.out))) (below_size (by repeat (first | (with_reducible first | exact HB.out | apply below_alloc | apply pw_below_drewN | apply below_drew1) | exact HB.out)))); have n3_ := Aside0.mk (below_step (by repeat (first | (with_reducible first | exact HB.out | apply below_alloc | apply pw_below_drewN | apply below_drew1) | exact HB.out)) hb); clear HO_4; clear HO148; clear HB; have HO_4 := n0_; have HO148 := n1_; have HO154 := n2_; have HB := n3_; clear n0_ n1_ n2_ n3_; clear hb ho27; obtain ⟨Ao28, co28, eo28⟩ := Kd.R_slice HO154.out; subst eo28) | ((with_reducible refine gate_callee (f := 11) rfl ?_); refine goesL_ (some 53) rfl rfl Tryd.func11 (by kernel_rfl) rfl #[.slice Ao28 y152.length co28, .slice Ao24 y143.length co24, .string (⟨#[116]⟩ : ByteArray), .int .i64 999] rfl (by (try simp only [List.map_toArray, List.map_cons, List.map_nil]); first | done | rfl | (simp only [List.length_drop, List.length_take]; rfl)) ?_; (with_reducible refine (recipe_Run.calls _ _ y152 _ _ y143 (⟨#[116]⟩ : ByteArray) 999 t155 t156 t157 _ ?side1 ?side2 ?side3 ?side4 ?side5 A19.out).mono ?_); (case side1 => exact Fr.Glob.below hG (by repeat (first | (with_reducible first | exact HB.out | apply below_alloc | apply pw_below_drewN | apply below_drew1) | exact HB.out))); (case side2 => repeat (first | exact (Kd.R_reads' HO154.out).2.2 | (with_reducible refine Kd.C_alloc ?_ _) | (with_reducible refine Kd.C_drewN ?_ _) | (with_reducible refine Kd.C_drew ?_))); (case side3 => exact (Kd.R_reads' HO154.out).2.1); (case side4 => repeat (first | exact (Kd.R_reads' HO_4.out).2.2 | (with_reducible refine Kd.C_alloc ?_ _) | (with_reducible refine Kd.C_drewN ?_ _) | (with_reducible refine Kd.C_drew ?_))); (case side5 => exact (Kd.R_reads' HO_4.out).2.1); rintro e w29 ⟨rfl, hb⟩; refine ⟨_, rfl, ?_⟩; have n0_ := Aside0.mk (Kd.R_below (by (with_reducible repeat (first | apply Kd.R_alloc | apply Kd.R_drewN | apply Kd.R_drew)); exact HO_4.out) hb); have n1_ := Aside0.mk (Kd.R_below (by (with_reducible repeat (first | apply Kd.R_alloc | apply Kd.R_drewN | apply Kd.R_drew)); exact HO148.out) hb); have n2_ := Aside0.mk (Kd.R_below (by (with_reducible repeat (first | apply Kd.R_alloc | apply Kd.R_drewN | apply Kd.R_drew)); exact HO154.out) hb); have n3_ := Aside0.mk (below_step (by repeat (first | (with_reducible first | exact HB.out | apply below_alloc | apply pw_below_drewN | apply below_drew1) | exact HB.out)) hb); clear HO_4; clear HO148; clear HO154; clear HB; have HO_4 := n0_; have HO148 := n1_; have HO154 := n2_; have HB := n3_; clear n0_ n1_ n2_ n3_; (try clear hb); (try clear hb2); (try clear hk); (try clear hi)) | ((with_reducible refine gate_dst (N := 58) rfl ?_); (try (refine gate_guard (by rfl) ?_; dsimp only)); refine Kd.R_lit Kd.string _ 9 ?hg (N := 58) ?hd (xs := ([(⟨#[117, 112, 112, 101, 114, 32, 97, 32, 98]⟩ : ByteArray), (⟨#[108, 111, 119, 101, 114, 32, 98, 32, 99]⟩ : ByteArray), (⟨#[108, 111, 119, 101, 114, 32, 97, 32, 100]⟩ : ByteArray), (⟨#[115, 97, 109, 101, 32, 99, 32, 100]⟩ : ByteArray), (⟨#[117, 112, 112, 101, 114, 32, 100, 32, 101]⟩ : ByteArray), (⟨#[115, 97, 109, 101, 32, 98, 32, 101]⟩ : ByteArray), (⟨#[99, 111, 110, 99, 97, 116, 32, 116, 32, 98, 32, 100]⟩ : ByteArray)] : List ByteArray)) (inner := [.string (⟨#[117, 112, 112, 101, 114, 32, 97, 32, 98]⟩ : ByteArray), .string (⟨#[108, 111, 119, 101, 114, 32, 98, 32, 99]⟩ : ByteArray), .string (⟨#[108, 111, 119, 101, 114, 32, 97, 32, 100]⟩ : ByteArray), .string (⟨#[115, 97, 109, 101, 32, 99, 32, 100]⟩ : ByteArray), .string (⟨#[117, 112, 112, 101, 114, 32, 100, 32, 101]⟩ : ByteArray), .string (⟨#[115, 97, 109, 101, 32, 98, 32, 101]⟩ : ByteArray), .string (⟨#[99, 111, 110, 99, 97, 116, 32, 116, 32, 98, 32, 100]⟩ : ByteArray)]) (ok := fun _ => True) (okp := fun _ => True) ?hr ?hp (fun _ hk => hk) trivial (Below.refl _ _) (Nat.le_refl _) (by simp) ?_; (case hd => rfl); (case hg => rfl); (case hr => first | (go_simp; done) | (go_simp; rfl)); (case hp => exact (Reps.one (show Kd.M Kd.string _ _ _ (⟨#[117, 112, 112, 101, 114, 32, 97, 32, 98]⟩ : ByteArray) [.string (⟨#[117, 112, 112, 101, 114, 32, 97, 32, 98]⟩ : ByteArray)] from rfl) (Reps.one (show Kd.M Kd.string _ _ _ (⟨#[108, 111, 119, 101, 114, 32, 98, 32, 99]⟩ : ByteArray) [.string (⟨#[108, 111, 119, 101, 114, 32, 98, 32, 99]⟩ : ByteArray)] from rfl) (Reps.one (show Kd.M Kd.string _ _ _ (⟨#[108, 111, 119, 101, 114, 32, 97, 32, 100]⟩ : ByteArray) [.string (⟨#[108, 111, 119, 101, 114, 32, 97, 32, 100]⟩ : ByteArray)] from rfl) (Reps.one (show Kd.M Kd.string _ _ _ (⟨#[115, 97, 109, 101, 32, 99, 32, 100]⟩ : ByteArray) [.string (⟨#[115, 97, 109, 101, 32, 99, 32, 100]⟩ : ByteArray)] from rfl) (Reps.one (show Kd.M Kd.string _ _ _ (⟨#[117, 112, 112, 101, 114, 32, 100, 32, 101]⟩ : ByteArray) [.string (⟨#[117, 112, 112, 101, 114, 32, 100, 32, 101]⟩ : ByteArray)] from rfl) (Reps.one (show Kd.M Kd.string _ _ _ (⟨#[115, 97, 109, 101, 32, 98, 32, 101]⟩ : ByteArray) [.string (⟨#[115, 97, 109, 101, 32, 98, 32, 101]⟩ : ByteArray)] from rfl) (Reps.one (show Kd.M Kd.string _ _ _ (⟨#[99, 111, 110, 99, 97, 116, 32, 116, 32, 98, 32, 100]⟩ : ByteArray) [.string (⟨#[99, 111, 110, 99, 97, 116, 32, 116, 32, 98, 32, 100]⟩ : ByteArray)] from rfl) (Reps.none _ _))))))))); intro v159 w30 ho31 hb hg_ hnew_; clear hg_ hnew_; (first | rw [← Ny158.out] at ho31 | (simp only [Int.reduceToNat] at ho31; rw [← Ny158.out] at ho31)); have n0_ := Aside0.mk (Kd.R_below (by (with_reducible repeat (first | apply Kd.R_alloc | apply Kd.R_drewN | apply Kd.R_drew)); exact HO_4.out) hb); have n1_ := Aside0.mk (Kd.R_elder' (by (with_reducible repeat (first | apply Kd.R_alloc | apply Kd.R_drewN | apply Kd.R_drew)); exact HO148.out) (Kd.R_base ho31) hb); have n2_ := Aside0.mk (Kd.R_elder' (by (with_reducible repeat (first | apply Kd.R_alloc | apply Kd.R_drewN | apply Kd.R_drew)); exact HO154.out) (Kd.R_base ho31) hb); have n3_ := Aside0.mk (Kd.R_lower (Kd.R_new' (Kd.R_new' ho31 (Kd.R_lt (by (with_reducible repeat (first | apply Kd.R_alloc | apply Kd.R_drewN | apply Kd.R_drew)); exact HO148.out))) (Kd.R_lt (by (with_reducible repeat (first | apply Kd.R_alloc | apply Kd.R_drewN | apply Kd.R_drew)); exact HO154.out))) (below_size (by repeat (first | (with_reducible first | exact HB.out | apply below_alloc | apply pw_below_drewN | apply below_drew1) | exact HB.out)))); have n4_ := Aside0.mk (below_step (by repeat (first | (with_reducible first | exact HB.out | apply below_alloc | apply pw_below_drewN | apply below_drew1) | exact HB.out)) hb); clear HO_4; clear HO148; clear HO154; clear HB; have HO_4 := n0_; have HO148 := n1_; have HO154 := n2_; have HO160 := n3_; have HB := n4_; clear n0_ n1_ n2_ n3_ n4_; clear hb ho31; obtain ⟨Ao32, co32, eo32⟩ := Kd.R_slice HO160.out; subst eo32) | ((with_reducible refine gate_callee (f := 11) rfl ?_); refine goesL_ (some 60) rfl rfl Tryd.func11 (by kernel_rfl) rfl #[.slice Ao32 y158.length co32, .slice Ao24 y143.length co24, .string (⟨#[116]⟩ : ByteArray), .int .i64 999] rfl (by (try simp only [List.map_toArray, List.map_cons, List.map_nil]); first | done | rfl | (simp only [List.length_drop, List.length_take]; rfl)) ?_; (with_reducible refine (recipe_Run.calls _ _ y158 _ _ y143 (⟨#[116]⟩ : ByteArray) 999 t161 t162 t163 _ ?side1 ?side2 ?side3 ?side4 ?side5 A20.out).mono ?_); (case side1 => exact Fr.Glob.below hG (by repeat (first | (with_reducible first | exact HB.out | apply below_alloc | apply pw_below_drewN | apply below_drew1) | exact HB.out))); (case side2 => repeat (first | exact (Kd.R_reads' HO160.out).2.2 | (with_reducible refine Kd.C_alloc ?_ _) | (with_reducible refine Kd.C_drewN ?_ _) | (with_reducible refine Kd.C_drew ?_))); (case side3 => exact (Kd.R_reads' HO160.out).2.1); (case side4 => repeat (first | exact (Kd.R_reads' HO_4.out).2.2 | (with_reducible refine Kd.C_alloc ?_ _) | (with_reducible refine Kd.C_drewN ?_ _) | (with_reducible refine Kd.C_drew ?_))); (case side5 => exact (Kd.R_reads' HO_4.out).2.1); rintro e w33 ⟨rfl, hb⟩; refine ⟨_, rfl, ?_⟩; have n0_ := Aside0.mk (Kd.R_below (by (with_reducible repeat (first | apply Kd.R_alloc | apply Kd.R_drewN | apply Kd.R_drew)); exact HO_4.out) hb); have n1_ := Aside0.mk (Kd.R_below (by (with_reducible repeat (first | apply Kd.R_alloc | apply Kd.R_drewN | apply Kd.R_drew)); exact HO148.out) hb); have n2_ := Aside0.mk (Kd.R_below (by (with_reducible repeat (first | apply Kd.R_alloc | apply Kd.R_drewN | apply Kd.R_drew)); exact HO154.out) hb); have n3_ := Aside0.mk (Kd.R_below (by (with_reducible repeat (first | apply Kd.R_alloc | apply Kd.R_drewN | apply Kd.R_drew)); exact HO160.out) hb); have n4_ := Aside0.mk (below_step (by repeat (first | (with_reducible first | exact HB.out | apply below_alloc | apply pw_below_drewN | apply below_drew1) | exact HB.out)) hb); clear HO_4; clear HO148; clear HO154; clear HO160; clear HB; have HO_4 := n0_; have HO148 := n1_; have HO154 := n2_; have HO160 := n3_; have HB := n4_; clear n0_ n1_ n2_ n3_ n4_; (try clear hb); (try clear hb2); (try clear hk); (try clear hi)))
                go_loopg [15, 16, 17] kj14 (fun kq v15 v16 v17 w' => ∃ (x15_4 : ByteArray) (x16_4 : ByteArray) (x17_4 : Int), v15 = .string x15_4 ∧ v16 = .string x16_4 ∧ v17 = .int .i64 x17_4 ∧ Aside0 (cooperagelaw15_RecipeTurns.l0 kq a0 x5_14 t149 t151 t155 t157 t161 t163 x15_4 x16_4 x17_4 = some r) ∧ Aside0 (kq ≤ kj14) ∧ Aside0 (Below w.heap.size w w'))
                case atStart => exact ⟨((⟨#[]⟩ : ByteArray)), ((⟨#[]⟩ : ByteArray)), (0), (by first | rfl | (simp; done) | (simp [*]; done)), (by first | rfl | (simp; done) | (simp [*]; done)), (by first | rfl | (simp; done) | (simp [*]; done)), H', ⟨Nat.le_refl _⟩, ⟨by repeat (first | (with_reducible first | exact HB.out | apply below_alloc | apply pw_below_drewN | apply below_drew1) | exact HB.out)⟩⟩
                case round =>
                  clear H'
                  try clear c1
                  try clear p1
                  try clear q1
                  try clear hx1
                  try clear c2
                  try clear p2
                  try clear c4
                  try clear c5
                  try clear c6
                  try clear p6
                  try clear c8
                  try clear c10
                  try clear c10b0
                  try clear c10b1
                  try clear c11
                  try clear c12
                  try clear c12b0
                  try clear c13
                  try clear c13b0
                  try clear p14
                  try clear q14
                  try clear hx14
                  try clear c16
                  try clear c17
                  try clear c17b0
                  try clear c17b1
                  try clear c17b2
                  try clear p1
                  try clear p14
                  try clear p2
                  try clear p6
                  try clear q1
                  try clear q14
                  obtain ⟨x15_4, x16_4, x17_4, rfl, rfl, rfl, HA, HK4, HB⟩ := hrel
                  cases gk with
                  | zero => exact absurd HA.out (by simp [cooperagelaw15_RecipeTurns.l0])
                  | succ k4 =>
                    have H := HA.out
                    clear HA
                    simp only [cooperagelaw15_RecipeTurns.l0] at H
                    by_cases c34 : x17_4 < (t155.size : Int)
                    · rw [if_pos c34] at H
                      have c34b0 : decide (x17_4 < (t155.size : Int)) = true := decide_eq_true c34
                      clear c34
                      by_cases c35 : 0 ≤ x17_4
                      · rw [if_pos c35] at H
                        have c35b0 : decide (0 ≤ x17_4) = true := decide_eq_true c35
                        clear c35
                        by_cases c37 : (bt t155 x17_4) = 10
                        · rw [if_pos c37] at H
                          have c37b0 : ((bt t155 x17_4) == 10) = true := beq_iff_eq.mpr c37
                          have c37b1 : ((bt t155 x17_4) != 10) = false := bne_eq_false_iff_eq.mpr c37
                          clear c37
                          by_cases c38 : (Op.bytesLess x16_4.toList x15_4.toList) = true
                          · rw [if_pos c38] at H
                            have c38b0 : (Op.bytesLess x16_4.toList x15_4.toList) = true := c38
                            clear c38
                            obtain rfl := Option.some.inj H
                            have p36 : 0 ≤ (x17_4 : Int) := of_decide_eq_true (by first | (with_reducible assumption) | assumption)
                            have q36 : x17_4 < (t155.size : Int) := of_decide_eq_true (by first | (with_reducible assumption) | assumption)
                            have hx36 := bt_at t155 x17_4
                            replace p36 := eq_true p36
                            replace q36 := eq_true q36
                            go_wp2
                            go_ret
                            exact ⟨by first | rfl | (simp [errW_none, errW_some] <;> rfl) | (simp [*, errW_none, errW_some] <;> rfl), by repeat (first | (with_reducible first | exact HB.out | apply below_alloc | apply pw_below_drewN | apply below_drew1) | exact HB.out)⟩
                          · rw [if_neg c38] at H
                            have c38b0 : (Op.bytesLess x16_4.toList x15_4.toList) = false := by simpa using c38
                            clear c38
                            have H' := Aside0.mk H
                            clear H
                            have p36 : 0 ≤ (x17_4 : Int) := of_decide_eq_true (by first | (with_reducible assumption) | assumption)
                            have q36 : x17_4 < (t155.size : Int) := of_decide_eq_true (by first | (with_reducible assumption) | assumption)
                            have hx36 := bt_at t155 x17_4
                            replace p36 := eq_true p36
                            replace q36 := eq_true q36
                            go_wp2
                            go_roundg k4
                            case measure => have := HJ2.out; have := HJ6.out; have := HJ14.out; have := HK4.out; omega
                            case rel => exact ⟨(x16_4), ((⟨#[]⟩ : ByteArray)), (wrap64 (x17_4 + 1)), (by first | rfl | (simp; done) | (simp [*]; done)), (by first | rfl | (simp; done) | (simp [*]; done)), (by first | rfl | (simp; done) | (simp [*]; done)), H', ⟨by have := HJ2.out; have := HJ6.out; have := HJ14.out; have := HK4.out; omega⟩, ⟨by repeat (first | (with_reducible first | exact HB.out | apply below_alloc | apply pw_below_drewN | apply below_drew1) | exact HB.out)⟩⟩
                        · rw [if_neg c37] at H
                          have c37b0 : ((bt t155 x17_4) == 10) = false := beq_eq_false_iff_ne.mpr c37
                          have c37b1 : ((bt t155 x17_4) != 10) = true := bne_iff_ne.mpr c37
                          have c39b0 := eq_true (of_decide_eq_true (by first | (with_reducible assumption) | assumption) : 0 ≤ x17_4)
                          by_cases c40 : x17_4 ≤ (wrap64 (x17_4 + 1))
                          · rw [if_pos c40] at H
                            have c40b0 := eq_true c40
                            have c40b1 : decide (x17_4 ≤ (wrap64 (x17_4 + 1))) = true := decide_eq_true c40
                            by_cases c41 : (wrap64 (x17_4 + 1)) ≤ (t155.size : Int)
                            · rw [if_pos c41] at H
                              have c41b0 := eq_true c41
                              have c41b1 : decide ((wrap64 (x17_4 + 1)) ≤ (t155.size : Int)) = true := decide_eq_true c41
                              by_cases c42 : x16_4.size + (t155.extract (x17_4 : Int).toNat ((wrap64 (x17_4 + 1)) : Int).toNat).size ≤ 9223372036854775807
                              · rw [if_pos c42] at H
                                have c42b0 := eq_true c42
                                have c42b1 : decide (x16_4.size + (t155.extract (x17_4 : Int).toNat ((wrap64 (x17_4 + 1)) : Int).toNat).size ≤ 9223372036854775807) = true := decide_eq_true c42
                                try have c42b2 : (9223372036854775807 < x16_4.size + (t155.extract (x17_4 : Int).toNat ((wrap64 (x17_4 + 1)) : Int).toNat).size) = False := eq_false (Nat.not_lt.2 c42)
                                have H' := Aside0.mk H
                                clear H
                                have p36 : 0 ≤ (x17_4 : Int) := of_decide_eq_true (by first | (with_reducible assumption) | assumption)
                                have q36 : x17_4 < (t155.size : Int) := of_decide_eq_true (by first | (with_reducible assumption) | assumption)
                                have hx36 := bt_at t155 x17_4
                                replace p36 := eq_true p36
                                replace q36 := eq_true q36
                                go_wp2
                                go_roundg k4
                                case measure => have := HJ2.out; have := HJ6.out; have := HJ14.out; have := HK4.out; omega
                                case rel => exact ⟨(x15_4), (x16_4 ++ (t155.extract (x17_4 : Int).toNat ((wrap64 (x17_4 + 1)) : Int).toNat)), (wrap64 (x17_4 + 1)), (by first | rfl | (simp; done) | (simp [*]; done)), (by first | rfl | (simp; done) | (simp [*]; done)), (by first | rfl | (simp; done) | (simp [*]; done)), H', ⟨by have := HJ2.out; have := HJ6.out; have := HJ14.out; have := HK4.out; omega⟩, ⟨by repeat (first | (with_reducible first | exact HB.out | apply below_alloc | apply pw_below_drewN | apply below_drew1) | exact HB.out)⟩⟩
                              · rw [if_neg c42] at H
                                exact absurd H (by simp)
                            · rw [if_neg c41] at H
                              exact absurd H (by simp)
                          · rw [if_neg c40] at H
                            exact absurd H (by simp)
                      · rw [if_neg c35] at H
                        exact absurd H (by simp)
                    · rw [if_neg c34] at H
                      have c34b0 : decide (x17_4 < (t155.size : Int)) = false := decide_eq_false c34
                      clear c34
                      by_cases c43 : t151 = 0
                      · rw [if_pos c43] at H
                        have c43b0 : (t151 == 0) = true := beq_iff_eq.mpr c43
                        have c43b1 : (t151 != 0) = false := bne_eq_false_iff_eq.mpr c43
                        clear c43
                        by_cases c44 : t149.toList = x5_14.toList
                        · rw [if_pos c44] at H
                          have c44b0 : (t149.toList == x5_14.toList) = true := beq_iff_eq.mpr c44
                          have c44b1 : (t149.toList != x5_14.toList) = false := bne_eq_false_iff_eq.mpr c44
                          clear c44
                          by_cases c45 : t157 = 0
                          · rw [if_pos c45] at H
                            have c45b0 : (t157 == 0) = true := beq_iff_eq.mpr c45
                            have c45b1 : (t157 != 0) = false := bne_eq_false_iff_eq.mpr c45
                            clear c45
                            by_cases c46 : (t155.size : Int) = (x5_14.size : Int)
                            · rw [if_pos c46] at H
                              have c46b0 : ((t155.size : Int) == (x5_14.size : Int)) = true := beq_iff_eq.mpr c46
                              have c46b1 : ((t155.size : Int) != (x5_14.size : Int)) = false := bne_eq_false_iff_eq.mpr c46
                              have c46b2 : (t155.size == x5_14.size) = true := by first | simpa using c46 | (simp at c46 ⊢; omega)
                              clear c46
                              by_cases c47 : x16_4.toList = ([] : List UInt8)
                              · rw [if_pos c47] at H
                                have c47b0 : (x16_4.toList == ([] : List UInt8)) = true := beq_iff_eq.mpr c47
                                have c47b1 : (x16_4.toList != ([] : List UInt8)) = false := bne_eq_false_iff_eq.mpr c47
                                clear c47
                                by_cases c48 : t163 = 0
                                · rw [if_pos c48] at H
                                  have c48b0 : (t163 == 0) = true := beq_iff_eq.mpr c48
                                  have c48b1 : (t163 != 0) = false := bne_eq_false_iff_eq.mpr c48
                                  clear c48
                                  obtain rfl := Option.some.inj H
                                  go_wp2
                                  go_ret
                                  exact ⟨by first | rfl | (simp [errW_none, errW_some] <;> rfl) | (simp [*, errW_none, errW_some] <;> rfl), by repeat (first | (with_reducible first | exact HB.out | apply below_alloc | apply pw_below_drewN | apply below_drew1) | exact HB.out)⟩
                                · rw [if_neg c48] at H
                                  have c48b0 : (t163 == 0) = false := beq_eq_false_iff_ne.mpr c48
                                  have c48b1 : (t163 != 0) = true := bne_iff_ne.mpr c48
                                  obtain rfl := Option.some.inj H
                                  go_wp2
                                  go_ret
                                  exact ⟨by first | rfl | (simp [errW_none, errW_some] <;> rfl) | (simp [*, errW_none, errW_some] <;> rfl), by repeat (first | (with_reducible first | exact HB.out | apply below_alloc | apply pw_below_drewN | apply below_drew1) | exact HB.out)⟩
                              · rw [if_neg c47] at H
                                have c47b0 : (x16_4.toList == ([] : List UInt8)) = false := beq_eq_false_iff_ne.mpr c47
                                have c47b1 : (x16_4.toList != ([] : List UInt8)) = true := bne_iff_ne.mpr c47
                                obtain rfl := Option.some.inj H
                                go_wp2
                                go_ret
                                exact ⟨by first | rfl | (simp [errW_none, errW_some] <;> rfl) | (simp [*, errW_none, errW_some] <;> rfl), by repeat (first | (with_reducible first | exact HB.out | apply below_alloc | apply pw_below_drewN | apply below_drew1) | exact HB.out)⟩
                            · rw [if_neg c46] at H
                              have c46b0 : ((t155.size : Int) == (x5_14.size : Int)) = false := beq_eq_false_iff_ne.mpr c46
                              have c46b1 : ((t155.size : Int) != (x5_14.size : Int)) = true := bne_iff_ne.mpr c46
                              have c46b2 : (t155.size == x5_14.size) = false := by first | simpa using c46 | (simp at c46 ⊢; omega)
                              obtain rfl := Option.some.inj H
                              go_wp2
                              go_ret
                              exact ⟨by first | rfl | (simp [errW_none, errW_some] <;> rfl) | (simp [*, errW_none, errW_some] <;> rfl), by repeat (first | (with_reducible first | exact HB.out | apply below_alloc | apply pw_below_drewN | apply below_drew1) | exact HB.out)⟩
                          · rw [if_neg c45] at H
                            have c45b0 : (t157 == 0) = false := beq_eq_false_iff_ne.mpr c45
                            have c45b1 : (t157 != 0) = true := bne_iff_ne.mpr c45
                            obtain rfl := Option.some.inj H
                            go_wp2
                            go_ret
                            exact ⟨by first | rfl | (simp [errW_none, errW_some] <;> rfl) | (simp [*, errW_none, errW_some] <;> rfl), by repeat (first | (with_reducible first | exact HB.out | apply below_alloc | apply pw_below_drewN | apply below_drew1) | exact HB.out)⟩
                        · rw [if_neg c44] at H
                          have c44b0 : (t149.toList == x5_14.toList) = false := beq_eq_false_iff_ne.mpr c44
                          have c44b1 : (t149.toList != x5_14.toList) = true := bne_iff_ne.mpr c44
                          obtain rfl := Option.some.inj H
                          go_wp2
                          go_ret
                          exact ⟨by first | rfl | (simp [errW_none, errW_some] <;> rfl) | (simp [*, errW_none, errW_some] <;> rfl), by repeat (first | (with_reducible first | exact HB.out | apply below_alloc | apply pw_below_drewN | apply below_drew1) | exact HB.out)⟩
                      · rw [if_neg c43] at H
                        have c43b0 : (t151 == 0) = false := beq_eq_false_iff_ne.mpr c43
                        have c43b1 : (t151 != 0) = true := bne_iff_ne.mpr c43
                        obtain rfl := Option.some.inj H
                        go_wp2
                        go_ret
                        exact ⟨by first | rfl | (simp [errW_none, errW_some] <;> rfl) | (simp [*, errW_none, errW_some] <;> rfl), by repeat (first | (with_reducible first | exact HB.out | apply below_alloc | apply pw_below_drewN | apply below_drew1) | exact HB.out)⟩

end Go.Proofs.YtnjjnfbkilgidaaDoor.K
