import Derived.Test.YtnjjnfbkilgidaaDoorQC
import Derived.Test.YtnjjnfbkilgidaaDoorQD
-- fixed by fix_text3.py, fixed by fix_text.py. Written by a program of this session (hprint.py over the kit's print).
namespace Go.Proofs.YtnjjnfbkilgidaaDoor.K
open Go.Proofs.YtnjjnfbkilgidaaDoor.Fr
open Go.Proofs.YtnjjnfbkilgidaaDoor
open Go.Proofs.YtnjjnfbkilgidaaDoor.F (S31 at_T31 errW errW_none errW_some k31 k31_mk k31_mkM k31_open k31_openM rd_T31 z31)
open Go.RowKit Go.Proofs.YtnjjnfbkilgidaaDoorW.PrintWords Go.Proofs.YtnjjnfbkilgidaaDoorW.PrintLast Go.Proofs.YtnjjnfbkilgidaaDoorW.PrintMore
attribute [local go_sem] max2_int min2_int max_two min_two max_three min_three max_four min_four   -- for this text's walks alone
set_option linter.unusedVariables false
set_option linter.unusedSimpArgs false

/-! ### cooperagelaw15_RecipeSays: function 6 -/
mutual
def cooperagelaw15_RecipeSays.j0 : Nat → List ByteArray → Bool → Bool → Option (Bool)
  | 0, _, _, _ => none
  | k + 1, x0, x3, x18 => if x18 = true then (some x3) else (cooperagelaw15_RecipeSays.l0 k x0 (([(⟨#[116, 111, 117, 99, 104, 32, 116]⟩ : ByteArray)] : List ByteArray)) (⟨#[]⟩ : ByteArray) 0)
def cooperagelaw15_RecipeSays.l0 : Nat → List ByteArray → List ByteArray → ByteArray → Int → Option (Bool)
  | 0, _, _, _, _ => none
  | k + 1, x0, x4, x5, x6 => if x6 < (x0.length : Int) then (if 0 ≤ x6 then (if (rdOf ByteArray.empty x0 x6).toList = ([] : List UInt8) then (cooperagelaw15_RecipeSays.j2 k x0 x4 x5 x6 true) else (cooperagelaw15_RecipeSays.j2 k x0 x4 x5 x6 (decide (((rdOf ByteArray.empty x0 x6).size : Int) > 100)))) else (none)) else ((recipe_Run.f x4 ([] : List (S31)) (⟨#[116]⟩ : ByteArray) 9999).bind fun bt219 => (if bt219.1.toList = x5.toList then (if bt219.2.1 = true then (some (bt219.2.2 == 0)) else (some false)) else (some false)))
def cooperagelaw15_RecipeSays.j2 : Nat → List ByteArray → List ByteArray → ByteArray → Int → Bool → Option (Bool)
  | 0, _, _, _, _, _ => none
  | k + 1, x0, x4, x5, x6, x39 => if x39 = true then (some true) else (cooperagelaw15_RecipeSays.l1 k x0 x4 x5 x6 0)
def cooperagelaw15_RecipeSays.l1 : Nat → List ByteArray → List ByteArray → ByteArray → Int → Int → Option (Bool)
  | 0, _, _, _, _, _ => none
  | k + 1, x0, x4, x5, x6, x7 => if 0 ≤ x6 then (if x6 < (x0.length : Int) then (if x7 < ((rdOf ByteArray.empty x0 x6).size : Int) then (if 0 ≤ x7 then (if (bt (rdOf ByteArray.empty x0 x6) x7) = 32 then (some true) else (if (bt (rdOf ByteArray.empty x0 x6) x7) = 9 then (some true) else (cooperagelaw15_RecipeSays.l1 k x0 x4 x5 x6 (wrap64 (x7 + 1))))) else (none)) else (if 7 + (rdOf ByteArray.empty x0 x6).size ≤ 9223372036854775807 then (if ((⟨#[109, 111, 114, 101, 32, 116, 32]⟩ : ByteArray) ++ (rdOf ByteArray.empty x0 x6)).size + 2 ≤ 9223372036854775807 then (if x4.length < 8796093022208 then (if x5.size + (rdOf ByteArray.empty x0 x6).size ≤ 9223372036854775807 then (if (x5 ++ (rdOf ByteArray.empty x0 x6)).size + 3 ≤ 9223372036854775807 then (cooperagelaw15_RecipeSays.l0 k x0 (x4 ++ [((⟨#[109, 111, 114, 101, 32, 116, 32]⟩ : ByteArray) ++ (rdOf ByteArray.empty x0 x6)) ++ (⟨#[32, 120]⟩ : ByteArray)]) ((x5 ++ (rdOf ByteArray.empty x0 x6)) ++ (⟨#[32, 120, 10]⟩ : ByteArray)) (wrap64 (x6 + 1))) else (none)) else (none)) else (none)) else (none)) else (none))) else (none)) else (none)
end
def cooperagelaw15_RecipeSays.f (k : Nat) (l0 : List ByteArray) : Option (Bool) := (cooperagelaw15_shown.f).bind fun t215 => (if t215 = true then (cooperagelaw15_RecipeSays.j0 k l0 t215 (decide ((l0.length : Int) > 12))) else (cooperagelaw15_RecipeSays.j0 k l0 t215 true))
theorem cooperagelaw15_RecipeSays.mono_l : ∀ k, (∀ y0 y1 y2, LeO (cooperagelaw15_RecipeSays.j0 k y0 y1 y2) (cooperagelaw15_RecipeSays.j0 (k + 1) y0 y1 y2)) ∧ (∀ y0 y1 y2 y3, LeO (cooperagelaw15_RecipeSays.l0 k y0 y1 y2 y3) (cooperagelaw15_RecipeSays.l0 (k + 1) y0 y1 y2 y3)) ∧ (∀ y0 y1 y2 y3 y4, LeO (cooperagelaw15_RecipeSays.j2 k y0 y1 y2 y3 y4) (cooperagelaw15_RecipeSays.j2 (k + 1) y0 y1 y2 y3 y4)) ∧ (∀ y0 y1 y2 y3 y4, LeO (cooperagelaw15_RecipeSays.l1 k y0 y1 y2 y3 y4) (cooperagelaw15_RecipeSays.l1 (k + 1) y0 y1 y2 y3 y4))
  | 0 => ⟨fun _ _ _ r h => by simp [cooperagelaw15_RecipeSays.j0] at h, fun _ _ _ _ r h => by simp [cooperagelaw15_RecipeSays.l0] at h, fun _ _ _ _ _ r h => by simp [cooperagelaw15_RecipeSays.j2] at h, fun _ _ _ _ _ r h => by simp [cooperagelaw15_RecipeSays.l1] at h⟩
  | k + 1 => by
    obtain ⟨ih0, ih1, ih2, ih3⟩ := cooperagelaw15_RecipeSays.mono_l k
    refine ⟨?_, ?_, ?_, ?_⟩
    · intro y0 y1 y2
      unfold cooperagelaw15_RecipeSays.j0
      repeat' first
      | (with_reducible exact ih0 _ _ _)
      | (with_reducible exact ih1 _ _ _ _)
      | (with_reducible exact ih2 _ _ _ _ _)
      | (with_reducible exact ih3 _ _ _ _ _)
      | (with_reducible exact LeO.refl _)
      | (with_reducible exact LeO.none _)
      | (with_reducible refine LeO.ite ?_ ?_)
      | (with_reducible refine LeO.bind ?_ (fun _ => ?_))
      | exact ih0 _ _ _
      | exact ih1 _ _ _ _
      | exact ih2 _ _ _ _ _
      | exact ih3 _ _ _ _ _
      | exact LeO.none _
      | refine LeO.ite ?_ ?_
      | refine LeO.bind ?_ (fun _ => ?_)
    · intro y0 y1 y2 y3
      unfold cooperagelaw15_RecipeSays.l0
      repeat' first
      | (with_reducible exact ih0 _ _ _)
      | (with_reducible exact ih1 _ _ _ _)
      | (with_reducible exact ih2 _ _ _ _ _)
      | (with_reducible exact ih3 _ _ _ _ _)
      | (with_reducible exact LeO.refl _)
      | (with_reducible exact LeO.none _)
      | (with_reducible refine LeO.ite ?_ ?_)
      | (with_reducible refine LeO.bind ?_ (fun _ => ?_))
      | exact ih0 _ _ _
      | exact ih1 _ _ _ _
      | exact ih2 _ _ _ _ _
      | exact ih3 _ _ _ _ _
      | exact LeO.none _
      | refine LeO.ite ?_ ?_
      | refine LeO.bind ?_ (fun _ => ?_)
    · intro y0 y1 y2 y3 y4
      unfold cooperagelaw15_RecipeSays.j2
      repeat' first
      | (with_reducible exact ih0 _ _ _)
      | (with_reducible exact ih1 _ _ _ _)
      | (with_reducible exact ih2 _ _ _ _ _)
      | (with_reducible exact ih3 _ _ _ _ _)
      | (with_reducible exact LeO.refl _)
      | (with_reducible exact LeO.none _)
      | (with_reducible refine LeO.ite ?_ ?_)
      | (with_reducible refine LeO.bind ?_ (fun _ => ?_))
      | exact ih0 _ _ _
      | exact ih1 _ _ _ _
      | exact ih2 _ _ _ _ _
      | exact ih3 _ _ _ _ _
      | exact LeO.none _
      | refine LeO.ite ?_ ?_
      | refine LeO.bind ?_ (fun _ => ?_)
    · intro y0 y1 y2 y3 y4
      unfold cooperagelaw15_RecipeSays.l1
      repeat' first
      | (with_reducible exact ih0 _ _ _)
      | (with_reducible exact ih1 _ _ _ _)
      | (with_reducible exact ih2 _ _ _ _ _)
      | (with_reducible exact ih3 _ _ _ _ _)
      | (with_reducible exact LeO.refl _)
      | (with_reducible exact LeO.none _)
      | (with_reducible refine LeO.ite ?_ ?_)
      | (with_reducible refine LeO.bind ?_ (fun _ => ?_))
      | exact ih0 _ _ _
      | exact ih1 _ _ _ _
      | exact ih2 _ _ _ _ _
      | exact ih3 _ _ _ _ _
      | exact LeO.none _
      | refine LeO.ite ?_ ?_
      | refine LeO.bind ?_ (fun _ => ?_)
theorem cooperagelaw15_RecipeSays.mono : ∀ a0 k, LeO (cooperagelaw15_RecipeSays.f k a0) (cooperagelaw15_RecipeSays.f (k + 1) a0) := by
  intro a0 k
  obtain ⟨ih0, ih1, ih2, ih3⟩ := cooperagelaw15_RecipeSays.mono_l k
  unfold cooperagelaw15_RecipeSays.f
  repeat' first
      | (with_reducible exact ih0 _ _ _)
      | (with_reducible exact ih1 _ _ _ _)
      | (with_reducible exact ih2 _ _ _ _ _)
      | (with_reducible exact ih3 _ _ _ _ _)
      | (with_reducible exact LeO.refl _)
      | (with_reducible exact LeO.none _)
      | (with_reducible refine LeO.ite ?_ ?_)
      | (with_reducible refine LeO.bind ?_ (fun _ => ?_))
      | exact ih0 _ _ _
      | exact ih1 _ _ _ _
      | exact ih2 _ _ _ _ _
      | exact ih3 _ _ _ _ _
      | exact LeO.none _
      | refine LeO.ite ?_ ?_
      | refine LeO.bind ?_ (fun _ => ?_)
set_option maxHeartbeats 8000000 in
set_option maxRecDepth 100000 in
theorem cooperagelaw15_RecipeSays.calls (k : Nat) (A0 : Option Addr) (c0 : Nat) (l0 : List ByteArray) (r : Bool) (w : World) (hG : Fr.Glob w) (hr0 : Kd.C Kd.string w A0 l0.length l0) (hc0 : l0.length ≤ c0) (h : cooperagelaw15_RecipeSays.f k l0 = some r) :
    Calls Tryd.prog 6 #[.slice A0 l0.length c0] w fun e w' => e = .returned (.bool r) ∧ Below w.heap.size w w' := by
  have HR0 := Aside0.mk hr0
  have HC0 := Aside0.mk hc0
  clear hr0 hc0
  have HB := Aside0.mk (Below.refl w.heap.size w)
  have H : ((cooperagelaw15_shown.f).bind fun t215 => (if t215 = true then (cooperagelaw15_RecipeSays.j0 k l0 t215 (decide ((l0.length : Int) > 12))) else (cooperagelaw15_RecipeSays.j0 k l0 t215 true))) = some r := h
  clear h
  replace H := Option.bind_eq_some_iff.mp H
  obtain ⟨t215, A20, H⟩ := H
  replace H : (if t215 = true then (cooperagelaw15_RecipeSays.j0 k l0 t215 (decide ((l0.length : Int) > 12))) else (cooperagelaw15_RecipeSays.j0 k l0 t215 true)) = some r := H
  have A2 := Aside0.mk A20
  clear A20
  have HC3 := Aside0.mk H
  clear H
  go_enter Tryd.func6, Tryd.ntmps6
  go_upto_region 2 with (first | ((with_reducible refine gate_callee (f := 8) rfl ?_); refine goesL_ (some 11) rfl rfl Tryd.func8 (by kernel_rfl) rfl #[] rfl (by (try simp only [List.map_toArray, List.map_cons, List.map_nil]); first | done | rfl | (simp only [List.length_drop, List.length_take]; rfl)) ?_; (with_reducible refine (cooperagelaw15_shown.calls  t215 _ ?side1 A2.out).mono ?_); (case side1 => exact Fr.Glob.below hG (by repeat (first | (with_reducible first | exact HB.out | apply below_alloc | apply pw_below_drewN | apply below_drew1) | exact HB.out))); rintro e w4 ⟨rfl, hb⟩; refine ⟨_, rfl, ?_⟩; have n0_ := Aside0.mk (below_step (by repeat (first | (with_reducible first | exact HB.out | apply below_alloc | apply pw_below_drewN | apply below_drew1) | exact HB.out)) hb); clear HB; have HB := n0_; clear n0_; (try clear hb); (try clear hb2); (try clear hk); (try clear hi)))
  (try simp only [Act.put, List.setIfInBounds_toArray, List.set_cons_zero, List.set_cons_succ])
  go_cut [18] (fun v18 wc => ∃ (kq : Nat) (x18_2 : Bool), v18 = .bool x18_2 ∧ Aside0 (cooperagelaw15_RecipeSays.j0 kq l0 t215 x18_2 = some r) ∧ Aside0 (kq ≤ k) ∧ Aside0 (Below w.heap.size w wc))
  case first =>
    have H := HC3.out
    clear HC3
    by_cases c5 : t215 = true
    · subst c5
      have H1 : (cooperagelaw15_RecipeSays.j0 k l0 true (decide ((l0.length : Int) > 12))) = some r := by rw [if_pos rfl] at H; exact H
      clear H
      have H := H1
      clear H1
      have H' := Aside0.mk H
      clear H
      go_wp2
      go_meet
      case rel => exact ⟨_, (decide ((l0.length : Int) > 12)), (by first | rfl | (simp; done) | (simp [*]; done)), H', ⟨by first | omega | exact Nat.le_refl _⟩, ⟨by repeat (first | (with_reducible first | exact HB.out | apply below_alloc | apply pw_below_drewN | apply below_drew1) | exact HB.out)⟩⟩
    · replace c5 := Bool.eq_false_iff.mpr c5
      subst c5
      have H1 : (cooperagelaw15_RecipeSays.j0 k l0 false true) = some r := by rw [if_neg (show ¬ (false = true) by decide)] at H; exact H
      clear H
      have H := H1
      clear H1
      have H' := Aside0.mk H
      clear H
      go_wp2
      go_meet
      case rel => exact ⟨_, (true), (by first | rfl | (simp; done) | (simp [*]; done)), H', ⟨by first | omega | exact Nat.le_refl _⟩, ⟨by repeat (first | (with_reducible first | exact HB.out | apply below_alloc | apply pw_below_drewN | apply below_drew1) | exact HB.out)⟩⟩
  case rest =>
    clear HC3
    try clear p2
    try clear c5
    obtain ⟨kq, x18_2, rfl, HA, HJ2, HB⟩ := hcut
    cases kq with
    | zero => exact absurd HA.out (by simp [cooperagelaw15_RecipeSays.j0])
    | succ kj2 =>
      have H := HA.out
      clear HA
      simp only [cooperagelaw15_RecipeSays.j0] at H
      by_cases c6 : x18_2 = true
      · subst c6
        have H1 : (some t215) = some r := by rw [if_pos rfl] at H; exact H
        clear H
        have H := H1
        clear H1
        obtain rfl := Option.some.inj H
        go_wp2
        go_ret
        exact ⟨by first | rfl | (simp [errW_none, errW_some] <;> rfl) | (simp [*, errW_none, errW_some] <;> rfl) | (simp [errW_none, errW_some]; cases a0.toList <;> rfl), by repeat (first | (with_reducible first | exact HB.out | apply below_alloc | apply pw_below_drewN | apply below_drew1) | exact HB.out)⟩
      · replace c6 := Bool.eq_false_iff.mpr c6
        subst c6
        have H1 : (cooperagelaw15_RecipeSays.l0 kj2 l0 (([(⟨#[116, 111, 117, 99, 104, 32, 116]⟩ : ByteArray)] : List ByteArray)) (⟨#[]⟩ : ByteArray) 0) = some r := by rw [if_neg (show ¬ (false = true) by decide)] at H; exact H
        clear H
        have H := H1
        clear H1
        obtain ⟨y216, hy216⟩ : ∃ y_ : List ByteArray, y_ = (([(⟨#[116, 111, 117, 99, 104, 32, 116]⟩ : ByteArray)] : List ByteArray)) := ⟨_, rfl⟩
        replace H : (cooperagelaw15_RecipeSays.l0 kj2 l0 y216 (⟨#[]⟩ : ByteArray) 0) = some r := by first | (rw [hy216]; with_reducible exact H) | (have H2_ := (Option.bind_some _ _).symm.trans H; rw [hy216]; with_reducible exact H2_) | (have H2_ := (Option.bind_some _ _).symm.trans H; with_reducible exact H2_) | with_reducible exact H | (rw [hy216]; exact H) | exact H
        have Ny216 := Aside0.mk hy216
        clear hy216
        have H' := Aside0.mk H
        clear H
        go_wp2_with (first | ((with_reducible refine gate_dst (N := 20) rfl ?_); (try (refine gate_guard (by rfl) ?_; dsimp only)); refine Kd.R_lit Kd.string _ 9 ?hg (N := 20) ?hd (xs := ([(⟨#[116, 111, 117, 99, 104, 32, 116]⟩ : ByteArray)] : List ByteArray)) (inner := [.string (⟨#[116, 111, 117, 99, 104, 32, 116]⟩ : ByteArray)]) (ok := fun _ => True) (okp := fun _ => True) ?hr ?hp (fun _ hk => hk) trivial (Below.refl _ _) (Nat.le_refl _) (by simp) ?_; (case hd => rfl); (case hg => rfl); (case hr => first | (go_simp; done) | (go_simp; rfl)); (case hp => exact (Reps.one (show Kd.M Kd.string _ _ _ (⟨#[116, 111, 117, 99, 104, 32, 116]⟩ : ByteArray) [.string (⟨#[116, 111, 117, 99, 104, 32, 116]⟩ : ByteArray)] from rfl) (Reps.none _ _))); intro v217 w7 ho8 hb hg_ hnew_; clear hg_ hnew_; (first | rw [← Ny216.out] at ho8 | (simp only [Int.reduceToNat] at ho8; rw [← Ny216.out] at ho8)); have n0_ := Aside0.mk (Kd.R_lower ho8 (below_size (by repeat (first | (with_reducible first | exact HB.out | apply below_alloc | apply pw_below_drewN | apply below_drew1) | exact HB.out)))); have n1_ := Aside0.mk (below_step (by repeat (first | (with_reducible first | exact HB.out | apply below_alloc | apply pw_below_drewN | apply below_drew1) | exact HB.out)) hb); clear HB; have HO218 := n0_; have HB := n1_; clear n0_ n1_; clear hb ho8))
        go_loopg [4, 5, 6] kj2 (fun kq v4 v5 v6 w' => ∃ (x4_2 : List ByteArray) (x5_2 : ByteArray) (x6_2 : Int), v5 = .string x5_2 ∧ v6 = .int .i64 x6_2 ∧ Aside0 (cooperagelaw15_RecipeSays.l0 kq l0 x4_2 x5_2 x6_2 = some r) ∧ Aside0 (kq ≤ kj2) ∧ Aside0 (Kd.R Kd.string 9 w' w.heap.size (fun _ => True) v4 x4_2) ∧ Aside0 (Below w.heap.size w w'))
        case atStart => exact ⟨(y216), ((⟨#[]⟩ : ByteArray)), (0), (by first | rfl | (simp; done) | (simp [*]; done)), (by first | rfl | (simp; done) | (simp [*]; done)), H', ⟨Nat.le_refl _⟩, ⟨by (with_reducible repeat (first | apply Kd.R_alloc | apply Kd.R_drewN | apply Kd.R_drew)); exact HO218.out⟩, ⟨by repeat (first | (with_reducible first | exact HB.out | apply below_alloc | apply pw_below_drewN | apply below_drew1) | exact HB.out)⟩⟩
        case round =>
          clear H'
          try clear p2
          try clear c5
          try clear c6
          try clear c8
          try clear p2
          obtain ⟨x4_2, x5_2, x6_2, rfl, rfl, HA, HK2, HO_4, HB⟩ := hrel
          cases gk with
          | zero => exact absurd HA.out (by simp [cooperagelaw15_RecipeSays.l0])
          | succ k2 =>
            have H := HA.out
            clear HA
            simp only [cooperagelaw15_RecipeSays.l0] at H
            by_cases c9 : x6_2 < (l0.length : Int)
            · rw [if_pos c9] at H
              have c9b0 : decide (x6_2 < (l0.length : Int)) = true := decide_eq_true c9
              clear c9
              have HC10 := Aside0.mk H
              clear H
              go_upto_region 9 with (fail)
              go_cut [39] (fun v39 wc => ∃ (kq : Nat) (x39_9 : Bool), v39 = .bool x39_9 ∧ Aside0 (cooperagelaw15_RecipeSays.j2 kq l0 x4_2 x5_2 x6_2 x39_9 = some r) ∧ Aside0 (kq ≤ k2) ∧ Aside0 (Kd.R Kd.string 9 wc w.heap.size (fun _ => True) u4 x4_2) ∧ Aside0 (Below w.heap.size w wc))
              case first =>
                have H := HC10.out
                clear HC10
                by_cases c11 : 0 ≤ x6_2
                · rw [if_pos c11] at H
                  have c11b0 : decide (0 ≤ x6_2) = true := decide_eq_true c11
                  clear c11
                  (first | rw [c11b0] | (simp only [i64_w, i32_w]; rw [c11b0]) | skip)
                  by_cases c12 : (rdOf ByteArray.empty l0 x6_2).toList = ([] : List UInt8)
                  · rw [if_pos c12] at H
                    have c12b0 : ((rdOf ByteArray.empty l0 x6_2).toList == ([] : List UInt8)) = true := beq_iff_eq.mpr c12
                    have c12b1 : ((rdOf ByteArray.empty l0 x6_2).toList != ([] : List UInt8)) = false := bne_eq_false_iff_eq.mpr c12
                    clear c12
                    have H' := Aside0.mk H
                    clear H
                    have p222 : 0 ≤ (x6_2 : Int) := of_decide_eq_true (by first | (with_reducible assumption) | assumption)
                    have q222 : x6_2 < (l0.length : Int) := of_decide_eq_true (by first | (with_reducible assumption) | assumption)
                    obtain ⟨ad222, e222, hx222_0⟩ := Kd.at_string HR0.out x6_2 p222 q222
                    cases e222
                    replace hx222_0 := (HB.out.cell (World.block_lt_of_cell? w _ hx222_0)).trans hx222_0
                    replace p222 := eq_true p222
                    replace q222 := eq_true q222
                    go_wp2
                    go_meet
                    case rel => exact ⟨_, (true), (by first | rfl | (simp; done) | (simp [*]; done)), H', ⟨by have := HJ2.out; have := HK2.out; first | omega | exact Nat.le_refl _⟩, ⟨by (with_reducible repeat (first | apply Kd.R_alloc | apply Kd.R_drewN | apply Kd.R_drew)); exact HO_4.out⟩, ⟨by repeat (first | (with_reducible first | exact HB.out | apply below_alloc | apply pw_below_drewN | apply below_drew1) | exact HB.out)⟩⟩
                  · rw [if_neg c12] at H
                    have c12b0 : ((rdOf ByteArray.empty l0 x6_2).toList == ([] : List UInt8)) = false := beq_eq_false_iff_ne.mpr c12
                    have c12b1 : ((rdOf ByteArray.empty l0 x6_2).toList != ([] : List UInt8)) = true := bne_iff_ne.mpr c12
                    have H' := Aside0.mk H
                    clear H
                    have p222 : 0 ≤ (x6_2 : Int) := of_decide_eq_true (by first | (with_reducible assumption) | assumption)
                    have q222 : x6_2 < (l0.length : Int) := of_decide_eq_true (by first | (with_reducible assumption) | assumption)
                    obtain ⟨ad222, e222, hx222_0⟩ := Kd.at_string HR0.out x6_2 p222 q222
                    cases e222
                    replace hx222_0 := (HB.out.cell (World.block_lt_of_cell? w _ hx222_0)).trans hx222_0
                    replace p222 := eq_true p222
                    replace q222 := eq_true q222
                    have p223 : 0 ≤ (x6_2 : Int) := of_decide_eq_true (by first | (with_reducible assumption) | assumption)
                    have q223 : x6_2 < (l0.length : Int) := of_decide_eq_true (by first | (with_reducible assumption) | assumption)
                    obtain ⟨ad223, e223, hx223_0⟩ := Kd.at_string HR0.out x6_2 p223 q223
                    obtain rfl : ad222 = ad223 := (by injection e223)
                    replace hx223_0 := (HB.out.cell (World.block_lt_of_cell? w _ hx223_0)).trans hx223_0
                    replace p223 := eq_true p223
                    replace q223 := eq_true q223
                    go_wp2
                    go_meet
                    case rel => exact ⟨_, (decide (((rdOf ByteArray.empty l0 x6_2).size : Int) > 100)), (by first | rfl | (simp; done) | (simp [*]; done)), H', ⟨by have := HJ2.out; have := HK2.out; first | omega | exact Nat.le_refl _⟩, ⟨by (with_reducible repeat (first | apply Kd.R_alloc | apply Kd.R_drewN | apply Kd.R_drew)); exact HO_4.out⟩, ⟨by repeat (first | (with_reducible first | exact HB.out | apply below_alloc | apply pw_below_drewN | apply below_drew1) | exact HB.out)⟩⟩
                · rw [if_neg c11] at H
                  exact absurd H (by simp)
              case rest =>
                clear HC10
                try clear c1
                try clear p2
                try clear q2
                try clear hx2
                try clear c5
                try clear c6
                try clear c8
                try clear c9
                try clear c9b0
                try clear c11
                try clear c11b0
                try clear c12
                try clear c12b0
                try clear c12b1
                try clear hx222_0
                try clear hx223_0
                try clear p2
                try clear p222
                try clear p223
                try clear q222
                try clear q223
                obtain ⟨kq, x39_9, rfl, HA, HJ9, HO_4, HB⟩ := hcut
                cases kq with
                | zero => exact absurd HA.out (by simp [cooperagelaw15_RecipeSays.j2])
                | succ kj9 =>
                  have H := HA.out
                  clear HA
                  simp only [cooperagelaw15_RecipeSays.j2] at H
                  by_cases c13 : x39_9 = true
                  · subst c13
                    have H1 : (some true) = some r := by rw [if_pos rfl] at H; exact H
                    clear H
                    have H := H1
                    clear H1
                    obtain rfl := Option.some.inj H
                    go_wp2
                    go_ret
                    exact ⟨by first | rfl | (simp [errW_none, errW_some] <;> rfl) | (simp [*, errW_none, errW_some] <;> rfl) | (simp [errW_none, errW_some]; cases a0.toList <;> rfl), by repeat (first | (with_reducible first | exact HB.out | apply below_alloc | apply pw_below_drewN | apply below_drew1) | exact HB.out)⟩
                  · replace c13 := Bool.eq_false_iff.mpr c13
                    subst c13
                    have H1 : (cooperagelaw15_RecipeSays.l1 kj9 l0 x4_2 x5_2 x6_2 0) = some r := by rw [if_neg (show ¬ (false = true) by decide)] at H; exact H
                    clear H
                    have H := H1
                    clear H1
                    have H' := Aside0.mk H
                    clear H
                    go_wp2
                    go_loopg [7] kj9 (fun kq v7 w' => ∃ (x7_4 : Int), v7 = .int .i64 x7_4 ∧ Aside0 (cooperagelaw15_RecipeSays.l1 kq l0 x4_2 x5_2 x6_2 x7_4 = some r) ∧ Aside0 (kq ≤ kj9) ∧ Aside0 (Kd.R Kd.string 9 w' w.heap.size (fun _ => True) u4 x4_2) ∧ Aside0 (Below w.heap.size w w'))
                    case atStart => exact ⟨(0), (by first | rfl | (simp; done) | (simp [*]; done)), H', ⟨Nat.le_refl _⟩, ⟨by (with_reducible repeat (first | apply Kd.R_alloc | apply Kd.R_drewN | apply Kd.R_drew)); exact HO_4.out⟩, ⟨by repeat (first | (with_reducible first | exact HB.out | apply below_alloc | apply pw_below_drewN | apply below_drew1) | exact HB.out)⟩⟩
                    case round =>
                      clear H'
                      try clear c1
                      try clear p2
                      try clear q2
                      try clear hx2
                      try clear c5
                      try clear c6
                      try clear c8
                      try clear c9
                      try clear c9b0
                      try clear c11
                      try clear c11b0
                      try clear c12
                      try clear c12b0
                      try clear c12b1
                      try clear c13
                      try clear hx222_0
                      try clear hx223_0
                      try clear p2
                      try clear p222
                      try clear p223
                      try clear q2
                      try clear q222
                      try clear q223
                      obtain ⟨x7_4, rfl, HA, HK4, HO_4, HB⟩ := hrel
                      cases gk with
                      | zero => exact absurd HA.out (by simp [cooperagelaw15_RecipeSays.l1])
                      | succ k4 =>
                        have H := HA.out
                        clear HA
                        simp only [cooperagelaw15_RecipeSays.l1] at H
                        by_cases c14 : 0 ≤ x6_2
                        · rw [if_pos c14] at H
                          have c14b0 : decide (0 ≤ x6_2) = true := decide_eq_true c14
                          clear c14
                          by_cases c15 : x6_2 < (l0.length : Int)
                          · rw [if_pos c15] at H
                            have c15b0 : decide (x6_2 < (l0.length : Int)) = true := decide_eq_true c15
                            clear c15
                            by_cases c16 : x7_4 < ((rdOf ByteArray.empty l0 x6_2).size : Int)
                            · rw [if_pos c16] at H
                              have c16b0 : decide (x7_4 < ((rdOf ByteArray.empty l0 x6_2).size : Int)) = true := decide_eq_true c16
                              clear c16
                              by_cases c17 : 0 ≤ x7_4
                              · rw [if_pos c17] at H
                                have c17b0 : decide (0 ≤ x7_4) = true := decide_eq_true c17
                                clear c17
                                by_cases c19 : (bt (rdOf ByteArray.empty l0 x6_2) x7_4) = 32
                                · rw [if_pos c19] at H
                                  have c19b0 : ((bt (rdOf ByteArray.empty l0 x6_2) x7_4) == 32) = true := beq_iff_eq.mpr c19
                                  have c19b1 : ((bt (rdOf ByteArray.empty l0 x6_2) x7_4) != 32) = false := bne_eq_false_iff_eq.mpr c19
                                  clear c19
                                  obtain rfl := Option.some.inj H
                                  have p224 : 0 ≤ (x6_2 : Int) := of_decide_eq_true (by first | (with_reducible assumption) | assumption)
                                  have q224 : x6_2 < (l0.length : Int) := of_decide_eq_true (by first | (with_reducible assumption) | assumption)
                                  obtain ⟨ad224, e224, hx224_0⟩ := Kd.at_string HR0.out x6_2 p224 q224
                                  cases e224
                                  replace hx224_0 := (HB.out.cell (World.block_lt_of_cell? w _ hx224_0)).trans hx224_0
                                  replace p224 := eq_true p224
                                  replace q224 := eq_true q224
                                  have p225 : 0 ≤ (x6_2 : Int) := of_decide_eq_true (by first | (with_reducible assumption) | assumption)
                                  have q225 : x6_2 < (l0.length : Int) := of_decide_eq_true (by first | (with_reducible assumption) | assumption)
                                  obtain ⟨ad225, e225, hx225_0⟩ := Kd.at_string HR0.out x6_2 p225 q225
                                  obtain rfl : ad224 = ad225 := (by injection e225)
                                  replace hx225_0 := (HB.out.cell (World.block_lt_of_cell? w _ hx225_0)).trans hx225_0
                                  replace p225 := eq_true p225
                                  replace q225 := eq_true q225
                                  have p18 : 0 ≤ (x7_4 : Int) := of_decide_eq_true (by first | (with_reducible assumption) | assumption)
                                  have q18 : x7_4 < ((rdOf ByteArray.empty l0 x6_2).size : Int) := of_decide_eq_true (by first | (with_reducible assumption) | assumption)
                                  have hx18 := bt_at (rdOf ByteArray.empty l0 x6_2) x7_4
                                  replace p18 := eq_true p18
                                  replace q18 := eq_true q18
                                  go_wp2
                                  go_ret
                                  exact ⟨by first | rfl | (simp [errW_none, errW_some] <;> rfl) | (simp [*, errW_none, errW_some] <;> rfl) | (simp [errW_none, errW_some]; cases a0.toList <;> rfl), by repeat (first | (with_reducible first | exact HB.out | apply below_alloc | apply pw_below_drewN | apply below_drew1) | exact HB.out)⟩
                                · rw [if_neg c19] at H
                                  have c19b0 : ((bt (rdOf ByteArray.empty l0 x6_2) x7_4) == 32) = false := beq_eq_false_iff_ne.mpr c19
                                  have c19b1 : ((bt (rdOf ByteArray.empty l0 x6_2) x7_4) != 32) = true := bne_iff_ne.mpr c19
                                  by_cases c21 : (bt (rdOf ByteArray.empty l0 x6_2) x7_4) = 9
                                  · rw [if_pos c21] at H
                                    have c21b0 : ((bt (rdOf ByteArray.empty l0 x6_2) x7_4) == 9) = true := beq_iff_eq.mpr c21
                                    have c21b1 : ((bt (rdOf ByteArray.empty l0 x6_2) x7_4) != 9) = false := bne_eq_false_iff_eq.mpr c21
                                    clear c21
                                    obtain rfl := Option.some.inj H
                                    have p224 : 0 ≤ (x6_2 : Int) := of_decide_eq_true (by first | (with_reducible assumption) | assumption)
                                    have q224 : x6_2 < (l0.length : Int) := of_decide_eq_true (by first | (with_reducible assumption) | assumption)
                                    obtain ⟨ad224, e224, hx224_0⟩ := Kd.at_string HR0.out x6_2 p224 q224
                                    cases e224
                                    replace hx224_0 := (HB.out.cell (World.block_lt_of_cell? w _ hx224_0)).trans hx224_0
                                    replace p224 := eq_true p224
                                    replace q224 := eq_true q224
                                    have p225 : 0 ≤ (x6_2 : Int) := of_decide_eq_true (by first | (with_reducible assumption) | assumption)
                                    have q225 : x6_2 < (l0.length : Int) := of_decide_eq_true (by first | (with_reducible assumption) | assumption)
                                    obtain ⟨ad225, e225, hx225_0⟩ := Kd.at_string HR0.out x6_2 p225 q225
                                    obtain rfl : ad224 = ad225 := (by injection e225)
                                    replace hx225_0 := (HB.out.cell (World.block_lt_of_cell? w _ hx225_0)).trans hx225_0
                                    replace p225 := eq_true p225
                                    replace q225 := eq_true q225
                                    have p18 : 0 ≤ (x7_4 : Int) := of_decide_eq_true (by first | (with_reducible assumption) | assumption)
                                    have q18 : x7_4 < ((rdOf ByteArray.empty l0 x6_2).size : Int) := of_decide_eq_true (by first | (with_reducible assumption) | assumption)
                                    have hx18 := bt_at (rdOf ByteArray.empty l0 x6_2) x7_4
                                    replace p18 := eq_true p18
                                    replace q18 := eq_true q18
                                    have p226 : 0 ≤ (x6_2 : Int) := of_decide_eq_true (by first | (with_reducible assumption) | assumption)
                                    have q226 : x6_2 < (l0.length : Int) := of_decide_eq_true (by first | (with_reducible assumption) | assumption)
                                    obtain ⟨ad226, e226, hx226_0⟩ := Kd.at_string HR0.out x6_2 p226 q226
                                    obtain rfl : ad224 = ad226 := (by injection e226)
                                    replace hx226_0 := (HB.out.cell (World.block_lt_of_cell? w _ hx226_0)).trans hx226_0
                                    replace p226 := eq_true p226
                                    replace q226 := eq_true q226
                                    have p20 : 0 ≤ (x7_4 : Int) := of_decide_eq_true (by first | (with_reducible assumption) | assumption)
                                    have q20 : x7_4 < ((rdOf ByteArray.empty l0 x6_2).size : Int) := of_decide_eq_true (by first | (with_reducible assumption) | assumption)
                                    have hx20 := bt_at (rdOf ByteArray.empty l0 x6_2) x7_4
                                    replace p20 := eq_true p20
                                    replace q20 := eq_true q20
                                    go_wp2
                                    go_ret
                                    exact ⟨by first | rfl | (simp [errW_none, errW_some] <;> rfl) | (simp [*, errW_none, errW_some] <;> rfl) | (simp [errW_none, errW_some]; cases a0.toList <;> rfl), by repeat (first | (with_reducible first | exact HB.out | apply below_alloc | apply pw_below_drewN | apply below_drew1) | exact HB.out)⟩
                                  · rw [if_neg c21] at H
                                    have c21b0 : ((bt (rdOf ByteArray.empty l0 x6_2) x7_4) == 9) = false := beq_eq_false_iff_ne.mpr c21
                                    have c21b1 : ((bt (rdOf ByteArray.empty l0 x6_2) x7_4) != 9) = true := bne_iff_ne.mpr c21
                                    have H' := Aside0.mk H
                                    clear H
                                    have p224 : 0 ≤ (x6_2 : Int) := of_decide_eq_true (by first | (with_reducible assumption) | assumption)
                                    have q224 : x6_2 < (l0.length : Int) := of_decide_eq_true (by first | (with_reducible assumption) | assumption)
                                    obtain ⟨ad224, e224, hx224_0⟩ := Kd.at_string HR0.out x6_2 p224 q224
                                    cases e224
                                    replace hx224_0 := (HB.out.cell (World.block_lt_of_cell? w _ hx224_0)).trans hx224_0
                                    replace p224 := eq_true p224
                                    replace q224 := eq_true q224
                                    have p225 : 0 ≤ (x6_2 : Int) := of_decide_eq_true (by first | (with_reducible assumption) | assumption)
                                    have q225 : x6_2 < (l0.length : Int) := of_decide_eq_true (by first | (with_reducible assumption) | assumption)
                                    obtain ⟨ad225, e225, hx225_0⟩ := Kd.at_string HR0.out x6_2 p225 q225
                                    obtain rfl : ad224 = ad225 := (by injection e225)
                                    replace hx225_0 := (HB.out.cell (World.block_lt_of_cell? w _ hx225_0)).trans hx225_0
                                    replace p225 := eq_true p225
                                    replace q225 := eq_true q225
                                    have p18 : 0 ≤ (x7_4 : Int) := of_decide_eq_true (by first | (with_reducible assumption) | assumption)
                                    have q18 : x7_4 < ((rdOf ByteArray.empty l0 x6_2).size : Int) := of_decide_eq_true (by first | (with_reducible assumption) | assumption)
                                    have hx18 := bt_at (rdOf ByteArray.empty l0 x6_2) x7_4
                                    replace p18 := eq_true p18
                                    replace q18 := eq_true q18
                                    have p226 : 0 ≤ (x6_2 : Int) := of_decide_eq_true (by first | (with_reducible assumption) | assumption)
                                    have q226 : x6_2 < (l0.length : Int) := of_decide_eq_true (by first | (with_reducible assumption) | assumption)
                                    obtain ⟨ad226, e226, hx226_0⟩ := Kd.at_string HR0.out x6_2 p226 q226
                                    obtain rfl : ad224 = ad226 := (by injection e226)
                                    replace hx226_0 := (HB.out.cell (World.block_lt_of_cell? w _ hx226_0)).trans hx226_0
                                    replace p226 := eq_true p226
                                    replace q226 := eq_true q226
                                    have p20 : 0 ≤ (x7_4 : Int) := of_decide_eq_true (by first | (with_reducible assumption) | assumption)
                                    have q20 : x7_4 < ((rdOf ByteArray.empty l0 x6_2).size : Int) := of_decide_eq_true (by first | (with_reducible assumption) | assumption)
                                    have hx20 := bt_at (rdOf ByteArray.empty l0 x6_2) x7_4
                                    replace p20 := eq_true p20
                                    replace q20 := eq_true q20
                                    go_wp2
                                    go_roundg k4
                                    case measure => have := HJ2.out; have := HK2.out; have := HJ9.out; have := HK4.out; omega
                                    case rel => exact ⟨(wrap64 (x7_4 + 1)), (by first | rfl | (simp; done) | (simp [*]; done)), H', ⟨by have := HJ2.out; have := HK2.out; have := HJ9.out; have := HK4.out; omega⟩, ⟨by (with_reducible repeat (first | apply Kd.R_alloc | apply Kd.R_drewN | apply Kd.R_drew)); exact HO_4.out⟩, ⟨by repeat (first | (with_reducible first | exact HB.out | apply below_alloc | apply pw_below_drewN | apply below_drew1) | exact HB.out)⟩⟩
                              · rw [if_neg c17] at H
                                exact absurd H (by simp)
                            · rw [if_neg c16] at H
                              have c16b0 : decide (x7_4 < ((rdOf ByteArray.empty l0 x6_2).size : Int)) = false := decide_eq_false c16
                              clear c16
                              by_cases c22 : 7 + (rdOf ByteArray.empty l0 x6_2).size ≤ 9223372036854775807
                              · rw [if_pos c22] at H
                                have c22b0 := eq_true c22
                                have c22b1 : decide (7 + (rdOf ByteArray.empty l0 x6_2).size ≤ 9223372036854775807) = true := decide_eq_true c22
                                try have c22b2 : (9223372036854775807 < 7 + (rdOf ByteArray.empty l0 x6_2).size) = False := eq_false (Nat.not_lt.2 c22)
                                by_cases c23 : ((⟨#[109, 111, 114, 101, 32, 116, 32]⟩ : ByteArray) ++ (rdOf ByteArray.empty l0 x6_2)).size + 2 ≤ 9223372036854775807
                                · rw [if_pos c23] at H
                                  have c23b0 := eq_true c23
                                  have c23b1 : decide (((⟨#[109, 111, 114, 101, 32, 116, 32]⟩ : ByteArray) ++ (rdOf ByteArray.empty l0 x6_2)).size + 2 ≤ 9223372036854775807) = true := decide_eq_true c23
                                  try have c23b2 : (9223372036854775807 < ((⟨#[109, 111, 114, 101, 32, 116, 32]⟩ : ByteArray) ++ (rdOf ByteArray.empty l0 x6_2)).size + 2) = False := eq_false (Nat.not_lt.2 c23)
                                  try (have c23tb0 := c23b0; simp only [ByteArray.size_append, (show ((⟨#[109, 111, 114, 101, 32, 116, 32]⟩ : ByteArray)).size = 7 from rfl)] at c23tb0)
                                  try (have c23tb1 := c23b1; simp only [ByteArray.size_append, (show ((⟨#[109, 111, 114, 101, 32, 116, 32]⟩ : ByteArray)).size = 7 from rfl)] at c23tb1)
                                  try (have c23tb2 := c23b2; simp only [ByteArray.size_append, (show ((⟨#[109, 111, 114, 101, 32, 116, 32]⟩ : ByteArray)).size = 7 from rfl)] at c23tb2)
                                  try (have c23sb0 := c23b0; simp only [ByteArray.size_append] at c23sb0)
                                  try (have c23sb1 := c23b1; simp only [ByteArray.size_append] at c23sb1)
                                  try (have c23sb2 := c23b2; simp only [ByteArray.size_append] at c23sb2)
                                  by_cases c24 : x4_2.length < 8796093022208
                                  · rw [if_pos c24] at H
                                    have LMc24 := Aside0.mk c24
                                    clear c24
                                    obtain ⟨y228, hy228⟩ : ∃ y_ : List ByteArray, y_ = (x4_2 ++ [((⟨#[109, 111, 114, 101, 32, 116, 32]⟩ : ByteArray) ++ (rdOf ByteArray.empty l0 x6_2)) ++ (⟨#[32, 120]⟩ : ByteArray)]) := ⟨_, rfl⟩
                                    replace H : (if x5_2.size + (rdOf ByteArray.empty l0 x6_2).size ≤ 9223372036854775807 then (if (x5_2 ++ (rdOf ByteArray.empty l0 x6_2)).size + 3 ≤ 9223372036854775807 then (cooperagelaw15_RecipeSays.l0 k4 l0 y228 ((x5_2 ++ (rdOf ByteArray.empty l0 x6_2)) ++ (⟨#[32, 120, 10]⟩ : ByteArray)) (wrap64 (x6_2 + 1))) else (none)) else (none)) = some r := by first | (rw [hy228]; with_reducible exact H) | (have H2_ := (Option.bind_some _ _).symm.trans H; rw [hy228]; with_reducible exact H2_) | (have H2_ := (Option.bind_some _ _).symm.trans H; with_reducible exact H2_) | with_reducible exact H | (rw [hy228]; exact H) | exact H
                                    have Ny228 := Aside0.mk hy228
                                    clear hy228
                                    by_cases c25 : x5_2.size + (rdOf ByteArray.empty l0 x6_2).size ≤ 9223372036854775807
                                    · rw [if_pos c25] at H
                                      have c25b0 := eq_true c25
                                      have c25b1 : decide (x5_2.size + (rdOf ByteArray.empty l0 x6_2).size ≤ 9223372036854775807) = true := decide_eq_true c25
                                      try have c25b2 : (9223372036854775807 < x5_2.size + (rdOf ByteArray.empty l0 x6_2).size) = False := eq_false (Nat.not_lt.2 c25)
                                      by_cases c26 : (x5_2 ++ (rdOf ByteArray.empty l0 x6_2)).size + 3 ≤ 9223372036854775807
                                      · rw [if_pos c26] at H
                                        have c26b0 := eq_true c26
                                        have c26b1 : decide ((x5_2 ++ (rdOf ByteArray.empty l0 x6_2)).size + 3 ≤ 9223372036854775807) = true := decide_eq_true c26
                                        try have c26b2 : (9223372036854775807 < (x5_2 ++ (rdOf ByteArray.empty l0 x6_2)).size + 3) = False := eq_false (Nat.not_lt.2 c26)
                                        try (have c26sb0 := c26b0; simp only [ByteArray.size_append] at c26sb0)
                                        try (have c26sb1 := c26b1; simp only [ByteArray.size_append] at c26sb1)
                                        try (have c26sb2 := c26b2; simp only [ByteArray.size_append] at c26sb2)
                                        have H' := Aside0.mk H
                                        clear H
                                        have p224 : 0 ≤ (x6_2 : Int) := of_decide_eq_true (by first | (with_reducible assumption) | assumption)
                                        have q224 : x6_2 < (l0.length : Int) := of_decide_eq_true (by first | (with_reducible assumption) | assumption)
                                        obtain ⟨ad224, e224, hx224_0⟩ := Kd.at_string HR0.out x6_2 p224 q224
                                        cases e224
                                        replace hx224_0 := (HB.out.cell (World.block_lt_of_cell? w _ hx224_0)).trans hx224_0
                                        replace p224 := eq_true p224
                                        replace q224 := eq_true q224
                                        have p227 : 0 ≤ (x6_2 : Int) := of_decide_eq_true (by first | (with_reducible assumption) | assumption)
                                        have q227 : x6_2 < (l0.length : Int) := of_decide_eq_true (by first | (with_reducible assumption) | assumption)
                                        obtain ⟨ad227, e227, hx227_0⟩ := Kd.at_string HR0.out x6_2 p227 q227
                                        obtain rfl : ad224 = ad227 := (by injection e227)
                                        replace hx227_0 := (HB.out.cell (World.block_lt_of_cell? w _ hx227_0)).trans hx227_0
                                        replace p227 := eq_true p227
                                        replace q227 := eq_true q227
                                        go_wp2_with (first | ((with_reducible refine gate_builtin (b := .append) (xs := #[.tmp 65, .tmp 72]) rfl ?_); (try (refine gate_guard (by rfl) ?_; dsimp only)); at_builtin; refine Kd.R_append Kd.string (w0 := w) w.heap.size rfl (.tmp 65) (.tmp 72) 22 9 (.string ⟨#[]⟩) 16 rfl Tryd.underlying22 info9 rfl (by decide) (by omega) u4 x4_2 (((⟨#[109, 111, 114, 101, 32, 116, 32]⟩ : ByteArray) ++ (rdOf ByteArray.empty l0 x6_2)) ++ (⟨#[32, 120]⟩ : ByteArray)) [.string (((⟨#[109, 111, 114, 101, 32, 116, 32]⟩ : ByteArray) ++ (rdOf ByteArray.empty l0 x6_2)) ++ (⟨#[32, 120]⟩ : ByteArray))] (fun _ => True) (fun _ => False) rfl rfl ?aP (fun _ hk => hk.elim) ?aF ?aO ?aB ?aS ?aL ?_; (case aP => exact rfl); (case aB => exact (by repeat (first | (with_reducible first | exact HB.out | apply below_alloc | apply pw_below_drewN | apply below_drew1) | exact HB.out))); (case aF => exact (fun _ _ => trivial)); (case aO => exact (by (with_reducible repeat (first | apply Kd.R_alloc | apply Kd.R_drewN | apply Kd.R_drew)); exact HO_4.out)); (case aS => exact (below_size (by repeat (first | (with_reducible first | exact HB.out | apply below_alloc | apply pw_below_drewN | apply below_drew1) | exact HB.out)))); (case aL => have := LMc24.out; omega); intro v229 w27 ho hb hg hat; rw [← Ny228.out] at ho; have n0_ := Aside0.mk (hb); have n1_ := Aside0.mk (ho); clear HB; clear HO_4; have HB := n0_; have HO230 := n1_; clear n0_ n1_; clear ho hb hg hat; have p231 : 0 ≤ (x6_2 : Int) := of_decide_eq_true (by first | (with_reducible assumption) | assumption); have q231 : x6_2 < (l0.length : Int) := of_decide_eq_true (by first | (with_reducible assumption) | assumption); obtain ⟨ad231, e231, hx231_0⟩ := Kd.at_string HR0.out x6_2 p231 q231; obtain rfl : ad224 = ad231 := (by injection e231); replace hx231_0 := (HB.out.cell (World.block_lt_of_cell? w _ hx231_0)).trans hx231_0; replace p231 := eq_true p231; replace q231 := eq_true q231))
                                        go_roundg k4
                                        case measure => have := HJ2.out; have := HK2.out; have := HJ9.out; have := HK4.out; omega
                                        case rel => exact ⟨(y228), ((x5_2 ++ (rdOf ByteArray.empty l0 x6_2)) ++ (⟨#[32, 120, 10]⟩ : ByteArray)), (wrap64 (x6_2 + 1)), (by first | rfl | (simp; done) | (simp [*]; done)), (by first | rfl | (simp; done) | (simp [*]; done)), H', ⟨by have := HJ2.out; have := HK2.out; have := HJ9.out; have := HK4.out; omega⟩, ⟨by (with_reducible repeat (first | apply Kd.R_alloc | apply Kd.R_drewN | apply Kd.R_drew)); exact HO230.out⟩, ⟨by repeat (first | (with_reducible first | exact HB.out | apply below_alloc | apply pw_below_drewN | apply below_drew1) | exact HB.out)⟩⟩
                                      · rw [if_neg c26] at H
                                        exact absurd H (by simp)
                                    · rw [if_neg c25] at H
                                      exact absurd H (by simp)
                                  · rw [if_neg c24] at H
                                    exact absurd H (by simp)
                                · rw [if_neg c23] at H
                                  exact absurd H (by simp)
                              · rw [if_neg c22] at H
                                exact absurd H (by simp)
                          · rw [if_neg c15] at H
                            exact absurd H (by simp)
                        · rw [if_neg c14] at H
                          exact absurd H (by simp)
            · rw [if_neg c9] at H
              have c9b0 : decide (x6_2 < (l0.length : Int)) = false := decide_eq_false c9
              clear c9
              replace H := Option.bind_eq_some_iff.mp H
              obtain ⟨⟨t219, t220, t221⟩, A280, H⟩ := H
              replace H : (if t219.toList = x5_2.toList then (if t220 = true then (some (t221 == 0)) else (some false)) else (some false)) = some r := H
              have A28 := Aside0.mk A280
              clear A280
              by_cases c29 : t219.toList = x5_2.toList
              · rw [if_pos c29] at H
                have c29b0 : (t219.toList == x5_2.toList) = true := beq_iff_eq.mpr c29
                have c29b1 : (t219.toList != x5_2.toList) = false := bne_eq_false_iff_eq.mpr c29
                clear c29
                by_cases c30 : t220 = true
                · subst c30
                  have H1 : (some (t221 == 0)) = some r := by rw [if_pos rfl] at H; exact H
                  clear H
                  have H := H1
                  clear H1
                  obtain rfl := Option.some.inj H
                  obtain ⟨Ao31, co31, eo31⟩ := Kd.R_slice HO_4.out
                  subst eo31
                  go_wp2_with (first | ((with_reducible refine gate_callee (f := 11) rfl ?_); refine goesL_ (some 83) rfl rfl Tryd.func11 (by kernel_rfl) rfl #[.slice Ao31 x4_2.length co31, .slice none 0 0, .string (⟨#[116]⟩ : ByteArray), .int .i64 9999] rfl (by (try simp only [List.map_toArray, List.map_cons, List.map_nil]); first | done | rfl | (simp only [List.length_drop, List.length_take]; rfl)) ?_; (refine (recipe_Run.calls _ _ x4_2 _ _ ([] : List (S31)) (⟨#[116]⟩ : ByteArray) 9999 t219 true t221 _ ?side1 ?side2 ?side3 ?side4 ?side5 A28.out).mono ?_); (case side1 => exact Fr.Glob.below hG (by repeat (first | (with_reducible first | exact HB.out | apply below_alloc | apply pw_below_drewN | apply below_drew1) | exact HB.out))); (case side2 => repeat (first | exact (Kd.R_reads' HO_4.out).2.2 | (with_reducible refine Kd.C_alloc ?_ _) | (with_reducible refine Kd.C_drewN ?_ _) | (with_reducible refine Kd.C_drew ?_))); (case side3 => exact (Kd.R_reads' HO_4.out).2.1); (case side4 => exact Kd.C_nil _ _); (case side5 => exact Nat.le_refl _); rintro e w32 ⟨rfl, hb⟩; refine ⟨_, rfl, ?_⟩; have n0_ := Aside0.mk (Kd.R_below (by (with_reducible repeat (first | apply Kd.R_alloc | apply Kd.R_drewN | apply Kd.R_drew)); exact HO_4.out) hb); have n1_ := Aside0.mk (below_step (by repeat (first | (with_reducible first | exact HB.out | apply below_alloc | apply pw_below_drewN | apply below_drew1) | exact HB.out)) hb); clear HO_4; clear HB; have HO_4 := n0_; have HB := n1_; clear n0_ n1_; (try clear hb); (try clear hb2); (try clear hk); (try clear hi)))
                  go_ret
                  exact ⟨by first | rfl | (simp [errW_none, errW_some] <;> rfl) | (simp [*, errW_none, errW_some] <;> rfl) | (simp [errW_none, errW_some]; cases a0.toList <;> rfl), by repeat (first | (with_reducible first | exact HB.out | apply below_alloc | apply pw_below_drewN | apply below_drew1) | exact HB.out)⟩
                · replace c30 := Bool.eq_false_iff.mpr c30
                  subst c30
                  have H1 : (some false) = some r := by rw [if_neg (show ¬ (false = true) by decide)] at H; exact H
                  clear H
                  have H := H1
                  clear H1
                  obtain rfl := Option.some.inj H
                  obtain ⟨Ao33, co33, eo33⟩ := Kd.R_slice HO_4.out
                  subst eo33
                  go_wp2_with (first | ((with_reducible refine gate_callee (f := 11) rfl ?_); refine goesL_ (some 83) rfl rfl Tryd.func11 (by kernel_rfl) rfl #[.slice Ao33 x4_2.length co33, .slice none 0 0, .string (⟨#[116]⟩ : ByteArray), .int .i64 9999] rfl (by (try simp only [List.map_toArray, List.map_cons, List.map_nil]); first | done | rfl | (simp only [List.length_drop, List.length_take]; rfl)) ?_; (refine (recipe_Run.calls _ _ x4_2 _ _ ([] : List (S31)) (⟨#[116]⟩ : ByteArray) 9999 t219 false t221 _ ?side1 ?side2 ?side3 ?side4 ?side5 A28.out).mono ?_); (case side1 => exact Fr.Glob.below hG (by repeat (first | (with_reducible first | exact HB.out | apply below_alloc | apply pw_below_drewN | apply below_drew1) | exact HB.out))); (case side2 => repeat (first | exact (Kd.R_reads' HO_4.out).2.2 | (with_reducible refine Kd.C_alloc ?_ _) | (with_reducible refine Kd.C_drewN ?_ _) | (with_reducible refine Kd.C_drew ?_))); (case side3 => exact (Kd.R_reads' HO_4.out).2.1); (case side4 => exact Kd.C_nil _ _); (case side5 => exact Nat.le_refl _); rintro e w34 ⟨rfl, hb⟩; refine ⟨_, rfl, ?_⟩; have n0_ := Aside0.mk (Kd.R_below (by (with_reducible repeat (first | apply Kd.R_alloc | apply Kd.R_drewN | apply Kd.R_drew)); exact HO_4.out) hb); have n1_ := Aside0.mk (below_step (by repeat (first | (with_reducible first | exact HB.out | apply below_alloc | apply pw_below_drewN | apply below_drew1) | exact HB.out)) hb); clear HO_4; clear HB; have HO_4 := n0_; have HB := n1_; clear n0_ n1_; (try clear hb); (try clear hb2); (try clear hk); (try clear hi)))
                  go_ret
                  exact ⟨by first | rfl | (simp [errW_none, errW_some] <;> rfl) | (simp [*, errW_none, errW_some] <;> rfl) | (simp [errW_none, errW_some]; cases a0.toList <;> rfl), by repeat (first | (with_reducible first | exact HB.out | apply below_alloc | apply pw_below_drewN | apply below_drew1) | exact HB.out)⟩
              · rw [if_neg c29] at H
                have c29b0 : (t219.toList == x5_2.toList) = false := beq_eq_false_iff_ne.mpr c29
                have c29b1 : (t219.toList != x5_2.toList) = true := bne_iff_ne.mpr c29
                obtain rfl := Option.some.inj H
                obtain ⟨Ao35, co35, eo35⟩ := Kd.R_slice HO_4.out
                subst eo35
                go_wp2_with (first | ((with_reducible refine gate_callee (f := 11) rfl ?_); refine goesL_ (some 83) rfl rfl Tryd.func11 (by kernel_rfl) rfl #[.slice Ao35 x4_2.length co35, .slice none 0 0, .string (⟨#[116]⟩ : ByteArray), .int .i64 9999] rfl (by (try simp only [List.map_toArray, List.map_cons, List.map_nil]); first | done | rfl | (simp only [List.length_drop, List.length_take]; rfl)) ?_; (refine (recipe_Run.calls _ _ x4_2 _ _ ([] : List (S31)) (⟨#[116]⟩ : ByteArray) 9999 t219 t220 t221 _ ?side1 ?side2 ?side3 ?side4 ?side5 A28.out).mono ?_); (case side1 => exact Fr.Glob.below hG (by repeat (first | (with_reducible first | exact HB.out | apply below_alloc | apply pw_below_drewN | apply below_drew1) | exact HB.out))); (case side2 => repeat (first | exact (Kd.R_reads' HO_4.out).2.2 | (with_reducible refine Kd.C_alloc ?_ _) | (with_reducible refine Kd.C_drewN ?_ _) | (with_reducible refine Kd.C_drew ?_))); (case side3 => exact (Kd.R_reads' HO_4.out).2.1); (case side4 => exact Kd.C_nil _ _); (case side5 => exact Nat.le_refl _); rintro e w36 ⟨rfl, hb⟩; refine ⟨_, rfl, ?_⟩; have n0_ := Aside0.mk (Kd.R_below (by (with_reducible repeat (first | apply Kd.R_alloc | apply Kd.R_drewN | apply Kd.R_drew)); exact HO_4.out) hb); have n1_ := Aside0.mk (below_step (by repeat (first | (with_reducible first | exact HB.out | apply below_alloc | apply pw_below_drewN | apply below_drew1) | exact HB.out)) hb); clear HO_4; clear HB; have HO_4 := n0_; have HB := n1_; clear n0_ n1_; (try clear hb); (try clear hb2); (try clear hk); (try clear hi)))
                go_ret
                exact ⟨by first | rfl | (simp [errW_none, errW_some] <;> rfl) | (simp [*, errW_none, errW_some] <;> rfl) | (simp [errW_none, errW_some]; cases a0.toList <;> rfl), by repeat (first | (with_reducible first | exact HB.out | apply below_alloc | apply pw_below_drewN | apply below_drew1) | exact HB.out)⟩

end Go.Proofs.YtnjjnfbkilgidaaDoor.K
