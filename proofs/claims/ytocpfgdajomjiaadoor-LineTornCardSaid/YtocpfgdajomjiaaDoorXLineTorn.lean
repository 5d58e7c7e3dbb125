import Derived.Test.YtocpfgdajomjiaaDoorL0
import Derived.Test.YtocpfgdajomjiaaDoorL2
import Derived.Test.YtocpfgdajomjiaaDoorL3
import Derived.Test.YtocpfgdajomjiaaDoorL11
import Derived.Test.YtocpfgdajomjiaaDoorHandLine
import Derived.Deep.Slices
import Derived.ChangeArms
/- Several texts of this session in one (merge.py): the walks of the functions that the laws reach. -/
namespace Go.Proofs.YtocpfgdajomjiaaDoor.L
open Go.Proofs.YtocpfgdajomjiaaDoor.Hand3
open Go.Proofs.YtocpfgdajomjiaaDoor
open Go.RowKit Go.Proofs.YtocpfgdajomjiaaDoorW.PrintWords Go.Proofs.YtocpfgdajomjiaaDoorW.PrintLast Go.Proofs.YtocpfgdajomjiaaDoorW.PrintMore
attribute [local go_sem] max2_int min2_int max_two min_two max_three min_three max_four min_four   -- for this text's walks alone
set_option linter.unusedVariables false
set_option linter.unusedSimpArgs false

/-! ### cooperagelaw4_LineTorn: function 14 -/
mutual
def cooperagelaw4_LineTorn.j0 : Nat → List (List ByteArray) → Int → Bool → Bool → Option (Bool)
  | 0, _, _, _, _ => none
  | k + 1, x0, x1, x5, x25 => if x25 = true then (some x5) else (cooperagelaw4_LineTorn.l0 k x0 x1 (⟨#[]⟩ : ByteArray) ([] : List (List ByteArray)) ([] : List Int) 0)
def cooperagelaw4_LineTorn.l0 : Nat → List (List ByteArray) → Int → ByteArray → List (List ByteArray) → List Int → Int → Option (Bool)
  | 0, _, _, _, _, _, _ => none
  | k + 1, x0, x1, x7, x8, x9, x10 => if x10 < (x0.length : Int) then (if 0 ≤ x10 then ((line_Put.f (rd_L1 x0 x10)).bind fun bt188 => (if bt188.2 = 0 then (if x7.size + bt188.1.size ≤ 9223372036854775807 then (if x8.length < 5864062014805 then (if x9.length < 17592186044416 then (cooperagelaw4_LineTorn.l0 k x0 x1 (x7 ++ bt188.1) (x8 ++ [rd_L1 x0 x10]) (x9 ++ [((x7 ++ bt188.1).size : Int)]) (wrap64 (x10 + 1))) else (none)) else (none)) else (none)) else (cooperagelaw4_LineTorn.l0 k x0 x1 x7 x8 x9 (wrap64 (x10 + 1))))) else (none)) else (cooperagelaw4_LineTorn.l1 k (mx 0 (mn x1 (x7.size : Int))) x7 x8 x9 0 0)
def cooperagelaw4_LineTorn.l1 : Nat → Int → ByteArray → List (List ByteArray) → List Int → Int → Int → Option (Bool)
  | 0, _, _, _, _, _, _ => none
  | k + 1, x1, x7, x8, x9, x13, x14 => if x13 < (x8.length : Int) then (if 0 ≤ x13 then (if x13 < (x9.length : Int) then (if (rd x9 x13) ≤ x1 then (cooperagelaw4_LineTorn.l1 k x1 x7 x8 x9 (wrap64 (x13 + 1)) (rd x9 x13)) else (if 0 ≤ x1 then (if x1 ≤ (x7.size : Int) then ((line_Scan.f (x7.extract 0 (x1 : Int).toNat)).bind fun bt199 => (if x13 ≤ (x8.length : Int) then ((cooperagelaw4_sameAll.f k bt199.1 (x8.take (x13 : Int).toNat)).bind fun t208 => (if t208 = true then (some (bt199.2 == x14)) else (some false))) else (none))) else (none)) else (none))) else (none)) else (none)) else (if 0 ≤ x1 then (if x1 ≤ (x7.size : Int) then ((line_Scan.f (x7.extract 0 (x1 : Int).toNat)).bind fun bt209 => (if 0 ≤ x13 then (if x13 ≤ (x8.length : Int) then ((cooperagelaw4_sameAll.f k bt209.1 (x8.take (x13 : Int).toNat)).bind fun t218 => (if t218 = true then (some (bt209.2 == x14)) else (some false))) else (none)) else (none))) else (none)) else (none))
end
def cooperagelaw4_LineTorn.f (k : Nat) (l0 : List (List ByteArray)) (a1 : Int) : Option (Bool) := (cooperagelaw4_shown.f k).bind fun t185 => ((cooperagelaw4_tiny.f k l0).bind fun t186 => (if t185 = true then (cooperagelaw4_LineTorn.j0 k l0 a1 t185 (!t186)) else (cooperagelaw4_LineTorn.j0 k l0 a1 t185 true)))
theorem cooperagelaw4_LineTorn.mono_l : ∀ k, (∀ y0 y1 y2 y3, LeO (cooperagelaw4_LineTorn.j0 k y0 y1 y2 y3) (cooperagelaw4_LineTorn.j0 (k + 1) y0 y1 y2 y3)) ∧ (∀ y0 y1 y2 y3 y4 y5, LeO (cooperagelaw4_LineTorn.l0 k y0 y1 y2 y3 y4 y5) (cooperagelaw4_LineTorn.l0 (k + 1) y0 y1 y2 y3 y4 y5)) ∧ (∀ y0 y1 y2 y3 y4 y5, LeO (cooperagelaw4_LineTorn.l1 k y0 y1 y2 y3 y4 y5) (cooperagelaw4_LineTorn.l1 (k + 1) y0 y1 y2 y3 y4 y5))
  | 0 => ⟨fun _ _ _ _ r h => by simp [cooperagelaw4_LineTorn.j0] at h, fun _ _ _ _ _ _ r h => by simp [cooperagelaw4_LineTorn.l0] at h, fun _ _ _ _ _ _ r h => by simp [cooperagelaw4_LineTorn.l1] at h⟩
  | k + 1 => by
    obtain ⟨ih0, ih1, ih2⟩ := cooperagelaw4_LineTorn.mono_l k
    refine ⟨?_, ?_, ?_⟩
    · intro y0 y1 y2 y3
      unfold cooperagelaw4_LineTorn.j0
      repeat' first
      | (with_reducible exact ih0 _ _ _ _)
      | (with_reducible exact ih1 _ _ _ _ _ _)
      | (with_reducible exact ih2 _ _ _ _ _ _)
      | (with_reducible exact cooperagelaw4_sameAll.mono _ _ _)
      | (with_reducible exact cooperagelaw4_shown.mono _)
      | (with_reducible exact cooperagelaw4_tiny.mono _ _)
      | (with_reducible exact LeO.refl _)
      | (with_reducible exact LeO.none _)
      | (with_reducible refine LeO.ite ?_ ?_)
      | (with_reducible refine LeO.bind ?_ (fun _ => ?_))
      | exact ih0 _ _ _ _
      | exact ih1 _ _ _ _ _ _
      | exact ih2 _ _ _ _ _ _
      | exact cooperagelaw4_sameAll.mono _ _ _
      | exact cooperagelaw4_shown.mono _
      | exact cooperagelaw4_tiny.mono _ _
      | exact LeO.none _
      | refine LeO.ite ?_ ?_
      | refine LeO.bind ?_ (fun _ => ?_)
    · intro y0 y1 y2 y3 y4 y5
      unfold cooperagelaw4_LineTorn.l0
      repeat' first
      | (with_reducible exact ih0 _ _ _ _)
      | (with_reducible exact ih1 _ _ _ _ _ _)
      | (with_reducible exact ih2 _ _ _ _ _ _)
      | (with_reducible exact cooperagelaw4_sameAll.mono _ _ _)
      | (with_reducible exact cooperagelaw4_shown.mono _)
      | (with_reducible exact cooperagelaw4_tiny.mono _ _)
      | (with_reducible exact LeO.refl _)
      | (with_reducible exact LeO.none _)
      | (with_reducible refine LeO.ite ?_ ?_)
      | (with_reducible refine LeO.bind ?_ (fun _ => ?_))
      | exact ih0 _ _ _ _
      | exact ih1 _ _ _ _ _ _
      | exact ih2 _ _ _ _ _ _
      | exact cooperagelaw4_sameAll.mono _ _ _
      | exact cooperagelaw4_shown.mono _
      | exact cooperagelaw4_tiny.mono _ _
      | exact LeO.none _
      | refine LeO.ite ?_ ?_
      | refine LeO.bind ?_ (fun _ => ?_)
    · intro y0 y1 y2 y3 y4 y5
      unfold cooperagelaw4_LineTorn.l1
      repeat' first
      | (with_reducible exact ih0 _ _ _ _)
      | (with_reducible exact ih1 _ _ _ _ _ _)
      | (with_reducible exact ih2 _ _ _ _ _ _)
      | (with_reducible exact cooperagelaw4_sameAll.mono _ _ _)
      | (with_reducible exact cooperagelaw4_shown.mono _)
      | (with_reducible exact cooperagelaw4_tiny.mono _ _)
      | (with_reducible exact LeO.refl _)
      | (with_reducible exact LeO.none _)
      | (with_reducible refine LeO.ite ?_ ?_)
      | (with_reducible refine LeO.bind ?_ (fun _ => ?_))
      | exact ih0 _ _ _ _
      | exact ih1 _ _ _ _ _ _
      | exact ih2 _ _ _ _ _ _
      | exact cooperagelaw4_sameAll.mono _ _ _
      | exact cooperagelaw4_shown.mono _
      | exact cooperagelaw4_tiny.mono _ _
      | exact LeO.none _
      | refine LeO.ite ?_ ?_
      | refine LeO.bind ?_ (fun _ => ?_)
theorem cooperagelaw4_LineTorn.mono : ∀ a0 a1 k, LeO (cooperagelaw4_LineTorn.f k a0 a1) (cooperagelaw4_LineTorn.f (k + 1) a0 a1) := by
  intro a0 a1 k
  obtain ⟨ih0, ih1, ih2⟩ := cooperagelaw4_LineTorn.mono_l k
  unfold cooperagelaw4_LineTorn.f
  repeat' first
      | (with_reducible exact ih0 _ _ _ _)
      | (with_reducible exact ih1 _ _ _ _ _ _)
      | (with_reducible exact ih2 _ _ _ _ _ _)
      | (with_reducible exact cooperagelaw4_sameAll.mono _ _ _)
      | (with_reducible exact cooperagelaw4_shown.mono _)
      | (with_reducible exact cooperagelaw4_tiny.mono _ _)
      | (with_reducible exact LeO.refl _)
      | (with_reducible exact LeO.none _)
      | (with_reducible refine LeO.ite ?_ ?_)
      | (with_reducible refine LeO.bind ?_ (fun _ => ?_))
      | exact ih0 _ _ _ _
      | exact ih1 _ _ _ _ _ _
      | exact ih2 _ _ _ _ _ _
      | exact cooperagelaw4_sameAll.mono _ _ _
      | exact cooperagelaw4_shown.mono _
      | exact cooperagelaw4_tiny.mono _ _
      | exact LeO.none _
      | refine LeO.ite ?_ ?_
      | refine LeO.bind ?_ (fun _ => ?_)
set_option maxHeartbeats 8000000 in
set_option maxRecDepth 100000 in
theorem cooperagelaw4_LineTorn.calls (k : Nat) (P0_ : Nat → Prop) (A0 : Option Addr) (c0 : Nat) (l0 : List (List ByteArray)) (a1 : Int) (r : Bool) (w : World) (hG : Hand3.Glob w) (hs0 : Kd.V (Kd.slice 9 Kd.string) 23 w w.heap.size (fun k_ => P0_ k_) (.slice A0 l0.length c0) l0) (h : cooperagelaw4_LineTorn.f k l0 a1 = some r) :
    Calls Tryd.prog 14 #[.slice A0 l0.length c0, .int .i64 a1] w fun e w' => e = .returned (.bool r) ∧ Below w.heap.size w w' := by
  have HO0 := Aside0.mk (show Kd.V (Kd.slice 9 Kd.string) 23 w w.heap.size (fun k_ => (P0_ k_ ∨ w.heap.size ≤ k_)) (.slice A0 l0.length c0) l0 from Kd.V_mono hs0 (fun k_ hk => .inl hk))
  have HB := Aside0.mk (Below.refl w.heap.size w)
  have H : ((cooperagelaw4_shown.f k).bind fun t185 => ((cooperagelaw4_tiny.f k l0).bind fun t186 => (if t185 = true then (cooperagelaw4_LineTorn.j0 k l0 a1 t185 (!t186)) else (cooperagelaw4_LineTorn.j0 k l0 a1 t185 true)))) = some r := h
  clear h
  replace H := Option.bind_eq_some_iff.mp H
  obtain ⟨t185, A30, H⟩ := H
  replace H : ((cooperagelaw4_tiny.f k l0).bind fun t186 => (if t185 = true then (cooperagelaw4_LineTorn.j0 k l0 a1 t185 (!t186)) else (cooperagelaw4_LineTorn.j0 k l0 a1 t185 true))) = some r := H
  have A3 := Aside0.mk A30
  clear A30
  replace H := Option.bind_eq_some_iff.mp H
  obtain ⟨t186, A40, H⟩ := H
  replace H : (if t185 = true then (cooperagelaw4_LineTorn.j0 k l0 a1 t185 (!t186)) else (cooperagelaw4_LineTorn.j0 k l0 a1 t185 true)) = some r := H
  have A4 := Aside0.mk A40
  clear A40
  have HC5 := Aside0.mk H
  clear H
  go_enter Tryd.func14, Tryd.ntmps14
  go_upto_region 3 with (first | ((with_reducible refine gate_callee (f := 38) rfl ?_); refine goesL_ (some 17) rfl rfl Tryd.func38 (by kernel_rfl) rfl #[] rfl (by (try simp only [List.map_toArray, List.map_cons, List.map_nil]); first | done | rfl | (simp only [List.length_drop, List.length_take]; rfl)) ?_; (with_reducible refine (cooperagelaw4_shown.calls k  t185 _ ?side1 A3.out).mono ?_); (case side1 => exact Hand3.Glob.below hG (by repeat (first | (with_reducible first | exact HB.out | apply below_alloc | apply pw_below_drewN | apply below_drew1) | exact HB.out))); rintro e w6 ⟨rfl, hb⟩; refine ⟨_, rfl, ?_⟩; have n0_ := Aside0.mk (Kd.V_below (by (with_reducible repeat (first | apply Kd.V_alloc | apply Kd.V_drewN | apply Kd.V_drew)); exact HO0.out) hb); have n1_ := Aside0.mk (below_step (by repeat (first | (with_reducible first | exact HB.out | apply below_alloc | apply pw_below_drewN | apply below_drew1) | exact HB.out)) hb); clear HO0; clear HB; have HO0 := n0_; have HB := n1_; clear n0_ n1_; (try clear hb); (try clear hb2); (try clear hk); (try clear hi)) | ((with_reducible refine gate_callee (f := 48) rfl ?_); refine goesL_ (some 19) rfl rfl Tryd.func48 (by kernel_rfl) rfl #[.slice A0 l0.length c0] rfl (by (try simp only [List.map_toArray, List.map_cons, List.map_nil]); first | done | rfl | (simp only [List.length_drop, List.length_take]; rfl)) ?_; (with_reducible refine (cooperagelaw4_tiny.calls k _ _ l0 t186 _ ?side1 ?side2 A4.out).mono ?_); (case side1 => repeat (first | exact (Kd.V_reads' HO0.out).2.2 | (with_reducible refine Kd.C_alloc ?_ _) | (with_reducible refine Kd.C_drewN ?_ _) | (with_reducible refine Kd.C_drew ?_))); (case side2 => exact (Kd.V_reads' HO0.out).2.1); rintro e w' ⟨rfl, ⟨nd, rfl⟩⟩; refine ⟨_, rfl, ?_⟩))
  (try simp only [Act.put, List.setIfInBounds_toArray, List.set_cons_zero, List.set_cons_succ])
  go_cut [25] (fun v25 wc => ∃ (kq : Nat) (x25_4 : Bool), v25 = .bool x25_4 ∧ Aside0 (cooperagelaw4_LineTorn.j0 kq l0 a1 t185 x25_4 = some r) ∧ Aside0 (kq ≤ k) ∧ Aside0 (Kd.V (Kd.slice 9 Kd.string) 23 wc w.heap.size (fun k_ => (P0_ k_ ∨ w.heap.size ≤ k_)) (.slice A0 l0.length c0) l0) ∧ Aside0 (Below w.heap.size w wc))
  case first =>
    have H := HC5.out
    clear HC5
    by_cases c7 : t185 = true
    · subst c7
      have H1 : (cooperagelaw4_LineTorn.j0 k l0 a1 true (!t186)) = some r := by rw [if_pos rfl] at H; exact H
      clear H
      have H := H1
      clear H1
      have H' := Aside0.mk H
      clear H
      go_wp2
      go_meet
      case rel => exact ⟨_, (!t186), (by first | rfl | (simp; done) | (simp [*]; done)), H', ⟨by first | omega | exact Nat.le_refl _⟩, ⟨by (with_reducible repeat (first | apply Kd.V_alloc | apply Kd.V_drewN | apply Kd.V_drew)); exact HO0.out⟩, ⟨by repeat (first | (with_reducible first | exact HB.out | apply below_alloc | apply pw_below_drewN | apply below_drew1) | exact HB.out)⟩⟩
    · replace c7 := Bool.eq_false_iff.mpr c7
      subst c7
      have H1 : (cooperagelaw4_LineTorn.j0 k l0 a1 false true) = some r := by rw [if_neg (show ¬ (false = true) by decide)] at H; exact H
      clear H
      have H := H1
      clear H1
      have H' := Aside0.mk H
      clear H
      go_wp2
      go_meet
      case rel => exact ⟨_, (true), (by first | rfl | (simp; done) | (simp [*]; done)), H', ⟨by first | omega | exact Nat.le_refl _⟩, ⟨by (with_reducible repeat (first | apply Kd.V_alloc | apply Kd.V_drewN | apply Kd.V_drew)); exact HO0.out⟩, ⟨by repeat (first | (with_reducible first | exact HB.out | apply below_alloc | apply pw_below_drewN | apply below_drew1) | exact HB.out)⟩⟩
  case rest =>
    clear HC5
    try clear c1
    try clear p2
    try clear c3
    try clear c4
    try clear c7
    obtain ⟨kq, x25_4, rfl, HA, HJ4, HO_0, HB⟩ := hcut
    cases kq with
    | zero => exact absurd HA.out (by simp [cooperagelaw4_LineTorn.j0])
    | succ kj4 =>
      have H := HA.out
      clear HA
      simp only [cooperagelaw4_LineTorn.j0] at H
      by_cases c8 : x25_4 = true
      · subst c8
        have H1 : (some t185) = some r := by rw [if_pos rfl] at H; exact H
        clear H
        have H := H1
        clear H1
        obtain rfl := Option.some.inj H
        go_wp2
        go_ret
        exact ⟨by first | rfl | (simp [errW_none, errW_some] <;> rfl) | (simp [*, errW_none, errW_some] <;> rfl) | (simp [errW_none, errW_some]; cases a0.toList <;> rfl), by repeat (first | (with_reducible first | exact HB.out | apply below_alloc | apply pw_below_drewN | apply below_drew1) | exact HB.out)⟩
      · replace c8 := Bool.eq_false_iff.mpr c8
        subst c8
        have H1 : (cooperagelaw4_LineTorn.l0 kj4 l0 a1 (⟨#[]⟩ : ByteArray) ([] : List (List ByteArray)) ([] : List Int) 0) = some r := by rw [if_neg (show ¬ (false = true) by decide)] at H; exact H
        clear H
        have H := H1
        clear H1
        have H' := Aside0.mk H
        clear H
        go_wp2
        go_loopg [7, 8, 9, 10] kj4 (fun kq v7 v8 v9 v10 w' => ∃ (x7_2 : ByteArray) (x8_2 : List (List ByteArray)) (x9_2 : List Int) (x10_2 : Int), v7 = .string x7_2 ∧ v10 = .int .i64 x10_2 ∧ Aside0 (cooperagelaw4_LineTorn.l0 kq l0 a1 x7_2 x8_2 x9_2 x10_2 = some r) ∧ Aside0 (kq ≤ kj4) ∧ Aside0 (Kd.V (Kd.slice 9 Kd.string) 23 w' w.heap.size (fun k_ => (P0_ k_ ∨ w.heap.size ≤ k_) ∧ some k_ ≠ (v8 : Value).ownBlock ∧ some k_ ≠ (v9 : Value).ownBlock) (.slice A0 l0.length c0) l0) ∧ Aside0 (Kd.N (Kd.slice 9 Kd.string) 23 w' w.heap.size (fun k_ => (P0_ k_ ∨ w.heap.size ≤ k_) ∧ some k_ ≠ (v9 : Value).ownBlock) v8 x8_2) ∧ Aside0 (Kd.R (Kd.int .i64) 3 w' w.heap.size (fun k_ => (w.heap.size ≤ k_)) v9 x9_2) ∧ Aside0 (Below w.heap.size w w'))
        case atStart => exact ⟨((⟨#[]⟩ : ByteArray)), (([] : List (List ByteArray))), (([] : List Int)), (0), (by first | rfl | (simp; done) | (simp [*]; done)), (by first | rfl | (simp; done) | (simp [*]; done)), H', ⟨Nat.le_refl _⟩, ⟨by (with_reducible repeat (first | apply Kd.V_alloc | apply Kd.V_drewN | apply Kd.V_drew)); exact Kd.V_mono HO_0.out (fun _ hk => ⟨hk, ⟨(by simp [Value.ownBlock]), (by simp [Value.ownBlock])⟩⟩)⟩, ⟨by first | exact Kd.S_nil _ _ _ _ _ | exact Kd.N_nil _ _ _ _ _ | exact Kd.V_nil _ _ _ _ _ | exact Kd.Q_nil _ _ _ _ _ | exact Kd.R_nil _ _ _ _ _⟩, ⟨by first | exact Kd.R_nil _ _ _ _ _ | exact Kd.N_nil _ _ _ _ _ | exact Kd.V_nil _ _ _ _ _ | exact Kd.Q_nil _ _ _ _ _ | exact Kd.S_nil _ _ _ _ _⟩, ⟨by repeat (first | (with_reducible first | exact HB.out | apply below_alloc | apply pw_below_drewN | apply below_drew1) | exact HB.out)⟩⟩
        case round =>
          clear H'
          try clear c1
          try clear p2
          try clear c3
          try clear c4
          try clear c7
          try clear c8
          try clear p2
          obtain ⟨x7_2, x8_2, x9_2, x10_2, rfl, rfl, HA, HK2, HO_0, HO_8, HO_9, HB⟩ := hrel
          cases gk with
          | zero => exact absurd HA.out (by simp [cooperagelaw4_LineTorn.l0])
          | succ k2 =>
            have H := HA.out
            clear HA
            simp only [cooperagelaw4_LineTorn.l0] at H
            by_cases c9 : x10_2 < (l0.length : Int)
            · rw [if_pos c9] at H
              have c9b0 : decide (x10_2 < (l0.length : Int)) = true := decide_eq_true c9
              clear c9
              by_cases c10 : 0 ≤ x10_2
              · rw [if_pos c10] at H
                have c10b0 : decide (0 ≤ x10_2) = true := decide_eq_true c10
                clear c10
                replace H := Option.bind_eq_some_iff.mp H
                obtain ⟨⟨t188, t189⟩, A110, H⟩ := H
                replace H : (if t189 = 0 then (if x7_2.size + t188.size ≤ 9223372036854775807 then (if x8_2.length < 5864062014805 then (if x9_2.length < 17592186044416 then (cooperagelaw4_LineTorn.l0 k2 l0 a1 (x7_2 ++ t188) (x8_2 ++ [rd_L1 l0 x10_2]) (x9_2 ++ [((x7_2 ++ t188).size : Int)]) (wrap64 (x10_2 + 1))) else (none)) else (none)) else (none)) else (cooperagelaw4_LineTorn.l0 k2 l0 a1 x7_2 x8_2 x9_2 (wrap64 (x10_2 + 1)))) = some r := H
                have A11 := Aside0.mk A110
                clear A110
                by_cases c12 : t189 = 0
                · rw [if_pos c12] at H
                  have c12b0 : (t189 == 0) = true := beq_iff_eq.mpr c12
                  have c12b1 : (t189 != 0) = false := bne_eq_false_iff_eq.mpr c12
                  clear c12
                  by_cases c13 : x7_2.size + t188.size ≤ 9223372036854775807
                  · rw [if_pos c13] at H
                    have c13b0 := eq_true c13
                    have c13b1 : decide (x7_2.size + t188.size ≤ 9223372036854775807) = true := decide_eq_true c13
                    try have c13b2 : (9223372036854775807 < x7_2.size + t188.size) = False := eq_false (Nat.not_lt.2 c13)
                    by_cases c14 : x8_2.length < 5864062014805
                    · rw [if_pos c14] at H
                      have LMc14 := Aside0.mk c14
                      clear c14
                      obtain ⟨y191, hy191⟩ : ∃ y_ : List (List ByteArray), y_ = (x8_2 ++ [rd_L1 l0 x10_2]) := ⟨_, rfl⟩
                      replace H : (if x9_2.length < 17592186044416 then (cooperagelaw4_LineTorn.l0 k2 l0 a1 (x7_2 ++ t188) y191 (x9_2 ++ [((x7_2 ++ t188).size : Int)]) (wrap64 (x10_2 + 1))) else (none)) = some r := by first | (rw [hy191]; with_reducible exact H) | (have H2_ := (Option.bind_some _ _).symm.trans H; rw [hy191]; with_reducible exact H2_) | (have H2_ := (Option.bind_some _ _).symm.trans H; with_reducible exact H2_) | with_reducible exact H | (rw [hy191]; exact H) | exact H
                      have Ny191 := Aside0.mk hy191
                      clear hy191
                      by_cases c15 : x9_2.length < 17592186044416
                      · rw [if_pos c15] at H
                        have LMc15 := Aside0.mk c15
                        clear c15
                        rw [ByteArray.size_append, Int.natCast_add] at H
                        obtain ⟨y194, hy194⟩ : ∃ y_ : List Int, y_ = (x9_2 ++ [((x7_2.size : Int) + (t188.size : Int))]) := ⟨_, rfl⟩
                        replace H : (cooperagelaw4_LineTorn.l0 k2 l0 a1 (x7_2 ++ t188) y191 y194 (wrap64 (x10_2 + 1))) = some r := by first | (rw [hy194]; with_reducible exact H) | (have H2_ := (Option.bind_some _ _).symm.trans H; rw [hy194]; with_reducible exact H2_) | (have H2_ := (Option.bind_some _ _).symm.trans H; with_reducible exact H2_) | with_reducible exact H | (rw [hy194]; exact H) | exact H
                        have Ny194 := Aside0.mk hy194
                        clear hy194
                        have H' := Aside0.mk H
                        clear H
                        have p187 : 0 ≤ (x10_2 : Int) := of_decide_eq_true (by first | (with_reducible assumption) | assumption)
                        have q187 : x10_2 < (l0.length : Int) := of_decide_eq_true (by first | (with_reducible assumption) | assumption)
                        obtain ⟨ad187, A187_0, c187_0, e187, hx187_0, hl187_0, hi187_0⟩ := at_L1 (Kd.V_reads' HO_0.out).2.2 x10_2 p187 q187
                        cases e187
                        obtain ⟨ce187, hce187, hMe187, hcc187⟩ := Kd.V_get HO_0.out [] x10_2 p187 (by first | exact q187 | exact of_decide_eq_true (by first | (with_reducible assumption) | assumption) | (have e_ := (Kd.V_reads' HO_0.out).1; omega))
                        obtain ⟨ua187_0, uc187_0, rfl, ul187_0, ge187_0⟩ := Kd.FK_slice_open hMe187
                        have hv187_0 := hcc187 0 _ rfl
                        rw [Nat.add_zero, show ((Kd.slice 9 Kd.string)).sz = 1 from rfl, Nat.mul_one] at hv187_0
                        replace hv187_0 := Option.some.inj (hv187_0.symm.trans hx187_0)
                        injection hv187_0 with hva_ hvn_ hvc_
                        rw [hva_] at ge187_0
                        rw [hvc_] at ul187_0
                        have HL187_0 := Aside0.mk (show Kd.V Kd.string 9 _ w.heap.size _ _ (rd_L1 l0 x10_2) from Kd.V_mk ul187_0 ge187_0)
                        clear hva_ hvn_ hvc_ ge187_0 ul187_0
                        clear hcc187 hce187
                        have HR187_0 := Aside0.mk hi187_0
                        have HC187_0 := Aside0.mk hl187_0
                        clear hi187_0 hl187_0
                        replace p187 := eq_true p187
                        replace q187 := eq_true q187
                        go_wp2_with (first | ((with_reducible refine gate_callee (f := 40) rfl ?_); refine goesL_ (some 38) rfl rfl Tryd.func40 (by kernel_rfl) rfl #[.slice A187_0 (rd_L1 l0 x10_2).length c187_0] rfl (by (try simp only [List.map_toArray, List.map_cons, List.map_nil]); first | done | rfl | (simp only [List.length_drop, List.length_take]; rfl)) ?_; (with_reducible refine (line_Put.calls _ _ (rd_L1 l0 x10_2) t188 t189 _ ?side1 ?side2 ?side3 A11.out).mono ?_); (case side1 => exact Hand3.Glob.below hG (by repeat (first | (with_reducible first | exact HB.out | apply below_alloc | apply pw_below_drewN | apply below_drew1) | exact HB.out))); (case side2 => repeat (first | exact (by repeat (first | (with_reducible exact HR187_0.out) | (with_reducible refine Kd.C_alloc ?_ _) | (with_reducible refine Kd.C_drewN ?_ _) | (with_reducible refine Kd.C_drew ?_) | exact HR187_0.out)) | (with_reducible refine Kd.C_alloc ?_ _) | (with_reducible refine Kd.C_drewN ?_ _) | (with_reducible refine Kd.C_drew ?_))); (case side3 => exact HC187_0.out); rintro e w16 ⟨rfl, hb⟩; refine ⟨_, rfl, ?_⟩; have n0_ := Aside0.mk (Kd.V_below (by (with_reducible repeat (first | apply Kd.V_alloc | apply Kd.V_drewN | apply Kd.V_drew)); exact HO_0.out) hb); have n1_ := Aside0.mk (Kd.N_below (by (with_reducible repeat (first | apply Kd.N_alloc | apply Kd.N_drewN | apply Kd.N_drew)); exact HO_8.out) hb); have n2_ := Aside0.mk (Kd.R_below (by (with_reducible repeat (first | apply Kd.R_alloc | apply Kd.R_drewN | apply Kd.R_drew)); exact HO_9.out) hb); have n3_ := Aside0.mk (Kd.V_below (by (with_reducible repeat (first | apply Kd.V_alloc | apply Kd.V_drewN | apply Kd.V_drew)); exact HL187_0.out) hb); have n4_ := Aside0.mk (Kd.C_below (by repeat (first | (with_reducible exact HR187_0.out) | (with_reducible refine Kd.C_alloc ?_ _) | (with_reducible refine Kd.C_drewN ?_ _) | (with_reducible refine Kd.C_drew ?_) | exact HR187_0.out)) hb); have n5_ := Aside0.mk (below_step (by repeat (first | (with_reducible first | exact HB.out | apply below_alloc | apply pw_below_drewN | apply below_drew1) | exact HB.out)) hb); clear HO_0; clear HO_8; clear HO_9; clear HL187_0; clear HR187_0; clear HB; have HO_0 := n0_; have HO_8 := n1_; have HO_9 := n2_; have HL187_0 := n3_; have HR187_0 := n4_; have HB := n5_; clear n0_ n1_ n2_ n3_ n4_ n5_; (try clear hb); (try clear hb2); (try clear hk); (try clear hi); have p190 : 0 ≤ (x10_2 : Int) := of_decide_eq_true (by first | (with_reducible assumption) | assumption); have q190 : x10_2 < (l0.length : Int) := of_decide_eq_true (by first | (with_reducible assumption) | assumption); obtain ⟨ad190, A190_0, c190_0, e190, hx190_0, hl190_0, hi190_0⟩ := at_L1 (Kd.V_reads' HO_0.out).2.2 x10_2 p190 q190; obtain rfl : ad187 = ad190 := (by injection e190); obtain ⟨ce190, hce190, hMe190, hcc190⟩ := Kd.V_get HO_0.out [] x10_2 p190 (by first | exact q190 | exact of_decide_eq_true (by first | (with_reducible assumption) | assumption) | (have e_ := (Kd.V_reads' HO_0.out).1; omega)); obtain ⟨ua190_0, uc190_0, rfl, ul190_0, ge190_0⟩ := Kd.FK_slice_open hMe190; have hv190_0 := hcc190 0 _ rfl; rw [Nat.add_zero, show ((Kd.slice 9 Kd.string)).sz = 1 from rfl, Nat.mul_one] at hv190_0; replace hv190_0 := Option.some.inj (hv190_0.symm.trans hx190_0); injection hv190_0 with hva_ hvn_ hvc_; rw [hva_] at ge190_0; rw [hvc_] at ul190_0; have HL190_0 := Aside0.mk (show Kd.V Kd.string 9 _ w.heap.size _ _ (rd_L1 l0 x10_2) from Kd.V_mk ul190_0 ge190_0); clear hva_ hvn_ hvc_ ge190_0 ul190_0; clear hcc190 hce190; have HR190_0 := Aside0.mk hi190_0; have HC190_0 := Aside0.mk hl190_0; clear hi190_0 hl190_0; replace p190 := eq_true p190; replace q190 := eq_true q190) | ((with_reducible refine gate_builtin (b := .append) (xs := #[.tmp 46, .tmp 51]) rfl ?_); at_builtin; refine Kd.N_append (Kd.slice 9 Kd.string) (w0 := w) w.heap.size rfl (.tmp 46) (.tmp 51) 41 23 (.slice none 0 0) 24 rfl Tryd.underlying41 info23 rfl (by decide) (by omega) u8 x8_2 (rd_L1 l0 x10_2) [.slice A190_0 (rd_L1 l0 x10_2).length c190_0] (fun k_ => (P0_ k_ ∨ w.heap.size ≤ k_) ∧ some k_ ≠ (u9 : Value).ownBlock) (fun k_ => ((fun k_ => (P0_ k_ ∨ w.heap.size ≤ k_) ∧ some k_ ≠ (u9 : Value).ownBlock)) k_ ∧ some k_ ≠ (u8 : Value).ownBlock) rfl rfl ?aP (fun _ hk => hk) ?aF ?aO ?aB ?aS ?aL ?_; (case aP => exact (Kd.FK_slice_mk (Kd.V_reads' (Kd.V_mono (ok' := (fun k_ => ((fun k_ => (P0_ k_ ∨ w.heap.size ≤ k_) ∧ some k_ ≠ (u9 : Value).ownBlock)) k_ ∧ some k_ ≠ (u8 : Value).ownBlock)) (HL190_0.out) (fun k_ hk => ⟨⟨hk.1, hk.2.2⟩, hk.2.1⟩))).2.1 (Kd.V_F (Kd.V_mono (ok' := (fun k_ => ((fun k_ => (P0_ k_ ∨ w.heap.size ≤ k_) ∧ some k_ ≠ (u9 : Value).ownBlock)) k_ ∧ some k_ ≠ (u8 : Value).ownBlock)) (HL190_0.out) (fun k_ hk => ⟨⟨hk.1, hk.2.2⟩, hk.2.1⟩))))); (case aB => exact (by repeat (first | (with_reducible first | exact HB.out | apply below_alloc | apply pw_below_drewN | apply below_drew1) | exact HB.out))); (case aF => exact (fun k_ hk => ⟨(.inr (Nat.le_trans (below_size (by repeat (first | (with_reducible first | exact HB.out | apply below_alloc | apply pw_below_drewN | apply below_drew1) | exact HB.out))) hk)), Kd.fresh' (Kd.R_lt (by (with_reducible repeat (first | apply Kd.R_alloc | apply Kd.R_drewN | apply Kd.R_drew)); exact HO_9.out)) k_ hk⟩)); (case aO => exact (by (with_reducible repeat (first | apply Kd.N_alloc | apply Kd.N_drewN | apply Kd.N_drew)); exact HO_8.out)); (case aS => exact (below_size (by repeat (first | (with_reducible first | exact HB.out | apply below_alloc | apply pw_below_drewN | apply below_drew1) | exact HB.out)))); (case aL => have := LMc14.out; omega); intro v192 w17 ho hb hg hat; rw [← Ny191.out] at ho; have n0_ := Aside0.mk (Kd.V_afterv (ok := (fun k_ => (P0_ k_ ∨ w.heap.size ≤ k_) ∧ some k_ ≠ (u9 : Value).ownBlock)) (by (with_reducible repeat (first | apply Kd.V_alloc | apply Kd.V_drewN | apply Kd.V_drew)); exact Kd.V_mono HO_0.out (fun _ hk => ⟨⟨hk.1, hk.2.2⟩, hk.2.1⟩)) hg hat); have n1_ := Aside0.mk (Kd.R_over' (by (with_reducible repeat (first | apply Kd.R_alloc | apply Kd.R_drewN | apply Kd.R_drew)); exact HO_9.out) (Kd.N_typed (by (with_reducible repeat (first | apply Kd.N_alloc | apply Kd.N_drewN | apply Kd.N_drew)); exact HO_8.out)) (by decide) hg); have n2_ := Aside0.mk (Kd.V_afterv (ok := (fun k_ => (P0_ k_ ∨ w.heap.size ≤ k_) ∧ some k_ ≠ (u9 : Value).ownBlock)) (by (with_reducible repeat (first | apply Kd.V_alloc | apply Kd.V_drewN | apply Kd.V_drew)); exact Kd.V_mono HL187_0.out (fun _ hk => ⟨⟨hk.1, hk.2.2⟩, hk.2.1⟩)) hg hat); have n3_ := Aside0.mk (Kd.V_afterv (ok := (fun k_ => (P0_ k_ ∨ w.heap.size ≤ k_) ∧ some k_ ≠ (u9 : Value).ownBlock)) (by (with_reducible repeat (first | apply Kd.V_alloc | apply Kd.V_drewN | apply Kd.V_drew)); exact Kd.V_mono HL190_0.out (fun _ hk => ⟨⟨hk.1, hk.2.2⟩, hk.2.1⟩)) hg hat); have n4_ := Aside0.mk (hb); have n5_ := Aside0.mk (ho); clear HO_0; clear HO_9; clear HL187_0; clear HL190_0; clear HB; clear HO_8; have HO_0 := n0_; have HO_9 := n1_; have HL187_0 := n2_; have HL190_0 := n3_; have HB := n4_; have HO193 := n5_; clear n0_ n1_ n2_ n3_ n4_ n5_; clear ho hb hg hat) | ((with_reducible refine gate_builtin (b := .append) (xs := #[.tmp 53, .tmp 56]) rfl ?_); at_builtin; refine Kd.R_append (Kd.int .i64) (w0 := w) w.heap.size rfl (.tmp 53) (.tmp 56) 46 3 (.int .i64 0) 8 rfl Tryd.underlying46 info3 rfl (by decide) (by omega) u9 x9_2 ((x7_2.size : Int) + (t188.size : Int)) [.int .i64 ((x7_2.size : Int) + (t188.size : Int))] (fun k_ => (w.heap.size ≤ k_)) (fun _ => False) rfl rfl ?aP (fun _ hk => hk.elim) ?aF ?aO ?aB ?aS ?aL ?_; (case aP => exact rfl); (case aB => exact (by repeat (first | (with_reducible first | exact HB.out | apply below_alloc | apply pw_below_drewN | apply below_drew1) | exact HB.out))); (case aF => exact (fun k_ hk => (Nat.le_trans (below_size (by repeat (first | (with_reducible first | exact HB.out | apply below_alloc | apply pw_below_drewN | apply below_drew1) | exact HB.out))) hk))); (case aO => exact (by (with_reducible repeat (first | apply Kd.R_alloc | apply Kd.R_drewN | apply Kd.R_drew)); exact HO_9.out)); (case aS => exact (below_size (by repeat (first | (with_reducible first | exact HB.out | apply below_alloc | apply pw_below_drewN | apply below_drew1) | exact HB.out)))); (case aL => have := LMc15.out; omega); intro v195 w18 ho hb hg hat; rw [← Ny194.out] at ho; have n0_ := Aside0.mk (Kd.V_afterv (ok := (fun k_ => (P0_ k_ ∨ w.heap.size ≤ k_) ∧ some k_ ≠ (v192 : Value).ownBlock)) (by (with_reducible repeat (first | apply Kd.V_alloc | apply Kd.V_drewN | apply Kd.V_drew)); exact Kd.V_mono HO_0.out (fun _ hk => ⟨⟨hk.1.1, hk.2⟩, hk.1.2⟩)) hg hat); have n1_ := Aside0.mk (Kd.V_afterv (ok := (fun k_ => (P0_ k_ ∨ w.heap.size ≤ k_) ∧ some k_ ≠ (v192 : Value).ownBlock)) (by (with_reducible repeat (first | apply Kd.V_alloc | apply Kd.V_drewN | apply Kd.V_drew)); exact Kd.V_mono HL187_0.out (fun _ hk => ⟨⟨hk.1.1, hk.2⟩, hk.1.2⟩)) hg hat); have n2_ := Aside0.mk (Kd.V_afterv (ok := (fun k_ => (P0_ k_ ∨ w.heap.size ≤ k_) ∧ some k_ ≠ (v192 : Value).ownBlock)) (by (with_reducible repeat (first | apply Kd.V_alloc | apply Kd.V_drewN | apply Kd.V_drew)); exact Kd.V_mono HL190_0.out (fun _ hk => ⟨⟨hk.1.1, hk.2⟩, hk.1.2⟩)) hg hat); have n3_ := Aside0.mk (Kd.N_afterv (ok := (fun k_ => (P0_ k_ ∨ w.heap.size ≤ k_))) (by (with_reducible repeat (first | apply Kd.N_alloc | apply Kd.N_drewN | apply Kd.N_drew)); exact HO193.out) hg hat); have n4_ := Aside0.mk (hb); have n5_ := Aside0.mk (ho); clear HO_0; clear HL187_0; clear HL190_0; clear HO193; clear HB; clear HO_9; have HO_0 := n0_; have HL187_0 := n1_; have HL190_0 := n2_; have HO193 := n3_; have HB := n4_; have HO196 := n5_; clear n0_ n1_ n2_ n3_ n4_ n5_; clear ho hb hg hat))
                        go_roundg k2
                        case measure => have := HJ4.out; have := HK2.out; omega
                        case rel => exact ⟨(x7_2 ++ t188), (y191), (y194), (wrap64 (x10_2 + 1)), (by first | rfl | (simp; done) | (simp [*]; done)), (by first | rfl | (simp; done) | (simp [*]; done)), H', ⟨by have := HJ4.out; have := HK2.out; omega⟩, ⟨by (with_reducible repeat (first | apply Kd.V_alloc | apply Kd.V_drewN | apply Kd.V_drew)); exact Kd.V_mono HO_0.out (fun _ hk => ⟨hk.1.1, ⟨hk.1.2, hk.2⟩⟩)⟩, ⟨by (with_reducible repeat (first | apply Kd.N_alloc | apply Kd.N_drewN | apply Kd.N_drew)); exact HO193.out⟩, ⟨by (with_reducible repeat (first | apply Kd.R_alloc | apply Kd.R_drewN | apply Kd.R_drew)); exact HO196.out⟩, ⟨by repeat (first | (with_reducible first | exact HB.out | apply below_alloc | apply pw_below_drewN | apply below_drew1) | exact HB.out)⟩⟩
                      · rw [if_neg c15] at H
                        exact absurd H (by simp)
                    · rw [if_neg c14] at H
                      exact absurd H (by simp)
                  · rw [if_neg c13] at H
                    exact absurd H (by simp)
                · rw [if_neg c12] at H
                  have c12b0 : (t189 == 0) = false := beq_eq_false_iff_ne.mpr c12
                  have c12b1 : (t189 != 0) = true := bne_iff_ne.mpr c12
                  have H' := Aside0.mk H
                  clear H
                  have p187 : 0 ≤ (x10_2 : Int) := of_decide_eq_true (by first | (with_reducible assumption) | assumption)
                  have q187 : x10_2 < (l0.length : Int) := of_decide_eq_true (by first | (with_reducible assumption) | assumption)
                  obtain ⟨ad187, A187_0, c187_0, e187, hx187_0, hl187_0, hi187_0⟩ := at_L1 (Kd.V_reads' HO_0.out).2.2 x10_2 p187 q187
                  cases e187
                  obtain ⟨ce187, hce187, hMe187, hcc187⟩ := Kd.V_get HO_0.out [] x10_2 p187 (by first | exact q187 | exact of_decide_eq_true (by first | (with_reducible assumption) | assumption) | (have e_ := (Kd.V_reads' HO_0.out).1; omega))
                  obtain ⟨ua187_0, uc187_0, rfl, ul187_0, ge187_0⟩ := Kd.FK_slice_open hMe187
                  have hv187_0 := hcc187 0 _ rfl
                  rw [Nat.add_zero, show ((Kd.slice 9 Kd.string)).sz = 1 from rfl, Nat.mul_one] at hv187_0
                  replace hv187_0 := Option.some.inj (hv187_0.symm.trans hx187_0)
                  injection hv187_0 with hva_ hvn_ hvc_
                  rw [hva_] at ge187_0
                  rw [hvc_] at ul187_0
                  have HL187_0 := Aside0.mk (show Kd.V Kd.string 9 _ w.heap.size _ _ (rd_L1 l0 x10_2) from Kd.V_mk ul187_0 ge187_0)
                  clear hva_ hvn_ hvc_ ge187_0 ul187_0
                  clear hcc187 hce187
                  have HR187_0 := Aside0.mk hi187_0
                  have HC187_0 := Aside0.mk hl187_0
                  clear hi187_0 hl187_0
                  replace p187 := eq_true p187
                  replace q187 := eq_true q187
                  go_wp2_with (first | ((with_reducible refine gate_callee (f := 40) rfl ?_); refine goesL_ (some 38) rfl rfl Tryd.func40 (by kernel_rfl) rfl #[.slice A187_0 (rd_L1 l0 x10_2).length c187_0] rfl (by (try simp only [List.map_toArray, List.map_cons, List.map_nil]); first | done | rfl | (simp only [List.length_drop, List.length_take]; rfl)) ?_; (with_reducible refine (line_Put.calls _ _ (rd_L1 l0 x10_2) t188 t189 _ ?side1 ?side2 ?side3 A11.out).mono ?_); (case side1 => exact Hand3.Glob.below hG (by repeat (first | (with_reducible first | exact HB.out | apply below_alloc | apply pw_below_drewN | apply below_drew1) | exact HB.out))); (case side2 => repeat (first | exact (by repeat (first | (with_reducible exact HR187_0.out) | (with_reducible refine Kd.C_alloc ?_ _) | (with_reducible refine Kd.C_drewN ?_ _) | (with_reducible refine Kd.C_drew ?_) | exact HR187_0.out)) | (with_reducible refine Kd.C_alloc ?_ _) | (with_reducible refine Kd.C_drewN ?_ _) | (with_reducible refine Kd.C_drew ?_))); (case side3 => exact HC187_0.out); rintro e w19 ⟨rfl, hb⟩; refine ⟨_, rfl, ?_⟩; have n0_ := Aside0.mk (Kd.V_below (by (with_reducible repeat (first | apply Kd.V_alloc | apply Kd.V_drewN | apply Kd.V_drew)); exact HO_0.out) hb); have n1_ := Aside0.mk (Kd.N_below (by (with_reducible repeat (first | apply Kd.N_alloc | apply Kd.N_drewN | apply Kd.N_drew)); exact HO_8.out) hb); have n2_ := Aside0.mk (Kd.R_below (by (with_reducible repeat (first | apply Kd.R_alloc | apply Kd.R_drewN | apply Kd.R_drew)); exact HO_9.out) hb); have n3_ := Aside0.mk (Kd.V_below (by (with_reducible repeat (first | apply Kd.V_alloc | apply Kd.V_drewN | apply Kd.V_drew)); exact HL187_0.out) hb); have n4_ := Aside0.mk (Kd.C_below (by repeat (first | (with_reducible exact HR187_0.out) | (with_reducible refine Kd.C_alloc ?_ _) | (with_reducible refine Kd.C_drewN ?_ _) | (with_reducible refine Kd.C_drew ?_) | exact HR187_0.out)) hb); have n5_ := Aside0.mk (below_step (by repeat (first | (with_reducible first | exact HB.out | apply below_alloc | apply pw_below_drewN | apply below_drew1) | exact HB.out)) hb); clear HO_0; clear HO_8; clear HO_9; clear HL187_0; clear HR187_0; clear HB; have HO_0 := n0_; have HO_8 := n1_; have HO_9 := n2_; have HL187_0 := n3_; have HR187_0 := n4_; have HB := n5_; clear n0_ n1_ n2_ n3_ n4_ n5_; (try clear hb); (try clear hb2); (try clear hk); (try clear hi)))
                  go_roundg k2
                  case measure => have := HJ4.out; have := HK2.out; omega
                  case rel => exact ⟨(x7_2), (x8_2), (x9_2), (wrap64 (x10_2 + 1)), (by first | rfl | (simp; done) | (simp [*]; done)), (by first | rfl | (simp; done) | (simp [*]; done)), H', ⟨by have := HJ4.out; have := HK2.out; omega⟩, ⟨by (with_reducible repeat (first | apply Kd.V_alloc | apply Kd.V_drewN | apply Kd.V_drew)); exact HO_0.out⟩, ⟨by (with_reducible repeat (first | apply Kd.N_alloc | apply Kd.N_drewN | apply Kd.N_drew)); exact HO_8.out⟩, ⟨by (with_reducible repeat (first | apply Kd.R_alloc | apply Kd.R_drewN | apply Kd.R_drew)); exact HO_9.out⟩, ⟨by repeat (first | (with_reducible first | exact HB.out | apply below_alloc | apply pw_below_drewN | apply below_drew1) | exact HB.out)⟩⟩
              · rw [if_neg c10] at H
                exact absurd H (by simp)
            · rw [if_neg c9] at H
              have c9b0 : decide (x10_2 < (l0.length : Int)) = false := decide_eq_false c9
              clear c9
              obtain ⟨ji20, hji20⟩ : ∃ j_ : Int, (mn a1 (x7_2.size : Int)) = j_ := ⟨_, rfl⟩
              replace H : (cooperagelaw4_LineTorn.l1 k2 (mx 0 (ji20)) x7_2 x8_2 x9_2 0 0) = some r := by first | (rw [hji20] at H; exact H) | (simp only [hji20] at H ⊢; exact H)
              have hji20_ : (if (x7_2.size : Int) < a1 then (x7_2.size : Int) else a1) = ji20 := hji20
              obtain ⟨ji21, hji21⟩ : ∃ j_ : Int, (mx 0 (ji20)) = j_ := ⟨_, rfl⟩
              replace H : (cooperagelaw4_LineTorn.l1 k2 ji21 x7_2 x8_2 x9_2 0 0) = some r := by first | (rw [hji21] at H; exact H) | (simp only [hji21] at H ⊢; exact H)
              have hji21_ : (if 0 < (ji20) then (ji20) else 0) = ji21 := hji21
              have H' := Aside0.mk H
              clear H
              go_wp2
              go_loopg [13, 14] k2 (fun kq v13 v14 w' => ∃ (x13_3 : Int) (x14_3 : Int), v13 = .int .i64 x13_3 ∧ v14 = .int .i64 x14_3 ∧ Aside0 (cooperagelaw4_LineTorn.l1 kq ji21 x7_2 x8_2 x9_2 x13_3 x14_3 = some r) ∧ Aside0 (kq ≤ k2) ∧ Aside0 (Kd.N (Kd.slice 9 Kd.string) 23 w' w.heap.size (fun k_ => (P0_ k_ ∨ w.heap.size ≤ k_) ∧ some k_ ≠ (u9 : Value).ownBlock) u8 x8_2) ∧ Aside0 (Kd.R (Kd.int .i64) 3 w' w.heap.size (fun k_ => (w.heap.size ≤ k_)) u9 x9_2) ∧ Aside0 (Below w.heap.size w w'))
              case atStart => exact ⟨(0), (0), (by first | rfl | (simp; done) | (simp [*]; done)), (by first | rfl | (simp; done) | (simp [*]; done)), H', ⟨Nat.le_refl _⟩, ⟨by (with_reducible repeat (first | apply Kd.N_alloc | apply Kd.N_drewN | apply Kd.N_drew)); exact HO_8.out⟩, ⟨by (with_reducible repeat (first | apply Kd.R_alloc | apply Kd.R_drewN | apply Kd.R_drew)); exact HO_9.out⟩, ⟨by repeat (first | (with_reducible first | exact HB.out | apply below_alloc | apply pw_below_drewN | apply below_drew1) | exact HB.out)⟩⟩
              case round =>
                clear H'
                try clear c1
                try clear p1
                try clear q1
                try clear hx1
                try clear p2
                try clear c3
                try clear c4
                try clear p6
                try clear c7
                try clear c8
                try clear c9
                try clear c9b0
                try clear c10
                try clear c10b0
                try clear c12
                try clear c12b0
                try clear c12b1
                try clear c13
                try clear c13b0
                try clear c13b1
                try clear c13b2
                try clear c14
                try clear c15
                try clear c18
                try clear p18
                try clear q18
                try clear hx18
                try clear c19
                try clear p19
                try clear q19
                try clear hx19
                try clear hx187_0
                try clear hx190_0
                try clear p187
                try clear p190
                try clear p2
                try clear q187
                try clear q190
                obtain ⟨x13_3, x14_3, rfl, rfl, HA, HK3, HO_8, HO_9, HB⟩ := hrel
                cases gk with
                | zero => exact absurd HA.out (by simp [cooperagelaw4_LineTorn.l1])
                | succ k3 =>
                  have H := HA.out
                  clear HA
                  simp only [cooperagelaw4_LineTorn.l1] at H
                  by_cases c22 : x13_3 < (x8_2.length : Int)
                  · rw [if_pos c22] at H
                    have c22b0 : decide (x13_3 < (x8_2.length : Int)) = true := decide_eq_true c22
                    clear c22
                    by_cases c23 : 0 ≤ x13_3
                    · rw [if_pos c23] at H
                      have c23b0 : decide (0 ≤ x13_3) = true := decide_eq_true c23
                      clear c23
                      by_cases c24 : x13_3 < (x9_2.length : Int)
                      · rw [if_pos c24] at H
                        have c24b0 : decide (x13_3 < (x9_2.length : Int)) = true := decide_eq_true c24
                        clear c24
                        by_cases c25 : (rd x9_2 x13_3) ≤ ji21
                        · rw [if_pos c25] at H
                          have c25b0 : decide ((rd x9_2 x13_3) ≤ ji21) = true := decide_eq_true c25
                          clear c25
                          have H' := Aside0.mk H
                          clear H
                          obtain ⟨Ao26, co26, eo26⟩ := Kd.N_slice HO_8.out
                          subst eo26
                          obtain ⟨Ao27, co27, eo27⟩ := Kd.R_slice HO_9.out
                          subst eo27
                          have p197 : 0 ≤ (x13_3 : Int) := of_decide_eq_true (by first | (with_reducible assumption) | assumption)
                          have q197 : x13_3 < (x9_2.length : Int) := of_decide_eq_true (by first | (with_reducible assumption) | assumption)
                          obtain ⟨ad197, e197, hx197_0⟩ := Kd.at_int (Kd.R_reads' HO_9.out).2.2 x13_3 p197 q197
                          cases e197
                          replace p197 := eq_true p197
                          replace q197 := eq_true q197
                          have p198 : 0 ≤ (x13_3 : Int) := of_decide_eq_true (by first | (with_reducible assumption) | assumption)
                          have q198 : x13_3 < (x9_2.length : Int) := of_decide_eq_true (by first | (with_reducible assumption) | assumption)
                          obtain ⟨ad198, e198, hx198_0⟩ := Kd.at_int (Kd.R_reads' HO_9.out).2.2 x13_3 p198 q198
                          obtain rfl : ad197 = ad198 := (by injection e198)
                          replace p198 := eq_true p198
                          replace q198 := eq_true q198
                          go_wp2
                          go_roundg k3
                          case measure => have := HJ4.out; have := HK2.out; have := HK3.out; omega
                          case rel => exact ⟨(wrap64 (x13_3 + 1)), (rd x9_2 x13_3), (by first | rfl | (simp; done) | (simp [*]; done)), (by first | rfl | (simp; done) | (simp [*]; done)), H', ⟨by have := HJ4.out; have := HK2.out; have := HK3.out; omega⟩, ⟨by (with_reducible repeat (first | apply Kd.N_alloc | apply Kd.N_drewN | apply Kd.N_drew)); exact HO_8.out⟩, ⟨by (with_reducible repeat (first | apply Kd.R_alloc | apply Kd.R_drewN | apply Kd.R_drew)); exact HO_9.out⟩, ⟨by repeat (first | (with_reducible first | exact HB.out | apply below_alloc | apply pw_below_drewN | apply below_drew1) | exact HB.out)⟩⟩
                        · rw [if_neg c25] at H
                          have c25b0 : decide ((rd x9_2 x13_3) ≤ ji21) = false := decide_eq_false c25
                          clear c25
                          by_cases c28 : 0 ≤ ji21
                          · rw [if_pos c28] at H
                            have c28b0 := eq_true c28
                            have c28b1 : decide (0 ≤ ji21) = true := decide_eq_true c28
                            clear c28
                            by_cases c29 : ji21 ≤ (x7_2.size : Int)
                            · rw [if_pos c29] at H
                              have c29b0 := eq_true c29
                              have c29b1 : decide (ji21 ≤ (x7_2.size : Int)) = true := decide_eq_true c29
                              clear c29
                              replace H := Option.bind_eq_some_iff.mp H
                              obtain ⟨⟨t199, t200⟩, A300, H⟩ := H
                              replace H : (if x13_3 ≤ (x8_2.length : Int) then ((cooperagelaw4_sameAll.f k3 t199 (x8_2.take (x13_3 : Int).toNat)).bind fun t208 => (if t208 = true then (some (t200 == x14_3)) else (some false))) else (none)) = some r := H
                              have A30 := Aside0.mk A300
                              clear A300
                              have c31b0 := eq_true (of_decide_eq_true (by first | (with_reducible assumption) | assumption) : 0 ≤ x13_3)
                              by_cases c32 : x13_3 ≤ (x8_2.length : Int)
                              · rw [if_pos c32] at H
                                have c32b0 := eq_true c32
                                have c32b1 : decide (x13_3 ≤ (x8_2.length : Int)) = true := decide_eq_true c32
                                clear c32
                                obtain ⟨y203, hy203⟩ : ∃ y_ : List (List ByteArray), y_ = (x8_2.take (x13_3 : Int).toNat) := ⟨_, rfl⟩
                                replace H : ((cooperagelaw4_sameAll.f k3 t199 y203).bind fun t208 => (if t208 = true then (some (t200 == x14_3)) else (some false))) = some r := by first | (rw [hy203]; with_reducible exact H) | (have H2_ := (Option.bind_some _ _).symm.trans H; rw [hy203]; with_reducible exact H2_) | (have H2_ := (Option.bind_some _ _).symm.trans H; with_reducible exact H2_) | with_reducible exact H | (rw [hy203]; exact H) | exact H
                                have Ny203 := Aside0.mk hy203
                                clear hy203
                                replace H := Option.bind_eq_some_iff.mp H
                                obtain ⟨t208, A330, H⟩ := H
                                replace H : (if t208 = true then (some (t200 == x14_3)) else (some false)) = some r := H
                                have A33 := Aside0.mk A330
                                clear A330
                                by_cases c34 : t208 = true
                                · subst c34
                                  have H1 : (some (t200 == x14_3)) = some r := by rw [if_pos rfl] at H; exact H
                                  clear H
                                  have H := H1
                                  clear H1
                                  obtain rfl := Option.some.inj H
                                  obtain ⟨Ao35, co35, eo35⟩ := Kd.N_slice HO_8.out
                                  subst eo35
                                  obtain ⟨Ao36, co36, eo36⟩ := Kd.R_slice HO_9.out
                                  subst eo36
                                  have p197 : 0 ≤ (x13_3 : Int) := of_decide_eq_true (by first | (with_reducible assumption) | assumption)
                                  have q197 : x13_3 < (x9_2.length : Int) := of_decide_eq_true (by first | (with_reducible assumption) | assumption)
                                  obtain ⟨ad197, e197, hx197_0⟩ := Kd.at_int (Kd.R_reads' HO_9.out).2.2 x13_3 p197 q197
                                  cases e197
                                  replace p197 := eq_true p197
                                  replace q197 := eq_true q197
                                  go_wp2_with (first | ((with_reducible refine gate_callee (f := 44) rfl ?_); refine goesL_ (some 85) rfl rfl Tryd.func44 (by kernel_rfl) rfl #[.string (x7_2.extract 0 (ji21 : Int).toNat)] rfl (by (try simp only [List.map_toArray, List.map_cons, List.map_nil]); first | done | (simp only [hji21]; rfl) | rfl | (simp only [List.length_drop, List.length_take]; rfl)) ?_; (with_reducible refine (line_Scan.calls (x7_2.extract 0 (ji21 : Int).toNat) t199 t200 _ ?side1 A30.out).mono ?_); (case side1 => exact Hand3.Glob.below hG (by repeat (first | (with_reducible first | exact HB.out | apply below_alloc | apply pw_below_drewN | apply below_drew1) | exact HB.out))); rintro e w37 ⟨v201, rfl, ho0, hb⟩; refine ⟨_, rfl, ?_⟩; have n0_ := Aside0.mk (Kd.N_elder' (by (with_reducible repeat (first | apply Kd.N_alloc | apply Kd.N_drewN | apply Kd.N_drew)); exact HO_8.out) (by first | exact Kd.N_base ho0 | exact Kd.S_base ho0) hb); have n1_ := Aside0.mk (Kd.R_below (by (with_reducible repeat (first | apply Kd.R_alloc | apply Kd.R_drewN | apply Kd.R_drew)); exact HO_9.out) hb); have n2_ := Aside0.mk (Kd.N_lower (Kd.N_mono (ok' := fun k_ => (P0_ k_ ∨ w.heap.size ≤ k_) ∧ some k_ ≠ (.slice Ao35 x8_2.length co35 : Value).ownBlock ∧ some k_ ≠ (.slice (some ad197) x9_2.length co36 : Value).ownBlock) (Kd.S_N (Kd.S_bound ho0)) (fun k_ hk_ => ⟨(.inr (Nat.le_trans (below_size (by repeat (first | (with_reducible first | exact HB.out | apply below_alloc | apply pw_below_drewN | apply below_drew1) | exact HB.out))) hk_.2.1)), (Kd.fresh' (Kd.N_lt (by (with_reducible repeat (first | apply Kd.N_alloc | apply Kd.N_drewN | apply Kd.N_drew)); exact HO_8.out)) k_ hk_.2.1), (Kd.fresh' (Kd.R_lt (by (with_reducible repeat (first | apply Kd.R_alloc | apply Kd.R_drewN | apply Kd.R_drew)); exact HO_9.out)) k_ hk_.2.1)⟩)) (below_size (by repeat (first | (with_reducible first | exact HB.out | apply below_alloc | apply pw_below_drewN | apply below_drew1) | exact HB.out)))); have n3_ := Aside0.mk (below_step (by repeat (first | (with_reducible first | exact HB.out | apply below_alloc | apply pw_below_drewN | apply below_drew1) | exact HB.out)) hb); clear HO_8; clear HO_9; clear HB; have HO_8 := n0_; have HO_9 := n1_; have HO202 := n2_; have HB := n3_; clear n0_ n1_ n2_ n3_; (try clear hb); (try clear hb2); (try clear hk); (try clear hi); (try clear ho0); have q38 : (x13_3 : Int) ≤ ((x8_2.length : Int) : Int) := of_decide_eq_true (by first | (with_reducible assumption) | assumption); obtain ⟨i038, hi038, _, hsz38, _⟩ := info_parts info23; have hroom38 : x8_2.length ≤ co35 := (Kd.N_reads' HO_8.out).2.1; have hC38 : Kd.F (Kd.slice 9 Kd.string) _ _ Ao35 x8_2.length x8_2 := (Kd.V_at (base := w.heap.size) (Kd.N_V HO_8.out)).2.2; have hcut38 := cut_to (P := Tryd.prog) 41 23 .i64 Tryd.underlying41 hi038 Ao35 x8_2.length co35 x13_3 (of_decide_eq_true (by first | (with_reducible assumption) | assumption)) q38 hroom38; have hr38 := Kd.F_take (m := (x13_3 : Int).toNat) hC38 (by omega); have hy38 : y203.length = (x13_3 : Int).toNat := (by rw [Ny203.out, List.length_take]; omega); rw [← Ny203.out] at hr38; rw [← hy38] at hcut38; have HO207 := Aside0.mk (show Kd.V (Kd.slice 9 Kd.string) 23 _ w.heap.size _ (.slice Ao35 y203.length co35) y203 from Kd.V_mk (by omega) hr38); have HC207 := Aside0.mk (show y203.length ≤ co35 from by omega); clear hr38 hC38 hroom38 hi038 hsz38; have KY38 := Aside0.mk hy38; clear hy38; replace q38 := eq_true q38; obtain ⟨Ao39, co39, eo39⟩ := Kd.N_slice HO202.out; subst eo39) | ((with_reducible refine gate_callee (f := 47) rfl ?_); refine goesL_ (some 92) rfl rfl Tryd.func47 (by kernel_rfl) rfl #[.slice Ao39 t199.length co39, .slice Ao35 y203.length co35] rfl (by (try simp only [List.map_toArray, List.map_cons, List.map_nil]); first | done | rfl | (simp only [List.length_drop, List.length_take]; rfl)) ?_; (with_reducible refine (cooperagelaw4_sameAll.calls k3 _ _ t199 _ _ y203 true _ ?side1 ?side2 ?side3 ?side4 A33.out).mono ?_); (case side1 => repeat (first | exact (Kd.N_reads' HO202.out).2.2 | (with_reducible refine Kd.C_alloc ?_ _) | (with_reducible refine Kd.C_drewN ?_ _) | (with_reducible refine Kd.C_drew ?_))); (case side2 => exact (Kd.N_reads' HO202.out).2.1); (case side3 => repeat (first | exact (Kd.V_reads' HO207.out).2.2 | (with_reducible refine Kd.C_alloc ?_ _) | (with_reducible refine Kd.C_drewN ?_ _) | (with_reducible refine Kd.C_drew ?_))); (case side4 => exact (Kd.V_reads' HO207.out).2.1); rintro e w' ⟨rfl, ⟨nd, rfl⟩⟩; refine ⟨_, rfl, ?_⟩))
                                  go_ret
                                  exact ⟨by first | rfl | (simp [errW_none, errW_some] <;> rfl) | (simp only [← hji20, ← hji21]; first | rfl | (simp [errW_none, errW_some] <;> rfl)) | (simp [*, errW_none, errW_some] <;> rfl) | (simp [errW_none, errW_some]; cases a0.toList <;> rfl), by repeat (first | (with_reducible first | exact HB.out | apply below_alloc | apply pw_below_drewN | apply below_drew1) | exact HB.out)⟩
                                · replace c34 := Bool.eq_false_iff.mpr c34
                                  subst c34
                                  have H1 : (some false) = some r := by rw [if_neg (show ¬ (false = true) by decide)] at H; exact H
                                  clear H
                                  have H := H1
                                  clear H1
                                  obtain rfl := Option.some.inj H
                                  obtain ⟨Ao40, co40, eo40⟩ := Kd.N_slice HO_8.out
                                  subst eo40
                                  obtain ⟨Ao41, co41, eo41⟩ := Kd.R_slice HO_9.out
                                  subst eo41
                                  have p197 : 0 ≤ (x13_3 : Int) := of_decide_eq_true (by first | (with_reducible assumption) | assumption)
                                  have q197 : x13_3 < (x9_2.length : Int) := of_decide_eq_true (by first | (with_reducible assumption) | assumption)
                                  obtain ⟨ad197, e197, hx197_0⟩ := Kd.at_int (Kd.R_reads' HO_9.out).2.2 x13_3 p197 q197
                                  cases e197
                                  replace p197 := eq_true p197
                                  replace q197 := eq_true q197
                                  go_wp2_with (first | ((with_reducible refine gate_callee (f := 44) rfl ?_); refine goesL_ (some 85) rfl rfl Tryd.func44 (by kernel_rfl) rfl #[.string (x7_2.extract 0 (ji21 : Int).toNat)] rfl (by (try simp only [List.map_toArray, List.map_cons, List.map_nil]); first | done | (simp only [hji21]; rfl) | rfl | (simp only [List.length_drop, List.length_take]; rfl)) ?_; (with_reducible refine (line_Scan.calls (x7_2.extract 0 (ji21 : Int).toNat) t199 t200 _ ?side1 A30.out).mono ?_); (case side1 => exact Hand3.Glob.below hG (by repeat (first | (with_reducible first | exact HB.out | apply below_alloc | apply pw_below_drewN | apply below_drew1) | exact HB.out))); rintro e w42 ⟨v201, rfl, ho0, hb⟩; refine ⟨_, rfl, ?_⟩; have n0_ := Aside0.mk (Kd.N_elder' (by (with_reducible repeat (first | apply Kd.N_alloc | apply Kd.N_drewN | apply Kd.N_drew)); exact HO_8.out) (by first | exact Kd.N_base ho0 | exact Kd.S_base ho0) hb); have n1_ := Aside0.mk (Kd.R_below (by (with_reducible repeat (first | apply Kd.R_alloc | apply Kd.R_drewN | apply Kd.R_drew)); exact HO_9.out) hb); have n2_ := Aside0.mk (Kd.N_lower (Kd.N_mono (ok' := fun k_ => (P0_ k_ ∨ w.heap.size ≤ k_) ∧ some k_ ≠ (.slice Ao40 x8_2.length co40 : Value).ownBlock ∧ some k_ ≠ (.slice (some ad197) x9_2.length co41 : Value).ownBlock) (Kd.S_N (Kd.S_bound ho0)) (fun k_ hk_ => ⟨(.inr (Nat.le_trans (below_size (by repeat (first | (with_reducible first | exact HB.out | apply below_alloc | apply pw_below_drewN | apply below_drew1) | exact HB.out))) hk_.2.1)), (Kd.fresh' (Kd.N_lt (by (with_reducible repeat (first | apply Kd.N_alloc | apply Kd.N_drewN | apply Kd.N_drew)); exact HO_8.out)) k_ hk_.2.1), (Kd.fresh' (Kd.R_lt (by (with_reducible repeat (first | apply Kd.R_alloc | apply Kd.R_drewN | apply Kd.R_drew)); exact HO_9.out)) k_ hk_.2.1)⟩)) (below_size (by repeat (first | (with_reducible first | exact HB.out | apply below_alloc | apply pw_below_drewN | apply below_drew1) | exact HB.out)))); have n3_ := Aside0.mk (below_step (by repeat (first | (with_reducible first | exact HB.out | apply below_alloc | apply pw_below_drewN | apply below_drew1) | exact HB.out)) hb); clear HO_8; clear HO_9; clear HB; have HO_8 := n0_; have HO_9 := n1_; have HO202 := n2_; have HB := n3_; clear n0_ n1_ n2_ n3_; (try clear hb); (try clear hb2); (try clear hk); (try clear hi); (try clear ho0); have q43 : (x13_3 : Int) ≤ ((x8_2.length : Int) : Int) := of_decide_eq_true (by first | (with_reducible assumption) | assumption); obtain ⟨i043, hi043, _, hsz43, _⟩ := info_parts info23; have hroom43 : x8_2.length ≤ co40 := (Kd.N_reads' HO_8.out).2.1; have hC43 : Kd.F (Kd.slice 9 Kd.string) _ _ Ao40 x8_2.length x8_2 := (Kd.V_at (base := w.heap.size) (Kd.N_V HO_8.out)).2.2; have hcut43 := cut_to (P := Tryd.prog) 41 23 .i64 Tryd.underlying41 hi043 Ao40 x8_2.length co40 x13_3 (of_decide_eq_true (by first | (with_reducible assumption) | assumption)) q43 hroom43; have hr43 := Kd.F_take (m := (x13_3 : Int).toNat) hC43 (by omega); have hy43 : y203.length = (x13_3 : Int).toNat := (by rw [Ny203.out, List.length_take]; omega); rw [← Ny203.out] at hr43; rw [← hy43] at hcut43; have HO207 := Aside0.mk (show Kd.V (Kd.slice 9 Kd.string) 23 _ w.heap.size _ (.slice Ao40 y203.length co40) y203 from Kd.V_mk (by omega) hr43); have HC207 := Aside0.mk (show y203.length ≤ co40 from by omega); clear hr43 hC43 hroom43 hi043 hsz43; have KY43 := Aside0.mk hy43; clear hy43; replace q43 := eq_true q43; obtain ⟨Ao44, co44, eo44⟩ := Kd.N_slice HO202.out; subst eo44) | ((with_reducible refine gate_callee (f := 47) rfl ?_); refine goesL_ (some 92) rfl rfl Tryd.func47 (by kernel_rfl) rfl #[.slice Ao44 t199.length co44, .slice Ao40 y203.length co40] rfl (by (try simp only [List.map_toArray, List.map_cons, List.map_nil]); first | done | rfl | (simp only [List.length_drop, List.length_take]; rfl)) ?_; (with_reducible refine (cooperagelaw4_sameAll.calls k3 _ _ t199 _ _ y203 false _ ?side1 ?side2 ?side3 ?side4 A33.out).mono ?_); (case side1 => repeat (first | exact (Kd.N_reads' HO202.out).2.2 | (with_reducible refine Kd.C_alloc ?_ _) | (with_reducible refine Kd.C_drewN ?_ _) | (with_reducible refine Kd.C_drew ?_))); (case side2 => exact (Kd.N_reads' HO202.out).2.1); (case side3 => repeat (first | exact (Kd.V_reads' HO207.out).2.2 | (with_reducible refine Kd.C_alloc ?_ _) | (with_reducible refine Kd.C_drewN ?_ _) | (with_reducible refine Kd.C_drew ?_))); (case side4 => exact (Kd.V_reads' HO207.out).2.1); rintro e w' ⟨rfl, ⟨nd, rfl⟩⟩; refine ⟨_, rfl, ?_⟩))
                                  go_ret
                                  exact ⟨by first | rfl | (simp [errW_none, errW_some] <;> rfl) | (simp only [← hji20, ← hji21]; first | rfl | (simp [errW_none, errW_some] <;> rfl)) | (simp [*, errW_none, errW_some] <;> rfl) | (simp [errW_none, errW_some]; cases a0.toList <;> rfl), by repeat (first | (with_reducible first | exact HB.out | apply below_alloc | apply pw_below_drewN | apply below_drew1) | exact HB.out)⟩
                              · rw [if_neg c32] at H
                                exact absurd H (by simp)
                            · rw [if_neg c29] at H
                              exact absurd H (by simp)
                          · rw [if_neg c28] at H
                            exact absurd H (by simp)
                      · rw [if_neg c24] at H
                        exact absurd H (by simp)
                    · rw [if_neg c23] at H
                      exact absurd H (by simp)
                  · rw [if_neg c22] at H
                    have c22b0 : decide (x13_3 < (x8_2.length : Int)) = false := decide_eq_false c22
                    clear c22
                    by_cases c45 : 0 ≤ ji21
                    · rw [if_pos c45] at H
                      have c45b0 := eq_true c45
                      have c45b1 : decide (0 ≤ ji21) = true := decide_eq_true c45
                      clear c45
                      by_cases c46 : ji21 ≤ (x7_2.size : Int)
                      · rw [if_pos c46] at H
                        have c46b0 := eq_true c46
                        have c46b1 : decide (ji21 ≤ (x7_2.size : Int)) = true := decide_eq_true c46
                        clear c46
                        replace H := Option.bind_eq_some_iff.mp H
                        obtain ⟨⟨t209, t210⟩, A470, H⟩ := H
                        replace H : (if 0 ≤ x13_3 then (if x13_3 ≤ (x8_2.length : Int) then ((cooperagelaw4_sameAll.f k3 t209 (x8_2.take (x13_3 : Int).toNat)).bind fun t218 => (if t218 = true then (some (t210 == x14_3)) else (some false))) else (none)) else (none)) = some r := H
                        have A47 := Aside0.mk A470
                        clear A470
                        by_cases c48 : 0 ≤ x13_3
                        · rw [if_pos c48] at H
                          have c48b0 := eq_true c48
                          have c48b1 : decide (0 ≤ x13_3) = true := decide_eq_true c48
                          clear c48
                          by_cases c49 : x13_3 ≤ (x8_2.length : Int)
                          · rw [if_pos c49] at H
                            have c49b0 := eq_true c49
                            have c49b1 : decide (x13_3 ≤ (x8_2.length : Int)) = true := decide_eq_true c49
                            clear c49
                            obtain ⟨y213, hy213⟩ : ∃ y_ : List (List ByteArray), y_ = (x8_2.take (x13_3 : Int).toNat) := ⟨_, rfl⟩
                            replace H : ((cooperagelaw4_sameAll.f k3 t209 y213).bind fun t218 => (if t218 = true then (some (t210 == x14_3)) else (some false))) = some r := by first | (rw [hy213]; with_reducible exact H) | (have H2_ := (Option.bind_some _ _).symm.trans H; rw [hy213]; with_reducible exact H2_) | (have H2_ := (Option.bind_some _ _).symm.trans H; with_reducible exact H2_) | with_reducible exact H | (rw [hy213]; exact H) | exact H
                            have Ny213 := Aside0.mk hy213
                            clear hy213
                            replace H := Option.bind_eq_some_iff.mp H
                            obtain ⟨t218, A500, H⟩ := H
                            replace H : (if t218 = true then (some (t210 == x14_3)) else (some false)) = some r := H
                            have A50 := Aside0.mk A500
                            clear A500
                            by_cases c51 : t218 = true
                            · subst c51
                              have H1 : (some (t210 == x14_3)) = some r := by rw [if_pos rfl] at H; exact H
                              clear H
                              have H := H1
                              clear H1
                              obtain rfl := Option.some.inj H
                              obtain ⟨Ao52, co52, eo52⟩ := Kd.N_slice HO_8.out
                              subst eo52
                              go_wp2_with (first | ((with_reducible refine gate_callee (f := 44) rfl ?_); refine goesL_ (some 85) rfl rfl Tryd.func44 (by kernel_rfl) rfl #[.string (x7_2.extract 0 (ji21 : Int).toNat)] rfl (by (try simp only [List.map_toArray, List.map_cons, List.map_nil]); first | done | (simp only [hji21]; rfl) | rfl | (simp only [List.length_drop, List.length_take]; rfl)) ?_; (with_reducible refine (line_Scan.calls (x7_2.extract 0 (ji21 : Int).toNat) t209 t210 _ ?side1 A47.out).mono ?_); (case side1 => exact Hand3.Glob.below hG (by repeat (first | (with_reducible first | exact HB.out | apply below_alloc | apply pw_below_drewN | apply below_drew1) | exact HB.out))); rintro e w53 ⟨v211, rfl, ho0, hb⟩; refine ⟨_, rfl, ?_⟩; have n0_ := Aside0.mk (Kd.N_elder' (by (with_reducible repeat (first | apply Kd.N_alloc | apply Kd.N_drewN | apply Kd.N_drew)); exact HO_8.out) (by first | exact Kd.N_base ho0 | exact Kd.S_base ho0) hb); have n1_ := Aside0.mk (Kd.R_below (by (with_reducible repeat (first | apply Kd.R_alloc | apply Kd.R_drewN | apply Kd.R_drew)); exact HO_9.out) hb); have n2_ := Aside0.mk (Kd.N_lower (Kd.N_mono (ok' := fun k_ => (P0_ k_ ∨ w.heap.size ≤ k_) ∧ some k_ ≠ (.slice Ao52 x8_2.length co52 : Value).ownBlock ∧ some k_ ≠ (u9 : Value).ownBlock) (Kd.S_N (Kd.S_bound ho0)) (fun k_ hk_ => ⟨(.inr (Nat.le_trans (below_size (by repeat (first | (with_reducible first | exact HB.out | apply below_alloc | apply pw_below_drewN | apply below_drew1) | exact HB.out))) hk_.2.1)), (Kd.fresh' (Kd.N_lt (by (with_reducible repeat (first | apply Kd.N_alloc | apply Kd.N_drewN | apply Kd.N_drew)); exact HO_8.out)) k_ hk_.2.1), (Kd.fresh' (Kd.R_lt (by (with_reducible repeat (first | apply Kd.R_alloc | apply Kd.R_drewN | apply Kd.R_drew)); exact HO_9.out)) k_ hk_.2.1)⟩)) (below_size (by repeat (first | (with_reducible first | exact HB.out | apply below_alloc | apply pw_below_drewN | apply below_drew1) | exact HB.out)))); have n3_ := Aside0.mk (below_step (by repeat (first | (with_reducible first | exact HB.out | apply below_alloc | apply pw_below_drewN | apply below_drew1) | exact HB.out)) hb); clear HO_8; clear HO_9; clear HB; have HO_8 := n0_; have HO_9 := n1_; have HO212 := n2_; have HB := n3_; clear n0_ n1_ n2_ n3_; (try clear hb); (try clear hb2); (try clear hk); (try clear hi); (try clear ho0); have q54 : (x13_3 : Int) ≤ ((x8_2.length : Int) : Int) := of_decide_eq_true (by first | (with_reducible assumption) | assumption); obtain ⟨i054, hi054, _, hsz54, _⟩ := info_parts info23; have hroom54 : x8_2.length ≤ co52 := (Kd.N_reads' HO_8.out).2.1; have hC54 : Kd.F (Kd.slice 9 Kd.string) _ _ Ao52 x8_2.length x8_2 := (Kd.V_at (base := w.heap.size) (Kd.N_V HO_8.out)).2.2; have hcut54 := cut_to (P := Tryd.prog) 41 23 .i64 Tryd.underlying41 hi054 Ao52 x8_2.length co52 x13_3 (of_decide_eq_true (by first | (with_reducible assumption) | assumption)) q54 hroom54; have hr54 := Kd.F_take (m := (x13_3 : Int).toNat) hC54 (by omega); have hy54 : y213.length = (x13_3 : Int).toNat := (by rw [Ny213.out, List.length_take]; omega); rw [← Ny213.out] at hr54; rw [← hy54] at hcut54; have HO217 := Aside0.mk (show Kd.V (Kd.slice 9 Kd.string) 23 _ w.heap.size _ (.slice Ao52 y213.length co52) y213 from Kd.V_mk (by omega) hr54); have HC217 := Aside0.mk (show y213.length ≤ co52 from by omega); clear hr54 hC54 hroom54 hi054 hsz54; have KY54 := Aside0.mk hy54; clear hy54; replace q54 := eq_true q54; obtain ⟨Ao55, co55, eo55⟩ := Kd.N_slice HO212.out; subst eo55) | ((with_reducible refine gate_callee (f := 47) rfl ?_); refine goesL_ (some 92) rfl rfl Tryd.func47 (by kernel_rfl) rfl #[.slice Ao55 t209.length co55, .slice Ao52 y213.length co52] rfl (by (try simp only [List.map_toArray, List.map_cons, List.map_nil]); first | done | rfl | (simp only [List.length_drop, List.length_take]; rfl)) ?_; (with_reducible refine (cooperagelaw4_sameAll.calls k3 _ _ t209 _ _ y213 true _ ?side1 ?side2 ?side3 ?side4 A50.out).mono ?_); (case side1 => repeat (first | exact (Kd.N_reads' HO212.out).2.2 | (with_reducible refine Kd.C_alloc ?_ _) | (with_reducible refine Kd.C_drewN ?_ _) | (with_reducible refine Kd.C_drew ?_))); (case side2 => exact (Kd.N_reads' HO212.out).2.1); (case side3 => repeat (first | exact (Kd.V_reads' HO217.out).2.2 | (with_reducible refine Kd.C_alloc ?_ _) | (with_reducible refine Kd.C_drewN ?_ _) | (with_reducible refine Kd.C_drew ?_))); (case side4 => exact (Kd.V_reads' HO217.out).2.1); rintro e w' ⟨rfl, ⟨nd, rfl⟩⟩; refine ⟨_, rfl, ?_⟩))
                              go_ret
                              exact ⟨by first | rfl | (simp [errW_none, errW_some] <;> rfl) | (simp only [← hji20, ← hji21]; first | rfl | (simp [errW_none, errW_some] <;> rfl)) | (simp [*, errW_none, errW_some] <;> rfl) | (simp [errW_none, errW_some]; cases a0.toList <;> rfl), by repeat (first | (with_reducible first | exact HB.out | apply below_alloc | apply pw_below_drewN | apply below_drew1) | exact HB.out)⟩
                            · replace c51 := Bool.eq_false_iff.mpr c51
                              subst c51
                              have H1 : (some false) = some r := by rw [if_neg (show ¬ (false = true) by decide)] at H; exact H
                              clear H
                              have H := H1
                              clear H1
                              obtain rfl := Option.some.inj H
                              obtain ⟨Ao56, co56, eo56⟩ := Kd.N_slice HO_8.out
                              subst eo56
                              go_wp2_with (first | ((with_reducible refine gate_callee (f := 44) rfl ?_); refine goesL_ (some 85) rfl rfl Tryd.func44 (by kernel_rfl) rfl #[.string (x7_2.extract 0 (ji21 : Int).toNat)] rfl (by (try simp only [List.map_toArray, List.map_cons, List.map_nil]); first | done | (simp only [hji21]; rfl) | rfl | (simp only [List.length_drop, List.length_take]; rfl)) ?_; (with_reducible refine (line_Scan.calls (x7_2.extract 0 (ji21 : Int).toNat) t209 t210 _ ?side1 A47.out).mono ?_); (case side1 => exact Hand3.Glob.below hG (by repeat (first | (with_reducible first | exact HB.out | apply below_alloc | apply pw_below_drewN | apply below_drew1) | exact HB.out))); rintro e w57 ⟨v211, rfl, ho0, hb⟩; refine ⟨_, rfl, ?_⟩; have n0_ := Aside0.mk (Kd.N_elder' (by (with_reducible repeat (first | apply Kd.N_alloc | apply Kd.N_drewN | apply Kd.N_drew)); exact HO_8.out) (by first | exact Kd.N_base ho0 | exact Kd.S_base ho0) hb); have n1_ := Aside0.mk (Kd.R_below (by (with_reducible repeat (first | apply Kd.R_alloc | apply Kd.R_drewN | apply Kd.R_drew)); exact HO_9.out) hb); have n2_ := Aside0.mk (Kd.N_lower (Kd.N_mono (ok' := fun k_ => (P0_ k_ ∨ w.heap.size ≤ k_) ∧ some k_ ≠ (.slice Ao56 x8_2.length co56 : Value).ownBlock ∧ some k_ ≠ (u9 : Value).ownBlock) (Kd.S_N (Kd.S_bound ho0)) (fun k_ hk_ => ⟨(.inr (Nat.le_trans (below_size (by repeat (first | (with_reducible first | exact HB.out | apply below_alloc | apply pw_below_drewN | apply below_drew1) | exact HB.out))) hk_.2.1)), (Kd.fresh' (Kd.N_lt (by (with_reducible repeat (first | apply Kd.N_alloc | apply Kd.N_drewN | apply Kd.N_drew)); exact HO_8.out)) k_ hk_.2.1), (Kd.fresh' (Kd.R_lt (by (with_reducible repeat (first | apply Kd.R_alloc | apply Kd.R_drewN | apply Kd.R_drew)); exact HO_9.out)) k_ hk_.2.1)⟩)) (below_size (by repeat (first | (with_reducible first | exact HB.out | apply below_alloc | apply pw_below_drewN | apply below_drew1) | exact HB.out)))); have n3_ := Aside0.mk (below_step (by repeat (first | (with_reducible first | exact HB.out | apply below_alloc | apply pw_below_drewN | apply below_drew1) | exact HB.out)) hb); clear HO_8; clear HO_9; clear HB; have HO_8 := n0_; have HO_9 := n1_; have HO212 := n2_; have HB := n3_; clear n0_ n1_ n2_ n3_; (try clear hb); (try clear hb2); (try clear hk); (try clear hi); (try clear ho0); have q58 : (x13_3 : Int) ≤ ((x8_2.length : Int) : Int) := of_decide_eq_true (by first | (with_reducible assumption) | assumption); obtain ⟨i058, hi058, _, hsz58, _⟩ := info_parts info23; have hroom58 : x8_2.length ≤ co56 := (Kd.N_reads' HO_8.out).2.1; have hC58 : Kd.F (Kd.slice 9 Kd.string) _ _ Ao56 x8_2.length x8_2 := (Kd.V_at (base := w.heap.size) (Kd.N_V HO_8.out)).2.2; have hcut58 := cut_to (P := Tryd.prog) 41 23 .i64 Tryd.underlying41 hi058 Ao56 x8_2.length co56 x13_3 (of_decide_eq_true (by first | (with_reducible assumption) | assumption)) q58 hroom58; have hr58 := Kd.F_take (m := (x13_3 : Int).toNat) hC58 (by omega); have hy58 : y213.length = (x13_3 : Int).toNat := (by rw [Ny213.out, List.length_take]; omega); rw [← Ny213.out] at hr58; rw [← hy58] at hcut58; have HO217 := Aside0.mk (show Kd.V (Kd.slice 9 Kd.string) 23 _ w.heap.size _ (.slice Ao56 y213.length co56) y213 from Kd.V_mk (by omega) hr58); have HC217 := Aside0.mk (show y213.length ≤ co56 from by omega); clear hr58 hC58 hroom58 hi058 hsz58; have KY58 := Aside0.mk hy58; clear hy58; replace q58 := eq_true q58; obtain ⟨Ao59, co59, eo59⟩ := Kd.N_slice HO212.out; subst eo59) | ((with_reducible refine gate_callee (f := 47) rfl ?_); refine goesL_ (some 92) rfl rfl Tryd.func47 (by kernel_rfl) rfl #[.slice Ao59 t209.length co59, .slice Ao56 y213.length co56] rfl (by (try simp only [List.map_toArray, List.map_cons, List.map_nil]); first | done | rfl | (simp only [List.length_drop, List.length_take]; rfl)) ?_; (with_reducible refine (cooperagelaw4_sameAll.calls k3 _ _ t209 _ _ y213 false _ ?side1 ?side2 ?side3 ?side4 A50.out).mono ?_); (case side1 => repeat (first | exact (Kd.N_reads' HO212.out).2.2 | (with_reducible refine Kd.C_alloc ?_ _) | (with_reducible refine Kd.C_drewN ?_ _) | (with_reducible refine Kd.C_drew ?_))); (case side2 => exact (Kd.N_reads' HO212.out).2.1); (case side3 => repeat (first | exact (Kd.V_reads' HO217.out).2.2 | (with_reducible refine Kd.C_alloc ?_ _) | (with_reducible refine Kd.C_drewN ?_ _) | (with_reducible refine Kd.C_drew ?_))); (case side4 => exact (Kd.V_reads' HO217.out).2.1); rintro e w' ⟨rfl, ⟨nd, rfl⟩⟩; refine ⟨_, rfl, ?_⟩))
                              go_ret
                              exact ⟨by first | rfl | (simp [errW_none, errW_some] <;> rfl) | (simp only [← hji20, ← hji21]; first | rfl | (simp [errW_none, errW_some] <;> rfl)) | (simp [*, errW_none, errW_some] <;> rfl) | (simp [errW_none, errW_some]; cases a0.toList <;> rfl), by repeat (first | (with_reducible first | exact HB.out | apply below_alloc | apply pw_below_drewN | apply below_drew1) | exact HB.out)⟩
                          · rw [if_neg c49] at H
                            exact absurd H (by simp)
                        · rw [if_neg c48] at H
                          exact absurd H (by simp)
                      · rw [if_neg c46] at H
                        exact absurd H (by simp)
                    · rw [if_neg c45] at H
                      exact absurd H (by simp)

end Go.Proofs.YtocpfgdajomjiaaDoor.L
/- Plain facts of lines. -/
namespace Go.Proofs.YtocpfgdajomjiaaDoor.PureL
open Go.RowKit Go.Proofs.YtocpfgdajomjiaaDoor.PureR Go.Proofs.YtocpfgdajomjiaaDoor.Spl
open Go.Proofs.YtocpfgdajomjiaaDoor.Hand hiding text_Lines.f text_Words.f text_Trim.f text_Join.f text_Path.f text_Quote.f text_Lines.calls text_Words.calls text_Trim.calls text_Join.calls text_Path.calls text_Quote.calls Glob
set_option linter.unusedVariables false
set_option linter.unusedSimpArgs false
theorem quoteV_empty {s : ByteArray} (h : s.data.toList = []) : quoteV s = ⟨#[37]⟩ := by
  unfold quoteV
  rw [if_pos]
  rw [← len_data, h]
  rfl
theorem quoteV_full {s : ByteArray} (h : s.data.toList ≠ []) : (quoteV s).data.toList = s.data.toList.flatMap quoteB := quoteV_data (t := s.data.toList) h
theorem quoteV_ne (s : ByteArray) : (quoteV s).data.toList ≠ [] := by
  by_cases h : s.data.toList = []
  · rw [quoteV_empty h]
    simp
  · rw [quoteV_full h]
    cases hd : s.data.toList with
    | nil => exact absurd hd h
    | cons c t =>
      intro e
      rw [List.flatMap_cons, List.append_eq_nil_iff] at e
      have := quoteB_pos c
      rw [e.1] at this
      simp at this
theorem quoteV_sign (s : ByteArray) : ∀ c ∈ (quoteV s).data.toList, plainI c.toNat = true ∨ c = 37 := by
  intro c hc
  by_cases h : s.data.toList = []
  · rw [quoteV_empty h] at hc
    exact .inr (by simpa using hc)
  · rw [quoteV_full h] at hc
    obtain ⟨d, -, hd⟩ := List.mem_flatMap.1 hc
    exact quoteB_sign d c hd
theorem sign_ne {c : UInt8} (h : plainI c.toNat = true ∨ c = 37) : c ≠ 32 ∧ c ≠ 10 := by
  constructor <;> (rintro rfl; rcases h with h | h <;> exact absurd h (by decide))
theorem unq_quote (s : ByteArray) : unqV (quoteV s) = some s := by
  by_cases h : s.data.toList = []
  · rw [quoteV_empty h]
    have : s = (⟨#[]⟩ : ByteArray) := ba_ext h
    rw [this]
    rfl
  · have hf := quoteV_full h
    have hne : (quoteV s).data.toList ≠ [37] := by
      rw [hf]
      cases hd : s.data.toList with
      | nil => exact absurd hd h
      | cons c t =>
        intro e
        rw [List.flatMap_cons, quoteB] at e
        split at e
        next hp =>
          rw [List.singleton_append] at e
          injection e with e1 e2
          exact plain_no37 hp e1
        next => simp at e
    rw [unqV_of hne (congrArg decG hf), decG_quote]
    show (if s.data.toList ≠ [] ∧ quoteV ⟨s.data.toList.toArray⟩ = quoteV s then some (⟨s.data.toList.toArray⟩ : ByteArray) else none) = some s
    have hs : (⟨s.data.toList.toArray⟩ : ByteArray) = s := ba_ext rfl
    rw [hs, if_pos ⟨h, rfl⟩]
theorem unq_inv {x t : ByteArray} (h : unqV x = some t) : quoteV t = x := by
  unfold unqV at h
  split at h
  next hx =>
    injection h with h
    subst h
    exact ba_ext hx.symm
  next hx =>
    cases hd : decG x.data.toList with
    | none => rw [hd] at h; cases h
    | some l =>
      rw [hd] at h
      have h' : (if l ≠ [] ∧ quoteV ⟨l.toArray⟩ = x then some (⟨l.toArray⟩ : ByteArray) else none) = some t := h
      by_cases hc : l ≠ [] ∧ quoteV ⟨l.toArray⟩ = x
      · rw [if_pos hc] at h'
        injection h' with h'
        subst h'
        exact hc.2
      · rw [if_neg hc] at h'
        cases h'
theorem body_sign (l : List ByteArray) : ∀ c ∈ bodyL l, (plainI c.toNat = true ∨ c = 37) ∨ c = 32 := by
  intro c hc
  obtain ⟨x, -, hx⟩ := List.mem_flatMap.1 hc
  rcases List.mem_append.1 hx with h | h
  · exact .inl (quoteV_sign x c h)
  · exact .inr (by simpa using h)
theorem body_no10 (l : List ByteArray) : ∀ c ∈ bodyL l, c ≠ 10 := by
  intro c hc
  rcases body_sign l c hc with h | h
  · exact (sign_ne h).2
  · rw [h]; decide
theorem body_cons (x : ByteArray) (r : List ByteArray) : bodyL (x :: r) = (quoteV x).data.toList ++ 32 :: bodyL r := by simp [bodyL]
theorem body_map (l : List ByteArray) : bodyL l = ((l.map quoteV).map (·.data.toList)).flatMap (· ++ [32]) := by
  induction l with
  | nil => rfl
  | cons x r ih => rw [body_cons, ih]; simp
theorem body_ne {l : List ByteArray} (h : l ≠ []) : bodyL l ≠ [] := by
  cases l with
  | nil => exact absurd rfl h
  | cons x r => rw [body_cons]; simp
theorem body_split : ∀ l : List ByteArray, l ≠ [] → splG 32 [] (bodyL l).dropLast = l.map (fun x => (quoteV x).data.toList) ∧ (bodyL l).dropLast ++ [32] = bodyL l := by
  intro l
  induction l with
  | nil => intro h; exact absurd rfl h
  | cons x r ih =>
    intro _
    have hq : splG 32 [] (quoteV x).data.toList = [(quoteV x).data.toList] := by
      rw [splG_none 32 _ [] (fun c hc => (sign_ne (quoteV_sign x c hc)).1)]
      rfl
    rw [body_cons]
    cases r with
    | nil =>
      have e : (quoteV x).data.toList ++ 32 :: bodyL [] = (quoteV x).data.toList ++ [32] := rfl
      rw [e, List.dropLast_concat]
      exact ⟨hq, rfl⟩
    | cons y r' =>
      obtain ⟨i1, i2⟩ := ih (by simp)
      have hne := body_ne (l := y :: r') (by simp)
      have e : ((quoteV x).data.toList ++ 32 :: bodyL (y :: r')).dropLast = (quoteV x).data.toList ++ 32 :: (bodyL (y :: r')).dropLast := by
        rw [List.dropLast_append_of_ne_nil (by simp), List.dropLast_cons_of_ne_nil hne]
      rw [e, splG_app, hq, i1]
      refine ⟨rfl, ?_⟩
      rw [List.append_assoc, List.cons_append, i2]
theorem hexd_hex : ∀ d : Fin 16, hexL.contains (SumW.hexd d.val) = true := by decide +kernel
theorem hexList_hex : ∀ n : Nat, ∀ c ∈ SumW.hexList n, hexL.contains c = true := by
  intro n
  induction n using Nat.strongRecOn with
  | ind n ih =>
    intro c hc
    by_cases h : n < 16
    · rw [SumW.hexList_lt h, List.mem_singleton] at hc
      rw [hc]
      exact hexd_hex ⟨n, h⟩
    · rw [SumW.hexList_ge (by omega)] at hc
      rcases List.mem_append.1 hc with hc | hc
      · exact ih (n / 16) (by omega) c hc
      · rw [List.mem_singleton] at hc
        rw [hc]
        exact hexd_hex ⟨n % 16, Nat.mod_lt _ (by decide)⟩
theorem hex8_hex (n : Nat) : ∀ c ∈ (SumW.hex8 n).data.toList, hexL.contains c = true := by
  intro c hc
  exact hexList_hex (n + 4294967296) c (List.mem_of_mem_drop hc)
theorem hex_no10 {c : UInt8} (h : hexL.contains c = true) : c ≠ 10 := by
  rintro rfl
  exact absurd h (by decide)
theorem hex8_len {n : Nat} (h : n < 4294967296) : (SumW.hex8 n).data.toList.length = 8 := by rw [len_data]; exact hex8_size n h
theorem line_len (l : List ByteArray) : (lineL l).length = (bodyL l).length + 9 := by
  unfold lineL
  rw [List.length_append, List.length_append, hex8_len (adlOf_lt _)]
  rfl
theorem index_app (c : UInt8) (r : List UInt8) : ∀ l : List UInt8, c ∉ l → Lib.index (l ++ c :: r) [c] = l.length := by
  intro l
  induction l with
  | nil => intro _; rw [List.nil_append, Lib.index]; simp [List.isPrefixOf]
  | cons b t ih =>
    intro h
    rw [List.mem_cons, not_or] at h
    have hp : ([c] : List UInt8).isPrefixOf (b :: (t ++ c :: r)) = false := by simp [List.isPrefixOf, h.1]
    rw [List.cons_append, Lib.index, hp, ih h.2]
    simp
theorem cut_app (c : UInt8) (l r : List UInt8) (h : c ∉ l) : Lib.cut (l ++ c :: r) [c] = (l, r, true) := by
  unfold Lib.cut
  rw [index_app c r l h, if_pos (by omega)]
  simp
theorem bytes_map (l : List ByteArray) : (l.map (·.data.toList)).map (fun x => (⟨x.toArray⟩ : ByteArray)) = l := by
  rw [List.map_map]
  have : ((fun x : List UInt8 => (⟨x.toArray⟩ : ByteArray)) ∘ fun x : ByteArray => x.data.toList) = id := by
    funext x
    rfl
  rw [this, List.map_id]
theorem put_ok {l : List ByteArray} (h : (putV l).2 = 0) : 1 ≤ l.length ∧ l.length ≤ 40 ∧ (lineL l).length ≤ 13000 ∧ putV l = (⟨(lineL l).toArray⟩, 0) := by
  unfold putV at h ⊢
  split at h
  · exact absurd h (by decide)
  · split at h
    · exact absurd h (by decide)
    · split at h
      · exact absurd h (by decide)
      · next h1 h2 h3 => exact ⟨by omega, by omega, by omega, by rw [if_neg h1, if_neg h2, if_neg h3]⟩
theorem put_of {l : List ByteArray} (h1 : 1 ≤ l.length) (h2 : l.length ≤ 40) (h3 : (lineL l).length ≤ 13000) : putV l = (⟨(lineL l).toArray⟩, 0) := by
  unfold putV
  rw [if_neg (by omega), if_neg (by omega), if_neg (by omega)]
/-- What was put is taken. -/
theorem take_line {l : List ByteArray} (h : (putV l).2 = 0) (r : ByteArray) : takeV ((putV l).1 ++ r) = (l, r, 0) := by
  obtain ⟨h1, h2, h3, h4⟩ := put_ok h
  have hne : l ≠ [] := by intro e; subst e; simp at h1
  obtain ⟨s1, s2⟩ := body_split l hne
  have hll := line_len l
  obtain ⟨D, hD⟩ : ∃ D, (bodyL l).dropLast = D := ⟨_, rfl⟩
  rw [hD] at s1 s2
  clear hD
  have hbl : D.length + 1 = (bodyL l).length := by
    have := congrArg List.length s2
    rw [List.length_append] at this
    exact this
  have h8 := hex8_len (adlOf_lt (bodyL l))
  have hno : (10 : UInt8) ∉ bodyL l ++ (SumW.hex8 (adlOf (bodyL l))).data.toList := by
    intro hm
    rcases List.mem_append.1 hm with hm | hm
    · exact body_no10 l _ hm rfl
    · exact hex_no10 (hex8_hex _ _ hm) rfl
  have hd : ((putV l).1 ++ r).data.toList = (bodyL l ++ (SumW.hex8 (adlOf (bodyL l))).data.toList) ++ 10 :: r.data.toList := by
    rw [h4, data_app2]
    show lineL l ++ r.data.toList = _
    unfold lineL
    simp
  unfold takeV
  rw [hd, cut_app 10 _ _ hno, if_neg (show ¬ (true = false) by decide)]
  show takeB ⟨(bodyL l ++ (SumW.hex8 (adlOf (bodyL l))).data.toList).toArray⟩ ⟨r.data.toList.toArray⟩ = _
  have hr : (⟨r.data.toList.toArray⟩ : ByteArray) = r := rfl
  rw [hr]
  obtain ⟨a, ha⟩ : ∃ a : ByteArray, a = ⟨(bodyL l ++ (SumW.hex8 (adlOf (bodyL l))).data.toList).toArray⟩ := ⟨_, rfl⟩
  rw [← ha]
  have had : a.data.toList = bodyL l ++ (SumW.hex8 (adlOf (bodyL l))).data.toList := by rw [ha]
  have has : a.size = (bodyL l).length + 8 := by rw [← len_data, had, List.length_append, h8]
  have hs9 : a.size - 9 = D.length := by omega
  have hs8 : a.size - 8 = (bodyL l).length := by omega
  have ht9 : a.data.toList.take (a.size - 9) = D := by
    rw [hs9, had]
    rw [← s2, List.append_assoc, List.take_left]
  have ht8 : a.data.toList.take (a.size - 8) = bodyL l := by rw [hs8, had, List.take_left]
  have hd8 : a.data.toList.drop (a.size - 8) = (SumW.hex8 (adlOf (bodyL l))).data.toList := by rw [hs8, had, List.drop_left]
  have h32 : a.data.toList[a.size - 9]? = some 32 := by
    rw [hs9, had]
    rw [← s2, List.append_assoc, List.getElem?_append_right (Nat.le_refl _), Nat.sub_self]
    rfl
  have hform : formB a = true := by
    unfold formB
    rw [h32, hd8]
    simp only [Bool.and_eq_true, decide_eq_true_eq, List.all_eq_true]
    exact ⟨⟨⟨by omega, by omega⟩, trivial⟩, hex8_hex _⟩
  have hw : wordsB a = l.map quoteV := by
    have hwd := words_data a
    rw [show (a.extract 0 (a.size - 9)).data.toList = a.data.toList.take (a.size - 9) by rw [← ext_take], ht9, s1] at hwd
    rw [← bytes_map (wordsB a), hwd, List.map_map]
    rfl
  have hsum : SumW.hex8 (adlOf (a.data.toList.take (a.size - 8))) = a.extract (a.size - 8) a.size := by
    rw [ht8, ← ext_drop, hd8]
  unfold takeB
  rw [hform, if_neg (by decide), hw, if_neg (by rw [List.length_map]; omega), if_neg, if_pos hsum]
  · rw [List.map_map]
    have : ((fun x => (unqV x).getD ⟨#[]⟩) ∘ quoteV) = id := by
      funext x
      rw [Function.comp_apply, unq_quote]
      rfl
    rw [this, List.map_id]
  · rw [List.all_map]
    have : ((fun x => (unqV x).isSome) ∘ quoteV) = fun _ => true := by
      funext x
      rw [Function.comp_apply, unq_quote]
      rfl
    rw [this]
    simp
theorem splG_join (c : UInt8) : ∀ l cur : List UInt8, (splG c cur l).flatMap (· ++ [c]) = cur.reverse ++ l ++ [c] := by
  intro l
  induction l with
  | nil => intro cur; simp [splG]
  | cons b t ih =>
    intro cur
    rw [splG]
    split
    next h =>
      subst h
      rw [List.flatMap_cons, ih]
      simp
    next h =>
      rw [ih]
      simp
theorem takeB_err {a r : ByteArray} (h : (takeB a r).2.2 ≠ 0) : (takeB a r).1 = [] ∧ (takeB a r).2.1 = ⟨#[]⟩ := by
  unfold takeB at h ⊢
  split
  · exact ⟨rfl, rfl⟩
  · split
    · exact ⟨rfl, rfl⟩
    · split
      · exact ⟨rfl, rfl⟩
      · split
        · next h1 h2 h3 h4 =>
          rw [if_neg h1, if_neg h2, if_neg h3, if_pos h4] at h
          exact absurd rfl h
        · exact ⟨rfl, rfl⟩
theorem take_err {s : ByteArray} (h : (takeV s).2.2 ≠ 0) : (takeV s).1 = [] ∧ (takeV s).2.1 = ⟨#[]⟩ := by
  unfold takeV at h ⊢
  split
  · exact ⟨rfl, rfl⟩
  · next h1 =>
    rw [if_neg h1] at h
    exact takeB_err h
/-- What is taken is a line that was put. -/
theorem take_inv {s : ByteArray} (h : (takeV s).2.2 = 0) : (putV (takeV s).1).2 = 0 ∧ (putV (takeV s).1).1 ++ (takeV s).2.1 = s := by
  have hspec := (cut_one 10 s.data.toList).2
  unfold takeV at h ⊢
  split at h
  · exact absurd h (by decide)
  · next hf =>
    rw [if_neg hf]
    have hs : s.data.toList = (Lib.cut s.data.toList [10]).1 ++ 10 :: (Lib.cut s.data.toList [10]).2.1 := by
      rcases hspec with ⟨-, h⟩ | ⟨h, -⟩
      · exact h
      · exact absurd h hf
    obtain ⟨a, ha⟩ : ∃ a : ByteArray, a = ⟨(Lib.cut s.data.toList [10]).1.toArray⟩ := ⟨_, rfl⟩
    obtain ⟨r, hr⟩ : ∃ r : ByteArray, r = ⟨(Lib.cut s.data.toList [10]).2.1.toArray⟩ := ⟨_, rfl⟩
    have had : (Lib.cut s.data.toList [10]).1 = a.data.toList := by rw [ha]
    have hrd : (Lib.cut s.data.toList [10]).2.1 = r.data.toList := by rw [hr]
    rw [← ha, ← hr] at h ⊢
    rw [had, hrd] at hs
    clear ha hr had hrd hspec hf
    unfold takeB at h ⊢
    split at h
    · exact absurd h (by decide)
    · split at h
      · exact absurd h (by decide)
      · split at h
        · exact absurd h (by decide)
        · split at h
          · next h1 h2 h3 h4 =>
            rw [if_neg h1, if_neg h2, if_neg h3, if_pos h4]
            show (putV ((wordsB a).map fun x => (unqV x).getD ⟨#[]⟩)).2 = 0 ∧ (putV ((wordsB a).map fun x => (unqV x).getD ⟨#[]⟩)).1 ++ r = s
            have hform : formB a = true := by simpa using h1
            simp only [formB, Bool.and_eq_true, decide_eq_true_eq] at hform
            obtain ⟨⟨⟨f1, f2⟩, f3⟩, f4⟩ := hform
            have hsome : ∀ x ∈ wordsB a, (unqV x).isSome = true := by
              have : (wordsB a).all (fun x => (unqV x).isSome) = true := by rw [Bool.not_eq_false] at h3; exact h3
              exact List.all_eq_true.1 this
            have hq : ((wordsB a).map fun x => (unqV x).getD ⟨#[]⟩).map quoteV = wordsB a := by
              rw [List.map_map]
              conv => rhs; rw [← List.map_id (wordsB a)]
              refine List.map_congr_left fun x hx => ?_
              obtain ⟨t, ht⟩ := Option.isSome_iff_exists.1 (hsome x hx)
              rw [Function.comp_apply, ht]
              exact unq_inv ht
            have hlen : a.data.toList.length = a.size := len_data a
            have hbody : bodyL ((wordsB a).map fun x => (unqV x).getD ⟨#[]⟩) = a.data.toList.take (a.size - 8) := by
              have e1 : bodyL ((wordsB a).map fun x => (unqV x).getD ⟨#[]⟩) = ((((wordsB a).map fun x => (unqV x).getD ⟨#[]⟩).map quoteV).map (·.data.toList)).flatMap (· ++ [32]) := body_map _
              rw [e1, hq, words_data, splG_join, show (a.extract 0 (a.size - 9)).data.toList = a.data.toList.take (a.size - 9) by rw [← ext_take]]
              have h9 : a.size - 9 < a.data.toList.length := by omega
              rw [List.getElem?_eq_getElem h9] at f3
              rw [show a.size - 8 = (a.size - 9) + 1 by omega, List.take_succ_eq_append_getElem h9, Option.some.inj f3]
              rfl
            have hline : lineL ((wordsB a).map fun x => (unqV x).getD ⟨#[]⟩) = a.data.toList ++ [10] := by
              unfold lineL
              rw [hbody, h4, ← ext_drop]
              show a.data.toList.take (a.size - 8) ++ a.data.toList.drop (a.size - 8) ++ [10] = _
              rw [List.take_append_drop]
            have hwl : 1 ≤ (wordsB a).length := by
              have := congrArg List.length (words_data a)
              rw [List.length_map, splG_len] at this
              omega
            have hput := put_of (l := (wordsB a).map fun x => (unqV x).getD ⟨#[]⟩) (by rw [List.length_map]; exact hwl) (by rw [List.length_map]; omega) (by rw [hline, List.length_append]; simp; omega)
            rw [hput]
            refine ⟨rfl, ba_ext ?_⟩
            rw [data_app2, hs]
            show lineL ((wordsB a).map fun x => (unqV x).getD ⟨#[]⟩) ++ r.data.toList = _
            rw [hline]
            simp
          · exact absurd h (by decide)
end Go.Proofs.YtocpfgdajomjiaaDoor.PureL
/- Plain facts of lines one behind the other. -/
namespace Go.Proofs.YtocpfgdajomjiaaDoor.PureL
open Go.RowKit Go.Proofs.YtocpfgdajomjiaaDoor.PureR Go.Proofs.YtocpfgdajomjiaaDoor.Spl
open Go.Proofs.YtocpfgdajomjiaaDoor.Hand hiding text_Lines.f text_Words.f text_Trim.f text_Join.f text_Path.f text_Quote.f text_Lines.calls text_Words.calls text_Trim.calls text_Join.calls text_Path.calls text_Quote.calls Glob
set_option linter.unusedVariables false
set_option linter.unusedSimpArgs false
/-- Lines put one behind the other, and what is behind. -/
def cat : List (List ByteArray) → ByteArray → ByteArray
  | [], r => r
  | l :: t, r => (putV l).1 ++ cat t r
theorem ba_assoc (a b c : ByteArray) : (a ++ b) ++ c = a ++ (b ++ c) := by
  apply ba_ext
  simp [ByteArray.data_append, Array.toList_append]
theorem cat_app (xs ys : List (List ByteArray)) (r : ByteArray) : cat (xs ++ ys) r = cat xs (cat ys r) := by
  induction xs with
  | nil => rfl
  | cons l t ih => show (putV l).1 ++ cat (t ++ ys) r = _; rw [ih]; rfl
theorem cat_behind (xs : List (List ByteArray)) (r q : ByteArray) : cat xs r ++ q = cat xs (r ++ q) := by
  induction xs with
  | nil => rfl
  | cons l t ih => show ((putV l).1 ++ cat t r) ++ q = (putV l).1 ++ cat t (r ++ q); rw [ba_assoc, ih]
theorem scan_step {l : List ByteArray} (h : (putV l).2 = 0) (r : ByteArray) (tot f : Nat) : scanG tot (f + 1) ((putV l).1 ++ r) = (l, (tot : Int) - (r.size : Int)) :: scanG tot f r := by
  rw [scanG, take_line h r, if_pos rfl]
theorem scan_stop {u : ByteArray} (h : (takeV u).2.2 ≠ 0) (tot : Nat) : ∀ f, scanG tot f u = [] := by
  intro f
  cases f with
  | zero => rfl
  | succ f => rw [scanG, if_neg h]
theorem cat_size (xs : List (List ByteArray)) (r : ByteArray) : (cat xs r).size = (cat xs ⟨#[]⟩).size + r.size := by
  have := cat_behind xs ⟨#[]⟩ r
  have e : (⟨#[]⟩ : ByteArray) ++ r = r := ba_ext (by simp [ByteArray.data_append, Array.toList_append])
  rw [e] at this
  rw [← this, ByteArray.size_append]
theorem scan_cat (tot : Nat) (r : ByteArray) (hr : (takeV r).2.2 ≠ 0) : ∀ (xs : List (List ByteArray)) (f : Nat), (∀ l ∈ xs, (putV l).2 = 0) → xs.length ≤ f →
    (scanG tot f (cat xs r)).map (·.1) = xs ∧ (xs ≠ [] → lastE (scanG tot f (cat xs r)) = (tot : Int) - (r.size : Int)) := by
  intro xs
  induction xs with
  | nil =>
    intro f _ _
    rw [cat, scan_stop hr]
    exact ⟨rfl, fun h => absurd rfl h⟩
  | cons l t ih =>
    intro f hx hf
    obtain ⟨f, rfl⟩ : ∃ g, f = g + 1 := ⟨f - 1, by simp at hf; omega⟩
    have hl := hx l (by simp)
    obtain ⟨i1, i2⟩ := ih f (fun y hy => hx y (by simp [hy])) (by simpa using hf)
    rw [cat, scan_step hl]
    refine ⟨by rw [List.map_cons, i1], fun _ => ?_⟩
    cases t with
    | nil =>
      rw [cat, scan_stop hr]
      rfl
    | cons m t' =>
      have i3 := i2 (by simp)
      rw [← i3]
      unfold lastE
      cases hs : scanG tot f (cat (m :: t') r) with
      | nil => rw [hs] at i1; simp at i1
      | cons a b => rw [List.getLast?_cons_cons]
theorem scanV_cat (xs : List (List ByteArray)) (r : ByteArray) (hx : ∀ l ∈ xs, (putV l).2 = 0) (hr : (takeV r).2.2 ≠ 0) : scanV (cat xs r) = (xs, ((cat xs ⟨#[]⟩).size : Int)) := by
  have hsz := cat_size xs r
  have hlen : xs.length ≤ (cat xs r).size + 1 := by
    have : ∀ ys : List (List ByteArray), (∀ l ∈ ys, (putV l).2 = 0) → ys.length ≤ (cat ys ⟨#[]⟩).size := by
      intro ys
      induction ys with
      | nil => intro _; exact Nat.zero_le _
      | cons l t ih =>
        intro h
        have h1 := ih fun y hy => h y (by simp [hy])
        obtain ⟨-, -, -, h4⟩ := put_ok (h l (by simp))
        have h5 : 1 ≤ (putV l).1.size := by
          rw [h4]
          show 1 ≤ (lineL l).toArray.size
          rw [List.size_toArray, line_len]
          omega
        show t.length + 1 ≤ ((putV l).1 ++ cat t ⟨#[]⟩).size
        rw [ByteArray.size_append]
        omega
    have := this xs hx
    omega
  obtain ⟨h1, h2⟩ := scan_cat (cat xs r).size r hr xs ((cat xs r).size + 1) hx hlen
  unfold scanV scanP
  rw [h1]
  congr 1
  cases xs with
  | nil =>
    rw [cat, scan_stop hr]
    rfl
  | cons l t =>
    rw [h2 (by simp), hsz]
    omega
theorem take_no10 {u : ByteArray} (h : ∀ c ∈ u.data.toList, c ≠ 10) : (takeV u).2.2 ≠ 0 := by
  rcases cut_one 10 u.data.toList with ⟨h1, ⟨h2, h3⟩ | ⟨h2, h3⟩⟩
  · exfalso
    rw [h3] at h
    exact h 10 (by simp) rfl
  · unfold takeV
    rw [h2, if_pos rfl]
    decide
theorem putV_size {l : List ByteArray} (h : (putV l).2 = 0) : (putV l).1.size = (lineL l).length := by
  rw [(put_ok h).2.2.2]
  exact List.size_toArray
theorem putV_data {l : List ByteArray} (h : (putV l).2 = 0) : (putV l).1.data.toList = lineL l := by
  rw [(put_ok h).2.2.2]
/-- A part of a line that is put has no line feed, but at its end. -/
theorem line_no10 (l : List ByteArray) : lineL l = (bodyL l ++ (SumW.hex8 (adlOf (bodyL l))).data.toList) ++ [10] ∧ ∀ c ∈ bodyL l ++ (SumW.hex8 (adlOf (bodyL l))).data.toList, c ≠ 10 := by
  refine ⟨rfl, fun c hc => ?_⟩
  rcases List.mem_append.1 hc with h | h
  · exact body_no10 l c h
  · exact hex_no10 (hex8_hex _ c h)
end Go.Proofs.YtocpfgdajomjiaaDoor.PureL
/- The head of chapter 4's laws, plain. -/
namespace Go.Proofs.YtocpfgdajomjiaaDoor.PureL
open Go.RowKit Go.Proofs.YtocpfgdajomjiaaDoor.PureR Go.Proofs.YtocpfgdajomjiaaDoor.L Go.Proofs.YtocpfgdajomjiaaDoor.Hand3 Go.Proofs.YtocpfgdajomjiaaDoor.Spl Go.Proofs.YtocpfgdajomjiaaDoorW.PrintWords
open Go.Proofs.YtocpfgdajomjiaaDoor.Hand hiding text_Lines.f text_Words.f text_Trim.f text_Join.f text_Path.f text_Quote.f text_Lines.calls text_Words.calls text_Trim.calls text_Join.calls text_Path.calls text_Quote.calls Glob
set_option linter.unusedVariables false
set_option linter.unusedSimpArgs false
theorem put_okf (l : List ByteArray) (h : ∀ x ∈ l, x.size ≤ 100000) : line_Put.f l = some (putV l) := by
  unfold line_Put.f
  rw [if_pos]
  rw [List.all_eq_true]
  exact fun x hx => decide_eq_true (h x hx)
theorem take_okf (s : ByteArray) (h : s.size ≤ 100000) : line_Take.f s = some (takeV s) := by
  unfold line_Take.f
  rw [if_pos h]
theorem scan_okf (s : ByteArray) (h : s.size ≤ 100000) : line_Scan.f s = some (scanV s) := by
  unfold line_Scan.f
  rw [if_pos h]
theorem same4_loop (a : List ByteArray) (ha : a.length ≤ 100000) : ∀ (n i : Nat), i + n = a.length → Ev fun k => cooperagelaw4_same.l0 k a a (i : Int) = some true := by
  intro n
  induction n with
  | zero =>
    intro i hi
    refine Ev.up (Ev.of fun k => ?_)
    simp only [cooperagelaw4_same.l0]
    rw [if_neg (by omega)]
  | succ n ih =>
    intro i hi
    refine Ev.up ((ih (i + 1) (by omega)).mp fun k hk => ?_)
    simp only [cooperagelaw4_same.l0]
    rw [if_pos (by omega), if_pos (by omega), if_pos (by omega), if_pos trivial, w64s i (by omega)]
    exact hk
theorem same4_f (a : List ByteArray) (ha : a.length ≤ 100000) : Ev fun k => cooperagelaw4_same.f k a a = some true := by
  refine (same4_loop a ha a.length 0 (by omega)).mp fun k hk => ?_
  unfold cooperagelaw4_same.f
  rw [if_pos rfl]
  exact hk
theorem sameAll_loop (a : List (List ByteArray)) (ha : a.length ≤ 100000) (hx : ∀ l ∈ a, l.length ≤ 100000) : ∀ (n i : Nat), i + n = a.length → Ev fun k => cooperagelaw4_sameAll.l0 k a a (i : Int) = some true := by
  intro n
  induction n with
  | zero =>
    intro i hi
    refine Ev.up (Ev.of fun k => ?_)
    simp only [cooperagelaw4_sameAll.l0]
    rw [if_neg (by omega)]
  | succ n ih =>
    intro i hi
    have hlt : i < a.length := by omega
    have hr : (rd_L1 a (i : Int)).length ≤ 100000 := by
      have e : rd_L1 a (i : Int) = a[i] := by simp [rd_L1, List.getD_eq_getElem?_getD, List.getElem?_eq_getElem hlt]
      rw [e]
      exact hx _ (List.getElem_mem hlt)
    refine Ev.up (((same4_f _ hr).and (ih (i + 1) (by omega))).mp fun k hk => ?_)
    simp only [cooperagelaw4_sameAll.l0]
    rw [if_pos (by omega), if_pos (by omega), if_pos (by omega), hk.1, Option.bind_some, if_pos rfl, w64s i (by omega)]
    exact hk.2
theorem sameAll_f (a : List (List ByteArray)) (ha : a.length ≤ 100000) (hx : ∀ l ∈ a, l.length ≤ 100000) : Ev fun k => cooperagelaw4_sameAll.f k a a = some true := by
  refine (sameAll_loop a ha hx a.length 0 (by omega)).mp fun k hk => ?_
  unfold cooperagelaw4_sameAll.f
  rw [if_pos rfl]
  exact hk
theorem putA : (putV [(⟨#[97]⟩ : ByteArray)]).2 = 0 := by
  rw [put_of (by decide) (by decide) (by rw [line_len]; exact (by decide : (2 : Nat) + 9 ≤ 13000))]
theorem putB : (putV [(⟨#[98]⟩ : ByteArray)]).2 = 0 := by
  rw [put_of (by decide) (by decide) (by rw [line_len]; exact (by decide : (2 : Nat) + 9 ≤ 13000))]
theorem bodyAB : bodyL [(⟨#[97, 32, 98]⟩ : ByteArray)] = [97, 37, 50, 48, 98, 32] := by decide +kernel
theorem bodyA : bodyL [(⟨#[97]⟩ : ByteArray)] = [97, 32] := by decide +kernel
theorem bodyB : bodyL [(⟨#[98]⟩ : ByteArray)] = [98, 32] := by decide +kernel
theorem putAB : (putV [(⟨#[97, 32, 98]⟩ : ByteArray)]).2 = 0 := by
  rw [put_of (by decide) (by decide) (by rw [line_len, bodyAB]; decide)]
theorem shown4_f : Ev fun k => cooperagelaw4_shown.f k = some true := by
  have hab := putV_data putAB
  have ha := putV_data putA
  have hb := putV_data putB
  have sab := putV_size putAB
  have sa := putV_size putA
  have sb := putV_size putB
  rw [line_len, bodyAB] at sab
  rw [line_len, bodyA] at sa
  rw [line_len, bodyB] at sb
  have sab' : (putV [(⟨#[97, 32, 98]⟩ : ByteArray)]).1.size = 15 := sab
  have sa' : (putV [(⟨#[97]⟩ : ByteArray)]).1.size = 11 := sa
  have sb' : (putV [(⟨#[98]⟩ : ByteArray)]).1.size = 11 := sb
  have e6 : ((putV [(⟨#[97, 32, 98]⟩ : ByteArray)]).1.extract 0 6).toList = ([97, 37, 50, 48, 98, 32] : List UInt8) := by
    rw [tl, ← ext_take]
    show (putV [(⟨#[97, 32, 98]⟩ : ByteArray)]).1.data.toList.take 6 = _
    rw [hab]
    unfold lineL
    rw [bodyAB, List.append_assoc]
    rfl
  have hcut : (takeV ((putV [(⟨#[98]⟩ : ByteArray)]).1.extract 0 10)).2.2 ≠ 0 := by
    refine take_no10 fun c hc => ?_
    rw [← ext_take] at hc
    have hc' : c ∈ (putV [(⟨#[98]⟩ : ByteArray)]).1.data.toList.take 10 := hc
    obtain ⟨h1, h2⟩ := line_no10 [(⟨#[98]⟩ : ByteArray)]
    have h3 : (bodyL [(⟨#[98]⟩ : ByteArray)] ++ (SumW.hex8 (adlOf (bodyL [(⟨#[98]⟩ : ByteArray)]))).data.toList).length = 10 := by
      rw [List.length_append, hex8_len (adlOf_lt _), bodyB]
      rfl
    rw [hb, h1, ← h3, List.take_left] at hc'
    exact h2 c hc'
  have hscan : scanV ((putV [(⟨#[97]⟩ : ByteArray)]).1 ++ ((putV [(⟨#[98]⟩ : ByteArray)]).1.extract 0 10)) = ([[(⟨#[97]⟩ : ByteArray)]], 11) := by
    have := scanV_cat [[(⟨#[97]⟩ : ByteArray)]] ((putV [(⟨#[98]⟩ : ByteArray)]).1.extract 0 10) (by intro l hl; rw [List.mem_singleton.1 hl]; exact putA) hcut
    rw [show cat [[(⟨#[97]⟩ : ByteArray)]] ((putV [(⟨#[98]⟩ : ByteArray)]).1.extract 0 10) = (putV [(⟨#[97]⟩ : ByteArray)]).1 ++ ((putV [(⟨#[98]⟩ : ByteArray)]).1.extract 0 10) from rfl] at this
    rw [this]
    congr 1
    show (((putV [(⟨#[97]⟩ : ByteArray)]).1 ++ (⟨#[]⟩ : ByteArray)).size : Int) = 11
    rw [ByteArray.size_append, sa']
    rfl
  have hex : ((putV [(⟨#[98]⟩ : ByteArray)]).1.extract 0 10).size ≤ 11 := by rw [ByteArray.size_extract]; omega
  have hj : Ev fun k => cooperagelaw4_shown.j0 k (putV [(⟨#[97]⟩ : ByteArray)]).1 (putV [(⟨#[98]⟩ : ByteArray)]).1 false = some true := by
    refine Ev.up ((sameAll_f [[(⟨#[97]⟩ : ByteArray)]] (by simp) (by intro l hl; rw [List.mem_singleton.1 hl]; simp)).mp fun k hk => ?_)
    simp only [cooperagelaw4_shown.j0]
    rw [if_neg (by decide), if_pos (by decide), if_pos (by omega), if_pos (by omega), scan_okf _ (by rw [ByteArray.size_append]; omega), Option.bind_some, hscan, hk, Option.bind_some, if_pos rfl]
    rfl
  refine hj.mp fun k hk => ?_
  unfold cooperagelaw4_shown.f
  have one : ∀ b : ByteArray, b.size ≤ 10 → ∀ x ∈ [b], x.size ≤ 100000 := by
    intro b hb x hx
    rw [List.mem_singleton.1 hx]
    omega
  rw [put_okf _ (one _ (by decide)), Option.bind_some, put_okf _ (one _ (by decide)), Option.bind_some, put_okf _ (one _ (by decide)), Option.bind_some, if_neg (by omega), if_pos (by decide), if_pos (by omega), if_pos e6, if_pos putAB, if_pos (by omega), if_pos putA, if_pos (by omega), putB]
  exact hk
end Go.Proofs.YtocpfgdajomjiaaDoor.PureL
/- Are lines tiny? Plain. -/
namespace Go.Proofs.YtocpfgdajomjiaaDoor.PureL
open Go.RowKit Go.Proofs.YtocpfgdajomjiaaDoor.PureR Go.Proofs.YtocpfgdajomjiaaDoor.L Go.Proofs.YtocpfgdajomjiaaDoor.Hand3 Go.Proofs.YtocpfgdajomjiaaDoor.Spl Go.Proofs.YtocpfgdajomjiaaDoorW.PrintWords
open Go.Proofs.YtocpfgdajomjiaaDoor.Hand hiding text_Lines.f text_Words.f text_Trim.f text_Join.f text_Path.f text_Quote.f text_Lines.calls text_Words.calls text_Trim.calls text_Join.calls text_Path.calls text_Quote.calls Glob
set_option linter.unusedVariables false
set_option linter.unusedSimpArgs false
theorem rdL {a : List (List ByteArray)} {i : Nat} (h : i < a.length) : rd_L1 a (i : Int) = a[i] := by
  simp [rd_L1, List.getD_eq_getElem?_getD, List.getElem?_eq_getElem h]
def TinyP (l : List ByteArray) : Prop := l.length ≤ 50 ∧ ∀ x ∈ l, x.size ≤ 60
theorem tiny_l1 (ls : List (List ByteArray)) (hls : ls.length ≤ 12) (i : Nat) (hi : i < ls.length) (hl : ls[i].length ≤ 50) (K : ∃ b, (Ev fun k => cooperagelaw4_tiny.l0 k ls ((i + 1 : Nat) : Int) = some b) ∧ (b = true → ∀ l ∈ ls.drop (i + 1), TinyP l)) :
    ∀ (n j : Nat), j + n = ls[i].length → ∃ b, (Ev fun k => cooperagelaw4_tiny.l1 k ls (i : Int) (j : Int) = some b) ∧ (b = true → (∀ x ∈ ls[i].drop j, x.size ≤ 60) ∧ ∀ l ∈ ls.drop (i + 1), TinyP l) := by
  have hr := rdL hi
  intro n
  induction n with
  | zero =>
    intro j hj
    obtain ⟨b, hb, hp⟩ := K
    refine ⟨b, Ev.up (hb.mp fun k hk => ?_), fun h => ⟨fun x hx => ?_, hp h⟩⟩
    · unfold cooperagelaw4_tiny.l1
      rw [if_pos (by omega), if_pos (by omega), hr, if_neg (by omega), w64s i (by omega)]
      exact hk
    · rw [List.drop_eq_nil_of_le (by omega)] at hx
      exact absurd hx (by simp)
  | succ n ih =>
    intro j hj
    have hlt : j < ls[i].length := by omega
    have hr2 := rdo hlt
    by_cases h60 : ls[i][j].size ≤ 60
    · obtain ⟨b, hb, hp⟩ := ih (j + 1) (by omega)
      refine ⟨b, Ev.up (hb.mp fun k hk => ?_), fun h => ⟨fun x hx => ?_, (hp h).2⟩⟩
      · unfold cooperagelaw4_tiny.l1
        rw [if_pos (by omega), if_pos (by omega), hr, if_pos (by omega), if_pos (by omega), hr2, if_neg (by omega), w64s j (by omega)]
        exact hk
      · rw [List.drop_eq_getElem_cons hlt] at hx
        rcases List.mem_cons.1 hx with e | e
        · subst e
          exact h60
        · exact (hp h).1 x e
    · refine ⟨false, Ev.up (Ev.of fun k => ?_), fun h => by cases h⟩
      unfold cooperagelaw4_tiny.l1
      rw [if_pos (by omega), if_pos (by omega), hr, if_pos (by omega), if_pos (by omega), hr2, if_pos (by omega)]
theorem tiny_l0 (ls : List (List ByteArray)) (hls : ls.length ≤ 12) : ∀ (n i : Nat), i + n = ls.length → ∃ b, (Ev fun k => cooperagelaw4_tiny.l0 k ls (i : Int) = some b) ∧ (b = true → ∀ l ∈ ls.drop i, TinyP l) := by
  intro n
  induction n with
  | zero =>
    intro i hi
    refine ⟨true, Ev.up (Ev.of fun k => ?_), fun _ l hl => ?_⟩
    · unfold cooperagelaw4_tiny.l0
      rw [if_neg (by omega)]
    · rw [List.drop_eq_nil_of_le (by omega)] at hl
      exact absurd hl (by simp)
  | succ n ih =>
    intro i hi
    have hlt : i < ls.length := by omega
    have hr := rdL hlt
    by_cases h50 : ls[i].length ≤ 50
    · obtain ⟨b, hb, hp⟩ := tiny_l1 ls hls i hlt h50 (ih (i + 1) (by omega)) ls[i].length 0 (by omega)
      refine ⟨b, Ev.up (hb.mp fun k hk => ?_), fun h l hl => ?_⟩
      · unfold cooperagelaw4_tiny.l0
        rw [if_pos (by omega), if_pos (by omega), hr, if_neg (by omega)]
        exact hk
      · rw [List.drop_eq_getElem_cons hlt] at hl
        rcases List.mem_cons.1 hl with e | e
        · subst e
          exact ⟨h50, (hp h).1⟩
        · exact (hp h).2 l e
    · refine ⟨false, Ev.up (Ev.of fun k => ?_), fun h => by cases h⟩
      unfold cooperagelaw4_tiny.l0
      rw [if_pos (by omega), if_pos (by omega), hr, if_pos (by omega)]
theorem tiny_f (ls : List (List ByteArray)) : ∃ b, (Ev fun k => cooperagelaw4_tiny.f k ls = some b) ∧ (b = true → ls.length ≤ 12 ∧ ∀ l ∈ ls, TinyP l) := by
  by_cases h : ls.length ≤ 12
  · obtain ⟨b, hb, hp⟩ := tiny_l0 ls h ls.length 0 (by omega)
    refine ⟨b, hb.mp fun k hk => ?_, fun hb => ⟨h, hp hb⟩⟩
    unfold cooperagelaw4_tiny.f
    rw [if_neg (by omega)]
    exact hk
  · refine ⟨false, Ev.of fun k => ?_, fun h => by cases h⟩
    unfold cooperagelaw4_tiny.f
    rw [if_pos (by omega)]
end Go.Proofs.YtocpfgdajomjiaaDoor.PureL
namespace Go.Proofs.YtocpfgdajomjiaaDoor.L
open Go.Proofs.YtocpfgdajomjiaaDoor.Hand3
open Go.Proofs.YtocpfgdajomjiaaDoor
open Go.RowKit Go.Proofs.YtocpfgdajomjiaaDoorW.PrintWords Go.Proofs.YtocpfgdajomjiaaDoorW.PrintLast Go.Proofs.YtocpfgdajomjiaaDoorW.PrintMore
attribute [local go_sem] max2_int min2_int max_two min_two max_three min_three max_four min_four   -- for this text's walks alone
set_option linter.unusedVariables false
set_option linter.unusedSimpArgs false

/-! ### cooperagelaw4_LineMany: function 18 -/
mutual
def cooperagelaw4_LineMany.j0 : Nat → List (List ByteArray) → ByteArray → Bool → Bool → Option (Bool)
  | 0, _, _, _, _ => none
  | k + 1, x0, x1, x5, x28 => if x28 = true then (some x5) else (cooperagelaw4_LineMany.l0 k x0 x1 0)
def cooperagelaw4_LineMany.l0 : Nat → List (List ByteArray) → ByteArray → Int → Option (Bool)
  | 0, _, _, _ => none
  | k + 1, x0, x1, x7 => if x7 < (x1.size : Int) then (if 0 ≤ x7 then (if (bt x1 x7) = 10 then (some true) else (cooperagelaw4_LineMany.l0 k x0 x1 (wrap64 (x7 + 1)))) else (none)) else (cooperagelaw4_LineMany.l1 k x0 x1 (⟨#[]⟩ : ByteArray) ([] : List (List ByteArray)) 0)
def cooperagelaw4_LineMany.l1 : Nat → List (List ByteArray) → ByteArray → ByteArray → List (List ByteArray) → Int → Option (Bool)
  | 0, _, _, _, _, _ => none
  | k + 1, x0, x1, x8, x9, x10 => if x10 < (x0.length : Int) then (if 0 ≤ x10 then ((line_Put.f (rd_L1 x0 x10)).bind fun bt254 => (if bt254.2 = 0 then (if x8.size + bt254.1.size ≤ 9223372036854775807 then (if x9.length < 5864062014805 then (cooperagelaw4_LineMany.l1 k x0 x1 (x8 ++ bt254.1) (x9 ++ [rd_L1 x0 x10]) (wrap64 (x10 + 1))) else (none)) else (none)) else (cooperagelaw4_LineMany.l1 k x0 x1 x8 x9 (wrap64 (x10 + 1))))) else (none)) else (if x8.size + x1.size ≤ 9223372036854775807 then ((line_Scan.f (x8 ++ x1)).bind fun bt260 => ((cooperagelaw4_sameAll.f k bt260.1 x9).bind fun t264 => (if t264 = true then (some (bt260.2 == (x8.size : Int))) else (some false)))) else (none))
end
def cooperagelaw4_LineMany.f (k : Nat) (l0 : List (List ByteArray)) (a1 : ByteArray) : Option (Bool) := (cooperagelaw4_shown.f k).bind fun t251 => ((cooperagelaw4_tiny.f k l0).bind fun t252 => (if t251 = true then (if t252 = true then (cooperagelaw4_LineMany.j0 k l0 a1 t251 (decide ((a1.size : Int) > 200))) else (cooperagelaw4_LineMany.j0 k l0 a1 t251 true)) else (cooperagelaw4_LineMany.j0 k l0 a1 t251 true)))

end Go.Proofs.YtocpfgdajomjiaaDoor.L
/- LineMany, plain. -/
namespace Go.Proofs.YtocpfgdajomjiaaDoor.PureL
open Go.RowKit Go.Proofs.YtocpfgdajomjiaaDoor.PureR Go.Proofs.YtocpfgdajomjiaaDoor.L Go.Proofs.YtocpfgdajomjiaaDoor.Hand3 Go.Proofs.YtocpfgdajomjiaaDoor.Spl Go.Proofs.YtocpfgdajomjiaaDoorW.PrintWords
open Go.Proofs.YtocpfgdajomjiaaDoor.Hand hiding text_Lines.f text_Words.f text_Trim.f text_Join.f text_Path.f text_Quote.f text_Lines.calls text_Words.calls text_Trim.calls text_Join.calls text_Path.calls text_Quote.calls Glob
set_option linter.unusedVariables false
set_option linter.unusedSimpArgs false
theorem emptyL (q : ByteArray) : (⟨#[]⟩ : ByteArray) ++ q = q := ba_ext (by simp [ByteArray.data_append, Array.toList_append])
theorem emptyR (q : ByteArray) : q ++ (⟨#[]⟩ : ByteArray) = q := ba_ext (by simp [ByteArray.data_append, Array.toList_append])
theorem cat_snoc (K : List (List ByteArray)) (l : List ByteArray) : cat (K ++ [l]) ⟨#[]⟩ = cat K ⟨#[]⟩ ++ (putV l).1 := by
  rw [cat_app, cat_behind, emptyL]
  show cat K ((putV l).1 ++ (⟨#[]⟩ : ByteArray)) = _
  rw [emptyR]
theorem tiny_line {l : List ByteArray} (h : TinyP l) (ho : (putV l).2 = 0) : (putV l).1.size ≤ 7289 := by
  obtain ⟨p1, p2, p3, p4⟩ := put_ok ho
  have h1 := bodyL_len 60 l h.2
  rw [putV_size ho, line_len]
  have : (3 * 60 + 2) * l.length ≤ (3 * 60 + 2) * 40 := Nat.mul_le_mul_left _ p2
  omega
theorem cat_le : ∀ (K : List (List ByteArray)), (∀ l ∈ K, TinyP l ∧ (putV l).2 = 0) → (cat K ⟨#[]⟩).size ≤ 7289 * K.length := by
  intro K
  induction K with
  | nil => intro _; exact Nat.le_refl _
  | cons l t ih =>
    intro h
    have h1 := h l List.mem_cons_self
    have h2 := tiny_line h1.1 h1.2
    have h3 := ih fun x hx => h x (List.mem_cons_of_mem _ hx)
    show ((putV l).1 ++ cat t ⟨#[]⟩).size ≤ _
    rw [ByteArray.size_append, List.length_cons]
    omega
theorem many_l1 (ls : List (List ByteArray)) (s : ByteArray) (hls : ls.length ≤ 12) (ht : ∀ l ∈ ls, TinyP l) (hs : s.size ≤ 200) (hno : ∀ c ∈ s.data.toList, c ≠ 10) :
    ∀ (n i : Nat) (K : List (List ByteArray)), i + n = ls.length → K.length ≤ i → (∀ l ∈ K, TinyP l ∧ (putV l).2 = 0) → Ev fun k => cooperagelaw4_LineMany.l1 k ls s (cat K ⟨#[]⟩) K (i : Int) = some true := by
  intro n
  induction n with
  | zero =>
    intro i K hi hK hp
    have hc := cat_le K hp
    have hsc := scanV_cat K s (fun l hl => (hp l hl).2) (take_no10 hno)
    have hcs := cat_size K s
    have e : cat K ⟨#[]⟩ ++ s = cat K s := by rw [cat_behind, emptyL]
    have hsz : (cat K s).size ≤ 100000 := by omega
    refine Ev.up ((sameAll_f K (by omega) (fun l hl => Nat.le_trans (hp l hl).1.1 (by decide))).mp fun k hk => ?_)
    unfold cooperagelaw4_LineMany.l1
    rw [if_neg (by omega), if_pos (by omega), e, scan_okf _ hsz, Option.bind_some, hsc, hk, Option.bind_some, if_pos rfl, beq_self_eq_true]
  | succ n ih =>
    intro i K hi hK hp
    have hlt : i < ls.length := by omega
    have hr := rdL hlt
    have hti := ht _ (List.getElem_mem hlt)
    have hput := put_okf ls[i] (fun x hx => Nat.le_trans (hti.2 x hx) (by decide))
    by_cases h0 : (putV ls[i]).2 = 0
    · have h2 := tiny_line hti h0
      have hc := cat_le K hp
      refine Ev.up ((ih (i + 1) (K ++ [ls[i]]) (by omega) (by rw [List.length_append]; show _ + 1 ≤ _; omega) (fun l hl => ?_)).mp fun k hk => ?_)
      · rcases List.mem_append.1 hl with hl | hl
        · exact hp l hl
        · rw [List.mem_singleton.1 hl]
          exact ⟨hti, h0⟩
      · unfold cooperagelaw4_LineMany.l1
        rw [if_pos (by omega), if_pos (by omega), hr, hput, Option.bind_some, if_pos h0, if_pos (by omega), if_pos (by omega), w64s i (by omega), ← cat_snoc]
        exact hk
    · refine Ev.up ((ih (i + 1) K (by omega) (by omega) hp).mp fun k hk => ?_)
      unfold cooperagelaw4_LineMany.l1
      rw [if_pos (by omega), if_pos (by omega), hr, hput, Option.bind_some, if_neg h0, w64s i (by omega)]
      exact hk
theorem many_l0 (ls : List (List ByteArray)) (s : ByteArray) (hls : ls.length ≤ 12) (ht : ∀ l ∈ ls, TinyP l) (hs : s.size ≤ 200) :
    ∀ (n i : Nat), i + n = s.size → (∀ c ∈ s.data.toList.take i, c ≠ 10) → Ev fun k => cooperagelaw4_LineMany.l0 k ls s (i : Int) = some true := by
  intro n
  induction n with
  | zero =>
    intro i hi hno
    rw [List.take_of_length_le (by rw [len_data]; omega)] at hno
    refine Ev.up ((many_l1 ls s hls ht hs hno ls.length 0 [] (by omega) (by simp) (fun l hl => by simp at hl)).mp fun k hk => ?_)
    unfold cooperagelaw4_LineMany.l0
    rw [if_neg (by omega)]
    exact hk
  | succ n ih =>
    intro i hi hno
    have hlt : i < s.data.toList.length := by rw [len_data]; omega
    have hb := bt_nat s i hlt
    by_cases h10 : bt s (i : Int) = 10
    · refine Ev.up (Ev.of fun k => ?_)
      unfold cooperagelaw4_LineMany.l0
      rw [if_pos (by omega), if_pos (by omega), if_pos h10]
    · refine Ev.up ((ih (i + 1) (by omega) (fun c hc => ?_)).mp fun k hk => ?_)
      · rw [List.take_succ_eq_append_getElem hlt] at hc
        rcases List.mem_append.1 hc with hc | hc
        · exact hno c hc
        · rw [List.mem_singleton.1 hc]
          intro he
          rw [hb, he] at h10
          exact h10 rfl
      · unfold cooperagelaw4_LineMany.l0
        rw [if_pos (by omega), if_pos (by omega), if_neg h10, w64s i (by omega)]
        exact hk
theorem LineMany : ∀ (l : List (List ByteArray)) (s : ByteArray), s.size ≤ 140737488351232 → ∃ k, cooperagelaw4_LineMany.f k l s = some true := by
  intro l s _
  obtain ⟨b, hb, hsm⟩ := tiny_f l
  have hj1 : Ev fun k => cooperagelaw4_LineMany.j0 k l s true true = some true := by
    refine Ev.up (Ev.of fun k => ?_)
    simp only [cooperagelaw4_LineMany.j0]
    rw [if_pos trivial]
  cases b with
  | true =>
    obtain ⟨h1, h2⟩ := hsm rfl
    by_cases hs : s.size ≤ 200
    · have hj : Ev fun k => cooperagelaw4_LineMany.j0 k l s true false = some true := by
        refine Ev.up ((many_l0 l s h1 h2 hs s.size 0 (by omega) (fun c hc => by simp at hc)).mp fun k hk => ?_)
        simp only [cooperagelaw4_LineMany.j0]
        rw [if_neg (by decide)]
        exact hk
      refine ((shown4_f.and (hb.and hj)).mp fun k h => ?_).get
      unfold cooperagelaw4_LineMany.f
      rw [h.1, Option.bind_some, h.2.1, Option.bind_some, if_pos rfl, if_pos rfl, show decide ((s.size : Int) > 200) = false from decide_eq_false (by omega)]
      exact h.2.2
    · refine ((shown4_f.and (hb.and hj1)).mp fun k h => ?_).get
      unfold cooperagelaw4_LineMany.f
      rw [h.1, Option.bind_some, h.2.1, Option.bind_some, if_pos rfl, if_pos rfl, show decide ((s.size : Int) > 200) = true from decide_eq_true (by omega)]
      exact h.2.2
  | false =>
    refine ((shown4_f.and (hb.and hj1)).mp fun k h => ?_).get
    unfold cooperagelaw4_LineMany.f
    rw [h.1, Option.bind_some, h.2.1, Option.bind_some, if_pos rfl, if_neg (by decide)]
    exact h.2.2
end Go.Proofs.YtocpfgdajomjiaaDoor.PureL
/- LineTorn, plain. -/
namespace Go.Proofs.YtocpfgdajomjiaaDoor.PureL
open Go.RowKit Go.Proofs.YtocpfgdajomjiaaDoor.PureR Go.Proofs.YtocpfgdajomjiaaDoor.L Go.Proofs.YtocpfgdajomjiaaDoor.Hand3 Go.Proofs.YtocpfgdajomjiaaDoor.Spl Go.Proofs.YtocpfgdajomjiaaDoorW.PrintWords
open Go.Proofs.YtocpfgdajomjiaaDoor.Hand hiding text_Lines.f text_Words.f text_Trim.f text_Join.f text_Path.f text_Quote.f text_Lines.calls text_Words.calls text_Trim.calls text_Join.calls text_Path.calls text_Quote.calls Glob
set_option linter.unusedVariables false
set_option linter.unusedSimpArgs false
/-- Where the lines end. -/
def endsOf (K : List (List ByteArray)) : List Int := (List.range K.length).map fun j => (((cat (K.take (j + 1)) ⟨#[]⟩).size : Nat) : Int)
theorem ends_len (K : List (List ByteArray)) : (endsOf K).length = K.length := by simp [endsOf]
theorem ends_rd (K : List (List ByteArray)) (j : Nat) (h : j < K.length) : rd (endsOf K) (j : Int) = (((cat (K.take (j + 1)) ⟨#[]⟩).size : Nat) : Int) := by
  simp [rd, endsOf, List.getD_eq_getElem?_getD, h]
theorem ends_snoc (K : List (List ByteArray)) (l : List ByteArray) : endsOf (K ++ [l]) = endsOf K ++ [(((cat (K ++ [l]) ⟨#[]⟩).size : Nat) : Int)] := by
  unfold endsOf
  rw [List.length_append, show [l].length = 1 from rfl, List.range_succ, List.map_append]
  congr 1
  · refine List.map_congr_left fun j hj => ?_
    rw [List.take_append_of_le_length (by have := List.mem_range.1 hj; omega)]
  · rw [List.map_singleton, List.take_of_length_le (by simp)]
/-- Of lines that are cut just those are read that are whole. -/
theorem scan_torn (K : List (List ByteArray)) (hp : ∀ l ∈ K, (putV l).2 = 0) (j c : Nat) (hj : j ≤ K.length) (h1 : (cat (K.take j) ⟨#[]⟩).size ≤ c) (hc : c ≤ (cat K ⟨#[]⟩).size) (h2 : j < K.length → c < (cat (K.take (j + 1)) ⟨#[]⟩).size) :
    scanV ((cat K ⟨#[]⟩).extract 0 c) = (K.take j, ((cat (K.take j) ⟨#[]⟩).size : Int)) := by
  have hsplit : cat K ⟨#[]⟩ = cat (K.take j) (cat (K.drop j) ⟨#[]⟩) := by rw [← cat_app, List.take_append_drop]
  obtain ⟨d, hd⟩ : ∃ d, c = (cat (K.take j) ⟨#[]⟩).size + d := ⟨c - (cat (K.take j) ⟨#[]⟩).size, by omega⟩
  have hcut : (cat K ⟨#[]⟩).extract 0 c = cat (K.take j) ((cat (K.drop j) ⟨#[]⟩).extract 0 d) := by
    have e1 : cat (K.take j) (cat (K.drop j) ⟨#[]⟩) = cat (K.take j) ⟨#[]⟩ ++ cat (K.drop j) ⟨#[]⟩ := by rw [cat_behind, emptyL]
    have e2 : cat (K.take j) ((cat (K.drop j) ⟨#[]⟩).extract 0 d) = cat (K.take j) ⟨#[]⟩ ++ (cat (K.drop j) ⟨#[]⟩).extract 0 d := by rw [cat_behind, emptyL]
    rw [hsplit, e1, e2, hd]
    apply ba_ext
    rw [← ext_take, ← ext_take, data_app2, data_app2]
    show ((cat (K.take j) ⟨#[]⟩).data.toList ++ (cat (K.drop j) ⟨#[]⟩).data.toList).take _ = (cat (K.take j) ⟨#[]⟩).data.toList ++ (cat (K.drop j) ⟨#[]⟩).data.toList.take d
    rw [← len_data (cat (K.take j) ⟨#[]⟩), List.take_length_add_append]
  rw [hcut]
  refine scanV_cat (K.take j) _ (fun l hl => hp l (List.mem_of_mem_take hl)) (take_no10 ?_)
  intro b hb
  rw [← ext_take] at hb
  by_cases hlt : j < K.length
  · have hK := h2 hlt
    have hpj := hp _ (List.getElem_mem hlt)
    rw [List.take_succ_eq_append_getElem hlt, cat_snoc, ByteArray.size_append, hd, putV_size hpj] at hK
    have hdj : cat (K.drop j) ⟨#[]⟩ = (putV K[j]).1 ++ cat (K.drop (j + 1)) ⟨#[]⟩ := by rw [List.drop_eq_getElem_cons hlt]; rfl
    rw [hdj] at hb
    replace hb : b ∈ ((putV K[j]).1 ++ cat (K.drop (j + 1)) ⟨#[]⟩).data.toList.take d := hb
    rw [data_app2, putV_data hpj] at hb
    obtain ⟨l1, l2⟩ := line_no10 K[j]
    have hll := line_len K[j]
    rw [List.take_append_of_le_length (by omega), l1, List.take_append_of_le_length (by rw [l1, List.length_append] at hK; simp at hK; simp; omega)] at hb
    exact l2 b (List.mem_of_mem_take hb)
  · have e : K.take j = K := List.take_of_length_le (by omega)
    rw [e] at h1 hd
    have hd0 : d = 0 := by omega
    subst hd0
    replace hb : b ∈ (cat (K.drop j) ⟨#[]⟩).data.toList.take 0 := hb
    simp at hb
theorem cat_mono (K : List (List ByteArray)) (j : Nat) : (cat (K.take j) ⟨#[]⟩).size ≤ (cat K ⟨#[]⟩).size := by
  have hsplit : cat K ⟨#[]⟩ = cat (K.take j) (cat (K.drop j) ⟨#[]⟩) := by rw [← cat_app, List.take_append_drop]
  have h2 := cat_size (K.take j) (cat (K.drop j) ⟨#[]⟩)
  rw [hsplit, h2]
  omega
theorem torn_l1 (K : List (List ByteArray)) (hK : K.length ≤ 12) (hp : ∀ l ∈ K, TinyP l ∧ (putV l).2 = 0) (c : Nat) (hc : c ≤ (cat K ⟨#[]⟩).size) :
    ∀ (n j : Nat), j + n = K.length → (cat (K.take j) ⟨#[]⟩).size ≤ c →
      Ev fun k => cooperagelaw4_LineTorn.l1 k (c : Int) (cat K ⟨#[]⟩) K (endsOf K) (j : Int) (((cat (K.take j) ⟨#[]⟩).size : Nat) : Int) = some true := by
  have hcl := cat_le K hp
  have hout : ∀ j : Nat, j ≤ K.length → (cat (K.take j) ⟨#[]⟩).size ≤ c → (j < K.length → c < (cat (K.take (j + 1)) ⟨#[]⟩).size) → scanV ((cat K ⟨#[]⟩).extract 0 c) = (K.take j, ((cat (K.take j) ⟨#[]⟩).size : Int)) :=
    fun j hj h1 h2 => scan_torn K (fun l hl => (hp l hl).2) j c hj h1 hc h2
  have hex : ((cat K ⟨#[]⟩).extract 0 c).size ≤ 100000 := by rw [ByteArray.size_extract]; omega
  have hsa : ∀ j, Ev fun k => cooperagelaw4_sameAll.f k (K.take j) (K.take j) = some true := fun j =>
    sameAll_f (K.take j) (by rw [List.length_take]; omega) (fun l hl => by have := (hp l (List.mem_of_mem_take hl)).1.1; omega)
  intro n
  induction n with
  | zero =>
    intro j hj h1
    have hsc := hout j (by omega) h1 (fun h => by omega)
    refine Ev.up ((hsa j).mp fun k hk => ?_)
    rw [cooperagelaw4_LineTorn.l1]
    rw [if_neg (by omega), if_pos (by omega), if_pos (by omega), Int.toNat_natCast, scan_okf _ hex, Option.bind_some, if_pos (by omega), if_pos (by omega), Int.toNat_natCast, hsc, hk, Option.bind_some, if_pos rfl, beq_self_eq_true]
  | succ n ih =>
    intro j hj h1
    have hlt : j < K.length := by omega
    have hrd := ends_rd K j hlt
    have hel := ends_len K
    by_cases hle : (cat (K.take (j + 1)) ⟨#[]⟩).size ≤ c
    · refine Ev.up ((ih (j + 1) (by omega) hle).mp fun k hk => ?_)
      rw [cooperagelaw4_LineTorn.l1]
      rw [if_pos (by omega), if_pos (by omega), if_pos (by omega), hrd, if_pos (by omega), w64s j (by omega)]
      exact hk
    · have hsc := hout j (by omega) h1 (fun _ => by omega)
      refine Ev.up ((hsa j).mp fun k hk => ?_)
      rw [cooperagelaw4_LineTorn.l1]
      rw [if_pos (by omega), if_pos (by omega), if_pos (by omega), hrd, if_neg (by omega), if_pos (by omega), if_pos (by omega), Int.toNat_natCast, scan_okf _ hex, Option.bind_some, if_pos (by omega), Int.toNat_natCast, hsc, hk, Option.bind_some, if_pos rfl, beq_self_eq_true]
theorem torn_l0 (ls : List (List ByteArray)) (x : Int) (hls : ls.length ≤ 12) (ht : ∀ l ∈ ls, TinyP l) :
    ∀ (n i : Nat) (K : List (List ByteArray)), i + n = ls.length → K.length ≤ i → (∀ l ∈ K, TinyP l ∧ (putV l).2 = 0) → Ev fun k => cooperagelaw4_LineTorn.l0 k ls x (cat K ⟨#[]⟩) K (endsOf K) (i : Int) = some true := by
  intro n
  induction n with
  | zero =>
    intro i K hi hK hp
    obtain ⟨c, hc, hcs⟩ : ∃ c : Nat, mx 0 (mn x (((cat K ⟨#[]⟩).size : Nat) : Int)) = (c : Int) ∧ c ≤ (cat K ⟨#[]⟩).size := by
      refine ⟨(mx 0 (mn x (((cat K ⟨#[]⟩).size : Nat) : Int))).toNat, ?_, ?_⟩ <;> (unfold mx mn; split <;> split <;> omega)
    refine Ev.up ((torn_l1 K (by omega) hp c hcs K.length 0 (by omega) (Nat.zero_le _)).mp fun k hk => ?_)
    rw [cooperagelaw4_LineTorn.l0]
    rw [if_neg (by omega), hc]
    exact hk
  | succ n ih =>
    intro i K hi hK hp
    have hlt : i < ls.length := by omega
    have hr := rdL hlt
    have hti := ht _ (List.getElem_mem hlt)
    have hput := put_okf ls[i] (fun x hx => Nat.le_trans (hti.2 x hx) (by decide))
    by_cases h0 : (putV ls[i]).2 = 0
    · have h2 := tiny_line hti h0
      have hc := cat_le K hp
      have hel := ends_len K
      refine Ev.up ((ih (i + 1) (K ++ [ls[i]]) (by omega) (by rw [List.length_append]; show _ + 1 ≤ _; omega) (fun l hl => ?_)).mp fun k hk => ?_)
      · rcases List.mem_append.1 hl with hl | hl
        · exact hp l hl
        · rw [List.mem_singleton.1 hl]
          exact ⟨hti, h0⟩
      · rw [ends_snoc, cat_snoc] at hk
        rw [cooperagelaw4_LineTorn.l0]
        rw [if_pos (by omega), if_pos (by omega), hr, hput, Option.bind_some, if_pos h0, if_pos (by omega), if_pos (by omega), if_pos (by omega), w64s i (by omega)]
        exact hk
    · refine Ev.up ((ih (i + 1) K (by omega) (by omega) hp).mp fun k hk => ?_)
      rw [cooperagelaw4_LineTorn.l0]
      rw [if_pos (by omega), if_pos (by omega), hr, hput, Option.bind_some, if_neg h0, w64s i (by omega)]
      exact hk
theorem LineTorn : ∀ (l : List (List ByteArray)) (x : Int), (Lit.int .i64 x).wf = true → ∃ k, cooperagelaw4_LineTorn.f k l x = some true := by
  intro l x _
  obtain ⟨b, hb, hsm⟩ := tiny_f l
  cases b with
  | true =>
    obtain ⟨h1, h2⟩ := hsm rfl
    have hj : Ev fun k => cooperagelaw4_LineTorn.j0 k l x true false = some true := by
      refine Ev.up ((torn_l0 l x h1 h2 l.length 0 [] (by omega) (by simp) (fun l hl => by simp at hl)).mp fun k hk => ?_)
      rw [cooperagelaw4_LineTorn.j0]
      rw [if_neg (by decide)]
      exact hk
    refine ((shown4_f.and (hb.and hj)).mp fun k h => ?_).get
    unfold cooperagelaw4_LineTorn.f
    rw [h.1, Option.bind_some, h.2.1, Option.bind_some, if_pos rfl]
    exact h.2.2
  | false =>
    have hj : Ev fun k => cooperagelaw4_LineTorn.j0 k l x true true = some true := by
      refine Ev.up (Ev.of fun k => ?_)
      rw [cooperagelaw4_LineTorn.j0]
      rw [if_pos rfl]
    refine ((shown4_f.and (hb.and hj)).mp fun k h => ?_).get
    unfold cooperagelaw4_LineTorn.f
    rw [h.1, Option.bind_some, h.2.1, Option.bind_some, if_pos rfl]
    exact h.2.2
end Go.Proofs.YtocpfgdajomjiaaDoor.PureL
/- A parameter that is a slice, opened to a list: what an element reads as is told by the caller. -/
namespace Go.Proofs.YtocpfgdajomjiaaDoor.Open
open Go.ChangeShapes Go.WideShapes Go.RowKit Go.Proofs.YtocpfgdajomjiaaDoorW.PrintWords
set_option linter.unusedVariables false
theorem open_list {H : Type} {enc : TypeId × Value → H} {P : Program} {w : World} {base : Nat} {spare : Nat → Bool} {held : Bool} {α : Type} (K : Kd α) (ok : α → Prop) {t e : TypeId} {fuel : Nat} {cs : List Value} {x : DataW H × List MemPlace}
    (ht : P.underlying t = some (.slice e)) (hsz : P.cellsOf e = K.sz) (hel : ∀ n cs' y, DataW.trod enc P w base spare held n e cs' = some y → ∃ a : α, K.K w a cs' ∧ ok a)
    (h : DataW.trod enc P w base spare held fuel t cs = some x) :
    ∃ (A : Option Addr) (l : List α) (c : Nat), cs = [.slice A l.length c] ∧ Kd.C K w A l.length l ∧ l.length ≤ c ∧ ∀ a ∈ l, ok a := by
  rcases Go.Deep.open_slice ht h with ⟨h0, _⟩ | ⟨a, len, cap, m, n, D, Pl, hcs, hb, hl, hm, hmm, hx, hi⟩
  · exact ⟨none, [], 0, h0, ⟨rfl, by simp, fun h => by simp at h⟩, Nat.zero_le _, fun a ha => by simp at ha⟩
  · have hlm : len ≤ m := by rw [hmm]; split <;> omega
    have hex : ∀ i : Fin len, ∃ y : α, ∃ cs', K.K w y cs' ∧ ok y ∧ w.cells? base (a.add (i.1 * P.cellsOf e)) (P.cellsOf e) = some cs' := by
      intro i
      obtain ⟨cs', h1, h2⟩ := hi i.1 (by omega)
      obtain ⟨y, h3, h4⟩ := hel n cs' _ h2
      exact ⟨y, cs', h3, h4, h1⟩
    refine ⟨some a, List.ofFn fun i => Classical.choose (hex i), cap, by rw [hcs, List.length_ofFn], ?_, by rw [List.length_ofFn]; exact hl, ?_⟩
    · refine ⟨rfl, by rw [List.length_ofFn]; unfold maxLen at hm; omega, fun _ => ⟨a, rfl, fun j p hj => ?_⟩⟩
      obtain ⟨hjl, hp⟩ := List.getElem?_eq_some_iff.1 hj
      rw [List.getElem_ofFn] at hp
      rw [List.length_ofFn] at hjl
      obtain ⟨cs', h1, h2, h3⟩ := Classical.choose_spec (hex ⟨j, hjl⟩)
      rw [hp] at h1
      refine ⟨cs', K.K_len h1, h1, fun i u hu => ?_⟩
      obtain ⟨_, hcl, hat⟩ := World.cells?_some h3
      have hil : i < P.cellsOf e := by rw [hsz, ← K.K_len h1]; exact (List.getElem?_eq_some_iff.1 hu).1
      have := hat i hil
      rw [Go.Deep.add_add, hu] at this
      rw [← hsz]
      exact this
    · intro y hy
      obtain ⟨i, hi⟩ := List.mem_ofFn.1 hy
      rw [← hi]
      obtain ⟨cs', h1, h2, h3⟩ := Classical.choose_spec (hex i)
      exact h2
theorem el_int {H : Type} {enc : TypeId × Value → H} {P : Program} {w : World} {base : Nat} {spare : Nat → Bool} {held : Bool} {k : IntKind} {e : TypeId} (he : P.underlying e = some (.int k)) :
    ∀ n cs' (y : DataW H × List MemPlace), DataW.trod enc P w base spare held n e cs' = some y → ∃ a : Int, (Kd.int k).K w a cs' ∧ (Lit.int k a).wf = true := by
  intro n cs' y h
  obtain ⟨a, rfl, _, hw⟩ := DataW.trod_int he h
  exact ⟨a, rfl, hw⟩
theorem el_string {H : Type} {enc : TypeId × Value → H} {P : Program} {w : World} {base : Nat} {spare : Nat → Bool} {held : Bool} {e : TypeId} (he : P.underlying e = some .string) :
    ∀ n cs' (y : DataW H × List MemPlace), DataW.trod enc P w base spare held n e cs' = some y → ∃ a : ByteArray, Kd.string.K w a cs' ∧ True := by
  intro n cs' y h
  obtain ⟨a, rfl, _⟩ := DataW.trod_string he h
  exact ⟨a, rfl, trivial⟩
theorem el_strs {H : Type} {enc : TypeId × Value → H} {P : Program} {w : World} {base : Nat} {spare : Nat → Bool} {held : Bool} {t e : TypeId} (ht : P.underlying t = some (.slice e)) (he : P.underlying e = some .string) (hz : P.cellsOf e = 1) :
    ∀ n cs' (y : DataW H × List MemPlace), DataW.trod enc P w base spare held n t cs' = some y → ∃ l : List ByteArray, (Kd.slice e Kd.string).K w l cs' ∧ True := by
  intro n cs' y h
  obtain ⟨A, l, c, h1, h2, h3, _⟩ := open_list Kd.string (fun _ => True) ht hz (el_string he) h
  exact ⟨l, ⟨A, c, h1, h3, h2⟩, trivial⟩
theorem reads_moved {α : Type} {R R' : α → List Value → Prop} {size : Nat} {w w1 : World} {A : Option Addr} {n : Nat} {ps : List α} (h : ReadsRow R size w A n ps) (hb : ∀ k, k < w.heap.size → w1.heap[k]? = w.heap[k]?) (hR : ∀ p c, R p c → R' p c) : ReadsRow R' size w1 A n ps :=
  ⟨h.1, h.2.1, fun hn => by
    obtain ⟨ad, e, hc⟩ := h.2.2 hn
    refine ⟨ad, e, fun j p hj => ?_⟩
    obtain ⟨c, hs, hr, hcell⟩ := hc j p hj
    refine ⟨c, hs, hR _ _ hr, fun i u hu => ?_⟩
    have h1 := hcell i u hu
    have h2 := hb _ (World.block_lt_of_cell? w _ h1)
    simpa [World.cell?, h2] using h1⟩
theorem V_strs {w : World} {A : Option Addr} {c e t base : Nat} {l : List (List ByteArray)} (h : Kd.C (Kd.slice e Kd.string) w A l.length l) (hl : l.length ≤ c) : Kd.V (Kd.slice e Kd.string) t w base (fun _ => True) (.slice A l.length c) l :=
  Kd.V_mk hl (fun W' hW => reads_moved h (fun k hk => hW k trivial hk) (by
    rintro p cs ⟨A', c', e', hl', hr'⟩
    exact ⟨A', c', e', hl', reads_moved hr' (fun k hk => hW k trivial hk) (fun _ _ h => h)⟩))
theorem V_strs0 {w : World} {A : Option Addr} {c t base : Nat} {l : List ByteArray} (h : Kd.C Kd.string w A l.length l) (hl : l.length ≤ c) : Kd.V Kd.string t w base (fun _ => True) (.slice A l.length c) l :=
  Kd.V_mk hl (fun W' hW => reads_moved h (fun k hk => hW k trivial hk) (fun _ _ h => h))
end Go.Proofs.YtocpfgdajomjiaaDoor.Open
