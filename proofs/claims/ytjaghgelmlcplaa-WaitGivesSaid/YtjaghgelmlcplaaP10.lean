-- Written by a program of this session (hprint.py over the kit's print).
import Derived.Test.YtjaghgelmlcplaaP0
import Derived.Test.YtjaghgelmlcplaaP1
import Derived.Test.YtjaghgelmlcplaaP2
import Derived.Test.YtjaghgelmlcplaaP9
import Derived.Test.YtjaghgelmlcplaaHandWait
namespace Go.Proofs.Ytjaghgelmlcplaa.P
noncomputable section
open Go.Proofs.Ytjaghgelmlcplaa.Hand
open Go.Proofs.Ytjaghgelmlcplaa
open Go.RowKit Go.Proofs.YtjaghgelmlcplaaW.PrintWords Go.Proofs.YtjaghgelmlcplaaW.PrintLast Go.Proofs.YtjaghgelmlcplaaW.PrintMore
attribute [local go_sem] max2_int min2_int max_two min_two max_three min_three max_four min_four   -- for this text's walks alone
set_option linter.unusedVariables false
set_option linter.unusedSimpArgs false

/-! ### cooperagelaw17_WaitGives: function 4 -/
mutual
def cooperagelaw17_WaitGives.j0 : Nat → List (S43) → List Int → Bool → Bool → Option (Bool)
  | 0, _, _, _, _ => none
  | k + 1, x0, x1, x5, x35 => if x35 = true then (some x5) else (cooperagelaw17_WaitGives.l0 k x0 x1 ([] : List (S40)) 0)
def cooperagelaw17_WaitGives.l0 : Nat → List (S43) → List Int → List (S40) → Int → Option (Bool)
  | 0, _, _, _, _ => none
  | k + 1, x0, x1, x8, x9 => if x9 < (x1.length : Int) then (if 0 ≤ x9 then (if x8.length < 8796093022208 then (cooperagelaw17_WaitGives.l0 k x0 x1 (x8 ++ [(⟨wrap64 (x9 + 1), rd x1 x9⟩ : S40)]) (wrap64 (x9 + 1))) else (none)) else (none)) else ((some (([] : List (S43)) : List (S43))).bind fun y216 => (if y216.length + x0.length < 8796093022208 then (cooperagelaw17_WaitGives.l1 k x1 x8 (y216 ++ x0) 0) else (none)))
def cooperagelaw17_WaitGives.l1 : Nat → List Int → List (S40) → List (S43) → Int → Option (Bool)
  | 0, _, _, _, _ => none
  | k + 1, x1, x8, x10, x11 => if x11 < 100 then ((wait_Rings.f x10).bind fun t222 => ((wait_Victim.f x10 x8).bind fun t225 => (if (t222.length : Int) = 0 then (some (t225 == 0)) else (cooperagelaw17_WaitGives.l2 k x1 x8 x10 x11 t222 t225 false ((t222.length : Int) == 1) 0)))) else (some false)
def cooperagelaw17_WaitGives.l2 : Nat → List Int → List (S40) → List (S43) → Int → List Int → Int → Bool → Bool → Int → Option (Bool)
  | 0, _, _, _, _, _, _, _, _, _ => none
  | k + 1, x1, x8, x10, x11, x12, x13, x14, x15, x16 => if x16 < (x12.length : Int) then (if x14 = true then (cooperagelaw17_WaitGives.j4 k x1 x8 x10 x11 x12 x13 true x15 x16) else (if 0 ≤ x16 then (cooperagelaw17_WaitGives.j4 k x1 x8 x10 x11 x12 x13 ((rd x12 x16) == x13) x15 x16) else (none))) else (cooperagelaw17_WaitGives.l3 k x1 x8 x10 x11 x12 x13 x14 x15 ([] : List (S43)) 0)
def cooperagelaw17_WaitGives.j4 : Nat → List Int → List (S40) → List (S43) → Int → List Int → Int → Bool → Bool → Int → Option (Bool)
  | 0, _, _, _, _, _, _, _, _, _ => none
  | k + 1, x1, x8, x10, x11, x12, x13, x14, x15, x16 => if x15 = true then (cooperagelaw17_WaitGives.j5 k x1 x8 x10 x11 x12 x13 x14 true x16) else (if 0 ≤ x16 then (if x16 < (x12.length : Int) then ((cooperagelaw17_of.f x1 (rd x12 x16)).bind fun t228 => ((cooperagelaw17_of.f x1 x13).bind fun t229 => (if t228 < t229 then (cooperagelaw17_WaitGives.j5 k x1 x8 x10 x11 x12 x13 x14 true x16) else (if (rd x12 x16) < x13 then ((cooperagelaw17_of.f x1 (rd x12 x16)).bind fun t232 => ((cooperagelaw17_of.f x1 x13).bind fun t233 => (cooperagelaw17_WaitGives.j5 k x1 x8 x10 x11 x12 x13 x14 (t232 == t233) x16))) else (cooperagelaw17_WaitGives.j5 k x1 x8 x10 x11 x12 x13 x14 false x16))))) else (none)) else (none))
def cooperagelaw17_WaitGives.j5 : Nat → List Int → List (S40) → List (S43) → Int → List Int → Int → Bool → Bool → Int → Option (Bool)
  | 0, _, _, _, _, _, _, _, _, _ => none
  | k + 1, x1, x8, x10, x11, x12, x13, x14, x15, x16 => if 0 ≤ x16 then (if x16 < (x12.length : Int) then ((cooperagelaw17_of.f x1 (rd x12 x16)).bind fun t235 => ((cooperagelaw17_of.f x1 x13).bind fun t236 => (if t235 > t236 then (some false) else (cooperagelaw17_WaitGives.l2 k x1 x8 x10 x11 x12 x13 x14 x15 (wrap64 (x16 + 1)))))) else (none)) else (none)
def cooperagelaw17_WaitGives.l3 : Nat → List Int → List (S40) → List (S43) → Int → List Int → Int → Bool → Bool → List (S43) → Int → Option (Bool)
  | 0, _, _, _, _, _, _, _, _, _, _ => none
  | k + 1, x1, x8, x10, x11, x12, x13, x14, x15, x17, x18 => if x18 < (x10.length : Int) then (if 0 ≤ x18 then (if ((rd_T43 x10 x18).f0) = x13 then (cooperagelaw17_WaitGives.l3 k x1 x8 x10 x11 x12 x13 x14 x15 x17 (wrap64 (x18 + 1))) else (if x17.length < 8796093022208 then (cooperagelaw17_WaitGives.l3 k x1 x8 x10 x11 x12 x13 x14 x15 (x17 ++ [(⟨(rd_T43 x10 x18).f0, (rd_T43 x10 x18).f1⟩ : S43)]) (wrap64 (x18 + 1))) else (none))) else (none)) else (if x14 = true then (if x15 = true then ((wait_Rings.f x17).bind fun t242 => (if (t242.length : Int) ≥ (x12.length : Int) then (some false) else (cooperagelaw17_WaitGives.l1 k x1 x8 x17 (wrap64 (x11 + 1))))) else (some false)) else (some false))
end
def cooperagelaw17_WaitGives.f (k : Nat) (l0 : List (S43)) (l1 : List Int) : Option (Bool) := (cooperagelaw17_shown.f k).bind fun t207 => ((cooperagelaw17_as.f k l0).bind fun bt208 => (if t207 = true then (if bt208.2 = true then (cooperagelaw17_WaitGives.j0 k l0 l1 t207 (decide ((l1.length : Int) > 30))) else (cooperagelaw17_WaitGives.j0 k l0 l1 t207 true)) else (cooperagelaw17_WaitGives.j0 k l0 l1 t207 true)))
theorem cooperagelaw17_WaitGives.mono_l : ∀ k, (∀ y0 y1 y2 y3, LeO (cooperagelaw17_WaitGives.j0 k y0 y1 y2 y3) (cooperagelaw17_WaitGives.j0 (k + 1) y0 y1 y2 y3)) ∧ (∀ y0 y1 y2 y3, LeO (cooperagelaw17_WaitGives.l0 k y0 y1 y2 y3) (cooperagelaw17_WaitGives.l0 (k + 1) y0 y1 y2 y3)) ∧ (∀ y0 y1 y2 y3, LeO (cooperagelaw17_WaitGives.l1 k y0 y1 y2 y3) (cooperagelaw17_WaitGives.l1 (k + 1) y0 y1 y2 y3)) ∧ (∀ y0 y1 y2 y3 y4 y5 y6 y7 y8, LeO (cooperagelaw17_WaitGives.l2 k y0 y1 y2 y3 y4 y5 y6 y7 y8) (cooperagelaw17_WaitGives.l2 (k + 1) y0 y1 y2 y3 y4 y5 y6 y7 y8)) ∧ (∀ y0 y1 y2 y3 y4 y5 y6 y7 y8, LeO (cooperagelaw17_WaitGives.j4 k y0 y1 y2 y3 y4 y5 y6 y7 y8) (cooperagelaw17_WaitGives.j4 (k + 1) y0 y1 y2 y3 y4 y5 y6 y7 y8)) ∧ (∀ y0 y1 y2 y3 y4 y5 y6 y7 y8, LeO (cooperagelaw17_WaitGives.j5 k y0 y1 y2 y3 y4 y5 y6 y7 y8) (cooperagelaw17_WaitGives.j5 (k + 1) y0 y1 y2 y3 y4 y5 y6 y7 y8)) ∧ (∀ y0 y1 y2 y3 y4 y5 y6 y7 y8 y9, LeO (cooperagelaw17_WaitGives.l3 k y0 y1 y2 y3 y4 y5 y6 y7 y8 y9) (cooperagelaw17_WaitGives.l3 (k + 1) y0 y1 y2 y3 y4 y5 y6 y7 y8 y9))
  | 0 => ⟨fun _ _ _ _ r h => by simp [cooperagelaw17_WaitGives.j0] at h, fun _ _ _ _ r h => by simp [cooperagelaw17_WaitGives.l0] at h, fun _ _ _ _ r h => by simp [cooperagelaw17_WaitGives.l1] at h, fun _ _ _ _ _ _ _ _ _ r h => by simp [cooperagelaw17_WaitGives.l2] at h, fun _ _ _ _ _ _ _ _ _ r h => by simp [cooperagelaw17_WaitGives.j4] at h, fun _ _ _ _ _ _ _ _ _ r h => by simp [cooperagelaw17_WaitGives.j5] at h, fun _ _ _ _ _ _ _ _ _ _ r h => by simp [cooperagelaw17_WaitGives.l3] at h⟩
  | k + 1 => by
    obtain ⟨ih0, ih1, ih2, ih3, ih4, ih5, ih6⟩ := cooperagelaw17_WaitGives.mono_l k
    refine ⟨?_, ?_, ?_, ?_, ?_, ?_, ?_⟩
    · intro y0 y1 y2 y3
      unfold cooperagelaw17_WaitGives.j0
      repeat' first
      | (with_reducible exact ih0 _ _ _ _)
      | (with_reducible exact ih1 _ _ _ _)
      | (with_reducible exact ih2 _ _ _ _)
      | (with_reducible exact ih3 _ _ _ _ _ _ _ _ _)
      | (with_reducible exact ih4 _ _ _ _ _ _ _ _ _)
      | (with_reducible exact ih5 _ _ _ _ _ _ _ _ _)
      | (with_reducible exact ih6 _ _ _ _ _ _ _ _ _ _)
      | (with_reducible exact cooperagelaw17_as.mono _ _)
      | (with_reducible exact cooperagelaw17_shown.mono _)
      | (with_reducible exact LeO.refl _)
      | (with_reducible exact LeO.none _)
      | (with_reducible refine LeO.ite ?_ ?_)
      | (with_reducible refine LeO.bind ?_ (fun _ => ?_))
      | exact ih0 _ _ _ _
      | exact ih1 _ _ _ _
      | exact ih2 _ _ _ _
      | exact ih3 _ _ _ _ _ _ _ _ _
      | exact ih4 _ _ _ _ _ _ _ _ _
      | exact ih5 _ _ _ _ _ _ _ _ _
      | exact ih6 _ _ _ _ _ _ _ _ _ _
      | exact cooperagelaw17_as.mono _ _
      | exact cooperagelaw17_shown.mono _
      | exact LeO.none _
      | refine LeO.ite ?_ ?_
      | refine LeO.bind ?_ (fun _ => ?_)
    · intro y0 y1 y2 y3
      unfold cooperagelaw17_WaitGives.l0
      repeat' first
      | (with_reducible exact ih0 _ _ _ _)
      | (with_reducible exact ih1 _ _ _ _)
      | (with_reducible exact ih2 _ _ _ _)
      | (with_reducible exact ih3 _ _ _ _ _ _ _ _ _)
      | (with_reducible exact ih4 _ _ _ _ _ _ _ _ _)
      | (with_reducible exact ih5 _ _ _ _ _ _ _ _ _)
      | (with_reducible exact ih6 _ _ _ _ _ _ _ _ _ _)
      | (with_reducible exact cooperagelaw17_as.mono _ _)
      | (with_reducible exact cooperagelaw17_shown.mono _)
      | (with_reducible exact LeO.refl _)
      | (with_reducible exact LeO.none _)
      | (with_reducible refine LeO.ite ?_ ?_)
      | (with_reducible refine LeO.bind ?_ (fun _ => ?_))
      | exact ih0 _ _ _ _
      | exact ih1 _ _ _ _
      | exact ih2 _ _ _ _
      | exact ih3 _ _ _ _ _ _ _ _ _
      | exact ih4 _ _ _ _ _ _ _ _ _
      | exact ih5 _ _ _ _ _ _ _ _ _
      | exact ih6 _ _ _ _ _ _ _ _ _ _
      | exact cooperagelaw17_as.mono _ _
      | exact cooperagelaw17_shown.mono _
      | exact LeO.none _
      | refine LeO.ite ?_ ?_
      | refine LeO.bind ?_ (fun _ => ?_)
    · intro y0 y1 y2 y3
      unfold cooperagelaw17_WaitGives.l1
      repeat' first
      | (with_reducible exact ih0 _ _ _ _)
      | (with_reducible exact ih1 _ _ _ _)
      | (with_reducible exact ih2 _ _ _ _)
      | (with_reducible exact ih3 _ _ _ _ _ _ _ _ _)
      | (with_reducible exact ih4 _ _ _ _ _ _ _ _ _)
      | (with_reducible exact ih5 _ _ _ _ _ _ _ _ _)
      | (with_reducible exact ih6 _ _ _ _ _ _ _ _ _ _)
      | (with_reducible exact cooperagelaw17_as.mono _ _)
      | (with_reducible exact cooperagelaw17_shown.mono _)
      | (with_reducible exact LeO.refl _)
      | (with_reducible exact LeO.none _)
      | (with_reducible refine LeO.ite ?_ ?_)
      | (with_reducible refine LeO.bind ?_ (fun _ => ?_))
      | exact ih0 _ _ _ _
      | exact ih1 _ _ _ _
      | exact ih2 _ _ _ _
      | exact ih3 _ _ _ _ _ _ _ _ _
      | exact ih4 _ _ _ _ _ _ _ _ _
      | exact ih5 _ _ _ _ _ _ _ _ _
      | exact ih6 _ _ _ _ _ _ _ _ _ _
      | exact cooperagelaw17_as.mono _ _
      | exact cooperagelaw17_shown.mono _
      | exact LeO.none _
      | refine LeO.ite ?_ ?_
      | refine LeO.bind ?_ (fun _ => ?_)
    · intro y0 y1 y2 y3 y4 y5 y6 y7 y8
      unfold cooperagelaw17_WaitGives.l2
      repeat' first
      | (with_reducible exact ih0 _ _ _ _)
      | (with_reducible exact ih1 _ _ _ _)
      | (with_reducible exact ih2 _ _ _ _)
      | (with_reducible exact ih3 _ _ _ _ _ _ _ _ _)
      | (with_reducible exact ih4 _ _ _ _ _ _ _ _ _)
      | (with_reducible exact ih5 _ _ _ _ _ _ _ _ _)
      | (with_reducible exact ih6 _ _ _ _ _ _ _ _ _ _)
      | (with_reducible exact cooperagelaw17_as.mono _ _)
      | (with_reducible exact cooperagelaw17_shown.mono _)
      | (with_reducible exact LeO.refl _)
      | (with_reducible exact LeO.none _)
      | (with_reducible refine LeO.ite ?_ ?_)
      | (with_reducible refine LeO.bind ?_ (fun _ => ?_))
      | exact ih0 _ _ _ _
      | exact ih1 _ _ _ _
      | exact ih2 _ _ _ _
      | exact ih3 _ _ _ _ _ _ _ _ _
      | exact ih4 _ _ _ _ _ _ _ _ _
      | exact ih5 _ _ _ _ _ _ _ _ _
      | exact ih6 _ _ _ _ _ _ _ _ _ _
      | exact cooperagelaw17_as.mono _ _
      | exact cooperagelaw17_shown.mono _
      | exact LeO.none _
      | refine LeO.ite ?_ ?_
      | refine LeO.bind ?_ (fun _ => ?_)
    · intro y0 y1 y2 y3 y4 y5 y6 y7 y8
      unfold cooperagelaw17_WaitGives.j4
      repeat' first
      | (with_reducible exact ih0 _ _ _ _)
      | (with_reducible exact ih1 _ _ _ _)
      | (with_reducible exact ih2 _ _ _ _)
      | (with_reducible exact ih3 _ _ _ _ _ _ _ _ _)
      | (with_reducible exact ih4 _ _ _ _ _ _ _ _ _)
      | (with_reducible exact ih5 _ _ _ _ _ _ _ _ _)
      | (with_reducible exact ih6 _ _ _ _ _ _ _ _ _ _)
      | (with_reducible exact cooperagelaw17_as.mono _ _)
      | (with_reducible exact cooperagelaw17_shown.mono _)
      | (with_reducible exact LeO.refl _)
      | (with_reducible exact LeO.none _)
      | (with_reducible refine LeO.ite ?_ ?_)
      | (with_reducible refine LeO.bind ?_ (fun _ => ?_))
      | exact ih0 _ _ _ _
      | exact ih1 _ _ _ _
      | exact ih2 _ _ _ _
      | exact ih3 _ _ _ _ _ _ _ _ _
      | exact ih4 _ _ _ _ _ _ _ _ _
      | exact ih5 _ _ _ _ _ _ _ _ _
      | exact ih6 _ _ _ _ _ _ _ _ _ _
      | exact cooperagelaw17_as.mono _ _
      | exact cooperagelaw17_shown.mono _
      | exact LeO.none _
      | refine LeO.ite ?_ ?_
      | refine LeO.bind ?_ (fun _ => ?_)
    · intro y0 y1 y2 y3 y4 y5 y6 y7 y8
      unfold cooperagelaw17_WaitGives.j5
      repeat' first
      | (with_reducible exact ih0 _ _ _ _)
      | (with_reducible exact ih1 _ _ _ _)
      | (with_reducible exact ih2 _ _ _ _)
      | (with_reducible exact ih3 _ _ _ _ _ _ _ _ _)
      | (with_reducible exact ih4 _ _ _ _ _ _ _ _ _)
      | (with_reducible exact ih5 _ _ _ _ _ _ _ _ _)
      | (with_reducible exact ih6 _ _ _ _ _ _ _ _ _ _)
      | (with_reducible exact cooperagelaw17_as.mono _ _)
      | (with_reducible exact cooperagelaw17_shown.mono _)
      | (with_reducible exact LeO.refl _)
      | (with_reducible exact LeO.none _)
      | (with_reducible refine LeO.ite ?_ ?_)
      | (with_reducible refine LeO.bind ?_ (fun _ => ?_))
      | exact ih0 _ _ _ _
      | exact ih1 _ _ _ _
      | exact ih2 _ _ _ _
      | exact ih3 _ _ _ _ _ _ _ _ _
      | exact ih4 _ _ _ _ _ _ _ _ _
      | exact ih5 _ _ _ _ _ _ _ _ _
      | exact ih6 _ _ _ _ _ _ _ _ _ _
      | exact cooperagelaw17_as.mono _ _
      | exact cooperagelaw17_shown.mono _
      | exact LeO.none _
      | refine LeO.ite ?_ ?_
      | refine LeO.bind ?_ (fun _ => ?_)
    · intro y0 y1 y2 y3 y4 y5 y6 y7 y8 y9
      unfold cooperagelaw17_WaitGives.l3
      repeat' first
      | (with_reducible exact ih0 _ _ _ _)
      | (with_reducible exact ih1 _ _ _ _)
      | (with_reducible exact ih2 _ _ _ _)
      | (with_reducible exact ih3 _ _ _ _ _ _ _ _ _)
      | (with_reducible exact ih4 _ _ _ _ _ _ _ _ _)
      | (with_reducible exact ih5 _ _ _ _ _ _ _ _ _)
      | (with_reducible exact ih6 _ _ _ _ _ _ _ _ _ _)
      | (with_reducible exact cooperagelaw17_as.mono _ _)
      | (with_reducible exact cooperagelaw17_shown.mono _)
      | (with_reducible exact LeO.refl _)
      | (with_reducible exact LeO.none _)
      | (with_reducible refine LeO.ite ?_ ?_)
      | (with_reducible refine LeO.bind ?_ (fun _ => ?_))
      | exact ih0 _ _ _ _
      | exact ih1 _ _ _ _
      | exact ih2 _ _ _ _
      | exact ih3 _ _ _ _ _ _ _ _ _
      | exact ih4 _ _ _ _ _ _ _ _ _
      | exact ih5 _ _ _ _ _ _ _ _ _
      | exact ih6 _ _ _ _ _ _ _ _ _ _
      | exact cooperagelaw17_as.mono _ _
      | exact cooperagelaw17_shown.mono _
      | exact LeO.none _
      | refine LeO.ite ?_ ?_
      | refine LeO.bind ?_ (fun _ => ?_)
theorem cooperagelaw17_WaitGives.mono : ∀ a0 a1 k, LeO (cooperagelaw17_WaitGives.f k a0 a1) (cooperagelaw17_WaitGives.f (k + 1) a0 a1) := by
  intro a0 a1 k
  obtain ⟨ih0, ih1, ih2, ih3, ih4, ih5, ih6⟩ := cooperagelaw17_WaitGives.mono_l k
  unfold cooperagelaw17_WaitGives.f
  repeat' first
      | (with_reducible exact ih0 _ _ _ _)
      | (with_reducible exact ih1 _ _ _ _)
      | (with_reducible exact ih2 _ _ _ _)
      | (with_reducible exact ih3 _ _ _ _ _ _ _ _ _)
      | (with_reducible exact ih4 _ _ _ _ _ _ _ _ _)
      | (with_reducible exact ih5 _ _ _ _ _ _ _ _ _)
      | (with_reducible exact ih6 _ _ _ _ _ _ _ _ _ _)
      | (with_reducible exact cooperagelaw17_as.mono _ _)
      | (with_reducible exact cooperagelaw17_shown.mono _)
      | (with_reducible exact LeO.refl _)
      | (with_reducible exact LeO.none _)
      | (with_reducible refine LeO.ite ?_ ?_)
      | (with_reducible refine LeO.bind ?_ (fun _ => ?_))
      | exact ih0 _ _ _ _
      | exact ih1 _ _ _ _
      | exact ih2 _ _ _ _
      | exact ih3 _ _ _ _ _ _ _ _ _
      | exact ih4 _ _ _ _ _ _ _ _ _
      | exact ih5 _ _ _ _ _ _ _ _ _
      | exact ih6 _ _ _ _ _ _ _ _ _ _
      | exact cooperagelaw17_as.mono _ _
      | exact cooperagelaw17_shown.mono _
      | exact LeO.none _
      | refine LeO.ite ?_ ?_
      | refine LeO.bind ?_ (fun _ => ?_)
set_option maxHeartbeats 8000000 in
set_option maxRecDepth 100000 in
theorem cooperagelaw17_WaitGives.calls (k : Nat) (A0 : Option Addr) (c0 : Nat) (l0 : List (S43)) (A1 : Option Addr) (c1 : Nat) (l1 : List Int) (r : Bool) (w : World) (hr0 : Kd.C k43 w A0 l0.length l0) (hc0 : l0.length ≤ c0) (hr1 : Kd.C (Kd.int .i64) w A1 l1.length l1) (hc1 : l1.length ≤ c1) (h : cooperagelaw17_WaitGives.f k l0 l1 = some r) :
    Calls Try.prog 4 #[.slice A0 l0.length c0, .slice A1 l1.length c1] w fun e w' => e = .returned (.bool r) ∧ Below w.heap.size w w' := by
  have hu40 := Try.underlying40
  have hu43 := Try.underlying43
  have HR0 := Aside0.mk hr0
  have HC0 := Aside0.mk hc0
  clear hr0 hc0
  have HR1 := Aside0.mk hr1
  have HC1 := Aside0.mk hc1
  clear hr1 hc1
  have HB := Aside0.mk (Below.refl w.heap.size w)
  have H : ((cooperagelaw17_shown.f k).bind fun t207 => ((cooperagelaw17_as.f k l0).bind fun bt208 => (if t207 = true then (if bt208.2 = true then (cooperagelaw17_WaitGives.j0 k l0 l1 t207 (decide ((l1.length : Int) > 30))) else (cooperagelaw17_WaitGives.j0 k l0 l1 t207 true)) else (cooperagelaw17_WaitGives.j0 k l0 l1 t207 true)))) = some r := h
  clear h
  replace H := Option.bind_eq_some_iff.mp H
  obtain ⟨t207, A30, H⟩ := H
  replace H : ((cooperagelaw17_as.f k l0).bind fun bt208 => (if t207 = true then (if bt208.2 = true then (cooperagelaw17_WaitGives.j0 k l0 l1 t207 (decide ((l1.length : Int) > 30))) else (cooperagelaw17_WaitGives.j0 k l0 l1 t207 true)) else (cooperagelaw17_WaitGives.j0 k l0 l1 t207 true))) = some r := H
  have A3 := Aside0.mk A30
  clear A30
  replace H := Option.bind_eq_some_iff.mp H
  obtain ⟨⟨t208, t209⟩, A40, H⟩ := H
  replace H : (if t207 = true then (if t209 = true then (cooperagelaw17_WaitGives.j0 k l0 l1 t207 (decide ((l1.length : Int) > 30))) else (cooperagelaw17_WaitGives.j0 k l0 l1 t207 true)) else (cooperagelaw17_WaitGives.j0 k l0 l1 t207 true)) = some r := H
  have A4 := Aside0.mk A40
  clear A40
  have HC5 := Aside0.mk H
  clear H
  go_enter Try.func4, Try.ntmps4
  go_upto_region 3 with (first | ((with_reducible refine gate_callee (f := 7) rfl ?_); refine goesL_ (some 19) rfl rfl Try.func7 (by kernel_rfl) rfl #[] rfl (by (try simp only [List.map_toArray, List.map_cons, List.map_nil]); first | done | rfl | (simp only [List.length_drop, List.length_take]; rfl)) ?_; (with_reducible refine (cooperagelaw17_shown.calls k  t207 _ A3.out).mono ?_); rintro e w6 ⟨rfl, hb⟩; refine ⟨_, rfl, ?_⟩; have n0_ := Aside0.mk (below_step (by repeat (first | (with_reducible first | exact HB.out | apply below_alloc | apply pw_below_drewN | apply below_drew1) | exact HB.out)) hb); clear HB; have HB := n0_; clear n0_; (try clear hb); (try clear hb2); (try clear hk); (try clear hi)) | ((with_reducible refine gate_callee (f := 8) rfl ?_); refine goesL_ (some 22) rfl rfl Try.func8 (by kernel_rfl) rfl #[.slice A0 l0.length c0] rfl (by (try simp only [List.map_toArray, List.map_cons, List.map_nil]); first | done | rfl | (simp only [List.length_drop, List.length_take]; rfl)) ?_; (with_reducible refine (cooperagelaw17_as.calls k _ _ l0 t208 t209 _ ?side1 ?side2 A4.out).mono ?_); (case side1 => repeat (first | exact (Kd.C_below HR0.out HB.out) | (with_reducible refine Kd.C_alloc ?_ _) | (with_reducible refine Kd.C_drewN ?_ _) | (with_reducible refine Kd.C_drew ?_))); (case side2 => exact HC0.out); rintro e w7 ⟨v210, rfl, ho0, hb⟩; refine ⟨_, rfl, ?_⟩; have n0_ := Aside0.mk (Kd.R_lower ho0 (below_size (by repeat (first | (with_reducible first | exact HB.out | apply below_alloc | apply pw_below_drewN | apply below_drew1) | exact HB.out)))); have n1_ := Aside0.mk (below_step (by repeat (first | (with_reducible first | exact HB.out | apply below_alloc | apply pw_below_drewN | apply below_drew1) | exact HB.out)) hb); clear HB; have HO211 := n0_; have HB := n1_; clear n0_ n1_; (try clear hb); (try clear hb2); (try clear hk); (try clear hi); (try clear ho0)))
  (try simp only [Act.put, List.setIfInBounds_toArray, List.set_cons_zero, List.set_cons_succ])
  go_cut [35] (fun v35 wc => ∃ (kq : Nat) (x35_4 : Bool), v35 = .bool x35_4 ∧ Aside0 (cooperagelaw17_WaitGives.j0 kq l0 l1 t207 x35_4 = some r) ∧ Aside0 (kq ≤ k) ∧ Aside0 (Below w.heap.size w wc))
  case first =>
    have H := HC5.out
    clear HC5
    by_cases c8 : t207 = true
    · subst c8
      have H1 : (if t209 = true then (cooperagelaw17_WaitGives.j0 k l0 l1 true (decide ((l1.length : Int) > 30))) else (cooperagelaw17_WaitGives.j0 k l0 l1 true true)) = some r := by rw [if_pos rfl] at H; exact H
      clear H
      have H := H1
      clear H1
      by_cases c9 : t209 = true
      · subst c9
        have H1 : (cooperagelaw17_WaitGives.j0 k l0 l1 true (decide ((l1.length : Int) > 30))) = some r := by rw [if_pos rfl] at H; exact H
        clear H
        have H := H1
        clear H1
        have H' := Aside0.mk H
        clear H
        go_wp2
        go_meet
        case rel => exact ⟨_, (decide ((l1.length : Int) > 30)), (by first | rfl | (simp; done) | (simp [*]; done)), H', ⟨by first | omega | exact Nat.le_refl _⟩, ⟨by repeat (first | (with_reducible first | exact HB.out | apply below_alloc | apply pw_below_drewN | apply below_drew1) | exact HB.out)⟩⟩
      · replace c9 := Bool.eq_false_iff.mpr c9
        subst c9
        have H1 : (cooperagelaw17_WaitGives.j0 k l0 l1 true true) = some r := by rw [if_neg (show ¬ (false = true) by decide)] at H; exact H
        clear H
        have H := H1
        clear H1
        have H' := Aside0.mk H
        clear H
        go_wp2
        go_meet
        case rel => exact ⟨_, (true), (by first | rfl | (simp; done) | (simp [*]; done)), H', ⟨by first | omega | exact Nat.le_refl _⟩, ⟨by repeat (first | (with_reducible first | exact HB.out | apply below_alloc | apply pw_below_drewN | apply below_drew1) | exact HB.out)⟩⟩
    · replace c8 := Bool.eq_false_iff.mpr c8
      subst c8
      have H1 : (cooperagelaw17_WaitGives.j0 k l0 l1 false true) = some r := by rw [if_neg (show ¬ (false = true) by decide)] at H; exact H
      clear H
      have H := H1
      clear H1
      have H' := Aside0.mk H
      clear H
      go_wp2
      go_meet
      case rel => exact ⟨_, (true), (by first | rfl | (simp; done) | (simp [*]; done)), H', ⟨by first | omega | exact Nat.le_refl _⟩, ⟨by repeat (first | (with_reducible first | exact HB.out | apply below_alloc | apply pw_below_drewN | apply below_drew1) | exact HB.out)⟩⟩
  case rest =>
    clear HC5
    try clear c1
    try clear p2
    try clear c4
    try clear c7
    try clear c8
    try clear c9
    obtain ⟨kq, x35_4, rfl, HA, HJ4, HB⟩ := hcut
    cases kq with
    | zero => exact absurd HA.out (by simp [cooperagelaw17_WaitGives.j0])
    | succ kj4 =>
      have H := HA.out
      clear HA
      simp only [cooperagelaw17_WaitGives.j0] at H
      by_cases c10 : x35_4 = true
      · subst c10
        have H1 : (some t207) = some r := by rw [if_pos rfl] at H; exact H
        clear H
        have H := H1
        clear H1
        obtain rfl := Option.some.inj H
        go_wp2
        go_ret
        exact ⟨by first | rfl | (simp [errW_none, errW_some] <;> rfl) | (simp [*, errW_none, errW_some] <;> rfl), by repeat (first | (with_reducible first | exact HB.out | apply below_alloc | apply pw_below_drewN | apply below_drew1) | exact HB.out)⟩
      · replace c10 := Bool.eq_false_iff.mpr c10
        subst c10
        have H1 : (cooperagelaw17_WaitGives.l0 kj4 l0 l1 ([] : List (S40)) 0) = some r := by rw [if_neg (show ¬ (false = true) by decide)] at H; exact H
        clear H
        have H := H1
        clear H1
        have H' := Aside0.mk H
        clear H
        go_wp2
        go_loopg [8, 9] kj4 (fun kq v8 v9 w' => ∃ (x8_2 : List (S40)) (x9_2 : Int), v9 = .int .i64 x9_2 ∧ Aside0 (cooperagelaw17_WaitGives.l0 kq l0 l1 x8_2 x9_2 = some r) ∧ Aside0 (kq ≤ kj4) ∧ Aside0 (Kd.R k40 40 w' w.heap.size (fun _ => True) v8 x8_2) ∧ Aside0 (Below w.heap.size w w'))
        case atStart => exact ⟨(([] : List (S40))), (0), (by first | rfl | (simp; done) | (simp [*]; done)), H', ⟨Nat.le_refl _⟩, ⟨by first | exact Kd.R_nil _ _ _ _ _ | exact Kd.N_nil _ _ _ _ _ | exact Kd.V_nil _ _ _ _ _ | exact Kd.Q_nil _ _ _ _ _ | exact Kd.S_nil _ _ _ _ _⟩, ⟨by repeat (first | (with_reducible first | exact HB.out | apply below_alloc | apply pw_below_drewN | apply below_drew1) | exact HB.out)⟩⟩
        case round =>
          clear H'
          try clear c1
          try clear p2
          try clear c4
          try clear c7
          try clear c8
          try clear c9
          try clear c10
          try clear p2
          obtain ⟨x8_2, x9_2, rfl, HA, HK2, HO_8, HB⟩ := hrel
          cases gk with
          | zero => exact absurd HA.out (by simp [cooperagelaw17_WaitGives.l0])
          | succ k2 =>
            have H := HA.out
            clear HA
            simp only [cooperagelaw17_WaitGives.l0] at H
            by_cases c11 : x9_2 < (l1.length : Int)
            · rw [if_pos c11] at H
              have c11b0 : decide (x9_2 < (l1.length : Int)) = true := decide_eq_true c11
              clear c11
              by_cases c12 : 0 ≤ x9_2
              · rw [if_pos c12] at H
                have c12b0 : decide (0 ≤ x9_2) = true := decide_eq_true c12
                clear c12
                by_cases c13 : x8_2.length < 8796093022208
                · rw [if_pos c13] at H
                  have LMc13 := Aside0.mk c13
                  clear c13
                  obtain ⟨y213, hy213⟩ : ∃ y_ : List (S40), y_ = (x8_2 ++ [(⟨wrap64 (x9_2 + 1), rd l1 x9_2⟩ : S40)]) := ⟨_, rfl⟩
                  replace H : (cooperagelaw17_WaitGives.l0 k2 l0 l1 y213 (wrap64 (x9_2 + 1))) = some r := by first | (rw [hy213]; with_reducible exact H) | (have H2_ := (Option.bind_some _ _).symm.trans H; rw [hy213]; with_reducible exact H2_) | (have H2_ := (Option.bind_some _ _).symm.trans H; with_reducible exact H2_) | with_reducible exact H | (rw [hy213]; exact H) | exact H
                  have Ny213 := Aside0.mk hy213
                  clear hy213
                  have H' := Aside0.mk H
                  clear H
                  have p212 : 0 ≤ (x9_2 : Int) := of_decide_eq_true (by first | (with_reducible assumption) | assumption)
                  have q212 : x9_2 < (l1.length : Int) := of_decide_eq_true (by first | (with_reducible assumption) | assumption)
                  obtain ⟨ad212, e212, hx212_0⟩ := Kd.at_int HR1.out x9_2 p212 q212
                  cases e212
                  replace hx212_0 := (HB.out.cell (World.block_lt_of_cell? w _ hx212_0)).trans hx212_0
                  replace p212 := eq_true p212
                  replace q212 := eq_true q212
                  go_wp2_with (first | ((with_reducible refine gate_builtin (b := .append) (xs := #[.tmp 43, .tmp 51]) rfl ?_); (try (refine gate_guard (by rfl) ?_; dsimp only)); at_builtin; refine Kd.R_append k40 (w0 := w) w.heap.size rfl (.tmp 43) (.tmp 51) 23 40 (.agg #[(.int .i64 0), (.int .i64 0)]) 16 rfl Try.underlying23 info40 rfl (by decide) (by omega) u8 x8_2 (⟨wrap64 (x9_2 + 1), rd l1 x9_2⟩ : S40) [.int .i64 (wrap64 (x9_2 + 1)), .int .i64 (rd l1 x9_2)] (fun _ => True) (fun _ => False) rfl rfl ?aP (fun _ hk => hk.elim) ?aF ?aO ?aB ?aS ?aL ?_; (case aP => exact k40_mkM _ _ _ (⟨wrap64 (x9_2 + 1), rd l1 x9_2⟩ : S40)); (case aB => exact (by repeat (first | (with_reducible first | exact HB.out | apply below_alloc | apply pw_below_drewN | apply below_drew1) | exact HB.out))); (case aF => exact (fun _ _ => trivial)); (case aO => exact (by (with_reducible repeat (first | apply Kd.R_alloc | apply Kd.R_drewN | apply Kd.R_drew)); exact HO_8.out)); (case aS => exact (below_size (by repeat (first | (with_reducible first | exact HB.out | apply below_alloc | apply pw_below_drewN | apply below_drew1) | exact HB.out)))); (case aL => have := LMc13.out; omega); intro v214 w14 ho hb hg hat; rw [← Ny213.out] at ho; have n0_ := Aside0.mk (hb); have n1_ := Aside0.mk (ho); clear HB; clear HO_8; have HB := n0_; have HO215 := n1_; clear n0_ n1_; clear ho hb hg hat))
                  go_roundg k2
                  case measure => have := HJ4.out; have := HK2.out; omega
                  case rel => exact ⟨(y213), (wrap64 (x9_2 + 1)), (by first | rfl | (simp; done) | (simp [*]; done)), H', ⟨by have := HJ4.out; have := HK2.out; omega⟩, ⟨by (with_reducible repeat (first | apply Kd.R_alloc | apply Kd.R_drewN | apply Kd.R_drew)); exact HO215.out⟩, ⟨by repeat (first | (with_reducible first | exact HB.out | apply below_alloc | apply pw_below_drewN | apply below_drew1) | exact HB.out)⟩⟩
                · rw [if_neg c13] at H
                  exact absurd H (by simp)
              · rw [if_neg c12] at H
                exact absurd H (by simp)
            · rw [if_neg c11] at H
              have c11b0 : decide (x9_2 < (l1.length : Int)) = false := decide_eq_false c11
              clear c11
              obtain ⟨y216, hy216⟩ : ∃ y_ : List (S43), y_ = (([] : List (S43))) := ⟨_, rfl⟩
              replace H : (if y216.length + l0.length < 8796093022208 then (cooperagelaw17_WaitGives.l1 k2 l1 x8_2 (y216 ++ l0) 0) else (none)) = some r := by first | (rw [hy216]; with_reducible exact H) | (have H2_ := (Option.bind_some _ _).symm.trans H; rw [hy216]; with_reducible exact H2_) | (have H2_ := (Option.bind_some _ _).symm.trans H; with_reducible exact H2_) | with_reducible exact H | (rw [hy216]; exact H) | exact H
              have Ny216 := Aside0.mk hy216
              clear hy216
              by_cases c15 : y216.length + l0.length < 8796093022208
              · rw [if_pos c15] at H
                have LMc15 := Aside0.mk c15
                clear c15
                obtain ⟨y219, hy219⟩ : ∃ y_ : List (S43), y_ = (y216 ++ l0) := ⟨_, rfl⟩
                replace H : (cooperagelaw17_WaitGives.l1 k2 l1 x8_2 y219 0) = some r := by first | (rw [hy219]; with_reducible exact H) | (have H2_ := (Option.bind_some _ _).symm.trans H; rw [hy219]; with_reducible exact H2_) | (have H2_ := (Option.bind_some _ _).symm.trans H; with_reducible exact H2_) | with_reducible exact H | (rw [hy219]; exact H) | exact H
                have Ny219 := Aside0.mk hy219
                clear hy219
                have H' := Aside0.mk H
                clear H
                go_wp2_with (first | ((with_reducible refine gate_dst (N := 53) rfl ?_); (try (refine gate_guard (by rfl) ?_; dsimp only)); refine Kd.R_lit k43 _ 43 ?hg (N := 53) ?hd (xs := ([] : List (S43))) (inner := []) (ok := fun _ => True) (okp := fun _ => True) ?hr ?hp (fun _ hk => hk) trivial (Below.refl _ _) (Nat.le_refl _) (by simp) ?_; (case hd => rfl); (case hg => rfl); (case hr => first | (go_simp; done) | (go_simp; rfl)); (case hp => exact (Reps.none _ _)); intro v217 w16 ho17 hb hg_ hnew_; clear hg_ hnew_; (first | rw [← Ny216.out] at ho17 | (simp only [Int.reduceToNat] at ho17; rw [← Ny216.out] at ho17)); have n0_ := Aside0.mk (Kd.R_below (by (with_reducible repeat (first | apply Kd.R_alloc | apply Kd.R_drewN | apply Kd.R_drew)); exact HO_8.out) hb); have n1_ := Aside0.mk (Kd.R_lower ho17 (below_size (by repeat (first | (with_reducible first | exact HB.out | apply below_alloc | apply pw_below_drewN | apply below_drew1) | exact HB.out)))); have n2_ := Aside0.mk (below_step (by repeat (first | (with_reducible first | exact HB.out | apply below_alloc | apply pw_below_drewN | apply below_drew1) | exact HB.out)) hb); clear HO_8; clear HB; have HO_8 := n0_; have HO218 := n1_; have HB := n2_; clear n0_ n1_ n2_; clear hb ho17) | ((with_reducible refine gate_builtin (b := .append) (xs := #[.tmp 53, .tmp 54]) rfl ?_); (try (refine gate_guard (by rfl) ?_; dsimp only)); at_builtin; refine Kd.R_append_rows k43 (w0 := w) w.heap.size rfl (.tmp 53) (.tmp 54) 22 43 (.agg #[(.int .i64 0), (.int .i64 0)]) 16 rfl Try.underlying22 info43 rfl (by decide) (by omega) v217 y216 l0 _ _ _ (fun _ => True) (fun _ => False) rfl rfl ?aO ?aR (fun _ _ h => h) (fun _ h => h.elim) ?aF ?aB ?aS ?aL ?_; (case aR => repeat (first | exact (Kd.C_below HR0.out HB.out) | (with_reducible refine Kd.C_alloc ?_ _) | (with_reducible refine Kd.C_drewN ?_ _) | (with_reducible refine Kd.C_drew ?_))); (case aB => exact (by repeat (first | (with_reducible first | exact HB.out | apply below_alloc | apply pw_below_drewN | apply below_drew1) | exact HB.out))); (case aF => exact (fun _ _ => trivial)); (case aO => exact (by (with_reducible repeat (first | apply Kd.R_alloc | apply Kd.R_drewN | apply Kd.R_drew)); exact HO218.out)); (case aS => exact (below_size (by repeat (first | (with_reducible first | exact HB.out | apply below_alloc | apply pw_below_drewN | apply below_drew1) | exact HB.out)))); (case aL => have := LMc15.out; omega); intro v220 w18 ho hb hg hat; rw [← Ny219.out] at ho; have n0_ := Aside0.mk (Kd.R_over' (by (with_reducible repeat (first | apply Kd.R_alloc | apply Kd.R_drewN | apply Kd.R_drew)); exact HO_8.out) (Kd.R_typed (by (with_reducible repeat (first | apply Kd.R_alloc | apply Kd.R_drewN | apply Kd.R_drew)); exact HO218.out)) (by decide) hg); have n1_ := Aside0.mk (hb); have n2_ := Aside0.mk (ho); clear HO_8; clear HB; clear HO218; have HO_8 := n0_; have HB := n1_; have HO221 := n2_; clear n0_ n1_ n2_; clear ho hb hg hat))
                go_loopg [10, 11] k2 (fun kq v10 v11 w' => ∃ (x10_3 : List (S43)) (x11_3 : Int), v11 = .int .i64 x11_3 ∧ Aside0 (cooperagelaw17_WaitGives.l1 kq l1 x8_2 x10_3 x11_3 = some r) ∧ Aside0 (kq ≤ k2) ∧ Aside0 (Kd.R k40 40 w' w.heap.size (fun _ => True) u8 x8_2) ∧ Aside0 (Kd.R k43 43 w' w.heap.size (fun _ => True) v10 x10_3) ∧ Aside0 (Below w.heap.size w w'))
                case atStart => exact ⟨(y219), (0), (by first | rfl | (simp; done) | (simp [*]; done)), H', ⟨Nat.le_refl _⟩, ⟨by (with_reducible repeat (first | apply Kd.R_alloc | apply Kd.R_drewN | apply Kd.R_drew)); exact HO_8.out⟩, ⟨by (with_reducible repeat (first | apply Kd.R_alloc | apply Kd.R_drewN | apply Kd.R_drew)); exact HO221.out⟩, ⟨by repeat (first | (with_reducible first | exact HB.out | apply below_alloc | apply pw_below_drewN | apply below_drew1) | exact HB.out)⟩⟩
                case round =>
                  clear H'
                  try clear c1
                  try clear p2
                  try clear q2
                  try clear hx2
                  try clear c4
                  try clear p6
                  try clear c7
                  try clear c8
                  try clear c9
                  try clear c10
                  try clear c11
                  try clear c11b0
                  try clear c12
                  try clear c12b0
                  try clear c13
                  try clear c15
                  try clear hx212_0
                  try clear p2
                  try clear p212
                  try clear q212
                  obtain ⟨x10_3, x11_3, rfl, HA, HK3, HO_8, HO_10, HB⟩ := hrel
                  cases gk with
                  | zero => exact absurd HA.out (by simp [cooperagelaw17_WaitGives.l1])
                  | succ k3 =>
                    have H := HA.out
                    clear HA
                    simp only [cooperagelaw17_WaitGives.l1] at H
                    by_cases c19 : x11_3 < 100
                    · rw [if_pos c19] at H
                      have c19b0 : decide (x11_3 < 100) = true := decide_eq_true c19
                      clear c19
                      replace H := Option.bind_eq_some_iff.mp H
                      obtain ⟨t222, A200, H⟩ := H
                      replace H : ((wait_Victim.f x10_3 x8_2).bind fun t225 => (if (t222.length : Int) = 0 then (some (t225 == 0)) else (cooperagelaw17_WaitGives.l2 k3 l1 x8_2 x10_3 x11_3 t222 t225 false ((t222.length : Int) == 1) 0))) = some r := H
                      have A20 := Aside0.mk A200
                      clear A200
                      replace H := Option.bind_eq_some_iff.mp H
                      obtain ⟨t225, A210, H⟩ := H
                      replace H : (if (t222.length : Int) = 0 then (some (t225 == 0)) else (cooperagelaw17_WaitGives.l2 k3 l1 x8_2 x10_3 x11_3 t222 t225 false ((t222.length : Int) == 1) 0)) = some r := H
                      have A21 := Aside0.mk A210
                      clear A210
                      by_cases c22 : (t222.length : Int) = 0
                      · rw [if_pos c22] at H
                        have c22b0 : ((t222.length : Int) == 0) = true := beq_iff_eq.mpr c22
                        have c22b1 : ((t222.length : Int) != 0) = false := bne_eq_false_iff_eq.mpr c22
                        clear c22
                        obtain rfl := Option.some.inj H
                        obtain ⟨Ao23, co23, eo23⟩ := Kd.R_slice HO_10.out
                        subst eo23
                        go_wp2_with (first | ((with_reducible refine gate_callee (f := 13) rfl ?_); refine goesL_ (some 61) rfl rfl Try.func13 (by kernel_rfl) rfl #[.slice Ao23 x10_3.length co23] rfl (by (try simp only [List.map_toArray, List.map_cons, List.map_nil]); first | done | rfl | (simp only [List.length_drop, List.length_take]; rfl)) ?_; (with_reducible refine (wait_Rings.calls _ _ x10_3 t222 _ ?side1 ?side2 A20.out).mono ?_); (case side1 => repeat (first | exact (Kd.R_reads' HO_10.out).2.2 | (with_reducible refine Kd.C_alloc ?_ _) | (with_reducible refine Kd.C_drewN ?_ _) | (with_reducible refine Kd.C_drew ?_))); (case side2 => exact (Kd.R_reads' HO_10.out).2.1); rintro e w24 ⟨v223, rfl, ho0, hb⟩; refine ⟨_, rfl, ?_⟩; have n0_ := Aside0.mk (Kd.R_below (by (with_reducible repeat (first | apply Kd.R_alloc | apply Kd.R_drewN | apply Kd.R_drew)); exact HO_8.out) hb); have n1_ := Aside0.mk (Kd.R_below (by (with_reducible repeat (first | apply Kd.R_alloc | apply Kd.R_drewN | apply Kd.R_drew)); exact HO_10.out) hb); have n2_ := Aside0.mk (Kd.R_lower ho0 (below_size (by repeat (first | (with_reducible first | exact HB.out | apply below_alloc | apply pw_below_drewN | apply below_drew1) | exact HB.out)))); have n3_ := Aside0.mk (below_step (by repeat (first | (with_reducible first | exact HB.out | apply below_alloc | apply pw_below_drewN | apply below_drew1) | exact HB.out)) hb); clear HO_8; clear HO_10; clear HB; have HO_8 := n0_; have HO_10 := n1_; have HO224 := n2_; have HB := n3_; clear n0_ n1_ n2_ n3_; (try clear hb); (try clear hb2); (try clear hk); (try clear hi); (try clear ho0); obtain ⟨Ao25, co25, eo25⟩ := Kd.R_slice HO_8.out; subst eo25) | ((with_reducible refine gate_callee (f := 15) rfl ?_); refine goesL_ (some 64) rfl rfl Try.func15 (by kernel_rfl) rfl #[.slice Ao23 x10_3.length co23, .slice Ao25 x8_2.length co25] rfl (by (try simp only [List.map_toArray, List.map_cons, List.map_nil]); first | done | rfl | (simp only [List.length_drop, List.length_take]; rfl)) ?_; (with_reducible refine (wait_Victim.calls _ _ x10_3 _ _ x8_2 t225 _ ?side1 ?side2 ?side3 ?side4 A21.out).mono ?_); (case side1 => repeat (first | exact (Kd.R_reads' HO_10.out).2.2 | (with_reducible refine Kd.C_alloc ?_ _) | (with_reducible refine Kd.C_drewN ?_ _) | (with_reducible refine Kd.C_drew ?_))); (case side2 => exact (Kd.R_reads' HO_10.out).2.1); (case side3 => repeat (first | exact (Kd.R_reads' HO_8.out).2.2 | (with_reducible refine Kd.C_alloc ?_ _) | (with_reducible refine Kd.C_drewN ?_ _) | (with_reducible refine Kd.C_drew ?_))); (case side4 => exact (Kd.R_reads' HO_8.out).2.1); rintro e w26 ⟨rfl, hb⟩; refine ⟨_, rfl, ?_⟩; have n0_ := Aside0.mk (Kd.R_below (by (with_reducible repeat (first | apply Kd.R_alloc | apply Kd.R_drewN | apply Kd.R_drew)); exact HO_8.out) hb); have n1_ := Aside0.mk (Kd.R_below (by (with_reducible repeat (first | apply Kd.R_alloc | apply Kd.R_drewN | apply Kd.R_drew)); exact HO_10.out) hb); have n2_ := Aside0.mk (Kd.R_below (by (with_reducible repeat (first | apply Kd.R_alloc | apply Kd.R_drewN | apply Kd.R_drew)); exact HO224.out) hb); have n3_ := Aside0.mk (below_step (by repeat (first | (with_reducible first | exact HB.out | apply below_alloc | apply pw_below_drewN | apply below_drew1) | exact HB.out)) hb); clear HO_8; clear HO_10; clear HO224; clear HB; have HO_8 := n0_; have HO_10 := n1_; have HO224 := n2_; have HB := n3_; clear n0_ n1_ n2_ n3_; (try clear hb); (try clear hb2); (try clear hk); (try clear hi); obtain ⟨Ao27, co27, eo27⟩ := Kd.R_slice HO224.out; subst eo27))
                        go_ret
                        exact ⟨by first | rfl | (simp [errW_none, errW_some] <;> rfl) | (simp [*, errW_none, errW_some] <;> rfl), by repeat (first | (with_reducible first | exact HB.out | apply below_alloc | apply pw_below_drewN | apply below_drew1) | exact HB.out)⟩
                      · rw [if_neg c22] at H
                        have c22b0 : ((t222.length : Int) == 0) = false := beq_eq_false_iff_ne.mpr c22
                        have c22b1 : ((t222.length : Int) != 0) = true := bne_iff_ne.mpr c22
                        have c22b2 : ¬ (t222 = []) := fun h_ => c22 (by rw [h_]; rfl)
                        have H' := Aside0.mk H
                        clear H
                        obtain ⟨Ao28, co28, eo28⟩ := Kd.R_slice HO_10.out
                        subst eo28
                        go_wp2_with (first | ((with_reducible refine gate_callee (f := 13) rfl ?_); refine goesL_ (some 61) rfl rfl Try.func13 (by kernel_rfl) rfl #[.slice Ao28 x10_3.length co28] rfl (by (try simp only [List.map_toArray, List.map_cons, List.map_nil]); first | done | rfl | (simp only [List.length_drop, List.length_take]; rfl)) ?_; (with_reducible refine (wait_Rings.calls _ _ x10_3 t222 _ ?side1 ?side2 A20.out).mono ?_); (case side1 => repeat (first | exact (Kd.R_reads' HO_10.out).2.2 | (with_reducible refine Kd.C_alloc ?_ _) | (with_reducible refine Kd.C_drewN ?_ _) | (with_reducible refine Kd.C_drew ?_))); (case side2 => exact (Kd.R_reads' HO_10.out).2.1); rintro e w29 ⟨v223, rfl, ho0, hb⟩; refine ⟨_, rfl, ?_⟩; have n0_ := Aside0.mk (Kd.R_below (by (with_reducible repeat (first | apply Kd.R_alloc | apply Kd.R_drewN | apply Kd.R_drew)); exact HO_8.out) hb); have n1_ := Aside0.mk (Kd.R_below (by (with_reducible repeat (first | apply Kd.R_alloc | apply Kd.R_drewN | apply Kd.R_drew)); exact HO_10.out) hb); have n2_ := Aside0.mk (Kd.R_lower ho0 (below_size (by repeat (first | (with_reducible first | exact HB.out | apply below_alloc | apply pw_below_drewN | apply below_drew1) | exact HB.out)))); have n3_ := Aside0.mk (below_step (by repeat (first | (with_reducible first | exact HB.out | apply below_alloc | apply pw_below_drewN | apply below_drew1) | exact HB.out)) hb); clear HO_8; clear HO_10; clear HB; have HO_8 := n0_; have HO_10 := n1_; have HO224 := n2_; have HB := n3_; clear n0_ n1_ n2_ n3_; (try clear hb); (try clear hb2); (try clear hk); (try clear hi); (try clear ho0); obtain ⟨Ao30, co30, eo30⟩ := Kd.R_slice HO_8.out; subst eo30) | ((with_reducible refine gate_callee (f := 15) rfl ?_); refine goesL_ (some 64) rfl rfl Try.func15 (by kernel_rfl) rfl #[.slice Ao28 x10_3.length co28, .slice Ao30 x8_2.length co30] rfl (by (try simp only [List.map_toArray, List.map_cons, List.map_nil]); first | done | rfl | (simp only [List.length_drop, List.length_take]; rfl)) ?_; (with_reducible refine (wait_Victim.calls _ _ x10_3 _ _ x8_2 t225 _ ?side1 ?side2 ?side3 ?side4 A21.out).mono ?_); (case side1 => repeat (first | exact (Kd.R_reads' HO_10.out).2.2 | (with_reducible refine Kd.C_alloc ?_ _) | (with_reducible refine Kd.C_drewN ?_ _) | (with_reducible refine Kd.C_drew ?_))); (case side2 => exact (Kd.R_reads' HO_10.out).2.1); (case side3 => repeat (first | exact (Kd.R_reads' HO_8.out).2.2 | (with_reducible refine Kd.C_alloc ?_ _) | (with_reducible refine Kd.C_drewN ?_ _) | (with_reducible refine Kd.C_drew ?_))); (case side4 => exact (Kd.R_reads' HO_8.out).2.1); rintro e w31 ⟨rfl, hb⟩; refine ⟨_, rfl, ?_⟩; have n0_ := Aside0.mk (Kd.R_below (by (with_reducible repeat (first | apply Kd.R_alloc | apply Kd.R_drewN | apply Kd.R_drew)); exact HO_8.out) hb); have n1_ := Aside0.mk (Kd.R_below (by (with_reducible repeat (first | apply Kd.R_alloc | apply Kd.R_drewN | apply Kd.R_drew)); exact HO_10.out) hb); have n2_ := Aside0.mk (Kd.R_below (by (with_reducible repeat (first | apply Kd.R_alloc | apply Kd.R_drewN | apply Kd.R_drew)); exact HO224.out) hb); have n3_ := Aside0.mk (below_step (by repeat (first | (with_reducible first | exact HB.out | apply below_alloc | apply pw_below_drewN | apply below_drew1) | exact HB.out)) hb); clear HO_8; clear HO_10; clear HO224; clear HB; have HO_8 := n0_; have HO_10 := n1_; have HO224 := n2_; have HB := n3_; clear n0_ n1_ n2_ n3_; (try clear hb); (try clear hb2); (try clear hk); (try clear hi); obtain ⟨Ao32, co32, eo32⟩ := Kd.R_slice HO224.out; subst eo32))
                        go_loopg [14, 15, 16] k3 (fun kq v14 v15 v16 w' => ∃ (x14_4 : Bool) (x15_4 : Bool) (x16_4 : Int), v14 = .bool x14_4 ∧ v15 = .bool x15_4 ∧ v16 = .int .i64 x16_4 ∧ Aside0 (cooperagelaw17_WaitGives.l2 kq l1 x8_2 x10_3 x11_3 t222 t225 x14_4 x15_4 x16_4 = some r) ∧ Aside0 (kq ≤ k3) ∧ Aside0 (Kd.R k40 40 w' w.heap.size (fun _ => True) (.slice Ao30 x8_2.length co30) x8_2) ∧ Aside0 (Kd.R k43 43 w' w.heap.size (fun _ => True) (.slice Ao28 x10_3.length co28) x10_3) ∧ Aside0 (Kd.R (Kd.int .i64) 3 w' w.heap.size (fun _ => True) (.slice Ao32 t222.length co32) t222) ∧ Aside0 (Below w.heap.size w w'))
                        case atStart => exact ⟨(false), (((t222.length : Int) == 1)), (0), (by first | rfl | (simp; done) | (simp [*]; done)), (by first | rfl | (simp; done) | (simp [*]; done)), (by first | rfl | (simp; done) | (simp [*]; done)), H', ⟨Nat.le_refl _⟩, ⟨by (with_reducible repeat (first | apply Kd.R_alloc | apply Kd.R_drewN | apply Kd.R_drew)); exact HO_8.out⟩, ⟨by (with_reducible repeat (first | apply Kd.R_alloc | apply Kd.R_drewN | apply Kd.R_drew)); exact HO_10.out⟩, ⟨by (with_reducible repeat (first | apply Kd.R_alloc | apply Kd.R_drewN | apply Kd.R_drew)); exact HO224.out⟩, ⟨by repeat (first | (with_reducible first | exact HB.out | apply below_alloc | apply pw_below_drewN | apply below_drew1) | exact HB.out)⟩⟩
                        case round =>
                          clear H'
                          try clear c1
                          try clear c2
                          try clear p2
                          try clear q2
                          try clear hx2
                          try clear c4
                          try clear p6
                          try clear c7
                          try clear c8
                          try clear c9
                          try clear c10
                          try clear c11
                          try clear c11b0
                          try clear c12
                          try clear c12b0
                          try clear c13
                          try clear c15
                          try clear c19
                          try clear c19b0
                          try clear p21
                          try clear q21
                          try clear hx21
                          try clear c22
                          try clear c22b0
                          try clear c22b1
                          try clear c22b2
                          try clear hx212_0
                          try clear p2
                          try clear p212
                          try clear p6
                          try clear q2
                          try clear q212
                          obtain ⟨x14_4, x15_4, x16_4, rfl, rfl, rfl, HA, HK4, HO_8, HO_10, HO_12, HB⟩ := hrel
                          cases gk with
                          | zero => exact absurd HA.out (by simp [cooperagelaw17_WaitGives.l2])
                          | succ k4 =>
                            have H := HA.out
                            clear HA
                            simp only [cooperagelaw17_WaitGives.l2] at H
                            by_cases c33 : x16_4 < (t222.length : Int)
                            · rw [if_pos c33] at H
                              have c33b0 : decide (x16_4 < (t222.length : Int)) = true := decide_eq_true c33
                              clear c33
                              have HC34 := Aside0.mk H
                              clear H
                              go_upto_region 23 with (fail)
                              go_cut [14] (fun v14 wc => ∃ (kq : Nat) (x14_33 : Bool), v14 = .bool x14_33 ∧ Aside0 (cooperagelaw17_WaitGives.j4 kq l1 x8_2 x10_3 x11_3 t222 t225 x14_33 x15_4 x16_4 = some r) ∧ Aside0 (kq ≤ k4) ∧ Aside0 (Kd.R k40 40 wc w.heap.size (fun _ => True) (.slice Ao30 x8_2.length co30) x8_2) ∧ Aside0 (Kd.R k43 43 wc w.heap.size (fun _ => True) (.slice Ao28 x10_3.length co28) x10_3) ∧ Aside0 (Kd.R (Kd.int .i64) 3 wc w.heap.size (fun _ => True) (.slice Ao32 t222.length co32) t222) ∧ Aside0 (Below w.heap.size w wc))
                              case first =>
                                have H := HC34.out
                                clear HC34
                                by_cases c35 : x14_4 = true
                                · subst c35
                                  have H1 : (cooperagelaw17_WaitGives.j4 k4 l1 x8_2 x10_3 x11_3 t222 t225 true x15_4 x16_4) = some r := by rw [if_pos rfl] at H; exact H
                                  clear H
                                  have H := H1
                                  clear H1
                                  have H' := Aside0.mk H
                                  clear H
                                  go_wp2
                                  go_meet
                                  case rel => exact ⟨_, (true), (by first | rfl | (simp; done) | (simp [*]; done)), H', ⟨by have := HJ4.out; have := HK2.out; have := HK3.out; have := HK4.out; first | omega | exact Nat.le_refl _⟩, ⟨by (with_reducible repeat (first | apply Kd.R_alloc | apply Kd.R_drewN | apply Kd.R_drew)); exact HO_8.out⟩, ⟨by (with_reducible repeat (first | apply Kd.R_alloc | apply Kd.R_drewN | apply Kd.R_drew)); exact HO_10.out⟩, ⟨by (with_reducible repeat (first | apply Kd.R_alloc | apply Kd.R_drewN | apply Kd.R_drew)); exact HO_12.out⟩, ⟨by repeat (first | (with_reducible first | exact HB.out | apply below_alloc | apply pw_below_drewN | apply below_drew1) | exact HB.out)⟩⟩
                                · replace c35 := Bool.eq_false_iff.mpr c35
                                  subst c35
                                  have H1 : (if 0 ≤ x16_4 then (cooperagelaw17_WaitGives.j4 k4 l1 x8_2 x10_3 x11_3 t222 t225 ((rd t222 x16_4) == t225) x15_4 x16_4) else (none)) = some r := by rw [if_neg (show ¬ (false = true) by decide)] at H; exact H
                                  clear H
                                  have H := H1
                                  clear H1
                                  by_cases c36 : 0 ≤ x16_4
                                  · rw [if_pos c36] at H
                                    have c36b0 : decide (0 ≤ x16_4) = true := decide_eq_true c36
                                    clear c36
                                    (first | rw [c36b0] | (simp only [i64_w, i32_w]; rw [c36b0]) | skip)
                                    have H' := Aside0.mk H
                                    clear H
                                    have p226 : 0 ≤ (x16_4 : Int) := of_decide_eq_true (by first | (with_reducible assumption) | assumption)
                                    have q226 : x16_4 < (t222.length : Int) := of_decide_eq_true (by first | (with_reducible assumption) | assumption)
                                    obtain ⟨ad226, e226, hx226_0⟩ := Kd.at_int (Kd.R_reads' HO_12.out).2.2 x16_4 p226 q226
                                    cases e226
                                    replace p226 := eq_true p226
                                    replace q226 := eq_true q226
                                    go_wp2
                                    go_meet
                                    case rel => exact ⟨_, (((rd t222 x16_4) == t225)), (by first | rfl | (simp; done) | (simp [*]; done)), H', ⟨by have := HJ4.out; have := HK2.out; have := HK3.out; have := HK4.out; first | omega | exact Nat.le_refl _⟩, ⟨by (with_reducible repeat (first | apply Kd.R_alloc | apply Kd.R_drewN | apply Kd.R_drew)); exact HO_8.out⟩, ⟨by (with_reducible repeat (first | apply Kd.R_alloc | apply Kd.R_drewN | apply Kd.R_drew)); exact HO_10.out⟩, ⟨by (with_reducible repeat (first | apply Kd.R_alloc | apply Kd.R_drewN | apply Kd.R_drew)); exact HO_12.out⟩, ⟨by repeat (first | (with_reducible first | exact HB.out | apply below_alloc | apply pw_below_drewN | apply below_drew1) | exact HB.out)⟩⟩
                                  · rw [if_neg c36] at H
                                    exact absurd H (by simp)
                              case rest =>
                                clear HC34
                                try clear c1
                                try clear c2
                                try clear p2
                                try clear q2
                                try clear hx2
                                try clear c3
                                try clear c4
                                try clear p6
                                try clear c7
                                try clear c8
                                try clear c9
                                try clear c10
                                try clear c11
                                try clear c11b0
                                try clear c12
                                try clear c12b0
                                try clear c13
                                try clear c15
                                try clear c19
                                try clear c19b0
                                try clear p21
                                try clear q21
                                try clear hx21
                                try clear c22
                                try clear c22b0
                                try clear c22b1
                                try clear c22b2
                                try clear p22
                                try clear q22
                                try clear hx22
                                try clear c33
                                try clear c33b0
                                try clear c35
                                try clear c36
                                try clear c36b0
                                try clear hx212_0
                                try clear hx226_0
                                try clear p2
                                try clear p21
                                try clear p212
                                try clear p226
                                try clear p6
                                try clear q2
                                try clear q21
                                try clear q212
                                try clear q226
                                obtain ⟨kq, x14_33, rfl, HA, HJ33, HO_8, HO_10, HO_12, HB⟩ := hcut
                                cases kq with
                                | zero => exact absurd HA.out (by simp [cooperagelaw17_WaitGives.j4])
                                | succ kj33 =>
                                  have H := HA.out
                                  clear HA
                                  simp only [cooperagelaw17_WaitGives.j4] at H
                                  have HC37 := Aside0.mk H
                                  clear H
                                  go_upto_region 24 with (fail)
                                  go_cut [15] (fun v15 wc => ∃ (kq : Nat) (x15_36 : Bool), v15 = .bool x15_36 ∧ Aside0 (cooperagelaw17_WaitGives.j5 kq l1 x8_2 x10_3 x11_3 t222 t225 x14_33 x15_36 x16_4 = some r) ∧ Aside0 (kq ≤ kj33) ∧ Aside0 (Kd.R k40 40 wc w.heap.size (fun _ => True) (.slice Ao30 x8_2.length co30) x8_2) ∧ Aside0 (Kd.R k43 43 wc w.heap.size (fun _ => True) (.slice Ao28 x10_3.length co28) x10_3) ∧ Aside0 (Kd.R (Kd.int .i64) 3 wc w.heap.size (fun _ => True) (.slice Ao32 t222.length co32) t222) ∧ Aside0 (Below w.heap.size w wc))
                                  case first =>
                                    have H := HC37.out
                                    clear HC37
                                    by_cases c38 : x15_4 = true
                                    · subst c38
                                      have H1 : (cooperagelaw17_WaitGives.j5 kj33 l1 x8_2 x10_3 x11_3 t222 t225 x14_33 true x16_4) = some r := by rw [if_pos rfl] at H; exact H
                                      clear H
                                      have H := H1
                                      clear H1
                                      have H' := Aside0.mk H
                                      clear H
                                      go_wp2
                                      go_meet
                                      case rel => exact ⟨_, (true), (by first | rfl | (simp; done) | (simp [*]; done)), H', ⟨by have := HJ4.out; have := HK2.out; have := HK3.out; have := HK4.out; have := HJ33.out; first | omega | exact Nat.le_refl _⟩, ⟨by (with_reducible repeat (first | apply Kd.R_alloc | apply Kd.R_drewN | apply Kd.R_drew)); exact HO_8.out⟩, ⟨by (with_reducible repeat (first | apply Kd.R_alloc | apply Kd.R_drewN | apply Kd.R_drew)); exact HO_10.out⟩, ⟨by (with_reducible repeat (first | apply Kd.R_alloc | apply Kd.R_drewN | apply Kd.R_drew)); exact HO_12.out⟩, ⟨by repeat (first | (with_reducible first | exact HB.out | apply below_alloc | apply pw_below_drewN | apply below_drew1) | exact HB.out)⟩⟩
                                    · replace c38 := Bool.eq_false_iff.mpr c38
                                      subst c38
                                      have H1 : (if 0 ≤ x16_4 then (if x16_4 < (t222.length : Int) then ((cooperagelaw17_of.f l1 (rd t222 x16_4)).bind fun t228 => ((cooperagelaw17_of.f l1 t225).bind fun t229 => (if t228 < t229 then (cooperagelaw17_WaitGives.j5 kj33 l1 x8_2 x10_3 x11_3 t222 t225 x14_33 true x16_4) else (if (rd t222 x16_4) < t225 then ((cooperagelaw17_of.f l1 (rd t222 x16_4)).bind fun t232 => ((cooperagelaw17_of.f l1 t225).bind fun t233 => (cooperagelaw17_WaitGives.j5 kj33 l1 x8_2 x10_3 x11_3 t222 t225 x14_33 (t232 == t233) x16_4))) else (cooperagelaw17_WaitGives.j5 kj33 l1 x8_2 x10_3 x11_3 t222 t225 x14_33 false x16_4))))) else (none)) else (none)) = some r := by rw [if_neg (show ¬ (false = true) by decide)] at H; exact H
                                      clear H
                                      have H := H1
                                      clear H1
                                      by_cases c39 : 0 ≤ x16_4
                                      · rw [if_pos c39] at H
                                        have c39b0 : decide (0 ≤ x16_4) = true := decide_eq_true c39
                                        clear c39
                                        (first | rw [c39b0] | (simp only [i64_w, i32_w]; rw [c39b0]) | skip)
                                        by_cases c40 : x16_4 < (t222.length : Int)
                                        · rw [if_pos c40] at H
                                          have c40b0 : decide (x16_4 < (t222.length : Int)) = true := decide_eq_true c40
                                          clear c40
                                          replace H := Option.bind_eq_some_iff.mp H
                                          obtain ⟨t228, A410, H⟩ := H
                                          replace H : ((cooperagelaw17_of.f l1 t225).bind fun t229 => (if t228 < t229 then (cooperagelaw17_WaitGives.j5 kj33 l1 x8_2 x10_3 x11_3 t222 t225 x14_33 true x16_4) else (if (rd t222 x16_4) < t225 then ((cooperagelaw17_of.f l1 (rd t222 x16_4)).bind fun t232 => ((cooperagelaw17_of.f l1 t225).bind fun t233 => (cooperagelaw17_WaitGives.j5 kj33 l1 x8_2 x10_3 x11_3 t222 t225 x14_33 (t232 == t233) x16_4))) else (cooperagelaw17_WaitGives.j5 kj33 l1 x8_2 x10_3 x11_3 t222 t225 x14_33 false x16_4)))) = some r := H
                                          have A41 := Aside0.mk A410
                                          clear A410
                                          replace H := Option.bind_eq_some_iff.mp H
                                          obtain ⟨t229, A420, H⟩ := H
                                          replace H : (if t228 < t229 then (cooperagelaw17_WaitGives.j5 kj33 l1 x8_2 x10_3 x11_3 t222 t225 x14_33 true x16_4) else (if (rd t222 x16_4) < t225 then ((cooperagelaw17_of.f l1 (rd t222 x16_4)).bind fun t232 => ((cooperagelaw17_of.f l1 t225).bind fun t233 => (cooperagelaw17_WaitGives.j5 kj33 l1 x8_2 x10_3 x11_3 t222 t225 x14_33 (t232 == t233) x16_4))) else (cooperagelaw17_WaitGives.j5 kj33 l1 x8_2 x10_3 x11_3 t222 t225 x14_33 false x16_4))) = some r := H
                                          have A42 := Aside0.mk A420
                                          clear A420
                                          by_cases c43 : t228 < t229
                                          · rw [if_pos c43] at H
                                            have c43b0 : decide (t228 < t229) = true := decide_eq_true c43
                                            clear c43
                                            have H' := Aside0.mk H
                                            clear H
                                            have p227 : 0 ≤ (x16_4 : Int) := of_decide_eq_true (by first | (with_reducible assumption) | assumption)
                                            have q227 : x16_4 < (t222.length : Int) := of_decide_eq_true (by first | (with_reducible assumption) | assumption)
                                            obtain ⟨ad227, e227, hx227_0⟩ := Kd.at_int (Kd.R_reads' HO_12.out).2.2 x16_4 p227 q227
                                            cases e227
                                            replace p227 := eq_true p227
                                            replace q227 := eq_true q227
                                            go_wp2_with (first | (go_at_call 17; (with_reducible refine (cooperagelaw17_of.calls _ _ l1 (rd t222 x16_4) t228 _ ?side1 ?side2 A41.out).mono ?_); (case side1 => repeat (first | exact (Kd.C_below HR1.out HB.out) | (with_reducible refine Kd.C_alloc ?_ _) | (with_reducible refine Kd.C_drewN ?_ _) | (with_reducible refine Kd.C_drew ?_))); (case side2 => exact HC1.out); rintro e w' ⟨rfl, ⟨nd, rfl⟩⟩) | (go_at_call 17; (with_reducible refine (cooperagelaw17_of.calls _ _ l1 t225 t229 _ ?side1 ?side2 A42.out).mono ?_); (case side1 => repeat (first | exact (Kd.C_below HR1.out (by repeat (first | (with_reducible first | exact HB.out | apply below_alloc | apply pw_below_drewN | apply below_drew1) | exact HB.out))) | (with_reducible refine Kd.C_alloc ?_ _) | (with_reducible refine Kd.C_drewN ?_ _) | (with_reducible refine Kd.C_drew ?_))); (case side2 => exact HC1.out); rintro e w' ⟨rfl, ⟨nd, rfl⟩⟩))
                                            go_meet
                                            case rel => exact ⟨_, (true), (by first | rfl | (simp; done) | (simp [*]; done)), H', ⟨by have := HJ4.out; have := HK2.out; have := HK3.out; have := HK4.out; have := HJ33.out; first | omega | exact Nat.le_refl _⟩, ⟨by (with_reducible repeat (first | apply Kd.R_alloc | apply Kd.R_drewN | apply Kd.R_drew)); exact HO_8.out⟩, ⟨by (with_reducible repeat (first | apply Kd.R_alloc | apply Kd.R_drewN | apply Kd.R_drew)); exact HO_10.out⟩, ⟨by (with_reducible repeat (first | apply Kd.R_alloc | apply Kd.R_drewN | apply Kd.R_drew)); exact HO_12.out⟩, ⟨by repeat (first | (with_reducible first | exact HB.out | apply below_alloc | apply pw_below_drewN | apply below_drew1) | exact HB.out)⟩⟩
                                          · rw [if_neg c43] at H
                                            have c43b0 : decide (t228 < t229) = false := decide_eq_false c43
                                            clear c43
                                            by_cases c44 : (rd t222 x16_4) < t225
                                            · rw [if_pos c44] at H
                                              have c44b0 : decide ((rd t222 x16_4) < t225) = true := decide_eq_true c44
                                              clear c44
                                              replace H := Option.bind_eq_some_iff.mp H
                                              obtain ⟨t232, A450, H⟩ := H
                                              replace H : ((cooperagelaw17_of.f l1 t225).bind fun t233 => (cooperagelaw17_WaitGives.j5 kj33 l1 x8_2 x10_3 x11_3 t222 t225 x14_33 (t232 == t233) x16_4)) = some r := H
                                              have A45 := Aside0.mk A450
                                              clear A450
                                              replace H := Option.bind_eq_some_iff.mp H
                                              obtain ⟨t233, A460, H⟩ := H
                                              replace H : (cooperagelaw17_WaitGives.j5 kj33 l1 x8_2 x10_3 x11_3 t222 t225 x14_33 (t232 == t233) x16_4) = some r := H
                                              have A46 := Aside0.mk A460
                                              clear A460
                                              have E228 := Aside0.mk (show t228 = t232 from Option.some.inj (A41.out.symm.trans A45.out))
                                              have E229 := Aside0.mk (show t229 = t233 from Option.some.inj (A42.out.symm.trans A46.out))
                                              have H' := Aside0.mk H
                                              clear H
                                              have p227 : 0 ≤ (x16_4 : Int) := of_decide_eq_true (by first | (with_reducible assumption) | assumption)
                                              have q227 : x16_4 < (t222.length : Int) := of_decide_eq_true (by first | (with_reducible assumption) | assumption)
                                              obtain ⟨ad227, e227, hx227_0⟩ := Kd.at_int (Kd.R_reads' HO_12.out).2.2 x16_4 p227 q227
                                              cases e227
                                              replace p227 := eq_true p227
                                              replace q227 := eq_true q227
                                              go_wp2_with (first | (go_at_call 17; (with_reducible refine (cooperagelaw17_of.calls _ _ l1 (rd t222 x16_4) t228 _ ?side1 ?side2 A41.out).mono ?_); (case side1 => repeat (first | exact (Kd.C_below HR1.out HB.out) | (with_reducible refine Kd.C_alloc ?_ _) | (with_reducible refine Kd.C_drewN ?_ _) | (with_reducible refine Kd.C_drew ?_))); (case side2 => exact HC1.out); rintro e w' ⟨rfl, ⟨nd, rfl⟩⟩) | (go_at_call 17; (with_reducible refine (cooperagelaw17_of.calls _ _ l1 t225 t229 _ ?side1 ?side2 A42.out).mono ?_); (case side1 => repeat (first | exact (Kd.C_below HR1.out (by repeat (first | (with_reducible first | exact HB.out | apply below_alloc | apply pw_below_drewN | apply below_drew1) | exact HB.out))) | (with_reducible refine Kd.C_alloc ?_ _) | (with_reducible refine Kd.C_drewN ?_ _) | (with_reducible refine Kd.C_drew ?_))); (case side2 => exact HC1.out); rintro e w' ⟨rfl, ⟨nd, rfl⟩⟩; have p230 : 0 ≤ (x16_4 : Int) := of_decide_eq_true (by first | (with_reducible assumption) | assumption); have q230 : x16_4 < (t222.length : Int) := of_decide_eq_true (by first | (with_reducible assumption) | assumption); obtain ⟨ad230, e230, hx230_0⟩ := Kd.at_int (Kd.R_reads' HO_12.out).2.2 x16_4 p230 q230; obtain rfl : ad227 = ad230 := (by injection e230); replace p230 := eq_true p230; replace q230 := eq_true q230; have p231 : 0 ≤ (x16_4 : Int) := of_decide_eq_true (by first | (with_reducible assumption) | assumption); have q231 : x16_4 < (t222.length : Int) := of_decide_eq_true (by first | (with_reducible assumption) | assumption); obtain ⟨ad231, e231, hx231_0⟩ := Kd.at_int (Kd.R_reads' HO_12.out).2.2 x16_4 p231 q231; obtain rfl : ad227 = ad231 := (by injection e231); replace p231 := eq_true p231; replace q231 := eq_true q231) | (go_at_call 17; (with_reducible refine (cooperagelaw17_of.calls _ _ l1 (rd t222 x16_4) t232 _ ?side1 ?side2 A45.out).mono ?_); (case side1 => repeat (first | exact (Kd.C_below HR1.out (by repeat (first | (with_reducible first | exact HB.out | apply below_alloc | apply pw_below_drewN | apply below_drew1) | exact HB.out))) | (with_reducible refine Kd.C_alloc ?_ _) | (with_reducible refine Kd.C_drewN ?_ _) | (with_reducible refine Kd.C_drew ?_))); (case side2 => exact HC1.out); rintro e w' ⟨rfl, ⟨nd, rfl⟩⟩) | (go_at_call 17; (with_reducible refine (cooperagelaw17_of.calls _ _ l1 t225 t233 _ ?side1 ?side2 A46.out).mono ?_); (case side1 => repeat (first | exact (Kd.C_below HR1.out (by repeat (first | (with_reducible first | exact HB.out | apply below_alloc | apply pw_below_drewN | apply below_drew1) | exact HB.out))) | (with_reducible refine Kd.C_alloc ?_ _) | (with_reducible refine Kd.C_drewN ?_ _) | (with_reducible refine Kd.C_drew ?_))); (case side2 => exact HC1.out); rintro e w' ⟨rfl, ⟨nd, rfl⟩⟩))
                                              go_meet
                                              case rel => exact ⟨_, ((t232 == t233)), (by first | (rw [E228.out, E229.out]; done) | (simp [E228.out, E229.out]; done) | rfl | (simp; done) | (simp [*]; done)), H', ⟨by have := HJ4.out; have := HK2.out; have := HK3.out; have := HK4.out; have := HJ33.out; first | omega | exact Nat.le_refl _⟩, ⟨by (with_reducible repeat (first | apply Kd.R_alloc | apply Kd.R_drewN | apply Kd.R_drew)); exact HO_8.out⟩, ⟨by (with_reducible repeat (first | apply Kd.R_alloc | apply Kd.R_drewN | apply Kd.R_drew)); exact HO_10.out⟩, ⟨by (with_reducible repeat (first | apply Kd.R_alloc | apply Kd.R_drewN | apply Kd.R_drew)); exact HO_12.out⟩, ⟨by repeat (first | (with_reducible first | exact HB.out | apply below_alloc | apply pw_below_drewN | apply below_drew1) | exact HB.out)⟩⟩
                                            · rw [if_neg c44] at H
                                              have c44b0 : decide ((rd t222 x16_4) < t225) = false := decide_eq_false c44
                                              clear c44
                                              have H' := Aside0.mk H
                                              clear H
                                              have p227 : 0 ≤ (x16_4 : Int) := of_decide_eq_true (by first | (with_reducible assumption) | assumption)
                                              have q227 : x16_4 < (t222.length : Int) := of_decide_eq_true (by first | (with_reducible assumption) | assumption)
                                              obtain ⟨ad227, e227, hx227_0⟩ := Kd.at_int (Kd.R_reads' HO_12.out).2.2 x16_4 p227 q227
                                              cases e227
                                              replace p227 := eq_true p227
                                              replace q227 := eq_true q227
                                              go_wp2_with (first | (go_at_call 17; (with_reducible refine (cooperagelaw17_of.calls _ _ l1 (rd t222 x16_4) t228 _ ?side1 ?side2 A41.out).mono ?_); (case side1 => repeat (first | exact (Kd.C_below HR1.out HB.out) | (with_reducible refine Kd.C_alloc ?_ _) | (with_reducible refine Kd.C_drewN ?_ _) | (with_reducible refine Kd.C_drew ?_))); (case side2 => exact HC1.out); rintro e w' ⟨rfl, ⟨nd, rfl⟩⟩) | (go_at_call 17; (with_reducible refine (cooperagelaw17_of.calls _ _ l1 t225 t229 _ ?side1 ?side2 A42.out).mono ?_); (case side1 => repeat (first | exact (Kd.C_below HR1.out (by repeat (first | (with_reducible first | exact HB.out | apply below_alloc | apply pw_below_drewN | apply below_drew1) | exact HB.out))) | (with_reducible refine Kd.C_alloc ?_ _) | (with_reducible refine Kd.C_drewN ?_ _) | (with_reducible refine Kd.C_drew ?_))); (case side2 => exact HC1.out); rintro e w' ⟨rfl, ⟨nd, rfl⟩⟩; have p230 : 0 ≤ (x16_4 : Int) := of_decide_eq_true (by first | (with_reducible assumption) | assumption); have q230 : x16_4 < (t222.length : Int) := of_decide_eq_true (by first | (with_reducible assumption) | assumption); obtain ⟨ad230, e230, hx230_0⟩ := Kd.at_int (Kd.R_reads' HO_12.out).2.2 x16_4 p230 q230; obtain rfl : ad227 = ad230 := (by injection e230); replace p230 := eq_true p230; replace q230 := eq_true q230))
                                              go_meet
                                              case rel => exact ⟨_, (false), (by first | rfl | (simp; done) | (simp [*]; done)), H', ⟨by have := HJ4.out; have := HK2.out; have := HK3.out; have := HK4.out; have := HJ33.out; first | omega | exact Nat.le_refl _⟩, ⟨by (with_reducible repeat (first | apply Kd.R_alloc | apply Kd.R_drewN | apply Kd.R_drew)); exact HO_8.out⟩, ⟨by (with_reducible repeat (first | apply Kd.R_alloc | apply Kd.R_drewN | apply Kd.R_drew)); exact HO_10.out⟩, ⟨by (with_reducible repeat (first | apply Kd.R_alloc | apply Kd.R_drewN | apply Kd.R_drew)); exact HO_12.out⟩, ⟨by repeat (first | (with_reducible first | exact HB.out | apply below_alloc | apply pw_below_drewN | apply below_drew1) | exact HB.out)⟩⟩
                                        · rw [if_neg c40] at H
                                          exact absurd H (by simp)
                                      · rw [if_neg c39] at H
                                        exact absurd H (by simp)
                                  case rest =>
                                    clear HC37
                                    try clear c1
                                    try clear c2
                                    try clear p2
                                    try clear q2
                                    try clear hx2
                                    try clear c3
                                    try clear c4
                                    try clear p6
                                    try clear c7
                                    try clear c8
                                    try clear c9
                                    try clear c10
                                    try clear c11
                                    try clear c11b0
                                    try clear c12
                                    try clear c12b0
                                    try clear c13
                                    try clear c15
                                    try clear c19
                                    try clear c19b0
                                    try clear p21
                                    try clear q21
                                    try clear hx21
                                    try clear c22
                                    try clear c22b0
                                    try clear c22b1
                                    try clear c22b2
                                    try clear p22
                                    try clear q22
                                    try clear hx22
                                    try clear p23
                                    try clear q23
                                    try clear hx23
                                    try clear c33
                                    try clear c33b0
                                    try clear c35
                                    try clear c36
                                    try clear c36b0
                                    try clear c38
                                    try clear c39
                                    try clear c39b0
                                    try clear c40
                                    try clear c40b0
                                    try clear c43
                                    try clear c43b0
                                    try clear c44
                                    try clear c44b0
                                    try clear hx212_0
                                    try clear hx226_0
                                    try clear hx227_0
                                    try clear hx230_0
                                    try clear hx231_0
                                    try clear p2
                                    try clear p21
                                    try clear p212
                                    try clear p22
                                    try clear p226
                                    try clear p227
                                    try clear p230
                                    try clear p231
                                    try clear p6
                                    try clear q2
                                    try clear q21
                                    try clear q212
                                    try clear q22
                                    try clear q226
                                    try clear q227
                                    try clear q230
                                    try clear q231
                                    obtain ⟨kq, x15_36, rfl, HA, HJ36, HO_8, HO_10, HO_12, HB⟩ := hcut
                                    cases kq with
                                    | zero => exact absurd HA.out (by simp [cooperagelaw17_WaitGives.j5])
                                    | succ kj36 =>
                                      have H := HA.out
                                      clear HA
                                      simp only [cooperagelaw17_WaitGives.j5] at H
                                      by_cases c47 : 0 ≤ x16_4
                                      · rw [if_pos c47] at H
                                        have c47b0 : decide (0 ≤ x16_4) = true := decide_eq_true c47
                                        clear c47
                                        by_cases c48 : x16_4 < (t222.length : Int)
                                        · rw [if_pos c48] at H
                                          have c48b0 : decide (x16_4 < (t222.length : Int)) = true := decide_eq_true c48
                                          clear c48
                                          replace H := Option.bind_eq_some_iff.mp H
                                          obtain ⟨t235, A490, H⟩ := H
                                          replace H : ((cooperagelaw17_of.f l1 t225).bind fun t236 => (if t235 > t236 then (some false) else (cooperagelaw17_WaitGives.l2 kj36 l1 x8_2 x10_3 x11_3 t222 t225 x14_33 x15_36 (wrap64 (x16_4 + 1))))) = some r := H
                                          have A49 := Aside0.mk A490
                                          clear A490
                                          replace H := Option.bind_eq_some_iff.mp H
                                          obtain ⟨t236, A500, H⟩ := H
                                          replace H : (if t235 > t236 then (some false) else (cooperagelaw17_WaitGives.l2 kj36 l1 x8_2 x10_3 x11_3 t222 t225 x14_33 x15_36 (wrap64 (x16_4 + 1)))) = some r := H
                                          have A50 := Aside0.mk A500
                                          clear A500
                                          by_cases c51 : t235 > t236
                                          · rw [if_pos c51] at H
                                            have c51b0 : decide (t236 < t235) = true := decide_eq_true c51
                                            clear c51
                                            obtain rfl := Option.some.inj H
                                            have p234 : 0 ≤ (x16_4 : Int) := of_decide_eq_true (by first | (with_reducible assumption) | assumption)
                                            have q234 : x16_4 < (t222.length : Int) := of_decide_eq_true (by first | (with_reducible assumption) | assumption)
                                            obtain ⟨ad234, e234, hx234_0⟩ := Kd.at_int (Kd.R_reads' HO_12.out).2.2 x16_4 p234 q234
                                            cases e234
                                            replace p234 := eq_true p234
                                            replace q234 := eq_true q234
                                            go_wp2_with (first | ((with_reducible refine gate_callee (f := 17) rfl ?_); refine goesL_ (some 126) rfl rfl Try.func17 (by kernel_rfl) rfl #[.slice A1 l1.length c1, .int .i64 (rd t222 x16_4)] rfl (by (try simp only [List.map_toArray, List.map_cons, List.map_nil]); first | done | rfl | (simp only [List.length_drop, List.length_take]; rfl)) ?_; (with_reducible refine (cooperagelaw17_of.calls _ _ l1 (rd t222 x16_4) t235 _ ?side1 ?side2 A49.out).mono ?_); (case side1 => repeat (first | exact (Kd.C_below HR1.out HB.out) | (with_reducible refine Kd.C_alloc ?_ _) | (with_reducible refine Kd.C_drewN ?_ _) | (with_reducible refine Kd.C_drew ?_))); (case side2 => exact HC1.out); rintro e w' ⟨rfl, ⟨nd, rfl⟩⟩; refine ⟨_, rfl, ?_⟩) | ((with_reducible refine gate_callee (f := 17) rfl ?_); refine goesL_ (some 129) rfl rfl Try.func17 (by kernel_rfl) rfl #[.slice A1 l1.length c1, .int .i64 t225] rfl (by (try simp only [List.map_toArray, List.map_cons, List.map_nil]); first | done | rfl | (simp only [List.length_drop, List.length_take]; rfl)) ?_; (with_reducible refine (cooperagelaw17_of.calls _ _ l1 t225 t236 _ ?side1 ?side2 A50.out).mono ?_); (case side1 => repeat (first | exact (Kd.C_below HR1.out (by repeat (first | (with_reducible first | exact HB.out | apply below_alloc | apply pw_below_drewN | apply below_drew1) | exact HB.out))) | (with_reducible refine Kd.C_alloc ?_ _) | (with_reducible refine Kd.C_drewN ?_ _) | (with_reducible refine Kd.C_drew ?_))); (case side2 => exact HC1.out); rintro e w' ⟨rfl, ⟨nd, rfl⟩⟩; refine ⟨_, rfl, ?_⟩))
                                            go_ret
                                            exact ⟨by first | rfl | (simp [errW_none, errW_some] <;> rfl) | (simp [*, errW_none, errW_some] <;> rfl), by repeat (first | (with_reducible first | exact HB.out | apply below_alloc | apply pw_below_drewN | apply below_drew1) | exact HB.out)⟩
                                          · rw [if_neg c51] at H
                                            have c51b0 : decide (t236 < t235) = false := decide_eq_false c51
                                            clear c51
                                            have H' := Aside0.mk H
                                            clear H
                                            have p234 : 0 ≤ (x16_4 : Int) := of_decide_eq_true (by first | (with_reducible assumption) | assumption)
                                            have q234 : x16_4 < (t222.length : Int) := of_decide_eq_true (by first | (with_reducible assumption) | assumption)
                                            obtain ⟨ad234, e234, hx234_0⟩ := Kd.at_int (Kd.R_reads' HO_12.out).2.2 x16_4 p234 q234
                                            cases e234
                                            replace p234 := eq_true p234
                                            replace q234 := eq_true q234
                                            go_wp2_with (first | ((with_reducible refine gate_callee (f := 17) rfl ?_); refine goesL_ (some 126) rfl rfl Try.func17 (by kernel_rfl) rfl #[.slice A1 l1.length c1, .int .i64 (rd t222 x16_4)] rfl (by (try simp only [List.map_toArray, List.map_cons, List.map_nil]); first | done | rfl | (simp only [List.length_drop, List.length_take]; rfl)) ?_; (with_reducible refine (cooperagelaw17_of.calls _ _ l1 (rd t222 x16_4) t235 _ ?side1 ?side2 A49.out).mono ?_); (case side1 => repeat (first | exact (Kd.C_below HR1.out HB.out) | (with_reducible refine Kd.C_alloc ?_ _) | (with_reducible refine Kd.C_drewN ?_ _) | (with_reducible refine Kd.C_drew ?_))); (case side2 => exact HC1.out); rintro e w' ⟨rfl, ⟨nd, rfl⟩⟩; refine ⟨_, rfl, ?_⟩) | ((with_reducible refine gate_callee (f := 17) rfl ?_); refine goesL_ (some 129) rfl rfl Try.func17 (by kernel_rfl) rfl #[.slice A1 l1.length c1, .int .i64 t225] rfl (by (try simp only [List.map_toArray, List.map_cons, List.map_nil]); first | done | rfl | (simp only [List.length_drop, List.length_take]; rfl)) ?_; (with_reducible refine (cooperagelaw17_of.calls _ _ l1 t225 t236 _ ?side1 ?side2 A50.out).mono ?_); (case side1 => repeat (first | exact (Kd.C_below HR1.out (by repeat (first | (with_reducible first | exact HB.out | apply below_alloc | apply pw_below_drewN | apply below_drew1) | exact HB.out))) | (with_reducible refine Kd.C_alloc ?_ _) | (with_reducible refine Kd.C_drewN ?_ _) | (with_reducible refine Kd.C_drew ?_))); (case side2 => exact HC1.out); rintro e w' ⟨rfl, ⟨nd, rfl⟩⟩; refine ⟨_, rfl, ?_⟩))
                                            go_roundg kj36
                                            case measure => have := HJ4.out; have := HK2.out; have := HK3.out; have := HK4.out; have := HJ33.out; have := HJ36.out; omega
                                            case rel => exact ⟨(x14_33), (x15_36), (wrap64 (x16_4 + 1)), (by first | rfl | (simp; done) | (simp [*]; done)), (by first | rfl | (simp; done) | (simp [*]; done)), (by first | rfl | (simp; done) | (simp [*]; done)), H', ⟨by have := HJ4.out; have := HK2.out; have := HK3.out; have := HK4.out; have := HJ33.out; have := HJ36.out; omega⟩, ⟨by (with_reducible repeat (first | apply Kd.R_alloc | apply Kd.R_drewN | apply Kd.R_drew)); exact HO_8.out⟩, ⟨by (with_reducible repeat (first | apply Kd.R_alloc | apply Kd.R_drewN | apply Kd.R_drew)); exact HO_10.out⟩, ⟨by (with_reducible repeat (first | apply Kd.R_alloc | apply Kd.R_drewN | apply Kd.R_drew)); exact HO_12.out⟩, ⟨by repeat (first | (with_reducible first | exact HB.out | apply below_alloc | apply pw_below_drewN | apply below_drew1) | exact HB.out)⟩⟩
                                        · rw [if_neg c48] at H
                                          exact absurd H (by simp)
                                      · rw [if_neg c47] at H
                                        exact absurd H (by simp)
                            · rw [if_neg c33] at H
                              have c33b0 : decide (x16_4 < (t222.length : Int)) = false := decide_eq_false c33
                              clear c33
                              have H' := Aside0.mk H
                              clear H
                              go_wp2
                              go_loopg [17, 18] k4 (fun kq v17 v18 w' => ∃ (x17_5 : List (S43)) (x18_5 : Int), v18 = .int .i64 x18_5 ∧ Aside0 (cooperagelaw17_WaitGives.l3 kq l1 x8_2 x10_3 x11_3 t222 t225 x14_4 x15_4 x17_5 x18_5 = some r) ∧ Aside0 (kq ≤ k4) ∧ Aside0 (Kd.R k40 40 w' w.heap.size (fun _ => True) (.slice Ao30 x8_2.length co30) x8_2) ∧ Aside0 (Kd.R k43 43 w' w.heap.size (fun k_ => some k_ ≠ (v17 : Value).ownBlock) (.slice Ao28 x10_3.length co28) x10_3) ∧ Aside0 (Kd.R (Kd.int .i64) 3 w' w.heap.size (fun _ => True) (.slice Ao32 t222.length co32) t222) ∧ Aside0 (Kd.R k43 43 w' w.heap.size (fun k_ => some k_ ≠ ((.slice Ao28 x10_3.length co28) : Value).ownBlock) v17 x17_5) ∧ Aside0 (Below w.heap.size w w'))
                              case atStart => exact ⟨(([] : List (S43))), (0), (by first | rfl | (simp; done) | (simp [*]; done)), H', ⟨Nat.le_refl _⟩, ⟨by (with_reducible repeat (first | apply Kd.R_alloc | apply Kd.R_drewN | apply Kd.R_drew)); exact HO_8.out⟩, ⟨by (with_reducible repeat (first | apply Kd.R_alloc | apply Kd.R_drewN | apply Kd.R_drew)); exact Kd.R_mono HO_10.out (fun _ hk => (by simp [Value.ownBlock]))⟩, ⟨by (with_reducible repeat (first | apply Kd.R_alloc | apply Kd.R_drewN | apply Kd.R_drew)); exact HO_12.out⟩, ⟨by first | exact Kd.R_nil _ _ _ _ _ | exact Kd.N_nil _ _ _ _ _ | exact Kd.V_nil _ _ _ _ _ | exact Kd.Q_nil _ _ _ _ _ | exact Kd.S_nil _ _ _ _ _⟩, ⟨by repeat (first | (with_reducible first | exact HB.out | apply below_alloc | apply pw_below_drewN | apply below_drew1) | exact HB.out)⟩⟩
                              case round =>
                                clear H'
                                try clear c1
                                try clear c2
                                try clear p2
                                try clear q2
                                try clear hx2
                                try clear c3
                                try clear c4
                                try clear c5
                                try clear p6
                                try clear c7
                                try clear c8
                                try clear c9
                                try clear c10
                                try clear c11
                                try clear c11b0
                                try clear c12
                                try clear c12b0
                                try clear c13
                                try clear c15
                                try clear c17
                                try clear c19
                                try clear c19b0
                                try clear p21
                                try clear q21
                                try clear hx21
                                try clear c22
                                try clear c22b0
                                try clear c22b1
                                try clear c22b2
                                try clear p22
                                try clear q22
                                try clear hx22
                                try clear p23
                                try clear q23
                                try clear hx23
                                try clear c33
                                try clear c33b0
                                try clear c35
                                try clear c36
                                try clear c36b0
                                try clear c38
                                try clear c39
                                try clear c39b0
                                try clear c40
                                try clear c40b0
                                try clear c43
                                try clear c43b0
                                try clear c44
                                try clear c44b0
                                try clear c47
                                try clear c47b0
                                try clear c48
                                try clear c48b0
                                try clear c51
                                try clear c51b0
                                try clear hx212_0
                                try clear hx226_0
                                try clear hx227_0
                                try clear hx230_0
                                try clear hx231_0
                                try clear hx234_0
                                try clear p2
                                try clear p21
                                try clear p212
                                try clear p22
                                try clear p226
                                try clear p227
                                try clear p23
                                try clear p230
                                try clear p231
                                try clear p234
                                try clear p6
                                try clear q2
                                try clear q21
                                try clear q212
                                try clear q22
                                try clear q226
                                try clear q227
                                try clear q23
                                try clear q230
                                try clear q231
                                try clear q234
                                obtain ⟨x17_5, x18_5, rfl, HA, HK5, HO_8, HO_10, HO_12, HO_17, HB⟩ := hrel
                                cases gk with
                                | zero => exact absurd HA.out (by simp [cooperagelaw17_WaitGives.l3])
                                | succ k5 =>
                                  have H := HA.out
                                  clear HA
                                  simp only [cooperagelaw17_WaitGives.l3] at H
                                  by_cases c52 : x18_5 < (x10_3.length : Int)
                                  · rw [if_pos c52] at H
                                    have c52b0 : decide (x18_5 < (x10_3.length : Int)) = true := decide_eq_true c52
                                    clear c52
                                    by_cases c53 : 0 ≤ x18_5
                                    · rw [if_pos c53] at H
                                      have c53b0 : decide (0 ≤ x18_5) = true := decide_eq_true c53
                                      clear c53
                                      by_cases c54 : ((rd_T43 x10_3 x18_5).f0) = t225
                                      · rw [if_pos c54] at H
                                        have c54b0 : (((rd_T43 x10_3 x18_5).f0) == t225) = true := beq_iff_eq.mpr c54
                                        have c54b1 : (((rd_T43 x10_3 x18_5).f0) != t225) = false := bne_eq_false_iff_eq.mpr c54
                                        clear c54
                                        have H' := Aside0.mk H
                                        clear H
                                        have p237 : 0 ≤ (x18_5 : Int) := of_decide_eq_true (by first | (with_reducible assumption) | assumption)
                                        have q237 : x18_5 < (x10_3.length : Int) := of_decide_eq_true (by first | (with_reducible assumption) | assumption)
                                        obtain ⟨ad237, e237, hx237_0, hx237_1⟩ := at_T43 (Kd.R_reads' HO_10.out).2.2 x18_5 p237 q237
                                        cases e237
                                        replace p237 := eq_true p237
                                        replace q237 := eq_true q237
                                        go_wp2
                                        go_roundg k5
                                        case measure => have := HJ4.out; have := HK2.out; have := HK3.out; have := HK4.out; have := HK5.out; omega
                                        case rel => exact ⟨(x17_5), (wrap64 (x18_5 + 1)), (by first | rfl | (simp; done) | (simp [*]; done)), H', ⟨by have := HJ4.out; have := HK2.out; have := HK3.out; have := HK4.out; have := HK5.out; omega⟩, ⟨by (with_reducible repeat (first | apply Kd.R_alloc | apply Kd.R_drewN | apply Kd.R_drew)); exact HO_8.out⟩, ⟨by (with_reducible repeat (first | apply Kd.R_alloc | apply Kd.R_drewN | apply Kd.R_drew)); exact HO_10.out⟩, ⟨by (with_reducible repeat (first | apply Kd.R_alloc | apply Kd.R_drewN | apply Kd.R_drew)); exact HO_12.out⟩, ⟨by (with_reducible repeat (first | apply Kd.R_alloc | apply Kd.R_drewN | apply Kd.R_drew)); exact HO_17.out⟩, ⟨by repeat (first | (with_reducible first | exact HB.out | apply below_alloc | apply pw_below_drewN | apply below_drew1) | exact HB.out)⟩⟩
                                      · rw [if_neg c54] at H
                                        have c54b0 : (((rd_T43 x10_3 x18_5).f0) == t225) = false := beq_eq_false_iff_ne.mpr c54
                                        have c54b1 : (((rd_T43 x10_3 x18_5).f0) != t225) = true := bne_iff_ne.mpr c54
                                        by_cases c55 : x17_5.length < 8796093022208
                                        · rw [if_pos c55] at H
                                          have LMc55 := Aside0.mk c55
                                          clear c55
                                          obtain ⟨y239, hy239⟩ : ∃ y_ : List (S43), y_ = (x17_5 ++ [(⟨(rd_T43 x10_3 x18_5).f0, (rd_T43 x10_3 x18_5).f1⟩ : S43)]) := ⟨_, rfl⟩
                                          replace H : (cooperagelaw17_WaitGives.l3 k5 l1 x8_2 x10_3 x11_3 t222 t225 x14_4 x15_4 y239 (wrap64 (x18_5 + 1))) = some r := by first | (rw [hy239]; with_reducible exact H) | (have H2_ := (Option.bind_some _ _).symm.trans H; rw [hy239]; with_reducible exact H2_) | (have H2_ := (Option.bind_some _ _).symm.trans H; with_reducible exact H2_) | with_reducible exact H | (rw [hy239]; exact H) | exact H
                                          have Ny239 := Aside0.mk hy239
                                          clear hy239
                                          have H' := Aside0.mk H
                                          clear H
                                          have p237 : 0 ≤ (x18_5 : Int) := of_decide_eq_true (by first | (with_reducible assumption) | assumption)
                                          have q237 : x18_5 < (x10_3.length : Int) := of_decide_eq_true (by first | (with_reducible assumption) | assumption)
                                          obtain ⟨ad237, e237, hx237_0, hx237_1⟩ := at_T43 (Kd.R_reads' HO_10.out).2.2 x18_5 p237 q237
                                          cases e237
                                          replace p237 := eq_true p237
                                          replace q237 := eq_true q237
                                          have p238 : 0 ≤ (x18_5 : Int) := of_decide_eq_true (by first | (with_reducible assumption) | assumption)
                                          have q238 : x18_5 < (x10_3.length : Int) := of_decide_eq_true (by first | (with_reducible assumption) | assumption)
                                          obtain ⟨ad238, e238, hx238_0, hx238_1⟩ := at_T43 (Kd.R_reads' HO_10.out).2.2 x18_5 p238 q238
                                          obtain rfl : ad237 = ad238 := (by injection e238)
                                          replace p238 := eq_true p238
                                          replace q238 := eq_true q238
                                          go_wp2_with (first | ((with_reducible refine gate_builtin (b := .append) (xs := #[.tmp 144, .tmp 149]) rfl ?_); (try (refine gate_guard (by rfl) ?_; dsimp only)); at_builtin; refine Kd.R_append k43 (w0 := w) w.heap.size rfl (.tmp 144) (.tmp 149) 22 43 (.agg #[(.int .i64 0), (.int .i64 0)]) 16 rfl Try.underlying22 info43 rfl (by decide) (by omega) u17 x17_5 (⟨(rd_T43 x10_3 x18_5).f0, (rd_T43 x10_3 x18_5).f1⟩ : S43) [.int .i64 ((rd_T43 x10_3 x18_5).f0), .int .i64 ((rd_T43 x10_3 x18_5).f1)] (fun k_ => some k_ ≠ (.slice (some ad237) x10_3.length co28 : Value).ownBlock) (fun _ => False) rfl rfl ?aP (fun _ hk => hk.elim) ?aF ?aO ?aB ?aS ?aL ?_; (case aP => exact k43_mkM _ _ _ (⟨(rd_T43 x10_3 x18_5).f0, (rd_T43 x10_3 x18_5).f1⟩ : S43)); (case aB => exact (by repeat (first | (with_reducible first | exact HB.out | apply below_alloc | apply pw_below_drewN | apply below_drew1) | exact HB.out))); (case aF => exact (fun k_ hk => Kd.fresh' (Kd.R_lt (by (with_reducible repeat (first | apply Kd.R_alloc | apply Kd.R_drewN | apply Kd.R_drew)); exact HO_10.out)) k_ hk)); (case aO => exact (by (with_reducible repeat (first | apply Kd.R_alloc | apply Kd.R_drewN | apply Kd.R_drew)); exact HO_17.out)); (case aS => exact (below_size (by repeat (first | (with_reducible first | exact HB.out | apply below_alloc | apply pw_below_drewN | apply below_drew1) | exact HB.out)))); (case aL => have := LMc55.out; omega); intro v240 w56 ho hb hg hat; rw [← Ny239.out] at ho; have n0_ := Aside0.mk (Kd.R_over' (by (with_reducible repeat (first | apply Kd.R_alloc | apply Kd.R_drewN | apply Kd.R_drew)); exact HO_8.out) (Kd.R_typed (by (with_reducible repeat (first | apply Kd.R_alloc | apply Kd.R_drewN | apply Kd.R_drew)); exact HO_17.out)) (by decide) hg); have n1_ := Aside0.mk (Kd.R_after (ok := (fun _ => True)) (by (with_reducible repeat (first | apply Kd.R_alloc | apply Kd.R_drewN | apply Kd.R_drew)); exact Kd.R_mono HO_10.out (fun _ hk => ⟨trivial, hk⟩)) hg hat); have n2_ := Aside0.mk (Kd.R_over' (by (with_reducible repeat (first | apply Kd.R_alloc | apply Kd.R_drewN | apply Kd.R_drew)); exact HO_12.out) (Kd.R_typed (by (with_reducible repeat (first | apply Kd.R_alloc | apply Kd.R_drewN | apply Kd.R_drew)); exact HO_17.out)) (by decide) hg); have n3_ := Aside0.mk (hb); have n4_ := Aside0.mk (ho); clear HO_8; clear HO_10; clear HO_12; clear HB; clear HO_17; have HO_8 := n0_; have HO_10 := n1_; have HO_12 := n2_; have HB := n3_; have HO241 := n4_; clear n0_ n1_ n2_ n3_ n4_; clear ho hb hg hat))
                                          go_roundg k5
                                          case measure => have := HJ4.out; have := HK2.out; have := HK3.out; have := HK4.out; have := HK5.out; omega
                                          case rel => exact ⟨(y239), (wrap64 (x18_5 + 1)), (by first | rfl | (simp; done) | (simp [*]; done)), H', ⟨by have := HJ4.out; have := HK2.out; have := HK3.out; have := HK4.out; have := HK5.out; omega⟩, ⟨by (with_reducible repeat (first | apply Kd.R_alloc | apply Kd.R_drewN | apply Kd.R_drew)); exact HO_8.out⟩, ⟨by (with_reducible repeat (first | apply Kd.R_alloc | apply Kd.R_drewN | apply Kd.R_drew)); exact Kd.R_mono HO_10.out (fun _ hk => hk.2)⟩, ⟨by (with_reducible repeat (first | apply Kd.R_alloc | apply Kd.R_drewN | apply Kd.R_drew)); exact HO_12.out⟩, ⟨by (with_reducible repeat (first | apply Kd.R_alloc | apply Kd.R_drewN | apply Kd.R_drew)); exact HO241.out⟩, ⟨by repeat (first | (with_reducible first | exact HB.out | apply below_alloc | apply pw_below_drewN | apply below_drew1) | exact HB.out)⟩⟩
                                        · rw [if_neg c55] at H
                                          exact absurd H (by simp)
                                    · rw [if_neg c53] at H
                                      exact absurd H (by simp)
                                  · rw [if_neg c52] at H
                                    have c52b0 : decide (x18_5 < (x10_3.length : Int)) = false := decide_eq_false c52
                                    clear c52
                                    by_cases c57 : x14_4 = true
                                    · subst c57
                                      have H1 : (if x15_4 = true then ((wait_Rings.f x17_5).bind fun t242 => (if (t242.length : Int) ≥ (t222.length : Int) then (some false) else (cooperagelaw17_WaitGives.l1 k5 l1 x8_2 x17_5 (wrap64 (x11_3 + 1))))) else (some false)) = some r := by rw [if_pos rfl] at H; exact H
                                      clear H
                                      have H := H1
                                      clear H1
                                      by_cases c58 : x15_4 = true
                                      · subst c58
                                        have H1 : ((wait_Rings.f x17_5).bind fun t242 => (if (t242.length : Int) ≥ (t222.length : Int) then (some false) else (cooperagelaw17_WaitGives.l1 k5 l1 x8_2 x17_5 (wrap64 (x11_3 + 1))))) = some r := by rw [if_pos rfl] at H; exact H
                                        clear H
                                        have H := H1
                                        clear H1
                                        replace H := Option.bind_eq_some_iff.mp H
                                        obtain ⟨t242, A590, H⟩ := H
                                        replace H : (if (t242.length : Int) ≥ (t222.length : Int) then (some false) else (cooperagelaw17_WaitGives.l1 k5 l1 x8_2 x17_5 (wrap64 (x11_3 + 1)))) = some r := H
                                        have A59 := Aside0.mk A590
                                        clear A590
                                        by_cases c60 : (t242.length : Int) ≥ (t222.length : Int)
                                        · rw [if_pos c60] at H
                                          have c60b0 : decide ((t222.length : Int) ≤ (t242.length : Int)) = true := decide_eq_true c60
                                          have c60b1 : decide (t222.length ≤ t242.length) = true := decide_eq_true (Int.ofNat_le.mp c60)
                                          clear c60
                                          obtain rfl := Option.some.inj H
                                          obtain ⟨Ao61, co61, eo61⟩ := Kd.R_slice HO_17.out
                                          subst eo61
                                          go_wp2_with (first | (go_at_call 13; (with_reducible refine (wait_Rings.calls _ _ x17_5 t242 _ ?side1 ?side2 A59.out).mono ?_); (case side1 => repeat (first | exact (Kd.R_reads' HO_17.out).2.2 | (with_reducible refine Kd.C_alloc ?_ _) | (with_reducible refine Kd.C_drewN ?_ _) | (with_reducible refine Kd.C_drew ?_))); (case side2 => exact (Kd.R_reads' HO_17.out).2.1); rintro e w62 ⟨v243, rfl, ho0, hb⟩; have n0_ := Aside0.mk (Kd.R_below (by (with_reducible repeat (first | apply Kd.R_alloc | apply Kd.R_drewN | apply Kd.R_drew)); exact HO_8.out) hb); have n1_ := Aside0.mk (Kd.R_below (by (with_reducible repeat (first | apply Kd.R_alloc | apply Kd.R_drewN | apply Kd.R_drew)); exact HO_10.out) hb); have n2_ := Aside0.mk (Kd.R_elder' (by (with_reducible repeat (first | apply Kd.R_alloc | apply Kd.R_drewN | apply Kd.R_drew)); exact HO_12.out) (Kd.R_base ho0) hb); have n3_ := Aside0.mk (Kd.R_below (by (with_reducible repeat (first | apply Kd.R_alloc | apply Kd.R_drewN | apply Kd.R_drew)); exact HO_17.out) hb); have n4_ := Aside0.mk (Kd.R_lower (Kd.R_new' ho0 (Kd.R_lt (by (with_reducible repeat (first | apply Kd.R_alloc | apply Kd.R_drewN | apply Kd.R_drew)); exact HO_12.out))) (below_size (by repeat (first | (with_reducible first | exact HB.out | apply below_alloc | apply pw_below_drewN | apply below_drew1) | exact HB.out)))); have n5_ := Aside0.mk (below_step (by repeat (first | (with_reducible first | exact HB.out | apply below_alloc | apply pw_below_drewN | apply below_drew1) | exact HB.out)) hb); clear HO_8; clear HO_10; clear HO_12; clear HO_17; clear HB; have HO_8 := n0_; have HO_10 := n1_; have HO_12 := n2_; have HO_17 := n3_; have HO244 := n4_; have HB := n5_; clear n0_ n1_ n2_ n3_ n4_ n5_; (try clear hb); (try clear hb2); (try clear hk); (try clear hi); (try clear ho0); obtain ⟨Ao63, co63, eo63⟩ := Kd.R_slice HO244.out; subst eo63))
                                          go_ret
                                          exact ⟨by first | rfl | (simp [errW_none, errW_some] <;> rfl) | (simp [*, errW_none, errW_some] <;> rfl), by repeat (first | (with_reducible first | exact HB.out | apply below_alloc | apply pw_below_drewN | apply below_drew1) | exact HB.out)⟩
                                        · rw [if_neg c60] at H
                                          have c60b0 : decide ((t222.length : Int) ≤ (t242.length : Int)) = false := decide_eq_false c60
                                          have c60b1 : decide (t222.length ≤ t242.length) = false := decide_eq_false (fun h => c60 (Int.ofNat_le.mpr h))
                                          clear c60
                                          have H' := Aside0.mk H
                                          clear H
                                          obtain ⟨Ao64, co64, eo64⟩ := Kd.R_slice HO_17.out
                                          subst eo64
                                          go_wp2_with (first | (go_at_call 13; (with_reducible refine (wait_Rings.calls _ _ x17_5 t242 _ ?side1 ?side2 A59.out).mono ?_); (case side1 => repeat (first | exact (Kd.R_reads' HO_17.out).2.2 | (with_reducible refine Kd.C_alloc ?_ _) | (with_reducible refine Kd.C_drewN ?_ _) | (with_reducible refine Kd.C_drew ?_))); (case side2 => exact (Kd.R_reads' HO_17.out).2.1); rintro e w65 ⟨v243, rfl, ho0, hb⟩; have n0_ := Aside0.mk (Kd.R_below (by (with_reducible repeat (first | apply Kd.R_alloc | apply Kd.R_drewN | apply Kd.R_drew)); exact HO_8.out) hb); have n1_ := Aside0.mk (Kd.R_below (by (with_reducible repeat (first | apply Kd.R_alloc | apply Kd.R_drewN | apply Kd.R_drew)); exact HO_10.out) hb); have n2_ := Aside0.mk (Kd.R_elder' (by (with_reducible repeat (first | apply Kd.R_alloc | apply Kd.R_drewN | apply Kd.R_drew)); exact HO_12.out) (Kd.R_base ho0) hb); have n3_ := Aside0.mk (Kd.R_below (by (with_reducible repeat (first | apply Kd.R_alloc | apply Kd.R_drewN | apply Kd.R_drew)); exact HO_17.out) hb); have n4_ := Aside0.mk (Kd.R_lower (Kd.R_new' ho0 (Kd.R_lt (by (with_reducible repeat (first | apply Kd.R_alloc | apply Kd.R_drewN | apply Kd.R_drew)); exact HO_12.out))) (below_size (by repeat (first | (with_reducible first | exact HB.out | apply below_alloc | apply pw_below_drewN | apply below_drew1) | exact HB.out)))); have n5_ := Aside0.mk (below_step (by repeat (first | (with_reducible first | exact HB.out | apply below_alloc | apply pw_below_drewN | apply below_drew1) | exact HB.out)) hb); clear HO_8; clear HO_10; clear HO_12; clear HO_17; clear HB; have HO_8 := n0_; have HO_10 := n1_; have HO_12 := n2_; have HO_17 := n3_; have HO244 := n4_; have HB := n5_; clear n0_ n1_ n2_ n3_ n4_ n5_; (try clear hb); (try clear hb2); (try clear hk); (try clear hi); (try clear ho0); obtain ⟨Ao66, co66, eo66⟩ := Kd.R_slice HO244.out; subst eo66))
                                          go_roundg k5
                                          case measure => have := HJ4.out; have := HK2.out; have := HK3.out; have := HK4.out; have := HK5.out; omega
                                          case rel => exact ⟨(x17_5), (wrap64 (x11_3 + 1)), (by first | rfl | (simp; done) | (simp [*]; done)), H', ⟨by have := HJ4.out; have := HK2.out; have := HK3.out; have := HK4.out; have := HK5.out; omega⟩, ⟨by (with_reducible repeat (first | apply Kd.R_alloc | apply Kd.R_drewN | apply Kd.R_drew)); exact HO_8.out⟩, ⟨by (with_reducible repeat (first | apply Kd.R_alloc | apply Kd.R_drewN | apply Kd.R_drew)); exact Kd.R_mono HO_17.out (fun _ hk => trivial)⟩, ⟨by repeat (first | (with_reducible first | exact HB.out | apply below_alloc | apply pw_below_drewN | apply below_drew1) | exact HB.out)⟩⟩
                                      · replace c58 := Bool.eq_false_iff.mpr c58
                                        subst c58
                                        have H1 : (some false) = some r := by rw [if_neg (show ¬ (false = true) by decide)] at H; exact H
                                        clear H
                                        have H := H1
                                        clear H1
                                        obtain rfl := Option.some.inj H
                                        go_wp2
                                        go_ret
                                        exact ⟨by first | rfl | (simp [errW_none, errW_some] <;> rfl) | (simp [*, errW_none, errW_some] <;> rfl), by repeat (first | (with_reducible first | exact HB.out | apply below_alloc | apply pw_below_drewN | apply below_drew1) | exact HB.out)⟩
                                    · replace c57 := Bool.eq_false_iff.mpr c57
                                      subst c57
                                      have H1 : (some false) = some r := by rw [if_neg (show ¬ (false = true) by decide)] at H; exact H
                                      clear H
                                      have H := H1
                                      clear H1
                                      obtain rfl := Option.some.inj H
                                      go_wp2
                                      go_ret
                                      exact ⟨by first | rfl | (simp [errW_none, errW_some] <;> rfl) | (simp [*, errW_none, errW_some] <;> rfl), by repeat (first | (with_reducible first | exact HB.out | apply below_alloc | apply pw_below_drewN | apply below_drew1) | exact HB.out)⟩
                    · rw [if_neg c19] at H
                      have c19b0 : decide (x11_3 < 100) = false := decide_eq_false c19
                      clear c19
                      obtain rfl := Option.some.inj H
                      go_wp2
                      go_ret
                      exact ⟨by first | rfl | (simp [errW_none, errW_some] <;> rfl) | (simp [*, errW_none, errW_some] <;> rfl), by repeat (first | (with_reducible first | exact HB.out | apply below_alloc | apply pw_below_drewN | apply below_drew1) | exact HB.out)⟩
              · rw [if_neg c15] at H
                exact absurd H (by simp)

end
end Go.Proofs.Ytjaghgelmlcplaa.P
