-- Written by programs of this session (hprint.py over the kit's print, kfix.py, nonc.py, prunetrue.py).
import Derived.Test.YtjaghgelmlcplaaN0
import Derived.Test.YtjaghgelmlcplaaP1
import Derived.Test.YtjaghgelmlcplaaP2
import Derived.Test.YtjaghgelmlcplaaN3
import Derived.Test.YtjaghgelmlcplaaHandWait
namespace Go.Proofs.Ytjaghgelmlcplaa.N
noncomputable section
open Go.Proofs.Ytjaghgelmlcplaa.Hand
open Go.Proofs.Ytjaghgelmlcplaa
open Go.Proofs.Ytjaghgelmlcplaa.P
open Go.RowKit Go.Proofs.YtjaghgelmlcplaaW.PrintWords Go.Proofs.YtjaghgelmlcplaaW.PrintLast Go.Proofs.YtjaghgelmlcplaaW.PrintMore
attribute [local go_sem] max2_int min2_int max_two min_two max_three min_three max_four min_four   -- for this text's walks alone
set_option linter.unusedVariables false
set_option linter.unusedSimpArgs false

/-! ### cooperagelaw17_WaitNone: function 6 -/
mutual
def cooperagelaw17_WaitNone.j0 : Nat → List (S43) → Int → Bool → Bool → Option (Bool)
 | 0, _, _, _, _ => none
 | k + 1, x0, x1, x5, x25 => if x25 = true then (some x5) else (cooperagelaw17_WaitNone.l0 k x0 x1 ([] : List (S43)) 0)
def cooperagelaw17_WaitNone.l0 : Nat → List (S43) → Int → List (S43) → Int → Option (Bool)
 | 0, _, _, _, _ => none
 | k + 1, x0, x1, x8, x9 => if x9 < (x0.length : Int) then (if 0 ≤ x9 then (if ((rd_T43 x0 x9).f0) < ((rd_T43 x0 x9).f1) then ((some (([(⟨(rd_T43 x0 x9).f0, (rd_T43 x0 x9).f1⟩ : S43)] : List (S43)) : List (S43))).bind fun y130 => (if x8.length + y130.length < 8796093022208 then (cooperagelaw17_WaitNone.l0 k x0 x1 (x8 ++ y130) (wrap64 (x9 + 1))) else (none))) else (cooperagelaw17_WaitNone.l0 k x0 x1 x8 (wrap64 (x9 + 1)))) else (none)) else ((wait_Rings.f x8).bind fun t136 => (if (t136.length : Int) = 0 then ((wait_Victim.f x8 ([] : List (S40))).bind fun t139 => (cooperagelaw17_WaitNone.j2 k x1 x8 (t139 != 0))) else (cooperagelaw17_WaitNone.j2 k x1 x8 true)))
def cooperagelaw17_WaitNone.j2 : Nat → Int → List (S43) → Bool → Option (Bool)
 | 0, _, _, _ => none
 | k + 1, x1, x8, x59 => if x59 = true then (some false) else (if (x8.length : Int) = 0 then (some true) else ((cooperagelaw17_pick.f x1 (x8.length : Int)).bind fun t140 => (if 0 ≤ t140 then (if t140 < (x8.length : Int) then ((some (([] : List (S43)) : List (S43))).bind fun y143 => (if y143.length + x8.length < 8796093022208 then ((some (y143 ++ x8 : List (S43))).bind fun y146 => ((some (([(⟨(rd_T43 x8 t140).f1, (rd_T43 x8 t140).f0⟩ : S43)] : List (S43)) : List (S43))).bind fun y149 => (if y146.length + y149.length < 8796093022208 then ((wait_Rings.f (y146 ++ y149)).bind fun t155 => (cooperagelaw17_WaitNone.l1 k x8 t155 0 ((rd_T43 x8 t140).f0) ((rd_T43 x8 t140).f1))) else (none)))) else (none))) else (none)) else (none))))
def cooperagelaw17_WaitNone.l1 : Nat → List (S43) → List Int → Int → Int → Int → Option (Bool)
 | 0, _, _, _, _, _ => none
 | k + 1, x8, x12, x13, x143000, x143001 => if x13 < (x12.length : Int) then (if 0 ≤ x13 then (if (rd x12 x13) < x143000 then (some false) else (if (rd x12 x13) > x143001 then (some false) else (if (rd x12 x13) = x143000 then (cooperagelaw17_WaitNone.l1 k x8 x12 (wrap64 (x13 + 1)) x143000 x143001) else ((wait_Reaches.f x8 x143000 (rd x12 x13)).bind fun t162 => (if t162 = true then (if (rd x12 x13) = x143001 then (cooperagelaw17_WaitNone.l1 k x8 x12 (wrap64 (x13 + 1)) x143000 x143001) else ((wait_Reaches.f x8 (rd x12 x13) x143001).bind fun t165 => (if t165 = true then (cooperagelaw17_WaitNone.l1 k x8 x12 (wrap64 (x13 + 1)) x143000 x143001) else (some false)))) else (some false)))))) else (none)) else (some (decide ((x12.length : Int) ≥ 2)))
end
def cooperagelaw17_WaitNone.f (k : Nat) (l0 : List (S43)) (a1 : Int) : Option (Bool) := (cooperagelaw17_shown.f k).bind fun t122 => ((cooperagelaw17_as.f k l0).bind fun bt123 => (if t122 = true then (cooperagelaw17_WaitNone.j0 k l0 a1 t122 (!bt123.2)) else (cooperagelaw17_WaitNone.j0 k l0 a1 t122 true)))
theorem cooperagelaw17_WaitNone.mono_l : ∀ k, (∀ y0 y1 y2 y3, LeO (cooperagelaw17_WaitNone.j0 k y0 y1 y2 y3) (cooperagelaw17_WaitNone.j0 (k + 1) y0 y1 y2 y3)) ∧ (∀ y0 y1 y2 y3, LeO (cooperagelaw17_WaitNone.l0 k y0 y1 y2 y3) (cooperagelaw17_WaitNone.l0 (k + 1) y0 y1 y2 y3)) ∧ (∀ y0 y1 y2, LeO (cooperagelaw17_WaitNone.j2 k y0 y1 y2) (cooperagelaw17_WaitNone.j2 (k + 1) y0 y1 y2)) ∧ (∀ y0 y1 y2 y3 y4, LeO (cooperagelaw17_WaitNone.l1 k y0 y1 y2 y3 y4) (cooperagelaw17_WaitNone.l1 (k + 1) y0 y1 y2 y3 y4))
 | 0 => ⟨fun _ _ _ _ r h => by simp [cooperagelaw17_WaitNone.j0] at h, fun _ _ _ _ r h => by simp [cooperagelaw17_WaitNone.l0] at h, fun _ _ _ r h => by simp [cooperagelaw17_WaitNone.j2] at h, fun _ _ _ _ _ r h => by simp [cooperagelaw17_WaitNone.l1] at h⟩
 | k + 1 => by
  obtain ⟨ih0, ih1, ih2, ih3⟩ := cooperagelaw17_WaitNone.mono_l k
  refine ⟨?_, ?_, ?_, ?_⟩
  ·
   intro y0 y1 y2 y3
   unfold cooperagelaw17_WaitNone.j0
   repeat' first
   | (with_reducible exact ih0 _ _ _ _)
   | (with_reducible exact ih1 _ _ _ _)
   | (with_reducible exact ih2 _ _ _)
   | (with_reducible exact ih3 _ _ _ _ _)
   | (with_reducible exact cooperagelaw17_as.mono _ _)
   | (with_reducible exact cooperagelaw17_shown.mono _)
   | (with_reducible exact LeO.refl _)
   | (with_reducible exact LeO.none _)
   | (with_reducible refine LeO.ite ?_ ?_)
   | (with_reducible refine LeO.bind ?_ (fun _ => ?_))
   | exact ih0 _ _ _ _
   | exact ih1 _ _ _ _
   | exact ih2 _ _ _
   | exact ih3 _ _ _ _ _
   | exact cooperagelaw17_as.mono _ _
   | exact cooperagelaw17_shown.mono _
   | exact LeO.none _
   | refine LeO.ite ?_ ?_
   | refine LeO.bind ?_ (fun _ => ?_)
  ·
   intro y0 y1 y2 y3
   unfold cooperagelaw17_WaitNone.l0
   repeat' first
   | (with_reducible exact ih0 _ _ _ _)
   | (with_reducible exact ih1 _ _ _ _)
   | (with_reducible exact ih2 _ _ _)
   | (with_reducible exact ih3 _ _ _ _ _)
   | (with_reducible exact cooperagelaw17_as.mono _ _)
   | (with_reducible exact cooperagelaw17_shown.mono _)
   | (with_reducible exact LeO.refl _)
   | (with_reducible exact LeO.none _)
   | (with_reducible refine LeO.ite ?_ ?_)
   | (with_reducible refine LeO.bind ?_ (fun _ => ?_))
   | exact ih0 _ _ _ _
   | exact ih1 _ _ _ _
   | exact ih2 _ _ _
   | exact ih3 _ _ _ _ _
   | exact cooperagelaw17_as.mono _ _
   | exact cooperagelaw17_shown.mono _
   | exact LeO.none _
   | refine LeO.ite ?_ ?_
   | refine LeO.bind ?_ (fun _ => ?_)
  ·
   intro y0 y1 y2
   unfold cooperagelaw17_WaitNone.j2
   repeat' first
   | (with_reducible exact ih0 _ _ _ _)
   | (with_reducible exact ih1 _ _ _ _)
   | (with_reducible exact ih2 _ _ _)
   | (with_reducible exact ih3 _ _ _ _ _)
   | (with_reducible exact cooperagelaw17_as.mono _ _)
   | (with_reducible exact cooperagelaw17_shown.mono _)
   | (with_reducible exact LeO.refl _)
   | (with_reducible exact LeO.none _)
   | (with_reducible refine LeO.ite ?_ ?_)
   | (with_reducible refine LeO.bind ?_ (fun _ => ?_))
   | exact ih0 _ _ _ _
   | exact ih1 _ _ _ _
   | exact ih2 _ _ _
   | exact ih3 _ _ _ _ _
   | exact cooperagelaw17_as.mono _ _
   | exact cooperagelaw17_shown.mono _
   | exact LeO.none _
   | refine LeO.ite ?_ ?_
   | refine LeO.bind ?_ (fun _ => ?_)
  ·
   intro y0 y1 y2 y3 y4
   unfold cooperagelaw17_WaitNone.l1
   repeat' first
   | (with_reducible exact ih0 _ _ _ _)
   | (with_reducible exact ih1 _ _ _ _)
   | (with_reducible exact ih2 _ _ _)
   | (with_reducible exact ih3 _ _ _ _ _)
   | (with_reducible exact cooperagelaw17_as.mono _ _)
   | (with_reducible exact cooperagelaw17_shown.mono _)
   | (with_reducible exact LeO.refl _)
   | (with_reducible exact LeO.none _)
   | (with_reducible refine LeO.ite ?_ ?_)
   | (with_reducible refine LeO.bind ?_ (fun _ => ?_))
   | exact ih0 _ _ _ _
   | exact ih1 _ _ _ _
   | exact ih2 _ _ _
   | exact ih3 _ _ _ _ _
   | exact cooperagelaw17_as.mono _ _
   | exact cooperagelaw17_shown.mono _
   | exact LeO.none _
   | refine LeO.ite ?_ ?_
   | refine LeO.bind ?_ (fun _ => ?_)
theorem cooperagelaw17_WaitNone.mono : ∀ a0 a1 k, LeO (cooperagelaw17_WaitNone.f k a0 a1) (cooperagelaw17_WaitNone.f (k + 1) a0 a1) := by
 intro a0 a1 k
 obtain ⟨ih0, ih1, ih2, ih3⟩ := cooperagelaw17_WaitNone.mono_l k
 unfold cooperagelaw17_WaitNone.f
 repeat' first
   | (with_reducible exact ih0 _ _ _ _)
   | (with_reducible exact ih1 _ _ _ _)
   | (with_reducible exact ih2 _ _ _)
   | (with_reducible exact ih3 _ _ _ _ _)
   | (with_reducible exact cooperagelaw17_as.mono _ _)
   | (with_reducible exact cooperagelaw17_shown.mono _)
   | (with_reducible exact LeO.refl _)
   | (with_reducible exact LeO.none _)
   | (with_reducible refine LeO.ite ?_ ?_)
   | (with_reducible refine LeO.bind ?_ (fun _ => ?_))
   | exact ih0 _ _ _ _
   | exact ih1 _ _ _ _
   | exact ih2 _ _ _
   | exact ih3 _ _ _ _ _
   | exact cooperagelaw17_as.mono _ _
   | exact cooperagelaw17_shown.mono _
   | exact LeO.none _
   | refine LeO.ite ?_ ?_
   | refine LeO.bind ?_ (fun _ => ?_)
def cooperagelaw17_WaitNone.T9 : Bool × List (List Nat × List Nat) := (true, [([], []), ([], []), ([0, 1], [0, 1]), ([2], [2]), ([3], [3]), ([], []), ([], []), ([5, 6], [5, 6]), ([7], [7]), ([8], [8]), ([4, 9], [4, 9])])
def cooperagelaw17_WaitNone.B9 : List Nat := [0, 0, 3, 7, 15, 0, 0, 96, 224, 480, 1023]
theorem cooperagelaw17_WaitNone.tab9 : rtab .any (opsOf Try.f6 9) = cooperagelaw17_WaitNone.T9 := by kernel_rfl
theorem cooperagelaw17_WaitNone.bits9 : waitsOk cooperagelaw17_WaitNone.T9.2 cooperagelaw17_WaitNone.B9 = true := by kernel_rfl
def cooperagelaw17_WaitNone.T16 : Bool × List (List Nat × List Nat) := (true, [([], []), ([], []), ([0, 1], [0, 1]), ([], []), ([3], [3]), ([], []), ([5], [5]), ([4, 6], [4, 6]), ([7], [7]), ([2, 8, 2], [2, 8]), ([9, 9, 0, 1, 2, 3, 4, 5, 6, 7, 8, 9], [9])])
def cooperagelaw17_WaitNone.B16 : List Nat := [0, 0, 3, 0, 8, 0, 32, 120, 248, 511, 1023]
theorem cooperagelaw17_WaitNone.tab16 : rtab .any (opsOf Try.f6 16) = cooperagelaw17_WaitNone.T16 := by kernel_rfl
theorem cooperagelaw17_WaitNone.bits16 : waitsOk cooperagelaw17_WaitNone.T16.2 cooperagelaw17_WaitNone.B16 = true := by kernel_rfl
def cooperagelaw17_WaitNone.T21 : Bool × List (List Nat × List Nat) := (true, [([], []), ([], []), ([0, 1], [0, 1]), ([2], [2]), ([], []), ([4], [4]), ([3, 5], [3, 5]), ([6], [6]), ([7], [7]), ([7], [7]), ([8, 9, 7], [7, 8, 9]), ([10, 7], [7, 10]), ([7], [7]), ([12, 7], [7, 12]), ([11, 13, 7], [7, 11, 13]), ([7, 14], [7, 14]), ([15, 7], [15]), ([16], [16]), ([16], [16]), ([17, 18, 16], [16, 17, 18]), ([19, 16], [16, 19]), ([16], [16]), ([21, 16], [16, 21]), ([20, 22, 16], [16, 20, 22]), ([23, 16, 16], [16, 23]), ([24], [24]), ([24], [24]), ([26, 24], [24, 26]), ([24], [24]), ([24], [24]), ([28, 29, 24], [24, 28, 29]), ([30, 24], [24, 30]), ([25, 27, 31, 24, 24], [24, 25, 27, 31]), ([32, 24], [24, 32]), ([33, 32, 24], [24, 33]), ([34], [34]), ([34], [34]), ([35, 36, 34], [34, 35, 36]), ([37, 34], [34, 37]), ([34], [34]), ([39, 34], [34, 39]), ([38, 40, 34], [34, 38, 40]), ([41, 34, 34], [34, 41]), ([42], [42]), ([42], [42]), ([42], [42]), ([44, 45, 42], [42, 44, 45]), ([46, 42], [42, 46]), ([42], [42]), ([48, 42], [42, 48]), ([43, 47, 49, 42, 42], [42, 43, 47, 49]), ([50, 42], [42, 50]), ([42, 51, 34], [34, 42, 51]), ([34, 52, 24], [24, 34, 52]), ([24, 53, 16], [16, 24, 53]), ([16, 54], [16, 54])])
def cooperagelaw17_WaitNone.B21 : List Nat := [0, 0, 3, 7, 0, 16, 63, 127, 255, 255, 1023, 2047, 255, 4351, 16383, 32767, 65535, 131071, 131071, 524287, 1048575, 131071, 2228223, 8388607, 16777215, 33554431, 33554431, 100663295, 33554431, 33554431, 838860799, 1912602623, 4294967295, 8589934591, 17179869183, 34359738367, 34359738367, 137438953471, 274877906943, 34359738367, 584115552255, 2199023255551, 4398046511103, 8796093022207, 8796093022207, 8796093022207, 61572651155455, 131941395333119, 8796093022207, 290271069732863, 1125899906842623, 2251799813685247, 4503599627370495, 9007199254740991, 18014398509481983, 36028797018963967]
theorem cooperagelaw17_WaitNone.tab21 : rtab .any (opsOf Try.f6 21) = cooperagelaw17_WaitNone.T21 := by kernel_rfl
theorem cooperagelaw17_WaitNone.bits21 : waitsOk cooperagelaw17_WaitNone.T21.2 cooperagelaw17_WaitNone.B21 = true := by kernel_rfl
end
end Go.Proofs.Ytjaghgelmlcplaa.N
