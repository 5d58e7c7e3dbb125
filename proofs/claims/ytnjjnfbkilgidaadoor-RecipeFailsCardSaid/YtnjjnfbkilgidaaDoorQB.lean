import Derived.Test.YtnjjnfbkilgidaaDoorProg
import Derived.Below
import Derived.Deep.Draws
import Derived.Deep.AppendLies
import Derived.Maps.AppendAt
import Derived.OwnWalk
import Derived.Laws.BytesArg
import Derived.Laws.MakeOwn
import Derived.Laws.OwnMore
import Derived.Deep.OwnRows
import Derived.Tactics
import Derived.Lib.ConvBytes
import Derived.Laws.Slices
import Derived.WalkKit
import Derived.KernelRfl
import Derived.RowKit3
import Derived.Deep.LoopGhost
import Derived.Deep.QuietTactic
import Derived.BigQuiet
import Derived.WideLaws
import Derived.Deep.DeepCutAuto
import Derived.Deep.CutBlock
import Derived.Deep.RegionHeld3
import Derived.Laws.Rows
import Derived.Lib.AppendStr
import Derived.ArgAppend
import Derived.Laws.IdiomCopy
import Derived.OrdersHeld
import Derived.Laws.BitsLemmas
import Derived.RowKit
import Derived.Test.YtnjjnfbkilgidaaDoorWWords
import Derived.Test.YtnjjnfbkilgidaaDoorWLast
import Derived.Test.YtnjjnfbkilgidaaDoorWTab
import Derived.Test.YtnjjnfbkilgidaaDoorWFour
import Derived.Test.YtnjjnfbkilgidaaDoorWQPut
import Derived.Test.YtnjjnfbkilgidaaDoorWApart
import Derived.Test.YtnjjnfbkilgidaaDoorWArr
import Derived.Test.YtnjjnfbkilgidaaDoorWZeros
import Derived.Test.YtnjjnfbkilgidaaDoorWFoot
import Derived.Test.YtnjjnfbkilgidaaDoorWKept
import Derived.Test.YtnjjnfbkilgidaaDoorWShare
import Derived.Test.YtnjjnfbkilgidaaDoorWN
import Derived.Test.YtnjjnfbkilgidaaDoorWFootNe
import Derived.Test.YtnjjnfbkilgidaaDoorWAt
import Derived.Test.YtnjjnfbkilgidaaDoorWEqStruct
import Derived.Test.YtnjjnfbkilgidaaDoorWRepsOne
import Derived.Test.YtnjjnfbkilgidaaDoorWInv
import Derived.Test.YtnjjnfbkilgidaaDoorWInvWords
import Derived.Test.YtnjjnfbkilgidaaDoorWGuard
import Derived.Test.YtnjjnfbkilgidaaDoorWNEv
import Derived.Test.YtnjjnfbkilgidaaDoorWMore
import Derived.Test.YtnjjnfbkilgidaaDoorWSized
import Derived.Test.YtnjjnfbkilgidaaDoorQA
import Derived.RangeFuncRecord
import Derived.Lib.Builder
import Derived.Lib.Hide
import Derived.Deep.RegionWith
import Derived.Maps.RangeWalk
import Derived.Maps.OwnSet
import Derived.Maps.OwnOps
import Derived.Maps.Own
import Derived.Sort.KeysCollected
import Derived.StringKeys
import Derived.OwnWalkIn
import Derived.LoopN
import Derived.RegionTactic
import Derived.BigRegion
import Derived.Laws.IdiomStrings
import Derived.RangeFuncWrites
import Derived.RangeFuncBox
import Derived.RangeFuncLeaves
import Derived.RangeFuncCalls
import Derived.Shelf.Abstract
import Derived.Shelf.RegionOpen
import Derived.TacticsInMore
import Derived.LoopNIn
import Derived.LoopIn
import Derived.Sort.OwnSorted
import Derived.Sort.OwnSortedInts
import Derived.Shelf.Strings.SlTrimAscii
import Derived.Laws.RangeAny
import Derived.Lib.DecodeN
import Derived.Outline
import Derived.Stop.FmtQuoteTie
import Derived.Scope
import Derived.RangeFuncOwn
/- Several texts of this session in one: the walks of the functions that the laws reach, and what they tell. -/
namespace Go.Proofs.YtnjjnfbkilgidaaDoor.F
open Go.RowKit Go.Proofs.YtnjjnfbkilgidaaDoorW.PrintWords Go.Proofs.YtnjjnfbkilgidaaDoorW.PrintLast Go.Proofs.YtnjjnfbkilgidaaDoorW.PrintMore
attribute [local go_sem] max2_int min2_int max_two min_two max_three min_three max_four min_four   -- for this text's walks alone
set_option linter.unusedVariables false
set_option linter.unusedSimpArgs false



def errW : Option Int → Value
  | none => .nilIface
  | some c => .iface 0 (.int .i64 c)
theorem errW_none : errW none = .nilIface := rfl
theorem errW_some (c : Int) : errW (some c) = .iface 0 (.int .i64 c) := rfl

-- the values' own types
/-! #### struct type 31 -/
structure S31 where
  f0 : ByteArray
  f1 : ByteArray
def z31 : S31 := ⟨(⟨#[]⟩ : ByteArray), (⟨#[]⟩ : ByteArray)⟩
def k31 : Kd S31 := Kd.iso (Kd.pair Kd.string Kd.string) (fun x : S31 => (x.f0, x.f1))
theorem k31_open {w : World} {x : S31} {cs : List Value} (h : k31.K w x cs) : cs = [.string x.f0, .string x.f1] := by
  obtain ⟨_, _, rfl, rfl, rfl⟩ := h
  exact rfl
theorem k31_openM {w : World} {base : Nat} {ok : Nat → Prop} {x : S31} {cs : List Value} (h : k31.M w base ok x cs) : cs = [.string x.f0, .string x.f1] := by
  obtain ⟨_, _, rfl, rfl, rfl⟩ := h
  exact rfl
theorem k31_mk (w : World) (x : S31)  : k31.K w x [.string x.f0, .string x.f1] := ⟨[.string x.f0], [.string x.f1], rfl, rfl, rfl⟩
theorem k31_mkM (w : World) (base : Nat) (ok : Nat → Prop) (x : S31)  : k31.M w base ok x [.string x.f0, .string x.f1] := ⟨[.string x.f0], [.string x.f1], rfl, rfl, rfl⟩
def rd_T31 (xs : List S31) (i : Int) : S31 := xs.getD i.toNat z31
theorem at_T31 {w : World} {A : Option Addr} {n : Nat} {xs : List S31} (h : Kd.C k31 w A n xs) (i : Int) (h0 : 0 ≤ i) (h1 : i < n) : ∃ ad , A = some ad ∧ w.cell? (ad.add (i.toNat * 2)) = some (.string (rd_T31 xs i).f0) ∧ w.cell? ⟨(ad.add (i.toNat * 2)).block, (ad.add (i.toNat * 2)).off + 1, none⟩ = some (.string (rd_T31 xs i).f1) := by
  obtain ⟨ad, c, e, _, hK, hc0⟩ := Kd.C_get h z31 i h0 h1
  have hc : ∀ j u, c[j]? = some u → w.cell? (ad.add (i.toNat * 2 + j)) = some u := hc0
  obtain rfl := k31_open hK
  exact ⟨ad, e, hc 0 _ rfl, by rw [← add_field _ _ 1 (by omega)]; exact hc 1 _ rfl⟩

end Go.Proofs.YtnjjnfbkilgidaaDoor.F
/- Nothing yet: the name of what follows. -/
namespace Go.Proofs.YtnjjnfbkilgidaaDoor.Fr
theorem begun : True := trivial
end Go.Proofs.YtnjjnfbkilgidaaDoor.Fr
namespace Go.Proofs.YtnjjnfbkilgidaaDoor.F
open Go.Proofs.YtnjjnfbkilgidaaDoor.Fr
open Go.Proofs.YtnjjnfbkilgidaaDoor
open Go.RowKit Go.Proofs.YtnjjnfbkilgidaaDoorW.PrintWords Go.Proofs.YtnjjnfbkilgidaaDoorW.PrintLast Go.Proofs.YtnjjnfbkilgidaaDoorW.PrintMore
attribute [local go_sem] max2_int min2_int max_two min_two max_three min_three max_four min_four   -- for this text's walks alone
set_option linter.unusedVariables false
set_option linter.unusedSimpArgs false

/-! ### text_plain: function 42 -/
mutual
def text_plain.j0 : Nat → Int → Bool → Option (Bool)
  | 0, _, _ => none
  | k + 1, x0, x3 => if x3 = true then (some true) else (if x0 ≥ 97 then (text_plain.j1 k x0 (decide (x0 ≤ 122))) else (text_plain.j1 k x0 false))
def text_plain.j1 : Nat → Int → Bool → Option (Bool)
  | 0, _, _ => none
  | k + 1, x0, x3 => if x3 = true then (some true) else (if x0 ≥ 48 then (if x0 ≤ 57 then (some true) else (if x0 = 95 then (some true) else (if x0 = 45 then (some true) else (if x0 = 46 then (some true) else (if x0 = 47 then (some true) else (some (x0 == 43))))))) else (if x0 = 95 then (some true) else (if x0 = 45 then (some true) else (if x0 = 46 then (some true) else (if x0 = 47 then (some true) else (some (x0 == 43)))))))
end
def text_plain.f (k : Nat) (a0 : Int) : Option (Bool) := if a0 ≥ 65 then (text_plain.j0 k a0 (decide (a0 ≤ 90))) else (text_plain.j0 k a0 false)
theorem text_plain.mono_l : ∀ k, (∀ y0 y1, LeO (text_plain.j0 k y0 y1) (text_plain.j0 (k + 1) y0 y1)) ∧ (∀ y0 y1, LeO (text_plain.j1 k y0 y1) (text_plain.j1 (k + 1) y0 y1))
  | 0 => ⟨fun _ _ r h => by simp [text_plain.j0] at h, fun _ _ r h => by simp [text_plain.j1] at h⟩
  | k + 1 => by
    obtain ⟨ih0, ih1⟩ := text_plain.mono_l k
    refine ⟨?_, ?_⟩
    · intro y0 y1
      unfold text_plain.j0
      repeat' first
      | (with_reducible exact ih0 _ _)
      | (with_reducible exact ih1 _ _)
      | (with_reducible exact LeO.refl _)
      | (with_reducible exact LeO.none _)
      | (with_reducible refine LeO.ite ?_ ?_)
      | (with_reducible refine LeO.bind ?_ (fun _ => ?_))
      | exact ih0 _ _
      | exact ih1 _ _
      | exact LeO.none _
      | refine LeO.ite ?_ ?_
      | refine LeO.bind ?_ (fun _ => ?_)
    · intro y0 y1
      unfold text_plain.j1
      repeat' first
      | (with_reducible exact ih0 _ _)
      | (with_reducible exact ih1 _ _)
      | (with_reducible exact LeO.refl _)
      | (with_reducible exact LeO.none _)
      | (with_reducible refine LeO.ite ?_ ?_)
      | (with_reducible refine LeO.bind ?_ (fun _ => ?_))
      | exact ih0 _ _
      | exact ih1 _ _
      | exact LeO.none _
      | refine LeO.ite ?_ ?_
      | refine LeO.bind ?_ (fun _ => ?_)
theorem text_plain.mono : ∀ a0 k, LeO (text_plain.f k a0) (text_plain.f (k + 1) a0) := by
  intro a0 k
  obtain ⟨ih0, ih1⟩ := text_plain.mono_l k
  unfold text_plain.f
  repeat' first
      | (with_reducible exact ih0 _ _)
      | (with_reducible exact ih1 _ _)
      | (with_reducible exact LeO.refl _)
      | (with_reducible exact LeO.none _)
      | (with_reducible refine LeO.ite ?_ ?_)
      | (with_reducible refine LeO.bind ?_ (fun _ => ?_))
      | exact ih0 _ _
      | exact ih1 _ _
      | exact LeO.none _
      | refine LeO.ite ?_ ?_
      | refine LeO.bind ?_ (fun _ => ?_)
set_option maxHeartbeats 8000000 in
set_option maxRecDepth 100000 in
theorem text_plain.calls (k : Nat) (a0 : Int) (r : Bool) (w : World) (h : text_plain.f k a0 = some r) :
    Calls Tryd.prog 42 #[.int .u8 a0] w fun e w' => e = .returned (.bool r) ∧ Drawn0 w w' := by
  have H : (if a0 ≥ 65 then (text_plain.j0 k a0 (decide (a0 ≤ 90))) else (text_plain.j0 k a0 false)) = some r := h
  clear h
  have HC2 := Aside0.mk H
  clear H
  go_enter Tryd.func42, Tryd.ntmps42
  go_upto_region 1 with (fail)
  go_cut [3] (fun v3 wc => ∃ (kq : Nat) (x3_1 : Bool), v3 = .bool x3_1 ∧ Aside0 (text_plain.j0 kq a0 x3_1 = some r) ∧ Aside0 (kq ≤ k) ∧ Drawn0 w wc)
  case first =>
    have H := HC2.out
    clear HC2
    by_cases c3 : a0 ≥ 65
    · rw [if_pos c3] at H
      have c3b0 : decide (65 ≤ a0) = true := decide_eq_true c3
      clear c3
      (first | rw [c3b0] | (simp only [i64_w, i32_w]; rw [c3b0]) | skip)
      have H' := Aside0.mk H
      clear H
      go_wp2
      go_meet
      case rel => exact ⟨_, (decide (a0 ≤ 90)), (by first | rfl | (simp; done) | (simp [*]; done)), H', ⟨by first | omega | exact Nat.le_refl _⟩, by repeat (first | exact Drawn0.refl _ | apply Drawn0.step)⟩
    · rw [if_neg c3] at H
      have c3b0 : decide (65 ≤ a0) = false := decide_eq_false c3
      clear c3
      (first | rw [c3b0] | (simp only [i64_w, i32_w]; rw [c3b0]) | skip)
      have H' := Aside0.mk H
      clear H
      go_wp2
      go_meet
      case rel => exact ⟨_, (false), (by first | rfl | (simp; done) | (simp [*]; done)), H', ⟨by first | omega | exact Nat.le_refl _⟩, by repeat (first | exact Drawn0.refl _ | apply Drawn0.step)⟩
  case rest =>
    clear HC2
    try clear p2
    try clear c3
    try clear c3b0
    obtain ⟨kq, x3_1, rfl, HA, HJ1, ⟨mc1, rfl⟩⟩ := hcut
    cases kq with
    | zero => exact absurd HA.out (by simp [text_plain.j0])
    | succ kj1 =>
      have H := HA.out
      clear HA
      simp only [text_plain.j0] at H
      by_cases c4 : x3_1 = true
      · subst c4
        have H1 : (some true) = some r := by rw [if_pos rfl] at H; exact H
        clear H
        have H := H1
        clear H1
        obtain rfl := Option.some.inj H
        go_wp2
        go_ret
        exact ⟨by first | rfl | (simp; done) | (simp [*]; done), by repeat (first | exact Drawn0.refl _ | apply Drawn0.step)⟩
      · replace c4 := Bool.eq_false_iff.mpr c4
        subst c4
        have H1 : (if a0 ≥ 97 then (text_plain.j1 kj1 a0 (decide (a0 ≤ 122))) else (text_plain.j1 kj1 a0 false)) = some r := by rw [if_neg (show ¬ (false = true) by decide)] at H; exact H
        clear H
        have H := H1
        clear H1
        have HC5 := Aside0.mk H
        clear H
        go_upto_region 2 with (fail)
        go_cut [3] (fun v3 wc => ∃ (kq : Nat) (x3_4 : Bool), v3 = .bool x3_4 ∧ Aside0 (text_plain.j1 kq a0 x3_4 = some r) ∧ Aside0 (kq ≤ kj1) ∧ Drawn0 w wc)
        case first =>
          have H := HC5.out
          clear HC5
          by_cases c6 : a0 ≥ 97
          · rw [if_pos c6] at H
            have c6b0 : decide (97 ≤ a0) = true := decide_eq_true c6
            clear c6
            (first | rw [c6b0] | (simp only [i64_w, i32_w]; rw [c6b0]) | skip)
            have H' := Aside0.mk H
            clear H
            go_wp2
            go_meet
            case rel => exact ⟨_, (decide (a0 ≤ 122)), (by first | rfl | (simp; done) | (simp [*]; done)), H', ⟨by have := HJ1.out; first | omega | exact Nat.le_refl _⟩, by repeat (first | exact Drawn0.refl _ | apply Drawn0.step)⟩
          · rw [if_neg c6] at H
            have c6b0 : decide (97 ≤ a0) = false := decide_eq_false c6
            clear c6
            (first | rw [c6b0] | (simp only [i64_w, i32_w]; rw [c6b0]) | skip)
            have H' := Aside0.mk H
            clear H
            go_wp2
            go_meet
            case rel => exact ⟨_, (false), (by first | rfl | (simp; done) | (simp [*]; done)), H', ⟨by have := HJ1.out; first | omega | exact Nat.le_refl _⟩, by repeat (first | exact Drawn0.refl _ | apply Drawn0.step)⟩
        case rest =>
          clear HC5
          try clear c1
          try clear p2
          try clear c3
          try clear c3b0
          try clear c4
          try clear c6
          try clear c6b0
          try clear p2
          obtain ⟨kq, x3_4, rfl, HA, HJ4, ⟨mc4, rfl⟩⟩ := hcut
          cases kq with
          | zero => exact absurd HA.out (by simp [text_plain.j1])
          | succ kj4 =>
            have H := HA.out
            clear HA
            simp only [text_plain.j1] at H
            by_cases c7 : x3_4 = true
            · subst c7
              have H1 : (some true) = some r := by rw [if_pos rfl] at H; exact H
              clear H
              have H := H1
              clear H1
              obtain rfl := Option.some.inj H
              go_wp2
              go_ret
              exact ⟨by first | rfl | (simp; done) | (simp [*]; done), by repeat (first | exact Drawn0.refl _ | apply Drawn0.step)⟩
            · replace c7 := Bool.eq_false_iff.mpr c7
              subst c7
              have H1 : (if a0 ≥ 48 then (if a0 ≤ 57 then (some true) else (if a0 = 95 then (some true) else (if a0 = 45 then (some true) else (if a0 = 46 then (some true) else (if a0 = 47 then (some true) else (some (a0 == 43))))))) else (if a0 = 95 then (some true) else (if a0 = 45 then (some true) else (if a0 = 46 then (some true) else (if a0 = 47 then (some true) else (some (a0 == 43))))))) = some r := by rw [if_neg (show ¬ (false = true) by decide)] at H; exact H
              clear H
              have H := H1
              clear H1
              by_cases c8 : a0 ≥ 48
              · rw [if_pos c8] at H
                have c8b0 : decide (48 ≤ a0) = true := decide_eq_true c8
                clear c8
                by_cases c9 : a0 ≤ 57
                · rw [if_pos c9] at H
                  have c9b0 : decide (a0 ≤ 57) = true := decide_eq_true c9
                  clear c9
                  obtain rfl := Option.some.inj H
                  go_wp2
                  go_ret
                  exact ⟨by first | rfl | (simp; done) | (simp [*]; done), by repeat (first | exact Drawn0.refl _ | apply Drawn0.step)⟩
                · rw [if_neg c9] at H
                  have c9b0 : decide (a0 ≤ 57) = false := decide_eq_false c9
                  clear c9
                  by_cases c10 : a0 = 95
                  · rw [if_pos c10] at H
                    have c10b0 : (a0 == 95) = true := beq_iff_eq.mpr c10
                    have c10b1 : (a0 != 95) = false := bne_eq_false_iff_eq.mpr c10
                    clear c10
                    obtain rfl := Option.some.inj H
                    go_wp2
                    go_ret
                    exact ⟨by first | rfl | (simp; done) | (simp [*]; done), by repeat (first | exact Drawn0.refl _ | apply Drawn0.step)⟩
                  · rw [if_neg c10] at H
                    have c10b0 : (a0 == 95) = false := beq_eq_false_iff_ne.mpr c10
                    have c10b1 : (a0 != 95) = true := bne_iff_ne.mpr c10
                    by_cases c11 : a0 = 45
                    · rw [if_pos c11] at H
                      have c11b0 : (a0 == 45) = true := beq_iff_eq.mpr c11
                      have c11b1 : (a0 != 45) = false := bne_eq_false_iff_eq.mpr c11
                      clear c11
                      obtain rfl := Option.some.inj H
                      go_wp2
                      go_ret
                      exact ⟨by first | rfl | (simp; done) | (simp [*]; done), by repeat (first | exact Drawn0.refl _ | apply Drawn0.step)⟩
                    · rw [if_neg c11] at H
                      have c11b0 : (a0 == 45) = false := beq_eq_false_iff_ne.mpr c11
                      have c11b1 : (a0 != 45) = true := bne_iff_ne.mpr c11
                      by_cases c12 : a0 = 46
                      · rw [if_pos c12] at H
                        have c12b0 : (a0 == 46) = true := beq_iff_eq.mpr c12
                        have c12b1 : (a0 != 46) = false := bne_eq_false_iff_eq.mpr c12
                        clear c12
                        obtain rfl := Option.some.inj H
                        go_wp2
                        go_ret
                        exact ⟨by first | rfl | (simp; done) | (simp [*]; done), by repeat (first | exact Drawn0.refl _ | apply Drawn0.step)⟩
                      · rw [if_neg c12] at H
                        have c12b0 : (a0 == 46) = false := beq_eq_false_iff_ne.mpr c12
                        have c12b1 : (a0 != 46) = true := bne_iff_ne.mpr c12
                        by_cases c13 : a0 = 47
                        · rw [if_pos c13] at H
                          have c13b0 : (a0 == 47) = true := beq_iff_eq.mpr c13
                          have c13b1 : (a0 != 47) = false := bne_eq_false_iff_eq.mpr c13
                          clear c13
                          obtain rfl := Option.some.inj H
                          go_wp2
                          go_ret
                          exact ⟨by first | rfl | (simp; done) | (simp [*]; done), by repeat (first | exact Drawn0.refl _ | apply Drawn0.step)⟩
                        · rw [if_neg c13] at H
                          have c13b0 : (a0 == 47) = false := beq_eq_false_iff_ne.mpr c13
                          have c13b1 : (a0 != 47) = true := bne_iff_ne.mpr c13
                          obtain rfl := Option.some.inj H
                          go_wp2
                          go_ret
                          exact ⟨by first | rfl | (simp; done) | (simp [*]; done), by repeat (first | exact Drawn0.refl _ | apply Drawn0.step)⟩
              · rw [if_neg c8] at H
                have c8b0 : decide (48 ≤ a0) = false := decide_eq_false c8
                clear c8
                by_cases c14 : a0 = 95
                · rw [if_pos c14] at H
                  have c14b0 : (a0 == 95) = true := beq_iff_eq.mpr c14
                  have c14b1 : (a0 != 95) = false := bne_eq_false_iff_eq.mpr c14
                  clear c14
                  obtain rfl := Option.some.inj H
                  go_wp2
                  go_ret
                  exact ⟨by first | rfl | (simp; done) | (simp [*]; done), by repeat (first | exact Drawn0.refl _ | apply Drawn0.step)⟩
                · rw [if_neg c14] at H
                  have c14b0 : (a0 == 95) = false := beq_eq_false_iff_ne.mpr c14
                  have c14b1 : (a0 != 95) = true := bne_iff_ne.mpr c14
                  by_cases c15 : a0 = 45
                  · rw [if_pos c15] at H
                    have c15b0 : (a0 == 45) = true := beq_iff_eq.mpr c15
                    have c15b1 : (a0 != 45) = false := bne_eq_false_iff_eq.mpr c15
                    clear c15
                    obtain rfl := Option.some.inj H
                    go_wp2
                    go_ret
                    exact ⟨by first | rfl | (simp; done) | (simp [*]; done), by repeat (first | exact Drawn0.refl _ | apply Drawn0.step)⟩
                  · rw [if_neg c15] at H
                    have c15b0 : (a0 == 45) = false := beq_eq_false_iff_ne.mpr c15
                    have c15b1 : (a0 != 45) = true := bne_iff_ne.mpr c15
                    by_cases c16 : a0 = 46
                    · rw [if_pos c16] at H
                      have c16b0 : (a0 == 46) = true := beq_iff_eq.mpr c16
                      have c16b1 : (a0 != 46) = false := bne_eq_false_iff_eq.mpr c16
                      clear c16
                      obtain rfl := Option.some.inj H
                      go_wp2
                      go_ret
                      exact ⟨by first | rfl | (simp; done) | (simp [*]; done), by repeat (first | exact Drawn0.refl _ | apply Drawn0.step)⟩
                    · rw [if_neg c16] at H
                      have c16b0 : (a0 == 46) = false := beq_eq_false_iff_ne.mpr c16
                      have c16b1 : (a0 != 46) = true := bne_iff_ne.mpr c16
                      by_cases c17 : a0 = 47
                      · rw [if_pos c17] at H
                        have c17b0 : (a0 == 47) = true := beq_iff_eq.mpr c17
                        have c17b1 : (a0 != 47) = false := bne_eq_false_iff_eq.mpr c17
                        clear c17
                        obtain rfl := Option.some.inj H
                        go_wp2
                        go_ret
                        exact ⟨by first | rfl | (simp; done) | (simp [*]; done), by repeat (first | exact Drawn0.refl _ | apply Drawn0.step)⟩
                      · rw [if_neg c17] at H
                        have c17b0 : (a0 == 47) = false := beq_eq_false_iff_ne.mpr c17
                        have c17b1 : (a0 != 47) = true := bne_iff_ne.mpr c17
                        obtain rfl := Option.some.inj H
                        go_wp2
                        go_ret
                        exact ⟨by first | rfl | (simp; done) | (simp [*]; done), by repeat (first | exact Drawn0.refl _ | apply Drawn0.step)⟩

end Go.Proofs.YtnjjnfbkilgidaaDoor.F
namespace Go.Proofs.YtnjjnfbkilgidaaDoor.F
open Go.Proofs.YtnjjnfbkilgidaaDoor.Fr
open Go.Proofs.YtnjjnfbkilgidaaDoor
open Go.RowKit Go.Proofs.YtnjjnfbkilgidaaDoorW.PrintWords Go.Proofs.YtnjjnfbkilgidaaDoorW.PrintLast Go.Proofs.YtnjjnfbkilgidaaDoorW.PrintMore
attribute [local go_sem] max2_int min2_int max_two min_two max_three min_three max_four min_four   -- for this text's walks alone
set_option linter.unusedVariables false
set_option linter.unusedSimpArgs false

/-! ### recipe_names: function 24 -/
mutual
def recipe_names.j0 : Nat → Int → ByteArray → Bool → Option (Int)
  | 0, _, _, _ => none
  | k + 1, x3, x9, x10 => if x10 = true then (if x3 = 2 then (some 2) else (some (-1))) else (if x9.toList = ([104, 97, 115] : List UInt8) then (if x3 = 2 then (some 1) else (some (-1))) else (if x9.toList = ([99, 111, 110, 99, 97, 116] : List UInt8) then (if x3 ≥ 2 then (some x3) else (some (-1))) else (if x9.toList = ([115, 97, 121] : List UInt8) then (recipe_names.j1 k x3 x9 (x9.toList == ([115, 97, 121] : List UInt8))) else (recipe_names.j1 k x3 x9 (x9.toList == ([109, 111, 114, 101] : List UInt8))))))
def recipe_names.j1 : Nat → Int → ByteArray → Bool → Option (Int)
  | 0, _, _, _ => none
  | k + 1, x3, x9, x29 => if x29 = true then (if x3 ≥ 1 then (some 1) else (some (-1))) else (if x9.toList = ([116, 111, 117, 99, 104] : List UInt8) then (recipe_names.j2 k x3 x9 (x9.toList == ([116, 111, 117, 99, 104] : List UInt8))) else (recipe_names.j2 k x3 x9 (x9.toList == ([114, 109] : List UInt8))))
def recipe_names.j2 : Nat → Int → ByteArray → Bool → Option (Int)
  | 0, _, _, _ => none
  | k + 1, x3, x9, x34 => if x34 = true then (if x3 = 1 then (some 1) else (some (-1))) else (if x9.toList = ([116, 114, 117, 101] : List UInt8) then (recipe_names.j3 k x3 (x9.toList == ([116, 114, 117, 101] : List UInt8))) else (recipe_names.j3 k x3 (x9.toList == ([102, 97, 105, 108] : List UInt8))))
def recipe_names.j3 : Nat → Int → Bool → Option (Int)
  | 0, _, _ => none
  | k + 1, x3, x39 => if x39 = true then (if x3 = 0 then (some 0) else (some (-1))) else (some (-1))
end
def recipe_names.f (k : Nat) (l0 : List ByteArray) : Option (Int) := if 0 < (l0.length : Int) then (if (rdOf ByteArray.empty l0 0).toList = ([99, 111, 112, 121] : List UInt8) then (recipe_names.j0 k (wrap64 ((l0.length : Int) - 1)) (rdOf ByteArray.empty l0 0) ((rdOf ByteArray.empty l0 0).toList == ([99, 111, 112, 121] : List UInt8))) else (if (rdOf ByteArray.empty l0 0).toList = ([117, 112, 112, 101, 114] : List UInt8) then (recipe_names.j0 k (wrap64 ((l0.length : Int) - 1)) (rdOf ByteArray.empty l0 0) ((rdOf ByteArray.empty l0 0).toList == ([117, 112, 112, 101, 114] : List UInt8))) else (if (rdOf ByteArray.empty l0 0).toList = ([108, 111, 119, 101, 114] : List UInt8) then (recipe_names.j0 k (wrap64 ((l0.length : Int) - 1)) (rdOf ByteArray.empty l0 0) ((rdOf ByteArray.empty l0 0).toList == ([108, 111, 119, 101, 114] : List UInt8))) else (if (rdOf ByteArray.empty l0 0).toList = ([114, 101, 118, 101, 114, 115, 101] : List UInt8) then (recipe_names.j0 k (wrap64 ((l0.length : Int) - 1)) (rdOf ByteArray.empty l0 0) ((rdOf ByteArray.empty l0 0).toList == ([114, 101, 118, 101, 114, 115, 101] : List UInt8))) else (if (rdOf ByteArray.empty l0 0).toList = ([115, 111, 114, 116] : List UInt8) then (recipe_names.j0 k (wrap64 ((l0.length : Int) - 1)) (rdOf ByteArray.empty l0 0) ((rdOf ByteArray.empty l0 0).toList == ([115, 111, 114, 116] : List UInt8))) else (if (rdOf ByteArray.empty l0 0).toList = ([109, 118] : List UInt8) then (recipe_names.j0 k (wrap64 ((l0.length : Int) - 1)) (rdOf ByteArray.empty l0 0) ((rdOf ByteArray.empty l0 0).toList == ([109, 118] : List UInt8))) else (recipe_names.j0 k (wrap64 ((l0.length : Int) - 1)) (rdOf ByteArray.empty l0 0) ((rdOf ByteArray.empty l0 0).toList == ([115, 97, 109, 101] : List UInt8))))))))) else (none)
theorem recipe_names.mono_l : ∀ k, (∀ y0 y1 y2, LeO (recipe_names.j0 k y0 y1 y2) (recipe_names.j0 (k + 1) y0 y1 y2)) ∧ (∀ y0 y1 y2, LeO (recipe_names.j1 k y0 y1 y2) (recipe_names.j1 (k + 1) y0 y1 y2)) ∧ (∀ y0 y1 y2, LeO (recipe_names.j2 k y0 y1 y2) (recipe_names.j2 (k + 1) y0 y1 y2)) ∧ (∀ y0 y1, LeO (recipe_names.j3 k y0 y1) (recipe_names.j3 (k + 1) y0 y1))
  | 0 => ⟨fun _ _ _ r h => by simp [recipe_names.j0] at h, fun _ _ _ r h => by simp [recipe_names.j1] at h, fun _ _ _ r h => by simp [recipe_names.j2] at h, fun _ _ r h => by simp [recipe_names.j3] at h⟩
  | k + 1 => by
    obtain ⟨ih0, ih1, ih2, ih3⟩ := recipe_names.mono_l k
    refine ⟨?_, ?_, ?_, ?_⟩
    · intro y0 y1 y2
      unfold recipe_names.j0
      repeat' first
      | (with_reducible exact ih0 _ _ _)
      | (with_reducible exact ih1 _ _ _)
      | (with_reducible exact ih2 _ _ _)
      | (with_reducible exact ih3 _ _)
      | (with_reducible exact LeO.refl _)
      | (with_reducible exact LeO.none _)
      | (with_reducible refine LeO.ite ?_ ?_)
      | (with_reducible refine LeO.bind ?_ (fun _ => ?_))
      | exact ih0 _ _ _
      | exact ih1 _ _ _
      | exact ih2 _ _ _
      | exact ih3 _ _
      | exact LeO.none _
      | refine LeO.ite ?_ ?_
      | refine LeO.bind ?_ (fun _ => ?_)
    · intro y0 y1 y2
      unfold recipe_names.j1
      repeat' first
      | (with_reducible exact ih0 _ _ _)
      | (with_reducible exact ih1 _ _ _)
      | (with_reducible exact ih2 _ _ _)
      | (with_reducible exact ih3 _ _)
      | (with_reducible exact LeO.refl _)
      | (with_reducible exact LeO.none _)
      | (with_reducible refine LeO.ite ?_ ?_)
      | (with_reducible refine LeO.bind ?_ (fun _ => ?_))
      | exact ih0 _ _ _
      | exact ih1 _ _ _
      | exact ih2 _ _ _
      | exact ih3 _ _
      | exact LeO.none _
      | refine LeO.ite ?_ ?_
      | refine LeO.bind ?_ (fun _ => ?_)
    · intro y0 y1 y2
      unfold recipe_names.j2
      repeat' first
      | (with_reducible exact ih0 _ _ _)
      | (with_reducible exact ih1 _ _ _)
      | (with_reducible exact ih2 _ _ _)
      | (with_reducible exact ih3 _ _)
      | (with_reducible exact LeO.refl _)
      | (with_reducible exact LeO.none _)
      | (with_reducible refine LeO.ite ?_ ?_)
      | (with_reducible refine LeO.bind ?_ (fun _ => ?_))
      | exact ih0 _ _ _
      | exact ih1 _ _ _
      | exact ih2 _ _ _
      | exact ih3 _ _
      | exact LeO.none _
      | refine LeO.ite ?_ ?_
      | refine LeO.bind ?_ (fun _ => ?_)
    · intro y0 y1
      unfold recipe_names.j3
      repeat' first
      | (with_reducible exact ih0 _ _ _)
      | (with_reducible exact ih1 _ _ _)
      | (with_reducible exact ih2 _ _ _)
      | (with_reducible exact ih3 _ _)
      | (with_reducible exact LeO.refl _)
      | (with_reducible exact LeO.none _)
      | (with_reducible refine LeO.ite ?_ ?_)
      | (with_reducible refine LeO.bind ?_ (fun _ => ?_))
      | exact ih0 _ _ _
      | exact ih1 _ _ _
      | exact ih2 _ _ _
      | exact ih3 _ _
      | exact LeO.none _
      | refine LeO.ite ?_ ?_
      | refine LeO.bind ?_ (fun _ => ?_)
theorem recipe_names.mono : ∀ a0 k, LeO (recipe_names.f k a0) (recipe_names.f (k + 1) a0) := by
  intro a0 k
  obtain ⟨ih0, ih1, ih2, ih3⟩ := recipe_names.mono_l k
  unfold recipe_names.f
  repeat' first
      | (with_reducible exact ih0 _ _ _)
      | (with_reducible exact ih1 _ _ _)
      | (with_reducible exact ih2 _ _ _)
      | (with_reducible exact ih3 _ _)
      | (with_reducible exact LeO.refl _)
      | (with_reducible exact LeO.none _)
      | (with_reducible refine LeO.ite ?_ ?_)
      | (with_reducible refine LeO.bind ?_ (fun _ => ?_))
      | exact ih0 _ _ _
      | exact ih1 _ _ _
      | exact ih2 _ _ _
      | exact ih3 _ _
      | exact LeO.none _
      | refine LeO.ite ?_ ?_
      | refine LeO.bind ?_ (fun _ => ?_)
set_option maxHeartbeats 8000000 in
set_option maxRecDepth 100000 in
theorem recipe_names.calls (k : Nat) (A0 : Option Addr) (c0 : Nat) (l0 : List ByteArray) (r : Int) (w : World) (hr0 : Kd.C Kd.string w A0 l0.length l0) (hc0 : l0.length ≤ c0) (h : recipe_names.f k l0 = some r) :
    Calls Tryd.prog 24 #[.slice A0 l0.length c0] w fun e w' => e = .returned (.int .i64 r) ∧ Drawn0 w w' := by
  have HR0 := Aside0.mk hr0
  have HC0 := Aside0.mk hc0
  clear hr0 hc0
  have H : (if 0 < (l0.length : Int) then (if (rdOf ByteArray.empty l0 0).toList = ([99, 111, 112, 121] : List UInt8) then (recipe_names.j0 k (wrap64 ((l0.length : Int) - 1)) (rdOf ByteArray.empty l0 0) ((rdOf ByteArray.empty l0 0).toList == ([99, 111, 112, 121] : List UInt8))) else (if (rdOf ByteArray.empty l0 0).toList = ([117, 112, 112, 101, 114] : List UInt8) then (recipe_names.j0 k (wrap64 ((l0.length : Int) - 1)) (rdOf ByteArray.empty l0 0) ((rdOf ByteArray.empty l0 0).toList == ([117, 112, 112, 101, 114] : List UInt8))) else (if (rdOf ByteArray.empty l0 0).toList = ([108, 111, 119, 101, 114] : List UInt8) then (recipe_names.j0 k (wrap64 ((l0.length : Int) - 1)) (rdOf ByteArray.empty l0 0) ((rdOf ByteArray.empty l0 0).toList == ([108, 111, 119, 101, 114] : List UInt8))) else (if (rdOf ByteArray.empty l0 0).toList = ([114, 101, 118, 101, 114, 115, 101] : List UInt8) then (recipe_names.j0 k (wrap64 ((l0.length : Int) - 1)) (rdOf ByteArray.empty l0 0) ((rdOf ByteArray.empty l0 0).toList == ([114, 101, 118, 101, 114, 115, 101] : List UInt8))) else (if (rdOf ByteArray.empty l0 0).toList = ([115, 111, 114, 116] : List UInt8) then (recipe_names.j0 k (wrap64 ((l0.length : Int) - 1)) (rdOf ByteArray.empty l0 0) ((rdOf ByteArray.empty l0 0).toList == ([115, 111, 114, 116] : List UInt8))) else (if (rdOf ByteArray.empty l0 0).toList = ([109, 118] : List UInt8) then (recipe_names.j0 k (wrap64 ((l0.length : Int) - 1)) (rdOf ByteArray.empty l0 0) ((rdOf ByteArray.empty l0 0).toList == ([109, 118] : List UInt8))) else (recipe_names.j0 k (wrap64 ((l0.length : Int) - 1)) (rdOf ByteArray.empty l0 0) ((rdOf ByteArray.empty l0 0).toList == ([115, 97, 109, 101] : List UInt8))))))))) else (none)) = some r := h
  clear h
  by_cases c2 : 0 < (l0.length : Int)
  · rw [if_pos c2] at H
    have c2b0 : decide (0 < (l0.length : Int)) = true := decide_eq_true c2
    have c2b1 : decide (0 < l0.length) = true := decide_eq_true (by omega)
    clear c2
    have HC3 := Aside0.mk H
    clear H
    have p101 : 0 ≤ (0 : Int) := (by omega)
    have q101 : 0 < (l0.length : Int) := of_decide_eq_true (by first | (with_reducible assumption) | assumption)
    obtain ⟨ad101, e101, hx101_0⟩ := Kd.at_string HR0.out 0 p101 q101
    cases e101
    have qi101 : (0 < l0.length) = True := eq_true (by omega)
    (try rw [show ((0 : Int)).toNat = 0 from rfl] at hx101_0)
    (try rw [Addr.add_zero'] at hx101_0)
    replace p101 := eq_true p101
    replace q101 := eq_true q101
    go_enter Tryd.func24, Tryd.ntmps24
    go_upto_if 10 with (fail)
    go_cut [10] (fun v10 wc => ∃ (kq : Nat) (x10_2 : Bool), v10 = .bool x10_2 ∧ Aside0 (recipe_names.j0 kq (wrap64 ((l0.length : Int) - 1)) (rdOf ByteArray.empty l0 0) x10_2 = some r) ∧ Aside0 (kq ≤ k) ∧ Drawn0 w wc)
    case first =>
      have H := HC3.out
      clear HC3
      by_cases c4 : (rdOf ByteArray.empty l0 0).toList = ([99, 111, 112, 121] : List UInt8)
      · rw [if_pos c4] at H
        have c4b0 : ((rdOf ByteArray.empty l0 0).toList == ([99, 111, 112, 121] : List UInt8)) = true := beq_iff_eq.mpr c4
        have c4b1 : ((rdOf ByteArray.empty l0 0).toList != ([99, 111, 112, 121] : List UInt8)) = false := bne_eq_false_iff_eq.mpr c4
        clear c4
        (first | rw [c4b0] | (simp only [i64_w, i32_w]; rw [c4b0]) | skip)
        have H' := Aside0.mk H
        clear H
        go_wp2
        go_meet
        case rel => exact ⟨_, (((rdOf ByteArray.empty l0 0).toList == ([99, 111, 112, 121] : List UInt8))), (by first | rfl | (simp; done) | (simp [*]; done)), H', ⟨by first | omega | exact Nat.le_refl _⟩, by repeat (first | exact Drawn0.refl _ | apply Drawn0.step)⟩
      · rw [if_neg c4] at H
        have c4b0 : ((rdOf ByteArray.empty l0 0).toList == ([99, 111, 112, 121] : List UInt8)) = false := beq_eq_false_iff_ne.mpr c4
        have c4b1 : ((rdOf ByteArray.empty l0 0).toList != ([99, 111, 112, 121] : List UInt8)) = true := bne_iff_ne.mpr c4
        (first | rw [c4b0] | (simp only [i64_w, i32_w]; rw [c4b0]) | skip)
        by_cases c5 : (rdOf ByteArray.empty l0 0).toList = ([117, 112, 112, 101, 114] : List UInt8)
        · rw [if_pos c5] at H
          have c5b0 : ((rdOf ByteArray.empty l0 0).toList == ([117, 112, 112, 101, 114] : List UInt8)) = true := beq_iff_eq.mpr c5
          have c5b1 : ((rdOf ByteArray.empty l0 0).toList != ([117, 112, 112, 101, 114] : List UInt8)) = false := bne_eq_false_iff_eq.mpr c5
          clear c5
          have H' := Aside0.mk H
          clear H
          go_wp2
          go_meet
          case rel => exact ⟨_, (((rdOf ByteArray.empty l0 0).toList == ([117, 112, 112, 101, 114] : List UInt8))), (by first | rfl | (simp; done) | (simp [*]; done)), H', ⟨by first | omega | exact Nat.le_refl _⟩, by repeat (first | exact Drawn0.refl _ | apply Drawn0.step)⟩
        · rw [if_neg c5] at H
          have c5b0 : ((rdOf ByteArray.empty l0 0).toList == ([117, 112, 112, 101, 114] : List UInt8)) = false := beq_eq_false_iff_ne.mpr c5
          have c5b1 : ((rdOf ByteArray.empty l0 0).toList != ([117, 112, 112, 101, 114] : List UInt8)) = true := bne_iff_ne.mpr c5
          by_cases c6 : (rdOf ByteArray.empty l0 0).toList = ([108, 111, 119, 101, 114] : List UInt8)
          · rw [if_pos c6] at H
            have c6b0 : ((rdOf ByteArray.empty l0 0).toList == ([108, 111, 119, 101, 114] : List UInt8)) = true := beq_iff_eq.mpr c6
            have c6b1 : ((rdOf ByteArray.empty l0 0).toList != ([108, 111, 119, 101, 114] : List UInt8)) = false := bne_eq_false_iff_eq.mpr c6
            clear c6
            have H' := Aside0.mk H
            clear H
            go_wp2
            go_meet
            case rel => exact ⟨_, (((rdOf ByteArray.empty l0 0).toList == ([108, 111, 119, 101, 114] : List UInt8))), (by first | rfl | (simp; done) | (simp [*]; done)), H', ⟨by first | omega | exact Nat.le_refl _⟩, by repeat (first | exact Drawn0.refl _ | apply Drawn0.step)⟩
          · rw [if_neg c6] at H
            have c6b0 : ((rdOf ByteArray.empty l0 0).toList == ([108, 111, 119, 101, 114] : List UInt8)) = false := beq_eq_false_iff_ne.mpr c6
            have c6b1 : ((rdOf ByteArray.empty l0 0).toList != ([108, 111, 119, 101, 114] : List UInt8)) = true := bne_iff_ne.mpr c6
            by_cases c7 : (rdOf ByteArray.empty l0 0).toList = ([114, 101, 118, 101, 114, 115, 101] : List UInt8)
            · rw [if_pos c7] at H
              have c7b0 : ((rdOf ByteArray.empty l0 0).toList == ([114, 101, 118, 101, 114, 115, 101] : List UInt8)) = true := beq_iff_eq.mpr c7
              have c7b1 : ((rdOf ByteArray.empty l0 0).toList != ([114, 101, 118, 101, 114, 115, 101] : List UInt8)) = false := bne_eq_false_iff_eq.mpr c7
              clear c7
              have H' := Aside0.mk H
              clear H
              go_wp2
              go_meet
              case rel => exact ⟨_, (((rdOf ByteArray.empty l0 0).toList == ([114, 101, 118, 101, 114, 115, 101] : List UInt8))), (by first | rfl | (simp; done) | (simp [*]; done)), H', ⟨by first | omega | exact Nat.le_refl _⟩, by repeat (first | exact Drawn0.refl _ | apply Drawn0.step)⟩
            · rw [if_neg c7] at H
              have c7b0 : ((rdOf ByteArray.empty l0 0).toList == ([114, 101, 118, 101, 114, 115, 101] : List UInt8)) = false := beq_eq_false_iff_ne.mpr c7
              have c7b1 : ((rdOf ByteArray.empty l0 0).toList != ([114, 101, 118, 101, 114, 115, 101] : List UInt8)) = true := bne_iff_ne.mpr c7
              by_cases c8 : (rdOf ByteArray.empty l0 0).toList = ([115, 111, 114, 116] : List UInt8)
              · rw [if_pos c8] at H
                have c8b0 : ((rdOf ByteArray.empty l0 0).toList == ([115, 111, 114, 116] : List UInt8)) = true := beq_iff_eq.mpr c8
                have c8b1 : ((rdOf ByteArray.empty l0 0).toList != ([115, 111, 114, 116] : List UInt8)) = false := bne_eq_false_iff_eq.mpr c8
                clear c8
                have H' := Aside0.mk H
                clear H
                go_wp2
                go_meet
                case rel => exact ⟨_, (((rdOf ByteArray.empty l0 0).toList == ([115, 111, 114, 116] : List UInt8))), (by first | rfl | (simp; done) | (simp [*]; done)), H', ⟨by first | omega | exact Nat.le_refl _⟩, by repeat (first | exact Drawn0.refl _ | apply Drawn0.step)⟩
              · rw [if_neg c8] at H
                have c8b0 : ((rdOf ByteArray.empty l0 0).toList == ([115, 111, 114, 116] : List UInt8)) = false := beq_eq_false_iff_ne.mpr c8
                have c8b1 : ((rdOf ByteArray.empty l0 0).toList != ([115, 111, 114, 116] : List UInt8)) = true := bne_iff_ne.mpr c8
                by_cases c9 : (rdOf ByteArray.empty l0 0).toList = ([109, 118] : List UInt8)
                · rw [if_pos c9] at H
                  have c9b0 : ((rdOf ByteArray.empty l0 0).toList == ([109, 118] : List UInt8)) = true := beq_iff_eq.mpr c9
                  have c9b1 : ((rdOf ByteArray.empty l0 0).toList != ([109, 118] : List UInt8)) = false := bne_eq_false_iff_eq.mpr c9
                  clear c9
                  have H' := Aside0.mk H
                  clear H
                  go_wp2
                  go_meet
                  case rel => exact ⟨_, (((rdOf ByteArray.empty l0 0).toList == ([109, 118] : List UInt8))), (by first | rfl | (simp; done) | (simp [*]; done)), H', ⟨by first | omega | exact Nat.le_refl _⟩, by repeat (first | exact Drawn0.refl _ | apply Drawn0.step)⟩
                · rw [if_neg c9] at H
                  have c9b0 : ((rdOf ByteArray.empty l0 0).toList == ([109, 118] : List UInt8)) = false := beq_eq_false_iff_ne.mpr c9
                  have c9b1 : ((rdOf ByteArray.empty l0 0).toList != ([109, 118] : List UInt8)) = true := bne_iff_ne.mpr c9
                  have H' := Aside0.mk H
                  clear H
                  go_wp2
                  go_meet
                  case rel => exact ⟨_, (((rdOf ByteArray.empty l0 0).toList == ([115, 97, 109, 101] : List UInt8))), (by first | rfl | (simp; done) | (simp [*]; done)), H', ⟨by first | omega | exact Nat.le_refl _⟩, by repeat (first | exact Drawn0.refl _ | apply Drawn0.step)⟩
    case rest =>
      clear HC3
      try clear p1
      try clear q1
      try clear hx1
      try clear qi1
      try clear c2
      try clear c2b0
      try clear c2b1
      try clear p2
      try clear c4
      try clear c4b0
      try clear c4b1
      try clear c5
      try clear c5b0
      try clear c5b1
      try clear c6
      try clear c6b0
      try clear c6b1
      try clear p6
      try clear c7
      try clear c7b0
      try clear c7b1
      try clear c8
      try clear c8b0
      try clear c8b1
      try clear c9
      try clear c9b0
      try clear c9b1
      try clear hx101_0
      try clear p101
      try clear q101
      obtain ⟨kq, x10_2, rfl, HA, HJ2, ⟨mc2, rfl⟩⟩ := hcut
      cases kq with
      | zero => exact absurd HA.out (by simp [recipe_names.j0])
      | succ kj2 =>
        have H := HA.out
        clear HA
        simp only [recipe_names.j0] at H
        by_cases c10 : x10_2 = true
        · subst c10
          have H1 : (if (wrap64 ((l0.length : Int) - 1)) = 2 then (some 2) else (some (-1))) = some r := by rw [if_pos rfl] at H; exact H
          clear H
          have H := H1
          clear H1
          by_cases c11 : (wrap64 ((l0.length : Int) - 1)) = 2
          · rw [if_pos c11] at H
            have c11b0 : ((wrap64 ((l0.length : Int) - 1)) == 2) = true := beq_iff_eq.mpr c11
            have c11b1 : ((wrap64 ((l0.length : Int) - 1)) != 2) = false := bne_eq_false_iff_eq.mpr c11
            clear c11
            obtain rfl := Option.some.inj H
            go_wp2
            go_ret
            exact ⟨by first | rfl | (simp; done) | (simp [*]; done), by repeat (first | exact Drawn0.refl _ | apply Drawn0.step)⟩
          · rw [if_neg c11] at H
            have c11b0 : ((wrap64 ((l0.length : Int) - 1)) == 2) = false := beq_eq_false_iff_ne.mpr c11
            have c11b1 : ((wrap64 ((l0.length : Int) - 1)) != 2) = true := bne_iff_ne.mpr c11
            obtain rfl := Option.some.inj H
            go_wp2
            go_ret
            exact ⟨by first | rfl | (simp; done) | (simp [*]; done), by repeat (first | exact Drawn0.refl _ | apply Drawn0.step)⟩
        · replace c10 := Bool.eq_false_iff.mpr c10
          subst c10
          have H1 : (if (rdOf ByteArray.empty l0 0).toList = ([104, 97, 115] : List UInt8) then (if (wrap64 ((l0.length : Int) - 1)) = 2 then (some 1) else (some (-1))) else (if (rdOf ByteArray.empty l0 0).toList = ([99, 111, 110, 99, 97, 116] : List UInt8) then (if (wrap64 ((l0.length : Int) - 1)) ≥ 2 then (some (wrap64 ((l0.length : Int) - 1))) else (some (-1))) else (if (rdOf ByteArray.empty l0 0).toList = ([115, 97, 121] : List UInt8) then (recipe_names.j1 kj2 (wrap64 ((l0.length : Int) - 1)) (rdOf ByteArray.empty l0 0) ((rdOf ByteArray.empty l0 0).toList == ([115, 97, 121] : List UInt8))) else (recipe_names.j1 kj2 (wrap64 ((l0.length : Int) - 1)) (rdOf ByteArray.empty l0 0) ((rdOf ByteArray.empty l0 0).toList == ([109, 111, 114, 101] : List UInt8)))))) = some r := by rw [if_neg (show ¬ (false = true) by decide)] at H; exact H
          clear H
          have H := H1
          clear H1
          by_cases c12 : (rdOf ByteArray.empty l0 0).toList = ([104, 97, 115] : List UInt8)
          · rw [if_pos c12] at H
            have c12b0 : ((rdOf ByteArray.empty l0 0).toList == ([104, 97, 115] : List UInt8)) = true := beq_iff_eq.mpr c12
            have c12b1 : ((rdOf ByteArray.empty l0 0).toList != ([104, 97, 115] : List UInt8)) = false := bne_eq_false_iff_eq.mpr c12
            clear c12
            by_cases c13 : (wrap64 ((l0.length : Int) - 1)) = 2
            · rw [if_pos c13] at H
              have c13b0 : ((wrap64 ((l0.length : Int) - 1)) == 2) = true := beq_iff_eq.mpr c13
              have c13b1 : ((wrap64 ((l0.length : Int) - 1)) != 2) = false := bne_eq_false_iff_eq.mpr c13
              clear c13
              obtain rfl := Option.some.inj H
              go_wp2
              go_ret
              exact ⟨by first | rfl | (simp; done) | (simp [*]; done), by repeat (first | exact Drawn0.refl _ | apply Drawn0.step)⟩
            · rw [if_neg c13] at H
              have c13b0 : ((wrap64 ((l0.length : Int) - 1)) == 2) = false := beq_eq_false_iff_ne.mpr c13
              have c13b1 : ((wrap64 ((l0.length : Int) - 1)) != 2) = true := bne_iff_ne.mpr c13
              obtain rfl := Option.some.inj H
              go_wp2
              go_ret
              exact ⟨by first | rfl | (simp; done) | (simp [*]; done), by repeat (first | exact Drawn0.refl _ | apply Drawn0.step)⟩
          · rw [if_neg c12] at H
            have c12b0 : ((rdOf ByteArray.empty l0 0).toList == ([104, 97, 115] : List UInt8)) = false := beq_eq_false_iff_ne.mpr c12
            have c12b1 : ((rdOf ByteArray.empty l0 0).toList != ([104, 97, 115] : List UInt8)) = true := bne_iff_ne.mpr c12
            by_cases c14 : (rdOf ByteArray.empty l0 0).toList = ([99, 111, 110, 99, 97, 116] : List UInt8)
            · rw [if_pos c14] at H
              have c14b0 : ((rdOf ByteArray.empty l0 0).toList == ([99, 111, 110, 99, 97, 116] : List UInt8)) = true := beq_iff_eq.mpr c14
              have c14b1 : ((rdOf ByteArray.empty l0 0).toList != ([99, 111, 110, 99, 97, 116] : List UInt8)) = false := bne_eq_false_iff_eq.mpr c14
              clear c14
              by_cases c15 : (wrap64 ((l0.length : Int) - 1)) ≥ 2
              · rw [if_pos c15] at H
                have c15b0 : decide (2 ≤ (wrap64 ((l0.length : Int) - 1))) = true := decide_eq_true c15
                clear c15
                obtain rfl := Option.some.inj H
                go_wp2
                go_ret
                exact ⟨by first | rfl | (simp; done) | (simp [*]; done), by repeat (first | exact Drawn0.refl _ | apply Drawn0.step)⟩
              · rw [if_neg c15] at H
                have c15b0 : decide (2 ≤ (wrap64 ((l0.length : Int) - 1))) = false := decide_eq_false c15
                clear c15
                obtain rfl := Option.some.inj H
                go_wp2
                go_ret
                exact ⟨by first | rfl | (simp; done) | (simp [*]; done), by repeat (first | exact Drawn0.refl _ | apply Drawn0.step)⟩
            · rw [if_neg c14] at H
              have c14b0 : ((rdOf ByteArray.empty l0 0).toList == ([99, 111, 110, 99, 97, 116] : List UInt8)) = false := beq_eq_false_iff_ne.mpr c14
              have c14b1 : ((rdOf ByteArray.empty l0 0).toList != ([99, 111, 110, 99, 97, 116] : List UInt8)) = true := bne_iff_ne.mpr c14
              have HC16 := Aside0.mk H
              clear H
              go_upto_if 29 with (fail)
              go_cut [29] (fun v29 wc => ∃ (kq : Nat) (x29_15 : Bool), v29 = .bool x29_15 ∧ Aside0 (recipe_names.j1 kq (wrap64 ((l0.length : Int) - 1)) (rdOf ByteArray.empty l0 0) x29_15 = some r) ∧ Aside0 (kq ≤ kj2) ∧ Drawn0 w wc)
              case first =>
                have H := HC16.out
                clear HC16
                by_cases c17 : (rdOf ByteArray.empty l0 0).toList = ([115, 97, 121] : List UInt8)
                · rw [if_pos c17] at H
                  have c17b0 : ((rdOf ByteArray.empty l0 0).toList == ([115, 97, 121] : List UInt8)) = true := beq_iff_eq.mpr c17
                  have c17b1 : ((rdOf ByteArray.empty l0 0).toList != ([115, 97, 121] : List UInt8)) = false := bne_eq_false_iff_eq.mpr c17
                  clear c17
                  (first | rw [c17b0] | (simp only [i64_w, i32_w]; rw [c17b0]) | skip)
                  have H' := Aside0.mk H
                  clear H
                  go_wp2
                  go_meet
                  case rel => exact ⟨_, (((rdOf ByteArray.empty l0 0).toList == ([115, 97, 121] : List UInt8))), (by first | rfl | (simp; done) | (simp [*]; done)), H', ⟨by have := HJ2.out; first | omega | exact Nat.le_refl _⟩, by repeat (first | exact Drawn0.refl _ | apply Drawn0.step)⟩
                · rw [if_neg c17] at H
                  have c17b0 : ((rdOf ByteArray.empty l0 0).toList == ([115, 97, 121] : List UInt8)) = false := beq_eq_false_iff_ne.mpr c17
                  have c17b1 : ((rdOf ByteArray.empty l0 0).toList != ([115, 97, 121] : List UInt8)) = true := bne_iff_ne.mpr c17
                  (first | rw [c17b0] | (simp only [i64_w, i32_w]; rw [c17b0]) | skip)
                  have H' := Aside0.mk H
                  clear H
                  go_wp2
                  go_meet
                  case rel => exact ⟨_, (((rdOf ByteArray.empty l0 0).toList == ([109, 111, 114, 101] : List UInt8))), (by first | rfl | (simp; done) | (simp [*]; done)), H', ⟨by have := HJ2.out; first | omega | exact Nat.le_refl _⟩, by repeat (first | exact Drawn0.refl _ | apply Drawn0.step)⟩
              case rest =>
                clear HC16
                try clear c1
                try clear p1
                try clear q1
                try clear hx1
                try clear qi1
                try clear c2
                try clear c2b0
                try clear c2b1
                try clear p2
                try clear c4
                try clear c4b0
                try clear c4b1
                try clear c5
                try clear c5b0
                try clear c5b1
                try clear c6
                try clear c6b0
                try clear c6b1
                try clear p6
                try clear c7
                try clear c7b0
                try clear c7b1
                try clear c8
                try clear c8b0
                try clear c8b1
                try clear c9
                try clear c9b0
                try clear c9b1
                try clear c10
                try clear p10
                try clear q10
                try clear hx10
                try clear qi10
                try clear c11
                try clear c11b0
                try clear c11b1
                try clear c12
                try clear c12b0
                try clear c12b1
                try clear c13
                try clear c13b0
                try clear c13b1
                try clear c14
                try clear c14b0
                try clear c14b1
                try clear c15
                try clear c15b0
                try clear c17
                try clear c17b0
                try clear c17b1
                try clear hx101_0
                try clear p1
                try clear p101
                try clear p2
                try clear p6
                try clear q1
                try clear q101
                obtain ⟨kq, x29_15, rfl, HA, HJ15, ⟨mc15, rfl⟩⟩ := hcut
                cases kq with
                | zero => exact absurd HA.out (by simp [recipe_names.j1])
                | succ kj15 =>
                  have H := HA.out
                  clear HA
                  simp only [recipe_names.j1] at H
                  by_cases c18 : x29_15 = true
                  · subst c18
                    have H1 : (if (wrap64 ((l0.length : Int) - 1)) ≥ 1 then (some 1) else (some (-1))) = some r := by rw [if_pos rfl] at H; exact H
                    clear H
                    have H := H1
                    clear H1
                    by_cases c19 : (wrap64 ((l0.length : Int) - 1)) ≥ 1
                    · rw [if_pos c19] at H
                      have c19b0 : decide (1 ≤ (wrap64 ((l0.length : Int) - 1))) = true := decide_eq_true c19
                      clear c19
                      obtain rfl := Option.some.inj H
                      go_wp2
                      go_ret
                      exact ⟨by first | rfl | (simp; done) | (simp [*]; done), by repeat (first | exact Drawn0.refl _ | apply Drawn0.step)⟩
                    · rw [if_neg c19] at H
                      have c19b0 : decide (1 ≤ (wrap64 ((l0.length : Int) - 1))) = false := decide_eq_false c19
                      clear c19
                      obtain rfl := Option.some.inj H
                      go_wp2
                      go_ret
                      exact ⟨by first | rfl | (simp; done) | (simp [*]; done), by repeat (first | exact Drawn0.refl _ | apply Drawn0.step)⟩
                  · replace c18 := Bool.eq_false_iff.mpr c18
                    subst c18
                    have H1 : (if (rdOf ByteArray.empty l0 0).toList = ([116, 111, 117, 99, 104] : List UInt8) then (recipe_names.j2 kj15 (wrap64 ((l0.length : Int) - 1)) (rdOf ByteArray.empty l0 0) ((rdOf ByteArray.empty l0 0).toList == ([116, 111, 117, 99, 104] : List UInt8))) else (recipe_names.j2 kj15 (wrap64 ((l0.length : Int) - 1)) (rdOf ByteArray.empty l0 0) ((rdOf ByteArray.empty l0 0).toList == ([114, 109] : List UInt8)))) = some r := by rw [if_neg (show ¬ (false = true) by decide)] at H; exact H
                    clear H
                    have H := H1
                    clear H1
                    have HC20 := Aside0.mk H
                    clear H
                    go_upto_if 34 with (fail)
                    go_cut [34] (fun v34 wc => ∃ (kq : Nat) (x34_19 : Bool), v34 = .bool x34_19 ∧ Aside0 (recipe_names.j2 kq (wrap64 ((l0.length : Int) - 1)) (rdOf ByteArray.empty l0 0) x34_19 = some r) ∧ Aside0 (kq ≤ kj15) ∧ Drawn0 w wc)
                    case first =>
                      have H := HC20.out
                      clear HC20
                      by_cases c21 : (rdOf ByteArray.empty l0 0).toList = ([116, 111, 117, 99, 104] : List UInt8)
                      · rw [if_pos c21] at H
                        have c21b0 : ((rdOf ByteArray.empty l0 0).toList == ([116, 111, 117, 99, 104] : List UInt8)) = true := beq_iff_eq.mpr c21
                        have c21b1 : ((rdOf ByteArray.empty l0 0).toList != ([116, 111, 117, 99, 104] : List UInt8)) = false := bne_eq_false_iff_eq.mpr c21
                        clear c21
                        (first | rw [c21b0] | (simp only [i64_w, i32_w]; rw [c21b0]) | skip)
                        have H' := Aside0.mk H
                        clear H
                        go_wp2
                        go_meet
                        case rel => exact ⟨_, (((rdOf ByteArray.empty l0 0).toList == ([116, 111, 117, 99, 104] : List UInt8))), (by first | rfl | (simp; done) | (simp [*]; done)), H', ⟨by have := HJ2.out; have := HJ15.out; first | omega | exact Nat.le_refl _⟩, by repeat (first | exact Drawn0.refl _ | apply Drawn0.step)⟩
                      · rw [if_neg c21] at H
                        have c21b0 : ((rdOf ByteArray.empty l0 0).toList == ([116, 111, 117, 99, 104] : List UInt8)) = false := beq_eq_false_iff_ne.mpr c21
                        have c21b1 : ((rdOf ByteArray.empty l0 0).toList != ([116, 111, 117, 99, 104] : List UInt8)) = true := bne_iff_ne.mpr c21
                        (first | rw [c21b0] | (simp only [i64_w, i32_w]; rw [c21b0]) | skip)
                        have H' := Aside0.mk H
                        clear H
                        go_wp2
                        go_meet
                        case rel => exact ⟨_, (((rdOf ByteArray.empty l0 0).toList == ([114, 109] : List UInt8))), (by first | rfl | (simp; done) | (simp [*]; done)), H', ⟨by have := HJ2.out; have := HJ15.out; first | omega | exact Nat.le_refl _⟩, by repeat (first | exact Drawn0.refl _ | apply Drawn0.step)⟩
                    case rest =>
                      clear HC20
                      try clear c1
                      try clear p1
                      try clear q1
                      try clear hx1
                      try clear qi1
                      try clear c2
                      try clear c2b0
                      try clear c2b1
                      try clear p2
                      try clear c4
                      try clear c4b0
                      try clear c4b1
                      try clear c5
                      try clear c5b0
                      try clear c5b1
                      try clear c6
                      try clear c6b0
                      try clear c6b1
                      try clear p6
                      try clear c7
                      try clear c7b0
                      try clear c7b1
                      try clear c8
                      try clear c8b0
                      try clear c8b1
                      try clear c9
                      try clear c9b0
                      try clear c9b1
                      try clear c10
                      try clear p10
                      try clear q10
                      try clear hx10
                      try clear qi10
                      try clear c11
                      try clear c11b0
                      try clear c11b1
                      try clear c12
                      try clear c12b0
                      try clear c12b1
                      try clear c13
                      try clear c13b0
                      try clear c13b1
                      try clear c14
                      try clear c14b0
                      try clear c14b1
                      try clear c15
                      try clear c15b0
                      try clear c17
                      try clear c17b0
                      try clear c17b1
                      try clear c18
                      try clear c19
                      try clear c19b0
                      try clear c21
                      try clear c21b0
                      try clear c21b1
                      try clear hx101_0
                      try clear p1
                      try clear p10
                      try clear p101
                      try clear p2
                      try clear p6
                      try clear q1
                      try clear q10
                      try clear q101
                      obtain ⟨kq, x34_19, rfl, HA, HJ19, ⟨mc19, rfl⟩⟩ := hcut
                      cases kq with
                      | zero => exact absurd HA.out (by simp [recipe_names.j2])
                      | succ kj19 =>
                        have H := HA.out
                        clear HA
                        simp only [recipe_names.j2] at H
                        by_cases c22 : x34_19 = true
                        · subst c22
                          have H1 : (if (wrap64 ((l0.length : Int) - 1)) = 1 then (some 1) else (some (-1))) = some r := by rw [if_pos rfl] at H; exact H
                          clear H
                          have H := H1
                          clear H1
                          by_cases c23 : (wrap64 ((l0.length : Int) - 1)) = 1
                          · rw [if_pos c23] at H
                            have c23b0 : ((wrap64 ((l0.length : Int) - 1)) == 1) = true := beq_iff_eq.mpr c23
                            have c23b1 : ((wrap64 ((l0.length : Int) - 1)) != 1) = false := bne_eq_false_iff_eq.mpr c23
                            clear c23
                            obtain rfl := Option.some.inj H
                            go_wp2
                            go_ret
                            exact ⟨by first | rfl | (simp; done) | (simp [*]; done), by repeat (first | exact Drawn0.refl _ | apply Drawn0.step)⟩
                          · rw [if_neg c23] at H
                            have c23b0 : ((wrap64 ((l0.length : Int) - 1)) == 1) = false := beq_eq_false_iff_ne.mpr c23
                            have c23b1 : ((wrap64 ((l0.length : Int) - 1)) != 1) = true := bne_iff_ne.mpr c23
                            obtain rfl := Option.some.inj H
                            go_wp2
                            go_ret
                            exact ⟨by first | rfl | (simp; done) | (simp [*]; done), by repeat (first | exact Drawn0.refl _ | apply Drawn0.step)⟩
                        · replace c22 := Bool.eq_false_iff.mpr c22
                          subst c22
                          have H1 : (if (rdOf ByteArray.empty l0 0).toList = ([116, 114, 117, 101] : List UInt8) then (recipe_names.j3 kj19 (wrap64 ((l0.length : Int) - 1)) ((rdOf ByteArray.empty l0 0).toList == ([116, 114, 117, 101] : List UInt8))) else (recipe_names.j3 kj19 (wrap64 ((l0.length : Int) - 1)) ((rdOf ByteArray.empty l0 0).toList == ([102, 97, 105, 108] : List UInt8)))) = some r := by rw [if_neg (show ¬ (false = true) by decide)] at H; exact H
                          clear H
                          have H := H1
                          clear H1
                          have HC24 := Aside0.mk H
                          clear H
                          go_upto_if 39 with (fail)
                          go_cut [39] (fun v39 wc => ∃ (kq : Nat) (x39_23 : Bool), v39 = .bool x39_23 ∧ Aside0 (recipe_names.j3 kq (wrap64 ((l0.length : Int) - 1)) x39_23 = some r) ∧ Aside0 (kq ≤ kj19) ∧ Drawn0 w wc)
                          case first =>
                            have H := HC24.out
                            clear HC24
                            by_cases c25 : (rdOf ByteArray.empty l0 0).toList = ([116, 114, 117, 101] : List UInt8)
                            · rw [if_pos c25] at H
                              have c25b0 : ((rdOf ByteArray.empty l0 0).toList == ([116, 114, 117, 101] : List UInt8)) = true := beq_iff_eq.mpr c25
                              have c25b1 : ((rdOf ByteArray.empty l0 0).toList != ([116, 114, 117, 101] : List UInt8)) = false := bne_eq_false_iff_eq.mpr c25
                              clear c25
                              (first | rw [c25b0] | (simp only [i64_w, i32_w]; rw [c25b0]) | skip)
                              have H' := Aside0.mk H
                              clear H
                              go_wp2
                              go_meet
                              case rel => exact ⟨_, (((rdOf ByteArray.empty l0 0).toList == ([116, 114, 117, 101] : List UInt8))), (by first | rfl | (simp; done) | (simp [*]; done)), H', ⟨by have := HJ2.out; have := HJ15.out; have := HJ19.out; first | omega | exact Nat.le_refl _⟩, by repeat (first | exact Drawn0.refl _ | apply Drawn0.step)⟩
                            · rw [if_neg c25] at H
                              have c25b0 : ((rdOf ByteArray.empty l0 0).toList == ([116, 114, 117, 101] : List UInt8)) = false := beq_eq_false_iff_ne.mpr c25
                              have c25b1 : ((rdOf ByteArray.empty l0 0).toList != ([116, 114, 117, 101] : List UInt8)) = true := bne_iff_ne.mpr c25
                              (first | rw [c25b0] | (simp only [i64_w, i32_w]; rw [c25b0]) | skip)
                              have H' := Aside0.mk H
                              clear H
                              go_wp2
                              go_meet
                              case rel => exact ⟨_, (((rdOf ByteArray.empty l0 0).toList == ([102, 97, 105, 108] : List UInt8))), (by first | rfl | (simp; done) | (simp [*]; done)), H', ⟨by have := HJ2.out; have := HJ15.out; have := HJ19.out; first | omega | exact Nat.le_refl _⟩, by repeat (first | exact Drawn0.refl _ | apply Drawn0.step)⟩
                          case rest =>
                            clear HC24
                            try clear c1
                            try clear p1
                            try clear q1
                            try clear hx1
                            try clear qi1
                            try clear c2
                            try clear c2b0
                            try clear c2b1
                            try clear p2
                            try clear c4
                            try clear c4b0
                            try clear c4b1
                            try clear c5
                            try clear c5b0
                            try clear c5b1
                            try clear c6
                            try clear c6b0
                            try clear c6b1
                            try clear p6
                            try clear c7
                            try clear c7b0
                            try clear c7b1
                            try clear c8
                            try clear c8b0
                            try clear c8b1
                            try clear c9
                            try clear c9b0
                            try clear c9b1
                            try clear c10
                            try clear p10
                            try clear q10
                            try clear hx10
                            try clear qi10
                            try clear c11
                            try clear c11b0
                            try clear c11b1
                            try clear c12
                            try clear c12b0
                            try clear c12b1
                            try clear c13
                            try clear c13b0
                            try clear c13b1
                            try clear c14
                            try clear c14b0
                            try clear c14b1
                            try clear c15
                            try clear c15b0
                            try clear c17
                            try clear c17b0
                            try clear c17b1
                            try clear c18
                            try clear c19
                            try clear c19b0
                            try clear c21
                            try clear c21b0
                            try clear c21b1
                            try clear c22
                            try clear c23
                            try clear c23b0
                            try clear c23b1
                            try clear c24
                            try clear c25
                            try clear c25b0
                            try clear c25b1
                            try clear hx101_0
                            try clear p1
                            try clear p10
                            try clear p101
                            try clear p2
                            try clear p6
                            try clear q1
                            try clear q10
                            try clear q101
                            obtain ⟨kq, x39_23, rfl, HA, HJ23, ⟨mc23, rfl⟩⟩ := hcut
                            cases kq with
                            | zero => exact absurd HA.out (by simp [recipe_names.j3])
                            | succ kj23 =>
                              have H := HA.out
                              clear HA
                              simp only [recipe_names.j3] at H
                              by_cases c26 : x39_23 = true
                              · subst c26
                                have H1 : (if (wrap64 ((l0.length : Int) - 1)) = 0 then (some 0) else (some (-1))) = some r := by rw [if_pos rfl] at H; exact H
                                clear H
                                have H := H1
                                clear H1
                                by_cases c27 : (wrap64 ((l0.length : Int) - 1)) = 0
                                · rw [if_pos c27] at H
                                  have c27b0 : ((wrap64 ((l0.length : Int) - 1)) == 0) = true := beq_iff_eq.mpr c27
                                  have c27b1 : ((wrap64 ((l0.length : Int) - 1)) != 0) = false := bne_eq_false_iff_eq.mpr c27
                                  clear c27
                                  obtain rfl := Option.some.inj H
                                  go_wp2
                                  go_ret
                                  exact ⟨by first | rfl | (simp; done) | (simp [*]; done), by repeat (first | exact Drawn0.refl _ | apply Drawn0.step)⟩
                                · rw [if_neg c27] at H
                                  have c27b0 : ((wrap64 ((l0.length : Int) - 1)) == 0) = false := beq_eq_false_iff_ne.mpr c27
                                  have c27b1 : ((wrap64 ((l0.length : Int) - 1)) != 0) = true := bne_iff_ne.mpr c27
                                  obtain rfl := Option.some.inj H
                                  go_wp2
                                  go_ret
                                  exact ⟨by first | rfl | (simp; done) | (simp [*]; done), by repeat (first | exact Drawn0.refl _ | apply Drawn0.step)⟩
                              · replace c26 := Bool.eq_false_iff.mpr c26
                                subst c26
                                have H1 : (some (-1)) = some r := by rw [if_neg (show ¬ (false = true) by decide)] at H; exact H
                                clear H
                                have H := H1
                                clear H1
                                obtain rfl := Option.some.inj H
                                go_wp2
                                go_ret
                                exact ⟨by first | rfl | (simp; done) | (simp [*]; done), by repeat (first | exact Drawn0.refl _ | apply Drawn0.step)⟩
  · rw [if_neg c2] at H
    exact absurd H (by simp)

end Go.Proofs.YtnjjnfbkilgidaaDoor.F
namespace Go.Proofs.YtnjjnfbkilgidaaDoor.F
open Go.Proofs.YtnjjnfbkilgidaaDoor.Fr
open Go.Proofs.YtnjjnfbkilgidaaDoor
open Go.RowKit Go.Proofs.YtnjjnfbkilgidaaDoorW.PrintWords Go.Proofs.YtnjjnfbkilgidaaDoorW.PrintLast Go.Proofs.YtnjjnfbkilgidaaDoorW.PrintMore
attribute [local go_sem] max2_int min2_int max_two min_two max_three min_three max_four min_four   -- for this text's walks alone
set_option linter.unusedVariables false
set_option linter.unusedSimpArgs false

/-! ### cooperagelaw15_short: function 9 -/
def cooperagelaw15_short.l0 : Nat → List ByteArray → Int → Option (Bool)
  | 0, _, _ => none
  | k + 1, x0, x3 => if x3 < (x0.length : Int) then (if 0 ≤ x3 then (if ((rdOf ByteArray.empty x0 x3).size : Int) > 5000 then (some false) else (cooperagelaw15_short.l0 k x0 (wrap64 (x3 + 1)))) else (none)) else (some true)
def cooperagelaw15_short.f (k : Nat) (l0 : List ByteArray) : Option (Bool) := if (l0.length : Int) > 30 then (some false) else (cooperagelaw15_short.l0 k l0 0)
theorem cooperagelaw15_short.mono_l : ∀ k, (∀ y0 y1, LeO (cooperagelaw15_short.l0 k y0 y1) (cooperagelaw15_short.l0 (k + 1) y0 y1))
  | 0 => fun _ _ r h => by simp [cooperagelaw15_short.l0] at h
  | k + 1 => by
    have ih0 := cooperagelaw15_short.mono_l k
    · intro y0 y1
      unfold cooperagelaw15_short.l0
      repeat' first
      | (with_reducible exact ih0 _ _)
      | (with_reducible exact LeO.refl _)
      | (with_reducible exact LeO.none _)
      | (with_reducible refine LeO.ite ?_ ?_)
      | (with_reducible refine LeO.bind ?_ (fun _ => ?_))
      | exact ih0 _ _
      | exact LeO.none _
      | refine LeO.ite ?_ ?_
      | refine LeO.bind ?_ (fun _ => ?_)
theorem cooperagelaw15_short.mono : ∀ a0 k, LeO (cooperagelaw15_short.f k a0) (cooperagelaw15_short.f (k + 1) a0) := by
  intro a0 k
  have ih0 := cooperagelaw15_short.mono_l k
  unfold cooperagelaw15_short.f
  repeat' first
      | (with_reducible exact ih0 _ _)
      | (with_reducible exact LeO.refl _)
      | (with_reducible exact LeO.none _)
      | (with_reducible refine LeO.ite ?_ ?_)
      | (with_reducible refine LeO.bind ?_ (fun _ => ?_))
      | exact ih0 _ _
      | exact LeO.none _
      | refine LeO.ite ?_ ?_
      | refine LeO.bind ?_ (fun _ => ?_)
set_option maxHeartbeats 8000000 in
set_option maxRecDepth 100000 in
theorem cooperagelaw15_short.calls (k : Nat) (A0 : Option Addr) (c0 : Nat) (l0 : List ByteArray) (r : Bool) (w : World) (hr0 : Kd.C Kd.string w A0 l0.length l0) (hc0 : l0.length ≤ c0) (h : cooperagelaw15_short.f k l0 = some r) :
    Calls Tryd.prog 9 #[.slice A0 l0.length c0] w fun e w' => e = .returned (.bool r) ∧ Drawn0 w w' := by
  have HR0 := Aside0.mk hr0
  have HC0 := Aside0.mk hc0
  clear hr0 hc0
  have H : (if (l0.length : Int) > 30 then (some false) else (cooperagelaw15_short.l0 k l0 0)) = some r := h
  clear h
  by_cases c2 : (l0.length : Int) > 30
  · rw [if_pos c2] at H
    have c2b0 : decide (30 < (l0.length : Int)) = true := decide_eq_true c2
    have c2b1 : decide (30 < l0.length) = true := decide_eq_true (by omega)
    clear c2
    obtain rfl := Option.some.inj H
    go_enter Tryd.func9, Tryd.ntmps9
    go_wp2
    go_ret
    exact ⟨by first | rfl | (simp; done) | (simp [*]; done), by repeat (first | exact Drawn0.refl _ | apply Drawn0.step)⟩
  · rw [if_neg c2] at H
    have c2b0 : decide (30 < (l0.length : Int)) = false := decide_eq_false c2
    have c2b1 : decide (30 < l0.length) = false := decide_eq_false (by omega)
    clear c2
    have H' := Aside0.mk H
    clear H
    go_enter Tryd.func9, Tryd.ntmps9
    go_wp2
    go_loopg [3] k (fun kq v3 w' => ∃ (x3_1 : Int), v3 = .int .i64 x3_1 ∧ Aside0 (cooperagelaw15_short.l0 kq l0 x3_1 = some r) ∧ Aside0 (kq ≤ k) ∧ Drawn0 w w')
    case atStart => exact ⟨(0), (by first | rfl | (simp; done) | (simp [*]; done)), H', ⟨Nat.le_refl _⟩, by repeat (first | exact Drawn0.refl _ | apply Drawn0.step)⟩
    case round =>
      clear H'
      try clear c2
      try clear c2b0
      try clear c2b1
      try clear p2
      obtain ⟨x3_1, rfl, HA, HK1, ⟨m1, rfl⟩⟩ := hrel
      cases gk with
      | zero => exact absurd HA.out (by simp [cooperagelaw15_short.l0])
      | succ k1 =>
        have H := HA.out
        clear HA
        simp only [cooperagelaw15_short.l0] at H
        by_cases c3 : x3_1 < (l0.length : Int)
        · rw [if_pos c3] at H
          have c3b0 : decide (x3_1 < (l0.length : Int)) = true := decide_eq_true c3
          clear c3
          by_cases c4 : 0 ≤ x3_1
          · rw [if_pos c4] at H
            have c4b0 : decide (0 ≤ x3_1) = true := decide_eq_true c4
            clear c4
            by_cases c5 : ((rdOf ByteArray.empty l0 x3_1).size : Int) > 5000
            · rw [if_pos c5] at H
              have c5b0 : decide (5000 < ((rdOf ByteArray.empty l0 x3_1).size : Int)) = true := decide_eq_true c5
              have c5b1 : decide (5000 < (rdOf ByteArray.empty l0 x3_1).size) = true := decide_eq_true (by omega)
              clear c5
              obtain rfl := Option.some.inj H
              have p102 : 0 ≤ (x3_1 : Int) := of_decide_eq_true (by first | (with_reducible assumption) | assumption)
              have q102 : x3_1 < (l0.length : Int) := of_decide_eq_true (by first | (with_reducible assumption) | assumption)
              obtain ⟨ad102, e102, hx102_0⟩ := Kd.at_string HR0.out x3_1 p102 q102
              cases e102
              replace p102 := eq_true p102
              replace q102 := eq_true q102
              go_wp2
              go_ret
              exact ⟨by first | rfl | (simp; done) | (simp [*]; done), by repeat (first | exact Drawn0.refl _ | apply Drawn0.step)⟩
            · rw [if_neg c5] at H
              have c5b0 : decide (5000 < ((rdOf ByteArray.empty l0 x3_1).size : Int)) = false := decide_eq_false c5
              have c5b1 : decide (5000 < (rdOf ByteArray.empty l0 x3_1).size) = false := decide_eq_false (by omega)
              clear c5
              have H' := Aside0.mk H
              clear H
              have p102 : 0 ≤ (x3_1 : Int) := of_decide_eq_true (by first | (with_reducible assumption) | assumption)
              have q102 : x3_1 < (l0.length : Int) := of_decide_eq_true (by first | (with_reducible assumption) | assumption)
              obtain ⟨ad102, e102, hx102_0⟩ := Kd.at_string HR0.out x3_1 p102 q102
              cases e102
              replace p102 := eq_true p102
              replace q102 := eq_true q102
              go_wp2
              go_roundg k1
              case measure => have := HK1.out; omega
              case rel => exact ⟨(wrap64 (x3_1 + 1)), (by first | rfl | (simp; done) | (simp [*]; done)), H', ⟨by have := HK1.out; omega⟩, by repeat (first | exact Drawn0.refl _ | apply Drawn0.step)⟩
          · rw [if_neg c4] at H
            exact absurd H (by simp)
        · rw [if_neg c3] at H
          have c3b0 : decide (x3_1 < (l0.length : Int)) = false := decide_eq_false c3
          clear c3
          obtain rfl := Option.some.inj H
          go_wp2
          go_ret
          exact ⟨by first | rfl | (simp; done) | (simp [*]; done), by repeat (first | exact Drawn0.refl _ | apply Drawn0.step)⟩

/-! ### cooperagelaw15_small: function 10 -/
def cooperagelaw15_small.l0 : Nat → List (S31) → Int → Option (Bool)
  | 0, _, _ => none
  | k + 1, x0, x3 => if x3 < (x0.length : Int) then (if 0 ≤ x3 then (if (((rd_T31 x0 x3).f1).size : Int) > 5000 then (some false) else (if (((rd_T31 x0 x3).f0).size : Int) > 120 then (some false) else (cooperagelaw15_small.l0 k x0 (wrap64 (x3 + 1))))) else (none)) else (some true)
def cooperagelaw15_small.f (k : Nat) (l0 : List (S31)) : Option (Bool) := if (l0.length : Int) > 12 then (some false) else (cooperagelaw15_small.l0 k l0 0)
theorem cooperagelaw15_small.mono_l : ∀ k, (∀ y0 y1, LeO (cooperagelaw15_small.l0 k y0 y1) (cooperagelaw15_small.l0 (k + 1) y0 y1))
  | 0 => fun _ _ r h => by simp [cooperagelaw15_small.l0] at h
  | k + 1 => by
    have ih0 := cooperagelaw15_small.mono_l k
    · intro y0 y1
      unfold cooperagelaw15_small.l0
      repeat' first
      | (with_reducible exact ih0 _ _)
      | (with_reducible exact LeO.refl _)
      | (with_reducible exact LeO.none _)
      | (with_reducible refine LeO.ite ?_ ?_)
      | (with_reducible refine LeO.bind ?_ (fun _ => ?_))
      | exact ih0 _ _
      | exact LeO.none _
      | refine LeO.ite ?_ ?_
      | refine LeO.bind ?_ (fun _ => ?_)
theorem cooperagelaw15_small.mono : ∀ a0 k, LeO (cooperagelaw15_small.f k a0) (cooperagelaw15_small.f (k + 1) a0) := by
  intro a0 k
  have ih0 := cooperagelaw15_small.mono_l k
  unfold cooperagelaw15_small.f
  repeat' first
      | (with_reducible exact ih0 _ _)
      | (with_reducible exact LeO.refl _)
      | (with_reducible exact LeO.none _)
      | (with_reducible refine LeO.ite ?_ ?_)
      | (with_reducible refine LeO.bind ?_ (fun _ => ?_))
      | exact ih0 _ _
      | exact LeO.none _
      | refine LeO.ite ?_ ?_
      | refine LeO.bind ?_ (fun _ => ?_)
set_option maxHeartbeats 8000000 in
set_option maxRecDepth 100000 in
theorem cooperagelaw15_small.calls (k : Nat) (A0 : Option Addr) (c0 : Nat) (l0 : List (S31)) (r : Bool) (w : World) (hr0 : Kd.C k31 w A0 l0.length l0) (hc0 : l0.length ≤ c0) (h : cooperagelaw15_small.f k l0 = some r) :
    Calls Tryd.prog 10 #[.slice A0 l0.length c0] w fun e w' => e = .returned (.bool r) ∧ Drawn0 w w' := by
  have HR0 := Aside0.mk hr0
  have HC0 := Aside0.mk hc0
  clear hr0 hc0
  have H : (if (l0.length : Int) > 12 then (some false) else (cooperagelaw15_small.l0 k l0 0)) = some r := h
  clear h
  by_cases c2 : (l0.length : Int) > 12
  · rw [if_pos c2] at H
    have c2b0 : decide (12 < (l0.length : Int)) = true := decide_eq_true c2
    have c2b1 : decide (12 < l0.length) = true := decide_eq_true (by omega)
    clear c2
    obtain rfl := Option.some.inj H
    go_enter Tryd.func10, Tryd.ntmps10
    go_wp2
    go_ret
    exact ⟨by first | rfl | (simp; done) | (simp [*]; done), by repeat (first | exact Drawn0.refl _ | apply Drawn0.step)⟩
  · rw [if_neg c2] at H
    have c2b0 : decide (12 < (l0.length : Int)) = false := decide_eq_false c2
    have c2b1 : decide (12 < l0.length) = false := decide_eq_false (by omega)
    clear c2
    have H' := Aside0.mk H
    clear H
    go_enter Tryd.func10, Tryd.ntmps10
    go_wp2
    go_loopg [3] k (fun kq v3 w' => ∃ (x3_1 : Int), v3 = .int .i64 x3_1 ∧ Aside0 (cooperagelaw15_small.l0 kq l0 x3_1 = some r) ∧ Aside0 (kq ≤ k) ∧ Drawn0 w w')
    case atStart => exact ⟨(0), (by first | rfl | (simp; done) | (simp [*]; done)), H', ⟨Nat.le_refl _⟩, by repeat (first | exact Drawn0.refl _ | apply Drawn0.step)⟩
    case round =>
      clear H'
      try clear c1
      try clear c2
      try clear c2b0
      try clear c2b1
      try clear p2
      obtain ⟨x3_1, rfl, HA, HK1, ⟨m1, rfl⟩⟩ := hrel
      cases gk with
      | zero => exact absurd HA.out (by simp [cooperagelaw15_small.l0])
      | succ k1 =>
        have H := HA.out
        clear HA
        simp only [cooperagelaw15_small.l0] at H
        by_cases c3 : x3_1 < (l0.length : Int)
        · rw [if_pos c3] at H
          have c3b0 : decide (x3_1 < (l0.length : Int)) = true := decide_eq_true c3
          clear c3
          by_cases c4 : 0 ≤ x3_1
          · rw [if_pos c4] at H
            have c4b0 : decide (0 ≤ x3_1) = true := decide_eq_true c4
            clear c4
            by_cases c5 : (((rd_T31 l0 x3_1).f1).size : Int) > 5000
            · rw [if_pos c5] at H
              have c5b0 : decide (5000 < (((rd_T31 l0 x3_1).f1).size : Int)) = true := decide_eq_true c5
              have c5b1 : decide (5000 < ((rd_T31 l0 x3_1).f1).size) = true := decide_eq_true (by omega)
              clear c5
              obtain rfl := Option.some.inj H
              have p103 : 0 ≤ (x3_1 : Int) := of_decide_eq_true (by first | (with_reducible assumption) | assumption)
              have q103 : x3_1 < (l0.length : Int) := of_decide_eq_true (by first | (with_reducible assumption) | assumption)
              obtain ⟨ad103, e103, hx103_0, hx103_1⟩ := at_T31 HR0.out x3_1 p103 q103
              cases e103
              replace p103 := eq_true p103
              replace q103 := eq_true q103
              go_wp2
              go_ret
              exact ⟨by first | rfl | (simp; done) | (simp [*]; done), by repeat (first | exact Drawn0.refl _ | apply Drawn0.step)⟩
            · rw [if_neg c5] at H
              have c5b0 : decide (5000 < (((rd_T31 l0 x3_1).f1).size : Int)) = false := decide_eq_false c5
              have c5b1 : decide (5000 < ((rd_T31 l0 x3_1).f1).size) = false := decide_eq_false (by omega)
              clear c5
              by_cases c6 : (((rd_T31 l0 x3_1).f0).size : Int) > 120
              · rw [if_pos c6] at H
                have c6b0 : decide (120 < (((rd_T31 l0 x3_1).f0).size : Int)) = true := decide_eq_true c6
                have c6b1 : decide (120 < ((rd_T31 l0 x3_1).f0).size) = true := decide_eq_true (by omega)
                clear c6
                obtain rfl := Option.some.inj H
                have p103 : 0 ≤ (x3_1 : Int) := of_decide_eq_true (by first | (with_reducible assumption) | assumption)
                have q103 : x3_1 < (l0.length : Int) := of_decide_eq_true (by first | (with_reducible assumption) | assumption)
                obtain ⟨ad103, e103, hx103_0, hx103_1⟩ := at_T31 HR0.out x3_1 p103 q103
                cases e103
                replace p103 := eq_true p103
                replace q103 := eq_true q103
                have p104 : 0 ≤ (x3_1 : Int) := of_decide_eq_true (by first | (with_reducible assumption) | assumption)
                have q104 : x3_1 < (l0.length : Int) := of_decide_eq_true (by first | (with_reducible assumption) | assumption)
                obtain ⟨ad104, e104, hx104_0, hx104_1⟩ := at_T31 HR0.out x3_1 p104 q104
                obtain rfl : ad103 = ad104 := (by injection e104)
                replace p104 := eq_true p104
                replace q104 := eq_true q104
                go_wp2
                go_ret
                exact ⟨by first | rfl | (simp; done) | (simp [*]; done), by repeat (first | exact Drawn0.refl _ | apply Drawn0.step)⟩
              · rw [if_neg c6] at H
                have c6b0 : decide (120 < (((rd_T31 l0 x3_1).f0).size : Int)) = false := decide_eq_false c6
                have c6b1 : decide (120 < ((rd_T31 l0 x3_1).f0).size) = false := decide_eq_false (by omega)
                clear c6
                have H' := Aside0.mk H
                clear H
                have p103 : 0 ≤ (x3_1 : Int) := of_decide_eq_true (by first | (with_reducible assumption) | assumption)
                have q103 : x3_1 < (l0.length : Int) := of_decide_eq_true (by first | (with_reducible assumption) | assumption)
                obtain ⟨ad103, e103, hx103_0, hx103_1⟩ := at_T31 HR0.out x3_1 p103 q103
                cases e103
                replace p103 := eq_true p103
                replace q103 := eq_true q103
                have p104 : 0 ≤ (x3_1 : Int) := of_decide_eq_true (by first | (with_reducible assumption) | assumption)
                have q104 : x3_1 < (l0.length : Int) := of_decide_eq_true (by first | (with_reducible assumption) | assumption)
                obtain ⟨ad104, e104, hx104_0, hx104_1⟩ := at_T31 HR0.out x3_1 p104 q104
                obtain rfl : ad103 = ad104 := (by injection e104)
                replace p104 := eq_true p104
                replace q104 := eq_true q104
                go_wp2
                go_roundg k1
                case measure => have := HK1.out; omega
                case rel => exact ⟨(wrap64 (x3_1 + 1)), (by first | rfl | (simp; done) | (simp [*]; done)), H', ⟨by have := HK1.out; omega⟩, by repeat (first | exact Drawn0.refl _ | apply Drawn0.step)⟩
          · rw [if_neg c4] at H
            exact absurd H (by simp)
        · rw [if_neg c3] at H
          have c3b0 : decide (x3_1 < (l0.length : Int)) = false := decide_eq_false c3
          clear c3
          obtain rfl := Option.some.inj H
          go_wp2
          go_ret
          exact ⟨by first | rfl | (simp; done) | (simp [*]; done), by repeat (first | exact Drawn0.refl _ | apply Drawn0.step)⟩

end Go.Proofs.YtnjjnfbkilgidaaDoor.F
namespace Go.Proofs.YtnjjnfbkilgidaaDoor.F
open Go.Proofs.YtnjjnfbkilgidaaDoor.Fr
open Go.Proofs.YtnjjnfbkilgidaaDoor
open Go.RowKit Go.Proofs.YtnjjnfbkilgidaaDoorW.PrintWords Go.Proofs.YtnjjnfbkilgidaaDoorW.PrintLast Go.Proofs.YtnjjnfbkilgidaaDoorW.PrintMore
attribute [local go_sem] max2_int min2_int max_two min_two max_three min_three max_four min_four   -- for this text's walks alone
set_option linter.unusedVariables false
set_option linter.unusedSimpArgs false

/-! ### cooperagelaw15_named: function 12 -/
mutual
def cooperagelaw15_named.l0 : Nat → List ByteArray → Int → Option (Bool)
  | 0, _, _ => none
  | k + 1, x0, x3 => if x3 < (x0.length : Int) then (cooperagelaw15_named.l1 k x0 x3 0) else (some false)
def cooperagelaw15_named.l1 : Nat → List ByteArray → Int → Int → Option (Bool)
  | 0, _, _, _ => none
  | k + 1, x0, x3, x4 => if 0 ≤ x3 then (if x3 < (x0.length : Int) then (if (wrap64 (x4 + 9)) ≤ ((rdOf ByteArray.empty x0 x3).size : Int) then (if 0 ≤ x4 then (if x4 ≤ (wrap64 (x4 + 9)) then (if ((rdOf ByteArray.empty x0 x3).extract (x4 : Int).toNat ((wrap64 (x4 + 9)) : Int).toNat).toList = ([110, 111, 110, 101, 47, 115, 117, 99, 104] : List UInt8) then (some true) else (cooperagelaw15_named.l1 k x0 x3 (wrap64 (x4 + 1)))) else (none)) else (none)) else (cooperagelaw15_named.l0 k x0 (wrap64 (x3 + 1)))) else (none)) else (none)
end
def cooperagelaw15_named.f (k : Nat) (l0 : List ByteArray) : Option (Bool) := cooperagelaw15_named.l0 k l0 0
theorem cooperagelaw15_named.mono_l : ∀ k, (∀ y0 y1, LeO (cooperagelaw15_named.l0 k y0 y1) (cooperagelaw15_named.l0 (k + 1) y0 y1)) ∧ (∀ y0 y1 y2, LeO (cooperagelaw15_named.l1 k y0 y1 y2) (cooperagelaw15_named.l1 (k + 1) y0 y1 y2))
  | 0 => ⟨fun _ _ r h => by simp [cooperagelaw15_named.l0] at h, fun _ _ _ r h => by simp [cooperagelaw15_named.l1] at h⟩
  | k + 1 => by
    obtain ⟨ih0, ih1⟩ := cooperagelaw15_named.mono_l k
    refine ⟨?_, ?_⟩
    · intro y0 y1
      unfold cooperagelaw15_named.l0
      repeat' first
      | (with_reducible exact ih0 _ _)
      | (with_reducible exact ih1 _ _ _)
      | (with_reducible exact LeO.refl _)
      | (with_reducible exact LeO.none _)
      | (with_reducible refine LeO.ite ?_ ?_)
      | (with_reducible refine LeO.bind ?_ (fun _ => ?_))
      | exact ih0 _ _
      | exact ih1 _ _ _
      | exact LeO.none _
      | refine LeO.ite ?_ ?_
      | refine LeO.bind ?_ (fun _ => ?_)
    · intro y0 y1 y2
      unfold cooperagelaw15_named.l1
      repeat' first
      | (with_reducible exact ih0 _ _)
      | (with_reducible exact ih1 _ _ _)
      | (with_reducible exact LeO.refl _)
      | (with_reducible exact LeO.none _)
      | (with_reducible refine LeO.ite ?_ ?_)
      | (with_reducible refine LeO.bind ?_ (fun _ => ?_))
      | exact ih0 _ _
      | exact ih1 _ _ _
      | exact LeO.none _
      | refine LeO.ite ?_ ?_
      | refine LeO.bind ?_ (fun _ => ?_)
theorem cooperagelaw15_named.mono : ∀ a0 k, LeO (cooperagelaw15_named.f k a0) (cooperagelaw15_named.f (k + 1) a0) := by
  intro a0 k
  obtain ⟨ih0, ih1⟩ := cooperagelaw15_named.mono_l k
  unfold cooperagelaw15_named.f
  repeat' first
      | (with_reducible exact ih0 _ _)
      | (with_reducible exact ih1 _ _ _)
      | (with_reducible exact LeO.refl _)
      | (with_reducible exact LeO.none _)
      | (with_reducible refine LeO.ite ?_ ?_)
      | (with_reducible refine LeO.bind ?_ (fun _ => ?_))
      | exact ih0 _ _
      | exact ih1 _ _ _
      | exact LeO.none _
      | refine LeO.ite ?_ ?_
      | refine LeO.bind ?_ (fun _ => ?_)
set_option maxHeartbeats 8000000 in
set_option maxRecDepth 100000 in
theorem cooperagelaw15_named.calls (k : Nat) (A0 : Option Addr) (c0 : Nat) (l0 : List ByteArray) (r : Bool) (w : World) (hr0 : Kd.C Kd.string w A0 l0.length l0) (hc0 : l0.length ≤ c0) (h : cooperagelaw15_named.f k l0 = some r) :
    Calls Tryd.prog 12 #[.slice A0 l0.length c0] w fun e w' => e = .returned (.bool r) ∧ Drawn0 w w' := by
  have HR0 := Aside0.mk hr0
  have HC0 := Aside0.mk hc0
  clear hr0 hc0
  have H : (cooperagelaw15_named.l0 k l0 0) = some r := h
  clear h
  have H' := Aside0.mk H
  clear H
  go_enter Tryd.func12, Tryd.ntmps12
  go_wp2
  go_loopg [3] k (fun kq v3 w' => ∃ (x3_1 : Int), v3 = .int .i64 x3_1 ∧ Aside0 (cooperagelaw15_named.l0 kq l0 x3_1 = some r) ∧ Aside0 (kq ≤ k) ∧ Drawn0 w w')
  case atStart => exact ⟨(0), (by first | rfl | (simp; done) | (simp [*]; done)), H', ⟨Nat.le_refl _⟩, by repeat (first | exact Drawn0.refl _ | apply Drawn0.step)⟩
  case round =>
    clear H'
    try clear c1
    obtain ⟨x3_1, rfl, HA, HK1, ⟨m1, rfl⟩⟩ := hrel
    cases gk with
    | zero => exact absurd HA.out (by simp [cooperagelaw15_named.l0])
    | succ k1 =>
      have H := HA.out
      clear HA
      simp only [cooperagelaw15_named.l0] at H
      by_cases c2 : x3_1 < (l0.length : Int)
      · rw [if_pos c2] at H
        have c2b0 : decide (x3_1 < (l0.length : Int)) = true := decide_eq_true c2
        clear c2
        have H' := Aside0.mk H
        clear H
        go_wp2
        go_loopg [4] k1 (fun kq v4 w' => ∃ (x4_2 : Int), v4 = .int .i64 x4_2 ∧ Aside0 (cooperagelaw15_named.l1 kq l0 x3_1 x4_2 = some r) ∧ Aside0 (kq ≤ k1) ∧ Drawn0 w w')
        case atStart => exact ⟨(0), (by first | rfl | (simp; done) | (simp [*]; done)), H', ⟨Nat.le_refl _⟩, by repeat (first | exact Drawn0.refl _ | apply Drawn0.step)⟩
        case round =>
          clear H'
          try clear c1
          try clear c2
          try clear c2b0
          try clear p2
          obtain ⟨x4_2, rfl, HA, HK2, ⟨m2, rfl⟩⟩ := hrel
          cases gk with
          | zero => exact absurd HA.out (by simp [cooperagelaw15_named.l1])
          | succ k2 =>
            have H := HA.out
            clear HA
            simp only [cooperagelaw15_named.l1] at H
            by_cases c3 : 0 ≤ x3_1
            · rw [if_pos c3] at H
              have c3b0 : decide (0 ≤ x3_1) = true := decide_eq_true c3
              clear c3
              by_cases c4 : x3_1 < (l0.length : Int)
              · rw [if_pos c4] at H
                have c4b0 : decide (x3_1 < (l0.length : Int)) = true := decide_eq_true c4
                clear c4
                by_cases c5 : (wrap64 (x4_2 + 9)) ≤ ((rdOf ByteArray.empty l0 x3_1).size : Int)
                · rw [if_pos c5] at H
                  have c5b0 : decide ((wrap64 (x4_2 + 9)) ≤ ((rdOf ByteArray.empty l0 x3_1).size : Int)) = true := decide_eq_true c5
                  clear c5
                  by_cases c6 : 0 ≤ x4_2
                  · rw [if_pos c6] at H
                    have c6b0 := eq_true c6
                    have c6b1 : decide (0 ≤ x4_2) = true := decide_eq_true c6
                    clear c6
                    by_cases c7 : x4_2 ≤ (wrap64 (x4_2 + 9))
                    · rw [if_pos c7] at H
                      have c7b0 := eq_true c7
                      have c7b1 : decide (x4_2 ≤ (wrap64 (x4_2 + 9))) = true := decide_eq_true c7
                      have c8b0 := eq_true (of_decide_eq_true (by first | (with_reducible assumption) | assumption) : (wrap64 (x4_2 + 9)) ≤ ((rdOf ByteArray.empty l0 x3_1).size : Int))
                      by_cases c9 : ((rdOf ByteArray.empty l0 x3_1).extract (x4_2 : Int).toNat ((wrap64 (x4_2 + 9)) : Int).toNat).toList = ([110, 111, 110, 101, 47, 115, 117, 99, 104] : List UInt8)
                      · rw [if_pos c9] at H
                        have c9b0 : (((rdOf ByteArray.empty l0 x3_1).extract (x4_2 : Int).toNat ((wrap64 (x4_2 + 9)) : Int).toNat).toList == ([110, 111, 110, 101, 47, 115, 117, 99, 104] : List UInt8)) = true := beq_iff_eq.mpr c9
                        have c9b1 : (((rdOf ByteArray.empty l0 x3_1).extract (x4_2 : Int).toNat ((wrap64 (x4_2 + 9)) : Int).toNat).toList != ([110, 111, 110, 101, 47, 115, 117, 99, 104] : List UInt8)) = false := bne_eq_false_iff_eq.mpr c9
                        clear c9
                        obtain rfl := Option.some.inj H
                        have p105 : 0 ≤ (x3_1 : Int) := of_decide_eq_true (by first | (with_reducible assumption) | assumption)
                        have q105 : x3_1 < (l0.length : Int) := of_decide_eq_true (by first | (with_reducible assumption) | assumption)
                        obtain ⟨ad105, e105, hx105_0⟩ := Kd.at_string HR0.out x3_1 p105 q105
                        cases e105
                        replace p105 := eq_true p105
                        replace q105 := eq_true q105
                        have p106 : 0 ≤ (x3_1 : Int) := of_decide_eq_true (by first | (with_reducible assumption) | assumption)
                        have q106 : x3_1 < (l0.length : Int) := of_decide_eq_true (by first | (with_reducible assumption) | assumption)
                        obtain ⟨ad106, e106, hx106_0⟩ := Kd.at_string HR0.out x3_1 p106 q106
                        obtain rfl : ad105 = ad106 := (by injection e106)
                        replace p106 := eq_true p106
                        replace q106 := eq_true q106
                        go_wp2
                        go_ret
                        exact ⟨by first | rfl | (simp; done) | (simp [*]; done), by repeat (first | exact Drawn0.refl _ | apply Drawn0.step)⟩
                      · rw [if_neg c9] at H
                        have c9b0 : (((rdOf ByteArray.empty l0 x3_1).extract (x4_2 : Int).toNat ((wrap64 (x4_2 + 9)) : Int).toNat).toList == ([110, 111, 110, 101, 47, 115, 117, 99, 104] : List UInt8)) = false := beq_eq_false_iff_ne.mpr c9
                        have c9b1 : (((rdOf ByteArray.empty l0 x3_1).extract (x4_2 : Int).toNat ((wrap64 (x4_2 + 9)) : Int).toNat).toList != ([110, 111, 110, 101, 47, 115, 117, 99, 104] : List UInt8)) = true := bne_iff_ne.mpr c9
                        have H' := Aside0.mk H
                        clear H
                        have p105 : 0 ≤ (x3_1 : Int) := of_decide_eq_true (by first | (with_reducible assumption) | assumption)
                        have q105 : x3_1 < (l0.length : Int) := of_decide_eq_true (by first | (with_reducible assumption) | assumption)
                        obtain ⟨ad105, e105, hx105_0⟩ := Kd.at_string HR0.out x3_1 p105 q105
                        cases e105
                        replace p105 := eq_true p105
                        replace q105 := eq_true q105
                        have p106 : 0 ≤ (x3_1 : Int) := of_decide_eq_true (by first | (with_reducible assumption) | assumption)
                        have q106 : x3_1 < (l0.length : Int) := of_decide_eq_true (by first | (with_reducible assumption) | assumption)
                        obtain ⟨ad106, e106, hx106_0⟩ := Kd.at_string HR0.out x3_1 p106 q106
                        obtain rfl : ad105 = ad106 := (by injection e106)
                        replace p106 := eq_true p106
                        replace q106 := eq_true q106
                        go_wp2
                        go_roundg k2
                        case measure => have := HK1.out; have := HK2.out; omega
                        case rel => exact ⟨(wrap64 (x4_2 + 1)), (by first | rfl | (simp; done) | (simp [*]; done)), H', ⟨by have := HK1.out; have := HK2.out; omega⟩, by repeat (first | exact Drawn0.refl _ | apply Drawn0.step)⟩
                    · rw [if_neg c7] at H
                      exact absurd H (by simp)
                  · rw [if_neg c6] at H
                    exact absurd H (by simp)
                · rw [if_neg c5] at H
                  have c5b0 : decide ((wrap64 (x4_2 + 9)) ≤ ((rdOf ByteArray.empty l0 x3_1).size : Int)) = false := decide_eq_false c5
                  clear c5
                  have H' := Aside0.mk H
                  clear H
                  have p105 : 0 ≤ (x3_1 : Int) := of_decide_eq_true (by first | (with_reducible assumption) | assumption)
                  have q105 : x3_1 < (l0.length : Int) := of_decide_eq_true (by first | (with_reducible assumption) | assumption)
                  obtain ⟨ad105, e105, hx105_0⟩ := Kd.at_string HR0.out x3_1 p105 q105
                  cases e105
                  replace p105 := eq_true p105
                  replace q105 := eq_true q105
                  go_wp2
                  go_roundg k2
                  case measure => have := HK1.out; have := HK2.out; omega
                  case rel => exact ⟨(wrap64 (x3_1 + 1)), (by first | rfl | (simp; done) | (simp [*]; done)), H', ⟨by have := HK1.out; have := HK2.out; omega⟩, by repeat (first | exact Drawn0.refl _ | apply Drawn0.step)⟩
              · rw [if_neg c4] at H
                exact absurd H (by simp)
            · rw [if_neg c3] at H
              exact absurd H (by simp)
      · rw [if_neg c2] at H
        have c2b0 : decide (x3_1 < (l0.length : Int)) = false := decide_eq_false c2
        clear c2
        obtain rfl := Option.some.inj H
        go_wp2
        go_ret
        exact ⟨by first | rfl | (simp; done) | (simp [*]; done), by repeat (first | exact Drawn0.refl _ | apply Drawn0.step)⟩

end Go.Proofs.YtnjjnfbkilgidaaDoor.F
namespace Go.Proofs.YtnjjnfbkilgidaaDoor.F
open Go.Proofs.YtnjjnfbkilgidaaDoor.Fr
open Go.Proofs.YtnjjnfbkilgidaaDoor
open Go.RowKit Go.Proofs.YtnjjnfbkilgidaaDoorW.PrintWords Go.Proofs.YtnjjnfbkilgidaaDoorW.PrintLast Go.Proofs.YtnjjnfbkilgidaaDoorW.PrintMore
attribute [local go_sem] max2_int min2_int max_two min_two max_three min_three max_four min_four   -- for this text's walks alone
set_option linter.unusedVariables false
set_option linter.unusedSimpArgs false

end Go.Proofs.YtnjjnfbkilgidaaDoor.F
/- text.Path. -/
namespace Go.Proofs.YtnjjnfbkilgidaaDoor.Fr
open Go.RowKit Go.Proofs.YtnjjnfbkilgidaaDoor.F Go.Proofs.YtnjjnfbkilgidaaDoorW.PrintWords
set_option linter.unusedVariables false
set_option linter.unusedSimpArgs false
def plainI (c : Int) : Bool := decide (65 ≤ c ∧ c ≤ 90) || decide (97 ≤ c ∧ c ≤ 122) || decide (48 ≤ c ∧ c ≤ 57) || decide (c = 95 ∨ c = 45 ∨ c = 46 ∨ c = 47 ∨ c = 43)
theorem plain_tail (c : Int) : (if c = 95 then some true else (if c = 45 then some true else (if c = 46 then some true else (if c = 47 then some true else some (c == 43))))) = some (decide (c = 95 ∨ c = 45 ∨ c = 46 ∨ c = 47 ∨ c = 43)) := by
  by_cases h1 : c = 95
  · simp [h1]
  by_cases h2 : c = 45
  · simp [h2]
  by_cases h3 : c = 46
  · simp [h3]
  by_cases h4 : c = 47
  · simp [h4]
  by_cases h5 : c = 43
  · simp [h5]
  have : (c == 43) = false := by simpa using h5
  simp [h1, h2, h3, h4, h5, this]
theorem plain_f (c : Int) : text_plain.f 5 c = some (plainI c) := by
  unfold text_plain.f plainI
  simp only [text_plain.j0, text_plain.j1, plain_tail]
  generalize decide (c = 95 ∨ c = 45 ∨ c = 46 ∨ c = 47 ∨ c = 43) = t
  by_cases h1 : 65 ≤ c <;> by_cases h2 : c ≤ 90 <;> by_cases h3 : 97 ≤ c <;> by_cases h4 : c ≤ 122 <;> by_cases h5 : 48 ≤ c <;> by_cases h6 : c ≤ 57 <;> simp [h1, h2, h3, h4, h5, h6]
theorem plain_walk (c : Int) (w : World) : Calls Tryd.prog 42 #[.int .u8 c] w fun e w' => e = .returned (.bool (plainI c)) ∧ Drawn0 w w' := text_plain.calls 5 c _ w (plain_f c)
/-! #### Path -/
def slashB : ByteArray := ⟨#[47]⟩
def partsB (s : ByteArray) : List ByteArray := Lib.splitB slashB 0 (Lib.countB s slashB) s
def badPart (p : ByteArray) : Bool := p.toList.isEmpty || p.toList == [46] || p.toList == [46, 46]
def pathV (s : ByteArray) : Bool := (s.data.toList.all fun c => plainI c.toNat) && (partsB s).all (fun p => !badPart p) && decide ((s.size : Int) ≤ 100) && decide (((partsB s).length : Int) ≤ 8)
set_option maxHeartbeats 2000000 in
set_option maxRecDepth 100000 in
theorem path_walk (s : ByteArray) (hs : s.size ≤ 100000) (m : Int) (w : World) (hw : 0 < w.heap.size) (hm : w.cell? ⟨0, 0, none⟩ = some (.int .i64 m)) : Calls Tryd.prog 27 #[.string s] w fun e w' => e = .returned (.bool (pathV s)) ∧ Below w.heap.size w w' := by
  have hcv := fun (W : World) => Lib.run_convert_string_bytes (P := Tryd.prog) W 9 68 5 s Tryd.underlying9 Tryd.underlying68 Tryd.underlying5
  have HM := Lib.hid hm
  clear hm
  go_enter Tryd.func27, Tryd.ntmps27
  go_wp2
  clear hcv
  obtain ⟨w0, hw0⟩ : ∃ w0, Lib.bytesWorld w 5 s = w0 := ⟨_, rfl⟩
  have hs0 : w0.heap.size = w.heap.size + 1 := by rw [← hw0, Lib.bytesWorld_size]
  have hcell : Hid (∀ j, j < s.size → w0.cell? ⟨w.heap.size, j, none⟩ = some (.int .u8 (s.data.toList.getD j 0).toNat)) := by
    intro j hj
    rw [← hw0]
    exact Lib.bytesWorld_cell w 5 s j hj
  have hB0 : Hid (Below w.heap.size w w0) := by
    rw [Hid, ← hw0]
    exact ⟨rfl, rfl, rfl, by rw [Lib.bytesWorld_size]; omega, fun k hk => Lib.bytesWorld_at_old _ 5 s k hk⟩
  have hm0 : Hid (w0.cell? ⟨0, 0, none⟩ = some (.int .i64 m)) := (hB0.out.cell (p := ⟨0, 0, none⟩) hw).trans HM.out
  rw [hw0]
  clear hw0
  obtain ⟨r, hr⟩ : ∃ r, Hid (pathV s = r) := ⟨_, Lib.hid rfl⟩
  go_loopw [11] (fun i wr => ∃ (k nd : Nat), k ≤ s.size ∧ i = .int .i64 k ∧ wr = w0.drewN nd ∧ Hid ((s.data.toList.take k).all (fun c => plainI c.toNat) = true))
    (fun i _ => s.size - (intOf i).toNat)
  case atStart => exact ⟨0, 0, Nat.zero_le _, rfl, rfl, rfl⟩
  case round =>
    obtain ⟨k, nd, hk, rfl, rfl, hall⟩ := hrel
    by_cases hlt : k < s.size
    · have hc : (w0.drewN nd).cell? ⟨w.heap.size, k, none⟩ = some (.int .u8 (s.data.toList.getD k 0).toNat) := hcell.out k hlt
      have hk' : k < s.data.toList.length := by simpa using hlt
      obtain ⟨c, hcc⟩ : ∃ c, Hid (s.data.toList.getD k 0 = c) := ⟨_, Lib.hid rfl⟩
      rw [hcc.out] at hc
      have hstep : Hid ((s.data.toList.take (k + 1)).all (fun c => plainI c.toNat) = ((s.data.toList.take k).all (fun c => plainI c.toNat) && plainI c.toNat)) := by
        rw [Hid, List.take_succ_eq_append_getElem hk', List.all_append, ← hcc.out]
        simp [List.getD_eq_getElem?_getD, List.getElem?_eq_getElem hk']
      have hcl := UInt8.toNat_lt c
      have hmem : Hid (c ∈ s.data.toList) := by
        rw [Hid, ← hcc.out, List.getD_eq_getElem?_getD, List.getElem?_eq_getElem hk']
        exact List.getElem_mem hk'
      have hcN : Hid (c.toNat = c.toNat) := rfl
      cases hp : plainI (c.toNat : Int) with
      | true =>
        have hp' := Lib.hid hp
        generalize hn : c.toNat = n at hc hcl hp
        go_wp2_with (go_at_call 42; refine (plain_walk _ _).mono ?_; rintro e w1 ⟨rfl, ⟨n1, rfl⟩⟩; rw [hp])
        go_roundw
        case rel => exact ⟨k + 1, nd + n1, by omega, by go_num, rfl, by rw [Hid, hstep.out, hall.out, hp'.out]; rfl⟩
        case measure => simp [intOf]; omega
      | false =>
        have hfin : Hid (r = false) := by
          rw [Hid, ← hr.out]
          unfold pathV
          have : s.data.toList.all (fun c => plainI c.toNat) = false := by
            rw [List.all_eq_false]
            exact ⟨c, hmem.out, by rw [hp]; simp⟩
          rw [this]
          rfl
        generalize hn : c.toNat = n at hc hcl hp
        go_wp2_with (go_at_call 42; refine (plain_walk _ _).mono ?_; rintro e w1 ⟨rfl, ⟨n1, rfl⟩⟩; rw [hp])
        go_ret
        exact ⟨by rw [hr.out, hfin.out]; rfl, hB0.out.trans ⟨rfl, rfl, rfl, Nat.le_refl _, fun _ _ => rfl⟩⟩
    · have hkk : k = s.size := by omega
      have hall' : Hid (s.data.toList.all (fun c => plainI c.toNat) = true) := by
        have := hall.out
        rw [hkk, List.take_of_length_le (by rw [← Lib.size_eq]; exact Nat.le_refl _)] at this
        exact this
      clear hall
      have HS := Lib.hid (Tryd.strings_Split s slashB m (w0.drewN nd) (by omega) hm0.out (by decide))
      have hB1 : Hid (Below w.heap.size w (w0.drewN nd)) := hB0.out.trans ⟨rfl, rfl, rfl, Nat.le_refl _, fun _ _ => rfl⟩
      have hpl : (partsB s).length = Lib.countB s slashB + 1 := Lib.splitB_all slashB (by decide) 0 _ s rfl
      have hcle := Lib.countB_le slashB (by decide) s.size s (Nat.le_refl _)
      generalize hcn : Lib.countB s slashB = cn at HS hpl hcle
      have hps : Lib.splitB slashB 0 cn s = partsB s := by rw [← hcn]; rfl
      rw [hps] at HS
      have HR := hr
      have hsz : (w0.drewN nd).heap.size = w.heap.size + 1 := hs0
      obtain ⟨W, hW⟩ : ∃ W, (w0.drewN nd).alloc (.cells ((partsB s).map Value.string).toArray 9) = W := ⟨_, rfl⟩
      rw [hW] at HS
      have hpc : Hid (∀ j (h : j < (partsB s).length), W.cell? ⟨w.heap.size + 1, j, none⟩ = some (.string (partsB s)[j])) := by
        intro j h
        have hb := World.alloc_heap_new (w0.drewN nd) (.cells ((partsB s).map Value.string).toArray 9)
        rw [hW, hsz] at hb
        rw [Lib.cell_of_heap hb]
        simp [h, hs0]
      have hWb : Hid (Below w.heap.size w W) := by
        rw [Hid, ← hW]
        exact hB1.out.alloc (by rw [hsz]; omega) _
      have hWs : W.heap.size = w.heap.size + 2 := by rw [← hW]; simp [hs0]
      clear hW
      go_wp2_with (go_at_call 43; refine HS.out.mono ?_; rintro e w1 ⟨rfl, rfl⟩)
      have hpl' : ((partsB s).length : Int) = (cn : Int) + 1 := by omega
      go_loopw [23] (fun i wr => ∃ (j : Nat), j ≤ cn + 1 ∧ i = .int .i64 j ∧ wr = w1 ∧ Hid (((partsB s).take j).all (fun p => !badPart p) = true))
        (fun i _ => cn + 1 - (intOf i).toNat)
      case atStart => exact ⟨0, Nat.zero_le _, rfl, rfl, rfl⟩
      case round =>
        obtain ⟨j, hj, rfl, rfl, hgood⟩ := hrel
        by_cases hlj : j < cn + 1
        · have hjl : j < (partsB s).length := by omega
          have hc := hpc.out j hjl
          have hstep : Hid (((partsB s).take (j + 1)).all (fun p => !badPart p) = !badPart (partsB s)[j]) := by
            rw [Hid, List.take_succ_eq_append_getElem hjl, List.all_append, hgood.out]
            simp
          have hmem : Hid ((partsB s)[j] ∈ partsB s) := List.getElem_mem hjl
          generalize (partsB s)[j] = p at hc hstep hmem
          have hfin : Hid (badPart p = true → r = false) := by
            intro hb
            rw [← hr.out]
            unfold pathV
            have : (partsB s).all (fun p => !badPart p) = false := by
              rw [List.all_eq_false]
              exact ⟨p, hmem.out, by rw [hb]; simp⟩
            rw [this]
            simp
          cases h1 : p.toList.isEmpty with
          | true =>
            have hr0 := hfin.out (by unfold badPart; rw [h1]; rfl)
            subst hr0
            go_wp2
            go_ret
            exact ⟨by rw [hr.out]; rfl, hWb.out⟩
          | false =>
            cases h2 : (p.toList == [46]) with
            | true =>
              have hr0 := hfin.out (by unfold badPart; rw [h1, h2]; rfl)
              subst hr0
              go_wp2
              go_ret
              exact ⟨by rw [hr.out]; rfl, hWb.out⟩
            | false =>
              cases h3 : (p.toList == [46, 46]) with
              | true =>
                have hr0 := hfin.out (by unfold badPart; rw [h1, h2, h3]; rfl)
                subst hr0
                go_wp2
                go_ret
                exact ⟨by rw [hr.out]; rfl, hWb.out⟩
              | false =>
                have hst2 : Hid (((partsB s).take (j + 1)).all (fun p => !badPart p) = true) := by
                  show _ = true
                  rw [hstep.out]
                  unfold badPart
                  rw [h1, h2, h3]
                  rfl
                go_wp2
                go_roundw
                case rel => exact ⟨j + 1, by omega, by go_num, by first | trivial | rfl, hst2⟩
                case measure => simp [intOf]; omega
        · have hall2 : Hid ((partsB s).all (fun p => !badPart p) = true) := by
            have := hgood.out
            rw [List.take_of_length_le (by omega)] at this
            exact this
          by_cases h100 : (s.size : Int) ≤ 100
          · have hfin : Hid (pathV s = decide ((cn : Int) + 1 ≤ 8)) := by
              show pathV s = _
              unfold pathV
              rw [hall'.out, hall2.out, hpl', decide_eq_true h100]
              rfl
            go_wp2
            go_ret
            exact ⟨by rw [hfin.out]; rfl, hWb.out⟩
          · have hfin : Hid (pathV s = false) := by
              show pathV s = _
              unfold pathV
              rw [decide_eq_false h100]
              simp
            go_wp2
            go_ret
            exact ⟨by rw [hfin.out]; rfl, hWb.out⟩
end Go.Proofs.YtnjjnfbkilgidaaDoor.Fr
/- What a call may change: the blocks of a set, and whatever is new. -/
namespace Go.Proofs.YtnjjnfbkilgidaaDoor.Fr
set_option linter.unusedVariables false
set_option linter.unusedSimpArgs false
open Go.RowKit
/-- W is w, but for blocks of S, and blocks that are new. -/
structure Chg (S : Nat → Prop) (w W : World) : Prop where
  os : W.os = w.os
  tape : W.tape = w.tape
  output : W.output = w.output
  size : w.heap.size ≤ W.heap.size
  block : ∀ k, k < w.heap.size → ¬ S k → W.heap[k]? = w.heap[k]?
section
variable {S S' : Nat → Prop} {w W W2 : World}
theorem Chg.refl (S : Nat → Prop) (w : World) : Chg S w w := ⟨rfl, rfl, rfl, Nat.le_refl _, fun _ _ _ => rfl⟩
theorem Chg.of_below (h : Below w.heap.size w W) (S : Nat → Prop) : Chg S w W := ⟨h.os, h.tape, h.output, h.size, fun k hk _ => h.block k hk⟩
theorem Chg.mono (h : Chg S w W) (hs : ∀ k, k < w.heap.size → S k → S' k) : Chg S' w W := ⟨h.os, h.tape, h.output, h.size, fun k hk hn => h.block k hk fun e => hn (hs k hk e)⟩
theorem Chg.trans (h : Chg S w W) (k : Chg S' W W2) (hs : ∀ i, i < w.heap.size → S' i → S i) : Chg S w W2 :=
  ⟨k.os.trans h.os, k.tape.trans h.tape, k.output.trans h.output, Nat.le_trans h.size k.size, fun i hi hn => (k.block i (Nat.lt_of_lt_of_le hi h.size) fun e => hn (hs i hi e)).trans (h.block i hi hn)⟩
theorem Chg.below (h : Chg S w W) (hb : Below W.heap.size W W2) : Chg S w W2 := h.trans (Chg.of_below hb fun _ => False) fun _ _ e => e.elim
theorem Chg.alloc (h : Chg S w W) (o : Obj) : Chg S w (W.alloc o) := h.below ((Below.refl _ _).alloc (Nat.le_refl _) _)
theorem Chg.drew (h : Chg S w W) : Chg S w W.drew := ⟨h.os, h.tape, h.output, h.size, h.block⟩
theorem Chg.drewN (h : Chg S w W) (n : Nat) : Chg S w (W.drewN n) := ⟨h.os, h.tape, h.output, h.size, h.block⟩
theorem Chg.setCell (h : Chg S w W) {p : Addr} (hp : p.block < w.heap.size → S p.block) (u : Value) : Chg S w (W.setCell p u) :=
  ⟨h.os, h.tape, h.output, by simpa using h.size, fun k hk hn => (Below.heap_setCell W p u k fun e => hn (by subst e; exact hp hk)).trans (h.block k hk hn)⟩
theorem Chg.grown (h : Chg S w W) {row : Option Nat} (hg : W.grownBy W2 row) (hr : ∀ k, row = some k → k < w.heap.size → S k) : Chg S w W2 :=
  ⟨hg.os.trans h.os, hg.tape.trans h.tape, hg.output.trans h.output, Nat.le_trans h.size hg.size, fun k hk hn => (hg.block k (Nat.lt_of_lt_of_le hk h.size) fun e => hn (hr k e.symm hk)).trans (h.block k hk hn)⟩
/-- All that may change is new since B: it is as it was below B. -/
theorem Chg.to_below (h : Chg S w W) {B : Nat} (hB : B ≤ w.heap.size) (hs : ∀ k, S k → B ≤ k) : Below B w W :=
  ⟨h.os, h.tape, h.output, h.size, fun k hk => h.block k (by omega) fun e => by have := hs k e; omega⟩
theorem Chg.cell (h : Chg S w W) {p : Addr} (hp : p.block < w.heap.size) (hn : ¬ S p.block) : W.cell? p = w.cell? p := World.cell?_of_block (h.block _ hp hn)
theorem Chg.frozen (h : Chg S w W) {p : Addr} (hp : p.block < w.heap.size) (hn : ¬ S p.block) : W.frozen? p = w.frozen? p := World.frozen?_of_block (h.block _ hp hn)
theorem Chg.frame (h : Chg S w W) (may : MemPlace → Prop) (hs : ∀ k, ¬ (S k ∧ k < w.heap.size)) : Below w.heap.size w W := ⟨h.os, h.tape, h.output, h.size, fun k hk => h.block k hk fun e => hs k ⟨e, hk⟩⟩
end
end Go.Proofs.YtnjjnfbkilgidaaDoor.Fr
/- The map of a bench: which row of texts it holds, each in a box of its own. (Turned from the map of files of chapter 5, t5/XTree and t5/XImg.) -/
namespace Go.Proofs.YtnjjnfbkilgidaaDoor.Fr
open Go.RowKit Go.Proofs.YtnjjnfbkilgidaaDoor.F Go.Maps Go.ChangeMaps Go.WideMaps
set_option linter.unusedVariables false
set_option linter.unusedSimpArgs false
/-- An entry: its name (f0), its text (f1). -/
structure Ob where
  f0 : ByteArray
  f1 : ByteArray
def ltB (a b : ByteArray) : Bool := bytesBefore a.data.toList b.data.toList
def dropF (l : List Ob) (p : ByteArray) : List Ob := l.filter fun f => !(f.f0.data.toList == p.data.toList)
def insF (f : Ob) : List Ob → List Ob
  | [] => [f]
  | g :: r => if ltB f.f0 g.f0 = true then f :: g :: r else g :: insF f r
def putF (l : List Ob) (f : Ob) : List Ob := insF f (dropF l f.f0)
def findF (l : List Ob) (p : ByteArray) : Option Ob := l.find? fun f => f.f0.data.toList == p.data.toList
abbrev DW := DataW Unit
def fval (f : Ob) : DW := .agg [.lit (.string f.f1.data.toList)]
def fent (f : Ob) : Lit × DW := (.string f.f0.data.toList, fval f)
def fdat (l : List Ob) : DW := .map (l.map fent)
theorem fdat_nil : fdat [] = .map [] := rfl
theorem fent_key (f : Ob) (p : List UInt8) : (fent f).1.sameKey (.string p) = (f.f0.data.toList == p) := rfl
theorem fent_before (f g : Ob) : (fent f).1.before (fent g).1 = ltB f.f0 g.f0 := rfl
theorem fdat_ins (f : Ob) (l : List Ob) : DataW.insert (fent f) (l.map fent) = (insF f l).map fent := by
  induction l with
  | nil => rfl
  | cons g r ih =>
    rw [List.map_cons, DataW.insert, fent_before, insF]
    by_cases h : ltB f.f0 g.f0 = true
    · rw [if_pos h, if_pos h]; rfl
    · rw [if_neg h, if_neg h, ih]; rfl
theorem fdat_filter (l : List Ob) (p : ByteArray) : (l.map fent).filter (fun x => !x.1.sameKey (.string p.data.toList)) = (dropF l p).map fent := by
  unfold dropF
  rw [List.filter_map]
  rfl
theorem fdat_put (l : List Ob) (f : Ob) : (fdat l).put (.string f.f0.data.toList) (fval f) = fdat (putF l f) := by
  show DataW.map (DataW.insert (fent f) ((l.map fent).filter _)) = DataW.map ((insF f (dropF l f.f0)).map fent)
  rw [fdat_filter, fdat_ins]
theorem fdat_del (l : List Ob) (p : ByteArray) : (fdat l).del (.string p.data.toList) = fdat (dropF l p) := by
  show DataW.map ((l.map fent).filter _) = DataW.map ((dropF l p).map fent)
  rw [fdat_filter]
theorem fdat_find (l : List Ob) (p : ByteArray) (z : DW) : (fdat l).atKey (.string p.data.toList) z = match findF l p with | some f => fval f | none => z := by
  unfold fdat DataW.atKey findF
  simp only [List.find?_map]
  have e : ((fun x : Lit × DW => x.1.sameKey (.string p.data.toList)) ∘ fent) = fun f : Ob => f.f0.data.toList == p.data.toList := rfl
  rw [e]
  cases l.find? fun f => f.f0.data.toList == p.data.toList <;> rfl
theorem fdat_has (l : List Ob) (p : ByteArray) : Maps.has (fdat l) (.string p.data.toList) = (findF l p).isSome := by
  show (l.map fent).any _ = _
  unfold findF
  rw [List.any_map]
  show l.any (fun f : Ob => f.f0.data.toList == p.data.toList) = _
  induction l with
  | nil => rfl
  | cons f r ih =>
    rw [List.any_cons, List.find?_cons]
    cases h : f.f0.data.toList == p.data.toList
    · rw [Bool.false_or]; exact ih
    · rfl
theorem fdat_size (l : List Ob) : Maps.size (fdat l) = l.length := by
  show (l.map fent).length = _
  rw [List.length_map]
theorem fdat_keys (l : List Ob) : strKeys (fdat l) = l.map fun f => f.f0.data.toList := by
  show (l.map fent).map _ = _
  rw [List.map_map]
  rfl
/-- Which blocks are files, and what they hold: these blocks are never written. -/
abbrev Phi := Nat → Option ByteArray
def fagg (f : ByteArray) : DW := .agg [.lit (.string f.data.toList)]
/-- How a pointer to a file reads. -/
def elemR (φ : Phi) : Value → Option (DW × List MemPlace)
  | .pointer none => some (.lit (.bool false), [])
  | .pointer (some ⟨q, 0, none⟩) => (φ q).map fun f => (fagg f, [])
  | _ => none
theorem elemR_nil (φ : Phi) : elemR φ (.pointer none) = some (.lit (.bool false), []) := rfl
theorem elemR_mk {φ : Phi} {q : Nat} {f : ByteArray} (h : φ q = some f) : elemR φ (.pointer (some ⟨q, 0, none⟩)) = some (fagg f, []) := by
  show (φ q).map _ = _
  rw [h]
  rfl
theorem elemR_inv {φ : Phi} {v : Value} {y : DW × List MemPlace} (h : elemR φ v = some y) : (v = .pointer none ∧ y = (.lit (.bool false), [])) ∨ ∃ q f, v = .pointer (some ⟨q, 0, none⟩) ∧ φ q = some f ∧ y = (fagg f, []) := by
  unfold elemR at h
  split at h
  · exact .inl ⟨rfl, (Option.some.inj h).symm⟩
  · next q =>
    cases hq : φ q with
    | none => rw [hq] at h; cases h
    | some f =>
      rw [hq] at h
      exact .inr ⟨q, f, rfl, hq, (Option.some.inj h).symm⟩
  · cases h
theorem elemR_ext {φ φ' : Phi} (he : ∀ q f, φ q = some f → φ' q = some f) {v : Value} {y : DW × List MemPlace} (h : elemR φ v = some y) : elemR φ' v = some y := by
  rcases elemR_inv h with ⟨rfl, rfl⟩ | ⟨q, f, rfl, hq, rfl⟩
  · rfl
  · exact elemR_mk (he q f hq)
theorem fagg_inj {f g : ByteArray} (h : fagg f = fagg g) : f = g := by
  obtain ⟨⟨a⟩⟩ := f
  obtain ⟨⟨b⟩⟩ := g
  simp [fagg] at h
  rw [h]
theorem fagg_fval (f : Ob) : fagg f.f1 = fval f := rfl
/-- The files are there. -/
def Boxes (w : World) (φ : Phi) : Prop := ∀ q f, φ q = some f → w.heap[q]? = some (.cells #[.string f] 9 (0, 0))
theorem Boxes.lt {w : World} {φ : Phi} (h : Boxes w φ) {q : Nat} (hq : φ q ≠ none) : q < w.heap.size := by
  cases e : φ q with
  | none => exact absurd e hq
  | some f => exact (Array.getElem?_eq_some_iff.1 (h q f e)).1
theorem Boxes.chg {w w' : World} {φ : Phi} {S : Nat → Prop} (h : Boxes w φ) (hc : Chg S w w') (hs : ∀ q, φ q ≠ none → ¬ S q) : Boxes w' φ :=
  fun q f e => (hc.block q (h.lt (by rw [e]; simp)) (hs q (by rw [e]; simp))).trans (h q f e)
theorem Boxes.below {w w' : World} {φ : Phi} (h : Boxes w φ) (hb : Below w.heap.size w w') : Boxes w' φ := h.chg (Chg.of_below hb fun _ => False) fun _ _ e => e
theorem Boxes.cell0 {w : World} {φ : Phi} (h : Boxes w φ) {q : Nat} {f : ByteArray} (e : φ q = some f) : w.cell? ⟨q, 0, none⟩ = some (.string f) := by
  simp [World.cell?, h q f e]
/-- φ with one file more. -/
def Phi.add (φ : Phi) (q : Nat) (f : ByteArray) : Phi := fun k => if k = q then some f else φ k
/-- φ' has φ's files, and new ones. -/
structure Ext (w : World) (φ φ' : Phi) : Prop where
  keeps : ∀ q f, φ q = some f → φ' q = some f
  new : ∀ q, φ' q ≠ none → φ q ≠ none ∨ w.heap.size ≤ q
theorem Ext.refl (w : World) (φ : Phi) : Ext w φ φ := ⟨fun _ _ h => h, fun _ h => .inl h⟩
theorem Ext.trans {w w' : World} {φ φ' φ'' : Phi} (h : Ext w φ φ') (k : Ext w' φ' φ'') (hs : w.heap.size ≤ w'.heap.size) : Ext w φ φ'' :=
  ⟨fun q f e => k.keeps q f (h.keeps q f e), fun q e => (k.new q e).elim (fun e => h.new q e) fun e => .inr (Nat.le_trans hs e)⟩
theorem Ext.add (w : World) (φ : Phi) (f : ByteArray) (hq : ∀ k, φ k ≠ none → k < w.heap.size) {q : Nat} (h : w.heap.size ≤ q) : Ext w φ (φ.add q f) := by
  refine ⟨fun k g e => ?_, fun k e => ?_⟩
  · have := hq k (by rw [e]; simp)
    unfold Phi.add
    rw [if_neg (by omega)]
    exact e
  · unfold Phi.add at e
    split at e
    next h => exact .inr (by omega)
    next h => exact .inl e
theorem lawK : Keyed Tryd.prog 9 := string_keyed Tryd.underlying9
theorem zeroP (w : World) : (zeroValue 42).run Tryd.prog w = .ok (.pointer none) w := by kernel_rfl
/-- Block b is a map that holds just these files. -/
def Img (w : World) (φ : Phi) (b : Nat) (L : List Ob) : Prop := w.ownsMap Tryd.prog 9 (elemR φ) b L.length (fdat L)
section
variable {w w' : World} {φ φ' : Phi} {b : Nat} {L : List Ob}
theorem owns_norm {n : Nat} {D : DW} (h : w.ownsMap Tryd.prog 9 (elemR φ) b n D) : w.ownsMap Tryd.prog 9 (elemR φ) b (Maps.size D) D := by
  obtain ⟨es, clock, hb, F, hs, rfl⟩ := h
  refine ⟨es, clock, hb, F, ?_, rfl⟩
  show es.size ≤ ((es.toList.map (WideElems.rg Tryd.prog 9 (elemR φ))).foldr DataW.insert []).length
  rw [length_sorted]
  simp
theorem Img.mk {n : Nat} (h : w.ownsMap Tryd.prog 9 (elemR φ) b n (fdat L)) : Img w φ b L := by
  have := owns_norm h
  rw [fdat_size] at this
  exact this
theorem Img.lt (h : Img w φ b L) : b < w.heap.size := World.ownsMap.lt h
theorem Img.block (h : Img w φ b L) (hb : w'.heap[b]? = w.heap[b]?) : Img w' φ b L := by
  obtain ⟨es, clock, h1, h2⟩ := h
  exact ⟨es, clock, hb.trans h1, h2⟩
theorem Img.chg {S : Nat → Prop} (h : Img w φ b L) (hc : Chg S w w') (hs : ¬ S b) : Img w' φ b L := h.block (hc.block b h.lt hs)
theorem Img.below (h : Img w φ b L) (hb : Below w.heap.size w w') : Img w' φ b L := h.block (hb.block b h.lt)
theorem Img.ext (h : Img w φ b L) (he : ∀ q f, φ q = some f → φ' q = some f) : Img w φ' b L := by
  obtain ⟨es, clock, h1, F, h2, h3⟩ := h
  obtain ⟨F', hmap, _⟩ := F.stay (R' := elemR φ') (fun x _ z hz => elemR_ext he hz)
  exact ⟨es, clock, h1, F', h2, by rw [hmap]; exact h3⟩
theorem Img.made (w : World) (φ : Phi) : Img (w.alloc (.map #[] 0)) φ w.heap.size [] := World.ownsMap_made _ _ _ _
theorem Img.look {p : ByteArray} (h : Img w φ b L) (hp : p.size ≤ 100000) {f : Ob} (hf : findF L p = some f) :
    ∃ q, (Instr.lookup 37 (.map (some b)) (.string p) false).run Tryd.prog w = .ok (.pointer (some ⟨q, 0, none⟩)) w ∧ φ q = some f.f1 := by
  obtain ⟨v, ps, hrun, hv⟩ := World.ownsMap.lookup h lawK Tryd.underlying37 (zeroP w) (elemR_nil φ) (keyOf_string_mk Tryd.underlying9 (Nat.le_trans hp (by decide) : p.size ≤ maxLen))
  rw [fdat_find, hf] at hv
  rcases elemR_inv hv with ⟨_, e⟩ | ⟨q, g, rfl, hq, e⟩
  · cases e
  · have := fagg_inj (f := f.f1) (g := g) (congrArg Prod.fst e)
    exact ⟨q, hrun, by rw [hq, this]⟩
theorem Img.look_none {p : ByteArray} (h : Img w φ b L) (hp : p.size ≤ 100000) (hf : findF L p = none) :
    (Instr.lookup 37 (.map (some b)) (.string p) false).run Tryd.prog w = .ok (.pointer none) w := by
  obtain ⟨v, ps, hrun, hv⟩ := World.ownsMap.lookup h lawK Tryd.underlying37 (zeroP w) (elemR_nil φ) (keyOf_string_mk Tryd.underlying9 (Nat.le_trans hp (by decide) : p.size ≤ maxLen))
  rw [fdat_find, hf] at hv
  rcases elemR_inv hv with ⟨rfl, e⟩ | ⟨q, g, rfl, hq, e⟩
  · exact hrun
  · cases e
theorem Img.len (h : Img w φ b L) (ty : TypeId) : (Builtin.len_ #[37] ty #[.map (some b)]).run Tryd.prog w = .ok (.int .i64 L.length) w := by
  have := World.ownsMap.len h Tryd.underlying37 ty
  rw [fdat_size] at this
  exact this
theorem Img.store (h : Img w φ b L) (hl : L.length ≤ 1000000) {q : Nat} {f : Ob} (hq : φ q = some f.f1) (hp : f.f0.size ≤ 100000) :
    ∃ w', (Instr.mapUpdate 37 (.map (some b)) (.string f.f0) (.pointer (some ⟨q, 0, none⟩))).run Tryd.prog w = .ok () w' ∧ Img w' φ b (putF L f) ∧ w.mapTurned w' b := by
  obtain ⟨w', h1, h2, h3⟩ := World.ownsMap.store h lawK Tryd.underlying37 (Nat.lt_of_le_of_lt hl (by decide)) (keyOf_string_mk Tryd.underlying9 (Nat.le_trans hp (by decide) : f.f0.size ≤ maxLen)) (elemR_mk hq)
  rw [fagg_fval, fdat_put] at h2
  exact ⟨w', h1, Img.mk h2, h3⟩
theorem Img.drop (h : Img w φ b L) {p : ByteArray} (hp : p.size ≤ 100000) (ty : TypeId) :
    ∃ w', (Builtin.delete_ #[37, 9] ty #[.map (some b), .string p]).run Tryd.prog w = .ok (.tuple #[]) w' ∧ Img w' φ b (dropF L p) ∧ w.mapTurned w' b := by
  obtain ⟨w', h1, h2, h3⟩ := World.ownsMap.drop h lawK Tryd.underlying37 (keyOf_string_mk Tryd.underlying9 (Nat.le_trans hp (by decide) : p.size ≤ maxLen)) ty
  rw [fdat_del] at h2
  exact ⟨w', h1, Img.mk h2, h3⟩
end
theorem turned_chg {w w' : World} {b : Nat} (h : w.mapTurned w' b) : Chg (fun k => k = b) w w' :=
  (Chg.refl _ w).grown h.grown (fun k e _ => (Option.some.inj e).symm)
section
variable {ops : Array Oper} {rest : List Oper} {o : Oper} {a : Act} {Q : Exit → Act → World → Prop} {φ : Phi} {L : List Ob}
/-- A store into a map of files, at the operation. -/
theorem wpList_store_img (w : World) (hg : o.guard = none) (m x v : Operand) (hop : o.op = Op.mapUpdate 37 m x v) (b q : Nat) (f : Ob) (hm : a.eval m = .map (some b)) (h : Img w φ b L) (hl : L.length ≤ 1000000) (hx : a.eval x = .string f.f0) (hv : a.eval v = .pointer (some ⟨q, 0, none⟩))
    (hq : φ q = some f.f1) (hp : f.f0.size ≤ 100000) (hK : ∀ w', Img w' φ b (putF L f) → Chg (fun k => k = b) w w' → w'.heap.size = w.heap.size → wpList Tryd.prog ops Q rest (a.put o.dst undef) w') : wpList Tryd.prog ops Q (o :: rest) a w := by
  refine wpList_plain hg fun K' hK' => ?_
  obtain ⟨w', hrun, h1, h2⟩ := h.store hl hq hp
  unfold Oper.wp
  simp [execOp, hop, hm, hx, hv, hrun, Result.andThen]
  refine hK' _ _ (hK w' h1 (turned_chg h2) ?_)
  obtain ⟨es, clock, es', clock', hb, rfl⟩ := h2
  simp [ChangeMaps.setBlock]
/-- A look-up of a file that is not there. -/
theorem wpList_look_none (w : World) (hg : o.guard = none) (m x : Operand) (hop : o.op = Op.lookup 37 m x false) (b : Nat) (p : ByteArray) (hm : a.eval m = .map (some b)) (h : Img w φ b L) (hx : a.eval x = .string p) (hp : p.size ≤ 100000) (hf : findF L p = none)
    (hK : wpList Tryd.prog ops Q rest (a.put o.dst (.pointer none)) w) : wpList Tryd.prog ops Q (o :: rest) a w := by
  refine wpList_plain hg fun K' hK' => ?_
  have hrun := h.look_none hp hf
  unfold Oper.wp
  simp [execOp, hop, hm, hx, hrun, Result.andThen]
  exact hK' _ _ hK
/-- A look-up of a file that is there. -/
theorem wpList_look_some (w : World) (hg : o.guard = none) (m x : Operand) (hop : o.op = Op.lookup 37 m x false) (b : Nat) (p : ByteArray) (hm : a.eval m = .map (some b)) (h : Img w φ b L) (hx : a.eval x = .string p) (hp : p.size ≤ 100000) (f : Ob) (hf : findF L p = some f)
    (hK : ∀ q, φ q = some f.f1 → wpList Tryd.prog ops Q rest (a.put o.dst (.pointer (some ⟨q, 0, none⟩))) w) : wpList Tryd.prog ops Q (o :: rest) a w := by
  refine wpList_plain hg fun K' hK' => ?_
  obtain ⟨q, hrun, hq⟩ := h.look hp hf
  unfold Oper.wp
  simp [execOp, hop, hm, hx, hrun, Result.andThen]
  exact hK' _ _ (hK q hq)
/-- delete, at the operation. -/
theorem wpList_delete_img (w : World) (hg : o.guard = none) (m x : Operand) (hop : o.op = Op.call { callee := Callee.builtin Builtin.delete, args := #[m, x], argTypes := #[37, 9] }) (b : Nat) (p : ByteArray) (hm : a.eval m = .map (some b)) (h : Img w φ b L) (hx : a.eval x = .string p) (hp : p.size ≤ 100000)
    (hK : ∀ w', Img w' φ b (dropF L p) → Chg (fun k => k = b) w w' → w'.heap.size = w.heap.size → wpList Tryd.prog ops Q rest (a.put o.dst (.tuple #[])) w') : wpList Tryd.prog ops Q (o :: rest) a w := by
  refine wpList_plain hg fun K' hK' => ?_
  obtain ⟨w', hrun, h1, h2⟩ := h.drop hp o.type
  unfold Oper.wp
  simp [execOp, hop, resolve, invoke, builtin, hm, hx, hrun, Result.andThen]
  refine hK' _ _ (hK w' h1 (turned_chg h2) ?_)
  obtain ⟨es, clock, es', clock', hb, rfl⟩ := h2
  simp [ChangeMaps.setBlock]
end
end Go.Proofs.YtnjjnfbkilgidaaDoor.Fr
/- recipe: a bench's files. -/
namespace Go.Proofs.YtnjjnfbkilgidaaDoor.Fr
open Go.RowKit Go.Proofs.YtnjjnfbkilgidaaDoor.F Go.Proofs.YtnjjnfbkilgidaaDoorW.PrintWords Go.Maps
set_option linter.unusedVariables false
set_option linter.unusedSimpArgs false
abbrev Fi := S31
theorem newBelow (w : World) (o : Obj) : Below w.heap.size w (w.alloc o) := (Below.refl _ _).alloc (Nat.le_refl _) _
/-- A name's text: on the bench, or of what is handed in. -/
def inV (ins : List Fi) (p : ByteArray) : Option ByteArray := (ins.find? fun f => f.f0.toList == p.toList).map (·.f1)
def fileV (own : List Ob) (ins : List Fi) (p : ByteArray) : Option ByteArray := match findF own p with | some f => some f.f1 | none => inV ins p
def hadV (own : List Ob) (ins : List Fi) (p : ByteArray) : ByteArray := (fileV own ins p).getD ⟨#[]⟩
theorem rdF {l : List Fi} {i : Nat} (h : i < l.length) : rd_T31 l (i : Int) = l[i] := by
  unfold rd_T31
  rw [Int.toNat_natCast, List.getD_eq_getElem?_getD, List.getElem?_eq_getElem h, Option.getD_some]
theorem isname_call (a b nm : ByteArray) (nb : Nat) (W : World) (hc : W.cell? ⟨nb, 0, none⟩ = some (.string nm)) (hnb : nb < W.heap.size) :
    Calls Tryd.prog 46 #[.agg #[.string a, .string b], .pointer (some ⟨nb, 0, none⟩)] W fun e w' => e = .returned (.bool (a.toList == nm.toList)) ∧ Below W.heap.size W w' := by
  go_enter Tryd.func46, Tryd.ntmps46
  go_wp2
  go_ret
  exact ⟨rfl, newBelow _ _⟩
theorem enters_file1 (args : Array Value) (w : World) : (callFunc 46 args).run Tryd.prog w = .ok (.enter 46 args) w := enters_of Tryd.func46 (by kernel_rfl) rfl args w
theorem cell_lt {w : World} {p : Addr} {v : Value} (h : w.cell? p = some v) : p.block < w.heap.size := by
  rcases Nat.lt_or_ge p.block w.heap.size with h1 | h1
  · exact h1
  · have e : w.heap[p.block]? = none := Array.getElem?_eq_none h1
    simp [World.cell?, e] at h
structure FAt (W : World) (x : Addr) (a : Fi) : Prop where
  e0 : W.cell? x = some (.string a.f0)
  e1 : W.cell? ⟨x.block, x.off + 1, none⟩ = some (.string a.f1)
theorem FAt.below {W W' : World} {x : Addr} {a : Fi} (h : FAt W x a) (hb : Below W.heap.size W W') : FAt W' x a :=
  ⟨(hb.cell (cell_lt h.e0)).trans h.e0, (hb.cell (p := ⟨x.block, x.off + 1, none⟩) (cell_lt h.e1)).trans h.e1⟩
theorem files_at {w : World} {A : Option Addr} {l : List Fi} (h : Kd.C k31 w A l.length l) {k : Nat} (hk : k < l.length) : ∃ ad, A = some ad ∧ FAt w (ad.add (k * 2)) l[k] := by
  obtain ⟨ad, e, h0, h1⟩ := at_T31 h (k : Int) (by omega) (by omega)
  rw [rdF hk, Int.toNat_natCast] at h0 h1
  exact ⟨ad, e, h0, h1⟩
/-- The first of the name from k on: its place, or -1. -/
def fileI (ins : List Fi) (p : ByteArray) (k : Nat) : Int := match (ins.drop k).findIdx? fun f => f.f0.toList == p.toList with | some i => ((k + i : Nat) : Int) | none => -1
theorem fileI_end (ins : List Fi) (p : ByteArray) : fileI ins p ins.length = -1 := by
  unfold fileI
  rw [List.drop_length]
  rfl
theorem fileI_hit (ins : List Fi) (p : ByteArray) {k : Nat} (hk : k < ins.length) (h : (ins[k].f0.toList == p.toList) = true) : fileI ins p k = (k : Int) := by
  unfold fileI
  rw [List.drop_eq_getElem_cons hk, List.findIdx?_cons, h]
  rfl
theorem fileI_next (ins : List Fi) (p : ByteArray) {k : Nat} (hk : k < ins.length) (h : (ins[k].f0.toList == p.toList) = false) : fileI ins p k = fileI ins p (k + 1) := by
  unfold fileI
  rw [List.drop_eq_getElem_cons hk, List.findIdx?_cons, h]
  cases (ins.drop (k + 1)).findIdx? fun f => f.f0.toList == p.toList with
  | none => rfl
  | some i => show ((k + (i + 1) : Nat) : Int) = ((k + 1 + i : Nat) : Int); congr 1; omega
set_option maxHeartbeats 4000000 in
theorem indexFile_call (A : Option Addr) (c : Nat) (ins : List Fi) (nm : ByteArray) (nb : Nat) (w : World) (hA : Kd.C k31 w A ins.length ins) (hl : ins.length ≤ 1000000) (hc : w.cell? ⟨nb, 0, none⟩ = some (.string nm)) (hnb : nb < w.heap.size) :
    Calls Tryd.prog 45 #[.slice A ins.length c, .func (.func 46) #[] #[.pointer (some ⟨nb, 0, none⟩)]] w fun e w' => e = .returned (.int .i64 (fileI ins nm 0)) ∧ Below w.heap.size w w' := by
  have HA := Lib.hid hA
  have HP := Lib.hid fun (a b : ByteArray) (W : World) (hb : Below w.heap.size w W) => isname_call a b nm nb W ((hb.cell (p := ⟨nb, 0, none⟩) hnb).trans hc) (Nat.lt_of_lt_of_le hnb hb.size)
  clear hA hc
  have eg := enters_file1
  go_enter Tryd.func45, Tryd.ntmps45
  go_wp2
  go_loopw [5, 8] (fun _ i wr => ∃ k : Nat, k ≤ ins.length ∧ i = .int .i64 k ∧ Hid (Below w.heap.size w wr) ∧ Hid (fileI ins nm 0 = fileI ins nm k)) (fun _ i _ => ins.length - (intOf i).toNat)
  case atStart => exact ⟨0, Nat.zero_le _, rfl, Below.refl _ _, rfl⟩
  case round =>
    obtain ⟨k, hk, rfl, HB, HF⟩ := hrel
    by_cases hlk : k < ins.length
    · have hltz : (k : Int) < (ins.length : Int) := by omega
      obtain ⟨ad, e, hat⟩ := files_at HA.out hlk
      subst e
      obtain ⟨f0, f1⟩ := hat.below HB.out
      have hcall := HP.out ins[k].f0 ins[k].f1 _ HB.out
      have HI := Lib.hid (fileI_hit ins nm hlk)
      have HX := Lib.hid (fileI_next ins nm hlk)
      generalize ins[k] = x at f0 f1 hcall HI HX
      generalize hq : (x.f0.toList == nm.toList) = q at hcall HI HX
      have HC := Lib.hid hcall
      clear hcall hat hq
      cases q with
      | true =>
        have HI2 := Lib.hid (HI.out rfl)
        clear HI HX
        go_wp2_with (go_at_fn 46; refine HC.out.mono ?_; rintro e w2 ⟨rfl, hb⟩)
        go_ret
        exact ⟨by rw [HF.out, HI2.out]; rfl, HB.out.trans (hb.mono HB.out.size)⟩
      | false =>
        have HX2 := Lib.hid (HX.out rfl)
        clear HI HX
        go_wp2_with (go_at_fn 46; refine HC.out.mono ?_; rintro e w2 ⟨rfl, hb⟩; have HB2 := Lib.hid (HB.out.trans (hb.mono HB.out.size)); clear hb)
        go_roundw
        case rel => exact ⟨k + 1, hlk, by go_num, HB2.out, HF.out.trans HX2.out⟩
        case measure => simp [intOf]; omega
    · obtain rfl : k = ins.length := by omega
      have hltz : ¬ (ins.length : Int) < (ins.length : Int) := by omega
      go_wp2
      go_ret
      exact ⟨by rw [HF.out, fileI_end]; rfl, HB.out⟩
/-- A bench. -/
structure BnAt (W : World) (b mb : Nat) (φ : Phi) (A : Option Addr) (c : Nat) (own : List Ob) (ins : List Fi) (fuel : Int) : Prop where
  box : W.heap[b]? = some (.cells #[.map (some mb), .slice A ins.length c, .int .i64 fuel] 39)
  img : Img W φ mb own
  bx : Boxes W φ
  C : Kd.C k31 W A ins.length ins
  len : ins.length ≤ 1000000
section
variable {W W' : World} {b mb c : Nat} {φ : Phi} {A : Option Addr} {own : List Ob} {ins : List Fi} {fuel : Int}
theorem BnAt.lt (h : BnAt W b mb φ A c own ins fuel) : b < W.heap.size := (Array.getElem?_eq_some_iff.1 h.box).1
theorem BnAt.cells (h : BnAt W b mb φ A c own ins fuel) : W.cell? ⟨b, 0, none⟩ = some (.map (some mb)) ∧ W.cell? ⟨b, 1, none⟩ = some (.slice A ins.length c) ∧ W.cell? ⟨b, 2, none⟩ = some (.int .i64 fuel) := by
  have h := h.box
  refine ⟨?_, ?_, ?_⟩ <;> simp [World.cell?, h]
theorem BnAt.below (h : BnAt W b mb φ A c own ins fuel) (hb : Below W.heap.size W W') : BnAt W' b mb φ A c own ins fuel :=
  ⟨(hb.block b h.lt).trans h.box, h.img.below hb, h.bx.below hb, Kd.C_below h.C hb, h.len⟩
theorem inV_idx (ins : List Fi) (p : ByteArray) : (fileI ins p 0 < 0 ∧ inV ins p = none) ∨ ∃ i, ∃ h : i < ins.length, fileI ins p 0 = (i : Int) ∧ inV ins p = some ins[i].f1 := by
  unfold fileI inV
  rw [List.drop_zero]
  induction ins with
  | nil => exact .inl ⟨by simp, rfl⟩
  | cons f r ih =>
    rw [List.findIdx?_cons, List.find?_cons]
    cases h : f.f0.toList == p.toList
    · rcases ih with ⟨h1, h2⟩ | ⟨i, hi, h1, h2⟩
      · refine .inl ⟨?_, h2⟩
        cases hx : r.findIdx? fun f => f.f0.toList == p.toList with
        | none => simp
        | some j => rw [hx] at h1; simp at h1; omega
      · refine .inr ⟨i + 1, by simpa using hi, ?_, h2⟩
        cases hx : r.findIdx? fun f => f.f0.toList == p.toList with
        | none => rw [hx] at h1; simp at h1
        | some j => rw [hx] at h1; simp at h1 ⊢; omega
    · exact .inr ⟨0, by simp, by simp, rfl⟩
/-- What .file tells. -/
def FileEnd (W : World) (v : Option ByteArray) (e : Ending) (w' : World) : Prop := (match v with | none => e = .returned (.pointer none) | some s => ∃ ad, e = .returned (.pointer (some ad)) ∧ w'.cell? ad = some (.string s)) ∧ Below W.heap.size W w'
set_option maxHeartbeats 4000000 in
set_option maxRecDepth 100000 in
theorem file_call (h : BnAt W b mb φ A c own ins fuel) (nm : ByteArray) (hn : nm.size ≤ 100000) :
    Calls Tryd.prog 30 #[.pointer (some ⟨b, 0, none⟩), .string nm] W (FileEnd W (fileV own ins nm)) := by
  have hlt := h.lt
  obtain ⟨c0, c1, c2⟩ := (h.below (newBelow W (.cells #[.string nm] 9))).cells
  have H := Lib.hid (h.below (newBelow W (.cells #[.string nm] 9)))
  have HD := Lib.hid (H.out.below (Below.refl _ _).drew)
  clear h
  have hcn : (W.alloc (.cells #[.string nm] 9)).cell? ⟨W.heap.size, 0, none⟩ = some (.string nm) := by
    have e := World.alloc_heap_new W (.cells #[.string nm] 9)
    simp only [World.cell?, e]
    rfl
  cases hf : findF own nm with
  | some f =>
    have hv : fileV own ins nm = some f.f1 := by unfold fileV; rw [hf]
    rw [hv]
    obtain ⟨q, hrun, hq⟩ := HD.out.img.look hn hf
    have HQ := Lib.hid (HD.out.bx.cell0 hq)
    clear hf hv hq
    go_enter Tryd.func30, Tryd.ntmps30
    go_wp2_with fail
    go_region
    go_wp2
    go_ret
    exact ⟨⟨_, rfl, HQ.out⟩, (newBelow _ _).drew⟩
  | none =>
    have hv : fileV own ins nm = inV ins nm := by unfold fileV; rw [hf]
    rw [hv]
    have hrun := HD.out.img.look_none hn hf
    clear hf hv
    have HI : Hid (∀ W2, Below (W.alloc (.cells #[.string nm] 9)).heap.size (W.alloc (.cells #[.string nm] 9)) W2 → _) := fun W2 hb => indexFile_call A c ins nm W.heap.size W2 (H.out.below hb).C H.out.len ((hb.cell (p := ⟨W.heap.size, 0, none⟩) (by rw [World.size_alloc]; exact Nat.lt_succ_self _)).trans hcn) (by have := hb.size; rw [World.size_alloc] at this; omega)
    rcases inV_idx ins nm with ⟨h1, h2⟩ | ⟨i, hi, h1, h2⟩
    · rw [h2]
      generalize fileI ins nm 0 = ix at h1 HI
      clear h2
      go_enter Tryd.func30, Tryd.ntmps30
      go_wp2_with fail
      go_region
      go_wp2_with (go_at_call 45; refine (HI.out _ (Below.refl _ _).drew).mono ?_; rintro e w2 ⟨rfl, hb⟩)
      go_ret
      exact ⟨rfl, (newBelow _ (.cells #[.string nm] 9)).drew.trans (hb.mono (newBelow _ _).drew.size)⟩
    · rw [h2]
      rw [h1] at HI
      obtain ⟨ad, e, hat⟩ := files_at H.out.C hi
      subst e
      have HAT := Lib.hid hat
      generalize ins[i] = x at h2 hat HAT ⊢
      clear h2 h1 hat
      go_enter Tryd.func30, Tryd.ntmps30
      go_wp2_with fail
      go_region
      go_wp2_with (go_at_call 45; refine (HI.out _ (Below.refl _ _).drew).mono ?_; rintro e w2 ⟨rfl, hb⟩; obtain ⟨d0, d1, d2⟩ := (HD.out.below hb).cells; obtain ⟨f0, f1⟩ := (HAT.out.below (Below.refl _ _).drew).below hb; have HB := Lib.hid hb; clear hb)
      go_ret
      exact ⟨⟨_, rfl, f1⟩, (newBelow _ (.cells #[.string nm] 9)).drew.trans (HB.out.mono (newBelow _ _).drew.size)⟩
set_option maxHeartbeats 4000000 in
theorem had_call (h : BnAt W b mb φ A c own ins fuel) (nm : ByteArray) (hn : nm.size ≤ 100000) :
    Calls Tryd.prog 29 #[.pointer (some ⟨b, 0, none⟩), .string nm] W fun e w' => e = .returned (.string (hadV own ins nm)) ∧ Below W.heap.size W w' := by
  have HF := Lib.hid (file_call h nm hn)
  have hv : hadV own ins nm = (fileV own ins nm).getD ⟨#[]⟩ := rfl
  rw [hv]
  clear h hv
  cases hf : fileV own ins nm with
  | none =>
    rw [hf] at HF
    go_enter Tryd.func29, Tryd.ntmps29
    go_wp2_with (go_at_call 30; refine HF.out.mono ?_; rintro e w2 ⟨rfl, hb⟩)
    go_ret
    exact ⟨rfl, hb⟩
  | some s =>
    rw [hf] at HF
    go_enter Tryd.func29, Tryd.ntmps29
    go_wp2_with (go_at_call 30; refine HF.out.mono ?_; rintro e w2 ⟨⟨ad, rfl, hc⟩, hb⟩)
    go_ret
    exact ⟨rfl, hb⟩
end
end Go.Proofs.YtnjjnfbkilgidaaDoor.Fr
/- recipe: a command's words. -/
namespace Go.Proofs.YtnjjnfbkilgidaaDoor.Fr
open Go.RowKit Go.Proofs.YtnjjnfbkilgidaaDoor.F Go.Proofs.YtnjjnfbkilgidaaDoorW.PrintWords
set_option linter.unusedVariables false
set_option linter.unusedSimpArgs false
def v0 (w : List ByteArray) : List UInt8 := (rdOf ByteArray.empty w 0).toList
/-- How many of a command's words are names; below 0: it may not have so many. -/
def namesL (v : List UInt8) (n : Int) : Int :=
  if v = [99, 111, 112, 121] then (if n = 2 then 2 else -1)
  else if v = [117, 112, 112, 101, 114] then (if n = 2 then 2 else -1)
  else if v = [108, 111, 119, 101, 114] then (if n = 2 then 2 else -1)
  else if v = [114, 101, 118, 101, 114, 115, 101] then (if n = 2 then 2 else -1)
  else if v = [115, 111, 114, 116] then (if n = 2 then 2 else -1)
  else if v = [109, 118] then (if n = 2 then 2 else -1)
  else if v = [115, 97, 109, 101] then (if n = 2 then 2 else -1)
  else if v = [104, 97, 115] then (if n = 2 then 1 else -1)
  else if v = [99, 111, 110, 99, 97, 116] then (if n ≥ 2 then n else -1)
  else if v = [115, 97, 121] then (if n ≥ 1 then 1 else -1)
  else if v = [109, 111, 114, 101] then (if n ≥ 1 then 1 else -1)
  else if v = [116, 111, 117, 99, 104] then (if n = 1 then 1 else -1)
  else if v = [114, 109] then (if n = 1 then 1 else -1)
  else if v = [116, 114, 117, 101] then (if n = 0 then 0 else -1)
  else if v = [102, 97, 105, 108] then (if n = 0 then 0 else -1)
  else -1
def namesV (w : List ByteArray) : Int := namesL (v0 w) ((w.length : Int) - 1)
set_option maxHeartbeats 4000000 in
theorem names_f (w : List ByteArray) (hw : 0 < w.length) (hl : w.length ≤ 1000000) : recipe_names.f 5 w = some (namesV w) := by
  have e : wrap64 ((w.length : Int) - 1) = (w.length : Int) - 1 := by unfold wrap64; omega
  unfold recipe_names.f namesV v0 namesL
  rw [if_pos (by omega), e]
  simp only [recipe_names.j0, recipe_names.j1, recipe_names.j2, recipe_names.j3, beq_iff_eq]
  generalize (rdOf ByteArray.empty w 0) = x
  generalize (w.length : Int) - 1 = n
  generalize hv : x.toList = v
  clear hv
  by_cases h : v = [99, 111, 112, 121]
  · subst h
    simp (config := { decide := true }) only [↓reduceIte]
    split <;> rfl
  simp only [if_neg h]
  clear h
  by_cases h : v = [117, 112, 112, 101, 114]
  · subst h
    simp (config := { decide := true }) only [↓reduceIte]
    split <;> rfl
  simp only [if_neg h]
  clear h
  by_cases h : v = [108, 111, 119, 101, 114]
  · subst h
    simp (config := { decide := true }) only [↓reduceIte]
    split <;> rfl
  simp only [if_neg h]
  clear h
  by_cases h : v = [114, 101, 118, 101, 114, 115, 101]
  · subst h
    simp (config := { decide := true }) only [↓reduceIte]
    split <;> rfl
  simp only [if_neg h]
  clear h
  by_cases h : v = [115, 111, 114, 116]
  · subst h
    simp (config := { decide := true }) only [↓reduceIte]
    split <;> rfl
  simp only [if_neg h]
  clear h
  by_cases h : v = [109, 118]
  · subst h
    simp (config := { decide := true }) only [↓reduceIte]
    split <;> rfl
  simp only [if_neg h]
  clear h
  by_cases h : v = [115, 97, 109, 101]
  · subst h
    simp (config := { decide := true }) only [↓reduceIte]
    split <;> rfl
  simp only [if_neg h]
  clear h
  by_cases h : v = [104, 97, 115]
  · subst h
    simp (config := { decide := true }) only [↓reduceIte]
    split <;> rfl
  simp only [if_neg h]
  clear h
  by_cases h : v = [99, 111, 110, 99, 97, 116]
  · subst h
    simp (config := { decide := true }) only [↓reduceIte]
    split <;> rfl
  simp only [if_neg h]
  clear h
  by_cases h : v = [115, 97, 121]
  · subst h
    simp (config := { decide := true }) only [↓reduceIte]
    split <;> rfl
  simp only [if_neg h]
  clear h
  by_cases h : v = [109, 111, 114, 101]
  · subst h
    simp (config := { decide := true }) only [↓reduceIte]
    split <;> rfl
  simp only [if_neg h]
  clear h
  by_cases h : v = [116, 111, 117, 99, 104]
  · subst h
    simp (config := { decide := true }) only [↓reduceIte]
    split <;> rfl
  simp only [if_neg h]
  clear h
  by_cases h : v = [114, 109]
  · subst h
    simp (config := { decide := true }) only [↓reduceIte]
    split <;> rfl
  simp only [if_neg h]
  clear h
  by_cases h : v = [116, 114, 117, 101]
  · subst h
    simp (config := { decide := true }) only [↓reduceIte]
    split <;> rfl
  simp only [if_neg h]
  clear h
  by_cases h : v = [102, 97, 105, 108]
  · subst h
    simp (config := { decide := true }) only [↓reduceIte]
    split <;> rfl
  simp only [if_neg h]
/-- Its words may be as they are. -/
def rightV (w : List ByteArray) : Bool := decide (0 ≤ namesV w) && ((w.drop 1).take (namesV w).toNat).all pathV
theorem isPath1_call (s : ByteArray) (hs : s.size ≤ 100000) (m : Int) (w : World) (hw : 0 < w.heap.size) (hm : w.cell? ⟨0, 0, none⟩ = some (.int .i64 m)) :
    Calls Tryd.prog 26 #[.string s] w fun e w' => e = .returned (.bool (!pathV s)) ∧ Below w.heap.size w w' := by
  have HP := Lib.hid (path_walk s hs m w hw hm)
  go_enter Tryd.func26, Tryd.ntmps26
  go_wp2_with (go_at_call 27; refine HP.out.mono ?_; rintro e w2 ⟨rfl, hb⟩)
  go_ret
  exact ⟨rfl, hb⟩
end Go.Proofs.YtnjjnfbkilgidaaDoor.Fr
/- recipe: may a command have its words? -/
namespace Go.Proofs.YtnjjnfbkilgidaaDoor.Fr
open Go.RowKit Go.Proofs.YtnjjnfbkilgidaaDoor.F Go.Proofs.YtnjjnfbkilgidaaDoorW.PrintWords
set_option linter.unusedVariables false
set_option linter.unusedSimpArgs false
/-- Go's table of how long a text may be to be searched: laid, whatever it says. -/
structure Gl (w : World) : Prop where
  lt : 0 < w.heap.size
  mx : ∃ m, w.cell? ⟨0, 0, none⟩ = some (.int .i64 m)
theorem Gl.below {w w' : World} (h : Gl w) (hb : Below w.heap.size w w') : Gl w' := by
  obtain ⟨m, hm⟩ := h.mx
  exact ⟨Nat.lt_of_lt_of_le h.lt hb.size, m, (hb.cell (p := ⟨0, 0, none⟩) h.lt).trans hm⟩
theorem enters_right1 (args : Array Value) (w : World) : (callFunc 26 args).run Tryd.prog w = .ok (.enter 26 args) w := enters_of Tryd.func26 (by kernel_rfl) rfl args w
theorem rdS {l : List ByteArray} {i : Nat} (h : i < l.length) : rdOf ByteArray.empty l (i : Int) = l[i] := by
  unfold rdOf
  rw [Int.toNat_natCast, List.getD_eq_getElem?_getD, List.getElem?_eq_getElem h, Option.getD_some]
theorem strs_at {w : World} {A : Option Addr} {l : List ByteArray} (h : Kd.C Kd.string w A l.length l) {k : Nat} (hk : k < l.length) : ∃ ad, A = some ad ∧ w.cell? (ad.add k) = some (.string l[k]) := by
  obtain ⟨ad, e, h0⟩ := Kd.at_string h (k : Int) (by omega) (by omega)
  rw [rdS hk, Int.toNat_natCast] at h0
  exact ⟨ad, e, h0⟩
/-- The first of a row that is no path, from k on: its place, or -1. -/
def badI (l : List ByteArray) (k : Nat) : Int := match (l.drop k).findIdx? fun s => !pathV s with | some i => ((k + i : Nat) : Int) | none => -1
theorem badI_end (l : List ByteArray) : badI l l.length = -1 := by
  unfold badI
  rw [List.drop_length]
  rfl
theorem badI_hit (l : List ByteArray) {k : Nat} (hk : k < l.length) (h : pathV l[k] = false) : badI l k = (k : Int) := by
  unfold badI
  rw [List.drop_eq_getElem_cons hk, List.findIdx?_cons, h]
  rfl
theorem badI_next (l : List ByteArray) {k : Nat} (hk : k < l.length) (h : pathV l[k] = true) : badI l k = badI l (k + 1) := by
  unfold badI
  rw [List.drop_eq_getElem_cons hk, List.findIdx?_cons, h]
  cases (l.drop (k + 1)).findIdx? fun s => !pathV s with
  | none => rfl
  | some i => show ((k + (i + 1) : Nat) : Int) = ((k + 1 + i : Nat) : Int); congr 1; omega
theorem badI_all (l : List ByteArray) : decide (0 ≤ badI l 0) = !l.all pathV := by
  unfold badI
  rw [List.drop_zero]
  cases h : l.findIdx? fun s => !pathV s with
  | none =>
    rw [List.findIdx?_eq_none_iff] at h
    have : l.all pathV = true := List.all_eq_true.2 fun x hx => by simpa using h x hx
    rw [this]
    rfl
  | some i =>
    have : l.all pathV = false := by
      rw [List.findIdx?_eq_some_iff_getElem] at h
      obtain ⟨hi, hp, _⟩ := h
      rw [List.all_eq_false]
      exact ⟨l[i], List.getElem_mem hi, by simpa using hp⟩
    rw [this]
    simp
set_option maxHeartbeats 4000000 in
theorem indexPath_call (A : Option Addr) (c : Nat) (l : List ByteArray) (w : World) (hA : Kd.C Kd.string w A l.length l) (hl : l.length ≤ 1000000) (hs : ∀ s ∈ l, s.size ≤ 100000) (hG : Gl w) :
    Calls Tryd.prog 41 #[.slice A l.length c, .func (.func 26) #[] #[]] w fun e w' => e = .returned (.int .i64 (badI l 0)) ∧ Below w.heap.size w w' := by
  have HA := Lib.hid hA
  have HS := Lib.hid hs
  have HP : Hid (∀ s, s.size ≤ 100000 → ∀ W, Below w.heap.size w W → Calls Tryd.prog 26 #[.string s] W fun e w' => e = .returned (.bool (!pathV s)) ∧ Below W.heap.size W w') := fun s hs W hb => by
    obtain ⟨m, hm⟩ := (hG.below hb).mx
    exact isPath1_call s hs m W (hG.below hb).lt hm
  clear hA hG hs
  have eg := enters_right1
  go_enter Tryd.func41, Tryd.ntmps41
  go_wp2
  go_loopw [5, 8] (fun _ i wr => ∃ k : Nat, k ≤ l.length ∧ i = .int .i64 k ∧ Hid (Below w.heap.size w wr) ∧ Hid (badI l 0 = badI l k)) (fun _ i _ => l.length - (intOf i).toNat)
  case atStart => exact ⟨0, Nat.zero_le _, rfl, Below.refl _ _, rfl⟩
  case round =>
    obtain ⟨k, hk, rfl, HB, HF⟩ := hrel
    by_cases hlk : k < l.length
    · have hltz : (k : Int) < (l.length : Int) := by omega
      obtain ⟨ad, e, hat⟩ := strs_at HA.out hlk
      subst e
      have f0 := (HB.out.cell (cell_lt hat)).trans hat
      have hcall := HP.out l[k] (HS.out _ (List.getElem_mem hlk)) _ HB.out
      have HI := Lib.hid (badI_hit l hlk)
      have HX := Lib.hid (badI_next l hlk)
      generalize l[k] = x at f0 hcall HI HX
      generalize hq : pathV x = q at hcall HI HX
      have HC := Lib.hid hcall
      clear hcall hat hq
      cases q with
      | false =>
        have HI2 := Lib.hid (HI.out rfl)
        clear HI HX
        go_wp2_with (go_at_fn 26; refine HC.out.mono ?_; rintro e w2 ⟨rfl, hb⟩)
        go_ret
        exact ⟨by rw [HF.out, HI2.out]; rfl, HB.out.trans (hb.mono HB.out.size)⟩
      | true =>
        have HX2 := Lib.hid (HX.out rfl)
        clear HI HX
        go_wp2_with (go_at_fn 26; refine HC.out.mono ?_; rintro e w2 ⟨rfl, hb⟩; have HB2 := Lib.hid (HB.out.trans (hb.mono HB.out.size)); clear hb)
        go_roundw
        case rel => exact ⟨k + 1, hlk, by go_num, HB2.out, HF.out.trans HX2.out⟩
        case measure => simp [intOf]; omega
    · obtain rfl : k = l.length := by omega
      have hltz : ¬ (l.length : Int) < (l.length : Int) := by omega
      go_wp2
      go_ret
      exact ⟨by rw [HF.out, badI_end]; rfl, HB.out⟩
theorem containsPath_call (A : Option Addr) (c : Nat) (l : List ByteArray) (w : World) (hA : Kd.C Kd.string w A l.length l) (hl : l.length ≤ 1000000) (hs : ∀ s ∈ l, s.size ≤ 100000) (hG : Gl w) :
    Calls Tryd.prog 25 #[.slice A l.length c, .func (.func 26) #[] #[]] w fun e w' => e = .returned (.bool (!l.all pathV)) ∧ Below w.heap.size w w' := by
  have HI := Lib.hid (indexPath_call A c l w hA hl hs hG)
  rw [← badI_all]
  generalize badI l 0 = ix at HI
  clear hA hs hG
  go_enter Tryd.func25, Tryd.ntmps25
  go_wp2_with (go_at_call 41; refine HI.out.mono ?_; rintro e w2 ⟨rfl, hb⟩)
  go_ret
  exact ⟨rfl, hb⟩
theorem namesL_le (v : List UInt8) (n : Int) (h : 0 ≤ namesL v n) : namesL v n ≤ n := by
  unfold namesL at h ⊢
  repeat' split
  all_goals first | omega | (simp_all; done) | skip
set_option maxHeartbeats 4000000 in
theorem right_call (A : Option Addr) (c : Nat) (l : List ByteArray) (w : World) (hA : Kd.C Kd.string w A l.length l) (hc : l.length ≤ c) (h0 : 0 < l.length) (hl : l.length ≤ 1000000) (hs : ∀ s ∈ l, s.size ≤ 100000) (hG : Gl w) :
    Calls Tryd.prog 18 #[.slice A l.length c] w fun e w' => e = .returned (.bool (rightV l)) ∧ Below w.heap.size w w' := by
  have HN := Lib.hid (recipe_names.calls 5 A c l _ w hA hc (names_f l h0 hl))
  have hle := namesL_le (v0 l) ((l.length : Int) - 1)
  have hr : rightV l = (decide (0 ≤ namesV l) && ((l.drop 1).take (namesV l).toNat).all pathV) := rfl
  have hle2 : 0 ≤ namesV l → namesV l ≤ (l.length : Int) - 1 := hle
  rw [hr]
  generalize namesV l = n at HN hle2
  clear hle hr
  have hA1 := Kd.C_drop hA (m := 1) (by omega) hc
  have HA1 := Lib.hid hA1
  have HG := Lib.hid hG
  have HS := Lib.hid hs
  clear hA hG hs hA1
  have HCF : Hid (∀ (A' : Option Addr) (k c' : Nat), A' = (if c = 1 then A else Option.map (fun x => x.add (1 * Kd.string.sz)) A) → k = ((l.drop 1).take n.toNat).length → ∀ W2, Below w.heap.size w W2 → Calls Tryd.prog 25 #[.slice A' k c', .func (.func 26) #[] #[]] W2 fun e w' => e = .returned (.bool (!((l.drop 1).take n.toNat).all pathV)) ∧ Below W2.heap.size W2 w') := fun A' k c' e1 e2 W2 hb => by
    subst e1 e2
    by_cases hm : n.toNat ≤ (l.drop 1).length
    · exact containsPath_call _ c' _ W2 (Kd.C_below (Kd.C_take HA1.out hm) hb) (by rw [List.length_take, List.length_drop]; omega) (fun s hs => HS.out s (List.mem_of_mem_drop (List.mem_of_mem_take hs))) (HG.out.below hb)
    · rw [List.take_of_length_le (by omega)]
      exact containsPath_call _ c' _ W2 (Kd.C_below HA1.out hb) (by rw [List.length_drop]; omega) (fun s hs => HS.out s (List.mem_of_mem_drop hs)) (HG.out.below hb)
  clear HA1 HG HS
  by_cases hn : 0 ≤ n
  · have hn2 := hle2 hn
    have hk : ((max n 0 + 1).toNat - 1) = ((l.drop 1).take n.toNat).length := by rw [List.length_take, List.length_drop]; omega
    rw [decide_eq_true hn, Bool.true_and]
    generalize ((l.drop 1).take n.toNat).all pathV = al at HCF
    have HK := Lib.hid hk
    clear hk
    go_enter Tryd.func18, Tryd.ntmps18
    go_wp2_with (first
      | (go_at_call 24; refine HN.out.mono ?_; rintro e w2 ⟨rfl, hd⟩; have HB := Lib.hid (hd.below); clear hd)
      | (go_at_call 25; refine (HCF.out _ _ _ (by first | rfl | (rw [if_neg (by first | assumption | omega)]; rfl)) HK.out _ HB.out).mono ?_; rintro e w3 ⟨rfl, hb⟩))
    all_goals
      go_ret
      exact ⟨by simp, HB.out.trans (hb.mono HB.out.size)⟩
  · rw [decide_eq_false hn, Bool.false_and]
    go_enter Tryd.func18, Tryd.ntmps18
    go_wp2_with (first
      | (go_at_call 24; refine HN.out.mono ?_; rintro e w2 ⟨rfl, hd⟩; have HB := Lib.hid (hd.below); clear hd))
    all_goals
      go_ret
      exact ⟨rfl, HB.out⟩
end Go.Proofs.YtnjjnfbkilgidaaDoor.Fr
/- recipe: the letters of one row turned. -/
namespace Go.Proofs.YtnjjnfbkilgidaaDoor.Fr
open Go.RowKit Go.Proofs.YtnjjnfbkilgidaaDoor.F Go.Proofs.YtnjjnfbkilgidaaDoorW.PrintWords
set_option linter.unusedVariables false
set_option linter.unusedSimpArgs false
set_option maxRecDepth 100000 in
theorem bits_all : ∀ n : Fin 256, bits .xor .u8 (n.val : Int) 32 = (((UInt8.ofNat n.val) ^^^ 32).toNat : Int) := by decide
theorem bits_xor (x : UInt8) : bits .xor .u8 (x.toNat : Int) 32 = ((x ^^^ 32).toNat : Int) := by
  have := bits_all ⟨x.toNat, x.toNat_lt⟩
  simpa using this
/-- A byte turned, if it is of the row. -/
def turnB (f l : Nat) (x : UInt8) : UInt8 := if f ≤ x.toNat ∧ x.toNat ≤ l then x ^^^ 32 else x
def asciiV (s : ByteArray) (f l : Nat) : ByteArray := ⟨(s.data.toList.map (turnB f l)).toArray⟩
theorem frozen_bytes (w : World) (e : TypeId) (s : ByteArray) (j : Nat) (hj : j < s.size) : (Lib.bytesWorld w e s).frozen? ⟨w.heap.size, j, none⟩ = false := by
  have h := Lib.bytesWorld_at_new w e s
  have hz : s.size ≤ (Lib.bytesCells w e s).size := by
    unfold Lib.bytesCells
    rw [Array.size_append, Array.size_map]
    exact Nat.le_add_right _ _
  simp only [World.frozen?, h]
  simp
  omega
/-- The k first bytes are turned. -/
def atB (s : ByteArray) (f l k j : Nat) : UInt8 := if j < k then turnB f l (s.data.toList.getD j 0) else s.data.toList.getD j 0
set_option maxHeartbeats 4000000 in
theorem ascii_call (s : ByteArray) (f l : Nat) (hs : s.size ≤ 100000000) (w : World) :
    Calls Tryd.prog 48 #[.string s, .int .u8 f, .int .u8 l] w fun e w' => e = .returned (.string (asciiV s f l)) ∧ Below w.heap.size w w' := by
  have hcv := fun (W : World) => Lib.run_convert_string_bytes (P := Tryd.prog) W 9 68 5 s Tryd.underlying9 Tryd.underlying68 Tryd.underlying5
  go_enter Tryd.func48, Tryd.ntmps48
  go_wp2
  clear hcv
  obtain ⟨w0, hw0⟩ : ∃ w0, Lib.bytesWorld w 5 s = w0 := ⟨_, rfl⟩
  have hcell : Hid (∀ j, j < s.size → w0.cell? ⟨w.heap.size, j, none⟩ = some (.int .u8 (atB s f l 0 j).toNat)) := by
    intro j hj
    rw [← hw0]
    exact Lib.bytesWorld_cell w 5 s j hj
  have hB0 : Hid (Below w.heap.size w w0) := by
    rw [Hid, ← hw0]
    exact ⟨rfl, rfl, rfl, by rw [Lib.bytesWorld_size]; omega, fun k hk => Lib.bytesWorld_at_old _ 5 s k hk⟩
  have hfr : Hid (∀ j, j < s.size → w0.frozen? ⟨w.heap.size, j, none⟩ = false) := by
    intro j hj
    rw [← hw0]
    exact frozen_bytes w _ s j hj
  rw [hw0]
  clear hw0
  go_loopw [8, 9, 14] (fun _ _ i wr => ∃ k : Nat, k ≤ s.size ∧ i = .int .i64 k ∧ Hid (Below w.heap.size w wr) ∧ Hid (∀ j, j < s.size → wr.cell? ⟨w.heap.size, j, none⟩ = some (.int .u8 (atB s f l k j).toNat)) ∧ Hid (∀ j, j < s.size → wr.frozen? ⟨w.heap.size, j, none⟩ = false)) (fun _ _ i _ => s.size - (intOf i).toNat)
  case atStart => exact ⟨0, Nat.zero_le _, rfl, hB0, hcell, hfr⟩
  case round =>
    clear hcell hB0 hfr
    obtain ⟨k, hk, rfl, HB, HC, HR⟩ := hrel
    by_cases hlk : k < s.size
    · have hltz : (k : Int) < (s.size : Int) := by omega
      have hx := HC.out k hlk
      have hy := HR.out k hlk
      have hk0 : atB s f l k k = s.data.toList.getD k 0 := by unfold atB; rw [if_neg (by omega)]
      have HK : Hid (∀ j, j ≠ k → atB s f l (k + 1) j = atB s f l k j) := fun j hj => by
        unfold atB
        by_cases h : j < k
        · rw [if_pos h, if_pos (by omega)]
        · rw [if_neg h, if_neg (by omega)]
      have HK1 : Hid (atB s f l (k + 1) k = turnB f l (s.data.toList.getD k 0)) := by unfold Hid atB; rw [if_pos (by omega)]
      rw [hk0] at hx
      clear hk0
      generalize s.data.toList.getD k 0 = x at hx HK1
      have HX := Lib.hid (bits_xor x)
      by_cases h1 : f ≤ x.toNat
      · by_cases h2 : x.toNat ≤ l
        · have hz1 : (f : Int) ≤ (x.toNat : Int) := by omega
          have hz2 : (x.toNat : Int) ≤ (l : Int) := by omega
          have HT : Hid (turnB f l x = x ^^^ 32) := by unfold Hid turnB; rw [if_pos ⟨h1, h2⟩]
          go_wp2
          go_roundw
          case rel =>
            refine ⟨k + 1, hlk, by go_num, HB.out.setCell (Nat.le_refl _) _, fun j hj => ?_, fun j hj => ?_⟩
            · by_cases e : j = k
              · subst e
                rw [HX.out, World.cell?_setCell_same' _ _ _ (by rw [hx]; rfl), HK1.out, HT.out]
              · rw [World.cell?_setCell_other (a := ⟨w.heap.size, k, none⟩) (b := ⟨w.heap.size, j, none⟩) (h := fun h => e (by injection h with _ h2 _; exact h2.symm)), HC.out j hj, HK.out j e]
            · rw [World.frozen?_setCell, HR.out j hj]
          case measure => simp [intOf]; omega
        · have hz1 : (f : Int) ≤ (x.toNat : Int) := by omega
          have hz2 : ¬ (x.toNat : Int) ≤ (l : Int) := by omega
          have HT : Hid (turnB f l x = x) := by unfold Hid turnB; rw [if_neg (fun h => h2 h.2)]
          go_wp2
          go_roundw
          case rel =>
            refine ⟨k + 1, hlk, by go_num, HB.out, fun j hj => ?_, HR.out⟩
            by_cases e : j = k
            · subst e
              rw [hx, HK1.out, HT.out]
            · rw [HC.out j hj, HK.out j e]
          case measure => simp [intOf]; omega
      · have hz1 : ¬ (f : Int) ≤ (x.toNat : Int) := by omega
        have HT : Hid (turnB f l x = x) := by unfold Hid turnB; rw [if_neg (fun h => h1 h.1)]
        go_wp2
        go_roundw
        case rel =>
          refine ⟨k + 1, hlk, by go_num, HB.out, fun j hj => ?_, HR.out⟩
          by_cases e : j = k
          · subst e
            rw [hx, HK1.out, HT.out]
          · rw [HC.out j hj, HK.out j e]
        case measure => simp [intOf]; omega
    · obtain rfl : k = s.size := by omega
      have hltz : ¬ (s.size : Int) < (s.size : Int) := by omega
      have hll : (s.data.toList.map (turnB f l)).length = s.size := by simp
      have hbk := run_convert_bytes_back (P := Tryd.prog) wr 68 9 5 ⟨w.heap.size, 0, none⟩ (grownCap w s.size 0 5) (s.data.toList.map (turnB f l)) Tryd.underlying68 Tryd.underlying5 Tryd.underlying9 (fun j hj => by
        have hj' : j < s.size := by simpa using hj
        have := HC.out j hj'
        rw [Addr.add_lit, Nat.zero_add, this]
        unfold atB
        rw [if_pos hj', List.getElem_map, List.getD_eq_getElem?_getD, List.getElem?_eq_getElem (by simpa using hj), Option.getD_some])
      rw [hll] at hbk
      go_wp2
      go_ret
      exact ⟨rfl, HB.out⟩
end Go.Proofs.YtnjjnfbkilgidaaDoor.Fr
/- A range over an iterator that keeps what it goes by in a cell of its own (block B), and a body that never leaves: told to the end. -/
namespace Go.Proofs.YtnjjnfbkilgidaaDoor.Range
open Go Go.RowKit
variable {α : Type}

/-- What a round may find changed between two rounds: the iterator's cell, and whatever is new. -/
structure CalmC (B : Nat) (J : List α → World → Prop) : Prop where
  cell : ∀ s W v, J s W → J s (W.setCell ⟨B, 0, none⟩ v)
  below : ∀ s W W', J s W → Below W.heap.size W W' → J s W'
/-- The iterator gives xs, one by one, to a yield that always goes on and keeps what lies below n₀. -/
def Gives (F : Fence) (n : Nat) (P : Program) (gf : Nat) (lb : Array Value) (encs : α → Array Value) (B n₀ : Nat) (xs : List α) (w : World) : Prop :=
  ∀ (l : Nat) (J : List α → World → Prop) (W : World), Below w.heap.size w W → CalmC B J →
    (∀ pre x W1, J pre W1 → (∃ t, pre ++ x :: t = xs) → YieldAt F (n - 1) P l (encs x) W1 fun e W' => e = .returned (.bool true) ∧ J (pre ++ [x]) W' ∧ Below n₀ W1 W') →
    J [] W → CallsIn F n P gf (#[.func (.yield l) #[] #[]] ++ lb) W fun e W' => (∃ v, e = .returned v) ∧ J xs W'
/-- How the body ends. -/
def goesOn (B n₀ : Nat) (I : List α → World → Prop) (xs : List α) (W : World) : Exit → Act → World → Prop
  | .normal, _, W' => KeepsFrom B W W' ∧ Below n₀ W W' ∧ I xs W'
  | _, _, _ => False
theorem loop_all {F : Fence} {n : Nat} {P : Program} {g : Operand} {ps : Array Tmp} {assign body : Code} {Q : Exit → Act → World → Prop} {a : Act} {w : World} (hro : F.round = none) (h1 : 1 ≤ n) {gf : Nat} {lb : Array Value}
    (hg : a.eval g = .func (.func gf) #[] lb) (hFg : F.fn gf) (eg : ∀ args w, (callFunc gf args).run P w = .ok (.enter gf args) w) {encs : α → Array Value} {B n₀ : Nat} {xs : List α} {w0 : World}
    (hseq : Gives F (n - 1) P gf lb encs B n₀ xs w0) (hb0 : Below w0.heap.size w0 w) (hB : B < w.heap.size) (hn : n₀ ≤ w.heap.size) (hps : ∀ x, (encs x).size = ps.size) (I : List α → World → Prop) (hI : CalmC B I)
    (hput : ∀ s W l o o', I s W → w.heap.size ≤ l → W.heap[l]? = some o → Obj.isCells o = false → I s (W.putObj l o')) (h0 : I [] w) (a₁ : α → Act)
    (hassign : ∀ (l : Nat) (x : α) (W : World) (K : Act → World → Prop), K (a₁ x) W → assign.wpIn (F.inRound l) (n - 1 - 1) P (Exit.then K (fun _ _ _ => False)) { tmps := (ps.zip (encs x)).foldl (fun t (p, v) => t.setIfInBounds p v) a.tmps, defers := [] } W)
    (hbody : ∀ (l : Nat) (pre : List α) (x : α) (W : World), I pre W → (∃ t, pre ++ x :: t = xs) → body.wpIn (F.inRound l) (n - 1 - 1) P (goesOn w.heap.size n₀ I (pre ++ [x]) W) (a₁ x) W)
    (hdone : ∀ (D : Nat) (W : World), w.heap.size ≤ D → I xs W → W.heap[D]? = some (.deferred (some [])) → Q .normal { a with defers := { target := .collected D, args := #[] } :: a.defers } W) :
    (Code.rangeFunc g ps assign body).wpIn F n P Q a w := by
  apply wpIn_rangeFunc
  intro fn hfn
  rw [hro]
  let rec_ : LoopState → Loop := fun st => { state := st, pending := none, fn := fn, tmps := a.tmps, params := ps, assign := assign, body := body, defers := w.heap.size }
  let V := w.alloc (.deferred (some []))
  have hVs : V.heap.size = w.heap.size + 1 := World.size_alloc _ _
  let U := V.alloc (.loop (rec_ .ready))
  have hUl : U.heap[w.heap.size + 1]? = some (.loop (rec_ .ready)) := by rw [← hVs]; exact World.alloc_heap_new V _
  have hVd : V.heap[w.heap.size]? = some (.deferred (some [])) := World.alloc_heap_new w _
  have hUd : U.heap[w.heap.size]? = some (.deferred (some [])) := (Below.heap_alloc V _ _ (by rw [hVs]; omega)).trans hVd
  have hwV : Below w.heap.size w V := (Below.refl _ w).alloc (Nat.le_refl _) _
  have hVU : Below V.heap.size V U := (Below.refl _ V).alloc (Nat.le_refl _) _
  have hIU : I [] U := hI.below _ _ _ (hI.below _ _ _ h0 hwV) hVU
  have hwU : Below w.heap.size w U := hwV.trans (hVU.mono (by rw [hVs]; omega))
  refine ⟨_, _, _, { target := .fn (.func gf) lb, args := #[.func (.yield (w.heap.size + 1)) #[] #[]] }, U, gf, #[.func (.yield (w.heap.size + 1)) #[] #[]] ++ lb, U, run_enterLoop_outer fn a.tmps ps assign body, ?_, ?_, ?_, fun _ => h1, ?_⟩
  · simp only [resolve, hg]
    simp [go_sem]
    rfl
  · intro f' hf'
    simp [Target.leads] at hf'
    subst hf'
    exact hFg
  · simp [invoke, go_sem, eg]
  refine (hseq (w.heap.size + 1) (fun pre W => I pre W ∧ W.heap[w.heap.size + 1]? = some (.loop (rec_ .ready)) ∧ W.heap[w.heap.size]? = some (.deferred (some []))) U (hb0.trans (hwU.mono hb0.size)) ⟨?_, ?_⟩ ?_ ⟨hIU, hUl, hUd⟩).mono ?_
  · rintro s W v ⟨h, hl, hd⟩
    exact ⟨hI.cell _ _ _ h, (Below.heap_setCell W _ _ _ (by show w.heap.size + 1 ≠ B; omega)).trans hl, (Below.heap_setCell W _ _ _ (by show w.heap.size ≠ B; omega)).trans hd⟩
  · rintro s W W' ⟨h, hl, hd⟩ hb
    exact ⟨hI.below _ _ _ h hb, (hb.block _ (Array.getElem?_eq_some_iff.1 hl).1).trans hl, (hb.block _ (Array.getElem?_eq_some_iff.1 hd).1).trans hd⟩
  · rintro pre x W ⟨h, hl, hd⟩ hx
    have hlt := (Array.getElem?_eq_some_iff.1 hl).1
    refine ⟨_, _, _, _, run_yield (P := P) (args := encs x) hl (hps x), roundIn_of_wpIn hfn ?_⟩
    refine hassign _ x W _ ?_
    refine ⟨_, run_beginRound hl rfl, ?_⟩
    let X := W.putObj (w.heap.size + 1) (.loop (rec_ .busy))
    have hXl : X.heap[w.heap.size + 1]? = some (.loop (rec_ .busy)) := World.putObj_heap_same hlt
    have hXd : X.heap[w.heap.size]? = some (.deferred (some [])) := (World.putObj_heap_other (by omega)).trans hd
    have hXb : Below n₀ W X := (Below.refl _ W).grown (grownBy_putObj' W _ _) (by omega) (fun k e => by cases e; omega)
    refine wpIn_mono (hbody (w.heap.size + 1) pre x X (hput _ _ _ _ _ h (by omega) hl rfl) hx) ?_
    intro e a3 Y hY
    cases e with
    | normal =>
      obtain ⟨hk, hbY, hIY⟩ := hY
      have hYl := hk.same _ _ (by omega) hXl rfl
      have hYd := hk.same _ _ (Nat.le_refl _) hXd rfl
      have hlt2 := (Array.getElem?_eq_some_iff.1 hYl).1
      refine ⟨_, _, run_endRound none hYl, rfl, ⟨hput _ _ _ _ _ hIY (by omega) hYl rfl, World.putObj_heap_same hlt2, (World.putObj_heap_other (by omega)).trans hYd⟩, ?_⟩
      exact (hXb.trans hbY).trans ((Below.refl _ Y).grown (grownBy_putObj' Y _ _) (by omega) (fun k e => by cases e; omega))
    | _ => exact hY.elim
  · rintro e Y ⟨⟨v, rfl⟩, hIY, hYl, hYd⟩
    exact ⟨none, _, run_endLoop hYl (by simp [rec_]), hdone _ _ (Nat.le_refl _) (hput _ _ _ _ _ hIY (by omega) hYl rfl) ((World.putObj_heap_other (by omega)).trans hYd)⟩
end Go.Proofs.YtnjjnfbkilgidaaDoor.Range
namespace Go.Proofs.YtnjjnfbkilgidaaDoor.Hand
open Go.RowKit Go.Shelf Go.Proofs.YtnjjnfbkilgidaaDoor.Range Go.Proofs.YtnjjnfbkilgidaaDoorW.PrintWords
attribute [local go_sem] Oper.semAt_some
set_option linter.unusedVariables false
set_option linter.unusedSimpArgs false

/-! #### Lines -/
def cutL : List UInt8 → List UInt8 × List UInt8
  | [] => ([], [])
  | c :: t => if c = 10 then ([], t) else (c :: (cutL t).1, (cutL t).2)
def linesGo (cur : List UInt8) : List UInt8 → List (List UInt8)
  | [] => if cur = [] then [] else [cur.reverse]
  | c :: t => if c = 10 then cur.reverse :: linesGo [] t else linesGo (c :: cur) t
def bytesOf (l : List UInt8) : ByteArray := ⟨l.toArray⟩
def linesV (s : ByteArray) : List ByteArray := (linesGo [] s.data.toList).map bytesOf
theorem cut_eq (s : List UInt8) : (Lib.cut s [10]).1 = (cutL s).1 ∧ (Lib.cut s [10]).2.1 = (cutL s).2 := by
  induction s with
  | nil => simp [Lib.cut, Lib.index, cutL]
  | cons c t ih =>
    unfold Lib.cut at ih ⊢
    by_cases e : c = 10
    · subst e
      simp [Lib.index, cutL]
    · have e1 : (10 == c) = false := by simpa using fun h => e h.symm
      have hge := Lib.index_ge t [10]
      rw [Lib.index, cutL, if_neg e]
      simp only [List.isPrefixOf, e1, Bool.false_and, Bool.false_eq_true, if_false]
      by_cases h : Lib.index t [10] = -1
      · rw [h] at ih ⊢
        simpa using ih
      · have h0 : 0 ≤ Lib.index t [10] := by omega
        rw [if_pos h0] at ih
        have e2 : (Lib.index t [10] == -1) = false := by simpa using h
        rw [e2]
        simp only [Bool.false_eq_true, if_false]
        rw [if_pos (by omega), show (Lib.index t [10] + 1).toNat = (Lib.index t [10]).toNat + 1 by omega]
        simp only at ih ⊢
        rw [List.take_succ_cons, ih.1, Nat.add_right_comm, List.drop_succ_cons, ih.2]
        exact ⟨rfl, rfl⟩
theorem linesGo_cut : ∀ (s cur : List UInt8), (cur ≠ [] ∨ s ≠ []) → linesGo cur s = (cur.reverse ++ (cutL s).1) :: linesGo [] (cutL s).2 := by
  intro s
  induction s with
  | nil =>
    intro cur h
    have : cur ≠ [] := by
      rcases h with h | h
      · exact h
      · exact absurd rfl h
    simp [linesGo, cutL, this]
  | cons c t ih =>
    intro cur _
    by_cases e : c = 10
    · simp [linesGo, cutL, e]
    · rw [linesGo, if_neg e, ih (c :: cur) (.inl (by simp)), cutL, if_neg e]
      simp
theorem cutL_le (s : List UInt8) : (cutL s).2.length ≤ s.length := by
  induction s with
  | nil => simp [cutL]
  | cons c t ih =>
    rw [cutL]
    split
    · simp
    · simp only [List.length_cons]
      omega
theorem cutL_lt {s : List UInt8} (h : s ≠ []) : (cutL s).2.length < s.length := by
  cases s with
  | nil => exact absurd rfl h
  | cons c t =>
    rw [cutL]
    split
    · simp
    · have := cutL_le t
      simp only [List.length_cons]
      omega
theorem ba_ne {u : ByteArray} (e : u ≠ ByteArray.empty) : u.data.toList ≠ [] := by
  intro h
  apply e
  cases u with
  | mk d =>
    have : d = #[] := Array.ext' h
    rw [this]
    rfl
theorem ba_isEmpty {u : ByteArray} (e : u ≠ ByteArray.empty) : u.toList.isEmpty = false := by
  rw [ByteArray.toList_eq]
  cases h : u.data.toList with
  | nil => exact absurd h (ba_ne e)
  | cons => rfl
theorem linesGo_len : ∀ (s cur : List UInt8), (linesGo cur s).length ≤ s.length + 1 := by
  intro s
  induction s with
  | nil =>
    intro cur
    rw [linesGo]
    split <;> simp
  | cons c t ih =>
    intro cur
    rw [linesGo]
    have h1 := ih []
    have h2 := ih (c :: cur)
    split
    · simp only [List.length_cons]
      omega
    · simp only [List.length_cons] at h2 ⊢
      omega
theorem linesV_cons {s : ByteArray} (h : s ≠ ByteArray.empty) : linesV s = ⟨(Lib.cut s.data.toList [10]).1.toArray⟩ :: linesV ⟨(Lib.cut s.data.toList [10]).2.1.toArray⟩ := by
  obtain ⟨e1, e2⟩ := cut_eq s.data.toList
  rw [e1, e2]
  unfold linesV
  rw [linesGo_cut _ _ (.inr (ba_ne h))]
  simp [bytesOf]
/-- How long the text is that the cell holds. -/
def leftAt (B : Nat) (w : World) : Nat := match w.cell? ⟨B, 0, none⟩ with
  | some (.string s) => s.size
  | _ => 0
theorem cell_lt' {w : World} {p : Addr} {v : Value} (h : w.cell? p = some v) : p.block < w.heap.size := World.block_lt_of_cell? w _ h

theorem belowD (w : World) (n : Nat) : Below w.heap.size w (w.drewN n) := ⟨rfl, rfl, rfl, Nat.le_refl _, fun _ _ => rfl⟩
set_option maxHeartbeats 1000000 in
theorem lines1_in (l Bn n₀ : Nat) (m : Int) (xs : List ByteArray) (J : List ByteArray → World → Prop) (hJ : CalmC Bn J) (s : ByteArray) (hs : s.size ≤ 100000) (W : World) (hxs : linesV s = xs)
    (hY : ∀ pre x W1, J pre W1 → (∃ t, pre ++ x :: t = xs) → YieldAt Fence.wide (3 - 1) Tryd.prog l #[.string x] W1 fun e W' => e = .returned (.bool true) ∧ J (pre ++ [x]) W' ∧ Below n₀ W1 W')
    (hb2 : 0 < Bn) (hbn : Bn < n₀) (hn0 : n₀ ≤ W.heap.size) (hm : W.cell? ⟨0, 0, none⟩ = some (.int .i64 m)) (hBn : W.cell? ⟨Bn, 0, none⟩ = some (.string s)) (hfz : W.frozen? ⟨Bn, 0, none⟩ = false) (h0 : J [] W) :
    CallsIn Fence.wide 3 Tryd.prog 91 #[.func (.yield l) #[] #[], .pointer (some ⟨Bn, 0, none⟩)] W fun e W' => (∃ v, e = .returned v) ∧ J xs W' := by
  have HY := Lib.hid hY
  have H0 := Lib.hid h0
  have HJ := Lib.hid hJ
  have HX := Lib.hid hxs
  have HM := Lib.hid hm
  have HB := Lib.hid hBn
  have HF := Lib.hid hfz
  clear hY h0 hJ hxs hm hBn hfz
  refine callsIn_of_wp Tryd.func91 rfl trivial ?_ rfl
  simp only [Tryd.ntmps91, List.size_toArray, List.length_cons, List.length_nil, Nat.reduceAdd, Nat.reduceSub, Array.replicate_succ, Array.replicate_zero, List.push_toArray, List.append_toArray, List.nil_append, List.cons_append]
  gi_wp2
  gi_loopw [] (fun wr => ∃ (pre : List ByteArray) (u : ByteArray), Hid (J pre wr) ∧ Hid (pre ++ linesV u = xs) ∧ u.size ≤ 100000 ∧ Hid (wr.cell? ⟨Bn, 0, none⟩ = some (.string u)) ∧ Hid (wr.frozen? ⟨Bn, 0, none⟩ = false) ∧ Hid (wr.cell? ⟨0, 0, none⟩ = some (.int .i64 m)) ∧ n₀ ≤ wr.heap.size)
    (fun wr => leftAt Bn wr)
  case atStart => exact ⟨[], s, H0, by simpa [Hid] using HX.out, hs, HB, HF, HM, hn0⟩
  case round =>
    obtain ⟨pre, u, hJu, hpu, hsu, hcu, hfu, hmu, hnu⟩ := hrel
    have hc := hcu.out
    by_cases e : u = ByteArray.empty
    · subst e
      have hfin : Hid (J xs wr) := by
        have h := hpu.out
        rw [show linesV ByteArray.empty = [] from rfl, List.append_nil] at h
        rw [← h]
        exact hJu
      gi_wp2
      go_end0
      exact ⟨⟨_, rfl⟩, hfin.out⟩
    · have hcons := linesV_cons e
      have hlt := cutL_lt (s := u.data.toList) (ba_ne e)
      rw [← (cut_eq u.data.toList).2] at hlt
      have hle : (Lib.cut u.data.toList [10]).2.1.length < u.size := by simpa using hlt
      generalize hcx : (⟨(Lib.cut u.data.toList [10]).1.toArray⟩ : ByteArray) = x at hcons
      have hv : Hid ((⟨(Lib.cut u.data.toList [10]).2.1.toArray⟩ : ByteArray).size < u.size) := by
        show (Lib.cut u.data.toList [10]).2.1.toArray.size < u.size
        rw [List.size_toArray]
        exact hle
      generalize hcv : (⟨(Lib.cut u.data.toList [10]).2.1.toArray⟩ : ByteArray) = v at hcons hv
      have hcut := Lib.hid (Tryd.strings_Cut u ⟨#[10]⟩ m wr (by omega) hmu.out)
      rw [show ((⟨#[10]⟩ : ByteArray).data.toList) = [10] from rfl, hcx, hcv] at hcut
      generalize (Lib.cut u.data.toList [10]).2.2 = found at hcut
      have hE := Lib.hid e
      have hne : u.toList.isEmpty = false := ba_isEmpty e
      clear hcx hcv hle hlt e
      have hxs : Hid ((pre ++ [x]) ++ linesV v = xs) := by
        rw [← hpu.out, hcons]
        simp [Hid]
      clear hcons
      have hround : Hid (∀ nd, YieldAt Fence.wide (3 - 1) Tryd.prog l #[.string x] (wr.drewN nd) fun e W' => e = .returned (.bool true) ∧ J (pre ++ [x]) W' ∧ Below n₀ (wr.drewN nd) W') := fun nd =>
        HY.out pre x _ (HJ.out.below _ _ _ hJu.out (belowD _ _)) ⟨linesV v, by have := hxs.out; rwa [List.append_assoc] at this⟩
      have hcD : Hid (∀ nd, (wr.drewN nd).cell? ⟨Bn, 0, none⟩ = some (.string u)) := fun nd => ((belowD wr nd).cell (p := ⟨Bn, 0, none⟩) (cell_lt' hc)).trans hc
      gi_wp2_with (refine ⟨trivial, ?_⟩; gi_at_call 92; refine (callsIn_wide.2 hcut.out).mono ?_; rintro e w' ⟨rfl, nd, rfl⟩; obtain ⟨fn, tmps, assign, body, hy, hR⟩ := hround.out nd)
      refine hR.mono ?_
      rintro e W3 ⟨rfl, hJ3, hb3⟩
      have hc3 : W3.cell? ⟨Bn, 0, none⟩ = some (.string u) := (hb3.cell (p := ⟨Bn, 0, none⟩) hbn).trans (hcD.out nd)
      have hf3 : W3.frozen? ⟨Bn, 0, none⟩ = false := (hb3.frozen (p := ⟨Bn, 0, none⟩) hbn).trans hfu.out
      have hm3 : Hid (W3.cell? ⟨0, 0, none⟩ = some (.int .i64 m)) := (hb3.cell (p := ⟨0, 0, none⟩) (by show 0 < n₀; omega)).trans hmu.out
      have hJ4 := Lib.hid hJ3
      have hs3 : n₀ ≤ W3.heap.size := Nat.le_trans hnu hb3.size
      clear hJ3 hb3 hy hR
      gi_wp2
      go_roundw
      case rel =>
        refine ⟨pre ++ [x], v, HJ.out.cell _ _ _ hJ4.out, hxs, by have := hv.out; omega, ?_, ?_, ?_, ?_⟩
        · exact World.cell?_setCell_same' _ _ _ (by rw [hc3]; rfl)
        · show World.frozen? _ _ = false
          rw [World.frozen?_setCell]
          exact hf3
        · exact (World.cell?_setCell_other _ _ _ _ (by simp <;> omega)).trans hm3.out
        · simpa using hs3
      case measure =>
        have h1 : leftAt Bn wr = u.size := by simp [leftAt, hc]
        have h2 : leftAt Bn (W3.setCell ⟨Bn, 0, none⟩ (.string v)) = v.size := by
          unfold leftAt
          rw [World.cell?_setCell_same' _ _ _ (by rw [hc3]; rfl)]
        rw [h1, h2]
        exact hv.out

/-- lines$1 gives the lines. -/
theorem lines_gives (Bn n₀ : Nat) (m : Int) (s : ByteArray) (hs : s.size ≤ 100000) (w : World) (hb2 : 0 < Bn) (hbn : Bn < n₀) (hn0 : n₀ ≤ w.heap.size) (hm : w.cell? ⟨0, 0, none⟩ = some (.int .i64 m)) (hBn : w.cell? ⟨Bn, 0, none⟩ = some (.string s)) (hfz : w.frozen? ⟨Bn, 0, none⟩ = false) :
    Gives Fence.wide 3 Tryd.prog 91 #[.pointer (some ⟨Bn, 0, none⟩)] (fun x : ByteArray => #[.string x]) Bn n₀ (linesV s) w := by
  intro l J W hb hJ hY h0
  exact lines1_in l Bn n₀ m _ J hJ s hs W rfl hY hb2 hbn (Nat.le_trans hn0 hb.size) ((hb.cell (p := ⟨0, 0, none⟩) (by show 0 < _; omega)).trans hm) ((hb.cell (p := ⟨Bn, 0, none⟩) (by show Bn < _; omega)).trans hBn) ((hb.frozen (p := ⟨Bn, 0, none⟩) (by show Bn < _; omega)).trans hfz) h0

/-! #### gather -/
theorem grown_of_below {W W' : World} (h : Below W.heap.size W W') : W.grownBy W' none := ⟨h.os, h.tape, h.output, h.size, fun k hk _ => h.block k hk⟩
theorem Tryd.infoStr : (Tryd.prog.info? 9).map (fun i => (i.zero, i.size, i.bytes)) = some (some (.string ByteArray.empty), 1, 16) := by kernel_rfl
theorem R_strs {w : World} {base : Nat} {v : Value} {xs : List ByteArray} (h : w.ownsRow base 9 1 v xs.length (xs.map Value.string)) : Kd.R Kd.string 9 w base (fun _ => True) v xs := by
  refine ⟨fun _ _ => trivial, xs.map Value.string, h, by simp [Kd.string, Kd.scalar], fun j p hj => ?_⟩
  show ((xs.map Value.string).drop (j * 1)).take 1 = [.string p]
  rw [Nat.mul_one]
  obtain ⟨hl, rfl⟩ := List.getElem?_eq_some_iff.1 hj
  rw [List.drop_eq_getElem_cons (by simpa using hl)]
  simp
theorem row_not {W : World} {n₀ Bn size k e : Nat} {v : Value} {xs : List Value} (h : W.ownsRow n₀ e size v k xs) (hB : Bn < n₀) : v.ownBlock ≠ some Bn := by
  rcases h.2 with ⟨rfl, _⟩ | ⟨g, cap, cur, rfl, hg, _⟩
  · simp [Value.ownBlock]
  · intro e
    have : g = Bn := by simpa [Value.ownBlock] using e
    omega
/-- What gather keeps between two rounds. -/
def GInv (Bn n₀ B : Nat) (w : World) (pre : List ByteArray) (W : World) : Prop :=
  (∃ v, Boxed W B 22 v ∧ W.ownsRow n₀ 9 1 v pre.length (pre.map Value.string) ∧ True) ∧ Below Bn w W
theorem ginv_calm (Bn n₀ B : Nat) (w : World) (h1 : Bn < n₀) (h2 : n₀ ≤ B) : CalmC Bn (GInv Bn n₀ B w) where
  cell := by
    rintro s W u ⟨⟨v, hv, hr, _⟩, hb⟩
    refine ⟨⟨v, hv.kept (grownBy_setCell' W Bn u) (fun e => by cases e; omega), hr.kept (grownBy_setCell' W Bn u) (.inr (row_not hr h1)), trivial⟩, hb.setCell (p := ⟨Bn, 0, none⟩) (Nat.le_refl _) u⟩
  below := by
    rintro s W W' ⟨⟨v, hv, hr, _⟩, hb⟩ hB
    exact ⟨⟨v, hv.kept (grown_of_below hB) (by simp), hr.kept (grown_of_below hB) (by rcases hr.2 with ⟨rfl, _⟩ | ⟨g, cap, cur, rfl, _⟩; (· exact .inl rfl); (· exact .inr (by simp [Value.ownBlock]))), trivial⟩, hb.trans (hB.mono (by have := hv.lt; omega))⟩
theorem ginv_put (Bn n₀ B : Nat) (w w1 : World) (h1 : Bn < n₀) (h2 : n₀ ≤ B) (h3 : Bn ≤ w1.heap.size) : ∀ s W l o o', GInv Bn n₀ B w s W → w1.heap.size ≤ l → W.heap[l]? = some o → Obj.isCells o = false → GInv Bn n₀ B w s (W.putObj l o') := by
  rintro s W l o o' ⟨h, hb⟩ hl ho hc
  refine ⟨(holdsRow_own n₀ B 22 9 1 (fun s : List ByteArray => s.length) (fun s => s.map Value.string) (fun _ _ => True)).putObj o' h ho hc, ?_⟩
  exact hb.trans ((Below.refl _ W).grown (grownBy_putObj' W _ _) (by have := (Array.getElem?_eq_some_iff.1 ho).1; omega) (fun k e => by cases e; omega))

set_option maxHeartbeats 1000000 in
theorem gather_in (gf : Nat) (lb : Array Value) (eg : ∀ args w, (callFunc gf args).run Tryd.prog w = .ok (.enter gf args) w) (Bn : Nat) (xs : List ByteArray) (hxl : xs.length ≤ 1000000) (w : World) (hBn : Bn < w.heap.size)
    (hseq : Gives Fence.wide 3 Tryd.prog gf lb (fun x : ByteArray => #[.string x]) Bn w.heap.size xs w) :
    CallsIn Fence.wide 4 Tryd.prog 15 #[.func (.func gf) #[] lb] w fun e W' => ∃ v, e = .returned v ∧ W'.ownsRow w.heap.size 9 1 v xs.length (xs.map Value.string) ∧ Below Bn w W' := by
  have HS := Lib.hid hseq
  have HE := Lib.hid eg
  clear hseq eg
  refine callsIn_of_wp_marks Tryd.func15 rfl trivial ?_ rfl
  simp only [Tryd.ntmps15, List.size_toArray, List.length_cons, List.length_nil, Nat.reduceAdd, Nat.reduceSub, Array.replicate_succ, Array.replicate_zero, List.push_toArray, List.append_toArray, List.nil_append, List.cons_append]
  gi_wp2
  have hbW : Below w.heap.size w (w.alloc (.cells #[.slice none 0 0] 22)) := (Below.refl _ w).alloc (Nat.le_refl _) _
  refine loop_all (xs := xs) rfl (by omega) (gf := gf) (lb := lb) rfl trivial HE.out HS.out hbW (by simp; omega) (by simp) (fun _ => rfl) (GInv Bn w.heap.size w.heap.size w) (ginv_calm Bn _ _ w hBn (Nat.le_refl _)) (ginv_put Bn _ _ w _ hBn (Nat.le_refl _) (by simp; omega))
    ⟨⟨_, Boxed.new w 22 _, World.ownsRow_nil _ _ _ _, trivial⟩, hbW.mono (by omega)⟩
    (fun x => { tmps := #[.func (.func gf) #[] lb, undef, .slice none 0 0, .pointer (some ⟨w.heap.size, 0, none⟩), .string x, .func (.func gf) #[] lb, .string x, undef, undef, undef, undef, undef], defers := [] }) ?assign ?body ?done
  case assign =>
    intro l x W K hK
    gi_wp2
    exact hK
  case body =>
    rintro l pre x W ⟨⟨v, hv, hrow, _⟩, hb⟩ ⟨t, ht⟩
    have hpl : pre.length + 1 ≤ 1000000 := by
      have := congrArg List.length ht
      simp only [List.length_append, List.length_cons] at this
      omega
    have hle : w.heap.size ≤ W.heap.size := Nat.le_of_lt hv.lt
    have hc := hv.cell
    have HV := Lib.hid hv
    have HR := Lib.hid hrow
    clear hv hrow
    obtain ⟨i0, hi, hz0, hz1, hz2⟩ := info_parts Tryd.infoStr
    gi_wp2_with (gi_at_builtin; refine wpListIn_append_own _ rfl _ _ 22 rfl w.heap.size 9 i0 (.string ByteArray.empty) 1 16 Tryd.underlying22 hi hz0 hz1 hz2 rfl (by decide) _ _ _ rfl (HR.out.alloc _) ⟨W.heap.size, 0, none⟩ 1 1 [.string x] rfl rfl (cell_one_new _ _ _) (by simp [Value.oneCell']) (by unfold maxLen; omega) (by omega) (by simp; omega) ?_; intro v' w1 hown' hgrow _; obtain ⟨g', cap', rfl⟩ := ownsRow_succ hown'; obtain ⟨hv1, hv2, hr2, hk2, hb2⟩ := HV.out.appended (by decide) HR.out hle (Nat.le_refl _) hown' hgrow; have hc1 := hv1.cell; have hf1 := hv1.frozen)
    exact ⟨hk2.from _, hb2, ⟨_, hv2, by simpa using hr2, trivial⟩, hb.trans (hb2.mono (by omega))⟩
  case done =>
    rintro D W hD ⟨⟨v, hv, hrow, _⟩, hb⟩ hK
    have hc := hv.cell
    have hlt := hv.lt
    gi_wp2
    refine ⟨by simp, .inl ⟨_, _, rfl, run_takeDeferred hK, ?_⟩⟩
    refine ⟨_, results_tmp rfl _ _ _, _, rfl, ownsRow_putObj hrow _ hK rfl, ?_⟩
    exact hb.trans ((Below.refl _ W).grown (grownBy_putObj' W _ _) (by omega) (fun k e => by cases e; simp at hD; omega))

theorem lines_mk (s : ByteArray) (w : World) : Calls Tryd.prog 73 #[.string s] w fun e w' => e = .returned (.func (.func 91) #[] #[.pointer (some ⟨w.heap.size, 0, none⟩)]) ∧ w' = w.alloc (.cells #[.string s] 9) := by
  go_enter Tryd.func73, Tryd.ntmps73
  go_wp2
  go_ret
  exact ⟨rfl, rfl⟩
theorem entersL (args : Array Value) (w : World) : (callFunc 91 args).run Tryd.prog w = .ok (.enter 91 args) w := enters_of Tryd.func91 (by kernel_rfl) rfl args w
set_option maxHeartbeats 1000000 in
theorem lines_walk (s : ByteArray) (hs : s.size ≤ 100000) (m : Int) (w : World) (hw : 0 < w.heap.size) (hm : w.cell? ⟨0, 0, none⟩ = some (.int .i64 m)) :
    Calls Tryd.prog 63 #[.string s] w fun e w' => ∃ v, e = .returned v ∧ Kd.R Kd.string 9 w' w.heap.size (fun _ => True) v (linesV s) ∧ Below w.heap.size w w' := by
  have hB : Hid (Below w.heap.size w (w.alloc (.cells #[.string s] 9))) := (Below.refl _ w).alloc (Nat.le_refl _) _
  have hll : (linesV s).length ≤ 1000000 := by
    have := linesGo_len s.data.toList []
    have e : s.data.toList.length = s.size := by simp
    unfold linesV
    rw [List.length_map]
    omega
  have HG := Lib.hid (gather_in 91 #[.pointer (some ⟨w.heap.size, 0, none⟩)] entersL w.heap.size (linesV s) hll (w.alloc (.cells #[.string s] 9)) (by simp)
    (lines_gives w.heap.size _ m s hs _ hw (by simp) (Nat.le_refl _) ((hB.out.cell (p := ⟨0, 0, none⟩) hw).trans hm) (by simp) (by simp)))
  clear hm
  refine (callsIn_wide (n := 5)).1 ?_
  refine callsIn_of_wp Tryd.func63 rfl trivial ?_ rfl
  simp only [Tryd.ntmps63, List.size_toArray, List.length_cons, List.length_nil, Nat.reduceAdd, Nat.reduceSub, Array.replicate_succ, Array.replicate_zero, List.push_toArray, List.append_toArray, List.nil_append, List.cons_append]
  gi_wp2_with (first | (refine ⟨trivial, ?_⟩; gi_at_call 73; refine (callsIn_wide.2 (lines_mk s w)).mono ?_; rintro e w' ⟨rfl, rfl⟩) | (refine ⟨trivial, ?_⟩; gi_at_call 15; refine HG.out.mono ?_; rintro e w' ⟨v, rfl, hr, hb⟩))
  go_ret
  refine ⟨_, rfl, Kd.R_lower (R_strs hr) (by simp), hB.out.trans (hb)⟩
/-- text.Lines: guarded by a size and by the table's cell. -/
def text_Lines.f (a0 : ByteArray) : Option (List ByteArray) := if a0.size ≤ 100000 then some (linesV a0) else none
end Go.Proofs.YtnjjnfbkilgidaaDoor.Hand
/- recipe: a row of the call's own, in another order. -/
namespace Go.Proofs.YtnjjnfbkilgidaaDoor.Fr
open Go.RowKit Go.Proofs.YtnjjnfbkilgidaaDoor.F Go.Proofs.YtnjjnfbkilgidaaDoorW.PrintWords Go.Sort Go.Lib
set_option linter.unusedVariables false
set_option linter.unusedSimpArgs false
theorem strs_own {w : World} {base : Nat} {ok : Nat → Prop} {v : Value} {l : List ByteArray} (h : Kd.R Kd.string 9 w base ok v l) : w.ownsRow base 9 1 v l.length ((l.map (·.data.toList)).map encStr) := by
  obtain ⟨_, inner, ho, hr⟩ := h
  have e : inner = (l.map (·.data.toList)).map encStr := by
    have hl : inner.length = l.length := by simpa [Kd.string, Kd.scalar] using hr.1
    apply List.ext_getElem?
    intro j
    by_cases hj : j < l.length
    · have h1 := hr.2 j l[j] (List.getElem?_eq_getElem hj)
      have h2 : (inner.drop (j * 1)).take 1 = [.string l[j]] := h1
      rw [Nat.mul_one, List.drop_eq_getElem_cons (by omega), show (1 : Nat) = 0 + 1 from rfl, List.take_succ_cons] at h2
      have h3 : inner[j]'(by omega) = .string l[j] := (List.cons.inj h2).1
      rw [List.getElem?_eq_getElem (by omega), h3]
      simp [hj, encStr]
    · rw [List.getElem?_eq_none (by omega), List.getElem?_eq_none (by simp; omega)]
  rw [← e]
  exact ho
/-- What a function that orders a row leaves. -/
def OrdEnd (W : World) (base : Nat) (v : Value) (ts : List (List UInt8)) (e : Ending) (w' : World) : Prop := e = .returned (.tuple #[]) ∧ w'.ownsRow base 9 1 v ts.length (ts.map encStr) ∧ Below base W w'
theorem below_grown {W w' : World} {g base : Nat} (h : W.grownBy w' (some g)) (hg : base ≤ g) (hb : base ≤ W.heap.size) : Below base W w' :=
  ⟨h.os, h.tape, h.output, h.size, fun k hk => h.block k (by omega) (fun e => by have := Option.some.inj e; omega)⟩
theorem reverse_call {W : World} {base : Nat} {v : Value} {ss : List (List UInt8)} (h : W.ownsRow base 9 1 v ss.length (ss.map encStr)) (hb : base ≤ W.heap.size) (hs : ss.length ≤ 1000000) :
    Calls Tryd.prog 50 #[v] W (OrdEnd W base v ss.reverse) := by
  have hrow := h
  rcases h.2 with ⟨rfl, hn⟩ | ⟨g, cap, cur, rfl, hbase, hblk, h1, h2, h3, h4⟩
  · obtain rfl : ss = [] := List.length_eq_zero_iff.1 hn
    refine (Tryd.slices_Reverse_string_empty none 0 W).mono ?_
    rintro e w' ⟨rfl, rfl⟩
    exact ⟨rfl, hrow, Below.refl _ _⟩
  · refine (Tryd.slices_Reverse_string g 0 cap ss W (holds_of_block hblk (by simpa using h4)) (by omega)).mono ?_
    rintro e w' ⟨rfl, n, rfl⟩
    have h5 := ownsRow_sorted (w := W) (n := n) (os := #[]) (ss := ss) (ts := ss.reverse) (by simp) hbase hblk h1 h2 h3
    have h6 := grownBy_sorted (w := W) (g := g) (n := n) (os := #[]) ss.reverse.toArray
    rw [grow_empty] at h5 h6
    exact ⟨rfl, by rw [List.length_reverse]; exact h5, below_grown h6 hbase hb⟩
theorem sort_call {W : World} {base : Nat} {v : Value} {ss : List (List UInt8)} (h : W.ownsRow base 9 1 v ss.length (ss.map encStr)) (hb : base ≤ W.heap.size) (hs : ss.length ≤ 1000000) :
    Calls Tryd.prog 51 #[v] W (OrdEnd W base v (ss.mergeSort fun x y => decide (x ≤ y))) := by
  have hrow := h
  rcases h.2 with ⟨rfl, hn⟩ | ⟨g, cap, cur, rfl, hbase, hblk, h1, h2, h3, h4⟩
  · obtain rfl : ss = [] := List.length_eq_zero_iff.1 hn
    refine (Tryd.slices_Sort_string_none none 0 W).mono ?_
    rintro e w' ⟨rfl, rfl⟩
    exact ⟨rfl, by simpa using hrow, Below.refl _ _⟩
  · refine (Tryd.slices_Sort_string g 0 cap ss W (holds_of_block hblk (by simpa using h4)) (Array.getElem?_eq_some_iff.1 hblk).1 (by omega)).mono ?_
    rintro e w' ⟨rfl, n, os, rfl⟩
    have h5 := ownsRow_sorted (w := W) (n := n) (os := os) (ss := ss) (ts := ss.mergeSort fun x y => decide (x ≤ y)) (by simp) hbase hblk h1 h2 h3
    have h6 := grownBy_sorted (w := W) (g := g) (n := n) (os := os) (ss.mergeSort fun x y => decide (x ≤ y)).toArray
    exact ⟨rfl, by rw [List.length_mergeSort]; exact h5, below_grown h6 hbase hb⟩
end Go.Proofs.YtnjjnfbkilgidaaDoor.Fr
/- recipe: a text's lines, in another order. -/
namespace Go.Proofs.YtnjjnfbkilgidaaDoor.Fr
open Go.RowKit Go.Proofs.YtnjjnfbkilgidaaDoor.F Go.Proofs.YtnjjnfbkilgidaaDoorW.PrintWords Go.Sort
open Go.Proofs.YtnjjnfbkilgidaaDoor.Hand (linesV lines_walk)
set_option linter.unusedVariables false
set_option linter.unusedSimpArgs false
def lnL (s : ByteArray) : List (List UInt8) := (linesV s).map (·.data.toList)
/-- Rows joined by line feeds, and one behind. -/
def rowsL (l : List (List UInt8)) : ByteArray := if l = [] then ⟨#[]⟩ else (⟨(Lib.join l [10]).toArray⟩ : ByteArray) ++ ⟨#[10]⟩
theorem lens_le (M : Nat) : ∀ l : List (List UInt8), (∀ x ∈ l, x.length ≤ M) → Lib.lens l ≤ l.length * M := by
  intro l
  induction l with
  | nil => intro _; simp [Lib.lens]
  | cons x r ih =>
    intro h
    have h1 := ih fun y hy => h y (List.mem_cons_of_mem _ hy)
    have h2 := h x (List.mem_cons_self ..)
    simp only [Lib.lens, List.map_cons, List.sum_cons, List.length_cons, Nat.add_mul] at h1 ⊢
    omega
theorem join_le (ts : List (List UInt8)) (hM : ∀ x ∈ ts, x.length ≤ 100000) : (Lib.join ts [10]).length ≤ ts.length * 100001 := by
  cases ts with
  | nil => simp [Lib.join]
  | cons x r =>
    rw [Lib.join_length]
    have := lens_le 100000 (x :: r) hM
    simp only [List.length_cons] at this ⊢
    show 1 * r.length + _ ≤ _
    omega
theorem own_slice {w : World} {base n : Nat} {e : TypeId} {v : Value} {xs : List Value} (h : w.ownsRow base e 1 v n xs) : ∃ A c, v = .slice A n c := by
  rcases h.2 with ⟨rfl, rfl⟩ | ⟨g, cap, cur, rfl, _⟩
  · exact ⟨none, 0, rfl⟩
  · exact ⟨_, _, rfl⟩
theorem join_own {w : World} {base : Nat} {A : Option Addr} {c : Nat} {ts : List (List UInt8)} (h : w.ownsRow base 9 1 (.slice A ts.length c) ts.length (ts.map encStr)) (hl : ts.length ≤ 1000000) (hM : ∀ x ∈ ts, x.length ≤ 100000) :
    Calls Tryd.prog 44 #[.slice A ts.length c, .string ⟨#[10]⟩] w fun e w' => e = .returned (.string ⟨(Lib.join ts [10]).toArray⟩) ∧ Below w.heap.size w w' := by
  rcases h.2 with ⟨hv, hn⟩ | ⟨g, cap, cur, hv, hbase, hblk, h1, h2, h3, h4⟩
  · rw [hn]
    obtain rfl : ts = [] := List.length_eq_zero_iff.1 hn
    refine (Tryd.strings_Join_none A c ⟨#[10]⟩ w).mono ?_
    rintro e w' ⟨rfl, rfl⟩
    exact ⟨rfl, Below.refl _ _⟩
  · injection hv with e1 e2 e3
    subst e1 e3
    have hold := holds_of_block (ss := ts) hblk (by simpa using h4)
    have hlen : ((ts.map fun x => (⟨x.toArray⟩ : ByteArray)).length) = ts.length := by simp
    have hmap : (ts.map fun x => (⟨x.toArray⟩ : ByteArray)).map (·.data.toList) = ts := by rw [List.map_map]; exact List.map_id ts
    have := Tryd.strings_Join g 0 c (ts.map fun x => (⟨x.toArray⟩ : ByteArray)) ⟨#[10]⟩ w (fun j x hj => by
      have hj' : j < ts.length := by
        have := (List.getElem?_eq_some_iff.1 hj).1
        simpa using this
      have := (hold j (by simpa using hj')).1
      rw [this]
      simp [hj'] at hj
      rw [← hj]
      simp [encStr, hj']) (Array.getElem?_eq_some_iff.1 hblk).1 (by rw [hlen]; omega) (by rw [hlen]; exact h1) (by
        rw [hmap]
        have := join_le ts hM
        show (Lib.join ts [10]).length ≤ _
        omega)
    rw [hlen, hmap] at this
    exact this
set_option maxHeartbeats 4000000 in
set_option maxRecDepth 100000 in
theorem rows_call (g : Nat) (ord : List (List UInt8) → List (List UInt8)) (eg : ∀ args w, (callFunc g args).run Tryd.prog w = .ok (.enter g args) w)
    (hord : ∀ (W : World) (base : Nat) (v : Value) (ss : List (List UInt8)), W.ownsRow base 9 1 v ss.length (ss.map encStr) → base ≤ W.heap.size → ss.length ≤ 1000000 → Calls Tryd.prog g #[v] W (OrdEnd W base v (ord ss)))
    (hperm : ∀ ss, (ord ss).Perm ss) (s : ByteArray) (hs : s.size ≤ 100000) (hlines : (linesV s).length ≤ 1000000) (hM : ∀ x ∈ lnL s, x.length ≤ 100000) (w : World) (hG : Gl w) :
    Calls Tryd.prog 49 #[.string s, .func (.func g) #[] #[]] w fun e w' => e = .returned (.string (rowsL (ord (lnL s)))) ∧ Below w.heap.size w w' := by
  obtain ⟨m, hm⟩ := hG.mx
  have HL := Lib.hid (lines_walk s hs m w hG.lt hm)
  have HO := Lib.hid hord
  have hp := hperm (lnL s)
  have hlen : (ord (lnL s)).length = (linesV s).length := by rw [hp.length_eq]; simp [lnL]
  have HM : Hid (∀ x ∈ ord (lnL s), x.length ≤ 100000) := fun x hx => hM x (hp.mem_iff.1 hx)
  have hl2 : (lnL s).length = (linesV s).length := by simp [lnL]
  have he : (linesV s).map (·.data.toList) = lnL s := rfl
  generalize hts : ord (lnL s) = ts at hlen HM
  have HT := Lib.hid hts
  clear hm hG hord hperm hM hp hts
  go_enter Tryd.func49, Tryd.ntmps49
  have HJ : Hid (∀ (W : World) (A : Option Addr) (c : Nat), W.ownsRow w.heap.size 9 1 (.slice A ts.length c) ts.length (ts.map encStr) → Calls Tryd.prog 44 #[.slice A ts.length c, .string ⟨#[10]⟩] W fun e w' => e = .returned (.string ⟨(Lib.join ts [10]).toArray⟩) ∧ Below W.heap.size W w') := fun W A c h => join_own h (by omega) HM.out
  have HLN := Lib.hid hlen
  have hz : (lnL s).length ≤ 1000000 := by omega
  have HZ := Lib.hid hz
  have HL2 := Lib.hid hl2
  have HE := Lib.hid he
  clear hlen hz hl2 he hlines
  by_cases hne : ts = []
  · subst hne
    go_wp2_with (first
      | (go_at_call 63; refine HL.out.mono ?_; rintro e w1 ⟨v, rfl, hv, hb⟩; have hown := strs_own hv; rw [HE.out, ← HL2.out] at hown; have HB1 := Lib.hid hb; clear hv hb)
      | (go_at_fn g; refine (HO.out _ _ _ _ hown HB1.out.size HZ.out).mono ?_; rintro e w2 ⟨rfl, hown2, hb⟩; rw [HT.out] at hown2; obtain ⟨Av, cv, rfl⟩ := own_slice hown2; have HB2 := Lib.hid (HB1.out.trans hb); clear hb))
    go_ret
    exact ⟨rfl, HB2.out⟩
  · have hq : ((ts.length : Int) == 0) = false := beq_eq_false_iff_ne.2 (fun e => hne (List.length_eq_zero_iff.1 (by omega)))
    have hr : rowsL ts = (⟨(Lib.join ts [10]).toArray⟩ : ByteArray) ++ ⟨#[10]⟩ := by unfold rowsL; rw [if_neg hne]
    rw [hr]
    have hjs : (⟨(Lib.join ts [10]).toArray⟩ : ByteArray).size ≤ 1000000000000 := by
      have := join_le ts HM.out
      have := HLN.out
      have e : (⟨(Lib.join ts [10]).toArray⟩ : ByteArray).size = (Lib.join ts [10]).length := by show (Lib.join ts [10]).toArray.size = _; simp
      have := HZ.out
      have := HL2.out
      rw [e]
      omega
    generalize (⟨(Lib.join ts [10]).toArray⟩ : ByteArray) = J at HJ hjs
    have HNE := Lib.hid hne
    clear hne hr
    go_wp2_with (first
      | (go_at_call 63; refine HL.out.mono ?_; rintro e w1 ⟨v, rfl, hv, hb⟩; have hown := strs_own hv; rw [HE.out, ← HL2.out] at hown; have HB1 := Lib.hid hb; clear hv hb)
      | (go_at_fn g; refine (HO.out _ _ _ _ hown HB1.out.size HZ.out).mono ?_; rintro e w2 ⟨rfl, hown2, hb⟩; rw [HT.out] at hown2; obtain ⟨Av, cv, rfl⟩ := own_slice hown2; have HW2 := Lib.hid hown2; have HB2 := Lib.hid (HB1.out.trans hb); clear hb hown2)
      | (go_at_call 44; refine (HJ.out _ _ _ HW2.out).mono ?_; rintro e w3 ⟨rfl, hb⟩))
    go_ret
    trace_state
    exact ⟨rfl, HB2.out.trans (hb.mono HB2.out.size)⟩
end Go.Proofs.YtnjjnfbkilgidaaDoor.Fr
/- recipe: what a command makes of a text. -/
namespace Go.Proofs.YtnjjnfbkilgidaaDoor.Fr
open Go.RowKit Go.Proofs.YtnjjnfbkilgidaaDoor.F Go.Proofs.YtnjjnfbkilgidaaDoorW.PrintWords Go.Sort
open Go.Proofs.YtnjjnfbkilgidaaDoor.Hand (linesV lines_walk)
set_option linter.unusedVariables false
set_option linter.unusedSimpArgs false
def turnedV (v : List UInt8) (s : ByteArray) : ByteArray :=
  if v = [117, 112, 112, 101, 114] then asciiV s 97 122
  else if v = [108, 111, 119, 101, 114] then asciiV s 65 90
  else if v = [114, 101, 118, 101, 114, 115, 101] then rowsL (lnL s).reverse
  else if v = [115, 111, 114, 116] then rowsL ((lnL s).mergeSort fun x y => decide (x ≤ y))
  else s
theorem enters_rev (args : Array Value) (w : World) : (callFunc 50 args).run Tryd.prog w = .ok (.enter 50 args) w := enters_of Tryd.func50 (by kernel_rfl) rfl args w
theorem enters_sort (args : Array Value) (w : World) : (callFunc 51 args).run Tryd.prog w = .ok (.enter 51 args) w := enters_of Tryd.func51 (by kernel_rfl) rfl args w
theorem lines_few (s : ByteArray) (hs : s.size ≤ 100000) : (linesV s).length ≤ 1000000 := by
  have := Hand.linesGo_len s.data.toList []
  have e : s.data.toList.length = s.size := by simp
  unfold linesV
  rw [List.length_map]
  omega
set_option maxHeartbeats 4000000 in
set_option maxRecDepth 100000 in
theorem turned_call (verb s : ByteArray) (hs : s.size ≤ 100000) (hM : ∀ x ∈ lnL s, x.length ≤ 100000) (w : World) (hG : Gl w) :
    Calls Tryd.prog 32 #[.string verb, .string s] w fun e w' => e = .returned (.string (turnedV verb.toList s)) ∧ Below w.heap.size w w' := by
  have HA1 := Lib.hid fun (W : World) => ascii_call s 97 122 (by omega) W
  have HA2 := Lib.hid fun (W : World) => ascii_call s 65 90 (by omega) W
  have HR := Lib.hid (rows_call 50 List.reverse enters_rev (fun W base v ss h hb hl => reverse_call h hb hl) (fun ss => List.reverse_perm ss) s hs (lines_few s hs) hM w hG)
  have HS := Lib.hid (rows_call 51 (fun ss => ss.mergeSort fun x y => decide (x ≤ y)) enters_sort (fun W base v ss h hb hl => sort_call h hb hl) (fun ss => List.mergeSort_perm ss _) s hs (lines_few s hs) hM w hG)
  clear hM hG
  unfold turnedV
  by_cases h1 : verb.toList = [117, 112, 112, 101, 114]
  · rw [if_pos h1]
    go_enter Tryd.func32, Tryd.ntmps32
    go_wp2_with (go_at_call 48; refine (HA1.out _).mono ?_; rintro e w2 ⟨rfl, hb⟩)
    go_ret
    exact ⟨rfl, hb⟩
  rw [if_neg h1]
  by_cases h2 : verb.toList = [108, 111, 119, 101, 114]
  · rw [if_pos h2]
    go_enter Tryd.func32, Tryd.ntmps32
    go_wp2_with (go_at_call 48; refine (HA2.out _).mono ?_; rintro e w2 ⟨rfl, hb⟩)
    go_ret
    exact ⟨rfl, hb⟩
  rw [if_neg h2]
  by_cases h3 : verb.toList = [114, 101, 118, 101, 114, 115, 101]
  · rw [if_pos h3]
    go_enter Tryd.func32, Tryd.ntmps32
    go_wp2_with (go_at_call 49; refine HR.out.mono ?_; rintro e w2 ⟨rfl, hb⟩)
    go_ret
    exact ⟨rfl, hb⟩
  rw [if_neg h3]
  by_cases h4 : verb.toList = [115, 111, 114, 116]
  · rw [if_pos h4]
    go_enter Tryd.func32, Tryd.ntmps32
    go_wp2_with (go_at_call 49; refine HS.out.mono ?_; rintro e w2 ⟨rfl, hb⟩)
    go_ret
    exact ⟨rfl, hb⟩
  rw [if_neg h4]
  have q1 : (verb.toList == [117, 112, 112, 101, 114]) = false := beq_eq_false_iff_ne.2 h1
  have q2 : (verb.toList == [108, 111, 119, 101, 114]) = false := beq_eq_false_iff_ne.2 h2
  have q3 : (verb.toList == [114, 101, 118, 101, 114, 115, 101]) = false := beq_eq_false_iff_ne.2 h3
  have q4 : (verb.toList == [115, 111, 114, 116]) = false := beq_eq_false_iff_ne.2 h4
  clear h1 h2 h3 h4
  go_enter Tryd.func32, Tryd.ntmps32
  go_wp2
  go_ret
  exact ⟨rfl, Below.refl _ _⟩
end Go.Proofs.YtnjjnfbkilgidaaDoor.Fr
namespace Go.Proofs.YtnjjnfbkilgidaaDoor.Hand
open Go.RowKit
set_option linter.unusedVariables false
set_option linter.unusedSimpArgs false

/-! #### strings.IndexAny at " \t", whatever the text -/
theorem get_eq (s : ByteArray) (k : Nat) (h : k < s.size) : s.get! k = s[k]'h := by
  simp [ByteArray.get!, getElem!_pos, h]
  rfl
/-- What is decoded from a byte beyond ASCII: its bytes are all beyond ASCII, and lie in the text. -/
theorem decode_span (s : ByteArray) (i : Nat) (h : i < s.size) (ha : 128 ≤ (s[i]'h).toNat) : i + (Utf8.decode s i).2 ≤ s.size ∧ ∀ j, i ≤ j → j < i + (Utf8.decode s i).2 → ∃ hj : j < s.size, 128 ≤ (s[j]'hj).toNat := by
  have e0 := get_eq s i h
  have key : ∀ k, k < s.size - i → ∃ hj : i + k < s.size, s.get! (i + k) = s[i + k]'hj := fun k hk => ⟨by omega, get_eq s (i + k) (by omega)⟩
  have fin : ∀ w, i + w ≤ s.size → (∀ k, k < w → 128 ≤ (s.get! (i + k)).toNat) → i + w ≤ s.size ∧ ∀ j, i ≤ j → j < i + w → ∃ hj : j < s.size, 128 ≤ (s[j]'hj).toNat := by
    intro w hw hk
    refine ⟨hw, fun j h1 h2 => ?_⟩
    obtain ⟨k, rfl⟩ : ∃ k, j = i + k := ⟨j - i, by omega⟩
    refine ⟨by omega, ?_⟩
    rw [← get_eq s (i + k) (by omega)]
    exact hk k (by omega)
  have h0 : 128 ≤ (s.get! i).toNat := by rw [e0]; exact ha
  rw [Lib.decode_at]
  unfold Lib.decodeN
  rw [if_neg (by omega)]
  have one : ∀ k, k < 1 → 128 ≤ (s.get! (i + k)).toNat := fun k hk => by
    obtain rfl : k = 0 := by omega
    exact h0
  repeat' split
  · rename_i h1 h2
    refine fin 2 (by omega) fun k hk => ?_
    rcases (show k = 0 ∨ k = 1 by omega) with rfl | rfl
    · exact h0
    · omega
  · exact fin 1 (by omega) one
  · rename_i h1 h2 h3
    refine fin 3 (by omega) fun k hk => ?_
    rcases (show k = 0 ∨ k = 1 ∨ k = 2 by omega) with rfl | rfl | rfl
    · exact h0
    · omega
    · omega
  · exact fin 1 (by omega) one
  · rename_i h1 h2 h3 h4
    refine fin 4 (by omega) fun k hk => ?_
    rcases (show k = 0 ∨ k = 1 ∨ k = 2 ∨ k = 3 by omega) with rfl | rfl | rfl | rfl
    · exact h0
    · omega
    · omega
    · omega
  · exact fin 1 (by omega) one
  · exact fin 1 (by omega) one

def blanksB : ByteArray := ⟨#[32, 9]⟩
set_option maxHeartbeats 2000000 in
set_option maxRecDepth 1000000 in
theorem indexRune_err (w : World) :
    Calls Tryd.prog 37 #[.string blanksB, .int .i32 65533] w fun e w' => e = .returned (.int .i64 (-1)) ∧ Below w.heap.size w w' := by
  go_enter Tryd.func37, Tryd.ntmps37
  have h0 : ∀ ty, (Instr.next (.pointer (some ⟨w.heap.size, 0, none⟩)) true ty).run Tryd.prog (w.iter blanksB 0) = .ok (.tuple #[.bool true, .int .i64 (0 : Nat), .int .i32 (32 : Nat)]) (w.iter blanksB (0 + 1)) := fun ty => run_next_ascii (P := Tryd.prog) w blanksB 0 ty (by decide) (by decide)
  have h1 : ∀ ty, (Instr.next (.pointer (some ⟨w.heap.size, 0, none⟩)) true ty).run Tryd.prog (w.iter blanksB 1) = .ok (.tuple #[.bool true, .int .i64 (1 : Nat), .int .i32 (9 : Nat)]) (w.iter blanksB (1 + 1)) := fun ty => run_next_ascii (P := Tryd.prog) w blanksB 1 ty (by decide) (by decide)
  have h2 : ∀ ty, (Instr.next (.pointer (some ⟨w.heap.size, 0, none⟩)) true ty).run Tryd.prog (w.iter blanksB 2) = .ok (.tuple #[.bool false]) (w.iter blanksB 2) := fun ty => run_next_end (P := Tryd.prog) w blanksB 2 ty (by decide)
  go_wp2
  go_loopg [5, 6] 2 (fun g _ _ wx => ∃ i : Nat, i + g = 2 ∧ wx = w.iter blanksB i)
  case atStart => exact ⟨0, rfl, rfl⟩
  case round =>
    obtain ⟨i, hi, rfl⟩ := hrel
    match gk, hi with
    | 0, hi =>
      obtain rfl : i = 2 := by omega
      go_wp2
      go_ret
      exact ⟨rfl, (Below.refl _ _).alloc (Nat.le_refl _) _⟩
    | 1, hi =>
      obtain rfl : i = 1 := by omega
      go_wp2
      go_roundg 0
      case measure => omega
      case rel => exact ⟨2, rfl, rfl⟩
    | 2, hi =>
      obtain rfl : i = 0 := by omega
      go_wp2
      go_roundg 1
      case measure => omega
      case rel => exact ⟨1, rfl, rfl⟩
    | n + 3, hi => omega
end Go.Proofs.YtnjjnfbkilgidaaDoor.Hand
namespace Go.Proofs.YtnjjnfbkilgidaaDoor.Hand
open Go.RowKit
set_option linter.unusedVariables false
set_option linter.unusedSimpArgs false
set_option maxHeartbeats 2000000 in
set_option maxRecDepth 1000000 in
theorem indexRune_bad (r : Int) (w : World) (h0 : 128 ≤ r) (hne : (r == 65533) = false) (hv : Lib.validRune r = false) :
    Calls Tryd.prog 37 #[.string blanksB, .int .i32 r] w fun e w' => e = .returned (.int .i64 (-1)) ∧ w' = w := by
  go_enter Tryd.func37, Tryd.ntmps37
  go_wp2_with (go_at_call 55; refine (Tryd.utf8_ValidRune _ _).mono ?_; rintro e w' ⟨rfl, rfl⟩; rw [hv])
  go_ret
  exact ⟨rfl, rfl⟩
set_option maxHeartbeats 2000000 in
set_option maxRecDepth 1000000 in
theorem indexRune_far (r : Int) (rs : ByteArray) (w : World) (h0 : 128 ≤ r) (hne : (r == 65533) = false) (hv : Lib.validRune r = true) (hrs : Utf8.encode r = rs) (h3 : (3 : Int) ≤ rs.size) (h4 : (rs.size : Int) ≤ 4) :
    Calls Tryd.prog 37 #[.string blanksB, .int .i32 r] w fun e w' => e = .returned (.int .i64 (-1)) ∧ w' = w := by
  go_enter Tryd.func37, Tryd.ntmps37
  go_wp2_with (go_at_call 55; refine (Tryd.utf8_ValidRune _ _).mono ?_; rintro e w' ⟨rfl, rfl⟩; rw [hv])
  refine wp_scope_straight ?_
  go_wp2
  go_loop [9] (fun i => i = .int .i64 ((rs.size : Int) - 1)) (fun _ => 0)
  case atStart => rfl
  case round =>
    subst hrel
    have hd : decide ((rs.size : Int) - 1 < (blanksB.size : Int)) = false := decide_eq_false (by show ¬ ((rs.size : Int) - 1 < 2); omega)
    go_wp2
    go_ret
    exact ⟨rfl, rfl⟩
set_option maxHeartbeats 2000000 in
set_option maxRecDepth 1000000 in
theorem indexRune_near (r : Int) (c0 c1 : UInt8) (w : World) (h0 : 128 ≤ r) (hne : (r == 65533) = false) (hv : Lib.validRune r = true) (hrs : Utf8.encode r = ⟨#[c0, c1]⟩) (hc : 128 ≤ c1.toNat) :
    Calls Tryd.prog 37 #[.string blanksB, .int .i32 r] w fun e w' => e = .returned (.int .i64 (-1)) ∧ Below w.heap.size w w' := by
  obtain ⟨rs, hr⟩ : ∃ rs : ByteArray, rs = ⟨#[c0, c1]⟩ := ⟨_, rfl⟩
  rw [← hr] at hrs
  have h2 : (rs.size : Int) = 2 := by rw [hr]; rfl
  have HR := Lib.hid hr
  clear hr
  obtain ⟨bl, hb⟩ : ∃ bl : ByteArray, blanksB = bl := ⟨_, rfl⟩
  rw [hb]
  have h3 : (bl.size : Int) = 2 := by rw [← hb]; rfl
  have HB := Lib.hid hb
  clear hb
  have h3' : bl.size = 2 := by omega
  have h2' : rs.size = 2 := by omega
  have hd2 : decide (Lib.indexByte [] (rs[1]'(by omega)) < 0) = true := rfl
  have hx : (((bl[1]'(by omega)).toNat : Int) != ((rs[1]'(by omega)).toNat : Int)) = true := by
    have e1 : bl[1]'(by omega) = 9 := by simp only [← HB.out]; rfl
    have e2 : rs[1]'(by omega) = c1 := by simp only [HR.out]; rfl
    rw [e1, e2]
    simp
    omega
  go_enter Tryd.func37, Tryd.ntmps37
  go_wp2_with (go_at_call 55; refine (Tryd.utf8_ValidRune _ _).mono ?_; rintro e w' ⟨rfl, rfl⟩; rw [hv])
  refine wp_scope_straight ?_
  go_wp2
  go_loop [9] (fun i => i = .int .i64 1) (fun _ => 0)
  case atStart => rfl
  case round =>
    subst hrel
    go_wp2
    refine wp_scope_straight ?_
    go_wp2
    go_region
    all_goals go_wp2_with fail
    go_region_with (go_at_call 54; refine (Tryd.strings_IndexByte _ _ _).mono ?_; rintro e w1 ⟨rfl, rfl⟩)
    all_goals go_wp2
    all_goals change bodyPost Tryd.prog Tryd.f37 (fun e w'_1 => e = .returned (.int .i64 (-1)) ∧ Below w'.heap.size w' w'_1) Exit.ret _ _
    all_goals go_ret
    all_goals exact ⟨rfl, ((Below.refl _ _).drew).drew⟩
open Go.Extern.FmtText in
theorem indexRune_high (r : Int) (w : World) (h0 : 128 ≤ r) (h1 : r ≤ 1114111) :
    Calls Tryd.prog 37 #[.string blanksB, .int .i32 r] w fun e w' => e = .returned (.int .i64 (-1)) ∧ Below w.heap.size w w' := by
  by_cases e : r = 65533
  · subst e
    exact indexRune_err w
  have hne : (r == 65533) = false := by simpa using e
  cases hv : Lib.validRune r with
  | false => exact (indexRune_bad r w h0 hne hv).mono (by rintro e w' ⟨h, rfl⟩; exact ⟨h, Below.refl _ _⟩)
  | true =>
    obtain ⟨n, rfl⟩ := Int.eq_ofNat_of_zero_le (show 0 ≤ r by omega)
    have hvn : n < 55296 ∨ 57344 ≤ n := by
      simp [Lib.validRune] at hv
      omega
    have hlen := Lib.size_eq (Utf8.encode (n : Int))
    by_cases h2 : n < 2048
    · have henc := enc2 n (by omega) h2
      refine indexRune_near n (UInt8.ofNat (192 + n / 64)) (UInt8.ofNat (128 + n % 64)) w h0 hne hv ?_ ?_
      · cases h : Utf8.encode (n : Int) with
        | mk d =>
          rw [h] at henc
          have : d = #[UInt8.ofNat (192 + n / 64), UInt8.ofNat (128 + n % 64)] := Array.ext' henc
          rw [this]
      · rw [UInt8.toNat_ofNat']
        omega
    · have hbig : 3 ≤ (Utf8.encode (n : Int)).size ∧ (Utf8.encode (n : Int)).size ≤ 4 := by
        rw [hlen]
        by_cases h6 : n < 65536
        · rw [enc3 n h2 h6 hvn]
          simp
        · rw [enc4 n h6 (by omega)]
          simp
      exact (indexRune_far n _ w h0 hne hv rfl (by omega) (by omega)).mono (by rintro e w' ⟨h, rfl⟩; exact ⟨h, Below.refl _ _⟩)
end Go.Proofs.YtnjjnfbkilgidaaDoor.Hand
namespace Go.Proofs.YtnjjnfbkilgidaaDoor.Hand
open Go.RowKit Go.Lib
set_option linter.unusedVariables false
set_option linter.unusedSimpArgs false
theorem next_more {P : Program} (wx : World) (k : Nat) (s : ByteArray) (pos : Nat) (ty : TypeId) (hk : wx.heap[k]? = some (.stringIter s pos)) (h : pos < s.size) :
    (Instr.next (.pointer (some ⟨k, 0, none⟩)) true ty).run P wx = .ok (.tuple #[.bool true, .int .i64 pos, .int .i32 (Utf8.decode s pos).1]) (wx.putObj k (.stringIter s (pos + (Utf8.decode s pos).2))) := by
  simp only [Instr.next, getObj, setObj, Sem.run_bind, Sem.run, hk, Result.andThen, h, if_true]
  simp [goInt, World.putObj, hk, Sem.run]
theorem next_end {P : Program} (wx : World) (k : Nat) (s : ByteArray) (pos : Nat) (ty : TypeId) (hk : wx.heap[k]? = some (.stringIter s pos)) (h : ¬ pos < s.size) :
    (Instr.next (.pointer (some ⟨k, 0, none⟩)) true ty).run P wx = .ok (.tuple #[.bool false]) wx := by
  simp [Instr.next, getObj, Sem.run, hk, h]
theorem below_put {w wx : World} {k : Nat} (o : Obj) (hb : Below w.heap.size w wx) (hk : w.heap.size ≤ k) (hl : k < wx.heap.size) : Below w.heap.size w (wx.putObj k o) :=
  hb.trans ((Below.refl _ wx).grown (grownBy_putObj' wx k o) (by have := hb.size; omega) (fun j e => by cases e; omega))
theorem decode_max' (s : ByteArray) (pos : Nat) : (Utf8.decode s pos).1 ≤ 1114111 := by
  have hb : ∀ k, (s.get! (pos + k)).toNat < 256 := fun k => (s.get! (pos + k)).toNat_lt
  have h0 := hb 0; have h1 := hb 1; have h2 := hb 2; have h3 := hb 3
  simp only [Utf8.decode]
  repeat' split
  all_goals simp_all [Utf8.runeError, Utf8.valid]
  all_goals omega
set_option maxHeartbeats 8000000 in
set_option maxRecDepth 1000000 in
theorem indexAny_near (s : ByteArray) (w : World) (h8 : s.size ≤ 8) :
    Calls Tryd.prog 22 #[.string s, .string blanksB] w fun e w' => e = .returned (.int .i64 (Lib.indexAny s.data.toList [32, 9])) ∧ Below w.heap.size w w' := by
  have hemp : blanksB.toList.isEmpty = false := by rw [Lib.toList_data]; rfl
  have hbl : blanksB.data.toList = [32, 9] := rfl
  obtain ⟨bl, hb⟩ : ∃ bl : ByteArray, blanksB = bl := ⟨_, rfl⟩
  have hih := Lib.hid indexRune_high
  rw [hb] at hemp hbl hih ⊢
  have hn1 : ((bl.size : Int) == 1) = false := by rw [← hb]; rfl
  have h8z : decide ((8 : Int) < (s.size : Int)) = false := decide_eq_false (by omega)
  have HB := Lib.hid hbl
  clear hbl hb
  go_enter Tryd.func22, Tryd.ntmps22
  go_wp2_with (go_at_call 38; refine (Tryd.strings_shouldUseASCIISet _ _).mono ?_; rintro e w' ⟨rfl, hw⟩; rw [hw, h8z])
  go_loopg [9, 10] s.size (fun g _ _ wx => ∃ i : Nat, i + g = s.size ∧ Hid (wx.heap[w.heap.size]? = some (.stringIter s i)) ∧ Hid (Below w.heap.size w wx) ∧ Hid (Lib.NoAny s.data.toList [32, 9] i))
  case atStart => exact ⟨0, by omega, World.iter_heap _ _ _, (Below.refl _ _).alloc (Nat.le_refl _) _, Lib.NoAny.zero _ _⟩
  case round =>
    obtain ⟨i, hig, hit, hB, HN⟩ := hrel
    cases gk with
    | zero =>
      obtain rfl : i = s.size := by omega
      have hnx := fun ty => next_end (P := Tryd.prog) wr w.heap.size s s.size ty hit.out (by omega)
      go_wp2
      go_ret
      exact ⟨by rw [Lib.indexAny_none (by rw [← Lib.size_eq]; exact HN.out)]; rfl, hB.out⟩
    | succ g =>
      have hi : i < s.size := by omega
      have hlt := (Array.getElem?_eq_some_iff.1 hit.out).1
      have hnx := fun ty => next_more (P := Tryd.prog) wr w.heap.size s i ty hit.out hi
      obtain ⟨x, hx⟩ : ∃ x : UInt8, s[i]'hi = x := ⟨_, rfl⟩
      have Hx : Hid (s.data.toList[i]? = some x) := by
        show s.data.toList[i]? = some x
        rw [← hx]
        exact Lib.data_getElem? s i hi
      by_cases ha : x.toNat < 128
      · have hd := decode_ascii s i hi (by rw [hx]; exact ha)
        rw [hd, hx] at hnx
        have hB2 : Hid (Below w.heap.size w (wr.putObj w.heap.size (.stringIter s (i + 1)))) := below_put _ hB.out (Nat.le_refl _) hlt
        have hit2 : Hid ((wr.putObj w.heap.size (.stringIter s (i + 1))).heap[w.heap.size]? = some (.stringIter s (i + 1))) := World.putObj_heap_same hlt
        generalize hW : wr.putObj w.heap.size (.stringIter s (i + 1)) = W at hnx hB2 hit2
        clear hW hd hx
        have hcon := Lib.contains_iff_indexByte [32, 9] x
        have hback : ((x.toNat : Int)).toNat.toUInt8 = x := by simp
        cases hin : List.contains [32, 9] x
        · rw [hin] at hcon
          have hlt : ¬ ((0 : Int) ≤ Lib.indexByte [32, 9] x) := of_decide_eq_false hcon.symm
          clear hcon
          go_wp2_with (go_at_call 37; refine (Tryd.strings_IndexRune_ascii _ _ _ (by omega) (by omega)).mono ?_; rintro e w' ⟨rfl, hw⟩; rw [hw, hback, HB.out])
          go_roundg g
          case measure => omega
          case rel => exact ⟨i + 1, by omega, hit2, hB2, HN.out.succ Hx.out hin⟩
        · rw [hin] at hcon
          have hge : (0 : Int) ≤ Lib.indexByte [32, 9] x := of_decide_eq_true hcon.symm
          clear hcon
          go_wp2_with (go_at_call 37; refine (Tryd.strings_IndexRune_ascii _ _ _ (by omega) (by omega)).mono ?_; rintro e w' ⟨rfl, hw⟩; rw [hw, hback, HB.out])
          go_ret
          exact ⟨by rw [Lib.indexAny_hit HN.out Hx.out hin]; rfl, hB2.out⟩
      · have hhigh := decode_high s i hi (by rw [hx]; omega)
        have hmax := decode_max' s i
        obtain ⟨hsp1, hsp2⟩ := decode_span s i hi (by rw [hx]; omega)
        generalize Utf8.decode s i = rw_ at hnx hhigh hmax hsp1 hsp2
        obtain ⟨r, wd⟩ := rw_
        simp only at hnx hhigh hmax hsp1 hsp2
        have hB2 : Hid (Below w.heap.size w (wr.putObj w.heap.size (.stringIter s (i + wd)))) := below_put _ hB.out (Nat.le_refl _) hlt
        have hit2 : Hid ((wr.putObj w.heap.size (.stringIter s (i + wd))).heap[w.heap.size]? = some (.stringIter s (i + wd))) := World.putObj_heap_same hlt
        generalize hW : wr.putObj w.heap.size (.stringIter s (i + wd)) = W at hnx hB2 hit2
        clear hW hx
        have hno : Hid (Lib.NoAny s.data.toList [32, 9] (i + wd)) := by
          intro j b hj hb
          by_cases hji : j < i
          · exact HN.out j b hji hb
          · obtain ⟨hjs, hge⟩ := hsp2 j (by omega) hj
            have h1 := Lib.data_getElem? s j hjs
            rw [h1] at hb
            have hb' : b = s[j] := (Option.some.inj hb).symm
            rw [← hb'] at hge
            have n1 : b ≠ 32 := by rintro rfl; revert hge; decide
            have n2 : b ≠ 9 := by rintro rfl; revert hge; decide
            simp [n1, n2]
        have hr0 : (128 : Int) ≤ (r : Int) := by omega
        have hr1 : (r : Int) ≤ 1114111 := by omega
        have HC := Lib.hid (hih.out (r : Int) W hr0 hr1)
        clear hsp2
        go_wp2_with (go_at_call 37; refine HC.out.mono ?_; rintro e w' ⟨rfl, hb⟩)
        have hB3 : Hid (Below w.heap.size w w') := hB2.out.trans (hb.mono hB2.out.size)
        have hit3 : Hid (w'.heap[w.heap.size]? = some (.stringIter s (i + wd))) := (hb.block _ (Array.getElem?_eq_some_iff.1 hit2.out).1).trans hit2.out
        clear hb
        go_roundg (s.size - (i + wd))
        case measure => omega
        case rel => exact ⟨i + wd, by omega, hit3, hB3, hno⟩
end Go.Proofs.YtnjjnfbkilgidaaDoor.Hand
