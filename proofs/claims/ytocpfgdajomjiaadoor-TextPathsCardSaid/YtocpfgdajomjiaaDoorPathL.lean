import Derived.Test.YtocpfgdajomjiaaDoorHandText
import Derived.Test.YtocpfgdajomjiaaDoorSpl
/- Plain facts of paths. -/
namespace Go.Proofs.YtocpfgdajomjiaaDoor.Pure
open Go.RowKit Go.Proofs.YtocpfgdajomjiaaDoor.Hand Go.Proofs.YtocpfgdajomjiaaDoor.Spl
set_option linter.unusedVariables false
set_option linter.unusedSimpArgs false
def badL (p : List UInt8) : Bool := p.isEmpty || p == [46] || p == [46, 46]
def pathL (l : List UInt8) : Bool := (l.all fun c => plainI c.toNat) && (splG 47 [] l).all (fun p => !badL p) && decide ((l.length : Int) ≤ 100) && decide (((splG 47 [] l).length : Int) ≤ 8)
theorem parts_eq (s : ByteArray) : (partsB s).map (·.data.toList) = splG 47 [] s.data.toList := by
  unfold partsB
  rw [Lib.splitB_data]
  exact splitK_G 47 _
theorem pathV_eq (s : ByteArray) : pathV s = pathL s.data.toList := by
  unfold pathV pathL
  have e1 : (partsB s).all (fun p => !badPart p) = (splG 47 [] s.data.toList).all (fun p => !badL p) := by
    rw [← parts_eq, List.all_map]
    congr 1
    funext p
    simp only [badPart, badL, Function.comp_apply, ByteArray.toList_eq]
  have e2 : (partsB s).length = (splG 47 [] s.data.toList).length := by rw [← parts_eq, List.length_map]
  have e3 : s.data.toList.length = s.size := by rw [Array.length_toList]; rfl
  rw [e1, e2, e3]
theorem pathL_app (a b : List UInt8) (ha : pathL a = true) (hb : pathL b = true) :
    pathL (a ++ 47 :: b) = (decide (((a ++ 47 :: b).length : Int) ≤ 100) && decide (((2 + a.count 47 + b.count 47 : Nat) : Int) ≤ 8)) := by
  simp only [pathL, Bool.and_eq_true] at ha hb
  have e : (splG 47 [] (a ++ 47 :: b)).length = 2 + a.count 47 + b.count 47 := by
    rw [splG_app, List.length_append, splG_len, splG_len]
    omega
  unfold pathL
  rw [e, splG_app, List.all_append, List.all_append, List.all_cons, ha.1.1.1, hb.1.1.1, ha.1.1.2, hb.1.1.2, show plainI ((47 : UInt8).toNat : Int) = true by decide]
  rfl
theorem pathL_end (a : List UInt8) : pathL (a ++ [47]) = false := by
  unfold pathL
  rw [splG_app, List.all_append (xs := splG 47 [] a)]
  simp [splG, badL]
theorem pathL_front (a : List UInt8) : pathL (47 :: a) = false := by
  unfold pathL
  have := splG_app 47 a [] []
  rw [List.nil_append] at this
  rw [this]
  simp [splG, badL]
theorem pathL_up (a b : List UInt8) : pathL (a ++ 47 :: 46 :: 46 :: 47 :: b) = false := by
  unfold pathL
  rw [splG_app, show (46 : UInt8) :: 46 :: 47 :: b = [46, 46] ++ 47 :: b from rfl, splG_app]
  simp [splG, badL]
theorem pathL_ne {a : List UInt8} (h : pathL a = true) : a ≠ [] := by
  intro e
  subst e
  exact absurd h (by decide)
theorem plain_noblank (c : UInt8) (h : plainI c.toNat = true) : Hand.blank c = false := by
  cases hb : Hand.blank c with
  | false => rfl
  | true =>
    exfalso
    simp only [Hand.blank, Bool.or_eq_true, beq_iff_eq] at hb
    rcases hb with e | e <;> subst e <;> exact absurd h (by decide)
theorem pathL_plain {a : List UInt8} (h : pathL a = true) : ∀ c ∈ a, plainI c.toNat = true := by
  simp only [pathL, Bool.and_eq_true] at h
  exact fun c hc => List.all_eq_true.1 h.1.1.1 c hc
end Go.Proofs.YtocpfgdajomjiaaDoor.Pure
