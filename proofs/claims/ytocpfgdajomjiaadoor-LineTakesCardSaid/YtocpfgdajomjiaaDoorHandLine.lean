import Derived.Test.YtocpfgdajomjiaaDoorLineA
import Derived.Test.YtocpfgdajomjiaaDoorPureUnq
/- The contracts of the line package's functions, and of the reference's quoting. -/
namespace Go.Proofs.YtocpfgdajomjiaaDoor.Hand3
open Go.RowKit Go.Proofs.YtocpfgdajomjiaaDoorW.PrintWords
set_option linter.unusedVariables false
abbrev Glob := Hand2.Glob
theorem Glob.below {w w' : World} (h : Glob w) (hb : Below w.heap.size w w') : Glob w' := Hand2.Glob.below h hb
def text_Quote.f (a0 : ByteArray) : Option ByteArray := if a0.size ≤ 100000 then some (Hand.quoteV a0) else none
theorem text_Quote.calls (a0 : ByteArray) (r : ByteArray) (w : World) (h : text_Quote.f a0 = some r) :
    Calls Tryd.prog 22 #[.string a0] w fun e w' => e = .returned (.string r) ∧ Below w.heap.size w w' := Hand.text_Quote.calls a0 r w h
def line_Put.f (l0 : List ByteArray) : Option (ByteArray × Int) := if (l0.all fun x => decide (x.size ≤ 100000)) = true then some (Hand.putV l0) else none
theorem line_Put.calls (A0 : Option Addr) (c0 : Nat) (l0 : List ByteArray) (r1 : ByteArray) (r2 : Int) (w : World) (hG : Glob w) (hr0 : Kd.C Kd.string w A0 l0.length l0) (hc0 : l0.length ≤ c0) (h : line_Put.f l0 = some (r1, r2)) :
    Calls Tryd.prog 40 #[.slice A0 l0.length c0] w fun e w' => e = .returned (.tuple #[.string r1, .int .i64 r2]) ∧ Below w.heap.size w w' := by
  unfold line_Put.f at h
  split at h
  next hs =>
    injection h with h
    have := Hand.put_walk A0 c0 l0 w hG hr0 hc0 (fun x hx => of_decide_eq_true (List.all_eq_true.1 hs x hx))
    rw [h] at this
    exact this
  next => exact absurd h (by simp)
def line_Take.f (a0 : ByteArray) : Option (List ByteArray × ByteArray × Int) := if a0.size ≤ 100000 then some (Hand.takeV a0) else none
theorem line_Take.calls (a0 : ByteArray) (r1 : List ByteArray) (r2 : ByteArray) (r3 : Int) (w : World) (hG : Glob w) (h : line_Take.f a0 = some (r1, r2, r3)) :
    Calls Tryd.prog 42 #[.string a0] w fun e w' => ∃ v0_ : Value, e = .returned (.tuple #[v0_, .string r2, .int .i64 r3]) ∧ Kd.R Kd.string 9 w' w.heap.size (fun _ => True) v0_ r1 ∧ Below w.heap.size w w' := by
  unfold line_Take.f at h
  split at h
  next hs =>
    injection h with h
    have := Hand.take_walk a0 hs w hG
    rw [h] at this
    exact this
  next => exact absurd h (by simp)
def line_Scan.f (a0 : ByteArray) : Option (List (List ByteArray) × Int) := if a0.size ≤ 100000 then some (Hand.scanV a0) else none
theorem line_Scan.calls (a0 : ByteArray) (r1 : List (List ByteArray)) (r2 : Int) (w : World) (hG : Glob w) (h : line_Scan.f a0 = some (r1, r2)) :
    Calls Tryd.prog 44 #[.string a0] w fun e w' => ∃ v0_ : Value, e = .returned (.tuple #[v0_, .int .i64 r2]) ∧ Kd.S (Kd.slice 9 Kd.string) 23 w' w.heap.size (fun _ => True) v0_ r1 ∧ Below w.heap.size w w' := by
  unfold line_Scan.f at h
  split at h
  next hs =>
    injection h with h
    have := Hand.scan_walk a0 hs w hG
    rw [h] at this
    exact this
  next => exact absurd h (by simp)
def cooperageref1_Quote.f (a0 : ByteArray) : Option ByteArray := if a0.size ≤ 100000 then some (Hand.quoteV a0) else none
theorem cooperageref1_Quote.calls (a0 : ByteArray) (r : ByteArray) (w : World) (h : cooperageref1_Quote.f a0 = some r) :
    Calls Tryd.prog 37 #[.string a0] w fun e w' => e = .returned (.string r) ∧ Drawn0 w w' := by
  unfold cooperageref1_Quote.f at h
  split at h
  next hs =>
    injection h with h
    subst h
    obtain ⟨k, hk⟩ := (PureR.refquote_f a0 hs).get
    exact R.cooperageref1_Quote.calls k a0 _ w hk
  next => exact absurd h (by simp)
def cooperageref1_Unquote.f (a0 : ByteArray) : Option (ByteArray × Int) := if a0.size ≤ 100000 then some (Hand.unqP (Hand.unqV a0)) else none
theorem cooperageref1_Unquote.calls (a0 : ByteArray) (r1 : ByteArray) (r2 : Int) (w : World) (h : cooperageref1_Unquote.f a0 = some (r1, r2)) :
    Calls Tryd.prog 36 #[.string a0] w fun e w' => e = .returned (.tuple #[.string r1, .int .i64 r2]) ∧ Below w.heap.size w w' := by
  unfold cooperageref1_Unquote.f at h
  split at h
  next hs =>
    injection h with h
    obtain ⟨k, hk⟩ := (PureR.refunq_f a0 hs).get
    rw [h] at hk
    exact R.cooperageref1_Unquote.calls k a0 _ _ w hk
  next => exact absurd h (by simp)
end Go.Proofs.YtocpfgdajomjiaaDoor.Hand3
