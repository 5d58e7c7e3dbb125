import Derived.Test.YtocpfgdajomjiaaDoorWordsW
import Derived.Test.YtocpfgdajomjiaaDoorPathW
/- The contracts of the text package's functions. -/
namespace Go.Proofs.YtocpfgdajomjiaaDoor.Hand
open Go.RowKit Go.Proofs.YtocpfgdajomjiaaDoorW.PrintWords
set_option linter.unusedVariables false
/-- bytealg.MaxLen's cell holds a number. -/
structure Glob (w : World) : Prop where
  lt : 2 < w.heap.size
  cell : ∃ m, w.cell? ⟨2, 0, none⟩ = some (.int .i64 m)
theorem Glob.below {w w' : World} (h : Glob w) (hb : Below w.heap.size w w') : Glob w' :=
  ⟨Nat.lt_of_lt_of_le h.lt hb.size, by obtain ⟨m, hm⟩ := h.cell; exact ⟨m, (hb.cell (p := ⟨2, 0, none⟩) h.lt).trans hm⟩⟩
theorem glob_of_shaped {W : World} (h : W.ShapedOpen Tryd.prog) : Glob W := by
  obtain ⟨m, hm⟩ := Tryd.laysM145.s1_3 W h
  have hm' : W.cell? ⟨2, 0, none⟩ = some (.int .i64 m) := hm
  exact ⟨cell_lt' hm', m, hm'⟩
theorem text_Lines.calls (a0 : ByteArray) (r : List ByteArray) (w : World) (hG : Glob w) (h : text_Lines.f a0 = some r) :
    Calls Tryd.prog 20 #[.string a0] w fun e w' => ∃ v0_ : Value, e = .returned (v0_) ∧ Kd.R Kd.string 9 w' w.heap.size (fun _ => True) v0_ r ∧ Below w.heap.size w w' := by
  unfold text_Lines.f at h
  split at h
  next hs =>
    injection h with h
    subst h
    obtain ⟨m, hm⟩ := hG.cell
    exact lines_walk a0 hs m w hG.lt hm
  next => exact absurd h (by simp)
def text_Words.f (a0 : ByteArray) : Option (List ByteArray) := if a0.size ≤ 100000 then some (wordsV a0) else none
theorem text_Words.calls (a0 : ByteArray) (r : List ByteArray) (w : World) (h : text_Words.f a0 = some r) :
    Calls Tryd.prog 24 #[.string a0] w fun e w' => ∃ v0_ : Value, e = .returned (v0_) ∧ Kd.R Kd.string 9 w' w.heap.size (fun _ => True) v0_ r ∧ Below w.heap.size w w' := by
  unfold text_Words.f at h
  split at h
  next hs =>
    injection h with h
    subst h
    exact words_walk a0 hs w
  next => exact absurd h (by simp)
def text_Trim.f (a0 : ByteArray) : Option ByteArray := if a0.size ≤ 100000 then some (trimV a0) else none
theorem text_Trim.calls (a0 : ByteArray) (r : ByteArray) (w : World) (h : text_Trim.f a0 = some r) :
    Calls Tryd.prog 30 #[.string a0] w fun e w' => e = .returned (.string r) ∧ Below w.heap.size w w' := by
  unfold text_Trim.f at h
  split at h
  next hs =>
    injection h with h
    subst h
    exact trim_walk a0 hs w
  next => exact absurd h (by simp)
def text_Join.f (l0 : List ByteArray) : Option ByteArray := if l0.length ≤ 100000 ∧ (joinV l0).size ≤ 100000000 then some (joinV l0) else none
theorem text_Join.calls (A0 : Option Addr) (c0 : Nat) (l0 : List ByteArray) (r : ByteArray) (w : World) (hr0 : Kd.C Kd.string w A0 l0.length l0) (hc0 : l0.length ≤ c0) (h : text_Join.f l0 = some r) :
    Calls Tryd.prog 28 #[.slice A0 l0.length c0] w fun e w' => e = .returned (.string r) ∧ Below w.heap.size w w' := by
  unfold text_Join.f at h
  split at h
  next hs =>
    injection h with h
    subst h
    exact join_walk A0 c0 l0 w hr0 hc0 hs.1 hs.2
  next => exact absurd h (by simp)
def text_Path.f (a0 : ByteArray) : Option Bool := if a0.size ≤ 100000 then some (pathV a0) else none
theorem text_Path.calls (a0 : ByteArray) (r : Bool) (w : World) (hG : Glob w) (h : text_Path.f a0 = some r) :
    Calls Tryd.prog 21 #[.string a0] w fun e w' => e = .returned (.bool r) ∧ Below w.heap.size w w' := by
  unfold text_Path.f at h
  split at h
  next hs =>
    injection h with h
    subst h
    obtain ⟨m, hm⟩ := hG.cell
    exact path_walk a0 hs m w hG.lt hm
  next => exact absurd h (by simp)
def text_Quote.f (a0 : ByteArray) : Option ByteArray := if a0.size ≤ 100000 then some (quoteV a0) else none
theorem text_Quote.calls (a0 : ByteArray) (r : ByteArray) (w : World) (h : text_Quote.f a0 = some r) :
    Calls Tryd.prog 22 #[.string a0] w fun e w' => e = .returned (.string r) ∧ Below w.heap.size w w' := by
  unfold text_Quote.f at h
  split at h
  next hs =>
    injection h with h
    subst h
    exact quote_walk a0 hs w
  next => exact absurd h (by simp)
end Go.Proofs.YtocpfgdajomjiaaDoor.Hand
