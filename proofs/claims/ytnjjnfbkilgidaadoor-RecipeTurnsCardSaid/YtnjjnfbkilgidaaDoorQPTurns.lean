import Derived.Test.YtnjjnfbkilgidaaDoorQPTurnL
import Derived.Test.YtnjjnfbkilgidaaDoorQD
import Derived.Test.YtnjjnfbkilgidaaDoorQK5
/- Plain: RecipeTurns. -/
namespace Go.Proofs.YtnjjnfbkilgidaaDoor.Pure
open Go.RowKit Go.Proofs.YtnjjnfbkilgidaaDoor.Fr Go.Proofs.YtnjjnfbkilgidaaDoor.K Go.Proofs.YtnjjnfbkilgidaaDoorW.PrintWords
open Go.Proofs.YtnjjnfbkilgidaaDoor.Hand (joinV wordsV wordsGo linesV linesGo ba_ext)
set_option linter.unusedVariables false
set_option linter.unusedSimpArgs false
def aB : ByteArray := ⟨#[97]⟩
def bB : ByteArray := ⟨#[98]⟩
def cB : ByteArray := ⟨#[99]⟩
def dB : ByteArray := ⟨#[100]⟩
def eB : ByteArray := ⟨#[101]⟩
def tB2 : ByteArray := ⟨#[116]⟩
/-- One line that works, ahead of others. -/
theorem script_step {ins : List Fi} {line : ByteArray} {r : List ByteArray} {own own' : List Ob} {f f' : Int} (ws : List ByteArray) (hw : wordsV line = ws) (hne : ws ≠ []) (hd : doV own ins f ws = (0, own', f')) : scriptV ins (line :: r) own f = scriptV ins r own' f' := by
  rw [scriptV, hw, if_neg hne, hd]
  rfl
theorem lay_ok {own : List Ob} {f : Int} {verb : List UInt8} {w : List ByteArray} {n s : ByteArray} (hs : s.size ≤ 4000) (hf : 50 ≤ f) : layV own f false verb w (n, s, true) = (0, (fun o => if n.toList = [] then o else putF o ⟨n, s⟩) (if verb = [114, 109] ∨ verb = [109, 118] then dropF own (wd w 1) else own), f - (1 + (s.size : Int) / 100)) := by
  unfold layV
  have hb : (!true || decide (4000 < s.size)) = false := by rw [decide_eq_false (by omega)]; rfl
  simp only [hb]
  rw [if_neg Bool.false_ne_true, if_neg (by omega)]
/-- A command whose words are right: what it does. -/
theorem do_of {own : List Ob} {ins : List Fi} {f : Int} {ws : List ByteArray} {verb : List UInt8} {n s : ByteArray} (hv : verbV (v0 ws) = (verb, false)) (hc : cmdV ws = ws) (hr : rightV ws = true) (hl : laidV own ins ws = (n, s, true)) (hs : s.size ≤ 4000) (hf : 50 ≤ f) :
    ∃ f', f - 50 ≤ f' ∧ doV own ins f ws = (0, (fun o => if n.toList = [] then o else putF o ⟨n, s⟩) (if verb = [114, 109] ∨ verb = [109, 118] then dropF own (wd ws 1) else own), f') := by
  refine ⟨f - (1 + (s.size : Int) / 100), by omega, ?_⟩
  unfold doV
  rw [hv, hc, if_neg (by rw [hr]; decide), hl, lay_ok hs hf]
theorem cmd_same {ws : List ByteArray} {verb : ByteArray} {r : List ByteArray} (h : ws = verb :: r) (hv : verbV (v0 ws) = (verb.data.toList, false)) : cmdV ws = ws := by
  unfold cmdV
  rw [hv, h]
  rfl
/-- Words that a turn has, and what it makes. -/
structure TWords (ws : List ByteArray) (v x y : ByteArray) : Prop where
  eq : ws = [v, x, y]
  verb : verbV (v0 ws) = (v.data.toList, false)
  right : rightV ws = true
theorem do_turn {own : List Ob} {ins : List Fi} {f : Int} {v x y s : ByteArray} (h : TWords [v, x, y] v x y) (hn : v.data.toList = [117, 112, 112, 101, 114] ∨ v.data.toList = [108, 111, 119, 101, 114] ∨ v.data.toList = [114, 101, 118, 101, 114, 115, 101] ∨ v.data.toList = [115, 111, 114, 116]) (hy : y.toList ≠ []) (hfile : fileV own ins x = some s) (hs : (turnedV v.data.toList s).size ≤ 4000) (hf : 50 ≤ f) :
    ∃ f', f - 50 ≤ f' ∧ doV own ins f [v, x, y] = (0, putF own ⟨y, turnedV v.data.toList s⟩, f') := by
  have hv0 : v0 [v, x, y] = v.data.toList := by unfold v0; rw [tl]; rfl
  have hl : laidV own ins [v, x, y] = (y, turnedV v.data.toList s, true) := by
    unfold laidV
    rw [hv0]
    show (if v.data.toList = [116, 114, 117, 101] then _ else _) = _
    rcases hn with h | h | h | h <;> rw [h] <;> (show (match fileV own ins x with | none => (nilB, nilB, false) | some s => _) = _; rw [hfile]; rfl)
  obtain ⟨f', h1, h2⟩ := do_of h.verb (cmd_same rfl h.verb) h.right hl hs hf
  refine ⟨f', h1, ?_⟩
  rw [h2]
  simp only [if_neg hy]
  rw [if_neg]
  rcases hn with h | h | h | h <;> rw [h] <;> decide
theorem do_same2 {own : List Ob} {ins : List Fi} {f : Int} {v x y s : ByteArray} (hv : v.data.toList = [115, 97, 109, 101]) (hvv : verbV (v0 [v, x, y]) = ([115, 97, 109, 101], false)) (hr : rightV [v, x, y] = true) (hx : fileV own ins x = some s) (hy : fileV own ins y = some s) (hf : 50 ≤ f) :
    ∃ f', f - 50 ≤ f' ∧ doV own ins f [v, x, y] = (0, own, f') := by
  have hv0 : v0 [v, x, y] = [115, 97, 109, 101] := by unfold v0; rw [tl]; exact hv
  have hl : laidV own ins [v, x, y] = (nilB, nilB, true) := by
    unfold laidV
    rw [hv0]
    show (match fileV own ins x with | none => (nilB, nilB, false) | some s => (nilB, nilB, (fileV own ins y).isSome && (hadV own ins y).toList == s.toList)) = _
    have e : hadV own ins y = s := by unfold hadV; rw [hy]; rfl
    rw [hx, hy, e]
    simp
  obtain ⟨f', h1, h2⟩ := do_of hvv (cmd_same rfl (by rw [hv]; exact hvv)) hr hl (by decide) hf
  refine ⟨f', h1, ?_⟩
  rw [h2]
  simp only [if_pos nilB_list]
  rw [if_neg (by decide)]
theorem do_mv2 {own : List Ob} {ins : List Fi} {f : Int} {v x y : ByteArray} {g : Ob} (hv : v.data.toList = [109, 118]) (hvv : verbV (v0 [v, x, y]) = ([109, 118], false)) (hr : rightV [v, x, y] = true) (hx : findF own x = some g) (hs : g.f1.size ≤ 4000) (hy : y.toList ≠ []) (hf : 50 ≤ f) :
    ∃ f', f - 50 ≤ f' ∧ doV own ins f [v, x, y] = (0, putF (dropF own x) ⟨y, g.f1⟩, f') := by
  have hv0 : v0 [v, x, y] = [109, 118] := by unfold v0; rw [tl]; exact hv
  have hl : laidV own ins [v, x, y] = (y, g.f1, true) := by
    unfold laidV
    rw [hv0]
    show (y, hadV own ins x, (findF own x).isSome) = _
    have e : hadV own ins x = g.f1 := by unfold hadV fileV; rw [hx]; rfl
    rw [hx, e]
    rfl
  obtain ⟨f', h1, h2⟩ := do_of hvv (cmd_same rfl (by rw [hv]; exact hvv)) hr hl hs hf
  refine ⟨f', h1, ?_⟩
  rw [h2]
  simp only [if_neg hy]
  rw [if_pos (by decide)]
  rfl
theorem do_cat2 {own : List Ob} {ins : List Fi} {f : Int} {v y p q s1 s2 : ByteArray} (hv : v.data.toList = [99, 111, 110, 99, 97, 116]) (hvv : verbV (v0 [v, y, p, q]) = ([99, 111, 110, 99, 97, 116], false)) (hr : rightV [v, y, p, q] = true) (hp : fileV own ins p = some s1) (hq : fileV own ins q = some s2) (hs : (s1 ++ s2).size ≤ 4000) (hy : y.toList ≠ []) (hf : 50 ≤ f) :
    ∃ f', f - 50 ≤ f' ∧ doV own ins f [v, y, p, q] = (0, putF own ⟨y, s1 ++ s2⟩, f') := by
  have hv0 : v0 [v, y, p, q] = [99, 111, 110, 99, 97, 116] := by unfold v0; rw [tl]; exact hv
  have hl : laidV own ins [v, y, p, q] = (y, s1 ++ s2, true) := by
    unfold laidV
    rw [hv0]
    show (match catV own ins [p, q] nilB with | none => (nilB, nilB, false) | some s => (y, s, true)) = _
    have e : nilB ++ s1 = s1 := ba_ext (by rw [data_app]; rfl)
    rw [catV, hp]
    show (match catV own ins [q] (nilB ++ s1) with | none => (nilB, nilB, false) | some s => (y, s, true)) = _
    rw [catV, hq, e]
    rfl
  obtain ⟨f', h1, h2⟩ := do_of hvv (cmd_same rfl (by rw [hv]; exact hvv)) hr hl hs hf
  refine ⟨f', h1, ?_⟩
  rw [h2]
  simp only [if_neg hy]
  rw [if_neg (by decide)]
theorem words_rab : wordsV ⟨#[114, 101, 118, 101, 114, 115, 101, 32, 97, 32, 98]⟩ = [(⟨#[114, 101, 118, 101, 114, 115, 101]⟩ : ByteArray), (⟨#[97]⟩ : ByteArray), (⟨#[98]⟩ : ByteArray)] := by kernel_rfl
theorem right_rab : rightV [(⟨#[114, 101, 118, 101, 114, 115, 101]⟩ : ByteArray), (⟨#[97]⟩ : ByteArray), (⟨#[98]⟩ : ByteArray)] = true := by decide +kernel
theorem verb_rab : verbV (v0 [(⟨#[114, 101, 118, 101, 114, 115, 101]⟩ : ByteArray), (⟨#[97]⟩ : ByteArray), (⟨#[98]⟩ : ByteArray)]) = ([114, 101, 118, 101, 114, 115, 101], false) := by decide +kernel
theorem words_rbt : wordsV ⟨#[114, 101, 118, 101, 114, 115, 101, 32, 98, 32, 116]⟩ = [(⟨#[114, 101, 118, 101, 114, 115, 101]⟩ : ByteArray), (⟨#[98]⟩ : ByteArray), (⟨#[116]⟩ : ByteArray)] := by kernel_rfl
theorem right_rbt : rightV [(⟨#[114, 101, 118, 101, 114, 115, 101]⟩ : ByteArray), (⟨#[98]⟩ : ByteArray), (⟨#[116]⟩ : ByteArray)] = true := by decide +kernel
theorem verb_rbt : verbV (v0 [(⟨#[114, 101, 118, 101, 114, 115, 101]⟩ : ByteArray), (⟨#[98]⟩ : ByteArray), (⟨#[116]⟩ : ByteArray)]) = ([114, 101, 118, 101, 114, 115, 101], false) := by decide +kernel
theorem words_sab : wordsV ⟨#[115, 111, 114, 116, 32, 97, 32, 98]⟩ = [(⟨#[115, 111, 114, 116]⟩ : ByteArray), (⟨#[97]⟩ : ByteArray), (⟨#[98]⟩ : ByteArray)] := by kernel_rfl
theorem right_sab : rightV [(⟨#[115, 111, 114, 116]⟩ : ByteArray), (⟨#[97]⟩ : ByteArray), (⟨#[98]⟩ : ByteArray)] = true := by decide +kernel
theorem verb_sab : verbV (v0 [(⟨#[115, 111, 114, 116]⟩ : ByteArray), (⟨#[97]⟩ : ByteArray), (⟨#[98]⟩ : ByteArray)]) = ([115, 111, 114, 116], false) := by decide +kernel
theorem words_sbc : wordsV ⟨#[115, 111, 114, 116, 32, 98, 32, 99]⟩ = [(⟨#[115, 111, 114, 116]⟩ : ByteArray), (⟨#[98]⟩ : ByteArray), (⟨#[99]⟩ : ByteArray)] := by kernel_rfl
theorem right_sbc : rightV [(⟨#[115, 111, 114, 116]⟩ : ByteArray), (⟨#[98]⟩ : ByteArray), (⟨#[99]⟩ : ByteArray)] = true := by decide +kernel
theorem verb_sbc : verbV (v0 [(⟨#[115, 111, 114, 116]⟩ : ByteArray), (⟨#[98]⟩ : ByteArray), (⟨#[99]⟩ : ByteArray)]) = ([115, 111, 114, 116], false) := by decide +kernel
theorem words_mbc : wordsV ⟨#[115, 97, 109, 101, 32, 98, 32, 99]⟩ = [(⟨#[115, 97, 109, 101]⟩ : ByteArray), (⟨#[98]⟩ : ByteArray), (⟨#[99]⟩ : ByteArray)] := by kernel_rfl
theorem right_mbc : rightV [(⟨#[115, 97, 109, 101]⟩ : ByteArray), (⟨#[98]⟩ : ByteArray), (⟨#[99]⟩ : ByteArray)] = true := by decide +kernel
theorem verb_mbc : verbV (v0 [(⟨#[115, 97, 109, 101]⟩ : ByteArray), (⟨#[98]⟩ : ByteArray), (⟨#[99]⟩ : ByteArray)]) = ([115, 97, 109, 101], false) := by decide +kernel
theorem words_mvbt : wordsV ⟨#[109, 118, 32, 98, 32, 116]⟩ = [(⟨#[109, 118]⟩ : ByteArray), (⟨#[98]⟩ : ByteArray), (⟨#[116]⟩ : ByteArray)] := by kernel_rfl
theorem right_mvbt : rightV [(⟨#[109, 118]⟩ : ByteArray), (⟨#[98]⟩ : ByteArray), (⟨#[116]⟩ : ByteArray)] = true := by decide +kernel
theorem verb_mvbt : verbV (v0 [(⟨#[109, 118]⟩ : ByteArray), (⟨#[98]⟩ : ByteArray), (⟨#[116]⟩ : ByteArray)]) = ([109, 118], false) := by decide +kernel
theorem words_uab : wordsV ⟨#[117, 112, 112, 101, 114, 32, 97, 32, 98]⟩ = [(⟨#[117, 112, 112, 101, 114]⟩ : ByteArray), (⟨#[97]⟩ : ByteArray), (⟨#[98]⟩ : ByteArray)] := by kernel_rfl
theorem right_uab : rightV [(⟨#[117, 112, 112, 101, 114]⟩ : ByteArray), (⟨#[97]⟩ : ByteArray), (⟨#[98]⟩ : ByteArray)] = true := by decide +kernel
theorem verb_uab : verbV (v0 [(⟨#[117, 112, 112, 101, 114]⟩ : ByteArray), (⟨#[97]⟩ : ByteArray), (⟨#[98]⟩ : ByteArray)]) = ([117, 112, 112, 101, 114], false) := by decide +kernel
theorem words_lbc : wordsV ⟨#[108, 111, 119, 101, 114, 32, 98, 32, 99]⟩ = [(⟨#[108, 111, 119, 101, 114]⟩ : ByteArray), (⟨#[98]⟩ : ByteArray), (⟨#[99]⟩ : ByteArray)] := by kernel_rfl
theorem right_lbc : rightV [(⟨#[108, 111, 119, 101, 114]⟩ : ByteArray), (⟨#[98]⟩ : ByteArray), (⟨#[99]⟩ : ByteArray)] = true := by decide +kernel
theorem verb_lbc : verbV (v0 [(⟨#[108, 111, 119, 101, 114]⟩ : ByteArray), (⟨#[98]⟩ : ByteArray), (⟨#[99]⟩ : ByteArray)]) = ([108, 111, 119, 101, 114], false) := by decide +kernel
theorem words_lad : wordsV ⟨#[108, 111, 119, 101, 114, 32, 97, 32, 100]⟩ = [(⟨#[108, 111, 119, 101, 114]⟩ : ByteArray), (⟨#[97]⟩ : ByteArray), (⟨#[100]⟩ : ByteArray)] := by kernel_rfl
theorem right_lad : rightV [(⟨#[108, 111, 119, 101, 114]⟩ : ByteArray), (⟨#[97]⟩ : ByteArray), (⟨#[100]⟩ : ByteArray)] = true := by decide +kernel
theorem verb_lad : verbV (v0 [(⟨#[108, 111, 119, 101, 114]⟩ : ByteArray), (⟨#[97]⟩ : ByteArray), (⟨#[100]⟩ : ByteArray)]) = ([108, 111, 119, 101, 114], false) := by decide +kernel
theorem words_mcd : wordsV ⟨#[115, 97, 109, 101, 32, 99, 32, 100]⟩ = [(⟨#[115, 97, 109, 101]⟩ : ByteArray), (⟨#[99]⟩ : ByteArray), (⟨#[100]⟩ : ByteArray)] := by kernel_rfl
theorem right_mcd : rightV [(⟨#[115, 97, 109, 101]⟩ : ByteArray), (⟨#[99]⟩ : ByteArray), (⟨#[100]⟩ : ByteArray)] = true := by decide +kernel
theorem verb_mcd : verbV (v0 [(⟨#[115, 97, 109, 101]⟩ : ByteArray), (⟨#[99]⟩ : ByteArray), (⟨#[100]⟩ : ByteArray)]) = ([115, 97, 109, 101], false) := by decide +kernel
theorem words_ude : wordsV ⟨#[117, 112, 112, 101, 114, 32, 100, 32, 101]⟩ = [(⟨#[117, 112, 112, 101, 114]⟩ : ByteArray), (⟨#[100]⟩ : ByteArray), (⟨#[101]⟩ : ByteArray)] := by kernel_rfl
theorem right_ude : rightV [(⟨#[117, 112, 112, 101, 114]⟩ : ByteArray), (⟨#[100]⟩ : ByteArray), (⟨#[101]⟩ : ByteArray)] = true := by decide +kernel
theorem verb_ude : verbV (v0 [(⟨#[117, 112, 112, 101, 114]⟩ : ByteArray), (⟨#[100]⟩ : ByteArray), (⟨#[101]⟩ : ByteArray)]) = ([117, 112, 112, 101, 114], false) := by decide +kernel
theorem words_mbe : wordsV ⟨#[115, 97, 109, 101, 32, 98, 32, 101]⟩ = [(⟨#[115, 97, 109, 101]⟩ : ByteArray), (⟨#[98]⟩ : ByteArray), (⟨#[101]⟩ : ByteArray)] := by kernel_rfl
theorem right_mbe : rightV [(⟨#[115, 97, 109, 101]⟩ : ByteArray), (⟨#[98]⟩ : ByteArray), (⟨#[101]⟩ : ByteArray)] = true := by decide +kernel
theorem verb_mbe : verbV (v0 [(⟨#[115, 97, 109, 101]⟩ : ByteArray), (⟨#[98]⟩ : ByteArray), (⟨#[101]⟩ : ByteArray)]) = ([115, 97, 109, 101], false) := by decide +kernel
theorem words_cat : wordsV ⟨#[99, 111, 110, 99, 97, 116, 32, 116, 32, 98, 32, 100]⟩ = [(⟨#[99, 111, 110, 99, 97, 116]⟩ : ByteArray), (⟨#[116]⟩ : ByteArray), (⟨#[98]⟩ : ByteArray), (⟨#[100]⟩ : ByteArray)] := by kernel_rfl
theorem right_cat : rightV [(⟨#[99, 111, 110, 99, 97, 116]⟩ : ByteArray), (⟨#[116]⟩ : ByteArray), (⟨#[98]⟩ : ByteArray), (⟨#[100]⟩ : ByteArray)] = true := by decide +kernel
theorem verb_cat : verbV (v0 [(⟨#[99, 111, 110, 99, 97, 116]⟩ : ByteArray), (⟨#[116]⟩ : ByteArray), (⟨#[98]⟩ : ByteArray), (⟨#[100]⟩ : ByteArray)]) = ([99, 111, 110, 99, 97, 116], false) := by decide +kernel

theorem file_in {own : List Ob} {a s : ByteArray} (h : findF own a = none) : fileV own [⟨a, s⟩] a = some s := by
  unfold fileV inV
  rw [h]
  simp
theorem file_own {own : List Ob} {ins : List Fi} {p : ByteArray} {f : Ob} (h : findF own p = some f) : fileV own ins p = some f.f1 := by
  unfold fileV
  rw [h]
theorem end_of {own : List Ob} {t : ByteArray} {f : Ob} {u : Int} (h : findF own t = some f) : endV t (0, own, u) = (f.f1, true, 0) := by
  unfold endV
  rw [if_pos rfl]
  dsimp only
  rw [h]
theorem ne_b {b : UInt8} : (⟨#[b]⟩ : ByteArray).toList ≠ [] := by rw [tl]; simp
theorem rows_small (s : ByteArray) (hs : s.size ≤ 1500) {l : List (List UInt8)} (h : l.Perm (lnL s)) : (rowsL l).size ≤ 4000 := by
  rw [rowsL_size h, ← len_data, rowsL_lnL]
  have := endL_len s.data.toList
  rw [len_data] at this
  omega
theorem runA (s : ByteArray) (hs : s.size ≤ 1500) : runV [⟨#[114, 101, 118, 101, 114, 115, 101, 32, 97, 32, 98]⟩, ⟨#[114, 101, 118, 101, 114, 115, 101, 32, 98, 32, 116]⟩] [⟨⟨#[97]⟩, s⟩] ⟨#[116]⟩ 999 = (rowsL (lnL s), true, 0) := by
  have t1 : turnedV [114, 101, 118, 101, 114, 115, 101] s = rowsL (lnL s).reverse := rfl
  have t2 : turnedV [114, 101, 118, 101, 114, 115, 101] (rowsL (lnL s).reverse) = rowsL (lnL s) := rev_twice s
  obtain ⟨f1, g1, h1⟩ := do_turn (own := []) (ins := [⟨⟨#[97]⟩, s⟩]) (f := 999) (s := s) ⟨rfl, verb_rab, right_rab⟩ (.inr (.inr (.inl rfl))) ne_b (file_in rfl) (by
    show (turnedV [114, 101, 118, 101, 114, 115, 101] s).size ≤ 4000
    rw [t1]; exact rows_small s hs (List.reverse_perm _)) (by decide)
  have e1 : putF [] ⟨⟨#[98]⟩, turnedV [114, 101, 118, 101, 114, 115, 101] s⟩ = [⟨⟨#[98]⟩, rowsL (lnL s).reverse⟩] := rfl
  obtain ⟨f2, g2, h2⟩ := do_turn (own := [⟨⟨#[98]⟩, rowsL (lnL s).reverse⟩]) (ins := [⟨⟨#[97]⟩, s⟩]) (f := f1) (s := rowsL (lnL s).reverse) ⟨rfl, verb_rbt, right_rbt⟩ (.inr (.inr (.inl rfl))) ne_b (file_own (f := ⟨⟨#[98]⟩, rowsL (lnL s).reverse⟩) rfl) (by
    show (turnedV [114, 101, 118, 101, 114, 115, 101] (rowsL (lnL s).reverse)).size ≤ 4000
    rw [t2]; exact rows_small s hs (List.Perm.refl _)) (by omega)
  unfold runV
  rw [show max (-1 : Int) (min 999 10000) = 999 by decide, script_step _ words_rab (by simp) h1]
  rw [show putF [] ⟨⟨#[98]⟩, turnedV (⟨#[114, 101, 118, 101, 114, 115, 101]⟩ : ByteArray).data.toList s⟩ = [⟨⟨#[98]⟩, rowsL (lnL s).reverse⟩] from e1, script_step _ words_rbt (by simp) h2, scriptV]
  rw [end_of (f := ⟨⟨#[116]⟩, turnedV [114, 101, 118, 101, 114, 115, 101] (rowsL (lnL s).reverse)⟩) rfl, t2]
theorem runB (s : ByteArray) (hs : s.size ≤ 1500) : runV [⟨#[115, 111, 114, 116, 32, 97, 32, 98]⟩, ⟨#[115, 111, 114, 116, 32, 98, 32, 99]⟩, ⟨#[115, 97, 109, 101, 32, 98, 32, 99]⟩, ⟨#[109, 118, 32, 98, 32, 116]⟩] [⟨⟨#[97]⟩, s⟩] ⟨#[116]⟩ 999 = (rowsL (srt (lnL s)), true, 0) := by
  obtain ⟨S, hS⟩ : ∃ S, S = rowsL (srt (lnL s)) := ⟨_, rfl⟩
  have t1 : turnedV [115, 111, 114, 116] s = S := by rw [hS]; rfl
  have t2 : turnedV [115, 111, 114, 116] S = S := by rw [hS]; exact sort_twice s
  have z1 : S.size ≤ 4000 := by rw [hS]; exact rows_small s hs (List.mergeSort_perm _ _)
  rw [← hS]
  clear hS
  obtain ⟨f1, g1, h1⟩ := do_turn (own := []) (ins := [⟨⟨#[97]⟩, s⟩]) (f := 999) (s := s) ⟨rfl, verb_sab, right_sab⟩ (.inr (.inr (.inr rfl))) ne_b (file_in rfl) (by
    show (turnedV [115, 111, 114, 116] s).size ≤ 4000
    rw [t1]; exact z1) (by decide)
  replace h1 : doV [] [⟨⟨#[97]⟩, s⟩] 999 [⟨#[115, 111, 114, 116]⟩, ⟨#[97]⟩, ⟨#[98]⟩] = (0, [⟨⟨#[98]⟩, S⟩], f1) := by rw [← t1]; exact h1
  obtain ⟨f2, g2, h2⟩ := do_turn (own := [⟨⟨#[98]⟩, S⟩]) (ins := [⟨⟨#[97]⟩, s⟩]) (f := f1) (s := S) ⟨rfl, verb_sbc, right_sbc⟩ (.inr (.inr (.inr rfl))) ne_b (file_own (f := ⟨⟨#[98]⟩, S⟩) rfl) (by
    show (turnedV [115, 111, 114, 116] S).size ≤ 4000
    rw [t2]; exact z1) (by omega)
  replace h2 : doV [⟨⟨#[98]⟩, S⟩] [⟨⟨#[97]⟩, s⟩] f1 [⟨#[115, 111, 114, 116]⟩, ⟨#[98]⟩, ⟨#[99]⟩] = (0, [⟨⟨#[98]⟩, S⟩, ⟨⟨#[99]⟩, S⟩], f2) := by
    have e : turnedV (⟨#[115, 111, 114, 116]⟩ : ByteArray).data.toList S = S := t2
    rw [e] at h2
    exact h2
  obtain ⟨f3, g3, h3⟩ := do_same2 (own := [⟨⟨#[98]⟩, S⟩, ⟨⟨#[99]⟩, S⟩]) (ins := [⟨⟨#[97]⟩, s⟩]) (f := f2) (s := S) (v := ⟨#[115, 97, 109, 101]⟩) rfl verb_mbc right_mbc (file_own (f := ⟨⟨#[98]⟩, S⟩) rfl) (file_own (f := ⟨⟨#[99]⟩, S⟩) rfl) (by omega)
  obtain ⟨f4, g4, h4⟩ := do_mv2 (own := [⟨⟨#[98]⟩, S⟩, ⟨⟨#[99]⟩, S⟩]) (ins := [⟨⟨#[97]⟩, s⟩]) (f := f3) (g := ⟨⟨#[98]⟩, S⟩) (v := ⟨#[109, 118]⟩) rfl verb_mvbt right_mvbt rfl z1 ne_b (by omega)
  unfold runV
  rw [show max (-1 : Int) (min 999 10000) = 999 by decide, script_step _ words_sab (by simp) h1, script_step _ words_sbc (by simp) h2, script_step _ words_mbc (by simp) h3, script_step _ words_mvbt (by simp) h4, scriptV, end_of (f := ⟨⟨#[116]⟩, S⟩) rfl]
theorem runC (s : ByteArray) (hs : s.size ≤ 1500) : runV [⟨#[117, 112, 112, 101, 114, 32, 97, 32, 98]⟩, ⟨#[108, 111, 119, 101, 114, 32, 98, 32, 99]⟩, ⟨#[108, 111, 119, 101, 114, 32, 97, 32, 100]⟩, ⟨#[115, 97, 109, 101, 32, 99, 32, 100]⟩, ⟨#[117, 112, 112, 101, 114, 32, 100, 32, 101]⟩, ⟨#[115, 97, 109, 101, 32, 98, 32, 101]⟩, ⟨#[99, 111, 110, 99, 97, 116, 32, 116, 32, 98, 32, 100]⟩] [⟨⟨#[97]⟩, s⟩] ⟨#[116]⟩ 999 = (asciiV s 97 122 ++ asciiV s 65 90, true, 0) := by
  have z1 := ascii_size s 97 122
  have z2 := ascii_size s 65 90
  have u1 := low_up s
  have u2 := up_low s
  have t1 : ∀ q, turnedV [117, 112, 112, 101, 114] q = asciiV q 97 122 := fun q => rfl
  have t2 : ∀ q, turnedV [108, 111, 119, 101, 114] q = asciiV q 65 90 := fun q => rfl
  have t1s := t1 s
  have t2s := t2 s
  generalize asciiV s 97 122 = U at z1 u1 u2 t1s ⊢
  generalize asciiV s 65 90 = L at z2 u1 u2 t2s ⊢
  have t2U : turnedV [108, 111, 119, 101, 114] U = L := (t2 U).trans u1
  have t1L : turnedV [117, 112, 112, 101, 114] L = U := (t1 L).trans u2
  clear t1 t2 u1 u2
  obtain ⟨f1, g1, h1⟩ := do_turn (own := []) (ins := [⟨⟨#[97]⟩, s⟩]) (f := 999) (s := s) ⟨rfl, verb_uab, right_uab⟩ (.inl rfl) ne_b (file_in rfl) (by
    show (turnedV [117, 112, 112, 101, 114] s).size ≤ 4000
    rw [t1s]; omega) (by decide)
  replace h1 : doV [] [⟨⟨#[97]⟩, s⟩] 999 [⟨#[117, 112, 112, 101, 114]⟩, ⟨#[97]⟩, ⟨#[98]⟩] = (0, [⟨⟨#[98]⟩, U⟩], f1) := by rw [← t1s]; exact h1
  obtain ⟨f2, g2, h2⟩ := do_turn (own := [⟨⟨#[98]⟩, U⟩]) (ins := [⟨⟨#[97]⟩, s⟩]) (f := f1) (s := U) ⟨rfl, verb_lbc, right_lbc⟩ (.inr (.inl rfl)) ne_b (file_own (f := ⟨⟨#[98]⟩, U⟩) rfl) (by
    show (turnedV [108, 111, 119, 101, 114] U).size ≤ 4000
    rw [t2U]; omega) (by omega)
  replace h2 : doV [⟨⟨#[98]⟩, U⟩] [⟨⟨#[97]⟩, s⟩] f1 [⟨#[108, 111, 119, 101, 114]⟩, ⟨#[98]⟩, ⟨#[99]⟩] = (0, [⟨⟨#[98]⟩, U⟩, ⟨⟨#[99]⟩, L⟩], f2) := by rw [← t2U]; exact h2
  obtain ⟨f3, g3, h3⟩ := do_turn (own := [⟨⟨#[98]⟩, U⟩, ⟨⟨#[99]⟩, L⟩]) (ins := [⟨⟨#[97]⟩, s⟩]) (f := f2) (s := s) ⟨rfl, verb_lad, right_lad⟩ (.inr (.inl rfl)) ne_b (file_in rfl) (by
    show (turnedV [108, 111, 119, 101, 114] s).size ≤ 4000
    rw [t2s]; omega) (by omega)
  replace h3 : doV [⟨⟨#[98]⟩, U⟩, ⟨⟨#[99]⟩, L⟩] [⟨⟨#[97]⟩, s⟩] f2 [⟨#[108, 111, 119, 101, 114]⟩, ⟨#[97]⟩, ⟨#[100]⟩] = (0, [⟨⟨#[98]⟩, U⟩, ⟨⟨#[99]⟩, L⟩, ⟨⟨#[100]⟩, L⟩], f3) := by
    have e : turnedV (⟨#[108, 111, 119, 101, 114]⟩ : ByteArray).data.toList s = L := t2s
    rw [e] at h3
    exact h3
  obtain ⟨f4, g4, h4⟩ := do_same2 (own := [⟨⟨#[98]⟩, U⟩, ⟨⟨#[99]⟩, L⟩, ⟨⟨#[100]⟩, L⟩]) (ins := [⟨⟨#[97]⟩, s⟩]) (f := f3) (s := L) (v := ⟨#[115, 97, 109, 101]⟩) rfl verb_mcd right_mcd (file_own (f := ⟨⟨#[99]⟩, L⟩) rfl) (file_own (f := ⟨⟨#[100]⟩, L⟩) rfl) (by omega)
  obtain ⟨f5, g5, h5⟩ := do_turn (own := [⟨⟨#[98]⟩, U⟩, ⟨⟨#[99]⟩, L⟩, ⟨⟨#[100]⟩, L⟩]) (ins := [⟨⟨#[97]⟩, s⟩]) (f := f4) (s := L) ⟨rfl, verb_ude, right_ude⟩ (.inl rfl) ne_b (file_own (f := ⟨⟨#[100]⟩, L⟩) rfl) (by
    show (turnedV [117, 112, 112, 101, 114] L).size ≤ 4000
    rw [t1L]; omega) (by omega)
  replace h5 : doV [⟨⟨#[98]⟩, U⟩, ⟨⟨#[99]⟩, L⟩, ⟨⟨#[100]⟩, L⟩] [⟨⟨#[97]⟩, s⟩] f4 [⟨#[117, 112, 112, 101, 114]⟩, ⟨#[100]⟩, ⟨#[101]⟩] = (0, [⟨⟨#[98]⟩, U⟩, ⟨⟨#[99]⟩, L⟩, ⟨⟨#[100]⟩, L⟩, ⟨⟨#[101]⟩, U⟩], f5) := by
    have e : turnedV (⟨#[117, 112, 112, 101, 114]⟩ : ByteArray).data.toList L = U := t1L
    rw [e] at h5
    exact h5
  obtain ⟨f6, g6, h6⟩ := do_same2 (own := [⟨⟨#[98]⟩, U⟩, ⟨⟨#[99]⟩, L⟩, ⟨⟨#[100]⟩, L⟩, ⟨⟨#[101]⟩, U⟩]) (ins := [⟨⟨#[97]⟩, s⟩]) (f := f5) (s := U) (v := ⟨#[115, 97, 109, 101]⟩) rfl verb_mbe right_mbe (file_own (f := ⟨⟨#[98]⟩, U⟩) rfl) (file_own (f := ⟨⟨#[101]⟩, U⟩) rfl) (by omega)
  obtain ⟨f7, g7, h7⟩ := do_cat2 (own := [⟨⟨#[98]⟩, U⟩, ⟨⟨#[99]⟩, L⟩, ⟨⟨#[100]⟩, L⟩, ⟨⟨#[101]⟩, U⟩]) (ins := [⟨⟨#[97]⟩, s⟩]) (f := f6) (s1 := U) (s2 := L) (v := ⟨#[99, 111, 110, 99, 97, 116]⟩) rfl verb_cat right_cat (file_own (f := ⟨⟨#[98]⟩, U⟩) rfl) (file_own (f := ⟨⟨#[100]⟩, L⟩) rfl) (by rw [ByteArray.size_append]; omega) ne_b (by omega)
  unfold runV
  rw [show max (-1 : Int) (min 999 10000) = 999 by decide, script_step _ words_uab (by simp) h1, script_step _ words_lbc (by simp) h2, script_step _ words_lad (by simp) h3, script_step _ words_mcd (by simp) h4, script_step _ words_ude (by simp) h5, script_step _ words_mbe (by simp) h6, script_step _ words_cat (by simp) h7, scriptV, end_of (f := ⟨⟨#[116]⟩, U ++ L⟩) rfl]
/-! #### The sorted text, read line by line -/
theorem not_less {x y : ByteArray} (h : y.data.toList ≤ x.data.toList) : ¬ (Op.bytesLess x.toList y.toList) = true := by
  rw [Go.Proofs.bytesLess_eq, decide_eq_true_eq, tl, tl]
  exact h
theorem turns_fin (s e A B C last line : ByteArray) (hs : s.size ≤ 1500) (hA : A.toList = e.toList) (hB : B.size = e.size) (hl : line.data.toList = []) (hC : C.size = 2 * s.size) (i : Nat) (hi : i = B.size) : Ev fun k => cooperagelaw15_RecipeTurns.l0 k s e A 0 B 0 C 0 last line (i : Int) = some true := by
  refine Ev.up (Ev.of fun k => ?_)
  simp only [cooperagelaw15_RecipeTurns.l0]
  rw [if_neg (by omega), if_pos trivial, if_pos hA, if_pos trivial, if_pos (by omega), if_pos (by rw [tl]; exact hl), if_pos trivial, w64 (by omega) (by omega)]
  simp
  omega
theorem turns_l0 (s e A B C : ByteArray) (hs : s.size ≤ 1500) (hA : A.toList = e.toList) (hB : B.size = e.size) (hC : C.size = 2 * s.size) (hBs : B.size ≤ 1501) :
    ∀ (n i : Nat) (last line : ByteArray) (x : List UInt8) (ls : List (List UInt8)), i + n = B.size → line.size ≤ i → (∀ c ∈ x, c ≠ 10) → (∀ y ∈ ls, ∀ c ∈ y, c ≠ 10) → ((line.data.toList = [] ∧ x = [] ∧ B.data.toList.drop i = unl ls ∧ (last.data.toList :: ls).Pairwise (fun x y => x ≤ y)) ∨ (B.data.toList.drop i = x ++ 10 :: unl ls ∧ (last.data.toList :: (line.data.toList ++ x) :: ls).Pairwise (fun x y => x ≤ y))) →
      Ev fun k => cooperagelaw15_RecipeTurns.l0 k s e A 0 B 0 C 0 last line (i : Int) = some true := by
  have hlen := len_data B
  intro n
  induction n with
  | zero =>
    intro i last line x ls hi hli hx hls h
    rcases h with ⟨h1, _, _, _⟩ | ⟨h1, _⟩
    · exact turns_fin s e A B C last line hs hA hB h1 hC i (by omega)
    · rw [List.drop_eq_nil_of_le (by omega)] at h1
      simp at h1
  | succ n ih =>
    intro i last line x ls hi hli hx hls h
    have hil : i < B.data.toList.length := by omega
    have hd := List.drop_eq_getElem_cons hil
    have hbt := bt_nat B i hil
    -- at a line's beginning: as within it
    have h' : ∃ x ls, (∀ c ∈ x, c ≠ 10) ∧ (∀ y ∈ ls, ∀ c ∈ y, c ≠ 10) ∧ B.data.toList.drop i = x ++ 10 :: unl ls ∧ (last.data.toList :: (line.data.toList ++ x) :: ls).Pairwise (fun x y => x ≤ y) := by
      rcases h with ⟨h1, _, h2, h3⟩ | ⟨h1, h2⟩
      · cases ls with
        | nil => rw [hd] at h2; cases h2
        | cons y r => exact ⟨y, r, hls y (List.mem_cons_self ..), fun z hz => hls z (List.mem_cons_of_mem _ hz), by rw [h2, unl_cons], by rw [h1, List.nil_append]; exact h3⟩
      · exact ⟨x, ls, hx, hls, h1, h2⟩
    clear h hx hls x ls
    obtain ⟨x, ls, hx, hls, h1, h2⟩ := h'
    rw [hd] at h1
    cases x with
    | nil =>
      rw [List.nil_append] at h1
      obtain ⟨h3, h4⟩ := List.cons.inj h1
      rw [List.append_nil] at h2
      have hnl : ¬ (Op.bytesLess line.toList last.toList) = true := not_less (List.rel_of_pairwise_cons h2 (List.mem_cons_self ..))
      have h5 := ih (i + 1) line ⟨#[]⟩ [] ls (by omega) (Nat.zero_le _) (fun c hc => by cases hc) hls (.inl ⟨rfl, rfl, h4, (List.pairwise_cons.1 h2).2⟩)
      refine Ev.up (h5.mp fun k hk => ?_)
      simp only [cooperagelaw15_RecipeTurns.l0]
      rw [if_pos (by omega), if_pos (by omega), if_pos (by rw [hbt, h3]; rfl), if_neg hnl, w64s i (by omega)]
      exact hk
    | cons c r =>
      rw [List.cons_append] at h1
      obtain ⟨h3, h4⟩ := List.cons.inj h1
      have hc := hx c (List.mem_cons_self ..)
      have hne : ¬ bt B (i : Int) = 10 := by
        rw [hbt, h3]
        intro e
        have : c.toNat = 10 := by omega
        exact hc (UInt8.toNat_inj.1 this)
      have hseg : (B.extract i (i + 1)).data.toList = [c] := by
        rw [← tl, seg_at, List.take_succ_eq_append_getElem hil, h3, List.drop_append_of_le_length (by rw [List.length_take]; omega), List.drop_eq_nil_of_le (by rw [List.length_take]; omega)]
        rfl
      have hls2 : (line ++ B.extract i (i + 1)).data.toList = line.data.toList ++ [c] := by rw [data_app, hseg]
      have hsz1 : (B.extract i (i + 1)).size = 1 := by rw [← len_data, hseg]; rfl
      have h5 := ih (i + 1) last (line ++ B.extract i (i + 1)) r ls (by omega) (by rw [ByteArray.size_append]; omega) (fun y hy => hx y (List.mem_cons_of_mem _ hy)) hls (.inr ⟨h4, by rw [hls2, List.append_assoc]; exact h2⟩)
      refine Ev.up (h5.mp fun k hk => ?_)
      simp only [cooperagelaw15_RecipeTurns.l0]
      rw [if_pos (by omega), if_pos (by omega), if_neg hne, w64s i (by omega), if_pos (by omega), if_pos (by omega), Int.toNat_natCast, Int.toNat_natCast, if_pos (by omega)]
      exact hk
theorem le_all (l : List UInt8) : ([] : List UInt8) ≤ l := by
  cases l with
  | nil => exact List.le_refl _
  | cons a r => exact fun h => by cases h
theorem turns_j2 (s e : ByteArray) (hs : s.size ≤ 1500) (he : e.data.toList = endL s.data.toList) : Ev fun k => cooperagelaw15_RecipeTurns.j2 k s [⟨⟨#[97]⟩, s⟩] e = some true := by
  have hsz : ∀ f ∈ [(⟨⟨#[97]⟩, s⟩ : Fi)], f.f1.size ≤ 10000 := fun f hf => by rw [List.mem_singleton.1 hf]; show s.size ≤ 10000; omega
  have hA : (rowsL (lnL s)).toList = e.toList := by rw [tl, tl, rowsL_lnL, he]
  have hBz : (rowsL (srt (lnL s))).size = e.size := by
    rw [rowsL_size (List.mergeSort_perm _ _), ← len_data, ← len_data, rowsL_lnL, he]
  have hez : e.size ≤ 1501 := by
    rw [← len_data, he]
    have := endL_len s.data.toList
    rw [len_data] at this
    omega
  have hC : (asciiV s 97 122 ++ asciiV s 65 90).size = 2 * s.size := by rw [ByteArray.size_append, ascii_size, ascii_size]; omega
  have hmain := turns_l0 s e (rowsL (lnL s)) (rowsL (srt (lnL s))) (asciiV s 97 122 ++ asciiV s 65 90) hs hA hBz hC (by omega) (rowsL (srt (lnL s))).size 0 ⟨#[]⟩ ⟨#[]⟩ [] (srt (lnL s)) (by omega) (Nat.zero_le _) (fun c hc => by cases hc) (srt_free s) (.inl ⟨rfl, rfl, by rw [List.drop_zero, rowsL_data], List.pairwise_cons.2 ⟨fun y _ => le_all y, srt_sorted _⟩⟩)
  have small : ∀ l : List ByteArray, (l.all fun x => decide (x.size ≤ 8000)) = true → ∀ x ∈ l, x.size ≤ 8000 := fun l h x hx => of_decide_eq_true (List.all_eq_true.1 h x hx)
  refine Ev.up (hmain.mp fun k hk => ?_)
  simp only [cooperagelaw15_RecipeTurns.j2]
  rw [run_ok _ _ _ _ (by decide) (small _ (by decide)) (by simp) hsz (by decide), runA s hs, Option.bind_some, run_ok _ _ _ _ (by decide) (small _ (by decide)) (by simp) hsz (by decide), runB s hs, Option.bind_some, run_ok _ _ _ _ (by decide) (small _ (by decide)) (by simp) hsz (by decide), runC s hs, Option.bind_some]
  exact hk
theorem last_at (s : ByteArray) (h : s.data.toList ≠ []) : s.data.toList.getLast? = some (s.data.toList[s.data.toList.length - 1]'(by have := List.length_pos_iff.2 h; omega)) := by
  rw [List.getLast?_eq_getElem?, List.getElem?_eq_getElem]
theorem turns_j0 (s : ByteArray) (hs : s.size ≤ 1500) : Ev fun k => cooperagelaw15_RecipeTurns.j0 k s true false = some true := by
  have hlen := len_data s
  by_cases h0 : s.data.toList = []
  · refine Ev.up (Ev.up ((turns_j2 s s hs (by rw [h0]; rfl)).mp fun k hk => ?_))
    simp only [cooperagelaw15_RecipeTurns.j0]
    rw [if_neg Bool.false_ne_true, Option.bind_some, if_pos (by rw [tl]; exact h0)]
    simp only [cooperagelaw15_RecipeTurns.j1]
    rw [if_neg Bool.false_ne_true]
    exact hk
  · have hpos := List.length_pos_iff.2 h0
    have hw : wrap64 ((s.size : Int) - 1) = ((s.data.toList.length - 1 : Nat) : Int) := by rw [w64 (by omega) (by omega)]; omega
    have hl := last_at s h0
    have hb := bt_nat s (s.data.toList.length - 1) (by omega)
    by_cases h10 : s.data.toList[s.data.toList.length - 1]'(by omega) = 10
    · have he : s.data.toList = endL s.data.toList := by unfold endL; rw [if_neg h0, if_pos (by rw [hl, h10])]
      refine Ev.up (Ev.up ((turns_j2 s s hs he).mp fun k hk => ?_))
      simp only [cooperagelaw15_RecipeTurns.j0]
      rw [if_neg Bool.false_ne_true, Option.bind_some, if_neg (by rw [tl]; exact h0), hw, if_pos (by omega), if_pos (by omega), hb, h10]
      simp only [cooperagelaw15_RecipeTurns.j1]
      rw [if_neg (by decide)]
      exact hk
    · have he : (s ++ (⟨#[10]⟩ : ByteArray)).data.toList = endL s.data.toList := by
        unfold endL
        rw [if_neg h0, if_neg (by rw [hl]; intro e; exact h10 (Option.some.inj e)), data_app]
      refine Ev.up (Ev.up ((turns_j2 s _ hs he).mp fun k hk => ?_))
      have hbn : (bt s ((s.data.toList.length - 1 : Nat) : Int) != 10) = true := by
        rw [hb]
        refine bne_iff_ne.2 fun e => h10 ?_
        have : (s.data.toList[s.data.toList.length - 1]'(by omega)).toNat = 10 := by omega
        exact UInt8.toNat_inj.1 this
      simp only [cooperagelaw15_RecipeTurns.j0]
      rw [if_neg Bool.false_ne_true, Option.bind_some, if_neg (by rw [tl]; exact h0), hw, if_pos (by omega), if_pos (by omega), hbn]
      simp only [cooperagelaw15_RecipeTurns.j1]
      rw [if_pos trivial, if_pos (by omega)]
      exact hk
theorem RecipeTurns : ∀ (s : ByteArray), s.size ≤ 140737488351232 → ∃ k, cooperagelaw15_RecipeTurns.f k s = some true := by
  intro s _
  by_cases hs : s.size ≤ 1500
  · refine ((turns_j0 s hs).mp fun k hk => ?_).get
    unfold cooperagelaw15_RecipeTurns.f
    rw [shown_f, Option.bind_some, if_pos rfl, decide_eq_false (by omega)]
    exact hk
  · refine (Ev.up (Ev.of fun k => ?_) : Ev fun k => cooperagelaw15_RecipeTurns.f k s = some true).get
    unfold cooperagelaw15_RecipeTurns.f
    rw [shown_f, Option.bind_some, if_pos rfl, decide_eq_true (by omega)]
    simp only [cooperagelaw15_RecipeTurns.j0]
    rw [if_pos trivial]
end Go.Proofs.YtnjjnfbkilgidaaDoor.Pure
