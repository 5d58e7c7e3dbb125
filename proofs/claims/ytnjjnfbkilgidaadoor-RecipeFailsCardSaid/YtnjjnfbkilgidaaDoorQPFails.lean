import Derived.Test.YtnjjnfbkilgidaaDoorQD
import Derived.KernelRfl
/- Plain: RecipeFails. -/
namespace Go.Proofs.YtnjjnfbkilgidaaDoor.Pure
open Go.RowKit Go.Proofs.YtnjjnfbkilgidaaDoor.Fr Go.Proofs.YtnjjnfbkilgidaaDoor.K Go.Proofs.YtnjjnfbkilgidaaDoorW.PrintWords
open Go.Proofs.YtnjjnfbkilgidaaDoor.Hand (joinV wordsV wordsGo linesV linesGo ba_ext)
set_option linter.unusedVariables false
set_option linter.unusedSimpArgs false
def nsB : ByteArray := ⟨#[110, 111, 110, 101, 47, 115, 117, 99, 104]⟩
def l1B : ByteArray := ⟨#[45, 102, 97, 105, 108]⟩
def l2B : ByteArray := ⟨#[64, 45, 114, 109, 32, 110, 111, 110, 101, 47, 115, 117, 99, 104]⟩
def l3B : ByteArray := ⟨#[45, 99, 111, 112, 121, 32, 110, 111, 110, 101, 47, 115, 117, 99, 104, 32, 116]⟩
def l4B : ByteArray := ⟨#[102, 97, 105, 108]⟩
def l5B : ByteArray := ⟨#[110, 111, 116, 104, 105, 110, 103, 32, 116]⟩
theorem w1 : wordsV l1B = [⟨#[45, 102, 97, 105, 108]⟩] := by kernel_rfl
theorem w2 : wordsV l2B = [⟨#[64, 45, 114, 109]⟩, nsB] := by kernel_rfl
theorem w3 : wordsV l3B = [⟨#[45, 99, 111, 112, 121]⟩, nsB, ⟨#[116]⟩] := by kernel_rfl
theorem w4 : wordsV l4B = [⟨#[102, 97, 105, 108]⟩] := by kernel_rfl
theorem w5 : wordsV l5B = [⟨#[110, 111, 116, 104, 105, 110, 103]⟩, ⟨#[116]⟩] := by kernel_rfl
theorem v1 : verbV (v0 [⟨#[45, 102, 97, 105, 108]⟩]) = ([102, 97, 105, 108], true) := by decide +kernel
theorem v2 : verbV (v0 [⟨#[64, 45, 114, 109]⟩, nsB]) = ([114, 109], true) := by decide +kernel
theorem v3 : verbV (v0 [⟨#[45, 99, 111, 112, 121]⟩, nsB, ⟨#[116]⟩]) = ([99, 111, 112, 121], true) := by decide +kernel
theorem v4 : verbV (v0 [⟨#[102, 97, 105, 108]⟩]) = ([102, 97, 105, 108], false) := by decide +kernel
theorem v5 : verbV (v0 [⟨#[110, 111, 116, 104, 105, 110, 103]⟩, ⟨#[116]⟩]) = ([110, 111, 116, 104, 105, 110, 103], false) := by decide +kernel
theorem r1 : rightV [⟨#[102, 97, 105, 108]⟩] = true := by decide +kernel
theorem r2 : rightV [⟨#[114, 109]⟩, nsB] = true := by decide +kernel
theorem r3 : rightV [⟨#[99, 111, 112, 121]⟩, nsB, ⟨#[116]⟩] = true := by decide +kernel
theorem r5 : rightV [⟨#[110, 111, 116, 104, 105, 110, 103]⟩, ⟨#[116]⟩] = false := by decide +kernel
theorem vv (b : ByteArray) (r : List ByteArray) : v0 (b :: r) = b.data.toList := by unfold v0; rw [tl]; rfl
theorem lay_bad (own : List Ob) (f : Int) (verb : List UInt8) (w : List ByteArray) (hf : 1 ≤ f) : layV own f true verb w (nilB, nilB, false) = (0, own, f - 1) := by
  unfold layV
  rw [if_pos (by rfl), if_neg (by decide), if_neg (by omega)]
theorem do1 (own : List Ob) (ins : List Fi) (f : Int) (hf : 1 ≤ f) : doV own ins f [⟨#[45, 102, 97, 105, 108]⟩] = (0, own, f - 1) := by
  have hc : cmdV [⟨#[45, 102, 97, 105, 108]⟩] = [⟨#[102, 97, 105, 108]⟩] := by unfold cmdV; rw [v1]; rfl
  have hl : laidV own ins [⟨#[102, 97, 105, 108]⟩] = (nilB, nilB, false) := by unfold laidV; rw [vv]; rfl
  unfold doV
  rw [v1, hc, if_neg (by rw [r1]; decide), hl, lay_bad _ _ _ _ hf]
theorem do2 (own : List Ob) (ins : List Fi) (f : Int) (hf : 1 ≤ f) : doV own ins f [⟨#[64, 45, 114, 109]⟩, nsB] = (0, if (findF own nsB).isSome = true then dropF own nsB else own, f - 1) := by
  have hc : cmdV [⟨#[64, 45, 114, 109]⟩, nsB] = [⟨#[114, 109]⟩, nsB] := by unfold cmdV; rw [v2]; rfl
  have hl : laidV own ins [⟨#[114, 109]⟩, nsB] = (nilB, nilB, (findF own nsB).isSome) := by unfold laidV; rw [vv]; rfl
  unfold doV
  rw [v2, hc, if_neg (by rw [r2]; decide), hl]
  cases (findF own nsB).isSome with
  | false => rw [lay_bad _ _ _ _ hf]; rfl
  | true =>
    unfold layV
    rw [if_neg (by decide), if_neg (by show ¬ f - (1 + ((0 : Nat) : Int) / 100) < 0; omega), if_pos rfl]
    simp only [if_pos nilB_list]
    rw [if_pos (by decide)]
    show ((0 : Int), _, f - (1 + ((0 : Nat) : Int) / 100)) = _
    congr 2
theorem do3 (own : List Ob) (ins : List Fi) (f : Int) (hf : 1 ≤ f) (h : fileV own ins nsB = none) : doV own ins f [⟨#[45, 99, 111, 112, 121]⟩, nsB, ⟨#[116]⟩] = (0, own, f - 1) := by
  have hc : cmdV [⟨#[45, 99, 111, 112, 121]⟩, nsB, ⟨#[116]⟩] = [⟨#[99, 111, 112, 121]⟩, nsB, ⟨#[116]⟩] := by unfold cmdV; rw [v3]; rfl
  have hl : laidV own ins [⟨#[99, 111, 112, 121]⟩, nsB, ⟨#[116]⟩] = (nilB, nilB, false) := by
    unfold laidV
    rw [vv]
    show (match fileV own ins nsB with | none => (nilB, nilB, false) | some s => _) = _
    rw [h]
  unfold doV
  rw [v3, hc, if_neg (by rw [r3]; decide), hl, lay_bad _ _ _ _ hf]
theorem do4 (own : List Ob) (ins : List Fi) (f : Int) : (doV own ins f [⟨#[102, 97, 105, 108]⟩]).1 = 11 := by
  have hc : cmdV [⟨#[102, 97, 105, 108]⟩] = [⟨#[102, 97, 105, 108]⟩] := by unfold cmdV; rw [v4]; rfl
  have hl : laidV own ins [⟨#[102, 97, 105, 108]⟩] = (nilB, nilB, false) := by unfold laidV; rw [vv]; rfl
  unfold doV
  rw [v4, hc, if_neg (by rw [r1]; decide), hl]
  rfl
theorem do5 (own : List Ob) (ins : List Fi) (f : Int) : (doV own ins f [⟨#[110, 111, 116, 104, 105, 110, 103]⟩, ⟨#[116]⟩]).1 = 2 := by
  have hc : cmdV [⟨#[110, 111, 116, 104, 105, 110, 103]⟩, ⟨#[116]⟩] = [⟨#[110, 111, 116, 104, 105, 110, 103]⟩, ⟨#[116]⟩] := by unfold cmdV; rw [v5]; rfl
  unfold doV
  rw [v5, hc, if_pos r5]
theorem find_drop (own : List Ob) (p t : ByteArray) : findF (dropF own p) t = if p.data.toList = t.data.toList then none else findF own t := by
  unfold findF dropF
  rw [List.find?_filter]
  by_cases h : p.data.toList = t.data.toList
  · rw [if_pos h, List.find?_eq_none]
    intro x _
    rw [h]
    simp
  · rw [if_neg h]
    congr 1
    funext x
    cases hq : x.f0.data.toList == t.data.toList with
    | false => exact decide_eq_false fun e => by cases e.2
    | true =>
      have e1 := beq_iff_eq.1 hq
      have : (x.f0.data.toList == p.data.toList) = false := beq_eq_false_iff_ne.2 fun e => h (e.symm.trans e1)
      exact decide_eq_true ⟨by rw [this]; rfl, rfl⟩
theorem script1 {ins : List Fi} {line : ByteArray} {own : List Ob} {f : Int} (ws : List ByteArray) (hw : wordsV line = ws) (hne : ws ≠ []) (he : (doV own ins f ws).1 ≠ 0) : (scriptV ins [line] own f).1 = (doV own ins f ws).1 := by
  rw [scriptV, hw, if_neg hne]
  generalize doV own ins f ws = D at he ⊢
  obtain ⟨e, o, f'⟩ := D
  simp only [if_neg he]
theorem end_err {t : ByteArray} {r : Int × List Ob × Int} (h : r.1 ≠ 0) : endV t r = (nilB, false, r.1) := by unfold endV; rw [if_neg h]
theorem step_of {ins : List Fi} {line : ByteArray} {r : List ByteArray} {own own' : List Ob} {f f' : Int} (ws : List ByteArray) (hw : wordsV line = ws) (hne : ws ≠ []) (hd : doV own ins f ws = (0, own', f')) : scriptV ins (line :: r) own f = scriptV ins r own' f' := by
  rw [scriptV, hw, if_neg hne, hd]
  rfl
/-- What the four runs come to. -/
theorem fails_plain (l : List ByteArray) (ins : List Fi) (hns : ∀ f ∈ ins, f.f0.toList ≠ nsB.toList) (t : ByteArray) (ht : t = ⟨#[116]⟩) :
    ((runV l ins t 9000).2.2 = 12) ∨
    ((runV l ins t 9000).2.2 ≠ 0 ∧ (runV l ins t 9000).2.1 = false ∧ (runV l ins t 9000).1 = nilB ∧ runV (l ++ [l1B, l2B, l3B]) ins t 9003 = runV l ins t 9000 ∧ runV (l ++ [l4B]) ins t 9001 = runV l ins t 9000 ∧ runV (l ++ [l5B]) ins t 9001 = runV l ins t 9000) ∨
    ((runV l ins t 9000).2.2 = 0 ∧ runV (l ++ [l1B, l2B, l3B]) ins t 9003 = runV l ins t 9000 ∧ runV (l ++ [l4B]) ins t 9001 = (nilB, false, 11) ∧ runV (l ++ [l5B]) ins t 9001 = (nilB, false, 2)) := by
  have e0 : max (-1 : Int) (min 9000 10000) = 9000 := by decide
  have e1 : max (-1 : Int) (min 9001 10000) = 9000 + 1 := by decide
  have e3 : max (-1 : Int) (min 9003 10000) = 9000 + 3 := by decide
  have hf1 := scriptV_fuel ins 1 (by decide) l [] 9000
  have hf3 := scriptV_fuel ins 3 (by decide) l [] 9000
  have hp := scriptV_pos ins l [] 9000 (by decide)
  unfold runV
  rw [e0, e1, e3, scriptV_app, scriptV_app, scriptV_app]
  generalize scriptV ins l [] 9000 = r at hf1 hf3 hp ⊢
  obtain ⟨E, own, f⟩ := r
  simp only at hf1 hf3 hp
  by_cases h12 : E = 12
  · refine .inl ?_
    rw [end_err (by show E ≠ 0; omega)]
    exact h12
  · refine .inr ?_
    rw [hf1 h12, hf3 h12]
    by_cases h0 : E = 0
    · refine .inr ?_
      subst h0
      have hpos := hp rfl
      simp only [if_pos]
      have hfind : ∀ own', (own' = if (findF own nsB).isSome = true then dropF own nsB else own) → findF own' t = findF own t ∧ findF own' nsB = none := by
        intro own' he
        subst he
        cases hs : findF own nsB with
        | none => rw [if_neg (by simp)]; exact ⟨rfl, hs⟩
        | some g =>
          show findF (dropF own nsB) t = findF own t ∧ findF (dropF own nsB) nsB = none
          rw [find_drop, find_drop, if_pos rfl, if_neg (by rw [ht]; decide)]
          exact ⟨rfl, rfl⟩
      obtain ⟨own', ho⟩ : ∃ own', own' = if (findF own nsB).isSome = true then dropF own nsB else own := ⟨_, rfl⟩
      obtain ⟨k1, k2⟩ := hfind own' ho
      have hfile : fileV own' ins nsB = none := by
        unfold fileV inV
        rw [k2]
        show (ins.find? fun f => f.f0.toList == nsB.toList).map (·.f1) = none
        rw [List.find?_eq_none.2 (fun f hf => by simpa using hns f hf)]
        rfl
      have s3 : scriptV ins [l1B, l2B, l3B] own (f + 3) = (0, own', f + 3 - 1 - 1 - 1) := by
        rw [step_of _ w1 (by simp) (do1 own ins (f + 3) (by omega)), step_of _ w2 (by simp) (do2 own ins (f + 3 - 1) (by omega)), ← ho, step_of _ w3 (by simp) (do3 own' ins (f + 3 - 1 - 1) (by omega) hfile), scriptV]
      have s4 := script1 (ins := ins) (own := own) (f := f + 1) _ w4 (by simp) (by rw [do4]; decide)
      have s5 := script1 (ins := ins) (own := own) (f := f + 1) _ w5 (by simp) (by rw [do5]; decide)
      rw [do4] at s4
      rw [do5] at s5
      rw [s3, end_err (r := scriptV ins [l4B] own (f + 1)) (by rw [s4]; decide), end_err (r := scriptV ins [l5B] own (f + 1)) (by rw [s5]; decide), s4, s5]
      refine ⟨?_, ?_, rfl, rfl⟩
      · unfold endV
        rw [if_pos rfl]
        cases findF (0, own, f).2.1 t <;> rfl
      · unfold endV
        rw [if_pos rfl, if_pos rfl]
        dsimp only
        rw [k1]
    · refine .inl ?_
      simp only [if_neg h0]
      rw [end_err (r := (E, own, f)) h0, end_err (r := (E, own, f + 3)) h0, end_err (r := (E, own, f + 1)) h0]
      exact ⟨h0, rfl, rfl, rfl, rfl, rfl⟩
end Go.Proofs.YtnjjnfbkilgidaaDoor.Pure
