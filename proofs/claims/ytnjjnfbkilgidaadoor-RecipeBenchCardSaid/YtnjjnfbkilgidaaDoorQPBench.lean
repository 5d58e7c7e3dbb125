import Derived.Test.YtnjjnfbkilgidaaDoorQD
import Derived.Test.YtnjjnfbkilgidaaDoorQK8
/- Plain: RecipeBench. -/
namespace Go.Proofs.YtnjjnfbkilgidaaDoor.Pure
open Go.RowKit Go.Proofs.YtnjjnfbkilgidaaDoor.Fr Go.Proofs.YtnjjnfbkilgidaaDoor.K Go.Proofs.YtnjjnfbkilgidaaDoorW.PrintWords
open Go.Proofs.YtnjjnfbkilgidaaDoor.Hand (joinV wordsV wordsGo blank linesV linesGo ba_ext)
set_option linter.unusedVariables false
set_option linter.unusedSimpArgs false
/-- What is told is short, and nothing is told of what is no path. -/
theorem run_told (l : List ByteArray) (ins : List Fi) (t : ByteArray) (fuel : Int) : (runV l ins t fuel).1.size ≤ 4000 ∧ (pathV t = false → (runV l ins t fuel).2.1 = false) ∧ ((runV l ins t fuel).2.2 ≠ 0 → (runV l ins t fuel).1 = nilB ∧ (runV l ins t fuel).2.1 = false) := by
  have ho := scriptV_own (fun _ => True) ins l [] (max (-1) (min fuel 10000)) (fun f h => by cases h) (fun _ _ _ _ => trivial)
  unfold runV
  generalize scriptV ins l [] (max (-1) (min fuel 10000)) = r at ho ⊢
  unfold endV
  by_cases h0 : r.1 = 0
  · rw [if_pos h0]
    cases hf : findF r.2.1 t with
    | none => exact ⟨(Nat.zero_le 4000 : (0 : Nat) ≤ 4000), fun _ => rfl, fun h => absurd rfl h⟩
    | some f =>
      obtain ⟨hm, he⟩ := findF_mem hf
      obtain ⟨h1, _, h2⟩ := ho f hm
      refine ⟨h2, fun hp => ?_, fun h => absurd rfl h⟩
      have : f.f0 = t := ba_ext he
      rw [this, hp] at h1
      cases h1
  · rw [if_neg h0]
    exact ⟨(Nat.zero_le 4000 : (0 : Nat) ≤ 4000), fun _ => rfl, fun _ => ⟨rfl, rfl⟩⟩
theorem run_err (l : List ByteArray) (ins : List Fi) (t u : ByteArray) (fuel : Int) : (runV l ins t fuel).2.2 = (runV l ins u fuel).2.2 := by
  unfold runV endV
  generalize scriptV ins l [] (max (-1) (min fuel 10000)) = r
  by_cases h0 : r.1 = 0
  · rw [if_pos h0, if_pos h0]
    cases findF r.2.1 t <;> cases findF r.2.1 u <;> rfl
  · rw [if_neg h0, if_neg h0]
theorem bench_l0 (l : List ByteArray) (ins : List Fi) (t : ByteArray) (hl : l.length ≤ 30) (hs : ∀ s ∈ l, s.size ≤ 5000) (hi : ins.length ≤ 12) (hy : ∀ f ∈ ins, f.f1.size ≤ 5000) (ht : t.size ≤ 200) (r : ByteArray × Bool × Int) (hr : r = runV l ins t 9000) :
    ∀ (n i : Nat), i + n = ins.length → Ev fun k => cooperagelaw15_RecipeBench.l0 k l ins t ins r.1 r.2.1 r.2.2 r.1 r.2.1 r.2.2 (i : Int) = some true := by
  intro n
  induction n with
  | zero =>
    intro i hi'
    refine Ev.up (Ev.of fun k => ?_)
    have hts : (t ++ (⟨#[47]⟩ : ByteArray)).size = t.size + 1 := by rw [ByteArray.size_append]; rfl
    have hr1 := run_ok l ins (t ++ (⟨#[47]⟩ : ByteArray)) 9000 (by omega) (fun s h => Nat.le_trans (hs s h) (by decide)) (by omega) (fun f h => Nat.le_trans (hy f h) (by decide)) (by omega)
    have h1 := run_told l ins t 9000
    have h2 := (run_told l ins (t ++ (⟨#[47]⟩ : ByteArray)) 9000).2.1 (path_end t)
    have h3 := run_err l ins (t ++ (⟨#[47]⟩ : ByteArray)) t 9000
    rw [← hr] at h1 h3
    generalize runV l ins (t ++ (⟨#[47]⟩ : ByteArray)) 9000 = q at hr1 h2 h3
    obtain ⟨q1, q2, q3⟩ := q
    obtain ⟨r1, r2, r3⟩ := r
    simp only at h1 h2 h3 ⊢
    subst h2 h3
    simp only [cooperagelaw15_RecipeBench.l0]
    rw [if_neg (by omega), if_pos (by omega), hr1, Option.bind_some, if_pos trivial, if_pos (by simp), if_pos trivial]
    have hz : decide ((r1.size : Int) ≤ 4000) = true := decide_eq_true (by have := h1.1; omega)
    by_cases h0 : q3 = 0
    · rw [if_pos h0, if_neg Bool.false_ne_true, if_pos (by simp), hz]
    · obtain ⟨e1, e2⟩ := h1.2.2 h0
      rw [if_neg h0, if_pos (by rw [e1, tl]; rfl), if_neg (by rw [e2]; exact Bool.false_ne_true), if_neg Bool.false_ne_true, if_pos (by simp), hz]
  | succ n ih =>
    intro i hi'
    refine Ev.up ((ih (i + 1) (by omega)).mp fun k hk => ?_)
    simp only [cooperagelaw15_RecipeBench.l0]
    rw [if_pos (by omega), if_pos (by omega), if_pos (by omega), if_neg (by simp), w64s i (by omega)]
    exact hk
theorem RecipeBench : ∀ (l : List ByteArray) (ins : List Fi) (t : ByteArray), t.size ≤ 140737488351232 → ∃ k, cooperagelaw15_RecipeBench.f k l ins t = some true := by
  intro l ins t _
  have hj : ∀ b, (b = false → shortB l = true ∧ smallB ins = true ∧ t.size ≤ 200) → Ev fun k => cooperagelaw15_RecipeBench.j0 k l ins t true b = some true := by
    intro b hb
    cases b with
    | true =>
      refine Ev.up (Ev.of fun k => ?_)
      simp only [cooperagelaw15_RecipeBench.j0]
      rw [if_pos trivial]
    | false =>
      obtain ⟨h1, h2, h3⟩ := hb rfl
      obtain ⟨a1, a2⟩ := shortB_get h1
      obtain ⟨b1, b2⟩ := smallB_get h2
      have hr1 := run_ok l ins t 9000 (by omega) (fun s h => Nat.le_trans (a2 s h) (by decide)) (by omega) (fun f h => Nat.le_trans (b2 f h).1 (by decide)) (by omega)
      refine Ev.up ((bench_l0 l ins t a1 a2 b1 (fun f h => (b2 f h).1) h3 _ rfl ins.length 0 (by omega)).mp fun k hk => ?_)
      simp only [cooperagelaw15_RecipeBench.j0]
      rw [if_neg (by decide), Option.bind_some, if_pos (by simp only [List.length_nil]; omega), hr1, Option.bind_some, Option.bind_some, List.nil_append]
      exact hk
  refine (((short_f l).and ((small_f ins).and ((hj true (by simp)).and (hj (!(shortB l && smallB ins && decide (t.size ≤ 200))) fun h => ?_)))).mp fun k h => ?_).get
  · simp only [Bool.not_eq_false', Bool.and_eq_true, decide_eq_true_eq] at h
    exact ⟨h.1.1, h.1.2, h.2⟩
  · obtain ⟨e1, e2, e3, e4⟩ := h
    unfold cooperagelaw15_RecipeBench.f
    rw [shown_f, Option.bind_some, e1, Option.bind_some, e2, Option.bind_some, if_pos rfl]
    cases hs : shortB l with
    | false => rw [if_neg (by decide)]; exact e3
    | true =>
      rw [if_pos rfl]
      cases hm : smallB ins with
      | false => rw [if_neg (by decide)]; exact e3
      | true =>
        rw [if_pos rfl]
        rw [hs, hm] at e4
        by_cases ht : t.size ≤ 200
        · rw [decide_eq_false (by omega)]; simpa [ht] using e4
        · rw [decide_eq_true (by omega)]; exact e3
end Go.Proofs.YtnjjnfbkilgidaaDoor.Pure
