import Derived.Test.YtnjjnfbkilgidaaDoorQD
import Derived.Test.YtnjjnfbkilgidaaDoorQK4
/- Plain: RecipeOnly. -/
namespace Go.Proofs.YtnjjnfbkilgidaaDoor.Pure
open Go.RowKit Go.Proofs.YtnjjnfbkilgidaaDoor.Fr Go.Proofs.YtnjjnfbkilgidaaDoor.K Go.Proofs.YtnjjnfbkilgidaaDoorW.PrintWords
open Go.Proofs.YtnjjnfbkilgidaaDoor.Hand (joinV wordsV wordsGo blank linesV linesGo ba_ext)
set_option linter.unusedVariables false
set_option linter.unusedSimpArgs false
def nw : List UInt8 := [110, 111, 119, 104, 101, 114, 101]
theorem only_same (l : List ByteArray) (ins : List Fi) (t x : ByteArray) (f : Int) (hn : ∀ s ∈ l, ¬ nw <:+: s.data.toList) : runV l (⟨⟨#[110, 111, 119, 104, 101, 114, 101]⟩, x⟩ :: ins) t f = runV l ins t f := by
  unfold runV
  rw [scriptV_cons ins _ (by rw [tl]; exact List.cons_ne_nil _ _) l [] _ fun s hs y hy h => hn s hs (by
    have := wordsV_infix s y hy
    rw [← tl y, ← h, tl] at this
    exact this)]
theorem only_more (l : List ByteArray) (ins : List Fi) (t : ByteArray) (h : (runV l ins t 9000).2.2 ≠ 12) : runV l ins t 10000 = runV l ins t 9000 := by
  have he : ∀ r : Int × List Ob × Int, (endV t r).2.2 = r.1 := fun r => by
    unfold endV
    split
    · next h => cases findF r.2.1 t <;> exact h.symm
    · rfl
  unfold runV at h ⊢
  rw [he] at h
  have e1 : max (-1 : Int) (min 9000 10000) = 9000 := by decide
  have e2 : max (-1 : Int) (min 10000 10000) = 9000 + 1000 := by decide
  rw [e1] at h ⊢
  rw [e2, scriptV_fuel ins 1000 (by decide) l [] 9000 h]
  rfl
theorem only_end (l : List ByteArray) (ins : List Fi) (t x : ByteArray) (hl : l.length ≤ 30) (hs : ∀ s ∈ l, s.size ≤ 5000) (hi : ins.length ≤ 12) (hy : ∀ f ∈ ins, f.f1.size ≤ 5000) (ht : t.size ≤ 200) (hx : x.size ≤ 500) (hn : ∀ s ∈ l, ¬ nw <:+: s.data.toList) (i : Int) (hle : ¬ i < (l.length : Int)) : Ev fun k => cooperagelaw15_RecipeOnly.l0 k l ins t x i = some true := by
  refine Ev.up (Ev.of fun k => ?_)
  simp only [cooperagelaw15_RecipeOnly.l0]
  have hr1 := run_ok l ins t 9000 (by omega) (fun s h => Nat.le_trans (hs s h) (by decide)) (by omega) (fun f h => Nat.le_trans (hy f h) (by decide)) (by omega)
  have hr3 := run_ok l ins t 10000 (by omega) (fun s h => Nat.le_trans (hs s h) (by decide)) (by omega) (fun f h => Nat.le_trans (hy f h) (by decide)) (by omega)
  have hr2 := run_ok l (⟨⟨#[110, 111, 119, 104, 101, 114, 101]⟩, x⟩ :: ins) t 9000 (by omega) (fun s h => Nat.le_trans (hs s h) (by decide)) (by simp only [List.length_cons]; omega) (fun f h => by
    rcases List.mem_cons.1 h with h | h
    · rw [h]; exact Nat.le_trans hx (by decide)
    · exact Nat.le_trans (hy f h) (by decide)) (by omega)
  rw [only_same l ins t x 9000 hn] at hr2
  have hm := only_more l ins t
  rw [if_neg hle, hr1, Option.bind_some, Option.bind_some, if_pos (by simp only [List.length_cons, List.length_nil]; omega), List.singleton_append, hr2, Option.bind_some, hr3, Option.bind_some]
  generalize runV l ins t 9000 = r at hm ⊢
  rw [if_pos rfl, if_pos (by simp), if_pos rfl]
  by_cases h : r.2.2 = 12
  · rw [if_pos h]
  · rw [if_neg h, hm h, if_pos rfl, if_pos (by simp), beq_self_eq_true]
theorem only_l1 (l : List ByteArray) (ins : List Fi) (t x : ByteArray) (i : Nat) (hi : i < l.length) (hs : l[i].size ≤ 5000) (hnext : ¬ nw <:+: l[i].data.toList → Ev fun k => cooperagelaw15_RecipeOnly.l0 k l ins t x ((i + 1 : Nat) : Int) = some true) (hil : l.length ≤ 30) :
    ∀ (n j : Nat), j + n = l[i].size + 1 → (∀ q, q < j → ¬ (q + 7 ≤ l[i].size ∧ (l[i].data.toList.take (q + 7)).drop q = nw)) → Ev fun k => cooperagelaw15_RecipeOnly.l1 k l ins t x (i : Int) (j : Int) = some true := by
  have hr := rdo hi
  have hnone : ∀ j, l[i].size ≤ j + 6 → (∀ q, q < j → ¬ (q + 7 ≤ l[i].size ∧ (l[i].data.toList.take (q + 7)).drop q = nw)) → ¬ nw <:+: l[i].data.toList := fun j hj hq h => by
    obtain ⟨p, h1, h2⟩ := infix_at h
    rw [len_data] at h1
    have h7 : nw.length = 7 := rfl
    rw [h7] at h1 h2
    exact hq p (by omega) ⟨h1, h2⟩
  intro n
  induction n with
  | zero =>
    intro j hj hq
    refine Ev.up ((hnext (hnone j (by omega) hq)).mp fun k hk => ?_)
    simp only [cooperagelaw15_RecipeOnly.l1]
    rw [if_pos (by omega), if_pos (by omega), hr, w64 (by omega) (by omega), if_neg (by omega), w64s i (by omega)]
    exact hk
  | succ n ih =>
    intro j hj hq
    by_cases h7 : j + 7 ≤ l[i].size
    · have hseg := seg_at l[i] j (j + 7)
      by_cases hh : (l[i].data.toList.take (j + 7)).drop j = nw
      · refine Ev.up (Ev.of fun k => ?_)
        simp only [cooperagelaw15_RecipeOnly.l1]
        have e7 : ((j : Int) + 7).toNat = j + 7 := by omega
        rw [if_pos (by omega), if_pos (by omega), hr, w64 (by omega) (by omega), if_pos (by omega), if_pos (by omega), if_pos (by omega), Int.toNat_natCast, e7, if_pos (by rw [hseg]; exact hh)]
      · refine Ev.up ((ih (j + 1) (by omega) fun q hq1 => ?_).mp fun k hk => ?_)
        · by_cases e : q = j
          · subst e; exact fun h => hh h.2
          · exact hq q (by omega)
        · simp only [cooperagelaw15_RecipeOnly.l1]
          have e7 : ((j : Int) + 7).toNat = j + 7 := by omega
          rw [if_pos (by omega), if_pos (by omega), hr, w64 (by omega) (by omega), if_pos (by omega), if_pos (by omega), if_pos (by omega), Int.toNat_natCast, e7, if_neg (by rw [hseg]; exact hh), w64s j (by omega)]
          exact hk
    · refine Ev.up ((hnext (hnone j (by omega) hq)).mp fun k hk => ?_)
      simp only [cooperagelaw15_RecipeOnly.l1]
      rw [if_pos (by omega), if_pos (by omega), hr, w64 (by omega) (by omega), if_neg (by omega), w64s i (by omega)]
      exact hk
theorem only_l0 (l : List ByteArray) (ins : List Fi) (t x : ByteArray) (hl : l.length ≤ 30) (hs : ∀ s ∈ l, s.size ≤ 5000) (hi : ins.length ≤ 12) (hy : ∀ f ∈ ins, f.f1.size ≤ 5000) (ht : t.size ≤ 200) (hx : x.size ≤ 500) :
    ∀ (n i : Nat), i + n = l.length → (∀ s ∈ l.take i, ¬ nw <:+: s.data.toList) → Ev fun k => cooperagelaw15_RecipeOnly.l0 k l ins t x (i : Int) = some true := by
  intro n
  induction n with
  | zero =>
    intro i hi' hn
    rw [List.take_of_length_le (by omega)] at hn
    exact only_end l ins t x hl hs hi hy ht hx hn _ (by omega)
  | succ n ih =>
    intro i hi' hn
    have hlt : i < l.length := by omega
    refine Ev.up ((only_l1 l ins t x i hlt (hs _ (List.getElem_mem hlt)) (fun hno => ih (i + 1) (by omega) fun s h => ?_) hl (l[i].size + 1) 0 (by omega) (fun q hq => absurd hq (by omega))).mp fun k hk => ?_)
    · rw [List.take_succ_eq_append_getElem hlt] at h
      rcases List.mem_append.1 h with h | h
      · exact hn s h
      · rw [List.mem_singleton.1 h]; exact hno
    · simp only [cooperagelaw15_RecipeOnly.l0]
      rw [if_pos (by omega)]
      exact hk
theorem RecipeOnly : ∀ (l : List ByteArray) (ins : List Fi) (t : ByteArray), t.size ≤ 140737488351232 → ∀ (x : ByteArray), x.size ≤ 140737488351232 → ∃ k, cooperagelaw15_RecipeOnly.f k l ins t x = some true := by
  intro l ins t _ x _
  have hj : ∀ b, (b = false → shortB l = true ∧ smallB ins = true ∧ t.size ≤ 200 ∧ x.size ≤ 500) → Ev fun k => cooperagelaw15_RecipeOnly.j0 k l ins t x true b = some true := by
    intro b hb
    cases b with
    | true =>
      refine Ev.up (Ev.of fun k => ?_)
      simp only [cooperagelaw15_RecipeOnly.j0]
      rw [if_pos trivial]
    | false =>
      obtain ⟨h1, h2, h3, h4⟩ := hb rfl
      obtain ⟨a1, a2⟩ := shortB_get h1
      obtain ⟨b1, b2⟩ := smallB_get h2
      refine Ev.up ((only_l0 l ins t x a1 a2 b1 (fun f h => (b2 f h).1) h3 h4 l.length 0 (by omega) (fun s h => by simp at h)).mp fun k hk => ?_)
      simp only [cooperagelaw15_RecipeOnly.j0]
      rw [if_neg (by decide)]
      exact hk
  refine (((short_f l).and ((small_f ins).and ((hj true (by simp)).and (hj (!(shortB l && smallB ins && decide (t.size ≤ 200) && decide (x.size ≤ 500))) fun h => ?_)))).mp fun k h => ?_).get
  · simp only [Bool.not_eq_false', Bool.and_eq_true, decide_eq_true_eq] at h
    exact ⟨h.1.1.1, h.1.1.2, h.1.2, h.2⟩
  · obtain ⟨e1, e2, e3, e4⟩ := h
    unfold cooperagelaw15_RecipeOnly.f
    rw [shown_f, Option.bind_some, e1, Option.bind_some, e2, Option.bind_some, if_pos rfl]
    cases hs : shortB l with
    | false => rw [if_neg (by decide)]; exact e3
    | true =>
      rw [if_pos rfl]
      cases hm : smallB ins with
      | false => rw [if_neg (by decide)]; exact e3
      | true =>
        rw [if_pos rfl]
        rw [hs, hm] at e4
        by_cases ht : t.size ≤ 200
        · rw [if_neg (by omega)]
          by_cases hx : x.size ≤ 500
          · rw [decide_eq_false (by omega)]; simpa [ht, hx] using e4
          · rw [decide_eq_true (by omega)]; exact e3
        · rw [if_pos (by omega)]; exact e3
end Go.Proofs.YtnjjnfbkilgidaaDoor.Pure
