import Derived.Test.YtjaghgelmlcplaaPureRing
import Derived.Test.YtjaghgelmlcplaaNoneD
/- Plain: those who wait for greater ones alone, and one edge back. -/
namespace Go.Proofs.Ytjaghgelmlcplaa.Pure
open Go.RowKit Go.Proofs.Ytjaghgelmlcplaa.P Go.Proofs.Ytjaghgelmlcplaa.N Go.Proofs.Ytjaghgelmlcplaa.Hand Go.Proofs.Ytjaghgelmlcplaa.Way Go.Proofs.YtjaghgelmlcplaaW.PrintWords
attribute [local instance] Classical.propDecidable
set_option linter.unusedVariables false
set_option linter.unusedSimpArgs false
theorem leads_up {up : List (Int × Int)} (h : ∀ e ∈ up, e.1 < e.2) {a b : Int} (hl : Leads up a b) : a < b := by
  induction hl with
  | one e => exact h _ e
  | more _ e ih => have := h _ e; simp only at this; omega
theorem leads_both {up : List (Int × Int)} {f t a b : Int} (hl : Leads (up ++ [(t, f)]) a b) : Leads up a b ∨ ((a = t ∨ Leads up a t) ∧ (b = f ∨ Leads up f b)) := by
  induction hl with
  | one e =>
    rcases List.mem_append.1 e with e | e
    · exact .inl (.one e)
    · have := List.mem_singleton.1 e
      injection this with e1 e2
      exact .inr ⟨.inl e1, .inl e2⟩
  | more _ e ih =>
    rcases List.mem_append.1 e with e | e
    · rcases ih with ih | ⟨h1, h2⟩
      · exact .inl (.more ih e)
      · refine .inr ⟨h1, .inr ?_⟩
        rcases h2 with h2 | h2
        · rw [h2] at e; exact .one e
        · exact .more h2 e
    · have := List.mem_singleton.1 e
      injection this with e1 e2
      rcases ih with ih | ⟨h1, h2⟩
      · rw [e1] at ih; exact .inr ⟨.inr ih, .inl e2⟩
      · exact .inr ⟨h1, .inl e2⟩
/-- Those of the edges that rise. -/
def rise (l : List S43) : List S43 := l.filter fun e => decide (e.f0 < e.f1)
theorem rise_up (l : List S43) : ∀ e ∈ es (rise l), e.1 < e.2 := by
  intro e he
  obtain ⟨x, hx, rfl⟩ := List.mem_map.1 he
  exact of_decide_eq_true (List.mem_filter.1 hx).2
theorem rise_len (l : List S43) : (rise l).length ≤ l.length := List.length_filter_le _ _
theorem rise_wf {l : List S43} (h : Wf l) : Wf (rise l) := fun e he => h e (List.mem_filter.1 he).1
theorem rings_none (l : List S43) : rings (rise l) = [] := by
  have h := (rings_spec (rise l)).2
  cases hr : rings (rise l) with
  | nil => rfl
  | cons x t =>
    have hx := (h x).1 (by rw [hr]; exact List.mem_cons_self)
    have := leads_up (rise_up l) hx
    omega
/-- The edges with one back. -/
def backed (l : List S43) (x : S43) : List S43 := rise l ++ [⟨x.f1, x.f0⟩]
theorem backed_es (l : List S43) (x : S43) : es (backed l x) = es (rise l) ++ [(x.f1, x.f0)] := by unfold backed es; rw [List.map_append]; rfl
theorem ring_in (l : List S43) (x : S43) (hx : x ∈ rise l) : ∀ v ∈ rings (backed l x), x.f0 ≤ v ∧ v ≤ x.f1 ∧ (v ≠ x.f0 → Leads (es (rise l)) x.f0 v) ∧ (v ≠ x.f1 → Leads (es (rise l)) v x.f1) := by
  intro v hv
  have h := ((rings_spec (backed l x)).2 v).1 hv
  rw [backed_es] at h
  rcases leads_both h with h | ⟨h1, h2⟩
  · have := leads_up (rise_up l) h; omega
  · have a1 : v ≤ x.f1 := by
      rcases h1 with h1 | h1
      · omega
      · have := leads_up (rise_up l) h1; omega
    have a2 : x.f0 ≤ v := by
      rcases h2 with h2 | h2
      · omega
      · have := leads_up (rise_up l) h2; omega
    exact ⟨a2, a1, fun hne => h2.resolve_left hne, fun hne => h1.resolve_left hne⟩
theorem ring_two (l : List S43) (x : S43) (hx : x ∈ rise l) : 2 ≤ (rings (backed l x)).length := by
  have hlt : x.f0 < x.f1 := of_decide_eq_true (List.mem_filter.1 hx).2
  have hs := (rings_spec (backed l x)).2
  have e1 : (x.f0, x.f1) ∈ es (backed l x) := by
    rw [backed_es]
    exact List.mem_append_left _ (List.mem_map.2 ⟨x, hx, rfl⟩)
  have e2 : (x.f1, x.f0) ∈ es (backed l x) := by
    rw [backed_es]
    exact List.mem_append_right _ (List.mem_singleton.2 rfl)
  have m1 := (hs x.f0).2 (.more (.one e1) e2)
  have m2 := (hs x.f1).2 (.more (.one e2) e1)
  match h : rings (backed l x) with
  | [] => rw [h] at m1; cases m1
  | [a] =>
    rw [h] at m1 m2
    have q1 := List.mem_singleton.1 m1
    have q2 := List.mem_singleton.1 m2
    omega
  | a :: b :: r => simp
theorem none_l1 (l : List S43) (x : S43) (hx : x ∈ rise l) (hw : Wf (rise l)) (hl : l.length ≤ 40) (hr : (rings (backed l x)).length ≤ 1000) : ∀ (n i : Nat), i + n = (rings (backed l x)).length → Ev fun k => cooperagelaw17_WaitNone.l1 k (rise l) (rings (backed l x)) (i : Int) x.f0 x.f1 = some true := by
  have h2 := ring_two l x hx
  have hin := ring_in l x hx
  have hrl := rise_len l
  generalize rings (backed l x) = r at hr h2 hin
  intro n
  induction n with
  | zero =>
    intro i hi
    refine Ev.up (Ev.of fun k => ?_)
    simp only [cooperagelaw17_WaitNone.l1]
    rw [if_neg (by omega), decide_eq_true (by omega)]
  | succ n ih =>
    intro i hi
    have hlt : i < r.length := by omega
    have hrd := rd_at hlt
    obtain ⟨g1, g2, g3, g4⟩ := hin r[i] (List.getElem_mem hlt)
    refine Ev.up ((ih (i + 1) (by omega)).mp fun k hk => ?_)
    simp only [cooperagelaw17_WaitNone.l1]
    rw [if_pos (by omega), if_pos (by omega), hrd, if_neg (by omega), if_neg (by omega), w64s i (by omega)]
    by_cases e0 : r[i] = x.f0
    · rw [if_pos e0]; exact hk
    · rw [if_neg e0, reaches_ok _ hw (by omega), Option.bind_some, if_pos (decide_eq_true (g3 e0))]
      by_cases e1 : r[i] = x.f1
      · rw [if_pos e1]; exact hk
      · rw [if_neg e1, reaches_ok _ hw (by omega), Option.bind_some, if_pos (decide_eq_true (g4 e1))]; exact hk
theorem pick_ok (c : Int) (hc : (Lit.int .i64 c).wf = true) (n : Nat) (h0 : 0 < n) (hn : n ≤ 1000) : ∃ j : Nat, j < n ∧ cooperagelaw17_pick.f c (n : Int) = some (j : Int) := by
  have hb : -9223372036854775808 ≤ c ∧ c ≤ 9223372036854775807 := by
    have h2 : (decide (IntKind.i64.min ≤ c) && decide (c ≤ IntKind.i64.max)) = true := hc
    rw [Bool.and_eq_true, decide_eq_true_eq, decide_eq_true_eq] at h2
    exact h2
  unfold cooperagelaw17_pick.f
  by_cases hneg : c < 0
  · refine ⟨((-(c + 1)) % (n : Int)).toNat, by have := Int.emod_lt_of_pos (-(c + 1)) (show (0 : Int) < n by omega); have := Int.emod_nonneg (-(c + 1)) (show (n : Int) ≠ 0 by omega); omega, ?_⟩
    rw [if_pos hneg, if_neg (by omega), w64 (x := c + 1) (by omega) (by omega), w64 (by omega) (by omega), Int.tmod_eq_emod_of_nonneg (by omega)]
    have := Int.emod_nonneg (-(c + 1)) (show (n : Int) ≠ 0 by omega)
    congr 1
    omega
  · refine ⟨(c % (n : Int)).toNat, by have := Int.emod_lt_of_pos c (show (0 : Int) < n by omega); have := Int.emod_nonneg c (show (n : Int) ≠ 0 by omega); omega, ?_⟩
    rw [if_neg hneg, if_neg (by omega), Int.tmod_eq_emod_of_nonneg (by omega)]
    have := Int.emod_nonneg c (show (n : Int) ≠ 0 by omega)
    congr 1
    omega
theorem none_j2 (l : List S43) (hw : Wf l) (hl : l.length ≤ 40) (c : Int) (hc : (Lit.int .i64 c).wf = true) : Ev fun k => cooperagelaw17_WaitNone.j2 k c (rise l) false = some true := by
  have hrl := rise_len l
  have hwr := rise_wf hw
  by_cases h0 : (rise l).length = 0
  · refine Ev.up (Ev.of fun k => ?_)
    simp only [cooperagelaw17_WaitNone.j2]
    rw [if_neg Bool.false_ne_true, if_pos (by omega)]
  · obtain ⟨j, hj, hp⟩ := pick_ok c hc (rise l).length (by omega) (by omega)
    have hm : (rise l)[j] ∈ rise l := List.getElem_mem hj
    have hrd := rd43 hj
    generalize hx : (rise l)[j] = x at hm hrd
    have hbl : (backed l x).length = (rise l).length + 1 := by unfold backed; rw [List.length_append]; rfl
    have hwb : Wf (backed l x) := fun e he => by
      rcases List.mem_append.1 he with he | he
      · exact hwr e he
      · rw [List.mem_singleton.1 he]; exact ⟨(hwr x hm).2, (hwr x hm).1⟩
    have hlen := rings_len (backed l x)
    refine Ev.up ((none_l1 l x hm hwr hl (by omega) (rings (backed l x)).length 0 (by omega)).mp fun k hk => ?_)
    simp only [cooperagelaw17_WaitNone.j2]
    rw [if_neg Bool.false_ne_true, if_neg (by omega), hp, Option.bind_some, if_pos (by omega), if_pos (by omega), Option.bind_some, if_pos (by simp only [List.length_nil]; omega), Option.bind_some, Option.bind_some, List.nil_append, hrd,
      if_pos (by simp only [List.length_cons, List.length_nil]; omega)]
    rw [show rise l ++ [(⟨x.f1, x.f0⟩ : S43)] = backed l x from rfl, rings_ok _ hwb (by omega), Option.bind_some]
    exact hk
theorem none_l0 (l : List S43) (hw : Wf l) (hl : l.length ≤ 40) (c : Int) (hc : (Lit.int .i64 c).wf = true) : ∀ (n i : Nat), i + n = l.length → Ev fun k => cooperagelaw17_WaitNone.l0 k l c (rise (l.take i)) (i : Int) = some true := by
  intro n
  induction n with
  | zero =>
    intro i hi
    refine Ev.up ((none_j2 l hw hl c hc).mp fun k hk => ?_)
    have hrl := rise_len l
    simp only [cooperagelaw17_WaitNone.l0]
    rw [List.take_of_length_le (by omega), if_neg (by omega), rings_ok _ (rise_wf hw) (by omega), Option.bind_some, rings_none, if_pos (by simp), victim_ok _ (rise_wf hw) (by omega) _ (by simp), Option.bind_some, rings_none]
    exact hk
  | succ n ih =>
    intro i hi
    have hlt : i < l.length := by omega
    have hrd := rd43 hlt
    have hrl := rise_len (l.take i)
    rw [List.length_take] at hrl
    have hstep : rise (l.take (i + 1)) = if l[i].f0 < l[i].f1 then rise (l.take i) ++ [l[i]] else rise (l.take i) := by
      unfold rise
      rw [List.take_succ_eq_append_getElem hlt, List.filter_append]
      by_cases h : l[i].f0 < l[i].f1
      · rw [if_pos h, List.filter_cons_of_pos (by simpa using h)]; rfl
      · rw [if_neg h, List.filter_cons_of_neg (by simpa using h)]; simp
    have h1 := ih (i + 1) (by omega)
    rw [hstep] at h1
    refine Ev.up (h1.mp fun k hk => ?_)
    simp only [cooperagelaw17_WaitNone.l0]
    rw [if_pos (by omega), if_pos (by omega), hrd, w64s i (by omega)]
    by_cases h : l[i].f0 < l[i].f1
    · rw [if_pos h] at hk ⊢
      rw [Option.bind_some, if_pos (by simp only [List.length_cons, List.length_nil]; omega)]
      exact hk
    · rw [if_neg h] at hk ⊢; exact hk
theorem WaitNone : ∀ (l : List S43), (∀ e ∈ l, ok43 e) → ∀ (c : Int), (Lit.int .i64 c).wf = true → ∃ k, cooperagelaw17_WaitNone.f k l c = some true := by
  intro l hw c hc
  have hjt : Ev fun k => cooperagelaw17_WaitNone.j0 k l c true true = some true := by
    refine Ev.up (Ev.of fun k => ?_)
    simp only [cooperagelaw17_WaitNone.j0]
    rw [if_pos trivial]
  by_cases hl : l.length ≤ 40
  · have hjf : Ev fun k => cooperagelaw17_WaitNone.j0 k l c true false = some true := by
      refine Ev.up ((none_l0 l hw hl c hc l.length 0 (by omega)).mp fun k hk => ?_)
      simp only [cooperagelaw17_WaitNone.j0]
      rw [if_neg Bool.false_ne_true]
      exact hk
    refine ((shown_f.and ((as_f l).and hjf)).mp fun k h => ?_).get
    unfold cooperagelaw17_WaitNone.f
    rw [h.1, Option.bind_some, h.2.1, Option.bind_some, if_pos rfl, decide_eq_true (show (l.length : Int) ≤ 40 by omega)]
    exact h.2.2
  · refine ((shown_f.and ((as_f l).and hjt)).mp fun k h => ?_).get
    unfold cooperagelaw17_WaitNone.f
    rw [h.1, Option.bind_some, h.2.1, Option.bind_some, if_pos rfl, decide_eq_false (show ¬ (l.length : Int) ≤ 40 by omega)]
    exact h.2.2
end Go.Proofs.Ytjaghgelmlcplaa.Pure
