import Derived.Test.YtjaghgelmlcplaaPureRing
import Derived.Test.YtjaghgelmlcplaaP9
import Derived.Test.YtjaghgelmlcplaaP10
namespace Go.Proofs.Ytjaghgelmlcplaa.Pure
open Go.RowKit Go.Proofs.Ytjaghgelmlcplaa.P Go.Proofs.Ytjaghgelmlcplaa.Hand Go.Proofs.Ytjaghgelmlcplaa.Way Go.Proofs.YtjaghgelmlcplaaW.PrintWords
attribute [local instance] Classical.propDecidable
set_option linter.unusedVariables false
set_option linter.unusedSimpArgs false

/-- The ages as the law makes them: the first one is 1. -/
def mkA (b : List Int) (n : Nat) : List S40 := (List.range n).map fun i => ⟨((i + 1 : Nat) : Int), b.getD i 0⟩
theorem mkA_succ (b : List Int) (n : Nat) : mkA b (n + 1) = mkA b n ++ [⟨((n + 1 : Nat) : Int), b.getD n 0⟩] := by
  simp [mkA, List.range_succ]
theorem mkA_len (b : List Int) (n : Nat) : (mkA b n).length = n := by simp [mkA]
def ofV (b : List Int) (who : Int) : Int := if who < 1 then 0 else if who > (b.length : Int) then 0 else b.getD (who - 1).toNat 0
theorem of_f (b : List Int) (hb : b.length ≤ 1000) (who : Int) : cooperagelaw17_of.f b who = some (ofV b who) := by
  unfold cooperagelaw17_of.f ofV
  by_cases h1 : who < 1
  · rw [if_pos h1, if_pos h1]
  · rw [if_neg h1, if_neg h1]
    by_cases h2 : who > (b.length : Int)
    · rw [if_pos h2, if_pos h2]
    · rw [if_neg h2, if_neg h2, w64 (by omega) (by omega), if_pos (by omega), if_pos (by omega)]
      rfl
theorem born_app (who : Int) : ∀ (l : List S40) (x : S40), bornOf who (l ++ [x]) = if (∃ e ∈ l, e.f0 = who) then bornOf who l else if x.f0 = who then x.f1 else 0 := by
  intro l
  induction l with
  | nil =>
    intro x
    by_cases h : x.f0 = who
    · simp [bornOf, h]
    · simp [bornOf, h]
  | cons a l ih =>
    intro x
    by_cases h : a.f0 = who
    · rw [if_pos ⟨a, List.mem_cons_self, h⟩]
      simp [bornOf, h]
    · rw [List.cons_append, bornOf, if_neg (by simpa using h), ih]
      have e : (∃ e ∈ a :: l, e.f0 = who) ↔ (∃ e ∈ l, e.f0 = who) := by
        constructor
        · rintro ⟨e, he, h2⟩
          rcases List.mem_cons.1 he with rfl | he
          · exact absurd h2 h
          · exact ⟨e, he, h2⟩
        · rintro ⟨e, he, h2⟩
          exact ⟨e, List.mem_cons_of_mem _ he, h2⟩
      have hb : bornOf who (a :: l) = bornOf who l := by rw [bornOf, if_neg (by simpa using h)]
      rw [hb]
      simp only [e]
theorem mkA_mem (b : List Int) (n : Nat) (who : Int) : (∃ e ∈ mkA b n, e.f0 = who) ↔ 1 ≤ who ∧ who ≤ (n : Int) := by
  constructor
  · rintro ⟨e, he, h⟩
    obtain ⟨i, hi, rfl⟩ := List.mem_map.1 he
    have := List.mem_range.1 hi
    rw [← h]
    show 1 ≤ ((i + 1 : Nat) : Int) ∧ ((i + 1 : Nat) : Int) ≤ (n : Int)
    omega
  · rintro ⟨h1, h2⟩
    refine ⟨⟨(((who - 1).toNat + 1 : Nat) : Int), b.getD (who - 1).toNat 0⟩, List.mem_map.2 ⟨(who - 1).toNat, List.mem_range.2 (by omega), rfl⟩, ?_⟩
    show (((who - 1).toNat + 1 : Nat) : Int) = who
    omega
theorem born_mkA (b : List Int) (who : Int) : ∀ n, bornOf who (mkA b n) = if 1 ≤ who ∧ who ≤ (n : Int) then b.getD (who - 1).toNat 0 else 0 := by
  intro n
  induction n with
  | zero =>
    rw [if_neg (by omega)]
    rfl
  | succ n ih =>
    rw [mkA_succ, born_app, ih]
    simp only [mkA_mem]
    by_cases h : 1 ≤ who ∧ who ≤ (n : Int)
    · rw [if_pos h, if_pos h, if_pos (by omega)]
    · rw [if_neg h]
      by_cases h2 : ((n + 1 : Nat) : Int) = who
      · rw [if_pos h2, if_pos (by omega), show (who - 1).toNat = n by omega]
      · rw [if_neg h2, if_neg (by omega)]
theorem born_of (b : List Int) (who : Int) : bornOf who (mkA b b.length) = ofV b who := by
  rw [born_mkA]
  unfold ofV
  by_cases h1 : who < 1
  · rw [if_neg (by omega), if_pos h1]
  · rw [if_neg h1]
    by_cases h2 : who > (b.length : Int)
    · rw [if_neg (by omega), if_pos h2]
    · rw [if_pos (by omega), if_neg h2]

/-- What MaxFunc leaves is one of them, and none is above it. -/
theorem maxFrom_spec (l : List S40) : ∀ (t : List Int) (m : Int), (∀ x ∈ t, m < x) → t.Pairwise (· < ·) → (maxFrom l m t = m ∨ maxFrom l m t ∈ t) ∧
    ∀ x, (x = m ∨ x ∈ t) → x = maxFrom l m t ∨ (bornOf x l < bornOf (maxFrom l m t) l ∨ bornOf x l = bornOf (maxFrom l m t) l ∧ x < maxFrom l m t) := by
  intro t
  induction t with
  | nil =>
    intro m _ _
    refine ⟨.inl rfl, fun x hx => ?_⟩
    rcases hx with rfl | hx
    · exact .inl rfl
    · simp at hx
  | cons y t ih =>
    intro m hm hp
    rw [List.pairwise_cons] at hp
    have hmy := hm y List.mem_cons_self
    by_cases e : 0 < cmpV l y m
    · have hc := (cmpV_pos l y m).1 e
      obtain ⟨h1, h2⟩ := ih y hp.1 hp.2
      rw [maxFrom, if_pos e]
      refine ⟨?_, fun x hx => ?_⟩
      · rcases h1 with h1 | h1
        · right; rw [h1]; exact List.mem_cons_self
        · right; exact List.mem_cons_of_mem _ h1
      · rcases hx with rfl | hx
        · have := h2 y (.inl rfl)
          generalize maxFrom l y t = v at *
          rcases this with rfl | this
          · right; omega
          · right; omega
        · rcases List.mem_cons.1 hx with rfl | hx
          · exact h2 _ (.inl rfl)
          · exact h2 x (.inr hx)
    · have hc : ¬ (bornOf m l < bornOf y l ∨ bornOf m l = bornOf y l ∧ m < y) := fun h => e ((cmpV_pos l y m).2 h)
      obtain ⟨h1, h2⟩ := ih m (fun x hx => hm x (List.mem_cons_of_mem _ hx)) hp.2
      rw [maxFrom, if_neg e]
      refine ⟨?_, fun x hx => ?_⟩
      · rcases h1 with h1 | h1
        · left; exact h1
        · right; exact List.mem_cons_of_mem _ h1
      · rcases hx with rfl | hx
        · exact h2 _ (.inl rfl)
        · rcases List.mem_cons.1 hx with rfl | hx
          · have := h2 m (.inl rfl)
            generalize maxFrom l m t = v at *
            rcases this with rfl | this
            · right; omega
            · right; omega
          · exact h2 x (.inr hx)
theorem victim_spec (l : List S40) (r : List Int) (hr : r ≠ []) (hp : r.Pairwise (· < ·)) : victim l r ∈ r ∧ ∀ x ∈ r, x = victim l r ∨ (bornOf x l < bornOf (victim l r) l ∨ bornOf x l = bornOf (victim l r) l ∧ x < victim l r) := by
  cases r with
  | nil => exact absurd rfl hr
  | cons y t =>
    rw [List.pairwise_cons] at hp
    obtain ⟨h1, h2⟩ := maxFrom_spec l t y hp.1 hp.2
    refine ⟨?_, fun x hx => h2 x (List.mem_cons.1 hx)⟩
    rcases h1 with h1 | h1
    · show maxFrom l y t ∈ _
      rw [h1]; exact List.mem_cons_self
    · exact List.mem_cons_of_mem _ h1

/-- Without the edges from v there are fewer in rings. -/
theorem sub_len : ∀ (a b : List Int), a.Nodup → (∀ x ∈ a, x ∈ b) → a.length ≤ b.length := by
  intro a
  induction a with
  | nil => intro b _ _; simp
  | cons x a ih =>
    intro b hd hs
    rw [List.nodup_cons] at hd
    have hx := hs x List.mem_cons_self
    obtain ⟨s, t, rfl⟩ := List.append_of_mem hx
    have hp : (s ++ x :: t).Perm (x :: (s ++ t)) := List.perm_middle
    have := ih (s ++ t) hd.2 fun y hy => by
      have h1 := hp.mem_iff.1 (hs y (List.mem_cons_of_mem _ hy))
      rcases List.mem_cons.1 h1 with rfl | h1
      · exact absurd hy hd.1
      · exact h1
    rw [hp.length_eq, List.length_cons, List.length_cons]
    omega
theorem nodup_strict {l : List Int} (h : l.Pairwise (· < ·)) : l.Nodup := h.imp fun h => by omega
def without (l : List S43) (v : Int) : List S43 := l.filter fun e => !(e.f0 == v)
theorem without_less (l : List S43) (v : Int) (hv : v ∈ rings l) : (rings (without l v)).length < (rings l).length := by
  obtain ⟨s, t, hst⟩ := List.append_of_mem hv
  have hp : (s ++ v :: t).Perm (v :: (s ++ t)) := List.perm_middle
  have h := sub_len (rings (without l v)) (s ++ t) (nodup_strict (rings_spec _).1) fun x hx => by
    have hL := ((rings_spec _).2 x).1 hx
    have hsub : ∀ e ∈ es (without l v), e ∈ es l := by
      intro e he
      obtain ⟨e', he', rfl⟩ := List.mem_map.1 he
      exact List.mem_map.2 ⟨e', (List.mem_filter.1 he').1, rfl⟩
    have hx2 : x ∈ rings l := ((rings_spec l).2 x).2 (hL.mono hsub)
    have hne : x ≠ v := by
      rintro rfl
      obtain ⟨c, hc⟩ := Leads.head hL
      obtain ⟨e', he', h1⟩ := List.mem_map.1 hc
      injection h1 with h1 h2
      have := (List.mem_filter.1 he').2
      simp [h1] at this
    rw [hst] at hx2
    rcases List.mem_cons.1 (hp.mem_iff.1 hx2) with h1 | h1
    · exact absurd h1 hne
    · exact h1
  rw [hst, hp.length_eq, List.length_cons]
  omega

/-! #### The law's loops -/
theorem wf_without {l : List S43} (h : Wf l) (v : Int) : Wf (without l v) := fun e he => h e (List.mem_filter.1 he).1
theorem gives_l3 (b : List Int) (a : List S40) (l : List S43) (hw : Wf l) (hl : l.length ≤ 1000) (r : Int) (rg : List Int) (v : Int) (hless : (rings (without l v)).length < rg.length)
    (hnext : Ev fun k => cooperagelaw17_WaitGives.l1 k b a (without l v) (wrap64 (r + 1)) = some true) :
    ∀ (n i : Nat) (o : List S43), i + n = l.length → o = without (l.take i) v → Ev fun k => cooperagelaw17_WaitGives.l3 k b a l r rg v true true o (i : Int) = some true := by
  intro n
  induction n with
  | zero =>
    intro i o hi ho
    rw [List.take_of_length_le (by omega)] at ho
    subst ho
    have hwl : (without l v).length ≤ l.length := List.length_filter_le _ _
    refine Ev.up (hnext.mp fun k h => ?_)
    simp only [cooperagelaw17_WaitGives.l3]
    rw [if_neg (by omega), if_pos trivial, if_pos trivial, rings_ok _ (wf_without hw v) (by omega), Option.bind_some, if_neg (by omega)]
    exact h
  | succ n ih =>
    intro i o hi ho
    have hlt : i < l.length := by omega
    have hol : o.length ≤ i := by
      rw [ho]
      refine Nat.le_trans (List.length_filter_le _ _) ?_
      rw [List.length_take]
      omega
    by_cases e : l[i].f0 = v
    · refine Ev.up ((ih (i + 1) o (by omega) ?_).mp fun k h => ?_)
      · rw [ho, List.take_succ_eq_append_getElem hlt]
        unfold without
        rw [List.filter_append, List.filter_cons, if_neg (by simp [e]), List.filter_nil, List.append_nil]
      · simp only [cooperagelaw17_WaitGives.l3]
        rw [if_pos (by omega), if_pos (by omega), rd43 hlt, if_pos e, w64s i (by omega)]
        exact h
    · refine Ev.up ((ih (i + 1) (o ++ [l[i]]) (by omega) ?_).mp fun k h => ?_)
      · rw [ho, List.take_succ_eq_append_getElem hlt]
        unfold without
        rw [List.filter_append, List.filter_cons, if_pos (by simp [e]), List.filter_nil]
      · simp only [cooperagelaw17_WaitGives.l3]
        rw [if_pos (by omega), if_pos (by omega), rd43 hlt, if_neg e, if_pos (by omega), w64s i (by omega)]
        exact h
theorem gives_l2 (b : List Int) (hb : b.length ≤ 1000) (a : List S40) (l : List S43) (r : Int) (rg : List Int) (hrg : rg.length ≤ 1000) (v : Int) (hv : v ∈ rg)
    (hmax : ∀ x ∈ rg, x = v ∨ (ofV b x < ofV b v ∨ ofV b x = ofV b v ∧ x < v)) (hel : rg.length = 1 ∨ ∃ x ∈ rg, x ≠ v)
    (hnext : Ev fun k => cooperagelaw17_WaitGives.l3 k b a l r rg v true true [] 0 = some true) :
    ∀ (n i : Nat) (p q : Bool), i + n = rg.length → (p = true ↔ v ∈ rg.take i) → (q = true ↔ (rg.length = 1 ∨ ∃ x ∈ rg.take i, x ≠ v)) → Ev fun k => cooperagelaw17_WaitGives.l2 k b a l r rg v p q (i : Int) = some true := by
  intro n
  induction n with
  | zero =>
    intro i p q hi hp hq
    rw [List.take_of_length_le (by omega)] at hp hq
    have e1 : p = true := hp.2 hv
    have e2 : q = true := hq.2 hel
    subst e1 e2
    refine Ev.up (hnext.mp fun k h => ?_)
    simp only [cooperagelaw17_WaitGives.l2]
    rw [if_neg (by omega)]
    exact h
  | succ n ih =>
    intro i p q hi hp hq
    have hlt : i < rg.length := by omega
    have hx := hmax rg[i] (List.getElem_mem hlt)
    have htk := List.take_succ_eq_append_getElem hlt
    have hj5 : ∀ p' q' : Bool, (p' = true ↔ v ∈ rg.take (i + 1)) → (q' = true ↔ (rg.length = 1 ∨ ∃ x ∈ rg.take (i + 1), x ≠ v)) → Ev fun k => cooperagelaw17_WaitGives.j5 k b a l r rg v p' q' (i : Int) = some true := by
      intro p' q' h1 h2
      refine Ev.up ((ih (i + 1) p' q' (by omega) h1 h2).mp fun k h => ?_)
      simp only [cooperagelaw17_WaitGives.j5]
      rw [if_pos (by omega), if_pos (by omega), rd_at hlt, of_f b hb, Option.bind_some, of_f b hb, Option.bind_some, if_neg (by rcases hx with e | e; (· rw [e]; omega); (· omega)), w64s i (by omega)]
      exact h
    have hj4 : ∀ p' : Bool, (p' = true ↔ v ∈ rg.take (i + 1)) → Ev fun k => cooperagelaw17_WaitGives.j4 k b a l r rg v p' q (i : Int) = some true := by
      intro p' h1
      have hq2 : ∀ q' : Bool, (q' = true ↔ (q = true ∨ rg[i] ≠ v)) → (q' = true ↔ (rg.length = 1 ∨ ∃ x ∈ rg.take (i + 1), x ≠ v)) := by
        intro q' h
        rw [h, hq, htk]
        constructor
        · rintro ((h | ⟨x, hx, hne⟩) | h)
          · exact .inl h
          · exact .inr ⟨x, List.mem_append_left _ hx, hne⟩
          · exact .inr ⟨rg[i], List.mem_append_right _ (List.mem_singleton.2 rfl), h⟩
        · rintro (h | ⟨x, hx, hne⟩)
          · exact .inl (.inl h)
          · rcases List.mem_append.1 hx with hx | hx
            · exact .inl (.inr ⟨x, hx, hne⟩)
            · rw [List.mem_singleton.1 hx] at hne
              exact .inr hne
      cases q with
      | true =>
        refine Ev.up ((hj5 p' true h1 (hq2 true (by simp))).mp fun k h => ?_)
        simp only [cooperagelaw17_WaitGives.j4]
        rw [if_pos trivial]
        exact h
      | false =>
        by_cases e : rg[i] = v
        · refine Ev.up ((hj5 p' false h1 (hq2 false (by simp [e]))).mp fun k h => ?_)
          simp only [cooperagelaw17_WaitGives.j4]
          rw [if_neg (by simp), if_pos (by omega), if_pos (by omega), rd_at hlt, of_f b hb, Option.bind_some, of_f b hb, Option.bind_some, e, if_neg (by omega), if_neg (by omega)]
          exact h
        · refine Ev.up ((hj5 p' true h1 (hq2 true (by simp [e]))).mp fun k h => ?_)
          simp only [cooperagelaw17_WaitGives.j4]
          rw [if_neg (by simp), if_pos (by omega), if_pos (by omega), rd_at hlt, of_f b hb, Option.bind_some, of_f b hb, Option.bind_some]
          rcases hx with e' | e' | e'
          · exact absurd e' e
          · rw [if_pos e']
            exact h
          · rw [if_neg (by omega), if_pos e'.2, Option.bind_some, Option.bind_some, e'.1, beq_self_eq_true]
            exact h
    have hp2 : ∀ p' : Bool, (p' = true ↔ (p = true ∨ rg[i] = v)) → (p' = true ↔ v ∈ rg.take (i + 1)) := by
      intro p' h
      rw [h, hp, htk, List.mem_append, List.mem_singleton]
      constructor
      · rintro (h | h)
        · exact .inl h
        · exact .inr h.symm
      · rintro (h | h)
        · exact .inl h
        · exact .inr h.symm
    cases p with
    | true =>
      refine Ev.up ((hj4 true (hp2 true (by simp))).mp fun k h => ?_)
      simp only [cooperagelaw17_WaitGives.l2]
      rw [if_pos (by omega), if_pos trivial]
      exact h
    | false =>
      refine Ev.up ((hj4 (rg[i] == v) (hp2 _ (by simp))).mp fun k h => ?_)
      simp only [cooperagelaw17_WaitGives.l2]
      rw [if_pos (by omega), if_neg (by simp), if_pos (by omega), rd_at hlt]
      exact h
theorem gives_l1 (b : List Int) (hb : b.length ≤ 1000) : ∀ (n : Nat) (l : List S43) (r : Nat), (rings l).length = n → Wf l → l.length ≤ 40 → r + n ≤ 50 → Ev fun k => cooperagelaw17_WaitGives.l1 k b (mkA b b.length) l (r : Int) = some true := by
  intro n
  induction n using Nat.strongRecOn with
  | ind n ih =>
    intro l r hn hw hl hr
    have hal := mkA_len b b.length
    have hrl := rings_len l
    by_cases h0 : rings l = []
    · refine Ev.up (Ev.of fun k => ?_)
      simp only [cooperagelaw17_WaitGives.l1]
      rw [if_pos (by omega), rings_ok l hw (by omega), Option.bind_some, victim_ok l hw (by omega) _ (by omega), Option.bind_some, h0, if_pos (show (([] : List Int).length : Int) = 0 from rfl)]
      rfl
    · obtain ⟨hv, hmax⟩ := victim_spec (mkA b b.length) (rings l) h0 (rings_spec l).1
      have hless := without_less l _ hv
      have hpos : 0 < (rings l).length := List.length_pos_iff.2 h0
      have hnd := nodup_strict (rings_spec l).1
      have hel : (rings l).length = 1 ∨ ∃ x ∈ rings l, x ≠ victim (mkA b b.length) (rings l) := by
        by_cases h1 : (rings l).length = 1
        · exact .inl h1
        · right
          have h2 : 1 < (rings l).length := by omega
          have h3 : 0 < (rings l).length := by omega
          by_cases e : (rings l)[0] = victim (mkA b b.length) (rings l)
          · refine ⟨(rings l)[1], List.getElem_mem h2, fun e2 => ?_⟩
            have := List.pairwise_iff_getElem.1 (rings_spec l).1 0 1 h3 h2 (by omega)
            omega
          · exact ⟨(rings l)[0], List.getElem_mem h3, e⟩
      have hwl : (without l (victim (mkA b b.length) (rings l))).length ≤ l.length := List.length_filter_le _ _
      have hmax' : ∀ x ∈ rings l, x = victim (mkA b b.length) (rings l) ∨ (ofV b x < ofV b (victim (mkA b b.length) (rings l)) ∨ ofV b x = ofV b (victim (mkA b b.length) (rings l)) ∧ x < victim (mkA b b.length) (rings l)) := by
        intro x hx
        have := hmax x hx
        rw [born_of, born_of] at this
        exact this
      have hstep := ih _ (by omega) (without l (victim (mkA b b.length) (rings l))) (r + 1) rfl (wf_without hw _) (by omega) (by omega)
      have h3 := gives_l3 b (mkA b b.length) l hw (by omega) (r : Int) (rings l) _ hless (by rw [w64s r (by omega)]; exact hstep) l.length 0 [] (by omega) (by simp [without])
      have h2 := gives_l2 b hb (mkA b b.length) l (r : Int) (rings l) (by omega) _ hv hmax' hel h3 (rings l).length 0 false ((rings l).length == 1) (by omega) (by simp) (by simp)
      refine Ev.up (h2.mp fun k h => ?_)
      simp only [cooperagelaw17_WaitGives.l1]
      rw [if_pos (by omega), rings_ok l hw (by omega), Option.bind_some, victim_ok l hw (by omega) _ (by omega), Option.bind_some, if_neg (by omega)]
      have hbq : (((rings l).length : Int) == 1) = ((rings l).length == 1) := by
        rw [Bool.eq_iff_iff]
        simp
        omega
      rw [hbq]
      exact h
theorem gives_l0 (l : List S43) (hw : Wf l) (hl : l.length ≤ 40) (b : List Int) (hb : b.length ≤ 1000) : ∀ (n i : Nat) (a : List S40), i + n = b.length → a = mkA b i → Ev fun k => cooperagelaw17_WaitGives.l0 k l b a (i : Int) = some true := by
  intro n
  induction n with
  | zero =>
    intro i a hi ha
    have hib : i = b.length := by omega
    subst hib
    subst ha
    have hrl := rings_len l
    refine Ev.up ((gives_l1 b hb _ l 0 rfl hw hl (by omega)).mp fun k h => ?_)
    simp only [cooperagelaw17_WaitGives.l0]
    rw [if_neg (by omega), Option.bind_some, if_pos (by simp only [List.length_nil]; omega)]
    exact h
  | succ n ih =>
    intro i a hi ha
    have hlt : i < b.length := by omega
    have hal : a.length = i := by rw [ha, mkA_len]
    refine Ev.up ((ih (i + 1) (mkA b (i + 1)) (by omega) rfl).mp fun k h => ?_)
    simp only [cooperagelaw17_WaitGives.l0]
    rw [if_pos (by omega), if_pos (by omega), if_pos (by omega), w64s i (by omega), rd_at hlt, ha]
    rw [mkA_succ, List.getD_eq_getElem?_getD, List.getElem?_eq_getElem hlt] at h
    exact h
theorem WaitGives : ∀ (l : List S43), (∀ e ∈ l, ok43 e) → ∀ (b : List Int), (∀ a ∈ b, (Lit.int .i64 a).wf = true) → ∃ k, cooperagelaw17_WaitGives.f k l b = some true := by
  intro l hw b _
  by_cases hl : l.length ≤ 40 ∧ b.length ≤ 30
  · have hj : Ev fun k => cooperagelaw17_WaitGives.j0 k l b true false = some true := by
      refine Ev.up ((gives_l0 l hw hl.1 b (by omega) b.length 0 [] (by omega) rfl).mp fun k h => ?_)
      simp only [cooperagelaw17_WaitGives.j0]
      rw [if_neg (by decide)]
      exact h
    refine ((shown_f.and ((as_f l).and hj)).mp fun k h => ?_).get
    unfold cooperagelaw17_WaitGives.f
    rw [h.1, Option.bind_some, h.2.1, Option.bind_some, if_pos rfl, if_pos (decide_eq_true (by omega)), show decide ((b.length : Int) > 30) = false from decide_eq_false (by omega)]
    exact h.2.2
  · have hj : Ev fun k => cooperagelaw17_WaitGives.j0 k l b true true = some true := by
      refine Ev.up (Ev.of fun k => ?_)
      simp only [cooperagelaw17_WaitGives.j0]
      rw [if_pos trivial]
    refine ((shown_f.and ((as_f l).and hj)).mp fun k h => ?_).get
    unfold cooperagelaw17_WaitGives.f
    rw [h.1, Option.bind_some, h.2.1, Option.bind_some, if_pos rfl]
    by_cases h1 : (l.length : Int) ≤ 40
    · rw [if_pos (decide_eq_true h1), show decide ((b.length : Int) > 30) = true from decide_eq_true (by omega)]
      exact h.2.2
    · rw [if_neg (by simpa using h1)]
      exact h.2.2
end Go.Proofs.Ytjaghgelmlcplaa.Pure
