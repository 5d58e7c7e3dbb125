import Derived.Test.YtjaghgelmlcplaaPureWay
namespace Go.Proofs.Ytjaghgelmlcplaa.Pure
open Go.RowKit Go.Proofs.Ytjaghgelmlcplaa.P Go.Proofs.Ytjaghgelmlcplaa.Hand Go.Proofs.Ytjaghgelmlcplaa.Way Go.Proofs.YtjaghgelmlcplaaW.PrintWords
attribute [local instance] Classical.propDecidable
set_option linter.unusedVariables false
set_option linter.unusedSimpArgs false

def ok43 (a : S43) : Prop := (Lit.int .i64 a.f0).wf = true ∧ (Lit.int .i64 a.f1).wf = true
def ok40 (a : S40) : Prop := (Lit.int .i64 a.f0).wf = true ∧ (Lit.int .i64 a.f1).wf = true
/-! #### Rising lists -/
theorem strict_unique : ∀ (a b : List Int), a.Pairwise (· < ·) → b.Pairwise (· < ·) → (∀ x, x ∈ a ↔ x ∈ b) → a = b := by
  intro a
  induction a with
  | nil =>
    intro b _ _ h
    cases b with
    | nil => rfl
    | cons y b => exact absurd ((h y).2 List.mem_cons_self) (by simp)
  | cons x a ih =>
    intro b ha hb h
    cases b with
    | nil => exact absurd ((h x).1 List.mem_cons_self) (by simp)
    | cons y b =>
      rw [List.pairwise_cons] at ha hb
      have e : x = y := by
        rcases List.mem_cons.1 ((h x).1 List.mem_cons_self) with e | e
        · exact e
        · rcases List.mem_cons.1 ((h y).2 List.mem_cons_self) with e' | e'
          · exact e'.symm
          · have := hb.1 x e
            have := ha.1 y e'
            omega
      subst e
      rw [ih b ha.2 hb.2 fun z => ⟨fun hz => ?_, fun hz => ?_⟩]
      · rcases List.mem_cons.1 ((h z).1 (List.mem_cons_of_mem _ hz)) with e | e
        · have := ha.1 z hz
          omega
        · exact e
      · rcases List.mem_cons.1 ((h z).2 (List.mem_cons_of_mem _ hz)) with e | e
        · have := hb.1 z hz
          omega
        · exact e
theorem upto_spec (d : Array Int) (n : Nat) (hs : ∀ i j, i ≤ j → j < n → d[i]! ≤ d[j]!) : ∀ m, m ≤ n → (Lib.compactUpTo d m).Pairwise (· < ·) ∧ ∀ x, x ∈ Lib.compactUpTo d m ↔ ∃ j, j < m ∧ x = d[j]! := by
  intro m
  induction m with
  | zero =>
    intro _
    refine ⟨by simp [Lib.compactUpTo], fun x => ?_⟩
    simp [Lib.compactUpTo]
  | succ m ih =>
    intro hm
    obtain ⟨h1, h2⟩ := ih (by omega)
    rw [Lib.compactUpTo_succ]
    by_cases hk : Lib.keeps d m = true
    · rw [if_pos hk]
      constructor
      · rw [List.pairwise_append]
        refine ⟨h1, by simp, fun x hx y hy => ?_⟩
        rw [List.mem_singleton.1 hy]
        obtain ⟨j, hj, rfl⟩ := (h2 x).1 hx
        have hne : m = 0 ∨ d[m]! ≠ d[m - 1]! := by simpa [Lib.keeps] using hk
        have ha := hs j (m - 1) (by omega) (by omega)
        have hb := hs (m - 1) m (by omega) (by omega)
        rcases hne with e | hne
        · omega
        · omega
      · intro x
        rw [List.mem_append, h2, List.mem_singleton]
        constructor
        · rintro (⟨j, hj, e⟩ | e)
          · exact ⟨j, by omega, e⟩
          · exact ⟨m, by omega, e⟩
        · rintro ⟨j, hj, e⟩
          by_cases hjm : j = m
          · right; rw [e, hjm]
          · exact .inl ⟨j, by omega, e⟩
    · rw [if_neg hk, List.append_nil]
      refine ⟨h1, fun x => ?_⟩
      rw [h2]
      have hn : ¬ (m = 0 ∨ d[m]! ≠ d[m - 1]!) := by simpa [Lib.keeps] using hk
      have h0 : m ≠ 0 := fun e => hn (.inl e)
      have he : d[m]! = d[m - 1]! := Classical.not_not.1 fun e => hn (.inr e)
      constructor
      · rintro ⟨j, hj, e⟩
        exact ⟨j, by omega, e⟩
      · rintro ⟨j, hj, e⟩
        by_cases hjm : j = m
        · exact ⟨m - 1, by omega, by rw [e, hjm, he]⟩
        · exact ⟨j, by omega, e⟩
theorem compact_spec (zs : List Int) (hs : zs.Pairwise (· ≤ ·)) : (Lib.compact zs).Pairwise (· < ·) ∧ ∀ x, x ∈ Lib.compact zs ↔ x ∈ zs := by
  have hg : ∀ i (h : i < zs.length), zs.toArray[i]! = zs[i] := fun i h => by simp [h]
  obtain ⟨h1, h2⟩ := upto_spec zs.toArray zs.length (fun i j hij hj => by
    rw [hg i (by omega), hg j hj]
    by_cases e : i = j
    · subst e; exact Int.le_refl _
    · exact List.pairwise_iff_getElem.1 hs i j (by omega) hj (by omega)) zs.length (Nat.le_refl _)
  refine ⟨h1, fun x => ?_⟩
  show x ∈ Lib.compactUpTo _ _ ↔ _
  rw [h2]
  constructor
  · rintro ⟨j, hj, e⟩
    rw [e, hg j hj]
    exact List.getElem_mem hj
  · intro hx
    obtain ⟨j, hj, e⟩ := List.getElem_of_mem hx
    exact ⟨j, hj, by rw [hg j hj, e]⟩

/-! #### Rings -/
theorem Leads.head {l : List (Int × Int)} {a b : Int} (h : Leads l a b) : ∃ c, (a, c) ∈ l := by
  induction h with
  | one e => exact ⟨_, e⟩
  | more _ _ ih => exact ih
theorem Leads.last {l : List (Int × Int)} {a b : Int} (h : Leads l a b) : ∃ c, (c, b) ∈ l := by
  cases h with
  | one e => exact ⟨_, e⟩
  | more _ e => exact ⟨_, e⟩
theorem mem_picked (l : List S43) (x : Int) : x ∈ picked l l.length ↔ Leads (es l) x x := by
  unfold picked
  rw [List.take_length, List.mem_map]
  constructor
  · rintro ⟨e, he, rfl⟩
    exact of_decide_eq_true (List.mem_filter.1 he).2
  · intro h
    obtain ⟨c, hc⟩ := Leads.head h
    obtain ⟨e, he, h1⟩ := List.mem_map.1 hc
    injection h1 with h1 h2
    refine ⟨e, List.mem_filter.2 ⟨he, ?_⟩, h1⟩
    rw [h1]
    exact decide_eq_true h
theorem sorted_merge (l : List Int) : (l.mergeSort fun x y => decide (x ≤ y)).Pairwise (· ≤ ·) := by
  have := List.pairwise_mergeSort (le := fun (x y : Int) => decide (x ≤ y)) (fun a b c h1 h2 => by
    simp only [decide_eq_true_eq] at h1 h2 ⊢
    omega) (fun a b => by
    simp only [Bool.or_eq_true, decide_eq_true_eq]
    omega) l
  exact this.imp fun h => by simpa using h
theorem rings_spec (l : List S43) : (rings l).Pairwise (· < ·) ∧ ∀ x, x ∈ rings l ↔ Leads (es l) x x := by
  obtain ⟨h1, h2⟩ := compact_spec _ (sorted_merge (picked l l.length))
  exact ⟨h1, fun x => (h2 x).trans ((List.mem_mergeSort).trans (mem_picked l x))⟩

/-! #### The reference's rings -/
theorem sel_l2 (rs all out : List Int) (hal : all.length + out.length ≤ 2000)
    (hnext : ∀ km, ∀ h : km < all.length, (∀ x ∈ all, all[km] ≤ x) → Ev fun k => cooperageref17_Rings.l1 k (all.take km ++ all.drop (km + 1)) (out ++ [all[km]]) = some rs) :
    ∀ (n i km : Nat), i + n = all.length → ∀ h : km < all.length, (∀ x ∈ all.take i, all[km] ≤ x) → Ev fun k => cooperageref17_Rings.l2 k all out (km : Int) (i : Int) = some rs := by
  intro n
  induction n with
  | zero =>
    intro i km hi hk hx
    rw [List.take_of_length_le (by omega)] at hx
    refine Ev.up ((hnext km hk hx).mp fun k h => ?_)
    simp only [cooperageref17_Rings.l2]
    rw [if_neg (by omega), if_pos (by omega), if_pos (by omega), if_pos (by omega), Option.bind_some, if_pos (by omega), Option.bind_some, Int.toNat_natCast, List.nil_append, if_pos (by simp only [List.length_nil, List.length_take]; omega), Option.bind_some, w64s km (by omega), if_pos (by omega), if_pos (by omega), Option.bind_some, Int.toNat_natCast,
      if_pos (by simp only [List.length_take, List.length_drop]; omega), rd_at hk]
    exact h
  | succ n ih =>
    intro i km hi hk hx
    have hlt : i < all.length := by omega
    by_cases e : all[i] < all[km]
    · refine Ev.up ((ih (i + 1) i (by omega) hlt fun x h => ?_).mp fun k h => ?_)
      · rw [List.take_succ_eq_append_getElem hlt] at h
        rcases List.mem_append.1 h with h | h
        · have := hx x h
          omega
        · rw [List.mem_singleton.1 h]
          exact Int.le_refl _
      · simp only [cooperageref17_Rings.l2]
        rw [if_pos (by omega), if_pos (by omega), if_pos (by omega), if_pos (by omega), rd_at hlt, rd_at hk, if_pos e, w64s i (by omega)]
        exact h
    · refine Ev.up ((ih (i + 1) km (by omega) hk fun x h => ?_).mp fun k h => ?_)
      · rw [List.take_succ_eq_append_getElem hlt] at h
        rcases List.mem_append.1 h with h | h
        · exact hx x h
        · rw [List.mem_singleton.1 h]
          omega
      · simp only [cooperageref17_Rings.l2]
        rw [if_pos (by omega), if_pos (by omega), if_pos (by omega), if_pos (by omega), rd_at hlt, rd_at hk, if_neg e, w64s i (by omega)]
        exact h
theorem sel_l1 (rs : List Int) (hrs : rs.Pairwise (· < ·)) : ∀ (n : Nat) (all out : List Int), all.length = n → n + out.length ≤ 1000 → all.Nodup → out.Pairwise (· < ·) → (∀ x ∈ out, ∀ y ∈ all, x < y) → (∀ x, x ∈ rs ↔ x ∈ out ∨ x ∈ all) →
    Ev fun k => cooperageref17_Rings.l1 k all out = some rs := by
  intro n
  induction n with
  | zero =>
    intro all out hn hb hd ho hlt hm
    have : all = [] := List.eq_nil_of_length_eq_zero hn
    subst this
    refine Ev.up (Ev.of fun k => ?_)
    simp only [cooperageref17_Rings.l1]
    rw [if_neg (by simp), strict_unique out rs ho hrs fun x => by rw [hm]; simp]
  | succ n ih =>
    intro all out hn hb hd ho hlt hm
    refine Ev.up ((sel_l2 rs all out (by omega) (fun km hk hmin => ?_) all.length 0 0 (by omega) (by omega) (by simp)).mp fun k h => ?_)
    · have hdec : all = all.take km ++ all[km] :: all.drop (km + 1) := by
        rw [← List.drop_eq_getElem_cons hk, List.take_append_drop]
      have hlen : (all.take km ++ all.drop (km + 1)).length = n := by
        simp only [List.length_append, List.length_take, List.length_drop]
        omega
      generalize hm' : all[km] = m at *
      generalize all.take km = A at *
      generalize all.drop (km + 1) = B at *
      subst hdec
      have hp : (A ++ m :: B).Perm (m :: (A ++ B)) := List.perm_middle
      have hd2 := hp.nodup_iff.1 hd
      rw [List.nodup_cons] at hd2
      refine ih (A ++ B) (out ++ [m]) hlen (by rw [List.length_append, List.length_singleton]; omega) hd2.2 ?_ ?_ ?_
      · rw [List.pairwise_append]
        refine ⟨ho, by simp, fun x hx y hy => ?_⟩
        rw [List.mem_singleton.1 hy]
        exact hlt x hx m (hp.mem_iff.2 List.mem_cons_self)
      · intro x hx y hy
        have hy' : y ∈ A ++ m :: B := hp.mem_iff.2 (List.mem_cons_of_mem _ hy)
        rcases List.mem_append.1 hx with hx | hx
        · exact hlt x hx y hy'
        · rw [List.mem_singleton.1 hx]
          have h1 := hmin y hy'
          have h2 : m ≠ y := fun e => hd2.1 (e ▸ hy)
          omega
      · intro x
        rw [hm, hp.mem_iff, List.mem_cons, List.mem_append, List.mem_append, List.mem_singleton, or_assoc]
    · simp only [cooperageref17_Rings.l1]
      rw [if_pos (by omega)]
      exact h
theorem nodup_once {l : List Int} {x : Int} (h : l.Nodup) : (onceV l x).Nodup := by
  unfold onceV
  split
  next => exact h
  next hx =>
    have hp : (l ++ [x]).Perm (x :: (l ++ [])) := List.perm_middle
    rw [hp.nodup_iff, List.nodup_cons, List.append_nil]
    exact ⟨hx, h⟩
theorem once_len (l : List Int) (x : Int) : (onceV l x).length ≤ l.length + 1 := by
  unfold onceV
  split
  · omega
  · simp
theorem ringsR_l0 (l : List S48) (hl : l.length ≤ 500) (rs : List Int) (hrs : rs.Pairwise (· < ·)) (hmem : ∀ x, x ∈ rs ↔ Leads (e48 l) x x) : ∀ (n i : Nat) (s : List Int), i + n = l.length → s.Nodup → s.length ≤ i → (∀ x ∈ s, Leads (e48 l) x x) → (∀ e ∈ l.take i, Leads (e48 l) e.f0 e.f0 → e.f0 ∈ s) →
    Ev fun k => cooperageref17_Rings.l0 k l s (i : Int) = some rs := by
  intro n
  induction n with
  | zero =>
    intro i s hi hd hsl h1 h2
    rw [List.take_of_length_le (by omega)] at h2
    refine Ev.up ((sel_l1 rs hrs s.length s [] rfl (by simp; omega) hd (by simp) (by simp) (fun x => ?_)).mp fun k h => ?_)
    · rw [hmem]
      constructor
      · intro h
        obtain ⟨c, hc⟩ := Leads.head h
        obtain ⟨e, he, e1⟩ := List.mem_map.1 hc
        injection e1 with e1 e2
        right
        rw [← e1]
        exact h2 e he (by rw [e1]; exact h)
      · rintro (h | h)
        · simp at h
        · exact h1 x h
    · simp only [cooperageref17_Rings.l0]
      rw [if_neg (by omega)]
      exact h
  | succ n ih =>
    intro i s hi hd hsl h1 h2
    have hlt : i < l.length := by omega
    by_cases e : Leads (e48 l) l[i].f0 l[i].f0
    · have hol := once_len s l[i].f0
      refine Ev.up (((reach_f l hl l[i].f0 l[i].f0).and ((once_f s l[i].f0 (by omega)).and (ih (i + 1) (onceV s l[i].f0) (by omega) (nodup_once hd) (by omega) (fun x hx => ?_) (fun e' he' hL => ?_)))).mp fun k h => ?_)
      · rcases mem_onceV.1 hx with hx | rfl
        · exact h1 x hx
        · exact e
      · rw [List.take_succ_eq_append_getElem hlt] at he'
        rcases List.mem_append.1 he' with he' | he'
        · exact mem_onceV.2 (.inl (h2 e' he' hL))
        · rw [List.mem_singleton.1 he']
          exact mem_onceV.2 (.inr rfl)
      · simp only [cooperageref17_Rings.l0]
        rw [if_pos (by omega), if_pos (by omega), rd48 hlt, h.1, Option.bind_some, decide_eq_true e, if_pos rfl, h.2.1, Option.bind_some, w64s i (by omega)]
        exact h.2.2
    · refine Ev.up (((reach_f l hl l[i].f0 l[i].f0).and (ih (i + 1) s (by omega) hd (by omega) h1 (fun e' he' hL => ?_))).mp fun k h => ?_)
      · rw [List.take_succ_eq_append_getElem hlt] at he'
        rcases List.mem_append.1 he' with he' | he'
        · exact h2 e' he' hL
        · rw [List.mem_singleton.1 he'] at hL
          exact absurd hL e
      · simp only [cooperageref17_Rings.l0]
        rw [if_pos (by omega), if_pos (by omega), rd48 hlt, h.1, Option.bind_some, decide_eq_false e, if_neg (by decide), w64s i (by omega)]
        exact h.2
theorem to48_len (l : List S43) : (to48 l).length = l.length := by simp [to48]
theorem rings_f (l : List S43) (hl : l.length ≤ 500) : Ev fun k => cooperageref17_Rings.f k (to48 l) = some (rings l) :=
  ringsR_l0 (to48 l) (by rw [to48_len]; exact hl) (rings l) (rings_spec l).1 (fun x => by rw [e48_to]; exact (rings_spec l).2 x) (to48 l).length 0 [] (by omega) (by simp) (by simp) (by simp) (by simp)

/-! #### Born, and who is to give way -/
theorem to49_at {l : List S40} {i : Nat} (h : i < l.length) : rd_T49 (to49 l) (i : Int) = ⟨l[i].f0, l[i].f1⟩ := by
  rw [rd49 (by simpa [to49] using h)]
  simp [to49]
theorem born_loop (l : List S40) (who : Int) (hl : l.length ≤ 1000) : ∀ (n i : Nat), i + n = l.length → Ev fun k => cooperageref17_Born.l0 k (to49 l) who (i : Int) = some (bornOf who (l.drop i)) := by
  have hel : (to49 l).length = l.length := by simp [to49]
  intro n
  induction n with
  | zero =>
    intro i hi
    refine Ev.up (Ev.of fun k => ?_)
    simp only [cooperageref17_Born.l0]
    rw [if_neg (by omega), List.drop_eq_nil_of_le (by omega)]
    rfl
  | succ n ih =>
    intro i hi
    have hlt : i < l.length := by omega
    by_cases e : l[i].f0 = who
    · refine Ev.up (Ev.of fun k => ?_)
      simp only [cooperageref17_Born.l0]
      rw [if_pos (by omega), if_pos (by omega), to49_at hlt, if_pos e, List.drop_eq_getElem_cons hlt, bornOf, if_pos (by simpa using e)]
    · refine Ev.up ((ih (i + 1) (by omega)).mp fun k h => ?_)
      simp only [cooperageref17_Born.l0]
      rw [if_pos (by omega), if_pos (by omega), to49_at hlt, if_neg e, List.drop_eq_getElem_cons hlt, bornOf, if_neg (by simpa using e), w64s i (by omega)]
      exact h
theorem born_f (l : List S40) (who : Int) (hl : l.length ≤ 1000) : Ev fun k => cooperageref17_Born.f k (to49 l) who = some (bornOf who l) := born_loop l who hl l.length 0 (by omega)
def refMax (l : List S40) (m : Int) : List Int → Int
  | [] => m
  | x :: t => refMax l (if bornOf x l ≥ bornOf m l then x else m) t
theorem vict_loop (l : List S40) (hl : l.length ≤ 1000) (r : List Int) (hr : r.length ≤ 1000) : ∀ (n i : Nat) (m : Int), i + n = r.length → Ev fun k => cooperageref17_Victim.l0 k (to49 l) r m (i : Int) = some (refMax l m (r.drop i)) := by
  intro n
  induction n with
  | zero =>
    intro i m hi
    refine Ev.up (Ev.of fun k => ?_)
    simp only [cooperageref17_Victim.l0]
    rw [if_neg (by omega), List.drop_eq_nil_of_le (by omega)]
    rfl
  | succ n ih =>
    intro i m hi
    have hlt : i < r.length := by omega
    by_cases e : bornOf r[i] l ≥ bornOf m l
    · refine Ev.up (((born_f l r[i] hl).and ((born_f l m hl).and (ih (i + 1) r[i] (by omega)))).mp fun k h => ?_)
      simp only [cooperageref17_Victim.l0]
      rw [if_pos (by omega), if_pos (by omega), rd_at hlt, h.1, Option.bind_some, h.2.1, Option.bind_some, if_pos e, List.drop_eq_getElem_cons hlt, refMax, if_pos e, w64s i (by omega)]
      exact h.2.2
    · refine Ev.up (((born_f l r[i] hl).and ((born_f l m hl).and (ih (i + 1) m (by omega)))).mp fun k h => ?_)
      simp only [cooperageref17_Victim.l0]
      rw [if_pos (by omega), if_pos (by omega), rd_at hlt, h.1, Option.bind_some, h.2.1, Option.bind_some, if_neg e, List.drop_eq_getElem_cons hlt, refMax, if_neg e, w64s i (by omega)]
      exact h.2.2
theorem cmpV_pos (l : List S40) (x y : Int) : 0 < cmpV l x y ↔ (bornOf y l < bornOf x l ∨ bornOf y l = bornOf x l ∧ y < x) := by
  unfold cmpV orV Lib.compareInt
  repeat' split
  all_goals omega
theorem refMax_eq (l : List S40) : ∀ (t : List Int) (m : Int), (∀ x ∈ t, m < x) → t.Pairwise (· < ·) → refMax l m t = maxFrom l m t := by
  intro t
  induction t with
  | nil => intro m _ _; rfl
  | cons x t ih =>
    intro m hm hp
    rw [List.pairwise_cons] at hp
    have hmx := hm x List.mem_cons_self
    by_cases e : bornOf x l ≥ bornOf m l
    · rw [refMax, maxFrom, if_pos e, if_pos ((cmpV_pos l x m).2 (by omega))]
      exact ih x hp.1 hp.2
    · rw [refMax, maxFrom, if_neg e, if_neg (fun h => by have := (cmpV_pos l x m).1 h; omega)]
      exact ih m (fun y hy => hm y (List.mem_cons_of_mem _ hy)) hp.2
theorem victim_f (l : List S43) (hl : l.length ≤ 500) (a : List S40) (ha : a.length ≤ 1000) : Ev fun k => cooperageref17_Victim.f k (to48 l) (to49 a) = some (victim a (rings l)) := by
  have hrl := rings_len l
  have hsp := (rings_spec l).1
  have hr := rings_f l hl
  generalize rings l = r at *
  cases r with
  | nil =>
    refine hr.mp fun k h => ?_
    unfold cooperageref17_Victim.f
    rw [h, Option.bind_some, if_pos (show (([] : List Int).length : Int) = 0 from rfl)]
    rfl
  | cons x t =>
    rw [List.pairwise_cons] at hsp
    refine (hr.and (vict_loop a ha (x :: t) (by omega) (x :: t).length 0 x (by omega))).mp fun k h => ?_
    unfold cooperageref17_Victim.f
    have h0 : rd (x :: t) 0 = x := rfl
    rw [h.1, Option.bind_some, if_neg (by simp only [List.length_cons]; omega), if_pos (by simp only [List.length_cons]; omega), h0, show ((0 : Int)) = ((0 : Nat) : Int) from rfl, h.2, List.drop_zero, refMax, if_pos (Int.le_refl _), refMax_eq a t x hsp.1 hsp.2]
    rfl

/-! #### The chapter's example -/
def exL : List S43 := [⟨1, 2⟩, ⟨2, 1⟩, ⟨3, 1⟩]
theorem exL_rings : rings exL = [1, 2] := by
  refine strict_unique _ _ (rings_spec exL).1 (by simp) fun x => ?_
  rw [(rings_spec exL).2]
  have he : es exL = [(1, 2), (2, 1), (3, 1)] := rfl
  rw [he]
  constructor
  · intro h
    obtain ⟨c, hc⟩ := Leads.last h
    simp only [List.mem_cons, Prod.mk.injEq, List.not_mem_nil, or_false] at hc ⊢
    omega
  · intro h
    have h12 : Leads [(1, 2), (2, 1), (3, 1)] 1 2 := .one (by simp)
    have h21 : Leads [(1, 2), (2, 1), (3, 1)] 2 1 := .one (by simp)
    simp only [List.mem_cons, List.not_mem_nil, or_false] at h
    rcases h with rfl | rfl
    · exact h12.trans h21
    · exact h21.trans h12
theorem exL_wf : Wf exL := by
  intro e he
  simp only [exL, List.mem_cons, List.not_mem_nil, or_false] at he
  rcases he with rfl | rfl | rfl <;> exact ⟨by decide, by decide⟩
theorem reaches_ok (l : List S43) (h : Wf l) (hl : l.length ≤ 1000) (a b : Int) : wait_Reaches.f l a b = some (decide (Leads (es l) a b)) := by
  unfold wait_Reaches.f
  rw [if_pos ⟨h, hl⟩]
theorem rings_ok (l : List S43) (h : Wf l) (hl : l.length ≤ 1000) : wait_Rings.f l = some (rings l) := by
  unfold wait_Rings.f
  rw [if_pos ⟨h, hl⟩]
theorem victim_ok (l : List S43) (h : Wf l) (hl : l.length ≤ 1000) (a : List S40) (ha : a.length ≤ 1000) : wait_Victim.f l a = some (victim a (rings l)) := by
  unfold wait_Victim.f
  rw [if_pos ⟨⟨h, hl⟩, ha⟩]
theorem shown_f : Ev fun k => cooperagelaw17_shown.f k = some true := by
  refine (same_f [1, 2] (by simp)).mp fun k h => ?_
  unfold cooperagelaw17_shown.f
  rw [Option.bind_some]
  rw [show wait_Rings.f ([(⟨1, 2⟩ : S43), (⟨2, 1⟩ : S43), (⟨3, 1⟩ : S43)] : List (S43)) = some [1, 2] from (rings_ok exL exL_wf (by decide)).trans (congrArg some exL_rings), Option.bind_some, h, Option.bind_some, if_pos rfl,
    show wait_Victim.f ([(⟨1, 2⟩ : S43), (⟨2, 1⟩ : S43), (⟨3, 1⟩ : S43)] : List (S43)) ([(⟨1, 5⟩ : S40), (⟨2, 3⟩ : S40), (⟨3, 9⟩ : S40)] : List (S40)) = some (victim ([(⟨1, 5⟩ : S40), (⟨2, 3⟩ : S40), (⟨3, 9⟩ : S40)] : List (S40)) [1, 2]) from (victim_ok exL exL_wf (by decide) _ (by decide)).trans (by rw [exL_rings]), Option.bind_some]
  decide
end Go.Proofs.Ytjaghgelmlcplaa.Pure
