import Derived.Test.YtocpfgdajomjiaaDoorPureText
import Derived.Test.YtocpfgdajomjiaaDoorP5
namespace Go.Proofs.YtocpfgdajomjiaaDoor.Pure
open Go.RowKit Go.Proofs.YtocpfgdajomjiaaDoor.P Go.Proofs.YtocpfgdajomjiaaDoor.Hand Go.Proofs.YtocpfgdajomjiaaDoorW.PrintWords
set_option linter.unusedVariables false
set_option linter.unusedSimpArgs false

theorem quote_ok (s : ByteArray) (h : s.size ≤ 100000) : text_Quote.f s = some (quoteV s) := by
  unfold text_Quote.f
  rw [if_pos h]
theorem path_ok (s : ByteArray) (h : s.size ≤ 100000) : text_Path.f s = some (pathV s) := by
  unfold text_Path.f
  rw [if_pos h]
/-- A sign of a quoted word. -/
def sign (c : UInt8) : Prop := plainI c.toNat = true ∨ c = 37
theorem hexD_sign (m : Nat) (h : m < 16) : plainI (hexD m).toNat = true := by
  have : ∀ m : Fin 16, plainI (hexD m.1).toNat = true := by decide
  exact this ⟨m, h⟩
theorem quoteB_sign (c : UInt8) : ∀ d ∈ quoteB c, sign d := by
  intro d hd
  unfold quoteB at hd
  have hl := UInt8.toNat_lt c
  split at hd
  · next h =>
    rw [List.mem_singleton.1 hd]
    exact .inl h
  · simp only [List.mem_cons, List.not_mem_nil, or_false] at hd
    rcases hd with rfl | rfl | rfl
    · exact .inr rfl
    · exact .inl (hexD_sign _ (by omega))
    · exact .inl (hexD_sign _ (by omega))
theorem quoteB_pos (c : UInt8) : 1 ≤ (quoteB c).length := by
  unfold quoteB
  split <;> simp
theorem hexD_inj {a b : Nat} (ha : a < 16) (hb : b < 16) (h : hexD a = hexD b) : a = b := by
  have : ∀ a b : Fin 16, hexD a.1 = hexD b.1 → a = b := by decide
  have := this ⟨a, ha⟩ ⟨b, hb⟩ h
  simpa using this
theorem pct_no : plainI ((37 : UInt8).toNat : Int) = false := by decide
/-- Quoted bytes can be told apart. -/
theorem quote_inj : ∀ (a b : List UInt8), a.flatMap quoteB = b.flatMap quoteB → a = b := by
  intro a
  induction a with
  | nil =>
    intro b h
    cases b with
    | nil => rfl
    | cons c t =>
      have := congrArg List.length h
      have h2 := quoteB_pos c
      rw [List.flatMap_cons, List.length_append] at this
      simp at this
      omega
  | cons c t ih =>
    intro b h
    cases b with
    | nil =>
      have h2 := quoteB_pos c
      rw [List.flatMap_cons] at h
      rw [(List.append_eq_nil_iff.1 h).1] at h2
      simp at h2
    | cons d u =>
      rw [List.flatMap_cons, List.flatMap_cons] at h
      have hc := UInt8.toNat_lt c
      have hd := UInt8.toNat_lt d
      unfold quoteB at h
      by_cases h1 : plainI c.toNat = true <;> by_cases h2 : plainI d.toNat = true
      · rw [if_pos h1, if_pos h2] at h
        simp only [List.cons_append, List.nil_append, List.cons.injEq] at h
        rw [h.1, ih u h.2]
      · rw [if_pos h1, if_neg h2] at h
        simp only [List.cons_append, List.nil_append, List.cons.injEq] at h
        rw [h.1, pct_no] at h1
        exact absurd h1 (by simp)
      · rw [if_neg h1, if_pos h2] at h
        simp only [List.cons_append, List.nil_append, List.cons.injEq] at h
        rw [← h.1, pct_no] at h2
        exact absurd h2 (by simp)
      · rw [if_neg h1, if_neg h2] at h
        simp only [List.cons_append, List.nil_append, List.cons.injEq, true_and] at h
        have e1 := hexD_inj (by omega) (by omega) h.1
        have e2 := hexD_inj (by omega) (by omega) h.2.1
        have e : c = d := UInt8.toNat_inj.1 (by omega)
        rw [e, ih u h.2.2]
theorem quoteV_inj {s t : ByteArray} (h : quoteV s = quoteV t) : s = t := by
  unfold quoteV at h
  have key : ∀ x : ByteArray, (⟨(x.data.toList.flatMap quoteB).toArray⟩ : ByteArray) = ⟨#[37]⟩ → False := by
    intro x hx
    have h1 : x.data.toList.flatMap quoteB = [37] := by
      have := congrArg (fun b : ByteArray => b.data.toList) hx
      simpa using this
    cases hl : x.data.toList with
    | nil => rw [hl] at h1; simp at h1
    | cons c u =>
      rw [hl, List.flatMap_cons] at h1
      unfold quoteB at h1
      split at h1
      · next hp =>
        simp only [List.cons_append, List.nil_append, List.cons.injEq] at h1
        rw [h1.1, pct_no] at hp
        exact absurd hp (by simp)
      · simp at h1
  by_cases h1 : s.size = 0 <;> by_cases h2 : t.size = 0
  · have e1 : s.data.toList = [] := List.eq_nil_of_length_eq_zero (by rw [len_data]; exact h1)
    have e2 : t.data.toList = [] := List.eq_nil_of_length_eq_zero (by rw [len_data]; exact h2)
    exact ba_ext (by rw [e1, e2])
  · rw [if_pos h1, if_neg h2] at h
    exact (key t h.symm).elim
  · rw [if_neg h1, if_pos h2] at h
    exact (key s h).elim
  · rw [if_neg h1, if_neg h2] at h
    have := congrArg (fun b : ByteArray => b.data.toList) h
    exact ba_ext (quote_inj _ _ (by simpa using this))
theorem quote_path {s : ByteArray} (h : pathV s = true) : quoteV s = s := by
  unfold pathV at h
  simp only [Bool.and_eq_true] at h
  have hall := h.1.1.1
  have hne : s.size ≠ 0 := by
    intro h0
    have e0 : s.data.toList = [] := List.eq_nil_of_length_eq_zero (by rw [len_data]; exact h0)
    have es : s = ⟨#[]⟩ := ba_ext e0
    have hp := h.1.1.2
    rw [es] at hp
    revert hp
    decide +kernel
  unfold quoteV
  rw [if_neg hne]
  apply ba_ext
  have : ∀ l : List UInt8, (l.all fun c => plainI c.toNat) = true → l.flatMap quoteB = l := by
    intro l
    induction l with
    | nil => intro _; rfl
    | cons c t ih =>
      intro hl
      rw [List.all_cons, Bool.and_eq_true] at hl
      rw [List.flatMap_cons, ih hl.2]
      unfold quoteB
      rw [if_pos hl.1]
      rfl
  simpa using this _ hall

theorem signs_loop (s t q : ByteArray) (hsign : ∀ c ∈ q.data.toList, sign c) (hs : s.size ≤ 100000) (ht : t.size ≤ 100000) (hq : q = quoteV s) :
    ∀ (n i : Nat), i + n = q.data.toList.length → Ev fun k => cooperagelaw1_TextSigns.l0 k s t q (i : Int) = some true := by
  have hql := len_data q
  have hlen : q.size ≤ 1000000 := by
    rw [hq]
    unfold quoteV
    split
    · decide
    · show (s.data.toList.flatMap quoteB).toArray.size ≤ _
      rw [List.size_toArray]
      have := quote_len s.data.toList
      rw [len_data] at this
      omega
  intro n
  induction n with
  | zero =>
    intro i hi
    have hge : s.size ≤ q.size ∧ (q.size : Int) ≤ mx 1 (wrap64 (3 * (s.size : Int))) := by
      rw [w64 (by omega) (by omega), hq]
      unfold quoteV
      split
      · next h0 =>
        refine ⟨by omega, ?_⟩
        rw [h0]
        decide
      · next h0 =>
        have e : (⟨(s.data.toList.flatMap quoteB).toArray⟩ : ByteArray).size = (s.data.toList.flatMap quoteB).length := by
          show (s.data.toList.flatMap quoteB).toArray.size = _
          rw [List.size_toArray]
        have h1 := quote_len s.data.toList
        rw [len_data] at h1
        have h2 : ∀ l : List UInt8, l.length ≤ (l.flatMap quoteB).length := by
          intro l
          induction l with
          | nil => simp
          | cons c u ih =>
            have := quoteB_pos c
            rw [List.flatMap_cons, List.length_append, List.length_cons]
            omega
        have h3 := h2 s.data.toList
        rw [len_data] at h3
        rw [e]
        refine ⟨h3, ?_⟩
        unfold mx
        split <;> omega
    have hiff : (q.toList == (quoteV t).toList) = (s.toList == t.toList) := by
      rw [Bool.eq_iff_iff]
      simp only [beq_iff_eq]
      constructor
      · intro h
        have := tl_inj h
        rw [hq] at this
        rw [quoteV_inj this]
      · intro h
        rw [hq, tl_inj h]
    refine Ev.up (Ev.of fun k => ?_)
    simp only [cooperagelaw1_TextSigns.l0]
    rw [if_neg (by omega), if_pos (by omega), if_pos hge.2, quote_ok t ht, Option.bind_some, if_pos (by rw [hiff, beq_self_eq_true]), path_ok s hs, Option.bind_some]
    by_cases hp : pathV s = true
    · rw [if_pos hp, hq, quote_path hp, beq_self_eq_true]
    · rw [if_neg hp]
  | succ n ih =>
    intro i hi
    have hlt : i < q.data.toList.length := by omega
    have hsg := hsign _ (List.getElem_mem hlt)
    have hbt := bt_nat q i hlt
    have hnext : Ev fun k => cooperagelaw1_TextSigns.l0 k s t q (wrap64 ((i : Int) + 1)) = some true := by
      rw [w64s i (by omega)]
      exact ih (i + 1) (by omega)
    have hb : (65 ≤ bt q (i : Int) ∧ bt q (i : Int) ≤ 90) ∨ (97 ≤ bt q (i : Int) ∧ bt q (i : Int) ≤ 122) ∨ (48 ≤ bt q (i : Int) ∧ bt q (i : Int) ≤ 57) ∨ bt q (i : Int) = 95 ∨ bt q (i : Int) = 45 ∨ bt q (i : Int) = 46 ∨ bt q (i : Int) = 47 ∨ bt q (i : Int) = 43 ∨ bt q (i : Int) = 37 := by
      rw [hbt]
      generalize q.data.toList[i] = c at hsg
      rcases hsg with h | rfl
      · unfold plainI at h
        simp only [Bool.or_eq_true, decide_eq_true_eq] at h
        omega
      · simp
    refine Ev.up (hnext.mp fun k h => ?_)
    simp only [cooperagelaw1_TextSigns.l0]
    generalize bt q (i : Int) = b at hb ⊢
    have hi1 : (i : Int) < (q.size : Int) := by omega
    have hi2 : (0 : Int) ≤ (i : Int) := by omega
    rw [if_pos hi1, if_pos hi2]
    rcases hb with hb | hb | hb | hb | hb | hb | hb | hb | hb
    all_goals repeat (first | rw [if_pos (by omega)] | rw [if_neg (by omega)])
    all_goals exact h
theorem TextSigns : ∀ (s : ByteArray), s.size ≤ 140737488351232 → ∀ (t : ByteArray), t.size ≤ 140737488351232 → ∃ k, cooperagelaw1_TextSigns.f k s t = some true := by
  intro s _ t _
  by_cases hl : s.size ≤ 400 ∧ t.size ≤ 400
  · have hsign : ∀ c ∈ (quoteV s).data.toList, sign c := by
      intro c hc
      unfold quoteV at hc
      split at hc
      · have : c ∈ [(37 : UInt8)] := by simpa using hc
        rw [List.mem_singleton.1 this]
        exact .inr rfl
      · have : c ∈ s.data.toList.flatMap quoteB := by simpa using hc
        obtain ⟨d, _, hd⟩ := List.mem_flatMap.1 this
        exact quoteB_sign d c hd
    have hj : Ev fun k => cooperagelaw1_TextSigns.j0 k s t true false = some true := by
      refine Ev.up ((signs_loop s t (quoteV s) hsign (by omega) (by omega) rfl (quoteV s).data.toList.length 0 (by omega)).mp fun k h => ?_)
      simp only [cooperagelaw1_TextSigns.j0]
      rw [if_neg (by decide), quote_ok s (by omega), Option.bind_some]
      exact h
    refine ((shown_f.and hj).mp fun k h => ?_).get
    unfold cooperagelaw1_TextSigns.f
    rw [h.1, Option.bind_some, if_pos rfl, if_neg (by omega), show decide ((t.size : Int) > 400) = false from decide_eq_false (by omega)]
    exact h.2
  · have hj : Ev fun k => cooperagelaw1_TextSigns.j0 k s t true true = some true := by
      refine Ev.up (Ev.of fun k => ?_)
      simp only [cooperagelaw1_TextSigns.j0]
      rw [if_pos trivial]
    refine ((shown_f.and hj).mp fun k h => ?_).get
    unfold cooperagelaw1_TextSigns.f
    rw [h.1, Option.bind_some, if_pos rfl]
    by_cases h1 : (s.size : Int) > 400
    · rw [if_pos h1]
      exact h.2
    · rw [if_neg h1, show decide ((t.size : Int) > 400) = true from decide_eq_true (by omega)]
      exact h.2
end Go.Proofs.YtocpfgdajomjiaaDoor.Pure
