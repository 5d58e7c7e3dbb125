import Derived.Test.YtocpfgdajomjiaaDoorTextB
import Derived.Test.YtocpfgdajomjiaaDoorSpl
/- Plain facts of words, paths, quoted words. -/
namespace Go.Proofs.YtocpfgdajomjiaaDoor.PureR
open Go.RowKit Go.Proofs.YtocpfgdajomjiaaDoor.Hand2 Go.Proofs.YtocpfgdajomjiaaDoorW.PrintWords Go.Proofs.YtocpfgdajomjiaaDoor.Spl
open Go.Proofs.YtocpfgdajomjiaaDoor.Hand hiding text_Lines.f text_Words.f text_Trim.f text_Join.f text_Path.f text_Quote.f text_Lines.calls text_Words.calls text_Trim.calls text_Join.calls text_Path.calls text_Quote.calls Glob
set_option linter.unusedVariables false
set_option linter.unusedSimpArgs false
theorem w64 {x : Int} (h0 : -9223372036854775808 ≤ x) (h1 : x ≤ 9223372036854775807) : wrap64 x = x := by unfold wrap64; omega
theorem w64s (i : Nat) (h : i ≤ 100000000000) : wrap64 ((i : Int) + 1) = ((i + 1 : Nat) : Int) := by rw [w64 (by omega) (by omega)]; omega
/-- From some measure of steps on. -/
def Ev (p : Nat → Prop) : Prop := ∃ k0, ∀ k, k0 ≤ k → p k
theorem Ev.of {p : Nat → Prop} (h : ∀ k, p k) : Ev p := ⟨0, fun k _ => h k⟩
theorem Ev.and {p q : Nat → Prop} : Ev p → Ev q → Ev fun k => p k ∧ q k := fun ⟨a, ha⟩ ⟨b, hb⟩ => ⟨max a b, fun k hk => ⟨ha k (by omega), hb k (by omega)⟩⟩
theorem Ev.mp {p q : Nat → Prop} (h : Ev p) (hi : ∀ k, p k → q k) : Ev q := let ⟨a, ha⟩ := h; ⟨a, fun k hk => hi k (ha k hk)⟩
theorem Ev.up {p : Nat → Prop} (h : Ev fun k => p (k + 1)) : Ev p := by
  obtain ⟨a, ha⟩ := h
  refine ⟨a + 1, fun k hk => ?_⟩
  obtain ⟨j, rfl⟩ : ∃ j, k = j + 1 := ⟨k - 1, by omega⟩
  exact ha j (by omega)
theorem Ev.get {p : Nat → Prop} (h : Ev p) : ∃ k, p k := let ⟨a, ha⟩ := h; ⟨a, ha a (Nat.le_refl _)⟩

theorem rdo {l : List ByteArray} {i : Nat} (h : i < l.length) : rdOf ByteArray.empty l (i : Int) = l[i] := by
  simp [rdOf, List.getD_eq_getElem?_getD, List.getElem?_eq_getElem h]
theorem tl (s : ByteArray) : s.toList = s.data.toList := ByteArray.toList_eq s
theorem tl_inj {a b : ByteArray} (h : a.toList = b.toList) : a = b := ba_ext (by rw [← tl, ← tl]; exact h)
theorem len_data (s : ByteArray) : s.data.toList.length = s.size := by rw [Array.length_toList]; rfl
theorem bt_nat (s : ByteArray) (i : Nat) (h : i < s.data.toList.length) : bt s (i : Int) = ((s.data.toList[i]).toNat : Int) := by
  have h' : i < s.data.size := by simpa using h
  unfold bt
  rw [dif_pos (by simpa using h')]
  simp [ByteArray.getElem_eq_getElem_data]

theorem wg_words : ∀ (l cur : List UInt8), (∀ c ∈ cur, Hand.blank c = false) → ∀ x ∈ wordsGo cur l, x ≠ [] ∧ ∀ c ∈ x, Hand.blank c = false := by
  intro l
  induction l with
  | nil =>
    intro cur h x hx
    rw [wordsGo] at hx
    split at hx
    · simp at hx
    · next hc =>
      simp only [List.mem_singleton] at hx
      subst hx
      exact ⟨by simpa using hc, fun c hm => h c (by simpa using hm)⟩
  | cons c t ih =>
    intro cur h x hx
    rw [wordsGo] at hx
    split at hx
    · split at hx
      · exact ih [] (by simp) x hx
      · next hc =>
        rcases List.mem_cons.1 hx with e | e
        · subst e
          exact ⟨by simpa using hc, fun c hm => h c (by simpa using hm)⟩
        · exact ih [] (by simp) x e
    · next hb =>
      refine ih (c :: cur) (fun d hd => ?_) x hx
      rcases List.mem_cons.1 hd with e | e
      · subst e; simpa using hb
      · exact h d e
theorem wg_plain : ∀ (x cur : List UInt8), (∀ c ∈ x, Hand.blank c = false) → wordsGo cur x = if cur.reverse ++ x = [] then [] else [cur.reverse ++ x] := by
  intro x
  induction x with
  | nil =>
    intro cur _
    rw [wordsGo]
    simp
  | cons c t ih =>
    intro cur h
    rw [wordsGo, if_neg (by rw [h c (by simp)]; simp), ih _ (fun d hd => h d (by simp [hd]))]
    simp
theorem wg_app : ∀ (a cur b : List UInt8) (c : UInt8), Hand.blank c = true → wordsGo cur (a ++ c :: b) = wordsGo cur a ++ wordsGo [] b := by
  intro a
  induction a with
  | nil =>
    intro cur b c hc
    rw [List.nil_append, wordsGo.eq_2, if_pos hc, wordsGo.eq_1]
    split <;> simp
  | cons x t ih =>
    intro cur b c hc
    rw [List.cons_append, wordsGo, wordsGo]
    split
    · split
      · exact ih _ _ _ hc
      · rw [ih _ _ _ hc]; rfl
    · exact ih _ _ _ hc
theorem wg_join : ∀ ws : List (List UInt8), (∀ x ∈ ws, x ≠ [] ∧ ∀ c ∈ x, Hand.blank c = false) → wordsGo [] (Lib.join ws [32]) = ws := by
  intro ws
  induction ws with
  | nil => intro _; rfl
  | cons x r ih =>
    intro h
    have hx := h x (by simp)
    have e1 : wordsGo [] x = [x] := by
      rw [wg_plain x [] hx.2]
      simp [hx.1]
    cases r with
    | nil => rw [Lib.join_one]; exact e1
    | cons y r' =>
      have e : Lib.join (x :: y :: r') [32] = x ++ 32 :: Lib.join (y :: r') [32] := by
        simp [Lib.join, List.intercalate]
      rw [e, wg_app x [] _ 32 (by decide), e1, ih (fun z hz => h z (by simp [hz]))]
      rfl
theorem dw_idem {α : Type} (p : α → Bool) : ∀ l : List α, (l.dropWhile p).dropWhile p = l.dropWhile p := by
  intro l
  induction l with
  | nil => rfl
  | cons c t ih =>
    simp only [List.dropWhile_cons]
    split
    · exact ih
    · next h => rw [List.dropWhile_cons, if_neg h]
theorem dw_none {α : Type} (p : α → Bool) : ∀ l : List α, (∀ c ∈ l, p c = false) → l.dropWhile p = l := by
  intro l h
  cases l with
  | nil => rfl
  | cons c t => rw [List.dropWhile_cons, if_neg (by rw [h c (by simp)]; simp)]
theorem trimL_idem (l cs : List UInt8) : Lib.trimLeftS (Lib.trimLeftS l cs) cs = Lib.trimLeftS l cs := dw_idem _ _
theorem trimR_idem (l cs : List UInt8) : Lib.trimRightS (Lib.trimRightS l cs) cs = Lib.trimRightS l cs := by
  unfold Lib.trimRightS
  rw [List.reverse_reverse, dw_idem]
theorem trim_word (l : List UInt8) (h : ∀ c ∈ l, Hand.blank c = false) : Lib.trimS l [32, 9] = l := by
  have hb : ∀ c ∈ l, List.contains [32, 9] c = false := by
    intro c hc
    have := h c hc
    rw [Hand.blank] at this
    rw [← this, Bool.eq_iff_iff]
    simp
  unfold Lib.trimS Lib.trimRightS Lib.trimLeftS
  rw [dw_none _ l.reverse (fun c hc => hb c (by simpa using hc)), List.reverse_reverse]
  exact dw_none _ _ hb
theorem trimR_consW (c : UInt8) (t : List UInt8) : Lib.trimRightS (c :: t) [32, 9] = if Lib.trimRightS t [32, 9] = [] then (if Hand.blank c = true then [] else [c]) else c :: Lib.trimRightS t [32, 9] := by
  unfold Lib.trimRightS
  rw [List.reverse_cons, List.dropWhile_append]
  by_cases h : (List.dropWhile (fun x => List.contains [32, 9] x) t.reverse) = []
  · rw [h]
    simp only [List.isEmpty_nil, if_true, List.reverse_nil]
    rw [List.dropWhile_cons, contains_blank]
    by_cases hc : Hand.blank c = true
    · simp [hc]
    · simp [hc]
  · have h2 : (List.dropWhile (fun x => List.contains [32, 9] x) t.reverse).isEmpty = false := by
      cases hh : List.dropWhile (fun x => List.contains [32, 9] x) t.reverse with
      | nil => exact absurd hh h
      | cons => rfl
    rw [h2, if_neg (by simp), if_neg (by simpa using h), List.reverse_append]
    rfl
theorem trimL_consW (c : UInt8) (t : List UInt8) : Lib.trimLeftS (c :: t) [32, 9] = if Hand.blank c = true then Lib.trimLeftS t [32, 9] else c :: t := by
  unfold Lib.trimLeftS
  rw [List.dropWhile_cons, contains_blank]
theorem trim_commW (l : List UInt8) : Lib.trimLeftS (Lib.trimRightS l [32, 9]) [32, 9] = Lib.trimRightS (Lib.trimLeftS l [32, 9]) [32, 9] := by
  induction l with
  | nil => rfl
  | cons c t ih =>
    rw [trimR_consW, trimL_consW]
    by_cases hc : Hand.blank c = true
    · rw [if_pos hc, if_pos hc]
      by_cases h : Lib.trimRightS t [32, 9] = []
      · rw [if_pos h, ← ih, h]
      · rw [if_neg h, trimL_consW, if_pos hc, ih]
    · rw [if_neg hc, if_neg hc, trimR_consW, if_neg hc]
      by_cases h : Lib.trimRightS t [32, 9] = []
      · rw [if_pos h, trimL_consW, if_neg hc]
      · rw [if_neg h, trimL_consW, if_neg hc]

def badL (p : List UInt8) : Bool := p.isEmpty || p == [46] || p == [46, 46]
def pathL (l : List UInt8) : Bool := (l.all fun c => plainI c.toNat) && (splG 47 [] l).all (fun p => !badL p) && decide ((l.length : Int) ≤ 100) && decide (((splG 47 [] l).length : Int) ≤ 8)
theorem parts_eq (s : ByteArray) : (partsB s).map (·.data.toList) = splG 47 [] s.data.toList := by
  unfold partsB
  rw [Lib.splitB_data]
  exact splitK_G 47 _
theorem pathV_eq (s : ByteArray) : pathV s = pathL s.data.toList := by
  unfold pathV pathL
  have e1 : (partsB s).all (fun p => !badPart p) = (splG 47 [] s.data.toList).all (fun p => !badL p) := by
    rw [← parts_eq, List.all_map]
    congr 1
    funext p
    simp only [badPart, badL, Function.comp_apply, ByteArray.toList_eq]
  have e2 : (partsB s).length = (splG 47 [] s.data.toList).length := by rw [← parts_eq, List.length_map]
  have e3 : s.data.toList.length = s.size := by rw [Array.length_toList]; rfl
  rw [e1, e2, e3]
theorem pathL_app (a b : List UInt8) (ha : pathL a = true) (hb : pathL b = true) :
    pathL (a ++ 47 :: b) = (decide (((a ++ 47 :: b).length : Int) ≤ 100) && decide (((2 + a.count 47 + b.count 47 : Nat) : Int) ≤ 8)) := by
  simp only [pathL, Bool.and_eq_true] at ha hb
  have e : (splG 47 [] (a ++ 47 :: b)).length = 2 + a.count 47 + b.count 47 := by
    rw [splG_app, List.length_append, splG_len, splG_len]
    omega
  unfold pathL
  rw [e, splG_app, List.all_append, List.all_append, List.all_cons, ha.1.1.1, hb.1.1.1, ha.1.1.2, hb.1.1.2, show plainI ((47 : UInt8).toNat : Int) = true by decide]
  rfl
theorem pathL_end (a : List UInt8) : pathL (a ++ [47]) = false := by
  unfold pathL
  rw [splG_app, List.all_append (xs := splG 47 [] a)]
  simp [splG, badL]
theorem pathL_front (a : List UInt8) : pathL (47 :: a) = false := by
  unfold pathL
  have := splG_app 47 a [] []
  rw [List.nil_append] at this
  rw [this]
  simp [splG, badL]
theorem pathL_up (a b : List UInt8) : pathL (a ++ 47 :: 46 :: 46 :: 47 :: b) = false := by
  unfold pathL
  rw [splG_app, show (46 : UInt8) :: 46 :: 47 :: b = [46, 46] ++ 47 :: b from rfl, splG_app]
  simp [splG, badL]
theorem pathL_ne {a : List UInt8} (h : pathL a = true) : a ≠ [] := by
  intro e
  subst e
  exact absurd h (by decide)
theorem plain_noblank (c : UInt8) (h : plainI c.toNat = true) : Hand.blank c = false := by
  cases hb : Hand.blank c with
  | false => rfl
  | true =>
    exfalso
    simp only [Hand.blank, Bool.or_eq_true, beq_iff_eq] at hb
    rcases hb with e | e <;> subst e <;> exact absurd h (by decide)
theorem pathL_plain {a : List UInt8} (h : pathL a = true) : ∀ c ∈ a, plainI c.toNat = true := by
  simp only [pathL, Bool.and_eq_true] at h
  exact fun c hc => List.all_eq_true.1 h.1.1.1 c hc
def sign (c : UInt8) : Prop := plainI c.toNat = true ∨ c = 37
theorem hexD_sign (m : Nat) (h : m < 16) : plainI (hexD m).toNat = true := by
  have : ∀ m : Fin 16, plainI (hexD m.1).toNat = true := by decide
  exact this ⟨m, h⟩
theorem quoteB_sign (c : UInt8) : ∀ d ∈ quoteB c, sign d := by
  intro d hd
  unfold quoteB at hd
  have hl := UInt8.toNat_lt c
  split at hd
  · next h =>
    rw [List.mem_singleton.1 hd]
    exact .inl h
  · simp only [List.mem_cons, List.not_mem_nil, or_false] at hd
    rcases hd with rfl | rfl | rfl
    · exact .inr rfl
    · exact .inl (hexD_sign _ (by omega))
    · exact .inl (hexD_sign _ (by omega))
theorem quoteB_pos (c : UInt8) : 1 ≤ (quoteB c).length := by
  unfold quoteB
  split <;> simp
theorem hexD_inj {a b : Nat} (ha : a < 16) (hb : b < 16) (h : hexD a = hexD b) : a = b := by
  have : ∀ a b : Fin 16, hexD a.1 = hexD b.1 → a = b := by decide
  have := this ⟨a, ha⟩ ⟨b, hb⟩ h
  simpa using this
theorem pct_no : plainI ((37 : UInt8).toNat : Int) = false := by decide
/-- Quoted bytes can be told apart. -/
theorem quote_inj : ∀ (a b : List UInt8), a.flatMap quoteB = b.flatMap quoteB → a = b := by
  intro a
  induction a with
  | nil =>
    intro b h
    cases b with
    | nil => rfl
    | cons c t =>
      have := congrArg List.length h
      have h2 := quoteB_pos c
      rw [List.flatMap_cons, List.length_append] at this
      simp at this
      omega
  | cons c t ih =>
    intro b h
    cases b with
    | nil =>
      have h2 := quoteB_pos c
      rw [List.flatMap_cons] at h
      rw [(List.append_eq_nil_iff.1 h).1] at h2
      simp at h2
    | cons d u =>
      rw [List.flatMap_cons, List.flatMap_cons] at h
      have hc := UInt8.toNat_lt c
      have hd := UInt8.toNat_lt d
      unfold quoteB at h
      by_cases h1 : plainI c.toNat = true <;> by_cases h2 : plainI d.toNat = true
      · rw [if_pos h1, if_pos h2] at h
        simp only [List.cons_append, List.nil_append, List.cons.injEq] at h
        rw [h.1, ih u h.2]
      · rw [if_pos h1, if_neg h2] at h
        simp only [List.cons_append, List.nil_append, List.cons.injEq] at h
        rw [h.1, pct_no] at h1
        exact absurd h1 (by simp)
      · rw [if_neg h1, if_pos h2] at h
        simp only [List.cons_append, List.nil_append, List.cons.injEq] at h
        rw [← h.1, pct_no] at h2
        exact absurd h2 (by simp)
      · rw [if_neg h1, if_neg h2] at h
        simp only [List.cons_append, List.nil_append, List.cons.injEq, true_and] at h
        have e1 := hexD_inj (by omega) (by omega) h.1
        have e2 := hexD_inj (by omega) (by omega) h.2.1
        have e : c = d := UInt8.toNat_inj.1 (by omega)
        rw [e, ih u h.2.2]
theorem quoteV_inj {s t : ByteArray} (h : quoteV s = quoteV t) : s = t := by
  unfold quoteV at h
  have key : ∀ x : ByteArray, (⟨(x.data.toList.flatMap quoteB).toArray⟩ : ByteArray) = ⟨#[37]⟩ → False := by
    intro x hx
    have h1 : x.data.toList.flatMap quoteB = [37] := by
      have := congrArg (fun b : ByteArray => b.data.toList) hx
      simpa using this
    cases hl : x.data.toList with
    | nil => rw [hl] at h1; simp at h1
    | cons c u =>
      rw [hl, List.flatMap_cons] at h1
      unfold quoteB at h1
      split at h1
      · next hp =>
        simp only [List.cons_append, List.nil_append, List.cons.injEq] at h1
        rw [h1.1, pct_no] at hp
        exact absurd hp (by simp)
      · simp at h1
  by_cases h1 : s.size = 0 <;> by_cases h2 : t.size = 0
  · have e1 : s.data.toList = [] := List.eq_nil_of_length_eq_zero (by rw [len_data]; exact h1)
    have e2 : t.data.toList = [] := List.eq_nil_of_length_eq_zero (by rw [len_data]; exact h2)
    exact ba_ext (by rw [e1, e2])
  · rw [if_pos h1, if_neg h2] at h
    exact (key t h.symm).elim
  · rw [if_neg h1, if_pos h2] at h
    exact (key s h).elim
  · rw [if_neg h1, if_neg h2] at h
    have := congrArg (fun b : ByteArray => b.data.toList) h
    exact ba_ext (quote_inj _ _ (by simpa using this))
theorem quote_path {s : ByteArray} (h : pathV s = true) : quoteV s = s := by
  unfold pathV at h
  simp only [Bool.and_eq_true] at h
  have hall := h.1.1.1
  have hne : s.size ≠ 0 := by
    intro h0
    have e0 : s.data.toList = [] := List.eq_nil_of_length_eq_zero (by rw [len_data]; exact h0)
    have es : s = ⟨#[]⟩ := ba_ext e0
    have hp := h.1.1.2
    rw [es] at hp
    revert hp
    decide +kernel
  unfold quoteV
  rw [if_neg hne]
  apply ba_ext
  have : ∀ l : List UInt8, (l.all fun c => plainI c.toNat) = true → l.flatMap quoteB = l := by
    intro l
    induction l with
    | nil => intro _; rfl
    | cons c t ih =>
      intro hl
      rw [List.all_cons, Bool.and_eq_true] at hl
      rw [List.flatMap_cons, ih hl.2]
      unfold quoteB
      rw [if_pos hl.1]
      rfl
  simpa using this _ hall

theorem data_bytes (l : List UInt8) : (Hand.bytesOf l).data.toList = l := rfl
theorem wordsV_mem (s : ByteArray) : ∀ x ∈ wordsV s, x.data.toList ≠ [] ∧ ∀ c ∈ x.data.toList, Hand.blank c = false := by
  intro x hx
  obtain ⟨y, hy, rfl⟩ := List.mem_map.1 hx
  rw [data_bytes]
  exact wg_words _ [] (by simp) y hy
theorem wordsV_word (x : ByteArray) (h : x.data.toList ≠ [] ∧ ∀ c ∈ x.data.toList, Hand.blank c = false) : wordsV x = [x] := by
  have e := wg_plain x.data.toList [] h.2
  simp [h.1] at e
  unfold wordsV
  rw [e]
  rfl
theorem wordsV_join (ws : List ByteArray) (h : ∀ x ∈ ws, x.data.toList ≠ [] ∧ ∀ c ∈ x.data.toList, Hand.blank c = false) : wordsV (joinV ws) = ws := by
  unfold wordsV joinV
  have := wg_join (ws.map (·.data.toList)) (by
    intro x hx
    obtain ⟨y, hy, rfl⟩ := List.mem_map.1 hx
    exact h y hy)
  show (wordsGo [] (Lib.join (ws.map (·.data.toList)) [32])).map Hand.bytesOf = ws
  rw [this, List.map_map]
  have : (Hand.bytesOf ∘ fun x : ByteArray => x.data.toList) = id := by
    funext x
    exact tl_inj (by rw [tl, tl]; rfl)
  rw [this, List.map_id]
theorem wordsV_app (s t : ByteArray) : wordsV ((s ++ (⟨#[32]⟩ : ByteArray)) ++ t) = wordsV s ++ wordsV t := by
  unfold wordsV
  have e : ((s ++ (⟨#[32]⟩ : ByteArray)) ++ t).data.toList = s.data.toList ++ 32 :: t.data.toList := by
    simp [ByteArray.data_append, Array.toList_append]
  rw [e, wg_app _ _ _ 32 (by decide), List.map_append]
theorem trimV_word (x : ByteArray) (h : ∀ c ∈ x.data.toList, Hand.blank c = false) : trimV x = x := by
  apply tl_inj
  rw [tl, tl]
  exact trim_word _ h
theorem trimS_idem (l : List UInt8) : Lib.trimS (Lib.trimS l [32, 9]) [32, 9] = Lib.trimS l [32, 9] := by
  unfold Lib.trimS
  have hc : ∀ l, Lib.trimLeftS (Lib.trimRightS l [32, 9]) [32, 9] = Lib.trimRightS (Lib.trimLeftS l [32, 9]) [32, 9] := trim_commW
  rw [hc (Lib.trimLeftS _ _), trimL_idem, hc, trimR_idem]
theorem trimV_idem (s : ByteArray) : trimV (trimV s) = trimV s := by
  apply tl_inj
  rw [tl, tl]
  exact trimS_idem _
theorem trimV_size (s : ByteArray) : (trimV s).size ≤ s.size := by
  rw [← len_data, ← len_data]
  show (Lib.trimS s.data.toList [32, 9]).length ≤ _
  unfold Lib.trimS Lib.trimLeftS Lib.trimRightS
  refine Nat.le_trans (List.dropWhile_sublist _).length_le ?_
  rw [List.length_reverse]
  refine Nat.le_trans (List.dropWhile_sublist _).length_le ?_
  rw [List.length_reverse]
  exact Nat.le_refl _
theorem wg_size : ∀ (l cur : List UInt8), ((wordsGo cur l).map List.length).sum ≤ cur.length + l.length ∧ (Lib.join (wordsGo cur l) [32]).length ≤ cur.length + l.length := by
  intro l
  induction l with
  | nil =>
    intro cur
    rw [wordsGo]
    split
    · simp [Lib.join, List.intercalate]
    · simp [Lib.join, List.intercalate]
  | cons c t ih =>
    intro cur
    rw [wordsGo]
    split
    · split
      · have := ih []
        simp only [List.length_cons, List.length_nil] at this ⊢
        omega
      · have := ih []
        cases hw : wordsGo [] t with
        | nil => simp [Lib.join, List.intercalate]; try omega
        | cons y r =>
          have e : Lib.join (cur.reverse :: y :: r) [32] = cur.reverse ++ 32 :: Lib.join (y :: r) [32] := by
            simp [Lib.join, List.intercalate]
          rw [e]
          rw [hw] at this
          simp only [List.length_cons, List.length_nil, List.map_cons, List.sum_cons, List.length_append, List.length_reverse] at this ⊢
          omega
    · have := ih (c :: cur)
      simp only [List.length_cons] at this ⊢
      omega
theorem joinV_size (s : ByteArray) : (joinV (wordsV s)).size ≤ s.size := by
  rw [← len_data, ← len_data]
  show (Lib.join ((wordsV s).map (·.data.toList)) [32]).length ≤ _
  have e : (wordsV s).map (·.data.toList) = wordsGo [] s.data.toList := by
    unfold wordsV
    rw [List.map_map]
    exact List.map_id _
  rw [e]
  have := (wg_size s.data.toList []).2
  simpa using this
theorem wordsV_len (s : ByteArray) : (wordsV s).length ≤ s.size + 1 := by
  have := wordsGo_len s.data.toList []
  rw [len_data] at this
  unfold wordsV
  rw [List.length_map]
  omega
theorem mem_sum {l : List Nat} {n : Nat} (h : n ∈ l) : n ≤ l.sum := by
  induction l with
  | nil => simp at h
  | cons a t ih =>
    rw [List.sum_cons]
    rcases List.mem_cons.1 h with e | e
    · omega
    · have := ih e
      omega
theorem wordsV_size (s : ByteArray) : ∀ x ∈ wordsV s, x.size ≤ s.size := by
  intro x hx
  obtain ⟨y, hy, rfl⟩ := List.mem_map.1 hx
  have h1 := (wg_size s.data.toList []).1
  have h2 : y.length ≤ ((wordsGo [] s.data.toList).map List.length).sum := mem_sum (List.mem_map_of_mem hy)
  rw [← len_data, ← len_data, data_bytes]
  simp only [List.length_nil, Nat.zero_add] at h1
  omega
theorem data_app3 (s m t : ByteArray) : ((s ++ m) ++ t).data.toList = s.data.toList ++ m.data.toList ++ t.data.toList := by
  simp [ByteArray.data_append, Array.toList_append]
theorem data_app2 (s t : ByteArray) : (s ++ t).data.toList = s.data.toList ++ t.data.toList := by
  simp [ByteArray.data_append, Array.toList_append]
theorem words_ok (s : ByteArray) (h : s.size ≤ 100000) : text_Words.f s = some (wordsV s) := by
  show Hand.text_Words.f s = _
  unfold Hand.text_Words.f
  rw [if_pos h]
theorem trim_ok (s : ByteArray) (h : s.size ≤ 100000) : text_Trim.f s = some (trimV s) := by
  show Hand.text_Trim.f s = _
  unfold Hand.text_Trim.f
  rw [if_pos h]
theorem lines_ok (s : ByteArray) (h : s.size ≤ 100000) : text_Lines.f s = some (linesV s) := by
  show Hand.text_Lines.f s = _
  unfold Hand.text_Lines.f
  rw [if_pos h]
theorem path_ok (s : ByteArray) (h : s.size ≤ 100000) : text_Path.f s = some (pathV s) := by
  show Hand.text_Path.f s = _
  unfold Hand.text_Path.f
  rw [if_pos h]
theorem quote_ok (s : ByteArray) (h : s.size ≤ 100000) : text_Quote.f s = some (quoteV s) := by
  show Hand.text_Quote.f s = _
  unfold Hand.text_Quote.f
  rw [if_pos h]
theorem join_ok (l : List ByteArray) (h : l.length ≤ 100000) (h2 : (joinV l).size ≤ 100000000) : text_Join.f l = some (joinV l) := by
  show Hand.text_Join.f l = _
  unfold Hand.text_Join.f
  rw [if_pos ⟨h, h2⟩]
theorem number_ok (s : ByteArray) (h : s.size ≤ 100000) : text_Number.f s = some (numV s) := by
  unfold text_Number.f
  rw [if_pos h]
theorem unq_ok (s : ByteArray) (h : s.size ≤ 100000) : text_Unquote.f s = some (unqP (unqV s)) := by
  unfold text_Unquote.f
  rw [if_pos h]
end Go.Proofs.YtocpfgdajomjiaaDoor.PureR
