import Derived.Test.YtocpfgdajomjiaaDoorPureText
import Derived.Test.YtocpfgdajomjiaaDoorP10
namespace Go.Proofs.YtocpfgdajomjiaaDoor.Pure
open Go.RowKit Go.Proofs.YtocpfgdajomjiaaDoor.P Go.Proofs.YtocpfgdajomjiaaDoor.Hand Go.Proofs.YtocpfgdajomjiaaDoorW.PrintWords
set_option linter.unusedVariables false
set_option linter.unusedSimpArgs false

theorem ext_seg (s : ByteArray) (a b : Nat) : s.extract a b = Hand.bytesOf ((s.data.toList.take b).drop a) := by
  apply ba_ext
  rw [ByteArray.data_extract, Array.toList_extract, List.extract_eq_take_drop]
  show _ = (s.data.toList.take b).drop a
  rw [List.drop_take]
theorem seg_succ {l : List UInt8} {a i : Nat} (ha : a ≤ i) (hi : i < l.length) : (l.take (i + 1)).drop a = (l.take i).drop a ++ [l[i]] := by
  rw [List.take_succ_eq_append_getElem hi, List.drop_append_of_le_length (by rw [List.length_take]; omega)]
theorem ref_lines (s : ByteArray) (hs : s.size ≤ 100000) : ∀ (n i a : Nat) (out : List ByteArray), i + n = s.data.toList.length → a ≤ i → out.length ≤ i → out ++ (linesGo ((s.data.toList.take i).drop a).reverse (s.data.toList.drop i)).map Hand.bytesOf = linesV s →
    Ev fun k => cooperageref1_Lines.l0 k s out (a : Int) (i : Int) = some (linesV s) := by
  have hl := len_data s
  intro n
  induction n with
  | zero =>
    intro i a out hi ha ho h
    rw [List.drop_eq_nil_of_le (i := i) (by omega), List.take_of_length_le (by omega), linesGo] at h
    refine Ev.up (Ev.of fun k => ?_)
    simp only [cooperageref1_Lines.l0]
    rw [if_neg (by omega)]
    by_cases h2 : a < s.size
    · rw [if_pos (by omega), if_pos (by omega), if_pos (by omega), if_pos (by omega), Int.toNat_natCast, ext_seg, List.take_of_length_le (by omega)]
      rw [if_neg (by
        intro e
        have := congrArg List.length e
        simp at this
        omega)] at h
      rw [← h]
      simp
    · rw [if_neg (by omega)]
      rw [if_pos (by rw [List.drop_eq_nil_of_le (by omega)]; rfl)] at h
      rw [← h]
      simp
  | succ n ih =>
    intro i a out hi ha ho h
    have hlt : i < s.data.toList.length := by omega
    rw [List.drop_eq_getElem_cons hlt] at h
    by_cases e : s.data.toList[i] = 10
    · rw [linesGo, if_pos e, List.reverse_reverse, List.map_cons] at h
      refine Ev.up ((ih (i + 1) (i + 1) (out ++ [s.extract a i]) (by omega) (by omega) (by simp; omega) ?_).mp fun k hk => ?_)
      · rw [List.drop_eq_nil_of_le (by rw [List.length_take]; omega), ← h, ext_seg]
        simp
      · simp only [cooperageref1_Lines.l0]
        rw [if_pos (by omega), if_pos (by omega), bt_nat s i hlt, if_pos (by rw [e]; rfl), if_pos (by omega), if_pos (by omega), if_pos (by omega), if_pos (by omega), w64s i (by omega), Int.toNat_natCast, Int.toNat_natCast]
        exact hk
    · rw [linesGo, if_neg e] at h
      refine Ev.up ((ih (i + 1) a out (by omega) (by omega) (by omega) ?_).mp fun k hk => ?_)
      · rw [seg_succ ha hlt, List.reverse_append]
        exact h
      · simp only [cooperageref1_Lines.l0]
        rw [if_pos (by omega), if_pos (by omega), bt_nat s i hlt, if_neg (by intro h2; exact e (UInt8.toNat_inj.1 (by show _ = 10; omega))), w64s i (by omega)]
        exact hk
theorem refLines_f (s : ByteArray) (hs : s.size ≤ 100000) : Ev fun k => cooperageref1_Lines.f k s = some (linesV s) :=
  ref_lines s hs s.data.toList.length 0 0 [] (by omega) (by omega) (by simp) (by simp [linesV])

theorem rblank_f (c : UInt8) : cooperageref1_blank.f (c.toNat : Int) = some (Hand.blank c) := by
  unfold cooperageref1_blank.f Hand.blank
  by_cases h : c = 32
  · subst h; rfl
  · rw [if_neg (fun e => h (UInt8.toNat_inj.1 (show c.toNat = 32 by omega)))]
    congr 1
    rw [Bool.eq_iff_iff]
    simp only [beq_iff_eq, Bool.or_eq_true, h, false_or]
    constructor
    · intro e; exact UInt8.toNat_inj.1 (show c.toNat = 9 by omega)
    · intro e; rw [e]; rfl
theorem ref_words (s : ByteArray) (hs : s.size ≤ 100000) : ∀ (n i : Nat) (word : ByteArray) (out : List ByteArray), i + n = s.data.toList.length → word.size ≤ i → out.length ≤ i → out ++ (wordsGo word.data.toList.reverse (s.data.toList.drop i)).map Hand.bytesOf = wordsV s →
    Ev fun k => cooperageref1_Words.l0 k s out word (i : Int) = some (wordsV s) := by
  have hl := len_data s
  intro n
  induction n with
  | zero =>
    intro i word out hi hw ho h
    rw [List.drop_eq_nil_of_le (by omega), wordsGo] at h
    refine Ev.up (Ev.of fun k => ?_)
    simp only [cooperageref1_Words.l0]
    rw [if_neg (by omega)]
    by_cases e : word.toList = []
    · rw [if_pos e]
      rw [tl] at e
      rw [e, if_pos (by rfl)] at h
      rw [← h]
      simp
    · rw [if_neg e, if_pos (by omega)]
      rw [tl] at e
      rw [if_neg (by simpa using e), List.reverse_reverse] at h
      rw [← h]
      rfl
  | succ n ih =>
    intro i word out hi hw ho h
    have hlt : i < s.data.toList.length := by omega
    rw [List.drop_eq_getElem_cons hlt, wordsGo] at h
    have hbl := rblank_f s.data.toList[i]
    rw [← bt_nat s i hlt] at hbl
    by_cases hb : Hand.blank s.data.toList[i] = true
    · rw [if_pos hb] at h
      by_cases e : word.toList = []
      · rw [if_pos (by rw [tl] at e; rw [e]; rfl)] at h
        refine Ev.up ((ih (i + 1) ⟨#[]⟩ out (by omega) (by show 0 ≤ _; omega) (by omega) h).mp fun k hk => ?_)
        simp only [cooperageref1_Words.l0]
        rw [if_pos (by omega), if_pos (by omega), hbl, Option.bind_some, if_pos hb, if_pos e, w64s i (by omega)]
        exact hk
      · rw [if_neg (by rw [tl] at e; simpa using e), List.reverse_reverse, List.map_cons] at h
        refine Ev.up ((ih (i + 1) ⟨#[]⟩ (out ++ [word]) (by omega) (by show 0 ≤ _; omega) (by simp; omega) ?_).mp fun k hk => ?_)
        · rw [← h]
          simp only [List.append_assoc, List.cons_append, List.nil_append]
          rfl
        · simp only [cooperageref1_Words.l0]
          rw [if_pos (by omega), if_pos (by omega), hbl, Option.bind_some, if_pos hb, if_neg e, if_pos (by omega), w64s i (by omega)]
          exact hk
    · rw [if_neg hb] at h
      have hx : s.extract i (i + 1) = Hand.bytesOf [s.data.toList[i]] := by
        rw [ext_seg, seg_succ (Nat.le_refl i) hlt, List.drop_eq_nil_of_le (by rw [List.length_take]; omega)]
        rfl
      refine Ev.up ((ih (i + 1) (word ++ s.extract i (i + 1)) out (by omega) (by rw [hx, ByteArray.size_append]; show word.size + 1 ≤ _; omega) (by omega) ?_).mp fun k hk => ?_)
      · rw [hx, ByteArray.data_append, Array.toList_append, List.reverse_append]
        exact h
      · simp only [cooperageref1_Words.l0]
        rw [if_pos (by omega), if_pos (by omega), hbl, Option.bind_some, if_neg hb, w64s i (by omega), if_pos (by omega), if_pos (by omega), Int.toNat_natCast, Int.toNat_natCast, if_pos (by rw [hx]; show word.size + 1 ≤ _; omega)]
        exact hk
theorem refWords_f (s : ByteArray) (hs : s.size ≤ 100000) : Ev fun k => cooperageref1_Words.f k s = some (wordsV s) :=
  ref_words s hs s.data.toList.length 0 ⟨#[]⟩ [] (by omega) (by show 0 ≤ _; omega) (by simp) (by simp [wordsV])

/-! #### Join -/
def jl (l : List ByteArray) : List UInt8 := Lib.join (l.map (·.data.toList)) [32]
theorem jl_snoc (l : List ByteArray) (y : ByteArray) (h : l ≠ []) : jl (l ++ [y]) = jl l ++ [32] ++ y.data.toList := by
  cases l with
  | nil => exact absurd rfl h
  | cons x t =>
    unfold jl
    rw [List.cons_append, List.map_cons, List.map_cons, Lib.join_cons, Lib.join_cons]
    simp [Lib.joinTail]
theorem jl_len (l : List ByteArray) (h : ∀ x ∈ l, x.size ≤ 1000) : (jl l).length ≤ 1001 * l.length := by
  cases l with
  | nil => simp [jl, Lib.join_nil]
  | cons x t =>
    unfold jl
    rw [List.map_cons, Lib.join_cons, List.length_append, len_data]
    have hx := h x List.mem_cons_self
    have : ∀ t : List ByteArray, (∀ x ∈ t, x.size ≤ 1000) → (Lib.joinTail [32] (t.map (·.data.toList))).length ≤ 1001 * t.length := by
      intro t
      induction t with
      | nil => intro _; simp [Lib.joinTail]
      | cons y u ih =>
        intro hy
        have h1 := ih fun z hz => hy z (List.mem_cons_of_mem _ hz)
        have h2 := hy y List.mem_cons_self
        unfold Lib.joinTail at h1 ⊢
        rw [List.map_cons, List.map_cons, List.flatten_cons, List.length_append, List.length_append, len_data, List.length_cons]
        try simp only [List.length_singleton]
        have h4 : ([32] ++ y.data.toList).length = 1 + y.size := by rw [List.length_append, len_data]; rfl
        try rw [h4]
        try simp only [List.length_cons, List.length_nil]
        omega
    have h3 := this t fun z hz => h z (List.mem_cons_of_mem _ hz)
    rw [List.length_cons]
    omega
theorem ref_join (l : List ByteArray) (hl : l.length ≤ 1000) (hx : ∀ x ∈ l, x.size ≤ 1000) : ∀ (n i : Nat) (acc : ByteArray), i + n = l.length → acc.data.toList = jl (l.take i) → Ev fun k => cooperageref1_Join.l0 k l acc (i : Int) = some (joinV l) := by
  intro n
  induction n with
  | zero =>
    intro i acc hi ha
    rw [List.take_of_length_le (by omega)] at ha
    refine Ev.up (Ev.of fun k => ?_)
    simp only [cooperageref1_Join.l0]
    rw [if_neg (by omega)]
    congr 1
    exact ba_ext ha
  | succ n ih =>
    intro i acc hi ha
    have hlt : i < l.length := by omega
    have h1 := hx _ (List.getElem_mem hlt)
    have h2 : acc.size ≤ 1001 * 1000 := by
      rw [← len_data, ha]
      have := jl_len (l.take i) fun x hxx => hx x (List.mem_of_mem_take hxx)
      have h3 : (l.take i).length ≤ 1000 := by rw [List.length_take]; omega
      omega
    by_cases h0 : i = 0
    · subst h0
      refine Ev.up ((ih 1 (acc ++ l[0]) (by omega) ?_).mp fun k h => ?_)
      · rw [ByteArray.data_append, Array.toList_append, ha, List.take_succ_eq_append_getElem hlt]
        simp [jl, Lib.join_nil, Lib.join_one]
      · have hr := rdo hlt
        simp only [cooperageref1_Join.l0]
        rw [if_pos (by omega), if_neg (by omega), if_pos (by omega), hr, if_pos (by omega), w64s 0 (by omega)]
        exact h
    · refine Ev.up ((ih (i + 1) ((acc ++ (⟨#[32]⟩ : ByteArray)) ++ l[i]) (by omega) ?_).mp fun k h => ?_)
      · rw [ByteArray.data_append, Array.toList_append, ByteArray.data_append, Array.toList_append, ha, List.take_succ_eq_append_getElem hlt, jl_snoc _ _ (by
          intro e
          have := congrArg List.length e
          rw [List.length_take, List.length_nil] at this
          omega)]
      · have hr := rdo hlt
        have hsz : (acc ++ (⟨#[32]⟩ : ByteArray)).size = acc.size + 1 := by rw [ByteArray.size_append]; rfl
        simp only [cooperageref1_Join.l0]
        rw [if_pos (by omega), if_pos (by omega), if_pos (by omega), if_pos (by omega), hr, if_pos (by rw [hsz]; omega), w64s i (by omega)]
        exact h
theorem refJoin_f (l : List ByteArray) (hl : l.length ≤ 1000) (hx : ∀ x ∈ l, x.size ≤ 1000) : Ev fun k => cooperageref1_Join.f k l = some (joinV l) :=
  ref_join l hl hx l.length 0 ⟨#[]⟩ (by omega) (by simp [jl, Lib.join_nil])

/-! #### Trim -/
theorem trimR_cons (c : UInt8) (t : List UInt8) : Lib.trimRightS (c :: t) [32, 9] = if Lib.trimRightS t [32, 9] = [] then (if Hand.blank c = true then [] else [c]) else c :: Lib.trimRightS t [32, 9] := by
  unfold Lib.trimRightS
  rw [List.reverse_cons, List.dropWhile_append]
  by_cases h : (List.dropWhile (fun x => List.contains [32, 9] x) t.reverse) = []
  · rw [h]
    simp only [List.isEmpty_nil, if_true, List.reverse_nil]
    rw [List.dropWhile_cons, contains_blank]
    by_cases hc : Hand.blank c = true
    · simp [hc]
    · simp [hc]
  · have h2 : (List.dropWhile (fun x => List.contains [32, 9] x) t.reverse).isEmpty = false := by
      cases hh : List.dropWhile (fun x => List.contains [32, 9] x) t.reverse with
      | nil => exact absurd hh h
      | cons => rfl
    rw [h2, if_neg (by simp), if_neg (by simpa using h), List.reverse_append]
    rfl
theorem trimL_cons (c : UInt8) (t : List UInt8) : Lib.trimLeftS (c :: t) [32, 9] = if Hand.blank c = true then Lib.trimLeftS t [32, 9] else c :: t := by
  unfold Lib.trimLeftS
  rw [List.dropWhile_cons, contains_blank]
theorem trim_comm (l : List UInt8) : Lib.trimLeftS (Lib.trimRightS l [32, 9]) [32, 9] = Lib.trimRightS (Lib.trimLeftS l [32, 9]) [32, 9] := by
  induction l with
  | nil => rfl
  | cons c t ih =>
    rw [trimR_cons, trimL_cons]
    by_cases hc : Hand.blank c = true
    · rw [if_pos hc, if_pos hc]
      by_cases h : Lib.trimRightS t [32, 9] = []
      · rw [if_pos h, ← ih, h]
      · rw [if_neg h, trimL_cons, if_pos hc, ih]
    · rw [if_neg hc, if_neg hc, trimR_cons, if_neg hc]
      by_cases h : Lib.trimRightS t [32, 9] = []
      · rw [if_pos h, trimL_cons, if_neg hc]
      · rw [if_neg h, trimL_cons, if_neg hc]

theorem trimR_snoc (l : List UInt8) (c : UInt8) : Lib.trimRightS (l ++ [c]) [32, 9] = if Hand.blank c = true then Lib.trimRightS l [32, 9] else l ++ [c] := by
  unfold Lib.trimRightS
  rw [List.reverse_append]
  show (List.dropWhile _ (c :: l.reverse)).reverse = _
  rw [List.dropWhile_cons, contains_blank]
  by_cases h : Hand.blank c = true
  · rw [if_pos h, if_pos h]
  · rw [if_neg h, if_neg h]
    simp
theorem ref_trimR : ∀ (n : Nat) (s : ByteArray), s.data.toList.length = n → n ≤ 100000 → Ev fun k => cooperageref1_Trim.l1 k s = some ⟨(Lib.trimRightS s.data.toList [32, 9]).toArray⟩ := by
  intro n
  induction n with
  | zero =>
    intro s hs _
    have e : s.data.toList = [] := List.eq_nil_of_length_eq_zero hs
    refine Ev.up (Ev.of fun k => ?_)
    simp only [cooperageref1_Trim.l1]
    rw [if_pos (by rw [tl, e])]
    congr 1
    exact ba_ext (by rw [e]; rfl)
  | succ n ih =>
    intro s hs hn
    have hl := len_data s
    have hne : s.data.toList ≠ [] := by
      intro e
      rw [e] at hs
      simp at hs
    have hlast : n < s.data.toList.length := by omega
    have hsplit : s.data.toList = s.data.toList.take n ++ [s.data.toList[n]] := by
      rw [← List.take_succ_eq_append_getElem hlast, List.take_of_length_le (by omega)]
    have hbl := rblank_f s.data.toList[n]
    rw [← bt_nat s n hlast] at hbl
    have hw : wrap64 ((s.size : Int) - 1) = (n : Int) := by rw [w64 (by omega) (by omega)]; omega
    have hx : s.extract 0 n = Hand.bytesOf (s.data.toList.take n) := by
      rw [ext_seg]
      rfl
    by_cases hb : Hand.blank s.data.toList[n] = true
    · refine Ev.up ((ih (s.extract 0 n) (by rw [hx]; show (s.data.toList.take n).length = n; rw [List.length_take]; omega) (by omega)).mp fun k h => ?_)
      simp only [cooperageref1_Trim.l1]
      rw [if_neg (by rw [tl]; exact hne), hw, if_pos (by omega), if_pos (by omega), hbl, Option.bind_some, if_pos hb, if_pos (by omega), Int.toNat_natCast, h, hx]
      congr 2
      show (Lib.trimRightS (s.data.toList.take n) [32, 9]).toArray = _
      conv => rhs; rw [hsplit, trimR_snoc, if_pos hb]
    · refine Ev.up (Ev.of fun k => ?_)
      simp only [cooperageref1_Trim.l1]
      rw [if_neg (by rw [tl]; exact hne), hw, if_pos (by omega), if_pos (by omega), hbl, Option.bind_some, if_neg hb]
      congr 1
      apply ba_ext
      show _ = Lib.trimRightS s.data.toList [32, 9]
      conv => rhs; rw [hsplit, trimR_snoc, if_neg hb, ← hsplit]

theorem ref_trimL : ∀ (n : Nat) (s : ByteArray), s.data.toList.length = n → n ≤ 100000 → Ev fun k => cooperageref1_Trim.l0 k s = some ⟨(Lib.trimRightS (Lib.trimLeftS s.data.toList [32, 9]) [32, 9]).toArray⟩ := by
  intro n
  induction n with
  | zero =>
    intro s hs _
    have e : s.data.toList = [] := List.eq_nil_of_length_eq_zero hs
    refine Ev.up (Ev.up ((ref_trimR 0 s hs (by omega)).mp fun k h => ?_))
    simp only [cooperageref1_Trim.l0, cooperageref1_Trim.j1]
    rw [if_pos (by rw [tl, e]), h, e]
    rfl
  | succ n ih =>
    intro s hs hn
    have hl := len_data s
    have hne : s.data.toList ≠ [] := by
      intro e
      rw [e] at hs
      simp at hs
    have h0 : 0 < s.data.toList.length := by omega
    have hcons : s.data.toList = s.data.toList[0] :: s.data.toList.drop 1 := by
      have := List.drop_eq_getElem_cons h0
      simpa using this
    have hbl := rblank_f s.data.toList[0]
    rw [← bt_nat s 0 h0] at hbl
    have hbl' : cooperageref1_blank.f (bt s 0) = some (Hand.blank s.data.toList[0]) := hbl
    have hx : s.extract 1 s.size = Hand.bytesOf (s.data.toList.drop 1) := (ext_drop s 1).symm
    by_cases hb : Hand.blank s.data.toList[0] = true
    · refine Ev.up ((ih (s.extract 1 s.size) (by rw [hx]; show (s.data.toList.drop 1).length = n; rw [List.length_drop]; omega) (by omega)).mp fun k h => ?_)
      simp only [cooperageref1_Trim.l0]
      rw [if_neg (by rw [tl]; exact hne), if_pos (by omega), hbl', Option.bind_some, if_pos hb, if_pos (by omega), h, hx]
      congr 2
      show (Lib.trimRightS (Lib.trimLeftS (s.data.toList.drop 1) [32, 9]) [32, 9]).toArray = _
      conv => rhs; rw [hcons, trimL_cons, if_pos hb]
    · refine Ev.up (Ev.up ((ref_trimR (n + 1) s hs hn).mp fun k h => ?_))
      simp only [cooperageref1_Trim.l0, cooperageref1_Trim.j1]
      rw [if_neg (by rw [tl]; exact hne), if_pos (by omega), hbl', Option.bind_some, if_neg hb, h]
      congr 2
      conv => rhs; rw [hcons, trimL_cons, if_neg hb, ← hcons]
theorem refTrim_f (s : ByteArray) (hs : s.size ≤ 100000) : Ev fun k => cooperageref1_Trim.f k s = some (trimV s) := by
  refine (ref_trimL s.data.toList.length s rfl (by rw [len_data]; exact hs)).mp fun k h => ?_
  unfold cooperageref1_Trim.f
  rw [h]
  unfold trimV Lib.trimS
  rw [trim_comm]

/-! #### The law -/
theorem small_loop (l : List ByteArray) (hl : l.length ≤ 40) : ∀ (n i : Nat), i + n = l.length → Ev fun k => cooperagelaw1_small.l0 k l (i : Int) = some ((l.drop i).all fun x => decide (x.size ≤ 300)) := by
  intro n
  induction n with
  | zero =>
    intro i hi
    refine Ev.up (Ev.of fun k => ?_)
    simp only [cooperagelaw1_small.l0]
    rw [if_neg (by omega), List.drop_eq_nil_of_le (by omega)]
    rfl
  | succ n ih =>
    intro i hi
    have hlt : i < l.length := by omega
    have hr := rdo hlt
    by_cases h : l[i].size ≤ 300
    · refine Ev.up ((ih (i + 1) (by omega)).mp fun k hk => ?_)
      simp only [cooperagelaw1_small.l0]
      rw [if_pos (by omega), if_pos (by omega), hr, if_neg (by omega), w64s i (by omega), hk, List.drop_eq_getElem_cons hlt, List.all_cons, decide_eq_true h]
      rfl
    · refine Ev.up (Ev.of fun k => ?_)
      simp only [cooperagelaw1_small.l0]
      rw [if_pos (by omega), if_pos (by omega), hr, if_pos (by omega), List.drop_eq_getElem_cons hlt, List.all_cons, decide_eq_false h]
      rfl
theorem small_f (l : List ByteArray) : Ev fun k => cooperagelaw1_small.f k l = some (decide (l.length ≤ 40) && l.all fun x => decide (x.size ≤ 300)) := by
  by_cases h : l.length ≤ 40
  · refine (small_loop l h l.length 0 (by omega)).mp fun k hk => ?_
    unfold cooperagelaw1_small.f
    rw [if_neg (by omega), decide_eq_true h]
    exact hk
  · refine Ev.of fun k => ?_
    unfold cooperagelaw1_small.f
    rw [if_pos (by omega), decide_eq_false h]
    rfl

theorem TextCuts : ∀ (s : ByteArray), s.size ≤ 140737488351232 → ∀ (l : List ByteArray), ∃ k, cooperagelaw1_TextCuts.f k s l = some true := by
  intro s _ l
  have hsm := small_f l
  cases hb : (decide (l.length ≤ 40) && l.all fun x => decide (x.size ≤ 300)) with
  | true =>
    rw [hb] at hsm
    rw [Bool.and_eq_true, decide_eq_true_eq, List.all_eq_true] at hb
    by_cases hs : s.size ≤ 1000
    · have hx : ∀ x ∈ l, x.size ≤ 1000 := fun x h => by have := of_decide_eq_true (hb.2 x h); omega
      have h1 : (linesV s).length ≤ 100000 := by
        have := linesGo_len s.data.toList []
        rw [len_data] at this
        unfold linesV
        rw [List.length_map]
        omega
      have h2 : (wordsV s).length ≤ 100000 := by
        have := wordsGo_len s.data.toList []
        rw [len_data] at this
        unfold wordsV
        rw [List.length_map]
        omega
      have hjoin : text_Join.f l = some (joinV l) := by
        have e : (joinV l).size = (jl l).length := by
          show (jl l).toArray.size = _
          rw [List.size_toArray]
        have hjl := jl_len l hx
        unfold text_Join.f
        rw [if_pos ⟨by omega, by omega⟩]
      have hj : Ev fun k => cooperagelaw1_TextCuts.j0 k s l true false = some true := by
        refine Ev.up (((refLines_f s (by omega)).and ((same_f _ h1).and ((refWords_f s (by omega)).and ((same_f _ h2).and ((refJoin_f l (by omega) hx).and (refTrim_f s (by omega))))))).mp fun k h => ?_)
        simp only [cooperagelaw1_TextCuts.j0]
        have e1 : text_Lines.f s = some (linesV s) := by unfold text_Lines.f; rw [if_pos (by omega)]
        have e2 : text_Words.f s = some (wordsV s) := by unfold text_Words.f; rw [if_pos (by omega)]
        have e3 : text_Trim.f s = some (trimV s) := by unfold text_Trim.f; rw [if_pos (by omega)]
        rw [if_neg (by decide), e1, Option.bind_some, h.1, Option.bind_some, h.2.1, Option.bind_some, if_pos rfl, e2, Option.bind_some, h.2.2.1, Option.bind_some, h.2.2.2.1, Option.bind_some, if_pos rfl, hjoin, Option.bind_some, h.2.2.2.2.1, Option.bind_some, if_pos rfl, e3, Option.bind_some, h.2.2.2.2.2, Option.bind_some, beq_self_eq_true]
      refine ((shown_f.and (hsm.and hj)).mp fun k h => ?_).get
      unfold cooperagelaw1_TextCuts.f
      rw [h.1, Option.bind_some, h.2.1, Option.bind_some, if_pos rfl, if_pos rfl, show decide ((s.size : Int) > 1000) = false from decide_eq_false (by omega)]
      exact h.2.2
    · have hj : Ev fun k => cooperagelaw1_TextCuts.j0 k s l true true = some true := by
        refine Ev.up (Ev.of fun k => ?_)
        simp only [cooperagelaw1_TextCuts.j0]
        rw [if_pos trivial]
      refine ((shown_f.and (hsm.and hj)).mp fun k h => ?_).get
      unfold cooperagelaw1_TextCuts.f
      rw [h.1, Option.bind_some, h.2.1, Option.bind_some, if_pos rfl, if_pos rfl, show decide ((s.size : Int) > 1000) = true from decide_eq_true (by omega)]
      exact h.2.2
  | false =>
    rw [hb] at hsm
    have hj : Ev fun k => cooperagelaw1_TextCuts.j0 k s l true true = some true := by
      refine Ev.up (Ev.of fun k => ?_)
      simp only [cooperagelaw1_TextCuts.j0]
      rw [if_pos trivial]
    refine ((shown_f.and (hsm.and hj)).mp fun k h => ?_).get
    unfold cooperagelaw1_TextCuts.f
    rw [h.1, Option.bind_some, h.2.1, Option.bind_some, if_pos rfl, if_neg (by decide)]
    exact h.2.2
end Go.Proofs.YtocpfgdajomjiaaDoor.Pure
