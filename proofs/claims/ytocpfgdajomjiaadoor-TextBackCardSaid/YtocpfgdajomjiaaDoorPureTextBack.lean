import Derived.Test.YtocpfgdajomjiaaDoorPureUnq
import Derived.Test.YtocpfgdajomjiaaDoorPureShown
import Derived.Test.YtocpfgdajomjiaaDoorR12
/- TextBack, plain. -/
namespace Go.Proofs.YtocpfgdajomjiaaDoor.PureR
open Go.RowKit Go.Proofs.YtocpfgdajomjiaaDoor.R Go.Proofs.YtocpfgdajomjiaaDoor.Hand2 Go.Proofs.YtocpfgdajomjiaaDoorW.PrintWords Go.Proofs.YtocpfgdajomjiaaDoor.Spl
open Go.Proofs.YtocpfgdajomjiaaDoor.Hand hiding text_Lines.f text_Words.f text_Trim.f text_Join.f text_Path.f text_Quote.f text_Lines.calls text_Words.calls text_Trim.calls text_Join.calls text_Path.calls text_Quote.calls Glob
set_option linter.unusedVariables false
set_option linter.unusedSimpArgs false
theorem small_loop (l : List ByteArray) (hl : l.length ≤ 40) : ∀ (n i : Nat), i + n = l.length → Ev fun k => cooperagelaw1_small.l0 k l (i : Int) = some ((l.drop i).all fun x => decide (x.size ≤ 300)) := by
  intro n
  induction n with
  | zero =>
    intro i hi
    refine Ev.up (Ev.of fun k => ?_)
    simp only [cooperagelaw1_small.l0]
    rw [if_neg (by omega), List.drop_eq_nil_of_le (by omega)]
    rfl
  | succ n ih =>
    intro i hi
    have hlt : i < l.length := by omega
    have hr := rdo hlt
    by_cases h : l[i].size ≤ 300
    · refine Ev.up ((ih (i + 1) (by omega)).mp fun k hk => ?_)
      simp only [cooperagelaw1_small.l0]
      rw [if_pos (by omega), if_pos (by omega), hr, if_neg (by omega), w64s i (by omega), hk, List.drop_eq_getElem_cons hlt, List.all_cons, decide_eq_true h]
      rfl
    · refine Ev.up (Ev.of fun k => ?_)
      simp only [cooperagelaw1_small.l0]
      rw [if_pos (by omega), if_pos (by omega), hr, if_pos (by omega), List.drop_eq_getElem_cons hlt, List.all_cons, decide_eq_false h]
      rfl
theorem small_f (l : List ByteArray) : Ev fun k => cooperagelaw1_small.f k l = some (decide (l.length ≤ 40) && l.all fun x => decide (x.size ≤ 300)) := by
  by_cases h : l.length ≤ 40
  · refine (small_loop l h l.length 0 (by omega)).mp fun k hk => ?_
    unfold cooperagelaw1_small.f
    rw [if_neg (by omega), decide_eq_true h]
    exact hk
  · refine Ev.of fun k => ?_
    unfold cooperagelaw1_small.f
    rw [if_pos (by omega), decide_eq_false h]
    rfl
theorem jl_len' : ∀ (l : List ByteArray) (m : Nat), (∀ x ∈ l, x.size ≤ m) → (joinV l).size ≤ (m + 1) * l.length := by
  intro l
  induction l with
  | nil => intro m _; exact Nat.zero_le _
  | cons x r ih =>
    intro m h
    have hx := h x (by simp)
    rw [← len_data] at hx ⊢
    cases r with
    | nil =>
      show (Lib.join [x.data.toList] [32]).length ≤ _
      rw [Lib.join_one]
      simp only [List.length_cons, List.length_nil]
      omega
    | cons y r' =>
      have hi := ih m (fun z hz => h z (by simp [hz]))
      rw [← len_data] at hi
      have e : (joinV (x :: y :: r')).data.toList = x.data.toList ++ 32 :: (joinV (y :: r')).data.toList := by
        show Lib.join (x.data.toList :: y.data.toList :: r'.map (·.data.toList)) [32] = x.data.toList ++ 32 :: Lib.join (y.data.toList :: r'.map (·.data.toList)) [32]
        simp [Lib.join, List.intercalate]
      rw [e, List.length_append, List.length_cons, List.length_cons (a := x), Nat.mul_succ]
      omega
theorem quoteV_size (s : ByteArray) : (quoteV s).size ≤ 3 * s.size + 1 := by
  unfold quoteV
  split
  · show 1 ≤ _
    omega
  · have := quote_len s.data.toList
    rw [len_data] at this
    show (s.data.toList.flatMap quoteB).toArray.size ≤ _
    rw [List.size_toArray]
    omega
theorem quoteV_empty {s : ByteArray} (h : s.data.toList = []) : quoteV s = ⟨#[37]⟩ := by
  unfold quoteV
  rw [if_pos]
  rw [← len_data, h]
  rfl
theorem quoteV_full {s : ByteArray} (h : s.data.toList ≠ []) : (quoteV s).data.toList = s.data.toList.flatMap quoteB := quoteV_data (t := s.data.toList) h
theorem quoteV_word (s : ByteArray) : (quoteV s).data.toList ≠ [] ∧ ∀ c ∈ (quoteV s).data.toList, Hand.blank c = false := by
  by_cases h : s.data.toList = []
  · rw [quoteV_empty h]
    refine ⟨by simp, fun c hc => ?_⟩
    rw [show c = 37 by simpa using hc]
    rfl
  · rw [quoteV_full h]
    refine ⟨?_, fun c hc => ?_⟩
    · cases hd : s.data.toList with
      | nil => exact absurd hd h
      | cons c t =>
        intro e
        rw [List.flatMap_cons, List.append_eq_nil_iff] at e
        have := quoteB_pos c
        rw [e.1] at this
        simp at this
    · obtain ⟨d, -, hd⟩ := List.mem_flatMap.1 hc
      rcases quoteB_sign d c hd with e | e
      · exact plain_noblank c e
      · subst e
        rfl
theorem unq_quote (s : ByteArray) : unqV (quoteV s) = some s := by
  by_cases h : s.data.toList = []
  · rw [quoteV_empty h]
    have : s = (⟨#[]⟩ : ByteArray) := ba_ext h
    rw [this]
    rfl
  · have hf := quoteV_full h
    have hne : (quoteV s).data.toList ≠ [37] := by
      rw [hf]
      cases hd : s.data.toList with
      | nil => exact absurd hd h
      | cons c t =>
        intro e
        rw [List.flatMap_cons, quoteB] at e
        split at e
        next hp =>
          rw [List.singleton_append] at e
          injection e with e1 e2
          exact plain_no37 hp e1
        next => simp at e
    rw [unqV_of hne (congrArg decG hf), decG_quote]
    show (if s.data.toList ≠ [] ∧ quoteV ⟨s.data.toList.toArray⟩ = quoteV s then some (⟨s.data.toList.toArray⟩ : ByteArray) else none) = some s
    have hs : (⟨s.data.toList.toArray⟩ : ByteArray) = s := ba_ext rfl
    rw [hs, if_pos ⟨h, rfl⟩]
theorem rdmap {l : List ByteArray} {i : Nat} (h : i < l.length) : rdOf ByteArray.empty (l.map quoteV) (i : Int) = quoteV l[i] := by
  rw [rdo (by rw [List.length_map]; exact h), List.getElem_map]
theorem back_l1 (l : List ByteArray) (hl : l.length ≤ 40) (hx : ∀ x ∈ l, x.size ≤ 300) : ∀ (n i : Nat), i + n = l.length → Ev fun k => cooperagelaw1_TextBack.l1 k l (l.map quoteV) (i : Int) = some true := by
  intro n
  induction n with
  | zero =>
    intro i hi
    refine Ev.up (Ev.of fun k => ?_)
    simp only [cooperagelaw1_TextBack.l1, List.length_map]
    rw [if_neg (by omega)]
  | succ n ih =>
    intro i hi
    have hlt : i < l.length := by omega
    have hz := quoteV_size l[i]
    have hz2 := hx _ (List.getElem_mem hlt)
    refine Ev.up ((ih (i + 1) (by omega)).mp fun k hk => ?_)
    simp only [cooperagelaw1_TextBack.l1, List.length_map]
    rw [if_pos (by omega), if_pos (by omega), rdmap hlt, unq_ok _ (by omega), Option.bind_some, unq_quote, if_pos (by omega), rdo hlt]
    show (if l[i].toList = l[i].toList then (if (0 : Int) = 0 then _ else _) else _) = _
    rw [if_pos rfl, if_pos rfl, w64s i (by omega)]
    exact hk
theorem back_l0 (l : List ByteArray) (hl : l.length ≤ 40) (hx : ∀ x ∈ l, x.size ≤ 300) : ∀ (n i : Nat), i + n = l.length → Ev fun k => cooperagelaw1_TextBack.l0 k l ((l.take i).map quoteV) (i : Int) = some true := by
  intro n
  induction n with
  | zero =>
    intro i hi
    rw [List.take_of_length_le (by omega)]
    have hq : ∀ x ∈ l.map quoteV, x.size ≤ 1000 := by
      intro x hm
      obtain ⟨y, hy, rfl⟩ := List.mem_map.1 hm
      have := quoteV_size y
      have := hx y hy
      omega
    have hj := jl_len' _ 1000 hq
    rw [List.length_map] at hj
    have hj2 : (joinV (l.map quoteV)).size ≤ 100000 := by omega
    have hw : wordsV (joinV (l.map quoteV)) = l.map quoteV := wordsV_join _ (by
      intro x hm
      obtain ⟨y, hy, rfl⟩ := List.mem_map.1 hm
      exact quoteV_word y)
    refine Ev.up (((same_f (l.map quoteV) (by rw [List.length_map]; omega)).and (back_l1 l hl hx l.length 0 (by omega))).mp fun k hk => ?_)
    simp only [cooperagelaw1_TextBack.l0]
    rw [if_neg (by omega), join_ok _ (by rw [List.length_map]; omega) (by omega), Option.bind_some, words_ok _ hj2, Option.bind_some, hw, hk.1, Option.bind_some, if_pos rfl]
    exact hk.2
  | succ n ih =>
    intro i hi
    have hlt : i < l.length := by omega
    have hz2 := hx _ (List.getElem_mem hlt)
    refine Ev.up ((ih (i + 1) (by omega)).mp fun k hk => ?_)
    simp only [cooperagelaw1_TextBack.l0, List.length_map, List.length_take]
    rw [if_pos (by omega), if_pos (by omega), rdo hlt, quote_ok _ (by omega), Option.bind_some, if_pos (by omega), w64s i (by omega), ← hk, List.take_succ_eq_append_getElem hlt, List.map_append]
    rfl
theorem TextBack : ∀ (l : List ByteArray), ∃ k, cooperagelaw1_TextBack.f k l = some true := by
  intro l
  have hsm := small_f l
  cases hb : (decide (l.length ≤ 40) && l.all fun x => decide (x.size ≤ 300)) with
  | true =>
    rw [hb] at hsm
    rw [Bool.and_eq_true, decide_eq_true_eq, List.all_eq_true] at hb
    have hx : ∀ x ∈ l, x.size ≤ 300 := fun x h => of_decide_eq_true (hb.2 x h)
    have hj : Ev fun k => cooperagelaw1_TextBack.j0 k l true false = some true := by
      refine Ev.up ((back_l0 l hb.1 hx l.length 0 (by omega)).mp fun k h => ?_)
      simp only [cooperagelaw1_TextBack.j0]
      rw [if_neg (by decide)]
      exact h
    refine ((shown_f.and (hsm.and hj)).mp fun k h => ?_).get
    unfold cooperagelaw1_TextBack.f
    rw [h.1, Option.bind_some, h.2.1, Option.bind_some, if_pos rfl]
    exact h.2.2
  | false =>
    rw [hb] at hsm
    have hj : Ev fun k => cooperagelaw1_TextBack.j0 k l true true = some true := by
      refine Ev.up (Ev.of fun k => ?_)
      simp only [cooperagelaw1_TextBack.j0]
      rw [if_pos trivial]
    refine ((shown_f.and (hsm.and hj)).mp fun k h => ?_).get
    unfold cooperagelaw1_TextBack.f
    rw [h.1, Option.bind_some, h.2.1, Option.bind_some, if_pos rfl]
    exact h.2.2
end Go.Proofs.YtocpfgdajomjiaaDoor.PureR
