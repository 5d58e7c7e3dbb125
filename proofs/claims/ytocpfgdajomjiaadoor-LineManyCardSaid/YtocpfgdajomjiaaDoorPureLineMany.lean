import Derived.Test.YtocpfgdajomjiaaDoorPureTiny
import Derived.Test.YtocpfgdajomjiaaDoorL16
/- LineMany, plain. -/
namespace Go.Proofs.YtocpfgdajomjiaaDoor.PureL
open Go.RowKit Go.Proofs.YtocpfgdajomjiaaDoor.PureR Go.Proofs.YtocpfgdajomjiaaDoor.L Go.Proofs.YtocpfgdajomjiaaDoor.Hand3 Go.Proofs.YtocpfgdajomjiaaDoor.Spl Go.Proofs.YtocpfgdajomjiaaDoorW.PrintWords
open Go.Proofs.YtocpfgdajomjiaaDoor.Hand hiding text_Lines.f text_Words.f text_Trim.f text_Join.f text_Path.f text_Quote.f text_Lines.calls text_Words.calls text_Trim.calls text_Join.calls text_Path.calls text_Quote.calls Glob
set_option linter.unusedVariables false
set_option linter.unusedSimpArgs false
theorem emptyL (q : ByteArray) : (⟨#[]⟩ : ByteArray) ++ q = q := ba_ext (by simp [ByteArray.data_append, Array.toList_append])
theorem emptyR (q : ByteArray) : q ++ (⟨#[]⟩ : ByteArray) = q := ba_ext (by simp [ByteArray.data_append, Array.toList_append])
theorem cat_snoc (K : List (List ByteArray)) (l : List ByteArray) : cat (K ++ [l]) ⟨#[]⟩ = cat K ⟨#[]⟩ ++ (putV l).1 := by
  rw [cat_app, cat_behind, emptyL]
  show cat K ((putV l).1 ++ (⟨#[]⟩ : ByteArray)) = _
  rw [emptyR]
theorem tiny_line {l : List ByteArray} (h : TinyP l) (ho : (putV l).2 = 0) : (putV l).1.size ≤ 7289 := by
  obtain ⟨p1, p2, p3, p4⟩ := put_ok ho
  have h1 := bodyL_len 60 l h.2
  rw [putV_size ho, line_len]
  have : (3 * 60 + 2) * l.length ≤ (3 * 60 + 2) * 40 := Nat.mul_le_mul_left _ p2
  omega
theorem cat_le : ∀ (K : List (List ByteArray)), (∀ l ∈ K, TinyP l ∧ (putV l).2 = 0) → (cat K ⟨#[]⟩).size ≤ 7289 * K.length := by
  intro K
  induction K with
  | nil => intro _; exact Nat.le_refl _
  | cons l t ih =>
    intro h
    have h1 := h l List.mem_cons_self
    have h2 := tiny_line h1.1 h1.2
    have h3 := ih fun x hx => h x (List.mem_cons_of_mem _ hx)
    show ((putV l).1 ++ cat t ⟨#[]⟩).size ≤ _
    rw [ByteArray.size_append, List.length_cons]
    omega
theorem many_l1 (ls : List (List ByteArray)) (s : ByteArray) (hls : ls.length ≤ 12) (ht : ∀ l ∈ ls, TinyP l) (hs : s.size ≤ 200) (hno : ∀ c ∈ s.data.toList, c ≠ 10) :
    ∀ (n i : Nat) (K : List (List ByteArray)), i + n = ls.length → K.length ≤ i → (∀ l ∈ K, TinyP l ∧ (putV l).2 = 0) → Ev fun k => cooperagelaw4_LineMany.l1 k ls s (cat K ⟨#[]⟩) K (i : Int) = some true := by
  intro n
  induction n with
  | zero =>
    intro i K hi hK hp
    have hc := cat_le K hp
    have hsc := scanV_cat K s (fun l hl => (hp l hl).2) (take_no10 hno)
    have hcs := cat_size K s
    have e : cat K ⟨#[]⟩ ++ s = cat K s := by rw [cat_behind, emptyL]
    have hsz : (cat K s).size ≤ 100000 := by omega
    refine Ev.up ((sameAll_f K (by omega) (fun l hl => Nat.le_trans (hp l hl).1.1 (by decide))).mp fun k hk => ?_)
    unfold cooperagelaw4_LineMany.l1
    rw [if_neg (by omega), if_pos (by omega), e, scan_okf _ hsz, Option.bind_some, hsc, hk, Option.bind_some, if_pos rfl, beq_self_eq_true]
  | succ n ih =>
    intro i K hi hK hp
    have hlt : i < ls.length := by omega
    have hr := rdL hlt
    have hti := ht _ (List.getElem_mem hlt)
    have hput := put_okf ls[i] (fun x hx => Nat.le_trans (hti.2 x hx) (by decide))
    by_cases h0 : (putV ls[i]).2 = 0
    · have h2 := tiny_line hti h0
      have hc := cat_le K hp
      refine Ev.up ((ih (i + 1) (K ++ [ls[i]]) (by omega) (by rw [List.length_append]; show _ + 1 ≤ _; omega) (fun l hl => ?_)).mp fun k hk => ?_)
      · rcases List.mem_append.1 hl with hl | hl
        · exact hp l hl
        · rw [List.mem_singleton.1 hl]
          exact ⟨hti, h0⟩
      · unfold cooperagelaw4_LineMany.l1
        rw [if_pos (by omega), if_pos (by omega), hr, hput, Option.bind_some, if_pos h0, if_pos (by omega), if_pos (by omega), w64s i (by omega), ← cat_snoc]
        exact hk
    · refine Ev.up ((ih (i + 1) K (by omega) (by omega) hp).mp fun k hk => ?_)
      unfold cooperagelaw4_LineMany.l1
      rw [if_pos (by omega), if_pos (by omega), hr, hput, Option.bind_some, if_neg h0, w64s i (by omega)]
      exact hk
theorem many_l0 (ls : List (List ByteArray)) (s : ByteArray) (hls : ls.length ≤ 12) (ht : ∀ l ∈ ls, TinyP l) (hs : s.size ≤ 200) :
    ∀ (n i : Nat), i + n = s.size → (∀ c ∈ s.data.toList.take i, c ≠ 10) → Ev fun k => cooperagelaw4_LineMany.l0 k ls s (i : Int) = some true := by
  intro n
  induction n with
  | zero =>
    intro i hi hno
    rw [List.take_of_length_le (by rw [len_data]; omega)] at hno
    refine Ev.up ((many_l1 ls s hls ht hs hno ls.length 0 [] (by omega) (by simp) (fun l hl => by simp at hl)).mp fun k hk => ?_)
    unfold cooperagelaw4_LineMany.l0
    rw [if_neg (by omega)]
    exact hk
  | succ n ih =>
    intro i hi hno
    have hlt : i < s.data.toList.length := by rw [len_data]; omega
    have hb := bt_nat s i hlt
    by_cases h10 : bt s (i : Int) = 10
    · refine Ev.up (Ev.of fun k => ?_)
      unfold cooperagelaw4_LineMany.l0
      rw [if_pos (by omega), if_pos (by omega), if_pos h10]
    · refine Ev.up ((ih (i + 1) (by omega) (fun c hc => ?_)).mp fun k hk => ?_)
      · rw [List.take_succ_eq_append_getElem hlt] at hc
        rcases List.mem_append.1 hc with hc | hc
        · exact hno c hc
        · rw [List.mem_singleton.1 hc]
          intro he
          rw [hb, he] at h10
          exact h10 rfl
      · unfold cooperagelaw4_LineMany.l0
        rw [if_pos (by omega), if_pos (by omega), if_neg h10, w64s i (by omega)]
        exact hk
theorem LineMany : ∀ (l : List (List ByteArray)) (s : ByteArray), s.size ≤ 140737488351232 → ∃ k, cooperagelaw4_LineMany.f k l s = some true := by
  intro l s _
  obtain ⟨b, hb, hsm⟩ := tiny_f l
  have hj1 : Ev fun k => cooperagelaw4_LineMany.j0 k l s true true = some true := by
    refine Ev.up (Ev.of fun k => ?_)
    simp only [cooperagelaw4_LineMany.j0]
    rw [if_pos trivial]
  cases b with
  | true =>
    obtain ⟨h1, h2⟩ := hsm rfl
    by_cases hs : s.size ≤ 200
    · have hj : Ev fun k => cooperagelaw4_LineMany.j0 k l s true false = some true := by
        refine Ev.up ((many_l0 l s h1 h2 hs s.size 0 (by omega) (fun c hc => by simp at hc)).mp fun k hk => ?_)
        simp only [cooperagelaw4_LineMany.j0]
        rw [if_neg (by decide)]
        exact hk
      refine ((shown4_f.and (hb.and hj)).mp fun k h => ?_).get
      unfold cooperagelaw4_LineMany.f
      rw [h.1, Option.bind_some, h.2.1, Option.bind_some, if_pos rfl, if_pos rfl, show decide ((s.size : Int) > 200) = false from decide_eq_false (by omega)]
      exact h.2.2
    · refine ((shown4_f.and (hb.and hj1)).mp fun k h => ?_).get
      unfold cooperagelaw4_LineMany.f
      rw [h.1, Option.bind_some, h.2.1, Option.bind_some, if_pos rfl, if_pos rfl, show decide ((s.size : Int) > 200) = true from decide_eq_true (by omega)]
      exact h.2.2
  | false =>
    refine ((shown4_f.and (hb.and hj1)).mp fun k h => ?_).get
    unfold cooperagelaw4_LineMany.f
    rw [h.1, Option.bind_some, h.2.1, Option.bind_some, if_pos rfl, if_neg (by decide)]
    exact h.2.2
end Go.Proofs.YtocpfgdajomjiaaDoor.PureL
