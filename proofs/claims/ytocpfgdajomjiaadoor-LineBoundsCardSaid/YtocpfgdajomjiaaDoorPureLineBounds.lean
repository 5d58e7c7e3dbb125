import Derived.Test.YtocpfgdajomjiaaDoorPureSmall
import Derived.Test.YtocpfgdajomjiaaDoorL15
/- LineBounds, plain. -/
namespace Go.Proofs.YtocpfgdajomjiaaDoor.PureL
open Go.RowKit Go.Proofs.YtocpfgdajomjiaaDoor.PureR Go.Proofs.YtocpfgdajomjiaaDoor.L Go.Proofs.YtocpfgdajomjiaaDoor.Hand3 Go.Proofs.YtocpfgdajomjiaaDoor.Spl Go.Proofs.YtocpfgdajomjiaaDoorW.PrintWords
open Go.Proofs.YtocpfgdajomjiaaDoor.Hand hiding text_Lines.f text_Words.f text_Trim.f text_Join.f text_Path.f text_Quote.f text_Lines.calls text_Words.calls text_Trim.calls text_Join.calls text_Path.calls text_Quote.calls Glob
set_option linter.unusedVariables false
set_option linter.unusedSimpArgs false
theorem textQ (s : ByteArray) (h : s.size ≤ 100000) : text_Quote.f s = some (quoteV s) := by
  unfold text_Quote.f
  rw [if_pos h]
theorem line_at {l : List ByteArray} (h : (putV l).2 = 0) (i : Nat) (hi : i < (lineL l).length) : ∃ c : UInt8, bt (putV l).1 (i : Int) = (c.toNat : Int) ∧ (lineL l)[i]? = some c := by
  have hd := putV_data h
  have hlt : i < (putV l).1.data.toList.length := by rw [hd]; omega
  refine ⟨(putV l).1.data.toList[i], bt_nat _ i hlt, ?_⟩
  rw [← hd]
  exact List.getElem?_eq_getElem hlt
theorem bt_line {l : List ByteArray} (h : (putV l).2 = 0) (i : Nat) (hi : i + 1 < (lineL l).length) : bt (putV l).1 (i : Int) ≠ 10 := by
  obtain ⟨h1, h2⟩ := line_no10 l
  obtain ⟨c, hc, hg⟩ := line_at h i (by omega)
  rw [h1, List.length_append] at hi
  rw [h1, List.getElem?_append_left (by simpa using hi)] at hg
  have hm := h2 c (List.mem_of_getElem? hg)
  rw [hc]
  intro he
  exact hm (UInt8.toNat_inj.1 (by show c.toNat = 10; omega))
theorem bt_last {l : List ByteArray} (h : (putV l).2 = 0) (i : Nat) (hi : i + 1 = (lineL l).length) : bt (putV l).1 (i : Int) = 10 := by
  obtain ⟨h1, h2⟩ := line_no10 l
  obtain ⟨c, hc, hg⟩ := line_at h i (by omega)
  rw [h1, List.length_append] at hi
  have e : i = (bodyL l ++ (SumW.hex8 (adlOf (bodyL l))).data.toList).length := by simpa using hi
  rw [h1, e, List.getElem?_concat_length] at hg
  rw [hc, ← Option.some.inj hg]
  rfl
theorem bounds1 (l : List ByteArray) (h : (putV l).2 = 0) : ∀ (n i : Nat), i + n + 1 = (lineL l).length → Ev fun k => cooperagelaw4_LineBounds.l1 k l (putV l).1 ((lineL l).length : Int) (i : Int) = some true := by
  obtain ⟨p1, p2, p3, p4⟩ := put_ok h
  have hs := putV_size h
  have h9 := line_len l
  intro n
  induction n with
  | zero =>
    intro i hi
    have hw : wrap64 (((putV l).1.size : Int) - 1) = (i : Int) := by rw [w64 (by omega) (by omega)]; omega
    have hb : bt (putV l).1 (i : Int) = 10 := bt_last h i (by omega)
    refine Ev.up (Ev.of fun k => ?_)
    unfold cooperagelaw4_LineBounds.l1
    rw [hw, if_neg (by omega), if_pos (by omega), if_pos (by omega), if_pos hb, if_pos (by omega), if_pos (by omega), if_pos (by omega), decide_eq_true (by omega)]
  | succ n ih =>
    intro i hi
    have hw : wrap64 (((putV l).1.size : Int) - 1) = (((lineL l).length - 1 : Nat) : Int) := by rw [w64 (by omega) (by omega)]; omega
    have hb := bt_line h i (by omega)
    refine Ev.up ((ih (i + 1) (by omega)).mp fun k hk => ?_)
    unfold cooperagelaw4_LineBounds.l1
    rw [hw, if_pos (by omega), if_pos (by omega), if_pos (by omega), if_neg hb, w64s i (by omega)]
    exact hk
theorem put_cases (l : List ByteArray) : (putV l).2 = 0 ∨ (l.length = 0 ∧ putV l = (⟨#[]⟩, 1)) ∨ (l.length ≠ 0 ∧ putV l = (⟨#[]⟩, 3) ∧ (40 < l.length ∨ 13000 < (lineL l).length)) := by
  by_cases h0 : l.length = 0
  · refine .inr (.inl ⟨h0, ?_⟩)
    unfold putV
    rw [if_pos h0]
  · by_cases h1 : 40 < l.length
    · refine .inr (.inr ⟨h0, ?_, .inl h1⟩)
      unfold putV
      rw [if_neg h0, if_pos h1]
    · by_cases h2 : 13000 < (lineL l).length
      · refine .inr (.inr ⟨h0, ?_, .inr h2⟩)
        unfold putV
        rw [if_neg h0, if_neg h1, if_pos h2]
      · refine .inl ?_
        rw [put_of (by omega) (by omega) (by omega)]
theorem bounds0 (l : List ByteArray) (hl : l.length ≤ 60) (hx : ∀ x ∈ l, x.size ≤ 14000) : ∀ (n i : Nat), i + n = l.length → Ev fun k => cooperagelaw4_LineBounds.l0 k l (putV l).1 (putV l).2 (((bodyL (l.take i)).length + 9 : Nat) : Int) (i : Int) = some true := by
  intro n
  induction n with
  | zero =>
    intro i hi
    rw [List.take_of_length_le (by omega), ← line_len]
    have e0 : ¬ (i : Int) < (l.length : Int) := by omega
    rcases put_cases l with h | ⟨h1, h2⟩ | ⟨h1, h2, h3⟩
    · have h9 := line_len l
      refine Ev.up ((bounds1 l h ((lineL l).length - 1) 0 (by omega)).mp fun k hk => ?_)
      unfold cooperagelaw4_LineBounds.l0
      rw [if_neg e0, if_pos h]
      exact hk
    · refine Ev.up (Ev.of fun k => ?_)
      have z : (l.length : Int) = 0 := by omega
      unfold cooperagelaw4_LineBounds.l0
      rw [if_neg e0, h2]
      dsimp only
      rw [if_neg (by decide), if_pos (by rw [tl]), z, if_pos (by decide), if_pos rfl]
    · refine Ev.up (Ev.of fun k => ?_)
      have z : ¬ (l.length : Int) = 0 := by omega
      have z2 : (((l.length : Int) == 0) == ((3 : Int) == 1)) = true := by rw [beq_eq_false_iff_ne.2 z]; rfl
      unfold cooperagelaw4_LineBounds.l0
      rw [if_neg e0, h2]
      dsimp only
      rw [if_neg (by decide), if_pos (by rw [tl]), if_pos z2, if_neg z]
      by_cases h40 : (l.length : Int) > 40
      · rw [if_pos h40]
      · rw [if_neg h40, decide_eq_true (by omega)]
  | succ n ih =>
    intro i hi
    have hlt : i < l.length := by omega
    have hr := rdo hlt
    have hxi := hx _ (List.getElem_mem hlt)
    have hq := quoteV_len l[i]
    have hbl := bodyL_len 14000 (l.take i) (fun x hm => hx x (List.mem_of_mem_take hm))
    have htl : (l.take i).length ≤ 60 := by rw [List.length_take]; omega
    have hsz : (bodyL (l.take i)).length ≤ 100000000 := by
      have : (3 * 14000 + 2) * (l.take i).length ≤ (3 * 14000 + 2) * 60 := Nat.mul_le_mul_left _ htl
      omega
    have hd : ((bodyL (l.take (i + 1))).length + 9 : Nat) = (bodyL (l.take i)).length + 9 + (quoteV l[i]).size + 1 := by
      rw [List.take_succ_eq_append_getElem hlt, bodyL_snoc, List.length_append, List.length_append, len_data]
      show _ + (_ + 1) + 9 = _
      omega
    have hw : wrap64 (wrap64 ((((bodyL (l.take i)).length + 9 : Nat) : Int) + ((quoteV l[i]).size : Int)) + 1) = (((bodyL (l.take (i + 1))).length + 9 : Nat) : Int) := by
      have hi : wrap64 ((((bodyL (l.take i)).length + 9 : Nat) : Int) + ((quoteV l[i]).size : Int)) = (((bodyL (l.take i)).length + 9 : Nat) : Int) + ((quoteV l[i]).size : Int) := w64 (by omega) (by omega)
      rw [hd, hi, w64 (by omega) (by omega)]
      omega
    refine Ev.up ((ih (i + 1) (by omega)).mp fun k hk => ?_)
    unfold cooperagelaw4_LineBounds.l0
    rw [if_pos (by omega), if_pos (by omega), hr, textQ _ (by omega), Option.bind_some, hw, w64s i (by omega)]
    exact hk
theorem LineBounds : ∀ (l : List ByteArray), ∃ k, cooperagelaw4_LineBounds.f k l = some true := by
  intro l
  obtain ⟨b, hb, hsm⟩ := small4_f l
  cases b with
  | true =>
    obtain ⟨h1, h2⟩ := hsm rfl
    have hx : ∀ x ∈ l, x.size ≤ 100000 := fun x h => Nat.le_trans (h2 x h) (by decide)
    have hj : Ev fun k => cooperagelaw4_LineBounds.j0 k l true false = some true := by
      refine Ev.up ((bounds0 l h1 h2 l.length 0 (by omega)).mp fun k hk => ?_)
      simp only [cooperagelaw4_LineBounds.j0]
      rw [if_neg (by decide), put_okf l hx, Option.bind_some]
      exact hk
    refine ((shown4_f.and (hb.and hj)).mp fun k h => ?_).get
    unfold cooperagelaw4_LineBounds.f
    rw [h.1, Option.bind_some, h.2.1, Option.bind_some, if_pos rfl]
    exact h.2.2
  | false =>
    have hj : Ev fun k => cooperagelaw4_LineBounds.j0 k l true true = some true := by
      refine Ev.up (Ev.of fun k => ?_)
      simp only [cooperagelaw4_LineBounds.j0]
      rw [if_pos trivial]
    refine ((shown4_f.and (hb.and hj)).mp fun k h => ?_).get
    unfold cooperagelaw4_LineBounds.f
    rw [h.1, Option.bind_some, h.2.1, Option.bind_some, if_pos rfl]
    exact h.2.2
end Go.Proofs.YtocpfgdajomjiaaDoor.PureL
