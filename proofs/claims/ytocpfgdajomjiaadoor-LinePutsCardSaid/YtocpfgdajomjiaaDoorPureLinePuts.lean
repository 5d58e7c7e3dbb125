import Derived.Test.YtocpfgdajomjiaaDoorPureSmall
import Derived.Test.YtocpfgdajomjiaaDoorPureSumB
import Derived.Test.YtocpfgdajomjiaaDoorL6
/- LinePuts, plain. -/
namespace Go.Proofs.YtocpfgdajomjiaaDoor.PureL
open Go.RowKit Go.Proofs.YtocpfgdajomjiaaDoor.PureR Go.Proofs.YtocpfgdajomjiaaDoor.L Go.Proofs.YtocpfgdajomjiaaDoor.Hand3 Go.Proofs.YtocpfgdajomjiaaDoor.Spl Go.Proofs.YtocpfgdajomjiaaDoorW.PrintWords
open Go.Proofs.YtocpfgdajomjiaaDoor.Hand hiding text_Lines.f text_Words.f text_Trim.f text_Join.f text_Path.f text_Quote.f text_Lines.calls text_Words.calls text_Trim.calls text_Join.calls text_Path.calls text_Quote.calls Glob
set_option linter.unusedVariables false
set_option linter.unusedSimpArgs false
theorem refOf_ev (s : ByteArray) (hs : s.size ≤ 100000000) : Ev fun k => cooperageref3_Of.f k s = some ((adlOf s.data.toList : Nat) : Int) := ⟨s.size + 1, fun k hk => refOf_f s (by omega) k (by omega)⟩
theorem refHex_ev (n : Nat) (hn : n < 4294967296) : Ev fun k => cooperageref3_Hex.f k (n : Int) = some (SumW.hex8 n) := ⟨9, fun k hk => refHex_f n hn k hk⟩
theorem refQ (s : ByteArray) (h : s.size ≤ 100000) : cooperageref1_Quote.f s = some (quoteV s) := by
  unfold cooperageref1_Quote.f
  rw [if_pos h]
theorem refPut_loop (l : List ByteArray) (h1 : 1 ≤ l.length) (hl : l.length ≤ 40) (hx : ∀ x ∈ l, x.size ≤ 100000) : ∀ (n i : Nat) (acc : ByteArray), i + n = l.length → acc.data.toList = bodyL (l.take i) → Ev fun k => cooperageref4_Put.l0 k l acc (i : Int) = some (putV l) := by
  intro n
  induction n with
  | zero =>
    intro i acc hi ha
    rw [List.take_of_length_le (by omega)] at ha
    have hbl := bodyL_len 100000 l hx
    have has : acc.size = (bodyL l).length := by rw [← len_data, ha]
    have hsz : acc.size ≤ 100000000 := by
      have : (3 * 100000 + 2) * l.length ≤ (3 * 100000 + 2) * 40 := Nat.mul_le_mul_left _ hl
      omega
    have hadl := adlOf_lt acc.data.toList
    have h8 := hex8_size _ hadl
    have z1 : ((⟨#[10]⟩ : ByteArray)).size = 1 := rfl
    refine Ev.up (((refOf_ev acc hsz).and (refHex_ev _ hadl)).mp fun k hk => ?_)
    simp only [cooperageref4_Put.l0]
    rw [if_neg (by omega), hk.1, Option.bind_some, hk.2, Option.bind_some, if_pos (by omega), if_pos (by rw [ByteArray.size_append]; omega)]
    have hline : ((acc ++ SumW.hex8 (adlOf acc.data.toList)) ++ (⟨#[10]⟩ : ByteArray)) = ⟨(lineL l).toArray⟩ := by
      apply ba_ext
      rw [data_app3, ha]
      rfl
    rw [hline]
    have hsl : ((⟨(lineL l).toArray⟩ : ByteArray)).size = (lineL l).length := List.size_toArray
    unfold putV
    have e0 : ¬ l.length = 0 := by omega
    have e40 : ¬ 40 < l.length := by omega
    rw [hsl, if_neg e0, if_neg e40]
    by_cases h13 : 13000 < (lineL l).length
    · rw [if_pos (by omega), if_pos h13]
    · rw [if_neg (by omega), if_neg h13]
  | succ n ih =>
    intro i acc hi ha
    have hlt : i < l.length := by omega
    have hr := rdo hlt
    have hxi := hx _ (List.getElem_mem hlt)
    have hq := quoteV_len l[i]
    have hbl := bodyL_len 100000 (l.take i) (fun x hm => hx x (List.mem_of_mem_take hm))
    have has : acc.size = (bodyL (l.take i)).length := by rw [← len_data, ha]
    have htl : (l.take i).length ≤ 40 := by rw [List.length_take]; omega
    have hsz : acc.size ≤ 100000000 := by
      have : (3 * 100000 + 2) * (l.take i).length ≤ (3 * 100000 + 2) * 40 := Nat.mul_le_mul_left _ htl
      omega
    have hd : ((acc ++ quoteV l[i]) ++ (⟨#[32]⟩ : ByteArray)).data.toList = bodyL (l.take (i + 1)) := by
      rw [data_app3, ha, List.take_succ_eq_append_getElem hlt, bodyL_snoc]
      simp
    refine Ev.up ((ih (i + 1) _ (by omega) hd).mp fun k hk => ?_)
    simp only [cooperageref4_Put.l0]
    rw [if_pos (by omega), if_pos (by omega), hr, refQ _ hxi, Option.bind_some, if_pos (by omega), if_pos (by rw [ByteArray.size_append]; omega), w64s i (by omega)]
    exact hk
theorem refPut_f (l : List ByteArray) (hx : ∀ x ∈ l, x.size ≤ 100000) : Ev fun k => cooperageref4_Put.f k l = some (putV l) := by
  by_cases h0 : l.length = 0
  · refine Ev.of fun k => ?_
    unfold cooperageref4_Put.f putV
    rw [if_pos (by omega), if_pos h0]
  · by_cases h40 : 40 < l.length
    · refine Ev.of fun k => ?_
      unfold cooperageref4_Put.f putV
      rw [if_neg (by omega), if_pos (by omega), if_neg h0, if_pos h40]
    · refine (refPut_loop l (by omega) (by omega) hx l.length 0 (⟨#[]⟩ : ByteArray) (by omega) rfl).mp fun k hk => ?_
      unfold cooperageref4_Put.f
      rw [if_neg (by omega), if_neg (by omega)]
      exact hk
theorem LinePuts : ∀ (l : List ByteArray), ∃ k, cooperagelaw4_LinePuts.f k l = some true := by
  intro l
  obtain ⟨b, hb, hsm⟩ := small4_f l
  cases b with
  | true =>
    obtain ⟨h1, h2⟩ := hsm rfl
    have hx : ∀ x ∈ l, x.size ≤ 100000 := fun x h => Nat.le_trans (h2 x h) (by decide)
    have hj : Ev fun k => cooperagelaw4_LinePuts.j0 k l true false = some true := by
      refine Ev.up ((refPut_f l hx).mp fun k hk => ?_)
      simp only [cooperagelaw4_LinePuts.j0]
      rw [if_neg (by decide), put_okf l hx, Option.bind_some, hk, Option.bind_some, if_pos rfl, beq_self_eq_true]
    refine ((shown4_f.and (hb.and hj)).mp fun k h => ?_).get
    unfold cooperagelaw4_LinePuts.f
    rw [h.1, Option.bind_some, h.2.1, Option.bind_some, if_pos rfl]
    exact h.2.2
  | false =>
    have hj : Ev fun k => cooperagelaw4_LinePuts.j0 k l true true = some true := by
      refine Ev.up (Ev.of fun k => ?_)
      simp only [cooperagelaw4_LinePuts.j0]
      rw [if_pos trivial]
    refine ((shown4_f.and (hb.and hj)).mp fun k h => ?_).get
    unfold cooperagelaw4_LinePuts.f
    rw [h.1, Option.bind_some, h.2.1, Option.bind_some, if_pos rfl]
    exact h.2.2
end Go.Proofs.YtocpfgdajomjiaaDoor.PureL
