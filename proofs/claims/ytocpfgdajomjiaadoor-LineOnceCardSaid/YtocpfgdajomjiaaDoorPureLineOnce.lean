import Derived.Test.YtocpfgdajomjiaaDoorPureHead
import Derived.Test.YtocpfgdajomjiaaDoorL14
/- LineOnce, plain. -/
namespace Go.Proofs.YtocpfgdajomjiaaDoor.PureL
open Go.RowKit Go.Proofs.YtocpfgdajomjiaaDoor.PureR Go.Proofs.YtocpfgdajomjiaaDoor.L Go.Proofs.YtocpfgdajomjiaaDoor.Hand3 Go.Proofs.YtocpfgdajomjiaaDoor.Spl Go.Proofs.YtocpfgdajomjiaaDoorW.PrintWords
open Go.Proofs.YtocpfgdajomjiaaDoor.Hand hiding text_Lines.f text_Words.f text_Trim.f text_Join.f text_Path.f text_Quote.f text_Lines.calls text_Words.calls text_Trim.calls text_Join.calls text_Path.calls text_Quote.calls Glob
set_option linter.unusedVariables false
set_option linter.unusedSimpArgs false
theorem quote_long (s : ByteArray) : s.size ≤ (quoteV s).size := by
  by_cases h : s.data.toList = []
  · have : s.size = 0 := by rw [← len_data, h]; rfl
    omega
  · rw [← len_data (quoteV s), quoteV_full h, ← len_data s]
    generalize s.data.toList = l
    induction l with
    | nil => exact Nat.le_refl _
    | cons c t ih =>
      rw [List.flatMap_cons, List.length_append, List.length_cons]
      have := quoteB_pos c
      omega
theorem body_mem {l : List ByteArray} {x : ByteArray} (h : x ∈ l) : x.size ≤ (bodyL l).length := by
  induction l with
  | nil => simp at h
  | cons y r ih =>
    rw [body_cons, List.length_append, List.length_cons, len_data]
    rcases List.mem_cons.1 h with e | e
    · subst e
      have := quote_long x
      omega
    · have := ih e
      omega
theorem ok_small {l : List ByteArray} (h : (putV l).2 = 0) : ∀ x ∈ l, x.size ≤ 13000 := by
  intro x hx
  have h1 := body_mem hx
  have h2 := (put_ok h).2.2.1
  rw [line_len] at h2
  omega
theorem LineOnce : ∀ (s : ByteArray), s.size ≤ 140737488351232 → ∃ k, cooperagelaw4_LineOnce.f k s = some true := by
  intro s _
  by_cases hs : s.size ≤ 14000
  · have hj : Ev fun k => cooperagelaw4_LineOnce.j0 k s true false = some true := by
      refine Ev.up (Ev.of fun k => ?_)
      simp only [cooperagelaw4_LineOnce.j0]
      rw [if_neg (by decide), take_okf s (by omega), Option.bind_some]
      by_cases h0 : (takeV s).2.2 = 0
      · obtain ⟨h1, h2⟩ := take_inv h0
        have h3 := congrArg ByteArray.size h2
        rw [ByteArray.size_append] at h3
        rw [if_pos h0, put_okf _ (fun x hx => Nat.le_trans (ok_small h1 x hx) (by decide)), Option.bind_some, if_pos h1, if_pos (by omega), h2, beq_self_eq_true]
      · obtain ⟨h1, h2⟩ := take_err h0
        rw [if_neg h0, h1, if_pos (by simp), h2, tl]
        rfl
    refine ((shown4_f.and hj).mp fun k h => ?_).get
    unfold cooperagelaw4_LineOnce.f
    rw [h.1, Option.bind_some, if_pos rfl, show decide ((s.size : Int) > 14000) = false from decide_eq_false (by omega)]
    exact h.2
  · have hj : Ev fun k => cooperagelaw4_LineOnce.j0 k s true true = some true := by
      refine Ev.up (Ev.of fun k => ?_)
      simp only [cooperagelaw4_LineOnce.j0]
      rw [if_pos trivial]
    refine ((shown4_f.and hj).mp fun k h => ?_).get
    unfold cooperagelaw4_LineOnce.f
    rw [h.1, Option.bind_some, if_pos rfl, show decide ((s.size : Int) > 14000) = true from decide_eq_true (by omega)]
    exact h.2
end Go.Proofs.YtocpfgdajomjiaaDoor.PureL
