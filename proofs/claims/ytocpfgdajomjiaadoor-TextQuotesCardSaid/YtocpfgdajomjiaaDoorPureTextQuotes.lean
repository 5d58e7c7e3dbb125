import Derived.Test.YtocpfgdajomjiaaDoorPureUnq
import Derived.Test.YtocpfgdajomjiaaDoorPureShown
import Derived.Test.YtocpfgdajomjiaaDoorR11
/- TextQuotes, plain. -/
namespace Go.Proofs.YtocpfgdajomjiaaDoor.PureR
open Go.RowKit Go.Proofs.YtocpfgdajomjiaaDoor.R Go.Proofs.YtocpfgdajomjiaaDoor.Hand2 Go.Proofs.YtocpfgdajomjiaaDoorW.PrintWords Go.Proofs.YtocpfgdajomjiaaDoor.Spl
open Go.Proofs.YtocpfgdajomjiaaDoor.Hand hiding text_Lines.f text_Words.f text_Trim.f text_Join.f text_Path.f text_Quote.f text_Lines.calls text_Words.calls text_Trim.calls text_Join.calls text_Path.calls text_Quote.calls Glob
set_option linter.unusedVariables false
set_option linter.unusedSimpArgs false
theorem TextQuotes : ∀ (s : ByteArray), s.size ≤ 140737488351232 → ∃ k, cooperagelaw1_TextQuotes.f k s = some true := by
  intro s _
  by_cases hs : s.size ≤ 600
  · have hj : Ev fun k => cooperagelaw1_TextQuotes.j0 k s true false = some true := by
      refine Ev.up (((refunq_f s (by omega)).and (refquote_f s (by omega))).mp fun k hk => ?_)
      simp only [cooperagelaw1_TextQuotes.j0]
      rw [if_neg (by decide), unq_ok s (by omega), Option.bind_some, hk.1, Option.bind_some, quote_ok s (by omega), Option.bind_some, hk.2, Option.bind_some, if_pos rfl, if_pos rfl, beq_self_eq_true]
    refine ((shown_f.and hj).mp fun k h => ?_).get
    unfold cooperagelaw1_TextQuotes.f
    rw [h.1, Option.bind_some, if_pos rfl, show decide ((s.size : Int) > 600) = false from decide_eq_false (by omega)]
    exact h.2
  · have hj : Ev fun k => cooperagelaw1_TextQuotes.j0 k s true true = some true := by
      refine Ev.up (Ev.of fun k => ?_)
      simp only [cooperagelaw1_TextQuotes.j0]
      rw [if_pos trivial]
    refine ((shown_f.and hj).mp fun k h => ?_).get
    unfold cooperagelaw1_TextQuotes.f
    rw [h.1, Option.bind_some, if_pos rfl, show decide ((s.size : Int) > 600) = true from decide_eq_true (by omega)]
    exact h.2
end Go.Proofs.YtocpfgdajomjiaaDoor.PureR
