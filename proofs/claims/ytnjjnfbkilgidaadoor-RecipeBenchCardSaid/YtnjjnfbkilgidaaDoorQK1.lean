import Derived.Test.YtnjjnfbkilgidaaDoorQC
-- Written by a program of this session (hprint.py over the kit's print).
namespace Go.Proofs.YtnjjnfbkilgidaaDoor.K
open Go.Proofs.YtnjjnfbkilgidaaDoor.Fr
open Go.Proofs.YtnjjnfbkilgidaaDoor
open Go.Proofs.YtnjjnfbkilgidaaDoor.F (S31 at_T31 errW errW_none errW_some k31 k31_mk k31_mkM k31_open k31_openM rd_T31 z31)
open Go.RowKit Go.Proofs.YtnjjnfbkilgidaaDoorW.PrintWords Go.Proofs.YtnjjnfbkilgidaaDoorW.PrintLast Go.Proofs.YtnjjnfbkilgidaaDoorW.PrintMore
attribute [local go_sem] max2_int min2_int max_two min_two max_three min_three max_four min_four   -- for this text's walks alone
set_option linter.unusedVariables false
set_option linter.unusedSimpArgs false

theorem eqA31 (d : Nat) (w : World) (x0 y0 : ByteArray) (x1 y1 : ByteArray) :
    (Op.equalIn (d + 2) 31 (.agg #[.string x0, .string x1]) (.agg #[.string y0, .string y1])).run Tryd.prog w = .ok (x0.toList == y0.toList && (x1.toList == y1.toList)) w := by
  refine eqA_of Tryd.underlying31 (by kernel_rfl) ?_
  refine eqf_cons (by rfl) (by go_simp; rfl) (by go_simp; rfl) (by go_simp) ?_
  exact eqf_last (by rfl) (by go_simp; rfl) (by go_simp; rfl) (by go_simp)
end Go.Proofs.YtnjjnfbkilgidaaDoor.K
