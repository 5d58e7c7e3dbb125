import Derived.Test.YtghbaehbgefpaaaGreatDoorQ33
import Derived.Test.YtghbaehbgefpaaaGreatDoorRows
import Derived.Stop.LaidErr
import Derived.LaidSub
import Derived.Lib.LaidTab
/- What a row's start gives: the library's variables. -/
namespace Go.Proofs.YtghbaehbgefpaaaGreatDoor.Hand2
open Go.RowKit Go.Proofs.YtghbaehbgefpaaaGreatDoorW.PrintWords
set_option linter.unusedVariables false
theorem fglob_of_shaped {W : World} (h : W.ShapedOpen Tryz.prog) : Fr.Glob W := by
  obtain ⟨m, hm⟩ : ∃ m, W.cell? ⟨0, 0, none⟩ = some (.int .i64 m) := Go.Proofs.cell_of_shapedOpen_int (zero := #[.int .i64 0]) (t := 3) h (of_decide_eq_true (by kernel_rfl)) (by kernel_rfl) rfl (by kernel_rfl) (by kernel_rfl) Tryz.underlying3
  exact ⟨Hand.cell_lt' hm, m, hm⟩
theorem gES : Tryz.prog.globalNamed "strconv.ErrSyntax" = some 6 := by kernel_rfl
theorem gEST : (Tryz.prog.globals[6]?).map (·.type) = some 127 := by kernel_rfl
theorem cellsES : Tryz.prog.cellsOf 232 = 1 := by kernel_rfl
theorem cellsST : Tryz.prog.cellsOf 9 = 1 := by kernel_rfl
theorem gB : Tryz.prog.globalNamed "math/bits.deBruijn64tab" = some 5 := by kernel_rfl
theorem gBT : (Tryz.prog.globals[5]?).map (·.type) = some 219 := by kernel_rfl
theorem cells64 : Tryz.prog.cellsOf 219 = 64 := by kernel_rfl
theorem cellsU8 : Tryz.prog.cellsOf 5 = 1 := by kernel_rfl
theorem star : "*" ++ "errors.errorString" = "*errors.errorString" := by decide
theorem rowES (u : TypeId) (h : Tryz.prog.typeName? 3 u = some "*errors.errorString") : u = 230 :=
  typeName_ptr_named (nm := "errors.errorString") (by rw [star]; kernel_rfl) (by kernel_rfl) (by decide) u (by rw [star]; exact h)
theorem err_of {W : World} {n : String} {g : Nat} {text : List UInt8} (hg : Tryz.prog.globalNamed n = some g) (ht : (Tryz.prog.globals[g]?).map (·.type) = some 127) (h : laidMet Tryz.prog [(n, .iface "*errors.errorString" (.ptr (.agg [.lit (.string text)])))] W) :
    ∃ t p, W.cell? ⟨g, 0, none⟩ = some (.iface t p) := by
  obtain ⟨a, s, hv, -, -, -⟩ := laid_sentinel h hg ht Tryz.underlying127 rowES Tryz.underlying230 Tryz.underlying232 rfl rfl Tryz.underlying9 cellsES cellsST
  exact ⟨_, _, by have h0 := World.var?_cell hg hv 0; simpa using h0⟩
theorem bru_of {W : World} (h : laidMetH Tryz.prog [("math/bits.deBruijn64tab", Rows.laid_math_bits_deBruijn64tab)] W) : W.cell? ⟨5, 15, none⟩ = some (.int .u8 4) :=
  (Lib.tabIs_of_head (zs := [0, 1, 56, 2, 57, 49, 28, 3, 61, 58, 42, 50, 38, 29, 17, 4, 62, 47, 59, 36, 45, 43, 51, 22, 53, 39, 33, 30, 24, 18, 12, 5, 63, 55, 48, 27, 60, 41, 37, 16, 46, 35, 44, 21, 52, 32, 23, 11, 54, 26, 40, 15, 34, 20, 31, 10, 25, 14, 19, 9, 13, 8, 7, 6]) (rest := []) gB gBT Tryz.underlying219 Tryz.underlying5 cellsU8 cells64 h).cell gB 15 (by decide)
theorem big_of {W : World} (h : W.ShapedOpen Tryz.prog) : 7 < W.heap.size := by
  have h1 : (((begin Tryz.prog (fun _ _ => 0) default).world.heap[7]?).bind Obj.row?).isSome = true := by kernel_rfl
  obtain ⟨⟨z, t⟩, h0⟩ := Option.isSome_iff_exists.1 h1
  obtain ⟨cs, hh, -⟩ := h.1 7 z t (of_decide_eq_true (by kernel_rfl)) h0
  exact (Array.getElem?_eq_some_iff.1 hh).1
theorem glob_of {W : World} (hS : W.ShapedOpen Tryz.prog) (h2 : laidMetH Tryz.prog [("math/bits.deBruijn64tab", Rows.laid_math_bits_deBruijn64tab)] W)
    (h4 : laidMetH Tryz.prog [("strconv.ErrSyntax", Rows.laid_strconv_ErrSyntax)] W) : Glob W where
  g := fglob_of_shaped hS
  e0 := err_of gES gEST (laidMetH_iff.1 h4).1
  bru := bru_of h2
  big := big_of hS
end Go.Proofs.YtghbaehbgefpaaaGreatDoor.Hand2
