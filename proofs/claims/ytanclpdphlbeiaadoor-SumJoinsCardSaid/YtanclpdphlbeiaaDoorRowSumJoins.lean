/- SumJoins: for every input the law returns true, and each argument reads as it did. Conditions: the tables of Go's library that the row lists hold what the program's text lays (the card ties them). -/
import Derived.Test.YtanclpdphlbeiaaDoorCards
import Derived.Test.YtanclpdphlbeiaaDoorTie
import Derived.Test.YtanclpdphlbeiaaDoorP3
import Derived.Test.YtanclpdphlbeiaaDoorPureSumJoins
import Derived.WalkKit
import Derived.ProofKit
import Derived.OpenShut
import Derived.ShutString
import Derived.ChangeOld
import Derived.Below
import Derived.SizedLaws
import Derived.SliceStrings
import Derived.Carry
import Derived.Deep.DeepHandedRow
import Derived.Lib.LaidTab
import Derived.LaidSub
namespace Go.Proofs.YtanclpdphlbeiaaDoor.sumJoins
open Go.ChangeShapes Go.WideShapes Go.ChangeAt Go.RowKit
open Go.ChangeMaps (open_string shut_string)
set_option linter.unusedVariables false
set_option linter.unusedSimpArgs false
theorem own : ownKnob Tryd.prog.godebug = none := by kernel_rfl
theorem g1 : Tryd.prog.globalNamed "math/bits.deBruijn32tab" = some 1 := by kernel_rfl
theorem g1Type : (Tryd.prog.globals[1]?).map (·.type) = some 50 := by kernel_rfl
theorem g1Cells : Tryd.prog.cellsOf 50 = 32 := by kernel_rfl
theorem g1Cell : Tryd.prog.cellsOf 5 = 1 := by kernel_rfl
theorem g1Tab {W : World} (h : laidMetH Tryd.prog Rows.sumJoinsRow.laid W) : Lib.TabIs Tryd.prog W "math/bits.deBruijn32tab" .u8 [0, 1, 28, 2, 29, 14, 24, 3, 30, 22, 20, 15, 25, 17, 4, 8, 31, 27, 13, 23, 21, 19, 16, 7, 26, 12, 18, 6, 11, 5, 10, 9] := by
  have h1 := laidMetH.filter (fun x => x.1 == "math/bits.deBruijn32tab") h
  rw [show Rows.sumJoinsRow.laid.filter (fun x => x.1 == "math/bits.deBruijn32tab") = [("math/bits.deBruijn32tab", Rows.laid_math_bits_deBruijn32tab)] from by kernel_rfl] at h1
  exact Lib.tabIs_of_head (rest := []) g1 g1Type Tryd.underlying50 Tryd.underlying5 g1Cell g1Cells h1
theorem g2 : Tryd.prog.globalNamed "math/bits.deBruijn64tab" = some 2 := by kernel_rfl
theorem g2Type : (Tryd.prog.globals[2]?).map (·.type) = some 51 := by kernel_rfl
theorem g2Cells : Tryd.prog.cellsOf 51 = 64 := by kernel_rfl
theorem g2Cell : Tryd.prog.cellsOf 5 = 1 := by kernel_rfl
theorem g2Tab {W : World} (h : laidMetH Tryd.prog Rows.sumJoinsRow.laid W) : Lib.TabIs Tryd.prog W "math/bits.deBruijn64tab" .u8 [0, 1, 56, 2, 57, 49, 28, 3, 61, 58, 42, 50, 38, 29, 17, 4, 62, 47, 59, 36, 45, 43, 51, 22, 53, 39, 33, 30, 24, 18, 12, 5, 63, 55, 48, 27, 60, 41, 37, 16, 46, 35, 44, 21, 52, 32, 23, 11, 54, 26, 40, 15, 34, 20, 31, 10, 25, 14, 19, 9, 13, 8, 7, 6] := by
  have h1 := laidMetH.filter (fun x => x.1 == "math/bits.deBruijn64tab") h
  rw [show Rows.sumJoinsRow.laid.filter (fun x => x.1 == "math/bits.deBruijn64tab") = [("math/bits.deBruijn64tab", Rows.laid_math_bits_deBruijn64tab)] from by kernel_rfl] at h1
  exact Lib.tabIs_of_head (rest := []) g2 g2Type Tryd.underlying51 Tryd.underlying5 g2Cell g2Cells h1
theorem g0 : Tryd.prog.globalNamed "internal/strconv.uint64pow10" = some 0 := by kernel_rfl
theorem g0Type : (Tryd.prog.globals[0]?).map (·.type) = some 45 := by kernel_rfl
theorem g0Cells : Tryd.prog.cellsOf 45 = 20 := by kernel_rfl
theorem g0Cell : Tryd.prog.cellsOf 36 = 1 := by kernel_rfl
theorem g0Tab {W : World} (h : laidMetH Tryd.prog Rows.sumJoinsRow.laid W) : Lib.TabIs Tryd.prog W "internal/strconv.uint64pow10" .u64 [1, 10, 100, 1000, 10000, 100000, 1000000, 10000000, 100000000, 1000000000, 10000000000, 100000000000, 1000000000000, 10000000000000, 100000000000000, 1000000000000000, 10000000000000000, 100000000000000000, 1000000000000000000, 10000000000000000000] := by
  have h1 := laidMetH.filter (fun x => x.1 == "internal/strconv.uint64pow10") h
  rw [show Rows.sumJoinsRow.laid.filter (fun x => x.1 == "internal/strconv.uint64pow10") = [("internal/strconv.uint64pow10", Rows.laid_internal_strconv_uint64pow10)] from by kernel_rfl] at h1
  exact Lib.tabIs_of_head (rest := []) g0 g0Type Tryd.underlying45 Tryd.underlying36 g0Cell g0Cells h1
theorem size {W : World} (h : laidMetH Tryd.prog Rows.sumJoinsRow.laid W) : 2 < W.heap.size := by
  have c := (g2Tab h).cell g2 0 (by decide)
  refine Classical.byContradiction fun hn => ?_
  have : W.heap[2]? = none := Array.getElem?_eq_none (by omega)
  simp [World.cell?, this] at c
def putTab (h : Array Obj) (g : Nat) (cs : Array Value) : Array Obj := h.modify g fun
  | .cells _ t frozen => .cells cs t frozen
  | o => o
/-- A world for the witness: the settled one, the listed variables holding what their initialisers lay. -/
noncomputable def laidWorld (os : Os) : World :=
  { World.holding Tryd.prog os ⟨#[], #[], []⟩ with heap := (putTab (putTab (putTab (World.holding Tryd.prog os ⟨#[], #[], []⟩).heap 1 #[.int .u8 0, .int .u8 1, .int .u8 28, .int .u8 2, .int .u8 29, .int .u8 14, .int .u8 24, .int .u8 3, .int .u8 30, .int .u8 22, .int .u8 20, .int .u8 15, .int .u8 25, .int .u8 17, .int .u8 4, .int .u8 8, .int .u8 31, .int .u8 27, .int .u8 13, .int .u8 23, .int .u8 21, .int .u8 19, .int .u8 16, .int .u8 7, .int .u8 26, .int .u8 12, .int .u8 18, .int .u8 6, .int .u8 11, .int .u8 5, .int .u8 10, .int .u8 9]) 2 #[.int .u8 0, .int .u8 1, .int .u8 56, .int .u8 2, .int .u8 57, .int .u8 49, .int .u8 28, .int .u8 3, .int .u8 61, .int .u8 58, .int .u8 42, .int .u8 50, .int .u8 38, .int .u8 29, .int .u8 17, .int .u8 4, .int .u8 62, .int .u8 47, .int .u8 59, .int .u8 36, .int .u8 45, .int .u8 43, .int .u8 51, .int .u8 22, .int .u8 53, .int .u8 39, .int .u8 33, .int .u8 30, .int .u8 24, .int .u8 18, .int .u8 12, .int .u8 5, .int .u8 63, .int .u8 55, .int .u8 48, .int .u8 27, .int .u8 60, .int .u8 41, .int .u8 37, .int .u8 16, .int .u8 46, .int .u8 35, .int .u8 44, .int .u8 21, .int .u8 52, .int .u8 32, .int .u8 23, .int .u8 11, .int .u8 54, .int .u8 26, .int .u8 40, .int .u8 15, .int .u8 34, .int .u8 20, .int .u8 31, .int .u8 10, .int .u8 25, .int .u8 14, .int .u8 19, .int .u8 9, .int .u8 13, .int .u8 8, .int .u8 7, .int .u8 6]) 0 #[.int .u64 1, .int .u64 10, .int .u64 100, .int .u64 1000, .int .u64 10000, .int .u64 100000, .int .u64 1000000, .int .u64 10000000, .int .u64 100000000, .int .u64 1000000000, .int .u64 10000000000, .int .u64 100000000000, .int .u64 1000000000000, .int .u64 10000000000000, .int .u64 100000000000000, .int .u64 1000000000000000, .int .u64 10000000000000000, .int .u64 100000000000000000, .int .u64 1000000000000000000, .int .u64 10000000000000000000]) }
theorem laid_met (os : Os) : laidMet Tryd.prog Rows.sumJoinsRow.laid ((laidWorld os).forCall (fun _ _ => 0) ⟨#[], #[.int .u32 0, .slice none 0 0], []⟩).memory :=
  laidMet_of_run' 8 (by kernel_rfl) (by kernel_rfl)
theorem reads (os : Os) {H : Type} (enc : TypeId × Value → H) : ∃ places, DataW.whole enc Tryd.prog ((laidWorld os).forCall (fun _ _ => 0) ⟨#[], #[.int .u32 0, .slice none 0 0], []⟩).memory Tryd.f4.params.toList Rows.sumJoinsSpec.vars false (#[.int .u32 0, .slice none 0 0] : Array Value).toList 8 = some ([.lit (.int .u32 0), .nil], [], places) :=
  ⟨[], by kernel_rfl⟩
theorem laidOut : laidOutB Tryd.prog = true := by kernel_rfl
theorem glob {W : World} (h : laidMetH Tryd.prog Rows.sumJoinsRow.laid W) : Hand.Glob W :=
  ⟨(g2Tab h).cell g2 15 (by decide), Nat.lt_of_le_of_lt (by decide) (size h)⟩
set_option maxRecDepth 100000 in
theorem contract (H : Type) (enc : TypeId × Value → H) (W : World) (base : Nat) (args : Array Value) (ds gs : List (DataW H)) (before : List MemPlace)
    (hval0 : ∀ (j : Nat) t v, Tryd.f4.params[j]? = some t → args[j]? = some v → Value.okWide Tryd.prog W .any base t v)
    (hW : DataW.Whole enc Tryd.prog Tryd.f4.params.toList Rows.sumJoinsSpec.vars false W args.toList ds gs before)
    (hsz0 : (DataW.weightsEach Tryd.prog (Tryd.f4.params.toList ++ Rows.sumJoinsSpec.plain.varTypes Tryd.prog) (ds ++ gs)).all (· ≤ reachBytes) = true) (hL : laidMetH Tryd.prog Rows.sumJoinsRow.laid W) :
    Calls Tryd.prog 4 args W fun e W' => ∃ v, e = .returned v ∧ Rows.sumJoinsSpec.post enc Tryd.prog Tryd.f4 false true false false W args v W' := by
  have hsz := hsz0
  have hval := hval0
  have hW' := hW
  obtain ⟨p, q, hA0, hV, rfl, hfz, hnd⟩ := hW
  have hA : DataW.TrodAll enc Tryd.prog W 0 (fun _ => true) true Tryd.f4.params.toList args.toList ds p := hA0
  rw [Tryd.params4] at hA hval hsz
  obtain ⟨v0, vs0, d0, ds0, p0, q0, hargs, rfl, rfl, h0, r0⟩ := trodAll_cons hA
  obtain ⟨v1, vs1, d1, ds1, p1, q1, rfl, rfl, rfl, h1, r1⟩ := trodAll_cons r0
  obtain ⟨rfl, rfl, rfl⟩ := trodAll_nil r1
  obtain rfl : args = #[v0, v1] := by cases args; simp_all
  obtain ⟨rfl, rfl⟩ := trodVars_none hV
  obtain ⟨a0, rfl, rfl, rfl, w0⟩ := open_int Tryd.underlying22 (hval 0 22 v0 rfl rfl) h0
  obtain ⟨a1, len1, cap1, rfl⟩ := okWide_slice Tryd.underlying28 (hval 1 28 v1 rfl rfl)
  have k1 := h1
  have lt1 : ∀ x ∈ p1, x.block < W.heap.size := by obtain ⟨m, hm⟩ := k1; exact DataW.trod_lt m _ _ _ hm
  obtain ⟨l1, hl1, hr1, hc1, hm1⟩ : ∃ l : List ByteArray, l.length = len1 ∧ YtanclpdphlbeiaaDoorW.PrintWords.ReadsOf Value.string ByteArray.empty W a1 len1 l ∧ len1 ≤ cap1 ∧ cap1 ≤ maxLen := by
    obtain ⟨fuel, hf⟩ := h1
    rcases open_strings Tryd.underlying28 Tryd.underlying9 (by kernel_rfl) hf with ⟨hcs, _⟩ | ⟨x, l, c, ss, hcs, _, hl, hm, hz, _, hcell, hws⟩
    · simp [Value.cells] at hcs
      obtain ⟨rfl, rfl, rfl⟩ := hcs
      exact ⟨[], rfl, ⟨rfl, by omega, fun h => by omega⟩, Nat.le_refl _, Nat.zero_le _⟩
    · simp [Value.cells] at hcs
      obtain ⟨rfl, rfl, rfl⟩ := hcs
      have hls : len1 ≤ ss.length := by rw [hz]; split <;> omega
      refine ⟨ss.take len1, by rw [List.length_take]; omega, ⟨by rw [List.length_take]; omega, by unfold maxLen at hm; omega, fun hp => ⟨x, rfl, fun j hj => ?_⟩⟩, hl, hm⟩
      rw [hcell j (by omega)]
      simp [List.getD_eq_getElem?_getD, hj]
  subst hl1
  clear hA0 hval0 hsz0 hsz
  have hG : Hand.Glob W := glob hL
  obtain ⟨k, h⟩ := Pure.SumJoins a0 w0 l1
  refine (P.cooperagelaw3_SumJoins.calls k a0 _ _ l1 true W hG (YtanclpdphlbeiaaDoorW.PrintWords.Kd.C_of_reads hr1) hc1 h).mono fun e W' ⟨he, bel⟩ => ?_
  subst he
  exact ⟨_, rfl, _, _, _, [], _, [], hW', trodAll_mk1 (shut_bool Tryd.underlying4 _), (trodAll_cons_mk (shut_int Tryd.underlying22 w0) (trodAll_cons_mk (Below.trod laidOut (by kernel_rfl) (of_decide_eq_true (by kernel_rfl)) k1 bel lt1) trodAll_mk0)), rfl, bel.frame _, fun h => by cases h⟩
set_option maxRecDepth 100000 in
theorem lifted (os : Os) (started : os.Started) (H : Type) (enc : TypeId × Value → H) (F : Stop.Interp) :
    ReturnsInHanded {} Tryd.checked os 4 .any ((OpenSpec.ofChange Rows.sumJoinsSpec).preRow enc Tryd.prog Tryd.f4 Rows.sumJoinsRow.domain false Rows.sumJoinsRow.laid) (((OpenSpec.ofChange Rows.sumJoinsSpec).at F).post enc Tryd.prog Tryd.f4 false true false false) := by
  obtain ⟨places, hx⟩ := reads os enc
  refine returnsInHanded_of_row (C := Tryd.checked) (s := OpenSpec.ofChange Rows.sumJoinsSpec) own started (by kernel_rfl) Tryd.func4
    (witness_row_at (enc := enc) (C := Tryd.checked) false (laidWorld os) #[.int .u32 0, .slice none 0 0] rfl (by kernel_rfl) (by kernel_rfl) (by kernel_rfl)
      (OpenSpec.preRow_of_cond 8 hx (by kernel_rfl) (fun k hk => by cases hk) (by kernel_rfl) (laid_met os))) ?_
  intro W base args ds gs before hval hW _ _ hsz hL _ _
  exact contract H enc W base args ds gs before hval hW hsz hL
theorem said : Rows.SumJoinsSaid :=
  OpenClaim.holds_of_cond 4 Tryd.f4 rfl rfl rfl rfl rfl rfl rfl ⟨rfl, rfl, rfl, rfl, rfl⟩ rfl rfl rfl rfl rfl (by kernel_rfl) Tryd.func4 (by kernel_rfl)
    (of_decide_eq_true (by kernel_rfl)) (by unfold Func.isWrapper; first | (rw [if_pos (by decide +kernel)]; kernel_rfl) | (rw [if_neg (by decide +kernel)]; exact ⟨rfl, rfl⟩))
    (fun os started H enc _ F => by rw [OpenClaim.pre_eq_preRow]; exact lifted os started H enc F)
/-- No parameter wants a stand-in; the program's own looks are off. -/
theorem plain (f : FuncId) (fn : Func) (hf : Tryd.pinned.checked.prog.funcNamed "cooperage/cooperagelaw3.SumJoins" = some f) (hfn : Tryd.pinned.checked.prog.funcs[f]? = some fn) :
    false = Tryd.pinned.checked.prog.looks [] ∧ ∀ (j : Nat) t, fn.params[j]? = some t → Tryd.pinned.checked.prog.wantsStandIn t = false := by
  obtain rfl : f = 4 := Option.some.inj ((show Tryd.prog.funcNamed "cooperage/cooperagelaw3.SumJoins" = some 4 by kernel_rfl).symm.trans hf) |>.symm
  obtain rfl : fn = Tryd.f4 := (Option.some.inj (Tryd.func4.symm.trans hfn)).symm
  refine ⟨by kernel_rfl, fun j t ht => ?_⟩
  rw [Tryd.params4] at ht
  have hm := Array.mem_of_getElem? ht
  have hall : ∀ t ∈ ([22, 28] : List Nat), Tryd.prog.wantsStandIn t = false := by
    intro t h
    simp only [List.mem_cons, List.not_mem_nil, or_false] at h
    rcases h with rfl | rfl <;> kernel_rfl
  exact hall t (by simpa using hm)
/-- THE CARD. -/
theorem card : Rows.SumJoinsCardSaid :=
  Claim7.holds_tied_plain_at .later [] _ _ _ _ said (fun _ h => by cases h) (by kernel_rfl) (fun _ h => by cases h) sumJoins_row_tie rfl ⟨rfl, rfl⟩ (by kernel_rfl) rfl plain (by kernel_rfl)
#print axioms card
end Go.Proofs.YtanclpdphlbeiaaDoor.sumJoins
