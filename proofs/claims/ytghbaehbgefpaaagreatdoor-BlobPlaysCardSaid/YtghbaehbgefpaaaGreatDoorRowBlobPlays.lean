/- BlobPlays: for every input the law returns true, and each argument reads as it did. Conditions: the tables of Go's library that the row lists hold what the program's text lays (the card ties them). -/
import Derived.Test.YtghbaehbgefpaaaGreatDoorCards
import Derived.Test.YtghbaehbgefpaaaGreatDoorTie
import Derived.Test.YtghbaehbgefpaaaGreatDoorKR7Plays
import Derived.Test.YtghbaehbgefpaaaGreatDoorKOpen
import Derived.Test.YtghbaehbgefpaaaGreatDoorKGlobH
import Derived.Test.YtghbaehbgefpaaaGreatDoorKGlobP
import Derived.WalkKit
import Derived.ProofKit
import Derived.OpenShut
import Derived.ShutString
import Derived.ChangeOld
import Derived.Below
import Derived.SizedLaws
import Derived.SliceStrings
import Derived.Carry
import Derived.Deep.DeepHandedRow
import Derived.Lib.LaidTab
import Derived.LaidSub
import Derived.Lay
import Derived.Deep.DeepWitnessRowRef
namespace Go.Proofs.YtghbaehbgefpaaaGreatDoor.blobPlays
open Go.ChangeShapes Go.WideShapes Go.ChangeAt Go.RowKit
open Go.ChangeMaps (open_string shut_string)
set_option linter.unusedVariables false
set_option linter.unusedSimpArgs false
theorem own : ownKnob Tryz.prog.godebug = none := by kernel_rfl
noncomputable def laidWorld (os : Os) : World := World.laidAll Tryz.prog os Rows.blobPlaysRow.laid
theorem laid_met (os : Os) : laidMet Tryz.prog Rows.blobPlaysRow.laid ((laidWorld os).forCall (fun _ _ => 0) ⟨#[], #[.int .i64 0, .slice none 0 0], []⟩).memory :=
  laidMet_laidAll #[.int .i64 0, .slice none 0 0] (by kernel_rfl) (by kernel_rfl)
theorem reads (os : Os) {H : Type} (enc : TypeId × Value → H) : ∃ places, DataW.whole enc Tryz.prog ((laidWorld os).forCall (fun _ _ => 0) ⟨#[], #[.int .i64 0, .slice none 0 0], []⟩).memory Tryz.f7.params.toList Rows.blobPlaysSpec.vars false (#[.int .i64 0, .slice none 0 0] : Array Value).toList 8 = some ([.lit (.int .i64 0), .nil], [], places) :=
  ⟨[], by kernel_rfl⟩
theorem laidOut : laidOutB Tryz.prog = true := by kernel_rfl
theorem cells53_ : Tryz.prog.cellsOf 53 = 5 := by kernel_rfl
theorem one53_3_ : Tryz.prog.cellsOf 3 = 1 := by kernel_rfl
theorem one53_9_ : Tryz.prog.cellsOf 9 = 1 := by kernel_rfl
theorem one53_22_ : Tryz.prog.cellsOf 22 = 1 := by kernel_rfl
set_option maxRecDepth 100000 in
theorem el53 {H : Type} {enc : TypeId × Value → H} {w : World} {base : Nat} {spare : Nat → Bool} {held : Bool} : ∀ n cs' (y : DataW H × List MemPlace), DataW.trod enc Tryz.prog w base spare held n 53 cs' = some y → ∃ a : F.S53, Go.Proofs.YtghbaehbgefpaaaGreatDoorW.PrintWords.Kd.K F.k53 w a cs' ∧ Fr.ok53 a := by
  intro n cs' y h
  obtain ⟨xs, m, _, _, hc, hl, hg⟩ := DataW.trod_struct Tryz.underlying53 h
  rw [cells53_] at hc
  match cs', hc with
  | [c0, c1, c2, c3, c4], _ =>
    match xs, hl with
    | [y0, y1, y2, y3, y4], _ =>
      have t0 : DataW.trod enc Tryz.prog w base spare held m 3 (([c0, c1, c2, c3, c4].drop 0).take (Tryz.prog.cellsOf 3)) = some y0 := hg 0 _ rfl
      rw [one53_3_] at t0
      replace t0 : DataW.trod enc Tryz.prog w base spare held m 3 [c0] = some y0 := t0
      have t1 : DataW.trod enc Tryz.prog w base spare held m 3 (([c0, c1, c2, c3, c4].drop 1).take (Tryz.prog.cellsOf 3)) = some y1 := hg 1 _ rfl
      rw [one53_3_] at t1
      replace t1 : DataW.trod enc Tryz.prog w base spare held m 3 [c1] = some y1 := t1
      have t2 : DataW.trod enc Tryz.prog w base spare held m 3 (([c0, c1, c2, c3, c4].drop 2).take (Tryz.prog.cellsOf 3)) = some y2 := hg 2 _ rfl
      rw [one53_3_] at t2
      replace t2 : DataW.trod enc Tryz.prog w base spare held m 3 [c2] = some y2 := t2
      have t3 : DataW.trod enc Tryz.prog w base spare held m 9 (([c0, c1, c2, c3, c4].drop 3).take (Tryz.prog.cellsOf 9)) = some y3 := hg 3 _ rfl
      rw [one53_9_] at t3
      replace t3 : DataW.trod enc Tryz.prog w base spare held m 9 [c3] = some y3 := t3
      have t4 : DataW.trod enc Tryz.prog w base spare held m 22 (([c0, c1, c2, c3, c4].drop 4).take (Tryz.prog.cellsOf 22)) = some y4 := hg 4 _ rfl
      rw [one53_22_] at t4
      replace t4 : DataW.trod enc Tryz.prog w base spare held m 22 [c4] = some y4 := t4
      obtain ⟨n0, e0, _, w0⟩ := DataW.trod_int Tryz.underlying3 t0
      obtain rfl := (List.cons.inj e0).1
      obtain ⟨n1, e1, _, w1⟩ := DataW.trod_int Tryz.underlying3 t1
      obtain rfl := (List.cons.inj e1).1
      obtain ⟨n2, e2, _, w2⟩ := DataW.trod_int Tryz.underlying3 t2
      obtain rfl := (List.cons.inj e2).1
      obtain ⟨n3, e3, _, w3⟩ := DataW.trod_string Tryz.underlying9 t3
      obtain rfl := (List.cons.inj e3).1
      obtain ⟨A4, n4, d4, e4, C4, h4, _⟩ := Open.open_list YtghbaehbgefpaaaGreatDoorW.PrintWords.Kd.string (fun _ => True) Tryz.underlying22 (by kernel_rfl) (Open.el_string Tryz.underlying9) t4
      obtain rfl := (List.cons.inj e4).1
      exact ⟨⟨n0, n1, n2, n3, n4⟩, F.k53_mk _ _ h4 C4, ⟨w0, w1, w2, w3⟩⟩
set_option maxRecDepth 100000 in
theorem contract (H : Type) (enc : TypeId × Value → H) (W : World) (base : Nat) (args : Array Value) (ds gs : List (DataW H)) (before : List MemPlace)
    (hval0 : ∀ (j : Nat) t v, Tryz.f7.params[j]? = some t → args[j]? = some v → Value.okWide Tryz.prog W .any base t v)
    (hW : DataW.Whole enc Tryz.prog Tryz.f7.params.toList Rows.blobPlaysSpec.vars false W args.toList ds gs before)
    (hsz0 : (DataW.weightsEach Tryz.prog (Tryz.f7.params.toList ++ Rows.blobPlaysSpec.plain.varTypes Tryz.prog) (ds ++ gs)).all (· ≤ reachBytes) = true) (hL : laidMetH Tryz.prog Rows.blobPlaysRow.laid W) (hS : W.ShapedOpen Tryz.prog) :
    Calls Tryz.prog 7 args W fun e W' => ∃ v, e = .returned v ∧ Rows.blobPlaysSpec.post enc Tryz.prog Tryz.f7 false true false false W args v W' := by
  have hsz := hsz0
  have hval := hval0
  have hW' := hW
  obtain ⟨p, q, hA0, hV, rfl, hfz, hnd⟩ := hW
  have hA : DataW.TrodAll enc Tryz.prog W 0 (fun _ => true) true Tryz.f7.params.toList args.toList ds p := hA0
  rw [Tryz.params7] at hA hval hsz
  obtain ⟨v0, vs0, d0, ds0, p0, q0, hargs, rfl, rfl, h0, r0⟩ := trodAll_cons hA
  obtain ⟨v1, vs1, d1, ds1, p1, q1, rfl, rfl, rfl, h1, r1⟩ := trodAll_cons r0
  obtain ⟨rfl, rfl, rfl⟩ := trodAll_nil r1
  obtain rfl : args = #[v0, v1] := by cases args; simp_all
  obtain ⟨rfl, rfl⟩ := trodVars_none hV
  obtain ⟨a0, rfl, rfl, rfl, w0⟩ := open_int Tryz.underlying3 (hval 0 3 v0 rfl rfl) h0
  obtain ⟨a1, len1, cap1, rfl⟩ := okWide_slice Tryz.underlying47 (hval 1 47 v1 rfl rfl)
  have k1 := h1
  have lt1 : ∀ x ∈ p1, x.block < W.heap.size := by obtain ⟨m, hm⟩ := k1; exact DataW.trod_lt m _ _ _ hm
  obtain ⟨fuel1, hf1⟩ := h1
  obtain ⟨A1_, l1, c1_, hcs1, hC1, hc1, hok1⟩ := Open.open_list F.k53 Fr.ok53 Tryz.underlying47 (by kernel_rfl) el53 hf1
  simp only [Value.cells, List.cons.injEq, and_true, Value.slice.injEq] at hcs1
  obtain ⟨rfl, rfl, rfl⟩ := hcs1
  clear hA0 hval0 hsz0 hsz
  have f0 := laidMetH.filter (fun x => x.1 == "math/bits.deBruijn64tab") hL
  rw [show Rows.blobPlaysRow.laid.filter (fun x => x.1 == "math/bits.deBruijn64tab") = [("math/bits.deBruijn64tab", Rows.laid_math_bits_deBruijn64tab)] from by kernel_rfl] at f0
  have f1 := laidMetH.filter (fun x => x.1 == "strconv.ErrSyntax") hL
  rw [show Rows.blobPlaysRow.laid.filter (fun x => x.1 == "strconv.ErrSyntax") = [("strconv.ErrSyntax", Rows.laid_strconv_ErrSyntax)] from by kernel_rfl] at f1
  have hG : Hand2.Glob W := Hand2.glob_of hS f0 f1
  refine (Fr.R_BlobPlays hG a0 w0 _ _ l1 (Fr.acs_of hC1 hc1 hok1)).mono fun e W' ⟨he, bel⟩ => ?_
  subst he
  exact ⟨_, rfl, _, _, _, [], _, [], hW', trodAll_mk1 (shut_bool Tryz.underlying4 _), (trodAll_cons_mk (shut_int Tryz.underlying3 w0) (trodAll_cons_mk (Below.trod laidOut (by kernel_rfl) (of_decide_eq_true (by kernel_rfl)) k1 bel lt1) trodAll_mk0)), rfl, bel.frame _, fun h => by cases h⟩
set_option maxRecDepth 100000 in
theorem lifted (os : Os) (started : os.Started) (H : Type) (enc : TypeId × Value → H) (F : Stop.Interp) :
    ReturnsInHanded {} Tryz.checked os 7 .any ((OpenSpec.ofChange Rows.blobPlaysSpec).preRow enc Tryz.prog Tryz.f7 Rows.blobPlaysRow.domain false Rows.blobPlaysRow.laid) (((OpenSpec.ofChange Rows.blobPlaysSpec).at F).post enc Tryz.prog Tryz.f7 false true false false) := by
  obtain ⟨places, hx⟩ := reads os enc
  refine returnsInHanded_of_row (C := Tryz.checked) (s := OpenSpec.ofChange Rows.blobPlaysSpec) own started (by kernel_rfl) Tryz.func7
    (witness_row_atRef (enc := enc) (C := Tryz.checked) false (laidWorld os) #[.int .i64 0, .slice none 0 0] (World.laidAll_os _ _ _) (by kernel_rfl) (by kernel_rfl) (by kernel_rfl)
      (OpenSpec.preRow_of_cond 8 hx (by kernel_rfl) (fun k hk => by cases hk) (by kernel_rfl) (laid_met os))) ?_
  intro W base args ds gs before hval hW _ _ hsz hL hS _
  exact contract H enc W base args ds gs before hval hW hsz hL hS
theorem said : Rows.BlobPlaysSaid :=
  OpenClaim.holds_of_cond 7 Tryz.f7 rfl rfl rfl rfl rfl rfl rfl ⟨rfl, rfl, rfl, rfl, rfl⟩ rfl rfl rfl rfl rfl (by kernel_rfl) Tryz.func7 (by kernel_rfl)
    (of_decide_eq_true (by kernel_rfl)) (by unfold Func.isWrapper; first | (rw [if_pos (by decide +kernel)]; kernel_rfl) | (rw [if_neg (by decide +kernel)]; exact ⟨rfl, rfl⟩))
    (fun os started H enc _ F => by rw [OpenClaim.pre_eq_preRow]; exact lifted os started H enc F)
/-- No parameter wants a stand-in; the program's own looks are off. -/
theorem plain (f : FuncId) (fn : Func) (hf : Tryz.pinned.checked.prog.funcNamed "cooperage/cooperagelaw7.BlobPlays" = some f) (hfn : Tryz.pinned.checked.prog.funcs[f]? = some fn) :
    true = Tryz.pinned.checked.prog.looks [] ∧ ∀ (j : Nat) t, fn.params[j]? = some t → Tryz.pinned.checked.prog.wantsStandIn t = false := by
  obtain rfl : f = 7 := Option.some.inj ((show Tryz.prog.funcNamed "cooperage/cooperagelaw7.BlobPlays" = some 7 by kernel_rfl).symm.trans hf) |>.symm
  obtain rfl : fn = Tryz.f7 := (Option.some.inj (Tryz.func7.symm.trans hfn)).symm
  refine ⟨by kernel_rfl, fun j t ht => ?_⟩
  rw [Tryz.params7] at ht
  have hm := Array.mem_of_getElem? ht
  have hall : ∀ t ∈ ([3, 47] : List Nat), Tryz.prog.wantsStandIn t = false := by
    intro t h
    simp only [List.mem_cons, List.not_mem_nil, or_false] at h
    rcases h with rfl | rfl <;> kernel_rfl
  exact hall t (by simpa using hm)
/-- THE CARD. -/
theorem card : Rows.BlobPlaysCardSaid :=
  Claim7.holds_tied_plain_at .later [] _ _ _ _ said (fun _ h => by cases h) (by kernel_rfl) (fun _ h => by cases h) blobPlays_row_tie rfl ⟨rfl, rfl⟩ (by kernel_rfl) rfl plain (by kernel_rfl)
#print axioms card
end Go.Proofs.YtghbaehbgefpaaaGreatDoor.blobPlays
