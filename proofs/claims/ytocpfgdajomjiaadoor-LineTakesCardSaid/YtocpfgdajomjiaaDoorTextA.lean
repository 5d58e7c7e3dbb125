import Derived.RangeFuncWrites
import Derived.RangeFuncBox
import Derived.RangeFuncLeaves
import Derived.RangeFuncCalls
import Derived.Test.YtocpfgdajomjiaaDoorShelf
import Derived.Shelf.Strings.SlTrimAscii
import Derived.Laws.RangeAny
import Derived.Lib.DecodeN
import Derived.Lib.Hide
import Derived.Outline
import Derived.Deep.LoopGhost
import Derived.Stop.FmtQuoteTie
import Derived.Scope
import Derived.Deep.RegionHeld3
import Derived.Deep.RegionWith
import Derived.RangeFuncRecord
import Derived.RangeFuncOwn
import Derived.Shelf.Abstract
import Derived.Shelf.RegionOpen
import Derived.WalkKit
import Derived.OwnWalkIn
import Derived.TacticsInMore
import Derived.LoopNIn
import Derived.LoopIn
import Derived.Maps.AppendAt
import Derived.Test.YtocpfgdajomjiaaDoorWMore
import Derived.Test.YtocpfgdajomjiaaDoorWWords
import Derived.Shelf.Strings.BuilderK
import Derived.Test.YtocpfgdajomjiaaDoorProg
import Derived.Below
import Derived.Deep.Draws
import Derived.Deep.AppendLies
import Derived.OwnWalk
import Derived.Laws.BytesArg
import Derived.Laws.MakeOwn
import Derived.Laws.OwnMore
import Derived.Deep.OwnRows
import Derived.Tactics
import Derived.Lib.ConvBytes
import Derived.Laws.Slices
import Derived.KernelRfl
import Derived.RowKit3
import Derived.Deep.QuietTactic
import Derived.BigQuiet
import Derived.WideLaws
import Derived.Deep.DeepCutAuto
import Derived.Deep.CutBlock
import Derived.Laws.Rows
import Derived.Lib.AppendStr
import Derived.ArgAppend
import Derived.Laws.IdiomCopy
import Derived.OrdersHeld
import Derived.Laws.BitsLemmas
import Derived.RowKit
import Derived.Test.YtocpfgdajomjiaaDoorWLast
import Derived.Test.YtocpfgdajomjiaaDoorWTab
import Derived.Test.YtocpfgdajomjiaaDoorWFour
import Derived.Test.YtocpfgdajomjiaaDoorWQPut
import Derived.Test.YtocpfgdajomjiaaDoorWApart
import Derived.Test.YtocpfgdajomjiaaDoorWArr
import Derived.Test.YtocpfgdajomjiaaDoorWZeros
import Derived.Test.YtocpfgdajomjiaaDoorWFoot
import Derived.Test.YtocpfgdajomjiaaDoorWKept
import Derived.Test.YtocpfgdajomjiaaDoorWShare
import Derived.Test.YtocpfgdajomjiaaDoorWN
import Derived.Test.YtocpfgdajomjiaaDoorWFootNe
import Derived.Test.YtocpfgdajomjiaaDoorWAt
import Derived.Test.YtocpfgdajomjiaaDoorWEqStruct
import Derived.Test.YtocpfgdajomjiaaDoorWRepsOne
import Derived.Test.YtocpfgdajomjiaaDoorWInv
import Derived.Test.YtocpfgdajomjiaaDoorWInvWords
import Derived.Test.YtocpfgdajomjiaaDoorWGuard
import Derived.Test.YtocpfgdajomjiaaDoorWNEv
import Derived.Test.YtocpfgdajomjiaaDoorWSized
/- Several texts of this session in one (merge.py): the walks of the functions that the laws reach. -/
/- A range over an iterator that keeps what it goes by in a cell of its own (block B), and a body that never leaves: told to the end. -/
namespace Go.Proofs.YtocpfgdajomjiaaDoor.Range
open Go Go.RowKit
variable {α : Type}

/-- What a round may find changed between two rounds: the iterator's cell, and whatever is new. -/
structure CalmC (B : Nat) (J : List α → World → Prop) : Prop where
  cell : ∀ s W v, J s W → J s (W.setCell ⟨B, 0, none⟩ v)
  below : ∀ s W W', J s W → Below W.heap.size W W' → J s W'
/-- The iterator gives xs, one by one, to a yield that always goes on and keeps what lies below n₀. -/
def Gives (F : Fence) (n : Nat) (P : Program) (gf : Nat) (lb : Array Value) (encs : α → Array Value) (B n₀ : Nat) (xs : List α) (w : World) : Prop :=
  ∀ (l : Nat) (J : List α → World → Prop) (W : World), Below w.heap.size w W → CalmC B J →
    (∀ pre x W1, J pre W1 → (∃ t, pre ++ x :: t = xs) → YieldAt F (n - 1) P l (encs x) W1 fun e W' => e = .returned (.bool true) ∧ J (pre ++ [x]) W' ∧ Below n₀ W1 W') →
    J [] W → CallsIn F n P gf (#[.func (.yield l) #[] #[]] ++ lb) W fun e W' => (∃ v, e = .returned v) ∧ J xs W'
/-- How the body ends. -/
def goesOn (B n₀ : Nat) (I : List α → World → Prop) (xs : List α) (W : World) : Exit → Act → World → Prop
  | .normal, _, W' => KeepsFrom B W W' ∧ Below n₀ W W' ∧ I xs W'
  | _, _, _ => False
theorem loop_all {F : Fence} {n : Nat} {P : Program} {g : Operand} {ps : Array Tmp} {assign body : Code} {Q : Exit → Act → World → Prop} {a : Act} {w : World} (hro : F.round = none) (h1 : 1 ≤ n) {gf : Nat} {lb : Array Value}
    (hg : a.eval g = .func (.func gf) #[] lb) (hFg : F.fn gf) (eg : ∀ args w, (callFunc gf args).run P w = .ok (.enter gf args) w) {encs : α → Array Value} {B n₀ : Nat} {xs : List α} {w0 : World}
    (hseq : Gives F (n - 1) P gf lb encs B n₀ xs w0) (hb0 : Below w0.heap.size w0 w) (hB : B < w.heap.size) (hn : n₀ ≤ w.heap.size) (hps : ∀ x, (encs x).size = ps.size) (I : List α → World → Prop) (hI : CalmC B I)
    (hput : ∀ s W l o o', I s W → w.heap.size ≤ l → W.heap[l]? = some o → Obj.isCells o = false → I s (W.putObj l o')) (h0 : I [] w) (a₁ : α → Act)
    (hassign : ∀ (l : Nat) (x : α) (W : World) (K : Act → World → Prop), K (a₁ x) W → assign.wpIn (F.inRound l) (n - 1 - 1) P (Exit.then K (fun _ _ _ => False)) { tmps := (ps.zip (encs x)).foldl (fun t (p, v) => t.setIfInBounds p v) a.tmps, defers := [] } W)
    (hbody : ∀ (l : Nat) (pre : List α) (x : α) (W : World), I pre W → (∃ t, pre ++ x :: t = xs) → body.wpIn (F.inRound l) (n - 1 - 1) P (goesOn w.heap.size n₀ I (pre ++ [x]) W) (a₁ x) W)
    (hdone : ∀ (D : Nat) (W : World), w.heap.size ≤ D → I xs W → W.heap[D]? = some (.deferred (some [])) → Q .normal { a with defers := { target := .collected D, args := #[] } :: a.defers } W) :
    (Code.rangeFunc g ps assign body).wpIn F n P Q a w := by
  apply wpIn_rangeFunc
  intro fn hfn
  rw [hro]
  let rec_ : LoopState → Loop := fun st => { state := st, pending := none, fn := fn, tmps := a.tmps, params := ps, assign := assign, body := body, defers := w.heap.size }
  let V := w.alloc (.deferred (some []))
  have hVs : V.heap.size = w.heap.size + 1 := World.size_alloc _ _
  let U := V.alloc (.loop (rec_ .ready))
  have hUl : U.heap[w.heap.size + 1]? = some (.loop (rec_ .ready)) := by rw [← hVs]; exact World.alloc_heap_new V _
  have hVd : V.heap[w.heap.size]? = some (.deferred (some [])) := World.alloc_heap_new w _
  have hUd : U.heap[w.heap.size]? = some (.deferred (some [])) := (Below.heap_alloc V _ _ (by rw [hVs]; omega)).trans hVd
  have hwV : Below w.heap.size w V := (Below.refl _ w).alloc (Nat.le_refl _) _
  have hVU : Below V.heap.size V U := (Below.refl _ V).alloc (Nat.le_refl _) _
  have hIU : I [] U := hI.below _ _ _ (hI.below _ _ _ h0 hwV) hVU
  have hwU : Below w.heap.size w U := hwV.trans (hVU.mono (by rw [hVs]; omega))
  refine ⟨_, _, _, { target := .fn (.func gf) lb, args := #[.func (.yield (w.heap.size + 1)) #[] #[]] }, U, gf, #[.func (.yield (w.heap.size + 1)) #[] #[]] ++ lb, U, run_enterLoop_outer fn a.tmps ps assign body, ?_, ?_, ?_, fun _ => h1, ?_⟩
  · simp only [resolve, hg]
    simp [go_sem]
    rfl
  · intro f' hf'
    simp [Target.leads] at hf'
    subst hf'
    exact hFg
  · simp [invoke, go_sem, eg]
  refine (hseq (w.heap.size + 1) (fun pre W => I pre W ∧ W.heap[w.heap.size + 1]? = some (.loop (rec_ .ready)) ∧ W.heap[w.heap.size]? = some (.deferred (some []))) U (hb0.trans (hwU.mono hb0.size)) ⟨?_, ?_⟩ ?_ ⟨hIU, hUl, hUd⟩).mono ?_
  · rintro s W v ⟨h, hl, hd⟩
    exact ⟨hI.cell _ _ _ h, (Below.heap_setCell W _ _ _ (by show w.heap.size + 1 ≠ B; omega)).trans hl, (Below.heap_setCell W _ _ _ (by show w.heap.size ≠ B; omega)).trans hd⟩
  · rintro s W W' ⟨h, hl, hd⟩ hb
    exact ⟨hI.below _ _ _ h hb, (hb.block _ (Array.getElem?_eq_some_iff.1 hl).1).trans hl, (hb.block _ (Array.getElem?_eq_some_iff.1 hd).1).trans hd⟩
  · rintro pre x W ⟨h, hl, hd⟩ hx
    have hlt := (Array.getElem?_eq_some_iff.1 hl).1
    refine ⟨_, _, _, _, run_yield (P := P) (args := encs x) hl (hps x), roundIn_of_wpIn hfn ?_⟩
    refine hassign _ x W _ ?_
    refine ⟨_, run_beginRound hl rfl, ?_⟩
    let X := W.putObj (w.heap.size + 1) (.loop (rec_ .busy))
    have hXl : X.heap[w.heap.size + 1]? = some (.loop (rec_ .busy)) := World.putObj_heap_same hlt
    have hXd : X.heap[w.heap.size]? = some (.deferred (some [])) := (World.putObj_heap_other (by omega)).trans hd
    have hXb : Below n₀ W X := (Below.refl _ W).grown (grownBy_putObj' W _ _) (by omega) (fun k e => by cases e; omega)
    refine wpIn_mono (hbody (w.heap.size + 1) pre x X (hput _ _ _ _ _ h (by omega) hl rfl) hx) ?_
    intro e a3 Y hY
    cases e with
    | normal =>
      obtain ⟨hk, hbY, hIY⟩ := hY
      have hYl := hk.same _ _ (by omega) hXl rfl
      have hYd := hk.same _ _ (Nat.le_refl _) hXd rfl
      have hlt2 := (Array.getElem?_eq_some_iff.1 hYl).1
      refine ⟨_, _, run_endRound none hYl, rfl, ⟨hput _ _ _ _ _ hIY (by omega) hYl rfl, World.putObj_heap_same hlt2, (World.putObj_heap_other (by omega)).trans hYd⟩, ?_⟩
      exact (hXb.trans hbY).trans ((Below.refl _ Y).grown (grownBy_putObj' Y _ _) (by omega) (fun k e => by cases e; omega))
    | _ => exact hY.elim
  · rintro e Y ⟨⟨v, rfl⟩, hIY, hYl, hYd⟩
    exact ⟨none, _, run_endLoop hYl (by simp [rec_]), hdone _ _ (Nat.le_refl _) (hput _ _ _ _ _ hIY (by omega) hYl rfl) ((World.putObj_heap_other (by omega)).trans hYd)⟩
end Go.Proofs.YtocpfgdajomjiaaDoor.Range
namespace Go.Proofs.YtocpfgdajomjiaaDoor.Hand
open Go.RowKit
set_option linter.unusedVariables false
set_option linter.unusedSimpArgs false

/-! #### strings.IndexAny at " \t", whatever the text -/
theorem get_eq (s : ByteArray) (k : Nat) (h : k < s.size) : s.get! k = s[k]'h := by
  simp [ByteArray.get!, getElem!_pos, h]
  rfl
/-- What is decoded from a byte beyond ASCII: its bytes are all beyond ASCII, and lie in the text. -/
theorem decode_span (s : ByteArray) (i : Nat) (h : i < s.size) (ha : 128 ≤ (s[i]'h).toNat) : i + (Utf8.decode s i).2 ≤ s.size ∧ ∀ j, i ≤ j → j < i + (Utf8.decode s i).2 → ∃ hj : j < s.size, 128 ≤ (s[j]'hj).toNat := by
  have e0 := get_eq s i h
  have key : ∀ k, k < s.size - i → ∃ hj : i + k < s.size, s.get! (i + k) = s[i + k]'hj := fun k hk => ⟨by omega, get_eq s (i + k) (by omega)⟩
  have fin : ∀ w, i + w ≤ s.size → (∀ k, k < w → 128 ≤ (s.get! (i + k)).toNat) → i + w ≤ s.size ∧ ∀ j, i ≤ j → j < i + w → ∃ hj : j < s.size, 128 ≤ (s[j]'hj).toNat := by
    intro w hw hk
    refine ⟨hw, fun j h1 h2 => ?_⟩
    obtain ⟨k, rfl⟩ : ∃ k, j = i + k := ⟨j - i, by omega⟩
    refine ⟨by omega, ?_⟩
    rw [← get_eq s (i + k) (by omega)]
    exact hk k (by omega)
  have h0 : 128 ≤ (s.get! i).toNat := by rw [e0]; exact ha
  rw [Lib.decode_at]
  unfold Lib.decodeN
  rw [if_neg (by omega)]
  have one : ∀ k, k < 1 → 128 ≤ (s.get! (i + k)).toNat := fun k hk => by
    obtain rfl : k = 0 := by omega
    exact h0
  repeat' split
  · rename_i h1 h2
    refine fin 2 (by omega) fun k hk => ?_
    rcases (show k = 0 ∨ k = 1 by omega) with rfl | rfl
    · exact h0
    · omega
  · exact fin 1 (by omega) one
  · rename_i h1 h2 h3
    refine fin 3 (by omega) fun k hk => ?_
    rcases (show k = 0 ∨ k = 1 ∨ k = 2 by omega) with rfl | rfl | rfl
    · exact h0
    · omega
    · omega
  · exact fin 1 (by omega) one
  · rename_i h1 h2 h3 h4
    refine fin 4 (by omega) fun k hk => ?_
    rcases (show k = 0 ∨ k = 1 ∨ k = 2 ∨ k = 3 by omega) with rfl | rfl | rfl | rfl
    · exact h0
    · omega
    · omega
    · omega
  · exact fin 1 (by omega) one
  · exact fin 1 (by omega) one

def blanksB : ByteArray := ⟨#[32, 9]⟩
set_option maxHeartbeats 2000000 in
set_option maxRecDepth 1000000 in
theorem indexRune_err (w : World) :
    Calls Tryd.prog 99 #[.string blanksB, .int .i32 65533] w fun e w' => e = .returned (.int .i64 (-1)) ∧ Below w.heap.size w w' := by
  go_enter Tryd.func99, Tryd.ntmps99
  have h0 : ∀ ty, (Instr.next (.pointer (some ⟨w.heap.size, 0, none⟩)) true ty).run Tryd.prog (w.iter blanksB 0) = .ok (.tuple #[.bool true, .int .i64 (0 : Nat), .int .i32 (32 : Nat)]) (w.iter blanksB (0 + 1)) := fun ty => run_next_ascii (P := Tryd.prog) w blanksB 0 ty (by decide) (by decide)
  have h1 : ∀ ty, (Instr.next (.pointer (some ⟨w.heap.size, 0, none⟩)) true ty).run Tryd.prog (w.iter blanksB 1) = .ok (.tuple #[.bool true, .int .i64 (1 : Nat), .int .i32 (9 : Nat)]) (w.iter blanksB (1 + 1)) := fun ty => run_next_ascii (P := Tryd.prog) w blanksB 1 ty (by decide) (by decide)
  have h2 : ∀ ty, (Instr.next (.pointer (some ⟨w.heap.size, 0, none⟩)) true ty).run Tryd.prog (w.iter blanksB 2) = .ok (.tuple #[.bool false]) (w.iter blanksB 2) := fun ty => run_next_end (P := Tryd.prog) w blanksB 2 ty (by decide)
  go_wp2
  go_loopg [5, 6] 2 (fun g _ _ wx => ∃ i : Nat, i + g = 2 ∧ wx = w.iter blanksB i)
  case atStart => exact ⟨0, rfl, rfl⟩
  case round =>
    obtain ⟨i, hi, rfl⟩ := hrel
    match gk, hi with
    | 0, hi =>
      obtain rfl : i = 2 := by omega
      go_wp2
      go_ret
      exact ⟨rfl, (Below.refl _ _).alloc (Nat.le_refl _) _⟩
    | 1, hi =>
      obtain rfl : i = 1 := by omega
      go_wp2
      go_roundg 0
      case measure => omega
      case rel => exact ⟨2, rfl, rfl⟩
    | 2, hi =>
      obtain rfl : i = 0 := by omega
      go_wp2
      go_roundg 1
      case measure => omega
      case rel => exact ⟨1, rfl, rfl⟩
    | n + 3, hi => omega
end Go.Proofs.YtocpfgdajomjiaaDoor.Hand
namespace Go.Proofs.YtocpfgdajomjiaaDoor.Hand
open Go.RowKit
set_option linter.unusedVariables false
set_option linter.unusedSimpArgs false
set_option maxHeartbeats 2000000 in
set_option maxRecDepth 1000000 in
theorem indexRune_bad (r : Int) (w : World) (h0 : 128 ≤ r) (hne : (r == 65533) = false) (hv : Lib.validRune r = false) :
    Calls Tryd.prog 99 #[.string blanksB, .int .i32 r] w fun e w' => e = .returned (.int .i64 (-1)) ∧ w' = w := by
  go_enter Tryd.func99, Tryd.ntmps99
  go_wp2_with (go_at_call 118; refine (Tryd.utf8_ValidRune _ _).mono ?_; rintro e w' ⟨rfl, rfl⟩; rw [hv])
  go_ret
  exact ⟨rfl, rfl⟩
set_option maxHeartbeats 2000000 in
set_option maxRecDepth 1000000 in
theorem indexRune_far (r : Int) (rs : ByteArray) (w : World) (h0 : 128 ≤ r) (hne : (r == 65533) = false) (hv : Lib.validRune r = true) (hrs : Utf8.encode r = rs) (h3 : (3 : Int) ≤ rs.size) (h4 : (rs.size : Int) ≤ 4) :
    Calls Tryd.prog 99 #[.string blanksB, .int .i32 r] w fun e w' => e = .returned (.int .i64 (-1)) ∧ w' = w := by
  go_enter Tryd.func99, Tryd.ntmps99
  go_wp2_with (go_at_call 118; refine (Tryd.utf8_ValidRune _ _).mono ?_; rintro e w' ⟨rfl, rfl⟩; rw [hv])
  refine wp_scope_straight ?_
  go_wp2
  go_loop [9] (fun i => i = .int .i64 ((rs.size : Int) - 1)) (fun _ => 0)
  case atStart => rfl
  case round =>
    subst hrel
    have hd : decide ((rs.size : Int) - 1 < (blanksB.size : Int)) = false := decide_eq_false (by show ¬ ((rs.size : Int) - 1 < 2); omega)
    go_wp2
    go_ret
    exact ⟨rfl, rfl⟩
set_option maxHeartbeats 2000000 in
set_option maxRecDepth 1000000 in
theorem indexRune_near (r : Int) (c0 c1 : UInt8) (w : World) (h0 : 128 ≤ r) (hne : (r == 65533) = false) (hv : Lib.validRune r = true) (hrs : Utf8.encode r = ⟨#[c0, c1]⟩) (hc : 128 ≤ c1.toNat) :
    Calls Tryd.prog 99 #[.string blanksB, .int .i32 r] w fun e w' => e = .returned (.int .i64 (-1)) ∧ Below w.heap.size w w' := by
  obtain ⟨rs, hr⟩ : ∃ rs : ByteArray, rs = ⟨#[c0, c1]⟩ := ⟨_, rfl⟩
  rw [← hr] at hrs
  have h2 : (rs.size : Int) = 2 := by rw [hr]; rfl
  have HR := Lib.hid hr
  clear hr
  obtain ⟨bl, hb⟩ : ∃ bl : ByteArray, blanksB = bl := ⟨_, rfl⟩
  rw [hb]
  have h3 : (bl.size : Int) = 2 := by rw [← hb]; rfl
  have HB := Lib.hid hb
  clear hb
  have h3' : bl.size = 2 := by omega
  have h2' : rs.size = 2 := by omega
  have hd2 : decide (Lib.indexByte [] (rs[1]'(by omega)) < 0) = true := rfl
  have hx : (((bl[1]'(by omega)).toNat : Int) != ((rs[1]'(by omega)).toNat : Int)) = true := by
    have e1 : bl[1]'(by omega) = 9 := by simp only [← HB.out]; rfl
    have e2 : rs[1]'(by omega) = c1 := by simp only [HR.out]; rfl
    rw [e1, e2]
    simp
    omega
  go_enter Tryd.func99, Tryd.ntmps99
  go_wp2_with (go_at_call 118; refine (Tryd.utf8_ValidRune _ _).mono ?_; rintro e w' ⟨rfl, rfl⟩; rw [hv])
  refine wp_scope_straight ?_
  go_wp2
  go_loop [9] (fun i => i = .int .i64 1) (fun _ => 0)
  case atStart => rfl
  case round =>
    subst hrel
    go_wp2
    refine wp_scope_straight ?_
    go_wp2
    go_region
    all_goals go_wp2_with fail
    go_region_with (go_at_call 117; refine (Tryd.strings_IndexByte _ _ _).mono ?_; rintro e w1 ⟨rfl, rfl⟩)
    all_goals go_wp2
    all_goals change bodyPost Tryd.prog Tryd.f99 (fun e w'_1 => e = .returned (.int .i64 (-1)) ∧ Below w'.heap.size w' w'_1) Exit.ret _ _
    all_goals go_ret
    all_goals exact ⟨rfl, ((Below.refl _ _).drew).drew⟩
open Go.Extern.FmtText in
theorem indexRune_high (r : Int) (w : World) (h0 : 128 ≤ r) (h1 : r ≤ 1114111) :
    Calls Tryd.prog 99 #[.string blanksB, .int .i32 r] w fun e w' => e = .returned (.int .i64 (-1)) ∧ Below w.heap.size w w' := by
  by_cases e : r = 65533
  · subst e
    exact indexRune_err w
  have hne : (r == 65533) = false := by simpa using e
  cases hv : Lib.validRune r with
  | false => exact (indexRune_bad r w h0 hne hv).mono (by rintro e w' ⟨h, rfl⟩; exact ⟨h, Below.refl _ _⟩)
  | true =>
    obtain ⟨n, rfl⟩ := Int.eq_ofNat_of_zero_le (show 0 ≤ r by omega)
    have hvn : n < 55296 ∨ 57344 ≤ n := by
      simp [Lib.validRune] at hv
      omega
    have hlen := Lib.size_eq (Utf8.encode (n : Int))
    by_cases h2 : n < 2048
    · have henc := enc2 n (by omega) h2
      refine indexRune_near n (UInt8.ofNat (192 + n / 64)) (UInt8.ofNat (128 + n % 64)) w h0 hne hv ?_ ?_
      · cases h : Utf8.encode (n : Int) with
        | mk d =>
          rw [h] at henc
          have : d = #[UInt8.ofNat (192 + n / 64), UInt8.ofNat (128 + n % 64)] := Array.ext' henc
          rw [this]
      · rw [UInt8.toNat_ofNat']
        omega
    · have hbig : 3 ≤ (Utf8.encode (n : Int)).size ∧ (Utf8.encode (n : Int)).size ≤ 4 := by
        rw [hlen]
        by_cases h6 : n < 65536
        · rw [enc3 n h2 h6 hvn]
          simp
        · rw [enc4 n h6 (by omega)]
          simp
      exact (indexRune_far n _ w h0 hne hv rfl (by omega) (by omega)).mono (by rintro e w' ⟨h, rfl⟩; exact ⟨h, Below.refl _ _⟩)
end Go.Proofs.YtocpfgdajomjiaaDoor.Hand
namespace Go.Proofs.YtocpfgdajomjiaaDoor.Hand
open Go.RowKit Go.Lib
set_option linter.unusedVariables false
set_option linter.unusedSimpArgs false
theorem next_more {P : Program} (wx : World) (k : Nat) (s : ByteArray) (pos : Nat) (ty : TypeId) (hk : wx.heap[k]? = some (.stringIter s pos)) (h : pos < s.size) :
    (Instr.next (.pointer (some ⟨k, 0, none⟩)) true ty).run P wx = .ok (.tuple #[.bool true, .int .i64 pos, .int .i32 (Utf8.decode s pos).1]) (wx.putObj k (.stringIter s (pos + (Utf8.decode s pos).2))) := by
  simp only [Instr.next, getObj, setObj, Sem.run_bind, Sem.run, hk, Result.andThen, h, if_true]
  simp [goInt, World.putObj, hk, Sem.run]
theorem next_end {P : Program} (wx : World) (k : Nat) (s : ByteArray) (pos : Nat) (ty : TypeId) (hk : wx.heap[k]? = some (.stringIter s pos)) (h : ¬ pos < s.size) :
    (Instr.next (.pointer (some ⟨k, 0, none⟩)) true ty).run P wx = .ok (.tuple #[.bool false]) wx := by
  simp [Instr.next, getObj, Sem.run, hk, h]
theorem below_put {w wx : World} {k : Nat} (o : Obj) (hb : Below w.heap.size w wx) (hk : w.heap.size ≤ k) (hl : k < wx.heap.size) : Below w.heap.size w (wx.putObj k o) :=
  hb.trans ((Below.refl _ wx).grown (grownBy_putObj' wx k o) (by have := hb.size; omega) (fun j e => by cases e; omega))
theorem decode_max' (s : ByteArray) (pos : Nat) : (Utf8.decode s pos).1 ≤ 1114111 := by
  have hb : ∀ k, (s.get! (pos + k)).toNat < 256 := fun k => (s.get! (pos + k)).toNat_lt
  have h0 := hb 0; have h1 := hb 1; have h2 := hb 2; have h3 := hb 3
  simp only [Utf8.decode]
  repeat' split
  all_goals simp_all [Utf8.runeError, Utf8.valid]
  all_goals omega
set_option maxHeartbeats 8000000 in
set_option maxRecDepth 1000000 in
theorem indexAny_near (s : ByteArray) (w : World) (h8 : s.size ≤ 8) :
    Calls Tryd.prog 78 #[.string s, .string blanksB] w fun e w' => e = .returned (.int .i64 (Lib.indexAny s.data.toList [32, 9])) ∧ Below w.heap.size w w' := by
  have hemp : blanksB.toList.isEmpty = false := by rw [Lib.toList_data]; rfl
  have hbl : blanksB.data.toList = [32, 9] := rfl
  obtain ⟨bl, hb⟩ : ∃ bl : ByteArray, blanksB = bl := ⟨_, rfl⟩
  have hih := Lib.hid indexRune_high
  rw [hb] at hemp hbl hih ⊢
  have hn1 : ((bl.size : Int) == 1) = false := by rw [← hb]; rfl
  have h8z : decide ((8 : Int) < (s.size : Int)) = false := decide_eq_false (by omega)
  have HB := Lib.hid hbl
  clear hbl hb
  go_enter Tryd.func78, Tryd.ntmps78
  go_wp2_with (go_at_call 100; refine (Tryd.strings_shouldUseASCIISet _ _).mono ?_; rintro e w' ⟨rfl, hw⟩; rw [hw, h8z])
  go_loopg [9, 10] s.size (fun g _ _ wx => ∃ i : Nat, i + g = s.size ∧ Hid (wx.heap[w.heap.size]? = some (.stringIter s i)) ∧ Hid (Below w.heap.size w wx) ∧ Hid (Lib.NoAny s.data.toList [32, 9] i))
  case atStart => exact ⟨0, by omega, World.iter_heap _ _ _, (Below.refl _ _).alloc (Nat.le_refl _) _, Lib.NoAny.zero _ _⟩
  case round =>
    obtain ⟨i, hig, hit, hB, HN⟩ := hrel
    cases gk with
    | zero =>
      obtain rfl : i = s.size := by omega
      have hnx := fun ty => next_end (P := Tryd.prog) wr w.heap.size s s.size ty hit.out (by omega)
      go_wp2
      go_ret
      exact ⟨by rw [Lib.indexAny_none (by rw [← Lib.size_eq]; exact HN.out)]; rfl, hB.out⟩
    | succ g =>
      have hi : i < s.size := by omega
      have hlt := (Array.getElem?_eq_some_iff.1 hit.out).1
      have hnx := fun ty => next_more (P := Tryd.prog) wr w.heap.size s i ty hit.out hi
      obtain ⟨x, hx⟩ : ∃ x : UInt8, s[i]'hi = x := ⟨_, rfl⟩
      have Hx : Hid (s.data.toList[i]? = some x) := by
        show s.data.toList[i]? = some x
        rw [← hx]
        exact Lib.data_getElem? s i hi
      by_cases ha : x.toNat < 128
      · have hd := decode_ascii s i hi (by rw [hx]; exact ha)
        rw [hd, hx] at hnx
        have hB2 : Hid (Below w.heap.size w (wr.putObj w.heap.size (.stringIter s (i + 1)))) := below_put _ hB.out (Nat.le_refl _) hlt
        have hit2 : Hid ((wr.putObj w.heap.size (.stringIter s (i + 1))).heap[w.heap.size]? = some (.stringIter s (i + 1))) := World.putObj_heap_same hlt
        generalize hW : wr.putObj w.heap.size (.stringIter s (i + 1)) = W at hnx hB2 hit2
        clear hW hd hx
        have hcon := Lib.contains_iff_indexByte [32, 9] x
        have hback : ((x.toNat : Int)).toNat.toUInt8 = x := by simp
        cases hin : List.contains [32, 9] x
        · rw [hin] at hcon
          have hlt : ¬ ((0 : Int) ≤ Lib.indexByte [32, 9] x) := of_decide_eq_false hcon.symm
          clear hcon
          go_wp2_with (go_at_call 99; refine (Tryd.strings_IndexRune_ascii _ _ _ (by omega) (by omega)).mono ?_; rintro e w' ⟨rfl, hw⟩; rw [hw, hback, HB.out])
          go_roundg g
          case measure => omega
          case rel => exact ⟨i + 1, by omega, hit2, hB2, HN.out.succ Hx.out hin⟩
        · rw [hin] at hcon
          have hge : (0 : Int) ≤ Lib.indexByte [32, 9] x := of_decide_eq_true hcon.symm
          clear hcon
          go_wp2_with (go_at_call 99; refine (Tryd.strings_IndexRune_ascii _ _ _ (by omega) (by omega)).mono ?_; rintro e w' ⟨rfl, hw⟩; rw [hw, hback, HB.out])
          go_ret
          exact ⟨by rw [Lib.indexAny_hit HN.out Hx.out hin]; rfl, hB2.out⟩
      · have hhigh := decode_high s i hi (by rw [hx]; omega)
        have hmax := decode_max' s i
        obtain ⟨hsp1, hsp2⟩ := decode_span s i hi (by rw [hx]; omega)
        generalize Utf8.decode s i = rw_ at hnx hhigh hmax hsp1 hsp2
        obtain ⟨r, wd⟩ := rw_
        simp only at hnx hhigh hmax hsp1 hsp2
        have hB2 : Hid (Below w.heap.size w (wr.putObj w.heap.size (.stringIter s (i + wd)))) := below_put _ hB.out (Nat.le_refl _) hlt
        have hit2 : Hid ((wr.putObj w.heap.size (.stringIter s (i + wd))).heap[w.heap.size]? = some (.stringIter s (i + wd))) := World.putObj_heap_same hlt
        generalize hW : wr.putObj w.heap.size (.stringIter s (i + wd)) = W at hnx hB2 hit2
        clear hW hx
        have hno : Hid (Lib.NoAny s.data.toList [32, 9] (i + wd)) := by
          intro j b hj hb
          by_cases hji : j < i
          · exact HN.out j b hji hb
          · obtain ⟨hjs, hge⟩ := hsp2 j (by omega) hj
            have h1 := Lib.data_getElem? s j hjs
            rw [h1] at hb
            have hb' : b = s[j] := (Option.some.inj hb).symm
            rw [← hb'] at hge
            have n1 : b ≠ 32 := by rintro rfl; revert hge; decide
            have n2 : b ≠ 9 := by rintro rfl; revert hge; decide
            simp [n1, n2]
        have hr0 : (128 : Int) ≤ (r : Int) := by omega
        have hr1 : (r : Int) ≤ 1114111 := by omega
        have HC := Lib.hid (hih.out (r : Int) W hr0 hr1)
        clear hsp2
        go_wp2_with (go_at_call 99; refine HC.out.mono ?_; rintro e w' ⟨rfl, hb⟩)
        have hB3 : Hid (Below w.heap.size w w') := hB2.out.trans (hb.mono hB2.out.size)
        have hit3 : Hid (w'.heap[w.heap.size]? = some (.stringIter s (i + wd))) := (hb.block _ (Array.getElem?_eq_some_iff.1 hit2.out).1).trans hit2.out
        clear hb
        go_roundg (s.size - (i + wd))
        case measure => omega
        case rel => exact ⟨i + wd, by omega, hit3, hB3, hno⟩
end Go.Proofs.YtocpfgdajomjiaaDoor.Hand
namespace Go.Proofs.YtocpfgdajomjiaaDoor.Hand
open Go.RowKit Go.Shelf Go.Proofs.YtocpfgdajomjiaaDoor.Range Go.Proofs.YtocpfgdajomjiaaDoorW.PrintWords
attribute [local go_sem] Oper.semAt_some
set_option linter.unusedVariables false
set_option linter.unusedSimpArgs false

/-! #### Lines -/
def cutL : List UInt8 → List UInt8 × List UInt8
  | [] => ([], [])
  | c :: t => if c = 10 then ([], t) else (c :: (cutL t).1, (cutL t).2)
def linesGo (cur : List UInt8) : List UInt8 → List (List UInt8)
  | [] => if cur = [] then [] else [cur.reverse]
  | c :: t => if c = 10 then cur.reverse :: linesGo [] t else linesGo (c :: cur) t
def bytesOf (l : List UInt8) : ByteArray := ⟨l.toArray⟩
def linesV (s : ByteArray) : List ByteArray := (linesGo [] s.data.toList).map bytesOf
theorem cut_eq (s : List UInt8) : (Lib.cut s [10]).1 = (cutL s).1 ∧ (Lib.cut s [10]).2.1 = (cutL s).2 := by
  induction s with
  | nil => simp [Lib.cut, Lib.index, cutL]
  | cons c t ih =>
    unfold Lib.cut at ih ⊢
    by_cases e : c = 10
    · subst e
      simp [Lib.index, cutL]
    · have e1 : (10 == c) = false := by simpa using fun h => e h.symm
      have hge := Lib.index_ge t [10]
      rw [Lib.index, cutL, if_neg e]
      simp only [List.isPrefixOf, e1, Bool.false_and, Bool.false_eq_true, if_false]
      by_cases h : Lib.index t [10] = -1
      · rw [h] at ih ⊢
        simpa using ih
      · have h0 : 0 ≤ Lib.index t [10] := by omega
        rw [if_pos h0] at ih
        have e2 : (Lib.index t [10] == -1) = false := by simpa using h
        rw [e2]
        simp only [Bool.false_eq_true, if_false]
        rw [if_pos (by omega), show (Lib.index t [10] + 1).toNat = (Lib.index t [10]).toNat + 1 by omega]
        simp only at ih ⊢
        rw [List.take_succ_cons, ih.1, Nat.add_right_comm, List.drop_succ_cons, ih.2]
        exact ⟨rfl, rfl⟩
theorem linesGo_cut : ∀ (s cur : List UInt8), (cur ≠ [] ∨ s ≠ []) → linesGo cur s = (cur.reverse ++ (cutL s).1) :: linesGo [] (cutL s).2 := by
  intro s
  induction s with
  | nil =>
    intro cur h
    have : cur ≠ [] := by
      rcases h with h | h
      · exact h
      · exact absurd rfl h
    simp [linesGo, cutL, this]
  | cons c t ih =>
    intro cur _
    by_cases e : c = 10
    · simp [linesGo, cutL, e]
    · rw [linesGo, if_neg e, ih (c :: cur) (.inl (by simp)), cutL, if_neg e]
      simp
theorem cutL_le (s : List UInt8) : (cutL s).2.length ≤ s.length := by
  induction s with
  | nil => simp [cutL]
  | cons c t ih =>
    rw [cutL]
    split
    · simp
    · simp only [List.length_cons]
      omega
theorem cutL_lt {s : List UInt8} (h : s ≠ []) : (cutL s).2.length < s.length := by
  cases s with
  | nil => exact absurd rfl h
  | cons c t =>
    rw [cutL]
    split
    · simp
    · have := cutL_le t
      simp only [List.length_cons]
      omega
theorem ba_ne {u : ByteArray} (e : u ≠ ByteArray.empty) : u.data.toList ≠ [] := by
  intro h
  apply e
  cases u with
  | mk d =>
    have : d = #[] := Array.ext' h
    rw [this]
    rfl
theorem ba_isEmpty {u : ByteArray} (e : u ≠ ByteArray.empty) : u.toList.isEmpty = false := by
  rw [ByteArray.toList_eq]
  cases h : u.data.toList with
  | nil => exact absurd h (ba_ne e)
  | cons => rfl
theorem linesGo_len : ∀ (s cur : List UInt8), (linesGo cur s).length ≤ s.length + 1 := by
  intro s
  induction s with
  | nil =>
    intro cur
    rw [linesGo]
    split <;> simp
  | cons c t ih =>
    intro cur
    rw [linesGo]
    have h1 := ih []
    have h2 := ih (c :: cur)
    split
    · simp only [List.length_cons]
      omega
    · simp only [List.length_cons] at h2 ⊢
      omega
theorem linesV_cons {s : ByteArray} (h : s ≠ ByteArray.empty) : linesV s = ⟨(Lib.cut s.data.toList [10]).1.toArray⟩ :: linesV ⟨(Lib.cut s.data.toList [10]).2.1.toArray⟩ := by
  obtain ⟨e1, e2⟩ := cut_eq s.data.toList
  rw [e1, e2]
  unfold linesV
  rw [linesGo_cut _ _ (.inr (ba_ne h))]
  simp [bytesOf]
/-- How long the text is that the cell holds. -/
def leftAt (B : Nat) (w : World) : Nat := match w.cell? ⟨B, 0, none⟩ with
  | some (.string s) => s.size
  | _ => 0
theorem cell_lt' {w : World} {p : Addr} {v : Value} (h : w.cell? p = some v) : p.block < w.heap.size := World.block_lt_of_cell? w _ h

theorem belowD (w : World) (n : Nat) : Below w.heap.size w (w.drewN n) := ⟨rfl, rfl, rfl, Nat.le_refl _, fun _ _ => rfl⟩
set_option maxHeartbeats 1000000 in
theorem lines1_in (l Bn n₀ : Nat) (m : Int) (xs : List ByteArray) (J : List ByteArray → World → Prop) (hJ : CalmC Bn J) (s : ByteArray) (hs : s.size ≤ 100000) (W : World) (hxs : linesV s = xs)
    (hY : ∀ pre x W1, J pre W1 → (∃ t, pre ++ x :: t = xs) → YieldAt Fence.wide (3 - 1) Tryd.prog l #[.string x] W1 fun e W' => e = .returned (.bool true) ∧ J (pre ++ [x]) W' ∧ Below n₀ W1 W')
    (hb2 : 2 < Bn) (hbn : Bn < n₀) (hn0 : n₀ ≤ W.heap.size) (hm : W.cell? ⟨2, 0, none⟩ = some (.int .i64 m)) (hBn : W.cell? ⟨Bn, 0, none⟩ = some (.string s)) (hfz : W.frozen? ⟨Bn, 0, none⟩ = false) (h0 : J [] W) :
    CallsIn Fence.wide 3 Tryd.prog 73 #[.func (.yield l) #[] #[], .pointer (some ⟨Bn, 0, none⟩)] W fun e W' => (∃ v, e = .returned v) ∧ J xs W' := by
  have HY := Lib.hid hY
  have H0 := Lib.hid h0
  have HJ := Lib.hid hJ
  have HX := Lib.hid hxs
  have HM := Lib.hid hm
  have HB := Lib.hid hBn
  have HF := Lib.hid hfz
  clear hY h0 hJ hxs hm hBn hfz
  refine callsIn_of_wp Tryd.func73 rfl trivial ?_ rfl
  simp only [Tryd.ntmps73, List.size_toArray, List.length_cons, List.length_nil, Nat.reduceAdd, Nat.reduceSub, Array.replicate_succ, Array.replicate_zero, List.push_toArray, List.append_toArray, List.nil_append, List.cons_append]
  gi_wp2
  gi_loopw [] (fun wr => ∃ (pre : List ByteArray) (u : ByteArray), Hid (J pre wr) ∧ Hid (pre ++ linesV u = xs) ∧ u.size ≤ 100000 ∧ Hid (wr.cell? ⟨Bn, 0, none⟩ = some (.string u)) ∧ Hid (wr.frozen? ⟨Bn, 0, none⟩ = false) ∧ Hid (wr.cell? ⟨2, 0, none⟩ = some (.int .i64 m)) ∧ n₀ ≤ wr.heap.size)
    (fun wr => leftAt Bn wr)
  case atStart => exact ⟨[], s, H0, by simpa [Hid] using HX.out, hs, HB, HF, HM, hn0⟩
  case round =>
    obtain ⟨pre, u, hJu, hpu, hsu, hcu, hfu, hmu, hnu⟩ := hrel
    have hc := hcu.out
    by_cases e : u = ByteArray.empty
    · subst e
      have hfin : Hid (J xs wr) := by
        have h := hpu.out
        rw [show linesV ByteArray.empty = [] from rfl, List.append_nil] at h
        rw [← h]
        exact hJu
      gi_wp2
      go_end0
      exact ⟨⟨_, rfl⟩, hfin.out⟩
    · have hcons := linesV_cons e
      have hlt := cutL_lt (s := u.data.toList) (ba_ne e)
      rw [← (cut_eq u.data.toList).2] at hlt
      have hle : (Lib.cut u.data.toList [10]).2.1.length < u.size := by simpa using hlt
      generalize hcx : (⟨(Lib.cut u.data.toList [10]).1.toArray⟩ : ByteArray) = x at hcons
      have hv : Hid ((⟨(Lib.cut u.data.toList [10]).2.1.toArray⟩ : ByteArray).size < u.size) := by
        show (Lib.cut u.data.toList [10]).2.1.toArray.size < u.size
        rw [List.size_toArray]
        exact hle
      generalize hcv : (⟨(Lib.cut u.data.toList [10]).2.1.toArray⟩ : ByteArray) = v at hcons hv
      have hcut := Lib.hid (Tryd.strings_Cut u ⟨#[10]⟩ m wr (by omega) hmu.out)
      rw [show ((⟨#[10]⟩ : ByteArray).data.toList) = [10] from rfl, hcx, hcv] at hcut
      generalize (Lib.cut u.data.toList [10]).2.2 = found at hcut
      have hE := Lib.hid e
      have hne : u.toList.isEmpty = false := ba_isEmpty e
      clear hcx hcv hle hlt e
      have hxs : Hid ((pre ++ [x]) ++ linesV v = xs) := by
        rw [← hpu.out, hcons]
        simp [Hid]
      clear hcons
      have hround : Hid (∀ nd, YieldAt Fence.wide (3 - 1) Tryd.prog l #[.string x] (wr.drewN nd) fun e W' => e = .returned (.bool true) ∧ J (pre ++ [x]) W' ∧ Below n₀ (wr.drewN nd) W') := fun nd =>
        HY.out pre x _ (HJ.out.below _ _ _ hJu.out (belowD _ _)) ⟨linesV v, by have := hxs.out; rwa [List.append_assoc] at this⟩
      have hcD : Hid (∀ nd, (wr.drewN nd).cell? ⟨Bn, 0, none⟩ = some (.string u)) := fun nd => ((belowD wr nd).cell (p := ⟨Bn, 0, none⟩) (cell_lt' hc)).trans hc
      gi_wp2_with (refine ⟨trivial, ?_⟩; gi_at_call 63; refine (callsIn_wide.2 hcut.out).mono ?_; rintro e w' ⟨rfl, nd, rfl⟩; obtain ⟨fn, tmps, assign, body, hy, hR⟩ := hround.out nd)
      refine hR.mono ?_
      rintro e W3 ⟨rfl, hJ3, hb3⟩
      have hc3 : W3.cell? ⟨Bn, 0, none⟩ = some (.string u) := (hb3.cell (p := ⟨Bn, 0, none⟩) hbn).trans (hcD.out nd)
      have hf3 : W3.frozen? ⟨Bn, 0, none⟩ = false := (hb3.frozen (p := ⟨Bn, 0, none⟩) hbn).trans hfu.out
      have hm3 : Hid (W3.cell? ⟨2, 0, none⟩ = some (.int .i64 m)) := (hb3.cell (p := ⟨2, 0, none⟩) (by show 2 < n₀; omega)).trans hmu.out
      have hJ4 := Lib.hid hJ3
      have hs3 : n₀ ≤ W3.heap.size := Nat.le_trans hnu hb3.size
      clear hJ3 hb3 hy hR
      gi_wp2
      go_roundw
      case rel =>
        refine ⟨pre ++ [x], v, HJ.out.cell _ _ _ hJ4.out, hxs, by have := hv.out; omega, ?_, ?_, ?_, ?_⟩
        · exact World.cell?_setCell_same' _ _ _ (by rw [hc3]; rfl)
        · show World.frozen? _ _ = false
          rw [World.frozen?_setCell]
          exact hf3
        · exact (World.cell?_setCell_other _ _ _ _ (by simp <;> omega)).trans hm3.out
        · simpa using hs3
      case measure =>
        have h1 : leftAt Bn wr = u.size := by simp [leftAt, hc]
        have h2 : leftAt Bn (W3.setCell ⟨Bn, 0, none⟩ (.string v)) = v.size := by
          unfold leftAt
          rw [World.cell?_setCell_same' _ _ _ (by rw [hc3]; rfl)]
        rw [h1, h2]
        exact hv.out

/-- lines$1 gives the lines. -/
theorem lines_gives (Bn n₀ : Nat) (m : Int) (s : ByteArray) (hs : s.size ≤ 100000) (w : World) (hb2 : 2 < Bn) (hbn : Bn < n₀) (hn0 : n₀ ≤ w.heap.size) (hm : w.cell? ⟨2, 0, none⟩ = some (.int .i64 m)) (hBn : w.cell? ⟨Bn, 0, none⟩ = some (.string s)) (hfz : w.frozen? ⟨Bn, 0, none⟩ = false) :
    Gives Fence.wide 3 Tryd.prog 73 #[.pointer (some ⟨Bn, 0, none⟩)] (fun x : ByteArray => #[.string x]) Bn n₀ (linesV s) w := by
  intro l J W hb hJ hY h0
  exact lines1_in l Bn n₀ m _ J hJ s hs W rfl hY hb2 hbn (Nat.le_trans hn0 hb.size) ((hb.cell (p := ⟨2, 0, none⟩) (by show 2 < _; omega)).trans hm) ((hb.cell (p := ⟨Bn, 0, none⟩) (by show Bn < _; omega)).trans hBn) ((hb.frozen (p := ⟨Bn, 0, none⟩) (by show Bn < _; omega)).trans hfz) h0

/-! #### gather -/
theorem grown_of_below {W W' : World} (h : Below W.heap.size W W') : W.grownBy W' none := ⟨h.os, h.tape, h.output, h.size, fun k hk _ => h.block k hk⟩
theorem Tryd.infoStr : (Tryd.prog.info? 9).map (fun i => (i.zero, i.size, i.bytes)) = some (some (.string ByteArray.empty), 1, 16) := by kernel_rfl
theorem R_strs {w : World} {base : Nat} {v : Value} {xs : List ByteArray} (h : w.ownsRow base 9 1 v xs.length (xs.map Value.string)) : Kd.R Kd.string 9 w base (fun _ => True) v xs := by
  refine ⟨fun _ _ => trivial, xs.map Value.string, h, by simp [Kd.string, Kd.scalar], fun j p hj => ?_⟩
  show ((xs.map Value.string).drop (j * 1)).take 1 = [.string p]
  rw [Nat.mul_one]
  obtain ⟨hl, rfl⟩ := List.getElem?_eq_some_iff.1 hj
  rw [List.drop_eq_getElem_cons (by simpa using hl)]
  simp
theorem row_not {W : World} {n₀ Bn size k e : Nat} {v : Value} {xs : List Value} (h : W.ownsRow n₀ e size v k xs) (hB : Bn < n₀) : v.ownBlock ≠ some Bn := by
  rcases h.2 with ⟨rfl, _⟩ | ⟨g, cap, cur, rfl, hg, _⟩
  · simp [Value.ownBlock]
  · intro e
    have : g = Bn := by simpa [Value.ownBlock] using e
    omega
/-- What gather keeps between two rounds. -/
def GInv (Bn n₀ B : Nat) (w : World) (pre : List ByteArray) (W : World) : Prop :=
  (∃ v, Boxed W B 23 v ∧ W.ownsRow n₀ 9 1 v pre.length (pre.map Value.string) ∧ True) ∧ Below Bn w W
theorem ginv_calm (Bn n₀ B : Nat) (w : World) (h1 : Bn < n₀) (h2 : n₀ ≤ B) : CalmC Bn (GInv Bn n₀ B w) where
  cell := by
    rintro s W u ⟨⟨v, hv, hr, _⟩, hb⟩
    refine ⟨⟨v, hv.kept (grownBy_setCell' W Bn u) (fun e => by cases e; omega), hr.kept (grownBy_setCell' W Bn u) (.inr (row_not hr h1)), trivial⟩, hb.setCell (p := ⟨Bn, 0, none⟩) (Nat.le_refl _) u⟩
  below := by
    rintro s W W' ⟨⟨v, hv, hr, _⟩, hb⟩ hB
    exact ⟨⟨v, hv.kept (grown_of_below hB) (by simp), hr.kept (grown_of_below hB) (by rcases hr.2 with ⟨rfl, _⟩ | ⟨g, cap, cur, rfl, _⟩; (· exact .inl rfl); (· exact .inr (by simp [Value.ownBlock]))), trivial⟩, hb.trans (hB.mono (by have := hv.lt; omega))⟩
theorem ginv_put (Bn n₀ B : Nat) (w w1 : World) (h1 : Bn < n₀) (h2 : n₀ ≤ B) (h3 : Bn ≤ w1.heap.size) : ∀ s W l o o', GInv Bn n₀ B w s W → w1.heap.size ≤ l → W.heap[l]? = some o → Obj.isCells o = false → GInv Bn n₀ B w s (W.putObj l o') := by
  rintro s W l o o' ⟨h, hb⟩ hl ho hc
  refine ⟨(holdsRow_own n₀ B 23 9 1 (fun s : List ByteArray => s.length) (fun s => s.map Value.string) (fun _ _ => True)).putObj o' h ho hc, ?_⟩
  exact hb.trans ((Below.refl _ W).grown (grownBy_putObj' W _ _) (by have := (Array.getElem?_eq_some_iff.1 ho).1; omega) (fun k e => by cases e; omega))

set_option maxHeartbeats 1000000 in
theorem gather_in (gf : Nat) (lb : Array Value) (eg : ∀ args w, (callFunc gf args).run Tryd.prog w = .ok (.enter gf args) w) (Bn : Nat) (xs : List ByteArray) (hxl : xs.length ≤ 1000000) (w : World) (hBn : Bn < w.heap.size)
    (hseq : Gives Fence.wide 3 Tryd.prog gf lb (fun x : ByteArray => #[.string x]) Bn w.heap.size xs w) :
    CallsIn Fence.wide 4 Tryd.prog 49 #[.func (.func gf) #[] lb] w fun e W' => ∃ v, e = .returned v ∧ W'.ownsRow w.heap.size 9 1 v xs.length (xs.map Value.string) ∧ Below Bn w W' := by
  have HS := Lib.hid hseq
  have HE := Lib.hid eg
  clear hseq eg
  refine callsIn_of_wp_marks Tryd.func49 rfl trivial ?_ rfl
  simp only [Tryd.ntmps49, List.size_toArray, List.length_cons, List.length_nil, Nat.reduceAdd, Nat.reduceSub, Array.replicate_succ, Array.replicate_zero, List.push_toArray, List.append_toArray, List.nil_append, List.cons_append]
  gi_wp2
  have hbW : Below w.heap.size w (w.alloc (.cells #[.slice none 0 0] 23)) := (Below.refl _ w).alloc (Nat.le_refl _) _
  refine loop_all (xs := xs) rfl (by omega) (gf := gf) (lb := lb) rfl trivial HE.out HS.out hbW (by simp; omega) (by simp) (fun _ => rfl) (GInv Bn w.heap.size w.heap.size w) (ginv_calm Bn _ _ w hBn (Nat.le_refl _)) (ginv_put Bn _ _ w _ hBn (Nat.le_refl _) (by simp; omega))
    ⟨⟨_, Boxed.new w 23 _, World.ownsRow_nil _ _ _ _, trivial⟩, hbW.mono (by omega)⟩
    (fun x => { tmps := #[.func (.func gf) #[] lb, undef, .slice none 0 0, .pointer (some ⟨w.heap.size, 0, none⟩), .string x, .func (.func gf) #[] lb, .string x, undef, undef, undef, undef, undef], defers := [] }) ?assign ?body ?done
  case assign =>
    intro l x W K hK
    gi_wp2
    exact hK
  case body =>
    rintro l pre x W ⟨⟨v, hv, hrow, _⟩, hb⟩ ⟨t, ht⟩
    have hpl : pre.length + 1 ≤ 1000000 := by
      have := congrArg List.length ht
      simp only [List.length_append, List.length_cons] at this
      omega
    have hle : w.heap.size ≤ W.heap.size := Nat.le_of_lt hv.lt
    have hc := hv.cell
    have HV := Lib.hid hv
    have HR := Lib.hid hrow
    clear hv hrow
    obtain ⟨i0, hi, hz0, hz1, hz2⟩ := info_parts Tryd.infoStr
    gi_wp2_with (gi_at_builtin; refine wpListIn_append_own _ rfl _ _ 23 rfl w.heap.size 9 i0 (.string ByteArray.empty) 1 16 Tryd.underlying23 hi hz0 hz1 hz2 rfl (by decide) _ _ _ rfl (HR.out.alloc _) ⟨W.heap.size, 0, none⟩ 1 1 [.string x] rfl rfl (cell_one_new _ _ _) (by simp [Value.oneCell']) (by unfold maxLen; omega) (by omega) (by simp; omega) ?_; intro v' w1 hown' hgrow _; obtain ⟨g', cap', rfl⟩ := ownsRow_succ hown'; obtain ⟨hv1, hv2, hr2, hk2, hb2⟩ := HV.out.appended (by decide) HR.out hle (Nat.le_refl _) hown' hgrow; have hc1 := hv1.cell; have hf1 := hv1.frozen)
    exact ⟨hk2.from _, hb2, ⟨_, hv2, by simpa using hr2, trivial⟩, hb.trans (hb2.mono (by omega))⟩
  case done =>
    rintro D W hD ⟨⟨v, hv, hrow, _⟩, hb⟩ hK
    have hc := hv.cell
    have hlt := hv.lt
    gi_wp2
    refine ⟨by simp, .inl ⟨_, _, rfl, run_takeDeferred hK, ?_⟩⟩
    refine ⟨_, results_tmp rfl _ _ _, _, rfl, ownsRow_putObj hrow _ hK rfl, ?_⟩
    exact hb.trans ((Below.refl _ W).grown (grownBy_putObj' W _ _) (by omega) (fun k e => by cases e; simp at hD; omega))

theorem lines_mk (s : ByteArray) (w : World) : Calls Tryd.prog 50 #[.string s] w fun e w' => e = .returned (.func (.func 73) #[] #[.pointer (some ⟨w.heap.size, 0, none⟩)]) ∧ w' = w.alloc (.cells #[.string s] 9) := by
  go_enter Tryd.func50, Tryd.ntmps50
  go_wp2
  go_ret
  exact ⟨rfl, rfl⟩
theorem enters73 (args : Array Value) (w : World) : (callFunc 73 args).run Tryd.prog w = .ok (.enter 73 args) w := enters_of Tryd.func73 (by kernel_rfl) rfl args w
set_option maxHeartbeats 1000000 in
theorem lines_walk (s : ByteArray) (hs : s.size ≤ 100000) (m : Int) (w : World) (hw : 2 < w.heap.size) (hm : w.cell? ⟨2, 0, none⟩ = some (.int .i64 m)) :
    Calls Tryd.prog 20 #[.string s] w fun e w' => ∃ v, e = .returned v ∧ Kd.R Kd.string 9 w' w.heap.size (fun _ => True) v (linesV s) ∧ Below w.heap.size w w' := by
  have hB : Hid (Below w.heap.size w (w.alloc (.cells #[.string s] 9))) := (Below.refl _ w).alloc (Nat.le_refl _) _
  have hll : (linesV s).length ≤ 1000000 := by
    have := linesGo_len s.data.toList []
    have e : s.data.toList.length = s.size := by simp
    unfold linesV
    rw [List.length_map]
    omega
  have HG := Lib.hid (gather_in 73 #[.pointer (some ⟨w.heap.size, 0, none⟩)] enters73 w.heap.size (linesV s) hll (w.alloc (.cells #[.string s] 9)) (by simp)
    (lines_gives w.heap.size _ m s hs _ hw (by simp) (Nat.le_refl _) ((hB.out.cell (p := ⟨2, 0, none⟩) hw).trans hm) (by simp) (by simp)))
  clear hm
  refine (callsIn_wide (n := 5)).1 ?_
  refine callsIn_of_wp Tryd.func20 rfl trivial ?_ rfl
  simp only [Tryd.ntmps20, List.size_toArray, List.length_cons, List.length_nil, Nat.reduceAdd, Nat.reduceSub, Array.replicate_succ, Array.replicate_zero, List.push_toArray, List.append_toArray, List.nil_append, List.cons_append]
  gi_wp2_with (first | (refine ⟨trivial, ?_⟩; gi_at_call 50; refine (callsIn_wide.2 (lines_mk s w)).mono ?_; rintro e w' ⟨rfl, rfl⟩) | (refine ⟨trivial, ?_⟩; gi_at_call 49; refine HG.out.mono ?_; rintro e w' ⟨v, rfl, hr, hb⟩))
  go_ret
  refine ⟨_, rfl, Kd.R_lower (R_strs hr) (by simp), hB.out.trans (hb)⟩
/-- text.Lines: guarded by a size and by the table's cell. -/
def text_Lines.f (a0 : ByteArray) : Option (List ByteArray) := if a0.size ≤ 100000 then some (linesV a0) else none
end Go.Proofs.YtocpfgdajomjiaaDoor.Hand
namespace Go.Proofs.YtocpfgdajomjiaaDoor.Hand
open Go.RowKit Go.Shelf Go.Proofs.YtocpfgdajomjiaaDoor.Range Go.Proofs.YtocpfgdajomjiaaDoorW.PrintWords
attribute [local go_sem] Oper.semAt_some
set_option linter.unusedVariables false
set_option linter.unusedSimpArgs false

theorem Tryd.info89 : (Tryd.prog.info? 89).map (fun i => (i.zero, i.size)) = some (some (.agg (Array.replicate 256 (.bool false))), 256) := by kernel_rfl
theorem ascii_blanks : ∀ (j : Nat) b, blanksB.data.toList[j]? = some b → b.toNat < 128 := ascii_of_all (by decide)
theorem indexAny_blank (s : ByteArray) (hs : s.size ≤ 100000) (w : World) :
    Calls Tryd.prog 78 #[.string s, .string blanksB] w fun e w' => e = .returned (.int .i64 (Lib.indexAny s.data.toList [32, 9])) ∧ Below w.heap.size w w' := by
  by_cases h : s.size ≤ 8
  · exact indexAny_near s w h
  · refine (Tryd.strings_IndexAny_long (zero_of_info Tryd.info89).1 s blanksB w (by decide) (by omega) (by omega) (by decide) ascii_blanks).mono ?_
    rintro e w' ⟨he, rfl⟩
    exact ⟨he, ((Below.refl _ _).alloc (Nat.le_refl _) _).alloc (by simp) _⟩
theorem trimLeft_blank (s : ByteArray) (w : World) :
    Calls Tryd.prog 77 #[.string s, .string blanksB] w fun e w' => e = .returned (.string ⟨(Lib.trimLeftS s.data.toList [32, 9]).toArray⟩) ∧ Below w.heap.size w w' :=
  Any.strings_TrimLeft_laid Tryd.lays161 Tryd.info89 s blanksB w (by decide) ascii_blanks
theorem trim_blank (s : ByteArray) (hs : s.size ≤ 100000) (w : World) :
    Calls Tryd.prog 58 #[.string s, .string blanksB] w fun e w' => e = .returned (.string ⟨(Lib.trimS s.data.toList [32, 9]).toArray⟩) ∧ Below w.heap.size w w' :=
  Any.strings_Trim_laid Tryd.lays160 Tryd.info89 s blanksB w (by omega) (by decide) ascii_blanks

/-! #### Words -/
def blank (c : UInt8) : Bool := c == 32 || c == 9
theorem contains_blank (c : UInt8) : List.contains [32, 9] c = blank c := by
  rw [blank, Bool.eq_iff_iff]
  simp [List.contains_cons]
def wordsGo (cur : List UInt8) : List UInt8 → List (List UInt8)
  | [] => if cur = [] then [] else [cur.reverse]
  | c :: t => if blank c = true then (if cur = [] then wordsGo [] t else cur.reverse :: wordsGo [] t) else wordsGo (c :: cur) t
def wordsV (s : ByteArray) : List ByteArray := (wordsGo [] s.data.toList).map bytesOf
theorem wordsGo_drop (l : List UInt8) : wordsGo [] l = wordsGo [] (Lib.trimLeftS l [32, 9]) := by
  unfold Lib.trimLeftS
  induction l with
  | nil => rfl
  | cons c t ih =>
    rw [List.dropWhile_cons, contains_blank]
    by_cases h : blank c = true
    · rw [if_pos h, wordsGo, if_pos h, if_pos rfl, ih]
    · rw [if_neg h]
theorem wordsGo_span : ∀ (l cur : List UInt8), (cur ≠ [] ∨ (l ≠ [] ∧ ∀ c, l.head? = some c → blank c = false)) → wordsGo cur l = (cur.reverse ++ l.takeWhile fun c => !blank c) :: wordsGo [] (l.dropWhile fun c => !blank c) := by
  intro l
  induction l with
  | nil =>
    intro cur h
    have : cur ≠ [] := by
      rcases h with h | h
      · exact h
      · exact absurd rfl h.1
    simp [wordsGo, this]
  | cons c t ih =>
    intro cur h
    by_cases hb : blank c = true
    · have hc : cur ≠ [] := by
        rcases h with h | h
        · exact h
        · have := h.2 c rfl
          rw [hb] at this
          exact absurd this (by simp)
      rw [wordsGo, if_pos hb, if_neg hc]
      have h1 : wordsGo [] (c :: t) = wordsGo [] t := by rw [wordsGo, if_pos hb, if_pos rfl]
      simp [hb, h1]
    · rw [wordsGo, if_neg hb, ih (c :: cur) (.inl (by simp))]
      simp [hb]
/-- Where the word ends. -/
def cutAt (l : List UInt8) : Nat := if Lib.indexAny l [32, 9] < 0 then l.length else (Lib.indexAny l [32, 9]).toNat
theorem cutAt_cons (c : UInt8) (t : List UInt8) : cutAt (c :: t) = if blank c = true then 0 else cutAt t + 1 := by
  unfold cutAt
  rw [Lib.indexAny, contains_blank]
  have hge := Lib.indexAny_ge [32, 9] t
  by_cases h : blank c = true
  · simp [h]
  · rw [if_neg h, if_neg h]
    by_cases h1 : Lib.indexAny t [32, 9] = -1
    · rw [h1]
      simp
    · have e1 : (Lib.indexAny t [32, 9] == -1) = false := by simpa using h1
      rw [e1]
      simp only [Bool.false_eq_true, if_false]
      rw [if_neg (by omega), if_neg (by omega)]
      omega
theorem cutAt_spec (l : List UInt8) : l.take (cutAt l) = (l.takeWhile fun c => !blank c) ∧ l.drop (cutAt l) = (l.dropWhile fun c => !blank c) ∧ cutAt l ≤ l.length := by
  induction l with
  | nil => simp [cutAt, Lib.indexAny]
  | cons c t ih =>
    rw [cutAt_cons]
    by_cases h : blank c = true
    · simp [h]
    · rw [if_neg h, List.take_succ_cons, List.drop_succ_cons]
      simp [h, ih.1, ih.2.1, ih.2.2]
theorem trimLeft_head (l : List UInt8) : ∀ c, (Lib.trimLeftS l [32, 9]).head? = some c → blank c = false := by
  intro c h
  unfold Lib.trimLeftS at h
  have := List.head?_dropWhile_not (fun b => List.contains [32, 9] b) l
  rw [h] at this
  simp only [contains_blank] at this
  simpa using this
theorem trimLeft_len (l : List UInt8) : (Lib.trimLeftS l [32, 9]).length ≤ l.length := by
  unfold Lib.trimLeftS
  exact (List.dropWhile_sublist _).length_le
/-- One round of words. -/
theorem words_round (u v : List UInt8) (hv : v = Lib.trimLeftS u [32, 9]) : (v = [] → wordsGo [] u = []) ∧ (v ≠ [] → wordsGo [] u = v.take (cutAt v) :: wordsGo [] (v.drop (cutAt v)) ∧ (v.drop (cutAt v)).length < u.length) := by
  have h1 := wordsGo_drop u
  have h2 := trimLeft_head u
  have h3 := trimLeft_len u
  rw [← hv] at h1 h2 h3
  refine ⟨fun e => by rw [h1, e]; rfl, fun e => ?_⟩
  have hs := cutAt_spec v
  rw [h1, wordsGo_span v [] (.inr ⟨e, h2⟩), ← hs.1, ← hs.2.1]
  refine ⟨rfl, ?_⟩
  cases v with
  | nil => exact absurd rfl e
  | cons c t =>
    have hb := h2 c rfl
    rw [cutAt_cons, if_neg (by simp [hb]), List.drop_succ_cons, List.length_drop]
    simp only [List.length_cons] at h3
    omega
theorem wordsGo_len : ∀ (s cur : List UInt8), (wordsGo cur s).length ≤ s.length + 1 := by
  intro s
  induction s with
  | nil =>
    intro cur
    rw [wordsGo]
    split <;> simp
  | cons c t ih =>
    intro cur
    rw [wordsGo]
    have h1 := ih []
    have h2 := ih (c :: cur)
    split
    · split <;> simp only [List.length_cons] <;> omega
    · simp only [List.length_cons] at h2 ⊢
      omega
theorem ba_ext {a b : ByteArray} (h : a.data.toList = b.data.toList) : a = b := by
  cases a with
  | mk x =>
    cases b with
    | mk y => rw [show x = y from Array.ext' h]
theorem ext_take (v : ByteArray) (k : Nat) : (⟨(v.data.toList.take k).toArray⟩ : ByteArray) = v.extract 0 k := by
  apply ba_ext
  simp [ByteArray.data_extract]
theorem ext_drop (v : ByteArray) (k : Nat) : (⟨(v.data.toList.drop k).toArray⟩ : ByteArray) = v.extract k v.size := by
  apply ba_ext
  rw [ByteArray.data_extract, Array.toList_extract, List.extract_eq_take_drop, List.take_of_length_le]
  rw [List.length_drop, ← Lib.size_eq]
  exact Nat.le_refl _
set_option maxHeartbeats 1000000 in
theorem words1_in (l Bn n₀ : Nat) (xs : List ByteArray) (J : List ByteArray → World → Prop) (hJ : CalmC Bn J) (s : ByteArray) (hs : s.size ≤ 100000) (W : World) (hxs : wordsV s = xs)
    (hY : ∀ pre x W1, J pre W1 → (∃ t, pre ++ x :: t = xs) → YieldAt Fence.wide (3 - 1) Tryd.prog l #[.string x] W1 fun e W' => e = .returned (.bool true) ∧ J (pre ++ [x]) W' ∧ Below n₀ W1 W')
    (hbn : Bn < n₀) (hn0 : n₀ ≤ W.heap.size) (hBn : W.cell? ⟨Bn, 0, none⟩ = some (.string s)) (hfz : W.frozen? ⟨Bn, 0, none⟩ = false) (h0 : J [] W) :
    CallsIn Fence.wide 3 Tryd.prog 76 #[.func (.yield l) #[] #[], .pointer (some ⟨Bn, 0, none⟩)] W fun e W' => (∃ v, e = .returned v) ∧ J xs W' := by
  have HY := Lib.hid hY
  have H0 := Lib.hid h0
  have HJ := Lib.hid hJ
  have HX := Lib.hid hxs
  have HB := Lib.hid hBn
  have HF := Lib.hid hfz
  clear hY h0 hJ hxs hBn hfz
  refine callsIn_of_wp Tryd.func76 rfl trivial ?_ rfl
  simp only [Tryd.ntmps76, List.size_toArray, List.length_cons, List.length_nil, Nat.reduceAdd, Nat.reduceSub, Array.replicate_succ, Array.replicate_zero, List.push_toArray, List.append_toArray, List.nil_append, List.cons_append]
  gi_wp2
  gi_loopw [] (fun wr => ∃ (pre : List ByteArray) (u : ByteArray), Hid (J pre wr) ∧ Hid (pre ++ wordsV u = xs) ∧ u.size ≤ 100000 ∧ Hid (wr.cell? ⟨Bn, 0, none⟩ = some (.string u)) ∧ Hid (wr.frozen? ⟨Bn, 0, none⟩ = false) ∧ n₀ ≤ wr.heap.size)
    (fun wr => leftAt Bn wr)
  case atStart => exact ⟨[], s, H0, by simpa [Hid] using HX.out, hs, HB, HF, hn0⟩
  case round =>
    obtain ⟨pre, u, hJu, hpu, hsu, hcu, hfu, hnu⟩ := hrel
    have hc := hcu.out
    obtain ⟨v, hv⟩ : ∃ v : ByteArray, v = ⟨(Lib.trimLeftS u.data.toList [32, 9]).toArray⟩ := ⟨_, rfl⟩
    have htr := Lib.hid (trimLeft_blank u wr)
    rw [← hv] at htr
    have hcB : Hid (∀ w', Below wr.heap.size wr w' → w'.cell? ⟨Bn, 0, none⟩ = some (.string u) ∧ w'.frozen? ⟨Bn, 0, none⟩ = false) := fun w' h => ⟨(h.cell (p := ⟨Bn, 0, none⟩) (cell_lt' hc)).trans hc, (h.frozen (p := ⟨Bn, 0, none⟩) (cell_lt' hc)).trans hfu.out⟩
    have hround := words_round u.data.toList v.data.toList (by rw [hv])
    have hv' := trimLeft_len u.data.toList
    have hvs : v.size ≤ 100000 := by
      rw [hv]
      show (Lib.trimLeftS u.data.toList [32, 9]).toArray.size ≤ _
      rw [List.size_toArray]
      have : u.data.toList.length = u.size := by simp
      omega
    clear hv hv'
    have hidx := Lib.hid (fun w => indexAny_blank v hvs w)
    have hge := Lib.indexAny_ge [32, 9] v.data.toList
    obtain ⟨ix, hix⟩ : ∃ ix, Lib.indexAny v.data.toList [32, 9] = ix := ⟨_, rfl⟩
    rw [hix] at hidx hge
    have hcV : Hid (∀ w1 w3, Below wr.heap.size wr w1 → Below (w1.setCell ⟨Bn, 0, none⟩ (.string v)).heap.size (w1.setCell ⟨Bn, 0, none⟩ (.string v)) w3 → w3.cell? ⟨Bn, 0, none⟩ = some (.string v) ∧ w3.frozen? ⟨Bn, 0, none⟩ = false ∧ Hid (J pre w3) ∧ n₀ ≤ w3.heap.size) := by
      intro w1 w3 h1 h3
      obtain ⟨a1, a2⟩ := hcB.out w1 h1
      have hlt := cell_lt' a1
      have b1 : (w1.setCell ⟨Bn, 0, none⟩ (.string v)).cell? ⟨Bn, 0, none⟩ = some (.string v) := World.cell?_setCell_same' _ _ _ (by rw [a1]; rfl)
      have b2 : (w1.setCell ⟨Bn, 0, none⟩ (.string v)).frozen? ⟨Bn, 0, none⟩ = false := by rw [World.frozen?_setCell]; exact a2
      refine ⟨(h3.cell (p := ⟨Bn, 0, none⟩) (cell_lt' b1)).trans b1, (h3.frozen (p := ⟨Bn, 0, none⟩) (cell_lt' b1)).trans b2, HJ.out.below _ _ _ (HJ.out.cell _ _ _ (HJ.out.below _ _ _ hJu.out h1)) h3, ?_⟩
      have := h1.size
      have := h3.size
      simp at this
      omega
    by_cases e : v = ByteArray.empty
    · subst e
      have hix1 : ix = -1 := by rw [← hix]; rfl
      subst hix1
      have hfin : Hid (pre = xs) := by
        have h := hpu.out
        unfold wordsV at h
        rw [hround.1 rfl] at h
        show pre = xs
        simpa using h
      clear hround hix
      gi_wp2_with (first | (refine ⟨trivial, ?_⟩; gi_at_call 77; refine (callsIn_wide.2 htr.out).mono ?_; rintro e w1 ⟨rfl, hb1⟩; obtain ⟨hc1, hf1⟩ := hcB.out _ hb1) | (refine ⟨trivial, ?_⟩; gi_at_call 78; refine (callsIn_wide.2 (hidx.out _)).mono ?_; rintro e w3 ⟨rfl, hb3⟩; obtain ⟨hc3, hf3, hj3, hn3⟩ := hcV.out _ _ hb1 hb3))
      refine ⟨fun _ h => (by cases h), ?_⟩
      gi_wp2
      refine bodyPost_ret (results_none rfl _ _ _) rfl ?_
      exact ⟨⟨_, rfl⟩, by rw [← hfin.out]; exact hj3.out⟩
    · obtain ⟨hr1, hr2⟩ := hround.2 (ba_ne e)
      obtain ⟨x, hx⟩ : ∃ x : ByteArray, x = ⟨(v.data.toList.take (cutAt v.data.toList)).toArray⟩ := ⟨_, rfl⟩
      obtain ⟨z, hz⟩ : ∃ z : ByteArray, z = ⟨(v.data.toList.drop (cutAt v.data.toList)).toArray⟩ := ⟨_, rfl⟩
      have hxs : Hid ((pre ++ [x]) ++ wordsV z = xs) := by
        have h := hpu.out
        unfold wordsV at h ⊢
        rw [hr1] at h
        rw [hx, hz]
        simpa [Hid, bytesOf] using h
      have hzl : Hid (z.size < u.size) := by
        rw [hz]
        show (v.data.toList.drop (cutAt v.data.toList)).toArray.size < u.size
        rw [List.size_toArray]
        have : u.data.toList.length = u.size := by simp
        omega
      have hne : v.toList.isEmpty = false := ba_isEmpty e
      have hk := (cutAt_spec v.data.toList).2.2
      rw [← Lib.size_eq] at hk
      have hround' : Hid (∀ w3, J pre w3 → YieldAt Fence.wide (3 - 1) Tryd.prog l #[.string x] w3 fun e W' => e = .returned (.bool true) ∧ J (pre ++ [x]) W' ∧ Below n₀ w3 W') := fun w3 hj =>
        HY.out pre x _ hj ⟨wordsV z, by have := hxs.out; rwa [List.append_assoc] at this⟩
      clear hr1 hr2 hround
      by_cases hneg : ix < 0
      · have hcut : cutAt v.data.toList = v.size := by
          unfold cutAt
          rw [hix, if_pos hneg, Lib.size_eq]
        have hix1 : ix = -1 := by omega
        subst hix1
        rw [hcut] at hx hz
        have hxv : x = v := by rw [hx, Lib.size_eq, List.take_length]
        have hzv : z = ByteArray.empty := by rw [hz, Lib.size_eq, List.drop_length]; rfl
        subst hxv hzv
        clear hix hneg hge hcut hk hx hz
        gi_wp2_with (first | (refine ⟨trivial, ?_⟩; gi_at_call 77; refine (callsIn_wide.2 htr.out).mono ?_; rintro e w1 ⟨rfl, hb1⟩; obtain ⟨hc1, hf1⟩ := hcB.out _ hb1) | (refine ⟨trivial, ?_⟩; gi_at_call 78; refine (callsIn_wide.2 (hidx.out _)).mono ?_; rintro e w3 ⟨rfl, hb3⟩; obtain ⟨hc3, hf3, hj3, hn3⟩ := hcV.out _ _ hb1 hb3; obtain ⟨fn, tmps, assign, body, hy, hR⟩ := hround'.out _ hj3.out))
        refine hR.mono ?_
        rintro e W3 ⟨rfl, hJ4, hb4⟩
        have hc4 : W3.cell? ⟨Bn, 0, none⟩ = some (.string x) := (hb4.cell (p := ⟨Bn, 0, none⟩) hbn).trans hc3
        have hf4 : W3.frozen? ⟨Bn, 0, none⟩ = false := (hb4.frozen (p := ⟨Bn, 0, none⟩) hbn).trans hf3
        have HJ4 := Lib.hid hJ4
        have hs4 : n₀ ≤ W3.heap.size := Nat.le_trans hn3 hb4.size
        clear hJ4 hb4 hy hR hc3 hf3 hc1 hf1
        gi_wp2
        go_roundw
        case rel =>
          refine ⟨pre ++ [x], ByteArray.empty, HJ.out.cell _ _ _ HJ4.out, hxs, by have := hzl.out; omega, ?_, ?_, ?_⟩
          · exact World.cell?_setCell_same' _ _ _ (by rw [hc4]; rfl)
          · show World.frozen? _ _ = false
            rw [World.frozen?_setCell]
            exact hf4
          · simpa using hs4
        case measure =>
          have h1 : leftAt Bn wr = u.size := by simp [leftAt, hc]
          have h2 : leftAt Bn (W3.setCell ⟨Bn, 0, none⟩ (.string ByteArray.empty)) = (ByteArray.empty : ByteArray).size := by
            unfold leftAt
            rw [World.cell?_setCell_same' _ _ _ (by rw [hc4]; rfl)]
          rw [h1, h2]
          exact hzl.out
      · obtain ⟨k, rfl⟩ := Int.eq_ofNat_of_zero_le (show 0 ≤ ix by omega)
        have hcut : cutAt v.data.toList = k := by
          unfold cutAt
          rw [hix, if_neg hneg]
          rfl
        rw [hcut] at hx hz hk
        have hk9 : (k : Int) ≤ v.size := by omega
        have hv9 : (v.size : Int) ≤ 100000 := by omega
        rw [ext_take] at hx
        rw [ext_drop] at hz
        subst hx hz
        clear hix hneg hge hcut
        gi_wp2_with (first | (refine ⟨trivial, ?_⟩; gi_at_call 77; refine (callsIn_wide.2 htr.out).mono ?_; rintro e w1 ⟨rfl, hb1⟩; obtain ⟨hc1, hf1⟩ := hcB.out _ hb1) | (refine ⟨trivial, ?_⟩; gi_at_call 78; refine (callsIn_wide.2 (hidx.out _)).mono ?_; rintro e w3 ⟨rfl, hb3⟩; obtain ⟨hc3, hf3, hj3, hn3⟩ := hcV.out _ _ hb1 hb3; obtain ⟨fn, tmps, assign, body, hy, hR⟩ := hround'.out _ hj3.out))
        refine hR.mono ?_
        rintro e W3 ⟨rfl, hJ4, hb4⟩
        have hc4 : W3.cell? ⟨Bn, 0, none⟩ = some (.string v) := (hb4.cell (p := ⟨Bn, 0, none⟩) hbn).trans hc3
        have hf4 : W3.frozen? ⟨Bn, 0, none⟩ = false := (hb4.frozen (p := ⟨Bn, 0, none⟩) hbn).trans hf3
        have HJ4 := Lib.hid hJ4
        have hs4 : n₀ ≤ W3.heap.size := Nat.le_trans hn3 hb4.size
        clear hJ4 hb4 hy hR hc3 hf3 hc1 hf1
        gi_wp2
        go_roundw
        case rel =>
          refine ⟨pre ++ [v.extract 0 k], v.extract k v.size, HJ.out.cell _ _ _ HJ4.out, hxs, by have := hzl.out; omega, ?_, ?_, ?_⟩
          · exact World.cell?_setCell_same' _ _ _ (by rw [hc4]; rfl)
          · show World.frozen? _ _ = false
            rw [World.frozen?_setCell]
            exact hf4
          · simpa using hs4
        case measure =>
          have h1 : leftAt Bn wr = u.size := by simp [leftAt, hc]
          have h2 : leftAt Bn (W3.setCell ⟨Bn, 0, none⟩ (.string (v.extract k v.size))) = (v.extract k v.size).size := by
            unfold leftAt
            rw [World.cell?_setCell_same' _ _ _ (by rw [hc4]; rfl)]
          rw [h1, h2]
          exact hzl.out

theorem words_gives (Bn n₀ : Nat) (s : ByteArray) (hs : s.size ≤ 100000) (w : World) (hbn : Bn < n₀) (hn0 : n₀ ≤ w.heap.size) (hBn : w.cell? ⟨Bn, 0, none⟩ = some (.string s)) (hfz : w.frozen? ⟨Bn, 0, none⟩ = false) :
    Gives Fence.wide 3 Tryd.prog 76 #[.pointer (some ⟨Bn, 0, none⟩)] (fun x : ByteArray => #[.string x]) Bn n₀ (wordsV s) w := by
  intro l J W hb hJ hY h0
  exact words1_in l Bn n₀ _ J hJ s hs W rfl hY hbn (Nat.le_trans hn0 hb.size) ((hb.cell (p := ⟨Bn, 0, none⟩) (by show Bn < _; omega)).trans hBn) ((hb.frozen (p := ⟨Bn, 0, none⟩) (by show Bn < _; omega)).trans hfz) h0
theorem words_mk (s : ByteArray) (w : World) : Calls Tryd.prog 55 #[.string s] w fun e w' => e = .returned (.func (.func 76) #[] #[.pointer (some ⟨w.heap.size, 0, none⟩)]) ∧ w' = w.alloc (.cells #[.string s] 9) := by
  go_enter Tryd.func55, Tryd.ntmps55
  go_wp2
  go_ret
  exact ⟨rfl, rfl⟩
theorem enters76 (args : Array Value) (w : World) : (callFunc 76 args).run Tryd.prog w = .ok (.enter 76 args) w := enters_of Tryd.func76 (by kernel_rfl) rfl args w
set_option maxHeartbeats 1000000 in
theorem words_walk (s : ByteArray) (hs : s.size ≤ 100000) (w : World) :
    Calls Tryd.prog 24 #[.string s] w fun e w' => ∃ v, e = .returned v ∧ Kd.R Kd.string 9 w' w.heap.size (fun _ => True) v (wordsV s) ∧ Below w.heap.size w w' := by
  have hB : Hid (Below w.heap.size w (w.alloc (.cells #[.string s] 9))) := (Below.refl _ w).alloc (Nat.le_refl _) _
  have hll : (wordsV s).length ≤ 1000000 := by
    have := wordsGo_len s.data.toList []
    have e : s.data.toList.length = s.size := by simp
    unfold wordsV
    rw [List.length_map]
    omega
  have HG := Lib.hid (gather_in 76 #[.pointer (some ⟨w.heap.size, 0, none⟩)] enters76 w.heap.size (wordsV s) hll (w.alloc (.cells #[.string s] 9)) (by simp)
    (words_gives w.heap.size _ s hs _ (by simp) (Nat.le_refl _) (by simp) (by simp)))
  refine (callsIn_wide (n := 5)).1 ?_
  refine callsIn_of_wp Tryd.func24 rfl trivial ?_ rfl
  simp only [Tryd.ntmps24, List.size_toArray, List.length_cons, List.length_nil, Nat.reduceAdd, Nat.reduceSub, Array.replicate_succ, Array.replicate_zero, List.push_toArray, List.append_toArray, List.nil_append, List.cons_append]
  gi_wp2_with (first | (refine ⟨trivial, ?_⟩; gi_at_call 55; refine (callsIn_wide.2 (words_mk s w)).mono ?_; rintro e w' ⟨rfl, rfl⟩) | (refine ⟨trivial, ?_⟩; gi_at_call 49; refine HG.out.mono ?_; rintro e w' ⟨v, rfl, hr, hb⟩))
  go_ret
  refine ⟨_, rfl, Kd.R_lower (R_strs hr) (by simp), hB.out.trans (hb)⟩

/-! #### Trim, Join -/
def trimV (s : ByteArray) : ByteArray := ⟨(Lib.trimS s.data.toList [32, 9]).toArray⟩
theorem trim_walk (s : ByteArray) (hs : s.size ≤ 100000) (w : World) : Calls Tryd.prog 30 #[.string s] w fun e w' => e = .returned (.string (trimV s)) ∧ Below w.heap.size w w' := by
  have HT := Lib.hid (trim_blank s hs w)
  go_enter Tryd.func30, Tryd.ntmps30
  go_wp2_with (go_at_call 58; refine HT.out.mono ?_; rintro e w' ⟨rfl, hb⟩)
  go_ret
  exact ⟨rfl, hb⟩
def joinV (l : List ByteArray) : ByteArray := ⟨(Lib.join (l.map (·.data.toList)) [32]).toArray⟩
theorem join_walk (A : Option Addr) (c : Nat) (l : List ByteArray) (w : World) (hC : Kd.C Kd.string w A l.length l) (hc : l.length ≤ c) (hl : l.length ≤ 100000) (hlen : (joinV l).size ≤ 100000000) :
    Calls Tryd.prog 28 #[.slice A l.length c] w fun e w' => e = .returned (.string (joinV l)) ∧ Below w.heap.size w w' := by
  have HJ : Hid (Calls Tryd.prog 57 #[.slice A l.length c, .string ⟨#[32]⟩] w fun e w' => e = .returned (.string (joinV l)) ∧ Below w.heap.size w w') := by
    cases l with
    | nil => exact (Tryd.strings_Join_none A c ⟨#[32]⟩ w).mono (by rintro e w' ⟨he, rfl⟩; exact ⟨he, Below.refl _ _⟩)
    | cons x t =>
      obtain ⟨ad, rfl, hx⟩ := hC.2.2 (by simp)
      have hcell : ∀ (j : Nat) y, (x :: t)[j]? = some y → w.cell? (ad.add j) = some (.string y) := by
        intro j y hy
        obtain ⟨cs, hl, hk, hcs⟩ := hx j y hy
        obtain rfl : cs = [.string y] := hk
        have := hcs 0 _ rfl
        simpa [Kd.string, Kd.scalar] using this
      have h0 := hcell 0 x rfl
      obtain ⟨bk, o, sp⟩ := ad
      obtain rfl : sp = none := by
        cases sp with
        | none => rfl
        | some k =>
          have h0' : w.cell? ⟨bk, o, some k⟩ = some (.string x) := by simpa [Addr.add] using h0
          unfold World.cell? at h0'
          simp only [Option.isSome_some, if_true] at h0'
          split at h0' <;> cases h0'
      have hadd : ∀ j, (⟨bk, o, none⟩ : Addr).add j = ⟨bk, o + j, none⟩ := by
        intro j
        unfold Addr.add
        split
        · next h => rw [h]; rfl
        · rfl
      exact Tryd.strings_Join bk o c (x :: t) ⟨#[32]⟩ w (fun j y hy => by rw [← hadd]; exact hcell j y hy) (cell_lt' (p := ⟨bk, o, none⟩) (by have := hcell 0 x rfl; rwa [hadd] at this)) (by omega) hc (by
        have e : (joinV (x :: t)).size = (Lib.join ((x :: t).map (·.data.toList)) [32]).length := by
          show (Lib.join _ _).toArray.size = _
          rw [List.size_toArray]
        show (Lib.join ((x :: t).map (·.data.toList)) [32]).length ≤ _
        omega)
  clear hC
  go_enter Tryd.func28, Tryd.ntmps28
  go_wp2_with (go_at_call 57; refine HJ.out.mono ?_; rintro e w' ⟨rfl, hb⟩)
  go_ret
  exact ⟨rfl, hb⟩
end Go.Proofs.YtocpfgdajomjiaaDoor.Hand
namespace Go.Proofs.YtocpfgdajomjiaaDoor.Hand
open Go.RowKit
set_option linter.unusedVariables false
set_option linter.unusedSimpArgs false
set_option maxHeartbeats 1000000 in
set_option maxRecDepth 100000 in
theorem copyCheck_used (b : Nat) (v : Value) (w : World) (hb : w.heap[b]? = some (.cells #[.pointer (some ⟨b, 0, none⟩), v] 59 (0, 0))) :
    Calls Tryd.prog 75 #[.pointer (some ⟨b, 0, none⟩)] w fun e w' => e = .returned (.tuple #[]) ∧ w' = w := by
  have c0 : w.cell? ⟨b, 0, none⟩ = some (.pointer (some ⟨b, 0, none⟩)) := by rw [Lib.cell_of_heap hb]; rfl
  clear hb
  obtain ⟨j, hj, _⟩ := Option.map_eq_some_iff.1 Tryd.Builder_Extra_169.sizeBuilder
  go_enter Tryd.func75, Tryd.ntmps75
  go_wp2
  rw [Lib.run_neq_ptr_same w _ Tryd.underlying57 hj]
  go_wp2
  go_end0
  exact ⟨rfl, rfl⟩
set_option maxHeartbeats 1000000 in
set_option maxRecDepth 100000 in
theorem copyCheck_fresh (b : Nat) (v : Value) (w : World) (hb : w.heap[b]? = some (.cells #[.pointer none, v] 59 (0, 0))) :
    Calls Tryd.prog 75 #[.pointer (some ⟨b, 0, none⟩)] w fun e w' => e = .returned (.tuple #[]) ∧ w' = w.setCell ⟨b, 0, none⟩ (.pointer (some ⟨b, 0, none⟩)) := by
  have c0 : w.cell? ⟨b, 0, none⟩ = some (.pointer none) := by rw [Lib.cell_of_heap hb]; rfl
  have f0 : w.frozen? ⟨b, 0, none⟩ = false := Lib.frozen_of_heap hb 0
  have hsh : w.shape? b = some (59, 2) := by simp [World.shape?, hb]
  clear hb
  obtain ⟨j, hj, hjs⟩ := Option.map_eq_some_iff.1 Tryd.Builder_Extra_169.sizeBuilder
  go_enter Tryd.func75, Tryd.ntmps75
  go_wp2
  rw [Lib.run_to_unsafe w ⟨b, 0, none⟩ Tryd.underlying57 Tryd.underlying99 hj (by rw [hjs]; decide) hsh (Nat.zero_lt_succ 1)]
  simp only [Result.andThen]
  rw [Oper.upon_value]
  go_wp2
  rw [run_callFunc_extern Tryd.func98 (by kernel_rfl) (by kernel_rfl) (by kernel_rfl) (e := Extern.AbiNoEscape.same) (by kernel_rfl)]
  rw [Lib.run_noEscape]
  simp only [Result.andThen]
  rw [Oper.upon_value]
  go_wp2
  rw [Lib.run_from_unsafe w ⟨b, 0, none⟩ Tryd.underlying99 Tryd.underlying57 hj hsh Tryd.Builder_Extra_169.liesBuilder]
  simp only [Result.andThen]
  rw [Oper.upon_value]
  go_wp2
  go_end0
  exact ⟨rfl, rfl⟩

/-- Block b is a builder that holds bs, in a row of its own from B1 on. -/
def Bld (b B1 : Nat) (bs : List Value) (w : World) : Prop := b < B1 ∧ B1 ≤ w.heap.size ∧ ∃ p v, (p = .pointer none ∨ p = .pointer (some ⟨b, 0, none⟩)) ∧ w.heap[b]? = some (.cells #[p, v] 59 (0, 0)) ∧ w.ownsRowF B1 5 1 v bs.length bs
/-- What lay below B1, but for block b, lies as it lay. -/
structure Apart (b B1 : Nat) (w w' : World) : Prop where
  os : w'.os = w.os
  tape : w'.tape = w.tape
  output : w'.output = w.output
  size : w.heap.size ≤ w'.heap.size
  block : ∀ k, k < B1 → k ≠ b → w'.heap[k]? = w.heap[k]?
theorem Apart.refl (b B1 : Nat) (w : World) : Apart b B1 w w := ⟨rfl, rfl, rfl, Nat.le_refl _, fun _ _ _ => rfl⟩
theorem Apart.trans {b B1 : Nat} {w w1 w2 : World} (h : Apart b B1 w w1) (k : Apart b B1 w1 w2) : Apart b B1 w w2 := ⟨k.os.trans h.os, k.tape.trans h.tape, k.output.trans h.output, Nat.le_trans h.size k.size, fun i hi hb => (k.block i hi hb).trans (h.block i hi hb)⟩
theorem Apart.below {b B1 : Nat} {w w' : World} (h : Apart b B1 w w') (hb : b < B1) : Below b w w' := ⟨h.os, h.tape, h.output, h.size, fun k hk => h.block k (by omega) (by omega)⟩
theorem Apart.set {b B1 : Nat} (w : World) (o : Nat) (v : Value) : Apart b B1 w (w.setCell ⟨b, o, none⟩ v) := ⟨rfl, rfl, rfl, by simp [World.setCell], fun k _ hk => Below.heap_setCell _ _ _ _ hk⟩
theorem Apart.grown {b B1 : Nat} {w w1 : World} {row : Option Nat} (hg : w.grownBy w1 row) (hB : B1 ≤ w.heap.size) (hr : ∀ k, row = some k → B1 ≤ k) : Apart b B1 w w1 :=
  ⟨hg.os, hg.tape, hg.output, hg.size, fun k hk _ => hg.block k (by omega) (fun e => by have := hr k e.symm; omega)⟩
theorem Apart.alloc {b B1 : Nat} (w : World) (o : Obj) (hB : B1 ≤ w.heap.size) : Apart b B1 w (w.alloc o) := Apart.grown (World.grownBy_alloc w o none) hB (fun k e => by cases e)
theorem Apart.cell {b B1 : Nat} {w w' : World} (h : Apart b B1 w w') {p : Addr} (h1 : p.block < B1) (h2 : p.block ≠ b) : w'.cell? p = w.cell? p := World.cell?_of_block (h.block _ h1 h2)
theorem heap_set0 {w : World} {b : Nat} {x y u : Value} (h : w.heap[b]? = some (.cells #[x, y] 59 (0, 0))) : (w.setCell ⟨b, 0, none⟩ u).heap[b]? = some (.cells #[u, y] 59 (0, 0)) := by
  simp [World.setCell, Array.getElem?_modify, h]
theorem heap_set1 {w : World} {b : Nat} {x y u : Value} (h : w.heap[b]? = some (.cells #[x, y] 59 (0, 0))) : (w.setCell ⟨b, 1, none⟩ u).heap[b]? = some (.cells #[x, u] 59 (0, 0)) := by
  simp [World.setCell, Array.getElem?_modify, h]
theorem grownSet (w : World) (b o : Nat) (v : Value) : w.grownBy (w.setCell ⟨b, o, none⟩ v) (some b) := ⟨rfl, rfl, rfl, by simp [World.setCell], fun k _ hk => Below.heap_setCell _ _ _ _ (fun e => hk (by rw [e]))⟩
theorem copyCheck (b B1 : Nat) (bs : List Value) (w : World) (h : Bld b B1 bs w) :
    Calls Tryd.prog 75 #[.pointer (some ⟨b, 0, none⟩)] w fun e w' => e = .returned (.tuple #[]) ∧ (∃ v, w'.heap[b]? = some (.cells #[.pointer (some ⟨b, 0, none⟩), v] 59 (0, 0)) ∧ w'.ownsRowF B1 5 1 v bs.length bs) ∧ B1 ≤ w'.heap.size ∧ Apart b B1 w w' := by
  obtain ⟨h1, h2, p, v, hp, hb, hown⟩ := h
  rcases hp with rfl | rfl
  · refine (copyCheck_fresh b v w hb).mono ?_
    rintro e w' ⟨rfl, rfl⟩
    refine ⟨rfl, ⟨v, heap_set0 hb, hown.kept (grownSet w b 0 _) (.inr (Lib.ownBlock_neF hown hb (by decide)))⟩, by simpa using h2, Apart.set w 0 _⟩
  · refine (copyCheck_used b v w hb).mono ?_
    rintro e w' ⟨rfl, rfl⟩
    exact ⟨rfl, ⟨v, hb, hown⟩, h2, Apart.refl _ _ _⟩
set_option maxHeartbeats 1000000 in
set_option maxRecDepth 100000 in
theorem writeByte (b B1 : Nat) (bs : List Value) (c : Int) (w : World) (h : Bld b B1 bs w) (hlen : bs.length + 1 ≤ 100000000) :
    Calls Tryd.prog 53 #[.pointer (some ⟨b, 0, none⟩), .int .u8 c] w fun e w' => e = .returned .nilIface ∧ Bld b B1 (bs ++ [.int .u8 c]) w' ∧ Apart b B1 w w' := by
  have hcc := Lib.hid (copyCheck b B1 bs w h)
  have hb1 := h.1
  clear h
  obtain ⟨i0, hi, hz0, hz1, hz2⟩ := info_parts Tryd.Builder_Extra_169.infoByte
  go_enter Tryd.func53, Tryd.ntmps53
  go_wp2_with (go_at_call 75; refine hcc.out.mono ?_)
  rintro e w1 ⟨rfl, ⟨v, hbk, hown⟩, hB, hA⟩
  have c0 : w1.cell? ⟨b, 0, none⟩ = some (.pointer (some ⟨b, 0, none⟩)) := by rw [Lib.cell_of_heap hbk]; rfl
  have c1 : w1.cell? ⟨b, 1, none⟩ = some v := by rw [Lib.cell_of_heap hbk]; rfl
  go_wp2_with (at_builtin; refine wpList_append_ownF _ rfl _ _ 48 rfl B1 5 i0 (.int .u8 0) 1 1 Tryd.underlying48 hi hz0 hz1 hz2 rfl (by decide) _ _ _ rfl (hown.alloc _) ⟨w1.heap.size, 0, none⟩ 1 1 [.int .u8 c] rfl rfl ?c1 ?c2 ?c3 ?c4 ?c5 ?_)
  case c1 =>
    intro j u hj
    match j, hj with
    | 0, hj => simp at hj; subst hj; simp [Addr.add]
  case c2 => intro u hu; simp at hu; subst hu; rfl
  case c3 => unfold maxLen; omega
  case c4 => omega
  case c5 => simp; omega
  intro v' w2 hown' hgrow _
  have hlt : b < w1.heap.size := by omega
  have hne : v.ownBlock ≠ some b := Lib.ownBlock_neF hown hbk (by decide)
  have hb2 : w2.heap[b]? = some (.cells #[.pointer (some ⟨b, 0, none⟩), v] 59 (0, 0)) := by
    rw [hgrow.block b (by simp; omega) (fun e => hne e.symm), Lib.alloc_old w1 _ b hlt]
    exact hbk
  have d0 : w2.cell? ⟨b, 0, none⟩ = some (.pointer (some ⟨b, 0, none⟩)) := by rw [Lib.cell_of_heap hb2]; rfl
  have d1 : w2.cell? ⟨b, 1, none⟩ = some v := by rw [Lib.cell_of_heap hb2]; rfl
  have f1 : w2.frozen? ⟨b, 1, none⟩ = false := Lib.frozen_of_heap hb2 1
  obtain ⟨g, cap, rfl⟩ : ∃ g cap, v' = .slice (some ⟨g, 0, none⟩) (bs.length + 1) cap := by
    rcases hown'.2 with ⟨_, h0⟩ | ⟨g, cap, cur, fz, hv, _⟩
    · omega
    · exact ⟨g, cap, hv⟩
  have hA2 : Apart b B1 w1 w2 := (Apart.alloc w1 _ hB).trans (Apart.grown hgrow (by simp; omega) (fun k hk => (hown.lt k hk).1))
  have hs2 := hA2.size
  go_wp2
  go_ret
  refine ⟨rfl, ⟨hb1, by simp; omega, _, _, .inr rfl, heap_set1 hb2, ?_⟩, (hA.trans hA2).trans (Apart.set w2 1 _)⟩
  have := hown'.kept (grownSet w2 b 1 (.slice (some ⟨g, 0, none⟩) (bs.length + 1) cap)) (.inr (Lib.ownBlock_neF hown' hb2 (by decide)))
  simpa using this

set_option maxHeartbeats 1000000 in
set_option maxRecDepth 100000 in
theorem writeString (b B1 : Nat) (bs : List Value) (s : ByteArray) (w : World) (h : Bld b B1 bs w) (hlen : bs.length + s.size ≤ 100000000) :
    Calls Tryd.prog 64 #[.pointer (some ⟨b, 0, none⟩), .string s] w fun e w' => e = .returned (.tuple #[.int .i64 s.size, .nilIface]) ∧ Bld b B1 (bs ++ Lib.strCells s) w' ∧ Apart b B1 w w' := by
  have hcc := Lib.hid (copyCheck b B1 bs w h)
  have hb1 := h.1
  clear h
  obtain ⟨i0, hi, hz0, hz1, hz2⟩ := info_parts Tryd.Builder_Extra_169.infoByte
  go_enter Tryd.func64, Tryd.ntmps64
  go_wp2_with (go_at_call 75; refine hcc.out.mono ?_)
  rintro e w1 ⟨rfl, ⟨v, hbk, hown⟩, hB, hA⟩
  have c0 : w1.cell? ⟨b, 0, none⟩ = some (.pointer (some ⟨b, 0, none⟩)) := by rw [Lib.cell_of_heap hbk]; rfl
  have c1 : w1.cell? ⟨b, 1, none⟩ = some v := by rw [Lib.cell_of_heap hbk]; rfl
  go_wp2_with (at_builtin; refine Lib.wpList_append_own_stringF _ rfl _ _ 48 9 rfl B1 5 i0 Tryd.underlying48 Tryd.underlying9 hi hz0 hz1 hz2 _ _ _ rfl hown s rfl ?c3 ?c4 ?c5 ?_)
  case c3 => unfold maxLen; omega
  case c4 => omega
  case c5 => omega
  intro v' w2 hown' hgrow _
  have hlt : b < w1.heap.size := by omega
  have hne : v.ownBlock ≠ some b := Lib.ownBlock_neF hown hbk (by decide)
  have hb2 : w2.heap[b]? = some (.cells #[.pointer (some ⟨b, 0, none⟩), v] 59 (0, 0)) := by
    rw [hgrow.block b hlt (fun e => hne e.symm)]
    exact hbk
  have d0 : w2.cell? ⟨b, 0, none⟩ = some (.pointer (some ⟨b, 0, none⟩)) := by rw [Lib.cell_of_heap hb2]; rfl
  have d1 : w2.cell? ⟨b, 1, none⟩ = some v := by rw [Lib.cell_of_heap hb2]; rfl
  have f1 : w2.frozen? ⟨b, 1, none⟩ = false := Lib.frozen_of_heap hb2 1
  obtain ⟨ao, n', cap, hv'⟩ : ∃ ao n' cap, v' = .slice ao n' cap := by
    rcases hown'.2 with ⟨hv, _⟩ | ⟨g, cap, cur, fz, hv, _⟩
    · exact ⟨_, _, _, hv⟩
    · exact ⟨_, _, _, hv⟩
  subst hv'
  have hA2 : Apart b B1 w1 w2 := Apart.grown hgrow hB (fun k hk => (hown.lt k hk).1)
  have hs2 := hA2.size
  go_wp2
  go_ret2
  refine ⟨rfl, ⟨hb1, by simp; omega, _, _, .inr rfl, heap_set1 hb2, ?_⟩, (hA.trans hA2).trans (Apart.set w2 1 _)⟩
  have := hown'.kept (grownSet w2 b 1 (.slice ao n' cap)) (.inr (Lib.ownBlock_neF hown' hb2 (by decide)))
  have e : (bs ++ Lib.strCells s).length = bs.length + s.size := by
    rw [List.length_append, Lib.strCells, List.length_map, ← Lib.size_eq]
  rw [e]
  exact this
theorem bstring (b B1 : Nat) (l : List UInt8) (w : World) (h : Bld b B1 (Lib.byteCells l) w) :
    Calls Tryd.prog 54 #[.pointer (some ⟨b, 0, none⟩)] w fun e w' => e = .returned (.string ⟨l.toArray⟩) ∧ Below b w w' := by
  obtain ⟨h1, h2, p, v, hp, hb, hown⟩ := h
  have hlow : w.ownsRowF b 5 1 v (Lib.byteCells l).length (Lib.byteCells l) := by
    refine ⟨hown.1, ?_⟩
    rcases hown.2 with hz | ⟨g, cap, cur, fz, hv, hg, hr⟩
    · exact .inl hz
    · exact .inr ⟨g, cap, cur, fz, hv, by omega, hr⟩
  have hat : Lib.BuilderAtF 59 5 b b p (Lib.byteCells l) w := ⟨Nat.le_refl _, v, hb, hlow, Lib.ownBlock_neF hown hb (by decide)⟩
  refine (Tryd.Builder_String_any_f b b l w ?_ (by omega)).mono (fun e w' h => ⟨h.1, h.2.2⟩)
  rcases hp with rfl | rfl
  · exact .inl hat
  · exact .inr hat

end Go.Proofs.YtocpfgdajomjiaaDoor.Hand
namespace Go.Proofs.YtocpfgdajomjiaaDoor.PL
open Go.RowKit Go.Proofs.YtocpfgdajomjiaaDoorW.PrintWords Go.Proofs.YtocpfgdajomjiaaDoorW.PrintLast Go.Proofs.YtocpfgdajomjiaaDoorW.PrintMore
attribute [local go_sem] max2_int min2_int max_two min_two max_three min_three max_four min_four   -- for this text's walks alone
set_option linter.unusedVariables false
set_option linter.unusedSimpArgs false



def errW : Option Int → Value
  | none => .nilIface
  | some c => .iface 0 (.int .i64 c)
theorem errW_none : errW none = .nilIface := rfl
theorem errW_some (c : Int) : errW (some c) = .iface 0 (.int .i64 c) := rfl

-- the values' own types

end Go.Proofs.YtocpfgdajomjiaaDoor.PL
namespace Go.Proofs.YtocpfgdajomjiaaDoor.PL
open Go.Proofs.YtocpfgdajomjiaaDoor
open Go.RowKit Go.Proofs.YtocpfgdajomjiaaDoorW.PrintWords Go.Proofs.YtocpfgdajomjiaaDoorW.PrintLast Go.Proofs.YtocpfgdajomjiaaDoorW.PrintMore
attribute [local go_sem] max2_int min2_int max_two min_two max_three min_three max_four min_four   -- for this text's walks alone
set_option linter.unusedVariables false
set_option linter.unusedSimpArgs false

/-! ### text_plain: function 51 -/
mutual
def text_plain.j0 : Nat → Int → Bool → Option (Bool)
  | 0, _, _ => none
  | k + 1, x0, x3 => if x3 = true then (some true) else (if x0 ≥ 97 then (text_plain.j1 k x0 (decide (x0 ≤ 122))) else (text_plain.j1 k x0 false))
def text_plain.j1 : Nat → Int → Bool → Option (Bool)
  | 0, _, _ => none
  | k + 1, x0, x3 => if x3 = true then (some true) else (if x0 ≥ 48 then (if x0 ≤ 57 then (some true) else (if x0 = 95 then (some true) else (if x0 = 45 then (some true) else (if x0 = 46 then (some true) else (if x0 = 47 then (some true) else (some (x0 == 43))))))) else (if x0 = 95 then (some true) else (if x0 = 45 then (some true) else (if x0 = 46 then (some true) else (if x0 = 47 then (some true) else (some (x0 == 43)))))))
end
def text_plain.f (k : Nat) (a0 : Int) : Option (Bool) := if a0 ≥ 65 then (text_plain.j0 k a0 (decide (a0 ≤ 90))) else (text_plain.j0 k a0 false)
theorem text_plain.mono_l : ∀ k, (∀ y0 y1, LeO (text_plain.j0 k y0 y1) (text_plain.j0 (k + 1) y0 y1)) ∧ (∀ y0 y1, LeO (text_plain.j1 k y0 y1) (text_plain.j1 (k + 1) y0 y1))
  | 0 => ⟨fun _ _ r h => by simp [text_plain.j0] at h, fun _ _ r h => by simp [text_plain.j1] at h⟩
  | k + 1 => by
    obtain ⟨ih0, ih1⟩ := text_plain.mono_l k
    refine ⟨?_, ?_⟩
    · intro y0 y1
      unfold text_plain.j0
      repeat' first
      | (with_reducible exact ih0 _ _)
      | (with_reducible exact ih1 _ _)
      | (with_reducible exact LeO.refl _)
      | (with_reducible exact LeO.none _)
      | (with_reducible refine LeO.ite ?_ ?_)
      | (with_reducible refine LeO.bind ?_ (fun _ => ?_))
      | exact ih0 _ _
      | exact ih1 _ _
      | exact LeO.none _
      | refine LeO.ite ?_ ?_
      | refine LeO.bind ?_ (fun _ => ?_)
    · intro y0 y1
      unfold text_plain.j1
      repeat' first
      | (with_reducible exact ih0 _ _)
      | (with_reducible exact ih1 _ _)
      | (with_reducible exact LeO.refl _)
      | (with_reducible exact LeO.none _)
      | (with_reducible refine LeO.ite ?_ ?_)
      | (with_reducible refine LeO.bind ?_ (fun _ => ?_))
      | exact ih0 _ _
      | exact ih1 _ _
      | exact LeO.none _
      | refine LeO.ite ?_ ?_
      | refine LeO.bind ?_ (fun _ => ?_)
theorem text_plain.mono : ∀ a0 k, LeO (text_plain.f k a0) (text_plain.f (k + 1) a0) := by
  intro a0 k
  obtain ⟨ih0, ih1⟩ := text_plain.mono_l k
  unfold text_plain.f
  repeat' first
      | (with_reducible exact ih0 _ _)
      | (with_reducible exact ih1 _ _)
      | (with_reducible exact LeO.refl _)
      | (with_reducible exact LeO.none _)
      | (with_reducible refine LeO.ite ?_ ?_)
      | (with_reducible refine LeO.bind ?_ (fun _ => ?_))
      | exact ih0 _ _
      | exact ih1 _ _
      | exact LeO.none _
      | refine LeO.ite ?_ ?_
      | refine LeO.bind ?_ (fun _ => ?_)
set_option maxHeartbeats 8000000 in
set_option maxRecDepth 100000 in
theorem text_plain.calls (k : Nat) (a0 : Int) (r : Bool) (w : World) (h : text_plain.f k a0 = some r) :
    Calls Tryd.prog 51 #[.int .u8 a0] w fun e w' => e = .returned (.bool r) ∧ Drawn0 w w' := by
  have H : (if a0 ≥ 65 then (text_plain.j0 k a0 (decide (a0 ≤ 90))) else (text_plain.j0 k a0 false)) = some r := h
  clear h
  have HC2 := Aside0.mk H
  clear H
  go_enter Tryd.func51, Tryd.ntmps51
  go_upto_region 1 with (fail)
  go_cut [3] (fun v3 wc => ∃ (kq : Nat) (x3_1 : Bool), v3 = .bool x3_1 ∧ Aside0 (text_plain.j0 kq a0 x3_1 = some r) ∧ Aside0 (kq ≤ k) ∧ Drawn0 w wc)
  case first =>
    have H := HC2.out
    clear HC2
    by_cases c3 : a0 ≥ 65
    · rw [if_pos c3] at H
      have c3b0 : decide (65 ≤ a0) = true := decide_eq_true c3
      clear c3
      (first | rw [c3b0] | (simp only [i64_w, i32_w]; rw [c3b0]) | skip)
      have H' := Aside0.mk H
      clear H
      go_wp2
      go_meet
      case rel => exact ⟨_, (decide (a0 ≤ 90)), (by first | rfl | (simp; done) | (simp [*]; done)), H', ⟨by first | omega | exact Nat.le_refl _⟩, by repeat (first | exact Drawn0.refl _ | apply Drawn0.step)⟩
    · rw [if_neg c3] at H
      have c3b0 : decide (65 ≤ a0) = false := decide_eq_false c3
      clear c3
      (first | rw [c3b0] | (simp only [i64_w, i32_w]; rw [c3b0]) | skip)
      have H' := Aside0.mk H
      clear H
      go_wp2
      go_meet
      case rel => exact ⟨_, (false), (by first | rfl | (simp; done) | (simp [*]; done)), H', ⟨by first | omega | exact Nat.le_refl _⟩, by repeat (first | exact Drawn0.refl _ | apply Drawn0.step)⟩
  case rest =>
    clear HC2
    try clear p2
    try clear c3
    try clear c3b0
    obtain ⟨kq, x3_1, rfl, HA, HJ1, ⟨mc1, rfl⟩⟩ := hcut
    cases kq with
    | zero => exact absurd HA.out (by simp [text_plain.j0])
    | succ kj1 =>
      have H := HA.out
      clear HA
      simp only [text_plain.j0] at H
      by_cases c4 : x3_1 = true
      · subst c4
        have H1 : (some true) = some r := by rw [if_pos rfl] at H; exact H
        clear H
        have H := H1
        clear H1
        obtain rfl := Option.some.inj H
        go_wp2
        go_ret
        exact ⟨by first | rfl | (simp; done) | (simp [*]; done), by repeat (first | exact Drawn0.refl _ | apply Drawn0.step)⟩
      · replace c4 := Bool.eq_false_iff.mpr c4
        subst c4
        have H1 : (if a0 ≥ 97 then (text_plain.j1 kj1 a0 (decide (a0 ≤ 122))) else (text_plain.j1 kj1 a0 false)) = some r := by rw [if_neg (show ¬ (false = true) by decide)] at H; exact H
        clear H
        have H := H1
        clear H1
        have HC5 := Aside0.mk H
        clear H
        go_upto_region 2 with (fail)
        go_cut [3] (fun v3 wc => ∃ (kq : Nat) (x3_4 : Bool), v3 = .bool x3_4 ∧ Aside0 (text_plain.j1 kq a0 x3_4 = some r) ∧ Aside0 (kq ≤ kj1) ∧ Drawn0 w wc)
        case first =>
          have H := HC5.out
          clear HC5
          by_cases c6 : a0 ≥ 97
          · rw [if_pos c6] at H
            have c6b0 : decide (97 ≤ a0) = true := decide_eq_true c6
            clear c6
            (first | rw [c6b0] | (simp only [i64_w, i32_w]; rw [c6b0]) | skip)
            have H' := Aside0.mk H
            clear H
            go_wp2
            go_meet
            case rel => exact ⟨_, (decide (a0 ≤ 122)), (by first | rfl | (simp; done) | (simp [*]; done)), H', ⟨by have := HJ1.out; first | omega | exact Nat.le_refl _⟩, by repeat (first | exact Drawn0.refl _ | apply Drawn0.step)⟩
          · rw [if_neg c6] at H
            have c6b0 : decide (97 ≤ a0) = false := decide_eq_false c6
            clear c6
            (first | rw [c6b0] | (simp only [i64_w, i32_w]; rw [c6b0]) | skip)
            have H' := Aside0.mk H
            clear H
            go_wp2
            go_meet
            case rel => exact ⟨_, (false), (by first | rfl | (simp; done) | (simp [*]; done)), H', ⟨by have := HJ1.out; first | omega | exact Nat.le_refl _⟩, by repeat (first | exact Drawn0.refl _ | apply Drawn0.step)⟩
        case rest =>
          clear HC5
          try clear c1
          try clear p2
          try clear c3
          try clear c3b0
          try clear c4
          try clear c5
          try clear c6
          try clear c6b0
          try clear p2
          obtain ⟨kq, x3_4, rfl, HA, HJ4, ⟨mc4, rfl⟩⟩ := hcut
          cases kq with
          | zero => exact absurd HA.out (by simp [text_plain.j1])
          | succ kj4 =>
            have H := HA.out
            clear HA
            simp only [text_plain.j1] at H
            by_cases c7 : x3_4 = true
            · subst c7
              have H1 : (some true) = some r := by rw [if_pos rfl] at H; exact H
              clear H
              have H := H1
              clear H1
              obtain rfl := Option.some.inj H
              go_wp2
              go_ret
              exact ⟨by first | rfl | (simp; done) | (simp [*]; done), by repeat (first | exact Drawn0.refl _ | apply Drawn0.step)⟩
            · replace c7 := Bool.eq_false_iff.mpr c7
              subst c7
              have H1 : (if a0 ≥ 48 then (if a0 ≤ 57 then (some true) else (if a0 = 95 then (some true) else (if a0 = 45 then (some true) else (if a0 = 46 then (some true) else (if a0 = 47 then (some true) else (some (a0 == 43))))))) else (if a0 = 95 then (some true) else (if a0 = 45 then (some true) else (if a0 = 46 then (some true) else (if a0 = 47 then (some true) else (some (a0 == 43))))))) = some r := by rw [if_neg (show ¬ (false = true) by decide)] at H; exact H
              clear H
              have H := H1
              clear H1
              by_cases c8 : a0 ≥ 48
              · rw [if_pos c8] at H
                have c8b0 : decide (48 ≤ a0) = true := decide_eq_true c8
                clear c8
                by_cases c9 : a0 ≤ 57
                · rw [if_pos c9] at H
                  have c9b0 : decide (a0 ≤ 57) = true := decide_eq_true c9
                  clear c9
                  obtain rfl := Option.some.inj H
                  go_wp2
                  go_ret
                  exact ⟨by first | rfl | (simp; done) | (simp [*]; done), by repeat (first | exact Drawn0.refl _ | apply Drawn0.step)⟩
                · rw [if_neg c9] at H
                  have c9b0 : decide (a0 ≤ 57) = false := decide_eq_false c9
                  clear c9
                  by_cases c10 : a0 = 95
                  · rw [if_pos c10] at H
                    have c10b0 : (a0 == 95) = true := beq_iff_eq.mpr c10
                    have c10b1 : (a0 != 95) = false := bne_eq_false_iff_eq.mpr c10
                    clear c10
                    obtain rfl := Option.some.inj H
                    go_wp2
                    go_ret
                    exact ⟨by first | rfl | (simp; done) | (simp [*]; done), by repeat (first | exact Drawn0.refl _ | apply Drawn0.step)⟩
                  · rw [if_neg c10] at H
                    have c10b0 : (a0 == 95) = false := beq_eq_false_iff_ne.mpr c10
                    have c10b1 : (a0 != 95) = true := bne_iff_ne.mpr c10
                    by_cases c11 : a0 = 45
                    · rw [if_pos c11] at H
                      have c11b0 : (a0 == 45) = true := beq_iff_eq.mpr c11
                      have c11b1 : (a0 != 45) = false := bne_eq_false_iff_eq.mpr c11
                      clear c11
                      obtain rfl := Option.some.inj H
                      go_wp2
                      go_ret
                      exact ⟨by first | rfl | (simp; done) | (simp [*]; done), by repeat (first | exact Drawn0.refl _ | apply Drawn0.step)⟩
                    · rw [if_neg c11] at H
                      have c11b0 : (a0 == 45) = false := beq_eq_false_iff_ne.mpr c11
                      have c11b1 : (a0 != 45) = true := bne_iff_ne.mpr c11
                      by_cases c12 : a0 = 46
                      · rw [if_pos c12] at H
                        have c12b0 : (a0 == 46) = true := beq_iff_eq.mpr c12
                        have c12b1 : (a0 != 46) = false := bne_eq_false_iff_eq.mpr c12
                        clear c12
                        obtain rfl := Option.some.inj H
                        go_wp2
                        go_ret
                        exact ⟨by first | rfl | (simp; done) | (simp [*]; done), by repeat (first | exact Drawn0.refl _ | apply Drawn0.step)⟩
                      · rw [if_neg c12] at H
                        have c12b0 : (a0 == 46) = false := beq_eq_false_iff_ne.mpr c12
                        have c12b1 : (a0 != 46) = true := bne_iff_ne.mpr c12
                        by_cases c13 : a0 = 47
                        · rw [if_pos c13] at H
                          have c13b0 : (a0 == 47) = true := beq_iff_eq.mpr c13
                          have c13b1 : (a0 != 47) = false := bne_eq_false_iff_eq.mpr c13
                          clear c13
                          obtain rfl := Option.some.inj H
                          go_wp2
                          go_ret
                          exact ⟨by first | rfl | (simp; done) | (simp [*]; done), by repeat (first | exact Drawn0.refl _ | apply Drawn0.step)⟩
                        · rw [if_neg c13] at H
                          have c13b0 : (a0 == 47) = false := beq_eq_false_iff_ne.mpr c13
                          have c13b1 : (a0 != 47) = true := bne_iff_ne.mpr c13
                          obtain rfl := Option.some.inj H
                          go_wp2
                          go_ret
                          exact ⟨by first | rfl | (simp; done) | (simp [*]; done), by repeat (first | exact Drawn0.refl _ | apply Drawn0.step)⟩
              · rw [if_neg c8] at H
                have c8b0 : decide (48 ≤ a0) = false := decide_eq_false c8
                clear c8
                by_cases c14 : a0 = 95
                · rw [if_pos c14] at H
                  have c14b0 : (a0 == 95) = true := beq_iff_eq.mpr c14
                  have c14b1 : (a0 != 95) = false := bne_eq_false_iff_eq.mpr c14
                  clear c14
                  obtain rfl := Option.some.inj H
                  go_wp2
                  go_ret
                  exact ⟨by first | rfl | (simp; done) | (simp [*]; done), by repeat (first | exact Drawn0.refl _ | apply Drawn0.step)⟩
                · rw [if_neg c14] at H
                  have c14b0 : (a0 == 95) = false := beq_eq_false_iff_ne.mpr c14
                  have c14b1 : (a0 != 95) = true := bne_iff_ne.mpr c14
                  by_cases c15 : a0 = 45
                  · rw [if_pos c15] at H
                    have c15b0 : (a0 == 45) = true := beq_iff_eq.mpr c15
                    have c15b1 : (a0 != 45) = false := bne_eq_false_iff_eq.mpr c15
                    clear c15
                    obtain rfl := Option.some.inj H
                    go_wp2
                    go_ret
                    exact ⟨by first | rfl | (simp; done) | (simp [*]; done), by repeat (first | exact Drawn0.refl _ | apply Drawn0.step)⟩
                  · rw [if_neg c15] at H
                    have c15b0 : (a0 == 45) = false := beq_eq_false_iff_ne.mpr c15
                    have c15b1 : (a0 != 45) = true := bne_iff_ne.mpr c15
                    by_cases c16 : a0 = 46
                    · rw [if_pos c16] at H
                      have c16b0 : (a0 == 46) = true := beq_iff_eq.mpr c16
                      have c16b1 : (a0 != 46) = false := bne_eq_false_iff_eq.mpr c16
                      clear c16
                      obtain rfl := Option.some.inj H
                      go_wp2
                      go_ret
                      exact ⟨by first | rfl | (simp; done) | (simp [*]; done), by repeat (first | exact Drawn0.refl _ | apply Drawn0.step)⟩
                    · rw [if_neg c16] at H
                      have c16b0 : (a0 == 46) = false := beq_eq_false_iff_ne.mpr c16
                      have c16b1 : (a0 != 46) = true := bne_iff_ne.mpr c16
                      by_cases c17 : a0 = 47
                      · rw [if_pos c17] at H
                        have c17b0 : (a0 == 47) = true := beq_iff_eq.mpr c17
                        have c17b1 : (a0 != 47) = false := bne_eq_false_iff_eq.mpr c17
                        clear c17
                        obtain rfl := Option.some.inj H
                        go_wp2
                        go_ret
                        exact ⟨by first | rfl | (simp; done) | (simp [*]; done), by repeat (first | exact Drawn0.refl _ | apply Drawn0.step)⟩
                      · rw [if_neg c17] at H
                        have c17b0 : (a0 == 47) = false := beq_eq_false_iff_ne.mpr c17
                        have c17b1 : (a0 != 47) = true := bne_iff_ne.mpr c17
                        obtain rfl := Option.some.inj H
                        go_wp2
                        go_ret
                        exact ⟨by first | rfl | (simp; done) | (simp [*]; done), by repeat (first | exact Drawn0.refl _ | apply Drawn0.step)⟩

end Go.Proofs.YtocpfgdajomjiaaDoor.PL
namespace Go.Proofs.YtocpfgdajomjiaaDoor.Hand
open Go.RowKit Go.Proofs.YtocpfgdajomjiaaDoorW.PrintWords
set_option linter.unusedVariables false
set_option linter.unusedSimpArgs false
/-! #### plain -/
def plainI (c : Int) : Bool := decide (65 ≤ c ∧ c ≤ 90) || decide (97 ≤ c ∧ c ≤ 122) || decide (48 ≤ c ∧ c ≤ 57) || decide (c = 95 ∨ c = 45 ∨ c = 46 ∨ c = 47 ∨ c = 43)
theorem plain_tail (c : Int) : (if c = 95 then some true else (if c = 45 then some true else (if c = 46 then some true else (if c = 47 then some true else some (c == 43))))) = some (decide (c = 95 ∨ c = 45 ∨ c = 46 ∨ c = 47 ∨ c = 43)) := by
  by_cases h1 : c = 95
  · simp [h1]
  by_cases h2 : c = 45
  · simp [h2]
  by_cases h3 : c = 46
  · simp [h3]
  by_cases h4 : c = 47
  · simp [h4]
  by_cases h5 : c = 43
  · simp [h5]
  have : (c == 43) = false := by simpa using h5
  simp [h1, h2, h3, h4, h5, this]
theorem plain_f (c : Int) : PL.text_plain.f 5 c = some (plainI c) := by
  unfold PL.text_plain.f plainI
  simp only [PL.text_plain.j0, PL.text_plain.j1, plain_tail]
  generalize decide (c = 95 ∨ c = 45 ∨ c = 46 ∨ c = 47 ∨ c = 43) = t
  by_cases h1 : 65 ≤ c <;> by_cases h2 : c ≤ 90 <;> by_cases h3 : 97 ≤ c <;> by_cases h4 : c ≤ 122 <;> by_cases h5 : 48 ≤ c <;> by_cases h6 : c ≤ 57 <;> simp [h1, h2, h3, h4, h5, h6]
theorem plain_walk (c : Int) (w : World) : Calls Tryd.prog 51 #[.int .u8 c] w fun e w' => e = .returned (.bool (plainI c)) ∧ Drawn0 w w' := PL.text_plain.calls 5 c _ w (plain_f c)

/-! #### Quote -/
def hexD (n : Nat) : UInt8 := if n < 10 then UInt8.ofNat (48 + n) else UInt8.ofNat (55 + n)
def quoteB (c : UInt8) : List UInt8 := if plainI c.toNat = true then [c] else [37, hexD (c.toNat / 16), hexD (c.toNat % 16)]
def quoteV (s : ByteArray) : ByteArray := if s.size = 0 then ⟨#[37]⟩ else ⟨(s.data.toList.flatMap quoteB).toArray⟩
theorem apart_drewN (b B1 : Nat) (w : World) (n : Nat) : Apart b B1 w (w.drewN n) := ⟨rfl, rfl, rfl, Nat.le_refl _, fun _ _ _ => rfl⟩
theorem quote_ne {s : ByteArray} (e : ¬ s = ByteArray.empty) : quoteV s = ⟨(s.data.toList.flatMap quoteB).toArray⟩ := by
  unfold quoteV
  rw [if_neg]
  intro h
  apply e
  have h1 : s.data.toList = [] := List.eq_nil_of_length_eq_zero (by rw [← Lib.size_eq]; exact h)
  cases s with
  | mk d => rw [show d = #[] from Array.ext' h1]; rfl
theorem lit_at (m : Nat) (h : m < 16) : ((⟨#[48, 49, 50, 51, 52, 53, 54, 55, 56, 57, 65, 66, 67, 68, 69, 70]⟩ : ByteArray)[m]'(by show m < 16; exact h)) = hexD m := by
  have : ∀ m : Fin 16, ((⟨#[48, 49, 50, 51, 52, 53, 54, 55, 56, 57, 65, 66, 67, 68, 69, 70]⟩ : ByteArray)[m.1]'(by show m.1 < 16; exact m.2)) = hexD m.1 := by decide
  exact this ⟨m, h⟩
theorem quoteB_len (c : UInt8) : (quoteB c).length ≤ 3 := by
  unfold quoteB
  split <;> simp
theorem quote_len (l : List UInt8) : (l.flatMap quoteB).length ≤ 3 * l.length := by
  induction l with
  | nil => simp
  | cons c t ih =>
    have := quoteB_len c
    rw [List.flatMap_cons, List.length_append, List.length_cons]
    omega
set_option maxHeartbeats 2000000 in
set_option maxRecDepth 100000 in
theorem quote_walk (s : ByteArray) (hs : s.size ≤ 100000) (w : World) : Calls Tryd.prog 22 #[.string s] w fun e w' => e = .returned (.string (quoteV s)) ∧ Below w.heap.size w w' := by
  by_cases e : s = ByteArray.empty
  · subst e
    go_enter Tryd.func22, Tryd.ntmps22
    go_wp2
    go_ret
    exact ⟨rfl, Below.refl _ _⟩
  · have hemp : s.toList.isEmpty = false := by
      rw [Lib.toList_data]
      cases h : s.data.toList with
      | nil => exact absurd (by cases s with | mk d => rw [show d = #[] from Array.ext' h]; rfl) e
      | cons => rfl
    have hcv := fun (W : World) => Lib.run_convert_string_bytes (P := Tryd.prog) W 9 48 5 s Tryd.underlying9 Tryd.underlying48 Tryd.underlying5
    go_enter Tryd.func22, Tryd.ntmps22
    go_wp2
    clear hcv
    obtain ⟨w0, hw0⟩ : ∃ w0, Lib.bytesWorld (w.alloc (Obj.cells #[Value.pointer none, Value.slice none 0 0] 59)) 5 s = w0 := ⟨_, rfl⟩
    have hs0 : w0.heap.size = w.heap.size + 2 := by rw [← hw0, Lib.bytesWorld_size]; simp
    have hcell : Hid (∀ j, j < s.size → w0.cell? ⟨w.heap.size + 1, j, none⟩ = some (.int .u8 (s.data.toList.getD j 0).toNat)) := by
      intro j hj
      rw [← hw0]
      have := Lib.bytesWorld_cell (w.alloc (Obj.cells #[Value.pointer none, Value.slice none 0 0] 59)) 5 s j hj
      simpa using this
    have hB0 : Hid (Below w.heap.size w w0) := by
      rw [Hid, ← hw0]
      exact ((Below.refl _ _).alloc (Nat.le_refl _) _).trans ⟨rfl, rfl, rfl, by rw [Lib.bytesWorld_size]; omega, fun k hk => Lib.bytesWorld_at_old _ 5 s k (by simp; omega)⟩
    have hbl0 : Hid (Bld w.heap.size (w.heap.size + 2) [] w0) := by
      refine ⟨by omega, by rw [hs0]; omega, _, _, .inl rfl, ?_, World.ownsRowF_nil _ _ _ _⟩
      rw [← hw0, Lib.bytesWorld_at_old _ _ _ _ (by simp)]
      exact World.alloc_heap_new w _
    rw [hw0]
    clear hw0
    go_loopw [11] (fun i wr => ∃ (k : Nat), k ≤ s.size ∧ i = .int .i64 k ∧ Hid (Bld w.heap.size (w.heap.size + 2) (Lib.byteCells ((s.data.toList.take k).flatMap quoteB)) wr) ∧ Hid (Apart w.heap.size (w.heap.size + 2) w0 wr))
      (fun i _ => s.size - (intOf i).toNat)
    case atStart => exact ⟨0, Nat.zero_le _, rfl, hbl0, Apart.refl _ _ _⟩
    case round =>
      obtain ⟨k, hk, rfl, hbl, hA⟩ := hrel
      by_cases hlt : k < s.size
      · have hc : wr.cell? ⟨w.heap.size + 1, k, none⟩ = some (.int .u8 (s.data.toList.getD k 0).toNat) := (hA.out.cell (p := ⟨w.heap.size + 1, k, none⟩) (by show w.heap.size + 1 < _; omega) (by show w.heap.size + 1 ≠ _; omega)).trans (hcell.out k hlt)
        have hk' : k < s.data.toList.length := by simpa using hlt
        obtain ⟨c, hcc⟩ : ∃ c, Hid (s.data.toList.getD k 0 = c) := ⟨_, Lib.hid rfl⟩
        rw [hcc.out] at hc
        have hstep : Hid ((s.data.toList.take (k + 1)).flatMap quoteB = (s.data.toList.take k).flatMap quoteB ++ quoteB c) := by
          rw [Hid, List.take_succ_eq_append_getElem hk', List.flatMap_append, ← hcc.out]
          simp [List.getD_eq_getElem?_getD, List.getElem?_eq_getElem hk']
        have hcl := UInt8.toNat_lt c
        generalize hn : c.toNat = n at hc hcl
        cases hp : plainI (n : Int) with
        | true =>
          have hq : Hid (quoteB c = [c]) := by
            rw [Hid, quoteB, hn, hp]
            rfl
          have hlen : Hid ((Lib.byteCells ((s.data.toList.take k).flatMap quoteB)).length + 1 ≤ 100000000) := by
            have h1 := quote_len (s.data.toList.take k)
            have h2 : (s.data.toList.take k).length ≤ k := by rw [List.length_take]; exact Nat.min_le_left _ _
            rw [Hid, Lib.byteCells_length]
            omega
          go_wp2_with (first | (go_at_call 51; refine (plain_walk _ _).mono ?_; rintro e w1 ⟨rfl, ⟨nd, rfl⟩⟩; rw [hp]; have HW := Lib.hid (writeByte w.heap.size (w.heap.size + 2) _ (n : Int) (wr.drewN nd) hbl.out hlen.out)) | (go_at_call 53; refine HW.out.mono ?_; rintro e w2 ⟨rfl, hb2, hA2⟩; have HB2 := Lib.hid hb2; have HA2 := Lib.hid hA2; clear hb2 hA2))
          go_roundw
          case rel =>
            refine ⟨k + 1, by omega, by go_num, ?_, ?_⟩
            · rw [Hid, hstep.out, hq.out, Lib.byteCells_append]
              have := HB2.out
              rw [← hn] at this
              exact this
            · exact (hA.out.trans (apart_drewN _ _ wr nd)).trans HA2.out
          case measure => simp [intOf]; omega
        | false =>
          have hq : Hid (quoteB c = [37, hexD (n / 16), hexD (n % 16)]) := by
            rw [Hid, quoteB, hn, hp]
            rfl
          have hlen : Hid ((Lib.byteCells ((s.data.toList.take k).flatMap quoteB)).length + 3 ≤ 100000000) := by
            have h1 := quote_len (s.data.toList.take k)
            have h2 : (s.data.toList.take k).length ≤ k := by rw [List.length_take]; exact Nat.min_le_left _ _
            rw [Hid, Lib.byteCells_length]
            omega
          generalize hbs : Lib.byteCells ((s.data.toList.take k).flatMap quoteB) = bs at hbl hlen
          have HA0 := hA
          go_wp2_with (first | (go_at_call 51; refine (plain_walk _ _).mono ?_; rintro e w1 ⟨rfl, ⟨nd, rfl⟩⟩; rw [hp]; have HC : Hid (Bld w.heap.size (w.heap.size + 2) bs (wr.drewN nd)) := hbl; have HT : Hid (Apart w.heap.size (w.heap.size + 2) w0 (wr.drewN nd)) := hA.out.trans (apart_drewN _ _ wr nd)) | (go_at_call 53; refine (writeByte w.heap.size (w.heap.size + 2) _ _ _ HC.out (by have := hlen.out; (try simp only [List.length_append, List.length_singleton]); omega)).mono ?_; rintro e w2 ⟨rfl, hb2, hA2⟩; have HC' := Lib.hid hb2; have HT' := Lib.hid (HT.out.trans hA2); clear hb2 hA2 HC HT; have HC := HC'; have HT := HT'; clear HC' HT'))
          go_roundw
          case rel =>
            refine ⟨k + 1, by omega, by go_num, ?_, HT⟩
            rw [Hid, hstep.out, hq.out, Lib.byteCells_append, hbs]
            have h1 := lit_at (n / 16) (by omega)
            have h2 := lit_at (n % 16) (by omega)
            have := HC.out
            rw [h1, h2] at this
            simpa [Lib.byteCells] using this
          case measure => simp [intOf]; omega
      · have HS := Lib.hid (bstring w.heap.size (w.heap.size + 2) _ wr hbl.out)
        have hkk : k = s.size := by omega
        go_wp2_with (go_at_call 54; refine HS.out.mono ?_; rintro e w2 ⟨rfl, hb2⟩)
        go_ret
        refine ⟨?_, hB0.out.trans ((hA.out.below (by omega)).trans hb2)⟩
        rw [quote_ne e]
        have ht : s.data.toList.take s.size = s.data.toList := List.take_of_length_le (by rw [← Lib.size_eq]; exact Nat.le_refl _)
        show _ = Ending.returned (.string ⟨(s.data.toList.flatMap quoteB).toArray⟩)
        have hx : (⟨(s.data.toList.flatMap quoteB).toArray⟩ : ByteArray) = ⟨((s.data.toList.take s.size).flatMap quoteB).toArray⟩ := by rw [ht]
        rw [hx]
        rfl
end Go.Proofs.YtocpfgdajomjiaaDoor.Hand
namespace Go.Proofs.YtocpfgdajomjiaaDoor.Hand
open Go.RowKit Go.Proofs.YtocpfgdajomjiaaDoorW.PrintWords
set_option linter.unusedVariables false
set_option linter.unusedSimpArgs false
/-! #### Path -/
def slashB : ByteArray := ⟨#[47]⟩
def partsB (s : ByteArray) : List ByteArray := Lib.splitB slashB 0 (Lib.countB s slashB) s
def badPart (p : ByteArray) : Bool := p.toList.isEmpty || p.toList == [46] || p.toList == [46, 46]
def pathV (s : ByteArray) : Bool := (s.data.toList.all fun c => plainI c.toNat) && (partsB s).all (fun p => !badPart p) && decide ((s.size : Int) ≤ 100) && decide (((partsB s).length : Int) ≤ 8)
set_option maxHeartbeats 2000000 in
set_option maxRecDepth 100000 in
theorem path_walk (s : ByteArray) (hs : s.size ≤ 100000) (m : Int) (w : World) (hw : 2 < w.heap.size) (hm : w.cell? ⟨2, 0, none⟩ = some (.int .i64 m)) : Calls Tryd.prog 21 #[.string s] w fun e w' => e = .returned (.bool (pathV s)) ∧ Below w.heap.size w w' := by
  have hcv := fun (W : World) => Lib.run_convert_string_bytes (P := Tryd.prog) W 9 48 5 s Tryd.underlying9 Tryd.underlying48 Tryd.underlying5
  have HM := Lib.hid hm
  clear hm
  go_enter Tryd.func21, Tryd.ntmps21
  go_wp2
  clear hcv
  obtain ⟨w0, hw0⟩ : ∃ w0, Lib.bytesWorld w 5 s = w0 := ⟨_, rfl⟩
  have hs0 : w0.heap.size = w.heap.size + 1 := by rw [← hw0, Lib.bytesWorld_size]
  have hcell : Hid (∀ j, j < s.size → w0.cell? ⟨w.heap.size, j, none⟩ = some (.int .u8 (s.data.toList.getD j 0).toNat)) := by
    intro j hj
    rw [← hw0]
    exact Lib.bytesWorld_cell w 5 s j hj
  have hB0 : Hid (Below w.heap.size w w0) := by
    rw [Hid, ← hw0]
    exact ⟨rfl, rfl, rfl, by rw [Lib.bytesWorld_size]; omega, fun k hk => Lib.bytesWorld_at_old _ 5 s k hk⟩
  have hm0 : Hid (w0.cell? ⟨2, 0, none⟩ = some (.int .i64 m)) := (hB0.out.cell (p := ⟨2, 0, none⟩) hw).trans HM.out
  rw [hw0]
  clear hw0
  obtain ⟨r, hr⟩ : ∃ r, Hid (pathV s = r) := ⟨_, Lib.hid rfl⟩
  go_loopw [11] (fun i wr => ∃ (k nd : Nat), k ≤ s.size ∧ i = .int .i64 k ∧ wr = w0.drewN nd ∧ Hid ((s.data.toList.take k).all (fun c => plainI c.toNat) = true))
    (fun i _ => s.size - (intOf i).toNat)
  case atStart => exact ⟨0, 0, Nat.zero_le _, rfl, rfl, rfl⟩
  case round =>
    obtain ⟨k, nd, hk, rfl, rfl, hall⟩ := hrel
    by_cases hlt : k < s.size
    · have hc : (w0.drewN nd).cell? ⟨w.heap.size, k, none⟩ = some (.int .u8 (s.data.toList.getD k 0).toNat) := hcell.out k hlt
      have hk' : k < s.data.toList.length := by simpa using hlt
      obtain ⟨c, hcc⟩ : ∃ c, Hid (s.data.toList.getD k 0 = c) := ⟨_, Lib.hid rfl⟩
      rw [hcc.out] at hc
      have hstep : Hid ((s.data.toList.take (k + 1)).all (fun c => plainI c.toNat) = ((s.data.toList.take k).all (fun c => plainI c.toNat) && plainI c.toNat)) := by
        rw [Hid, List.take_succ_eq_append_getElem hk', List.all_append, ← hcc.out]
        simp [List.getD_eq_getElem?_getD, List.getElem?_eq_getElem hk']
      have hcl := UInt8.toNat_lt c
      have hmem : Hid (c ∈ s.data.toList) := by
        rw [Hid, ← hcc.out, List.getD_eq_getElem?_getD, List.getElem?_eq_getElem hk']
        exact List.getElem_mem hk'
      have hcN : Hid (c.toNat = c.toNat) := rfl
      cases hp : plainI (c.toNat : Int) with
      | true =>
        have hp' := Lib.hid hp
        generalize hn : c.toNat = n at hc hcl hp
        go_wp2_with (go_at_call 51; refine (plain_walk _ _).mono ?_; rintro e w1 ⟨rfl, ⟨n1, rfl⟩⟩; rw [hp])
        go_roundw
        case rel => exact ⟨k + 1, nd + n1, by omega, by go_num, rfl, by rw [Hid, hstep.out, hall.out, hp'.out]; rfl⟩
        case measure => simp [intOf]; omega
      | false =>
        have hfin : Hid (r = false) := by
          rw [Hid, ← hr.out]
          unfold pathV
          have : s.data.toList.all (fun c => plainI c.toNat) = false := by
            rw [List.all_eq_false]
            exact ⟨c, hmem.out, by rw [hp]; simp⟩
          rw [this]
          rfl
        generalize hn : c.toNat = n at hc hcl hp
        go_wp2_with (go_at_call 51; refine (plain_walk _ _).mono ?_; rintro e w1 ⟨rfl, ⟨n1, rfl⟩⟩; rw [hp])
        go_ret
        exact ⟨by rw [hr.out, hfin.out]; rfl, hB0.out.trans ⟨rfl, rfl, rfl, Nat.le_refl _, fun _ _ => rfl⟩⟩
    · have hkk : k = s.size := by omega
      have hall' : Hid (s.data.toList.all (fun c => plainI c.toNat) = true) := by
        have := hall.out
        rw [hkk, List.take_of_length_le (by rw [← Lib.size_eq]; exact Nat.le_refl _)] at this
        exact this
      clear hall
      have HS := Lib.hid (Tryd.strings_Split s slashB m (w0.drewN nd) (by omega) hm0.out (by decide))
      have hB1 : Hid (Below w.heap.size w (w0.drewN nd)) := hB0.out.trans ⟨rfl, rfl, rfl, Nat.le_refl _, fun _ _ => rfl⟩
      have hpl : (partsB s).length = Lib.countB s slashB + 1 := Lib.splitB_all slashB (by decide) 0 _ s rfl
      have hcle := Lib.countB_le slashB (by decide) s.size s (Nat.le_refl _)
      generalize hcn : Lib.countB s slashB = cn at HS hpl hcle
      have hps : Lib.splitB slashB 0 cn s = partsB s := by rw [← hcn]; rfl
      rw [hps] at HS
      have HR := hr
      have hsz : (w0.drewN nd).heap.size = w.heap.size + 1 := hs0
      obtain ⟨W, hW⟩ : ∃ W, (w0.drewN nd).alloc (.cells ((partsB s).map Value.string).toArray 9) = W := ⟨_, rfl⟩
      rw [hW] at HS
      have hpc : Hid (∀ j (h : j < (partsB s).length), W.cell? ⟨w.heap.size + 1, j, none⟩ = some (.string (partsB s)[j])) := by
        intro j h
        have hb := World.alloc_heap_new (w0.drewN nd) (.cells ((partsB s).map Value.string).toArray 9)
        rw [hW, hsz] at hb
        rw [Lib.cell_of_heap hb]
        simp [h, hs0]
      have hWb : Hid (Below w.heap.size w W) := by
        rw [Hid, ← hW]
        exact hB1.out.alloc (by rw [hsz]; omega) _
      have hWs : W.heap.size = w.heap.size + 2 := by rw [← hW]; simp [hs0]
      clear hW
      go_wp2_with (go_at_call 52; refine HS.out.mono ?_; rintro e w1 ⟨rfl, rfl⟩)
      have hpl' : ((partsB s).length : Int) = (cn : Int) + 1 := by omega
      go_loopw [23] (fun i wr => ∃ (j : Nat), j ≤ cn + 1 ∧ i = .int .i64 j ∧ wr = w1 ∧ Hid (((partsB s).take j).all (fun p => !badPart p) = true))
        (fun i _ => cn + 1 - (intOf i).toNat)
      case atStart => exact ⟨0, Nat.zero_le _, rfl, rfl, rfl⟩
      case round =>
        obtain ⟨j, hj, rfl, rfl, hgood⟩ := hrel
        by_cases hlj : j < cn + 1
        · have hjl : j < (partsB s).length := by omega
          have hc := hpc.out j hjl
          have hstep : Hid (((partsB s).take (j + 1)).all (fun p => !badPart p) = !badPart (partsB s)[j]) := by
            rw [Hid, List.take_succ_eq_append_getElem hjl, List.all_append, hgood.out]
            simp
          have hmem : Hid ((partsB s)[j] ∈ partsB s) := List.getElem_mem hjl
          generalize (partsB s)[j] = p at hc hstep hmem
          have hfin : Hid (badPart p = true → r = false) := by
            intro hb
            rw [← hr.out]
            unfold pathV
            have : (partsB s).all (fun p => !badPart p) = false := by
              rw [List.all_eq_false]
              exact ⟨p, hmem.out, by rw [hb]; simp⟩
            rw [this]
            simp
          cases h1 : p.toList.isEmpty with
          | true =>
            have hr0 := hfin.out (by unfold badPart; rw [h1]; rfl)
            subst hr0
            go_wp2
            go_ret
            exact ⟨by rw [hr.out]; rfl, hWb.out⟩
          | false =>
            cases h2 : (p.toList == [46]) with
            | true =>
              have hr0 := hfin.out (by unfold badPart; rw [h1, h2]; rfl)
              subst hr0
              go_wp2
              go_ret
              exact ⟨by rw [hr.out]; rfl, hWb.out⟩
            | false =>
              cases h3 : (p.toList == [46, 46]) with
              | true =>
                have hr0 := hfin.out (by unfold badPart; rw [h1, h2, h3]; rfl)
                subst hr0
                go_wp2
                go_ret
                exact ⟨by rw [hr.out]; rfl, hWb.out⟩
              | false =>
                have hst2 : Hid (((partsB s).take (j + 1)).all (fun p => !badPart p) = true) := by
                  show _ = true
                  rw [hstep.out]
                  unfold badPart
                  rw [h1, h2, h3]
                  rfl
                go_wp2
                go_roundw
                case rel => exact ⟨j + 1, by omega, by go_num, by first | trivial | rfl, hst2⟩
                case measure => simp [intOf]; omega
        · have hall2 : Hid ((partsB s).all (fun p => !badPart p) = true) := by
            have := hgood.out
            rw [List.take_of_length_le (by omega)] at this
            exact this
          by_cases h100 : (s.size : Int) ≤ 100
          · have hfin : Hid (pathV s = decide ((cn : Int) + 1 ≤ 8)) := by
              show pathV s = _
              unfold pathV
              rw [hall'.out, hall2.out, hpl', decide_eq_true h100]
              rfl
            go_wp2
            go_ret
            exact ⟨by rw [hfin.out]; rfl, hWb.out⟩
          · have hfin : Hid (pathV s = false) := by
              show pathV s = _
              unfold pathV
              rw [decide_eq_false h100]
              simp
            go_wp2
            go_ret
            exact ⟨by rw [hfin.out]; rfl, hWb.out⟩
end Go.Proofs.YtocpfgdajomjiaaDoor.Hand
/- The contracts of the text package's functions. -/
namespace Go.Proofs.YtocpfgdajomjiaaDoor.Hand
open Go.RowKit Go.Proofs.YtocpfgdajomjiaaDoorW.PrintWords
set_option linter.unusedVariables false
/-- bytealg.MaxLen's cell holds a number. -/
structure Glob (w : World) : Prop where
  lt : 2 < w.heap.size
  cell : ∃ m, w.cell? ⟨2, 0, none⟩ = some (.int .i64 m)
theorem Glob.below {w w' : World} (h : Glob w) (hb : Below w.heap.size w w') : Glob w' :=
  ⟨Nat.lt_of_lt_of_le h.lt hb.size, by obtain ⟨m, hm⟩ := h.cell; exact ⟨m, (hb.cell (p := ⟨2, 0, none⟩) h.lt).trans hm⟩⟩
theorem glob_of_shaped {W : World} (h : W.ShapedOpen Tryd.prog) : Glob W := by
  obtain ⟨m, hm⟩ := Tryd.laysM145.s1_3 W h
  have hm' : W.cell? ⟨2, 0, none⟩ = some (.int .i64 m) := hm
  exact ⟨cell_lt' hm', m, hm'⟩
theorem text_Lines.calls (a0 : ByteArray) (r : List ByteArray) (w : World) (hG : Glob w) (h : text_Lines.f a0 = some r) :
    Calls Tryd.prog 20 #[.string a0] w fun e w' => ∃ v0_ : Value, e = .returned (v0_) ∧ Kd.R Kd.string 9 w' w.heap.size (fun _ => True) v0_ r ∧ Below w.heap.size w w' := by
  unfold text_Lines.f at h
  split at h
  next hs =>
    injection h with h
    subst h
    obtain ⟨m, hm⟩ := hG.cell
    exact lines_walk a0 hs m w hG.lt hm
  next => exact absurd h (by simp)
def text_Words.f (a0 : ByteArray) : Option (List ByteArray) := if a0.size ≤ 100000 then some (wordsV a0) else none
theorem text_Words.calls (a0 : ByteArray) (r : List ByteArray) (w : World) (h : text_Words.f a0 = some r) :
    Calls Tryd.prog 24 #[.string a0] w fun e w' => ∃ v0_ : Value, e = .returned (v0_) ∧ Kd.R Kd.string 9 w' w.heap.size (fun _ => True) v0_ r ∧ Below w.heap.size w w' := by
  unfold text_Words.f at h
  split at h
  next hs =>
    injection h with h
    subst h
    exact words_walk a0 hs w
  next => exact absurd h (by simp)
def text_Trim.f (a0 : ByteArray) : Option ByteArray := if a0.size ≤ 100000 then some (trimV a0) else none
theorem text_Trim.calls (a0 : ByteArray) (r : ByteArray) (w : World) (h : text_Trim.f a0 = some r) :
    Calls Tryd.prog 30 #[.string a0] w fun e w' => e = .returned (.string r) ∧ Below w.heap.size w w' := by
  unfold text_Trim.f at h
  split at h
  next hs =>
    injection h with h
    subst h
    exact trim_walk a0 hs w
  next => exact absurd h (by simp)
def text_Join.f (l0 : List ByteArray) : Option ByteArray := if l0.length ≤ 100000 ∧ (joinV l0).size ≤ 100000000 then some (joinV l0) else none
theorem text_Join.calls (A0 : Option Addr) (c0 : Nat) (l0 : List ByteArray) (r : ByteArray) (w : World) (hr0 : Kd.C Kd.string w A0 l0.length l0) (hc0 : l0.length ≤ c0) (h : text_Join.f l0 = some r) :
    Calls Tryd.prog 28 #[.slice A0 l0.length c0] w fun e w' => e = .returned (.string r) ∧ Below w.heap.size w w' := by
  unfold text_Join.f at h
  split at h
  next hs =>
    injection h with h
    subst h
    exact join_walk A0 c0 l0 w hr0 hc0 hs.1 hs.2
  next => exact absurd h (by simp)
def text_Path.f (a0 : ByteArray) : Option Bool := if a0.size ≤ 100000 then some (pathV a0) else none
theorem text_Path.calls (a0 : ByteArray) (r : Bool) (w : World) (hG : Glob w) (h : text_Path.f a0 = some r) :
    Calls Tryd.prog 21 #[.string a0] w fun e w' => e = .returned (.bool r) ∧ Below w.heap.size w w' := by
  unfold text_Path.f at h
  split at h
  next hs =>
    injection h with h
    subst h
    obtain ⟨m, hm⟩ := hG.cell
    exact path_walk a0 hs m w hG.lt hm
  next => exact absurd h (by simp)
def text_Quote.f (a0 : ByteArray) : Option ByteArray := if a0.size ≤ 100000 then some (quoteV a0) else none
theorem text_Quote.calls (a0 : ByteArray) (r : ByteArray) (w : World) (h : text_Quote.f a0 = some r) :
    Calls Tryd.prog 22 #[.string a0] w fun e w' => e = .returned (.string r) ∧ Below w.heap.size w w' := by
  unfold text_Quote.f at h
  split at h
  next hs =>
    injection h with h
    subst h
    exact quote_walk a0 hs w
  next => exact absurd h (by simp)
end Go.Proofs.YtocpfgdajomjiaaDoor.Hand
