import Derived.Test.YtebfkifhkaeknaaGreatDoorQB
import Derived.OwnWalkIn
import Derived.RangeFuncOwn
import Derived.RangeFuncWrites
import Derived.Maps.AppendAt
import Derived.RangeFuncBox
import Derived.RangeFuncNested
import Derived.RangeFuncLeaves
import Derived.RangeFuncCalls
import Derived.RegionIn
import Derived.Laws.ResultCell
/- Several texts of this session in one: the walks of the functions that the laws reach, and what they tell. -/
/- A range over an iterator whose values lie in memory that it makes itself, and a body that never leaves; an append in a round. -/
namespace Go.Proofs.YtebfkifhkaeknaaGreatDoor.Range2
open Go Go.RowKit
variable {α : Type}
theorem wpListIn_append_own_at {F : Fence} {n : Nat} {P : Program} (w : World) {ops : Array Oper} {rest : List Oper} {o : Oper} {a : Act} {Q : Exit → Act → World → Prop}
    (hg : o.guard = none) (s x : Operand) (t : TypeId) (hop : o.op = Op.call { callee := Callee.builtin Builtin.append, args := #[s, x], argTypes := #[t, t] })
    (base : Nat) (e : TypeId) (i : TypeInfo) (z : Value) (size bytes : Nat) (h1 : P.underlying t = some (.slice e)) (h2 : P.info? e = some i) (h3 : i.zero = some z) (h4 : i.size = size) (h5 : i.bytes = bytes) (h6 : z.cells.size = size) (h7 : 0 < size)
    (v : Value) (k : Nat) (xs : List Value) (hs : a.eval s = v) (hown : w.ownsRow base e size v k xs) (ad : Addr) (m c : Nat) (news : List Value) (hx : a.eval x = .slice (some ad) m c) (hn : news.length = m * size)
    (hc : ∀ j u, news[j]? = some u → w.cell? (ad.add j) = some u) (h1c : ∀ u ∈ news, u.oneCell' = true) (b1 : k + m ≤ maxLen) (b2 : (k + m) * bytes ≤ 140737488355328) (b3 : base ≤ w.heap.size)
    (hK : ∀ v' w', w'.ownsRow base e size v' (k + m) (xs ++ news) → w.grownBy w' v.ownBlock → (v'.ownBlock = v.ownBlock ∨ v'.ownBlock = some w.heap.size) → wpListIn F n P ops Q rest (a.put o.dst v') w') :
    wpListIn F n P ops Q (o :: rest) a w := by
  refine wpListIn_plain hg fun K hK' => ?_
  obtain ⟨v', w', hrun, r1, r2, -, r3⟩ := run_append_own_at (P := P) w base t o.type e i z size bytes h1 h2 h3 h4 h5 h6 h7 v k xs hown ad m c news hn hc h1c b1 b2 b3
  unfold Oper.wpIn
  refine ⟨?_, ?_⟩
  · simp [Oper.about, hop, resolve, Target.leads, Sem.run_pure]
  · rw [Oper.semAt_plain F _ _ (by rw [hop]; intro c hc'; cases hc')]
    simp [execOp, hop, resolve, invoke, builtin, hs, hx, hrun, Result.andThen]
    exact hK' _ _ (hK v' w' r1 r2 r3)
theorem putObj_size (w : World) (k : Nat) (o : Obj) : (w.putObj k o).heap.size = w.heap.size := by simp [World.putObj]
theorem below_putBoth {W W1 : World} {l : Nat} (o : Obj) (hb : Below W.heap.size W W1) (hl : l < W.heap.size) : Below (W.putObj l o).heap.size (W.putObj l o) (W1.putObj l o) where
  os := hb.os
  tape := hb.tape
  output := hb.output
  size := by rw [putObj_size, putObj_size]; exact hb.size
  block := by
    intro k hk
    rw [putObj_size] at hk
    by_cases e : k = l
    · subst e
      rw [World.putObj_heap_same hl, World.putObj_heap_same (Nat.lt_of_lt_of_le hl hb.size)]
    · rw [World.putObj_heap_other e, World.putObj_heap_other e]
      exact hb.block k hk
/-- What lies below n₀, and block Bn, lie as they lay. -/
structure Kp (n₀ Bn : Nat) (W W' : World) : Prop where
  below : Below n₀ W W'
  box : Bn < W.heap.size → W'.heap[Bn]? = W.heap[Bn]?
theorem Kp.trans {n₀ Bn : Nat} {a b c : World} (h : Kp n₀ Bn a b) (k : Kp n₀ Bn b c) : Kp n₀ Bn a c := ⟨h.below.trans k.below, fun hb => (k.box (Nat.lt_of_lt_of_le hb h.below.size)).trans (h.box hb)⟩
theorem Kp.put {n₀ Bn : Nat} (W : World) (l : Nat) (o : Obj) (h1 : n₀ ≤ l) (h2 : Bn ≠ l) (h3 : l < W.heap.size) : Kp n₀ Bn W (W.putObj l o) :=
  ⟨(Below.refl _ W).grown (grownBy_putObj' W _ _) (by omega) (fun k e => by cases e; omega), fun _ => World.putObj_heap_other h2⟩
/-- How the body ends. -/
def goesOn (B n₀ Bn : Nat) (I : List α → World → Prop) (xs : List α) (W : World) : Exit → Act → World → Prop
  | .normal, _, W' => KeepsFrom B W W' ∧ Kp n₀ Bn W W' ∧ I xs W'
  | _, _, _ => False
/-- The iterator gives xs, one by one, each in memory that is new (Arg: of blocks from the bound on), to a yield that always goes on. -/
def Gives (F : Fence) (n : Nat) (P : Program) (gf : Nat) (lb : Array Value) (Arg : Nat → α → Array Value → World → Prop) (n₀ Bn : Nat) (xs : List α) (w : World) : Prop :=
  ∀ (l : Nat) (J : List α → World → Prop) (W : World), Below w.heap.size w W →
    (∀ pre x vs W0 W1, J pre W0 → n₀ ≤ W0.heap.size → Bn < W0.heap.size → Below W0.heap.size W0 W1 → Arg W0.heap.size x vs W1 → (∃ t, pre ++ x :: t = xs) → YieldAt F (n - 1) P l vs W1 fun e W' => e = .returned (.bool true) ∧ J (pre ++ [x]) W' ∧ Kp n₀ Bn W1 W') →
    J [] W → CallsIn F n P gf (#[.func (.yield l) #[] #[]] ++ lb) W fun e W' => (∃ v, e = .returned v) ∧ ∃ W0, J xs W0 ∧ Below W0.heap.size W0 W'
theorem loop_all {F : Fence} {n : Nat} {P : Program} {g : Operand} {ps : Array Tmp} {assign body : Code} {Q : Exit → Act → World → Prop} {a : Act} {w : World} (hro : F.round = none) (h1 : 1 ≤ n) {gf : Nat} {lb : Array Value}
    (hg : a.eval g = .func (.func gf) #[] lb) (hFg : F.fn gf) (eg : ∀ args w, (callFunc gf args).run P w = .ok (.enter gf args) w) {Arg : Nat → α → Array Value → World → Prop} {n₀ Bn : Nat} {xs : List α} {w0 : World}
    (hseq : Gives F (n - 1) P gf lb Arg n₀ Bn xs w0) (hb0 : Below w0.heap.size w0 w) (hn : n₀ ≤ w.heap.size) (hBn : Bn < w.heap.size) (hps : ∀ b x vs W, Arg b x vs W → vs.size = ps.size)
    (hArg : ∀ b x vs W l o', Arg b x vs W → l < b → Arg b x vs (W.putObj l o')) (I : List α → World → Prop) (hI : ∀ s W W', I s W → Below W.heap.size W W' → I s W')
    (hput : ∀ s W l o o', I s W → w.heap.size ≤ l → W.heap[l]? = some o → Obj.isCells o = false → I s (W.putObj l o')) (h0 : I [] w) (a₁ : Array Value → Act)
    (hassign : ∀ (l b : Nat) (x : α) (vs : Array Value) (W : World) (K : Act → World → Prop), Arg b x vs W → K (a₁ vs) W → assign.wpIn (F.inRound l) (n - 1 - 1) P (Exit.then K (fun _ _ _ => False)) { tmps := (ps.zip vs).foldl (fun t (p, v) => t.setIfInBounds p v) a.tmps, defers := [] } W)
    (hbody : ∀ (l : Nat) (pre : List α) (x : α) (vs : Array Value) (W0 W : World), I pre W0 → n₀ ≤ W0.heap.size → Bn < W0.heap.size → Below W0.heap.size W0 W → Arg W0.heap.size x vs W → (∃ t, pre ++ x :: t = xs) → body.wpIn (F.inRound l) (n - 1 - 1) P (goesOn w.heap.size n₀ Bn I (pre ++ [x]) W) (a₁ vs) W)
    (hdone : ∀ (D : Nat) (W : World), w.heap.size ≤ D → I xs W → W.heap[D]? = some (.deferred (some [])) → Q .normal { a with defers := { target := .collected D, args := #[] } :: a.defers } W) :
    (Code.rangeFunc g ps assign body).wpIn F n P Q a w := by
  apply wpIn_rangeFunc
  intro fn hfn
  rw [hro]
  let rec_ : LoopState → Loop := fun st => { state := st, pending := none, fn := fn, tmps := a.tmps, params := ps, assign := assign, body := body, defers := w.heap.size }
  let V := w.alloc (.deferred (some []))
  have hVs : V.heap.size = w.heap.size + 1 := World.size_alloc _ _
  let U := V.alloc (.loop (rec_ .ready))
  have hUl : U.heap[w.heap.size + 1]? = some (.loop (rec_ .ready)) := by rw [← hVs]; exact World.alloc_heap_new V _
  have hVd : V.heap[w.heap.size]? = some (.deferred (some [])) := World.alloc_heap_new w _
  have hUd : U.heap[w.heap.size]? = some (.deferred (some [])) := (Below.heap_alloc V _ _ (by rw [hVs]; omega)).trans hVd
  have hwV : Below w.heap.size w V := (Below.refl _ w).alloc (Nat.le_refl _) _
  have hVU : Below V.heap.size V U := (Below.refl _ V).alloc (Nat.le_refl _) _
  have hIU : I [] U := hI _ _ _ (hI _ _ _ h0 hwV) hVU
  have hwU : Below w.heap.size w U := hwV.trans (hVU.mono (by rw [hVs]; omega))
  refine ⟨_, _, _, { target := .fn (.func gf) lb, args := #[.func (.yield (w.heap.size + 1)) #[] #[]] }, U, gf, #[.func (.yield (w.heap.size + 1)) #[] #[]] ++ lb, U, run_enterLoop_outer fn a.tmps ps assign body, ?_, ?_, ?_, fun _ => h1, ?_⟩
  · simp only [resolve, hg]
    simp [go_sem]
    rfl
  · intro f' hf'
    simp [Target.leads] at hf'
    subst hf'
    exact hFg
  · simp [invoke, go_sem, eg]
  refine (hseq (w.heap.size + 1) (fun pre W => I pre W ∧ W.heap[w.heap.size + 1]? = some (.loop (rec_ .ready)) ∧ W.heap[w.heap.size]? = some (.deferred (some []))) U (hb0.trans (hwU.mono hb0.size)) ?_ ⟨hIU, hUl, hUd⟩).mono ?_
  · rintro pre x vs W0 W1 ⟨h, hl0, hd0⟩ hn0 hBn0 hb01 hA hx
    have hlt0 := (Array.getElem?_eq_some_iff.1 hl0).1
    have hl := (hb01.block _ hlt0).trans hl0
    have hd := (hb01.block _ (Array.getElem?_eq_some_iff.1 hd0).1).trans hd0
    have hlt := (Array.getElem?_eq_some_iff.1 hl).1
    refine ⟨_, _, _, _, run_yield (P := P) (args := vs) hl (hps _ _ _ _ hA), roundIn_of_wpIn hfn ?_⟩
    refine hassign _ _ x vs W1 _ hA ?_
    refine ⟨_, run_beginRound hl rfl, ?_⟩
    let X := W1.putObj (w.heap.size + 1) (.loop (rec_ .busy))
    have hXl : X.heap[w.heap.size + 1]? = some (.loop (rec_ .busy)) := World.putObj_heap_same hlt
    have hXd : X.heap[w.heap.size]? = some (.deferred (some [])) := (World.putObj_heap_other (by omega)).trans hd
    have hXb : Kp n₀ Bn W1 X := Kp.put W1 _ _ (by omega) (by omega) hlt
    refine wpIn_mono (hbody (w.heap.size + 1) pre x vs (W0.putObj (w.heap.size + 1) (.loop (rec_ .busy))) X (hput _ _ _ _ _ h (by omega) hl0 rfl) (by rw [putObj_size]; exact hn0) (by rw [putObj_size]; exact hBn0) (below_putBoth _ hb01 hlt0)
      (by rw [putObj_size]; exact hArg _ _ _ _ _ _ hA hlt0) hx) ?_
    intro e a3 Y hY
    cases e with
    | normal =>
      obtain ⟨hk, hbY, hIY⟩ := hY
      have hYl := hk.same _ _ (by omega) hXl rfl
      have hYd := hk.same _ _ (Nat.le_refl _) hXd rfl
      have hlt2 := (Array.getElem?_eq_some_iff.1 hYl).1
      refine ⟨_, _, run_endRound none hYl, rfl, ⟨hput _ _ _ _ _ hIY (by omega) hYl rfl, World.putObj_heap_same hlt2, (World.putObj_heap_other (by omega)).trans hYd⟩, ?_⟩
      exact (hXb.trans hbY).trans (Kp.put Y _ _ (by omega) (by omega) hlt2)
    | _ => exact hY.elim
  · rintro e Y ⟨⟨v, rfl⟩, W0, ⟨hI0, hl0, hd0⟩, hb⟩
    have hIY := hI _ _ _ hI0 hb
    have hYl := (hb.block _ (Array.getElem?_eq_some_iff.1 hl0).1).trans hl0
    have hYd := (hb.block _ (Array.getElem?_eq_some_iff.1 hd0).1).trans hd0
    exact ⟨none, _, run_endLoop hYl (by simp [rec_]), hdone _ _ (Nat.le_refl _) (hput _ _ _ _ _ hIY (by omega) hYl rfl) ((World.putObj_heap_other (by omega)).trans hYd)⟩
end Go.Proofs.YtebfkifhkaeknaaGreatDoor.Range2
/- line.Scan: the iterator. -/
namespace Go.Proofs.YtebfkifhkaeknaaGreatDoor.Hand
open Go.RowKit Go.Shelf Go.Proofs.YtebfkifhkaeknaaGreatDoorW.PrintWords Go.Proofs.YtebfkifhkaeknaaGreatDoor.Range2
attribute [local go_sem] Oper.semAt_some
set_option linter.unusedVariables false
set_option linter.unusedSimpArgs false
/-- The lists of lines that a text begins with, each with where its line ends. -/
def scanG (tot : Nat) : Nat → ByteArray → List (List ByteArray × Int)
  | 0, _ => []
  | f + 1, u => if (takeV u).2.2 = 0 then ((takeV u).1, (tot : Int) - ((takeV u).2.1.size : Int)) :: scanG tot f (takeV u).2.1 else []
def scanP (s : ByteArray) : List (List ByteArray × Int) := scanG s.size (s.size + 1) s
def lastE (l : List (List ByteArray × Int)) : Int := (l.getLast?.map (·.2)).getD 0
theorem take_rest {u : ByteArray} (h : (takeV u).2.2 = 0) : (takeV u).2.1.size < u.size := by
  have hspec := (cut_one 10 u.data.toList).2
  have hul : u.data.toList.length = u.size := by rw [Array.length_toList]; rfl
  unfold takeV at h ⊢
  rcases hspec with ⟨hf, hu⟩ | ⟨hf, hu⟩
  · rw [hf, if_neg (by decide)] at h ⊢
    have hr : ∀ a r : ByteArray, (takeB a r).2.2 = 0 → (takeB a r).2.1 = r := by
      intro a r
      unfold takeB
      split
      · intro h; exact absurd h (by decide)
      · split
        · intro h; exact absurd h (by decide)
        · split
          · intro h; exact absurd h (by decide)
          · split
            · intro _; rfl
            · intro h; exact absurd h (by decide)
    rw [hr _ _ h]
    show (Lib.cut u.data.toList [10]).2.1.toArray.size < u.size
    have := congrArg List.length hu
    rw [hul, List.length_append, List.length_cons] at this
    rw [List.size_toArray]
    omega
  · rw [hf, if_pos rfl] at h
    exact absurd h (by decide)
theorem take_code (u : ByteArray) : 0 ≤ (takeV u).2.2 ∧ (takeV u).2.2 ≤ 14 := by
  unfold takeV
  split
  · decide
  · unfold takeB
    split
    · decide
    · split
      · decide
      · split
        · decide
        · split
          · exact ⟨Int.le_refl _, by show (0 : Int) ≤ 14; decide⟩
          · decide
/-- What the iterator hands to the body: a list in blocks from b on, and where its line ends. -/
def LArg (b : Nat) (x : List ByteArray × Int) (vs : Array Value) (W : World) : Prop := ∃ v, vs = #[v, .int .i64 x.2] ∧ Kd.R Kd.string 9 W b (fun _ => True) v x.1
set_option maxHeartbeats 4000000 in
set_option maxRecDepth 100000 in
theorem scan1_in (l Bn n₀ : Nat) (xs : List (List ByteArray × Int)) (J : List (List ByteArray × Int) → World → Prop) (s : ByteArray) (hs : s.size ≤ 2000000) (W wb : World) (hxs : scanP s = xs) (hGb : Hand2.Glob wb) (hwb : wb.heap.size ≤ n₀)
    (hY : ∀ pre x vs W0 W1, J pre W0 → n₀ ≤ W0.heap.size → Bn < W0.heap.size → Below W0.heap.size W0 W1 → LArg W0.heap.size x vs W1 → (∃ t, pre ++ x :: t = xs) → YieldAt Fence.wide (3 - 1) Tryz.prog l vs W1 fun e W' => e = .returned (.bool true) ∧ J (pre ++ [x]) W' ∧ Kp n₀ Bn W1 W')
    (hn0 : n₀ ≤ W.heap.size) (hbw : Below wb.heap.size wb W) (hBn : W.heap[Bn]? = some (.cells #[.string s] 9 (0, 0))) (h0 : J [] W) :
    CallsIn Fence.wide 3 Tryz.prog 91 #[.func (.yield l) #[] #[], .pointer (some ⟨Bn, 0, none⟩)] W fun e W' => (∃ v, e = .returned v) ∧ ∃ W0, J xs W0 ∧ Below W0.heap.size W0 W' := by
  have HY := Lib.hid hY
  have H0 := Lib.hid h0
  have HX := Lib.hid hxs
  have HGB := Lib.hid hGb
  have HBW := Lib.hid hbw
  have HB := Lib.hid hBn
  have hcB : W.cell? ⟨Bn, 0, none⟩ = some (.string s) := Boxed.cell hBn
  clear hY h0 hxs hGb hbw hBn
  refine callsIn_of_wp Tryz.func91 rfl trivial ?_ rfl
  simp only [Tryz.ntmps91, List.size_toArray, List.length_cons, List.length_nil, Nat.reduceAdd, Nat.reduceSub, Array.replicate_succ, Array.replicate_zero, List.push_toArray, List.append_toArray, List.nil_append, List.cons_append]
  gi_wp2
  clear hcB
  gi_loopw [3] (fun left wr => ∃ (pre : List (List ByteArray × Int)) (u : ByteArray) (W0 : World), left = .string u ∧ u.size ≤ s.size ∧ Hid (J pre W0) ∧ Hid (Below W0.heap.size W0 wr) ∧ n₀ ≤ W0.heap.size ∧ Bn < W0.heap.size ∧ Hid (∃ f, u.size < f ∧ pre ++ scanG s.size f u = xs) ∧ Hid (wr.heap[Bn]? = some (.cells #[.string s] 9 (0, 0))) ∧ Hid (Below wb.heap.size wb wr))
    (fun left wr => sizeOf' left)
  case atStart => exact ⟨[], s, W, rfl, Nat.le_refl _, H0, Below.refl _ _, hn0, Boxed.lt HB.out, ⟨s.size + 1, by omega, by simpa [scanP] using HX.out⟩, HB, HBW⟩
  case round =>
    obtain ⟨pre, u, W0, rfl, hus, hJ, hbw0, hn00, hBn0, hf, hbx, hbb⟩ := hrel
    have hGr := HGB.out.below hbb.out
    have HT := Lib.hid (take_walk u (by omega) wr hGr)
    clear hGr
    have hcode := take_code u
    have hrest : Hid ((takeV u).2.2 = 0 → (takeV u).2.1.size < u.size) := take_rest
    have hsc : Hid (∀ f, scanG s.size (f + 1) u = if (takeV u).2.2 = 0 then ((takeV u).1, (s.size : Int) - ((takeV u).2.1.size : Int)) :: scanG s.size f (takeV u).2.1 else []) := fun f => rfl
    generalize takeV u = p at HT hcode hrest hsc
    obtain ⟨ls, rest, c⟩ := p
    simp only at hcode
    by_cases hc : c = 0
    · subst hc
      have hlt := hrest.out rfl
      have hlt : Hid (rest.size < u.size) := hlt
      have hfx : Hid (∃ f, rest.size < f ∧ (pre ++ [(ls, (s.size : Int) - (rest.size : Int))]) ++ scanG s.size f rest = xs) := by
        obtain ⟨f, h1, h2⟩ := hf.out
        cases f with
        | zero => omega
        | succ f =>
          refine ⟨f, by have := hlt.out; omega, ?_⟩
          rw [hsc.out] at h2
          rw [← h2]
          simp
      have hrs : rest.size ≤ s.size := by have := hlt.out; omega
      clear hcode hrest hsc
      gi_wp2_with (refine ⟨trivial, ?_⟩; gi_at_call 92; refine (callsIn_wide.2 HT.out).mono ?_)
      rintro e w1 ⟨v, rfl, hR, hb⟩
      have hbx1 : w1.heap[Bn]? = some (.cells #[.string s] 9 (0, 0)) := (hb.block _ (Boxed.lt hbx.out)).trans hbx.out
      have hc1 : w1.cell? ⟨Bn, 0, none⟩ = some (.string s) := Boxed.cell hbx1
      have hb01 := hbw0.out.trans (hb.mono hbw0.out.size)
      have hbb1 := Lib.hid (hbb.out.trans (hb.mono hbb.out.size))
      have hA : LArg W0.heap.size (ls, (s.size : Int) - (rest.size : Int)) #[v, .int .i64 ((s.size : Int) - (rest.size : Int))] w1 := ⟨v, rfl, Kd.R_lower hR hbw0.out.size⟩
      have hyy := HY.out pre (ls, (s.size : Int) - (rest.size : Int)) _ W0 w1 hJ.out hn00 hBn0 hb01 hA (by
        obtain ⟨f, -, h2⟩ := hfx.out
        exact ⟨scanG s.size f rest, by rw [← h2]; simp⟩)
      obtain ⟨fn, tmps, assign, body, hy, hRd⟩ := hyy
      have HBX1 := Lib.hid hbx1
      have hb01s := hb01.size
      clear hbx1 hb01 hA hb hR
      gi_wp2
      refine hRd.mono ?_
      rintro e W3 ⟨rfl, hJ3, hk3⟩
      have hJ4 := Lib.hid hJ3
      have hbx3 := Lib.hid ((hk3.box (Boxed.lt HBX1.out)).trans HBX1.out)
      have hn3 : n₀ ≤ W3.heap.size := Nat.le_trans (Nat.le_trans hn00 hb01s) hk3.below.size
      have hbb3 := Lib.hid (hbb1.out.trans (hk3.below.mono hwb))
      clear hJ3 hk3 hy hRd
      gi_wp2
      go_roundw
      case rel => exact ⟨pre ++ [(ls, (s.size : Int) - (rest.size : Int))], rest, W3, rfl, hrs, hJ4, Below.refl _ _, hn3, Boxed.lt hbx3.out, hfx, hbx3, hbb3⟩
      case measure => exact hlt.out
    · have hcn : (c == 0) = false := by simpa using hc
      have hcm : (c != 0) = true := by simpa using hc
      have hfin : Hid (xs = pre) := by
        obtain ⟨f, h1, h2⟩ := hf.out
        cases f with
        | zero => omega
        | succ f =>
          rw [hsc.out, if_neg hc, List.append_nil] at h2
          exact h2.symm
      clear hrest hsc
      gi_wp2_with (refine ⟨trivial, ?_⟩; gi_at_call 92; refine (callsIn_wide.2 HT.out).mono ?_)
      rintro e w1 ⟨v, rfl, hR, hb⟩
      have hb01 := Lib.hid (hbw0.out.trans (hb.mono hbw0.out.size))
      clear hR hb
      gi_wp2
      refine ⟨(fun f h => by cases h), ?_⟩
      gi_wp2
      exact bodyPost_ret (v := .tuple #[]) (by simp [results, Tryz.results91, go_sem]) rfl ⟨⟨_, rfl⟩, W0, by rw [hfin.out]; exact hJ.out, hb01.out⟩
/-- lines$1 gives the lists. -/
theorem scan_gives (Bn n₀ : Nat) (s : ByteArray) (hs : s.size ≤ 2000000) (w wb : World) (hGb : Hand2.Glob wb) (hwb : wb.heap.size ≤ n₀) (hn0 : n₀ ≤ w.heap.size) (hbw : Below wb.heap.size wb w) (hBn : w.heap[Bn]? = some (.cells #[.string s] 9 (0, 0))) :
    Gives Fence.wide 3 Tryz.prog 91 #[.pointer (some ⟨Bn, 0, none⟩)] LArg n₀ Bn (scanP s) w := by
  intro l J W hb hY h0
  exact scan1_in l Bn n₀ _ J s hs W wb rfl hGb hwb hY (Nat.le_trans hn0 hb.size) (hbw.trans (hb.mono hbw.size)) ((hb.block _ (Boxed.lt hBn)).trans hBn) h0
theorem linesP_mk (s : ByteArray) (w : World) : Calls Tryz.prog 70 #[.string s] w fun e w' => e = .returned (.func (.func 91) #[] #[.pointer (some ⟨w.heap.size, 0, none⟩)]) ∧ w' = w.alloc (.cells #[.string s] 9) := by
  go_enter Tryz.func70, Tryz.ntmps70
  go_wp2
  go_ret
  exact ⟨rfl, rfl⟩
theorem enters91 (args : Array Value) (w : World) : (callFunc 91 args).run Tryz.prog w = .ok (.enter 91 args) w := enters_of Tryz.func91 (by kernel_rfl) rfl args w
end Go.Proofs.YtebfkifhkaeknaaGreatDoor.Hand
/- line.Scan. -/
namespace Go.Proofs.YtebfkifhkaeknaaGreatDoor.Hand
open Go.RowKit Go.Shelf Go.Proofs.YtebfkifhkaeknaaGreatDoorW.PrintWords Go.Proofs.YtebfkifhkaeknaaGreatDoor.Range2
attribute [local go_sem] Oper.semAt_some
set_option linter.unusedVariables false
set_option linter.unusedSimpArgs false
abbrev kLL : Kd (List ByteArray) := Kd.slice 9 Kd.string
theorem info23 : (Tryz.prog.info? 33).map (fun i => (i.zero, i.size, i.bytes)) = some (some (.slice none 0 0), 1, 24) := by kernel_rfl
theorem S_other {W W' : World} {b : Nat} {ok : Nat → Prop} {v : Value} {xs : List (List ByteArray)} (h : Kd.S kLL 33 W b ok v xs) {B : Nat} (hB : ∀ cells q, W.heap[B]? = some (.cells cells q (0, 0)) → q ≠ 33 ∧ q ≠ 9)
    (hblk : ∀ k, k ≠ B → k < W.heap.size → W'.heap[k]? = W.heap[k]?) : Kd.S kLL 33 W' b ok v xs := by
  refine Kd.S_mono (Kd.S_step (Kd.S_bound h) ?_) (fun k hk => hk.1)
  rintro k ⟨-, -, hlt, q, hq, cells, hc⟩ -
  refine hblk k ?_ hlt
  rintro rfl
  have h2 := hB cells q hc
  have hq' : q = 33 ∨ q = 9 := by
    have : q ∈ [33, 9] := hq
    simpa using this
  rcases hq' with e | e
  · exact h2.1 e
  · exact h2.2 e
theorem S_boxed {W : World} {b : Nat} {ok : Nat → Prop} {v : Value} {xs : List (List ByteArray)} (h : Kd.S kLL 33 W b ok v xs) {B t : Nat} {x u : Value} (hB : Boxed W B t x) (h1 : t ≠ 33) (h2 : t ≠ 9) : Kd.S kLL 33 (W.setCell ⟨B, 0, none⟩ u) b ok v xs := by
  refine S_other h (B := B) (fun cells q hc => ?_) (fun k hk _ => Below.heap_setCell _ _ _ _ (fun e => hk (by first | exact e | exact e.symm)))
  have hB' : W.heap[B]? = some (.cells #[x] t (0, 0)) := hB
  rw [hB'] at hc
  injection hc with hc
  injection hc with _ hc _
  subst hc
  exact ⟨h1, h2⟩
theorem S_put {W : World} {b : Nat} {ok : Nat → Prop} {v : Value} {xs : List (List ByteArray)} (h : Kd.S kLL 33 W b ok v xs) {l : Nat} {o : Obj} (o' : Obj) (hl : W.heap[l]? = some o) (ho : Obj.isCells o = false) : Kd.S kLL 33 (W.putObj l o') b ok v xs := by
  refine S_other h (B := l) (fun cells q hc => ?_) (fun k hk _ => World.putObj_heap_other hk)
  rw [hl] at hc
  injection hc with hc
  subst hc
  cases ho
theorem boxed_put {W : World} {B t l : Nat} {x : Value} {o : Obj} (o' : Obj) (h : Boxed W B t x) (hl : W.heap[l]? = some o) (ho : Obj.isCells o = false) : Boxed (W.putObj l o') B t x := by
  have hne : B ≠ l := by
    rintro rfl
    have hB' : W.heap[B]? = some (.cells #[x] t (0, 0)) := h
    rw [hB'] at hl
    injection hl with hl
    subst hl
    cases ho
  exact (World.putObj_heap_other hne).trans h
theorem boxed_below {W W' : World} {B t : Nat} {x : Value} (h : Boxed W B t x) (hb : Below W.heap.size W W') : Boxed W' B t x := (hb.block _ h.lt).trans h
/-- What the loop over the lines keeps: the lists (box b), the last end (box b + 1). -/
def SInv (b : Nat) (s : ByteArray) (wb : World) (pre : List (List ByteArray × Int)) (W : World) : Prop :=
  (∃ v, Boxed W b 22 v ∧ Kd.S kLL 33 W b (fun _ => True) v (pre.map (·.1))) ∧ Boxed W (b + 1) 3 (.int .i64 (lastE pre)) ∧ Boxed W (b + 1 + 1) 9 (.string s) ∧ Below b wb W
theorem SInv.below {b : Nat} {s : ByteArray} {wb : World} {pre : List (List ByteArray × Int)} {W W' : World} (h : SInv b s wb pre W) (hb : Below W.heap.size W W') : SInv b s wb pre W' := by
  obtain ⟨⟨v, h1, h2⟩, h3, h5, h4⟩ := h
  exact ⟨⟨v, boxed_below h1 hb, Kd.S_below h2 hb⟩, boxed_below h3 hb, boxed_below h5 hb, h4.trans (hb.mono (by have := h1.lt; omega))⟩
theorem SInv.put {b : Nat} {s : ByteArray} {wb : World} {pre : List (List ByteArray × Int)} {W : World} (h : SInv b s wb pre W) (l : Nat) (o o' : Obj) (hl0 : b ≤ l) (hl : W.heap[l]? = some o) (ho : Obj.isCells o = false) : SInv b s wb pre (W.putObj l o') := by
  obtain ⟨⟨v, h1, h2⟩, h3, h5, h4⟩ := h
  refine ⟨⟨v, boxed_put o' h1 hl ho, S_put h2 o' hl ho⟩, boxed_put o' h3 hl ho, boxed_put o' h5 hl ho, h4.trans ?_⟩
  exact (Below.refl _ W).grown (grownBy_putObj' W _ _) (by have := h1.lt; omega) (fun k e => by cases e; omega)
theorem LArg_put {b : Nat} {x : List ByteArray × Int} {vs : Array Value} {W : World} {l : Nat} {o' : Obj} (h : LArg b x vs W) (hl : l < b) : LArg b x vs (W.putObj l o') := by
  obtain ⟨v, rfl, h⟩ := h
  refine ⟨v, rfl, Kd.R_mono (Kd.R_step (Kd.R_bound h) ?_) (fun _ hk => hk.1)⟩
  rintro k ⟨-, hb, -, -⟩ -
  exact World.putObj_heap_other (by omega)
theorem lastE_snoc (pre : List (List ByteArray × Int)) (x : List ByteArray × Int) : lastE (pre ++ [x]) = x.2 := by simp [lastE]
def scanV (s : ByteArray) : List (List ByteArray) × Int := ((scanP s).map (·.1), lastE (scanP s))
theorem scanG_len (tot : Nat) : ∀ (f : Nat) (u : ByteArray), (scanG tot f u).length ≤ f := by
  intro f
  induction f with
  | zero => intro u; exact Nat.le_refl _
  | succ f ih =>
    intro u
    rw [scanG]
    split
    · rw [List.length_cons]
      have := ih (takeV u).2.1
      omega
    · exact Nat.zero_le _
set_option maxHeartbeats 4000000 in
set_option maxRecDepth 100000 in
theorem scan_walk (s : ByteArray) (hs : s.size ≤ 2000000) (w : World) (hG : Hand2.Glob w) :
    Calls Tryz.prog 43 #[.string s] w fun e w' => ∃ v, e = .returned (.tuple #[v, .int .i64 (scanV s).2]) ∧ Kd.S kLL 33 w' w.heap.size (fun _ => True) v (scanV s).1 ∧ Below w.heap.size w w' := by
  have HG := Lib.hid hG
  have hlen : (scanP s).length ≤ 2000001 := Nat.le_trans (scanG_len _ _ _) (by omega)
  clear hG
  refine (callsIn_wide (n := 4)).1 ?_
  refine callsIn_of_wp_marks Tryz.func43 rfl trivial ?_ rfl
  simp only [Tryz.ntmps43, List.size_toArray, List.length_cons, List.length_nil, Nat.reduceAdd, Nat.reduceSub, Array.replicate_succ, Array.replicate_zero, List.push_toArray, List.append_toArray, List.nil_append, List.cons_append]
  gi_wp2_with (refine ⟨trivial, ?_⟩; gi_at_call 70; refine (callsIn_wide.2 (linesP_mk s _)).mono ?_; rintro e w' ⟨rfl, rfl⟩)
  have hsz : (((w.alloc (.cells #[.slice none 0 0] 22)).alloc (.cells #[.int .i64 0] 3)).alloc (.cells #[.string s] 9)).heap.size = w.heap.size + 3 := by simp
  have hbel : Below w.heap.size w (((w.alloc (.cells #[.slice none 0 0] 22)).alloc (.cells #[.int .i64 0] 3)).alloc (.cells #[.string s] 9)) :=
    (((Below.refl _ _).alloc (Nat.le_refl _) _).alloc (by simp) _).alloc (by simp; omega) _
  have hx0 : Boxed (((w.alloc (.cells #[.slice none 0 0] 22)).alloc (.cells #[.int .i64 0] 3)).alloc (.cells #[.string s] 9)) w.heap.size 22 (.slice none 0 0) := ((Boxed.new w 22 _).alloc _).alloc _
  have hx1 : Boxed (((w.alloc (.cells #[.slice none 0 0] 22)).alloc (.cells #[.int .i64 0] 3)).alloc (.cells #[.string s] 9)) (w.heap.size + 1) 3 (.int .i64 0) := by
    have := (Boxed.new (w.alloc (.cells #[.slice none 0 0] 22)) 3 (.int .i64 0)).alloc (.cells #[.string s] 9)
    simpa using this
  have hx2 : Boxed (((w.alloc (.cells #[.slice none 0 0] 22)).alloc (.cells #[.int .i64 0] 3)).alloc (.cells #[.string s] 9)) (w.heap.size + 1 + 1) 9 (.string s) := by
    have := Boxed.new ((w.alloc (.cells #[.slice none 0 0] 22)).alloc (.cells #[.int .i64 0] 3)) 9 (.string s)
    simpa using this
  generalize ((w.alloc (.cells #[.slice none 0 0] 22)).alloc (.cells #[.int .i64 0] 3)).alloc (.cells #[.string s] 9) = W1 at hsz hbel hx0 hx1 hx2 ⊢
  have HX0 := Lib.hid hx0
  have HX1 := Lib.hid hx1
  have HX2 := Lib.hid hx2
  have HBEL := Lib.hid hbel
  clear hx0 hx1 hx2 hbel
  refine loop_all (xs := scanP s) rfl (by omega) (gf := 91) (lb := #[.pointer (some ⟨w.heap.size + 1 + 1, 0, none⟩)]) rfl trivial enters91 (scan_gives (w.heap.size + 1 + 1) w.heap.size s hs W1 w HG.out (Nat.le_refl _) (by omega) HBEL.out HX2.out) (Below.refl _ _) (by omega) (by omega)
    (fun b x vs W h => by obtain ⟨v, rfl, -⟩ := h; rfl) (fun b x vs W l o' h hl => LArg_put h hl) (SInv w.heap.size s w) (fun _ _ _ h hb => h.below hb) (fun _ _ l o o' h hl ho hc => h.put l o o' (by omega) ho hc)
    ⟨⟨_, HX0.out, Kd.S_nil _ _ _ _ _⟩, HX1.out, HX2.out, HBEL.out⟩
    (fun vs => { tmps := #[.string s, undef, .slice none 0 0, .int .i64 0, .pointer (some ⟨w.heap.size, 0, none⟩), .pointer (some ⟨w.heap.size + 1, 0, none⟩), vs.getD 0 undef, vs.getD 1 undef, .string s,
      .func (.func 91) #[] #[.pointer (some ⟨w.heap.size + 1 + 1, 0, none⟩)], vs.getD 0 undef, vs.getD 1 undef, undef, undef, undef, undef, undef, undef, undef], defers := [] }) ?assign ?body ?done
  case assign =>
    rintro l b x vs W K ⟨v, rfl, hR⟩ hK
    gi_wp2
    exact hK
  case body =>
    rintro l pre x vs W0 W ⟨⟨va, hva0, hS0⟩, hat0, hbs0, hbw0⟩ hn0 hBn0 hb01 ⟨v, rfl, hR⟩ ⟨t, ht⟩
    obtain ⟨Ao, co, ev⟩ := Kd.R_slice hR
    obtain ⟨xn, hxn⟩ : ∃ xn, xn = x.1.length := ⟨_, rfl⟩
    rw [← hxn] at ev
    clear hxn
    subst ev
    have hpl : pre.length + 1 ≤ 2000001 := by
      have := congrArg List.length ht
      simp only [List.length_append, List.length_cons] at this
      omega
    have hva := boxed_below hva0 hb01
    have hat := boxed_below hat0 hb01
    have hS : Kd.S kLL 33 W w.heap.size (fun k => True ∧ ¬ W0.heap.size ≤ k) va (pre.map (·.1)) := Kd.S_below (Kd.S_mono (Kd.S_bound hS0) (fun k hk => ⟨trivial, Nat.not_le.2 hk.2.2.1⟩)) hb01
    have hvo : ∀ k, va.ownBlock = some k → k < W0.heap.size := by
      obtain ⟨f, h0, -⟩ := hS
      exact fun k hk => Nat.not_le.1 (h0 k hk).2
    obtain ⟨f, hf, hTR⟩ := Kd.S_tag hS (pre.map (·.1)).length (fun k => W0.heap.size ≤ k) (fun k hk h2 => h2.2 hk)
    obtain ⟨h0, inner, hown, hr⟩ := Kd.R_mono hTR (fun _ h => h.1)
    have hp : kLL.M W w.heap.size (fun k => W0.heap.size ≤ k) x.1 [.slice Ao xn co] := ⟨_, rfl, Kd.R_lower (Kd.R_mono (Kd.R_bound hR) (fun k hk => hk.2.1)) hn0⟩
    have hn : (pre.map (·.1)).zipIdx.length = pre.length := by rw [List.length_zipIdx, List.length_map]
    rw [hn] at hown
    have hnr1 := hva.not_row (by decide) hown
    have hnr2 := hat.not_row (by decide) hown
    have hbs := boxed_below hbs0 hb01
    have HN3 := Lib.hid (hbs.not_row (by decide) hown)
    have HBS := Lib.hid hbs
    have HVA := Lib.hid hva
    have HAT := Lib.hid hat
    have hcv := hva.cell
    have hsz01 := hb01.size
    have HS := Lib.hid hS
    have HVO := Lib.hid hvo
    have HF := Lib.hid hf
    have HH0 := Lib.hid h0
    have HRR := Lib.hid hr
    have HOWN := Lib.hid hown
    have HP := Lib.hid hp
    have HN1 := Lib.hid hnr1
    have HN2 := Lib.hid hnr2
    have HHN := Lib.hid hn
    have HB01 := Lib.hid hb01
    have HBW := Lib.hid (hbw0.trans (hb01.mono hn0))
    clear hbs0 hbs hva0 hS0 hat0 hbw0 hR ht hva hat hS hvo hTR h0 hr hown hp hn hnr1 hnr2 hf hb01
    obtain ⟨i0, hi, hz0, hz1, hz2⟩ := info_parts info23
    gi_wp2_with (gi_at_builtin; refine wpListIn_append_own_at _ rfl _ _ 22 rfl w.heap.size 33 i0 (.slice none 0 0) 1 24 Tryz.underlying22 hi hz0 hz1 hz2 rfl (by decide) va pre.length inner rfl (HOWN.out.alloc _) ⟨W.heap.size, 0, none⟩ 1 1 [.slice Ao xn co] rfl rfl (cell_one_new _ _ _) (by simp [Value.oneCell']) (by unfold maxLen; omega) (by omega) (by simp; omega) ?_)
    intro v' w2 hown' hgrow hat'
    obtain ⟨g', cap', ev'⟩ := ownsRow_succ hown'
    subst ev'
    have hg : W.grownBy w2 va.ownBlock := World.grownBy.trans (World.grownBy_alloc W _ _) hgrow
    have hat'' : (Value.slice (some ⟨g', 0, none⟩) (pre.length + 1) cap').ownBlock = va.ownBlock ∨ ∃ b, (Value.slice (some ⟨g', 0, none⟩) (pre.length + 1) cap').ownBlock = some b ∧ W.heap.size ≤ b := by
      rcases hat' with h | h
      · exact .inl h
      · exact .inr ⟨_, h, by simp⟩
    have hR2 := Kd.R_appended (d := Kd.tag f kLL) (p := (x.1, (pre.map (·.1)).length)) HH0.out HRR.out (kLL.M_mono (fun k hk => ⟨hk, HF.out k hk⟩) HP.out) (fun k hk => ⟨trivial, fun e => Nat.lt_irrefl _ (Nat.lt_of_lt_of_le (HVO.out k e.symm) hk)⟩) (fun _ _ => trivial) (by rw [HHN.out]; exact hown') hg hat''
    rw [← Kd.zip_snoc] at hR2
    have hS2 : Kd.S kLL 33 w2 w.heap.size (fun _ => True) (.slice (some ⟨g', 0, none⟩) (pre.length + 1) cap') ((pre ++ [x]).map (·.1)) := ⟨f, by rw [List.map_append]; exact hR2⟩
    have hva2 := HVA.out.kept hg HN1.out
    have hat2 := HAT.out.kept hg HN2.out
    have hat3 : Boxed (w2.setCell ⟨w.heap.size, 0, none⟩ (.slice (some ⟨g', 0, none⟩) (pre.length + 1) cap')) (w.heap.size + 1) 3 (.int .i64 (lastE pre)) := hat2.kept (grownBy_setCell' w2 w.heap.size (.slice (some ⟨g', 0, none⟩) (pre.length + 1) cap')) (by simp)
    have hva3 := hva2.set (.slice (some ⟨g', 0, none⟩) (pre.length + 1) cap')
    have hS3 := S_boxed (u := (.slice (some ⟨g', 0, none⟩) (pre.length + 1) cap')) hS2 hva2 (by decide) (by decide)
    have hS4 := Lib.hid (S_boxed (u := .int .i64 x.2) hS3 hat3 (by decide) (by decide))
    have hva4 := Lib.hid (hva3.kept (grownBy_setCell' _ (w.heap.size + 1) (.int .i64 x.2)) (by simp))
    have hat4 := Lib.hid (hat3.set (.int .i64 x.2))
    have hrowc : ∀ (j : Nat) (o : Obj), va.ownBlock = some j → W.heap[j]? = some o → o.isCells = true := by
      intro j o ej hj
      rcases HOWN.out.2 with ⟨rfl, _⟩ | ⟨g, cap, cur, rfl, _, hgb, _⟩
      · simp [Value.ownBlock] at ej
      · obtain rfl : g = j := by simpa [Value.ownBlock] using ej
        rw [hgb] at hj; cases hj; rfl
    have hrowb : ∀ j, va.ownBlock = some j → w.heap.size ≤ j := by
      intro j ej
      rcases HOWN.out.2 with ⟨rfl, _⟩ | ⟨g, cap, cur, rfl, hgb, _⟩
      · simp [Value.ownBlock] at ej
      · obtain rfl : g = j := by simpa [Value.ownBlock] using ej
        exact hgb
    have hKO := Lib.hid (((KeepsOthers.of_grownBy hg hrowc).trans (KeepsOthers.setCell w2 ⟨w.heap.size, 0, none⟩ (.slice (some ⟨g', 0, none⟩) (pre.length + 1) cap'))).trans (KeepsOthers.setCell _ ⟨w.heap.size + 1, 0, none⟩ (.int .i64 x.2)))
    have hlow := Lib.hid ((((Below.refl w.heap.size W).grown hg (by omega) hrowb).setCell (p := ⟨w.heap.size, 0, none⟩) (Nat.le_refl _) (.slice (some ⟨g', 0, none⟩) (pre.length + 1) cap')).setCell (p := ⟨w.heap.size + 1, 0, none⟩) (Nat.le_succ _) (.int .i64 x.2))
    have hc1 := hva2.cell
    have hf1 := hva2.frozen
    have hc2 := hat3.cell
    have hf2 := hat3.frozen
    have hbs2 := Lib.hid (((HBS.out.kept hg HN3.out).kept (grownBy_setCell' w2 w.heap.size (.slice (some ⟨g', 0, none⟩) (pre.length + 1) cap')) (by intro e; injection e with e; omega)).kept (grownBy_setCell' _ (w.heap.size + 1) (.int .i64 x.2)) (by intro e; injection e with e; omega))
    have hgs := Lib.hid hg
    clear hown' hgrow hat' hg hat'' hR2 hS2 hva2 hat2 hat3 hva3 hS3 hrowc hrowb hcv
    gi_wp2
    refine ⟨hKO.out.from _, ⟨hlow.out, fun hlt => ?_⟩, ⟨⟨_, hva4.out, hS4.out⟩, by rw [lastE_snoc]; exact hat4.out, hbs2.out, HBW.out.trans hlow.out⟩⟩
    have h1 : W.heap[w.heap.size + 1 + 1]? = some (.cells #[.string s] 9 (0, 0)) := HBS.out
    rw [h1]
    exact hbs2.out
  case done =>
    rintro D W hD ⟨⟨v, hv, hS⟩, hat, hbs, hb⟩ hK
    obtain ⟨Ao, co, ev⟩ := Kd.R_slice (Kd.S_R hS)
    obtain ⟨xn, hxn⟩ : ∃ xn, xn = ((scanP s).map (·.1)).length := ⟨_, rfl⟩
    rw [← hxn] at ev
    clear hxn
    subst ev
    have hc := hv.cell
    have hc2 := hat.cell
    have hlt := hv.lt
    have HS := Lib.hid hS
    have HBb := Lib.hid hb
    have HK := Lib.hid hK
    obtain ⟨le, hle⟩ : ∃ le, Hid (lastE (scanP s) = le) := ⟨_, Lib.hid rfl⟩
    rw [hle.out] at hc2
    clear hv hat hbs hS hb hK
    gi_wp2
    gi_region
    all_goals gi_wp2
    have hK2 : W.drew.heap[D]? = some (.deferred (some [])) := HK.out
    have hS2 := Kd.S_below HS.out (show Below W.heap.size W W.drew from (Below.refl _ _).drew)
    have hB2 : Below w.heap.size w W.drew := HBb.out.drew
    refine ⟨by simp, .inl ⟨_, _, rfl, run_takeDeferred hK2, ?_⟩⟩
    rw [show (scanV s).2 = le from hle.out]
    refine ⟨_, results_tmp2 (fn := Tryz.f43) rfl _ _ _, _, rfl, S_put hS2 _ hK2 rfl, ?_⟩
    exact hB2.trans ((Below.refl _ _).grown (grownBy_putObj' _ _ _) (by simp; omega) (fun k e => by cases e; omega))
end Go.Proofs.YtebfkifhkaeknaaGreatDoor.Hand
/- Journals, plain. -/
namespace Go.Proofs.YtebfkifhkaeknaaGreatDoor.Fr
open Go.RowKit Go.Proofs.YtebfkifhkaeknaaGreatDoor.F Go.Proofs.YtebfkifhkaeknaaGreatDoorW.PrintWords
open Go.Proofs.YtebfkifhkaeknaaGreatDoor.Hand (putV takeV scanV)
set_option linter.unusedVariables false
set_option linter.unusedSimpArgs false
def besN (n : ByteArray) : ByteArray := n ++ (⟨#[46, 110, 101, 119]⟩ : ByteArray)
theorem besN_size (n : ByteArray) : (besN n).size = n.size + 4 := by unfold besN; rw [ByteArray.size_append]; rfl
def putAllA (acc : ByteArray) : List (List ByteArray) → ByteArray × Int
  | [] => (acc, 0)
  | x :: r => if (putV x).2 = 0 then putAllA (acc ++ (putV x).1) r else (⟨#[]⟩, (putV x).2)
def putAll (l : List (List ByteArray)) : ByteArray × Int := putAllA ⟨#[]⟩ l
/-- Add. -/
def addE (T : TS) (n : ByteArray) (l : List ByteArray) : Int := if pathV (besN n) = false then 1 else if (putV l).2 = 0 then writeE T true n (putV l).1 else (putV l).2
def addT (T : TS) (n : ByteArray) (l : List ByteArray) : TS := if pathV (besN n) = false then T else if (putV l).2 = 0 then writeT T true n (putV l).1 else T
/-- Anew, behind put. -/
def anew1E (T : TS) (n s : ByteArray) : Int := if writeE T false (besN n) s = 0 then renameE (writeT T false (besN n) s) (besN n) n else writeE T false (besN n) s
def anew1T (T : TS) (n s : ByteArray) : TS :=
  if writeE T false (besN n) s = 0 then
    if renameE (writeT T false (besN n) s) (besN n) n = 0 then syncT (renameT (writeT T false (besN n) s) (besN n) n) else removeT (renameT (writeT T false (besN n) s) (besN n) n) (besN n)
  else removeT (writeT T false (besN n) s) (besN n)
def anewE (T : TS) (n : ByteArray) (l : List (List ByteArray)) : Int := if pathV (besN n) = false then 1 else if (putAll l).2 = 0 then anew1E T n (putAll l).1 else (putAll l).2
def anewT (T : TS) (n : ByteArray) (l : List (List ByteArray)) : TS := if pathV (besN n) = false then T else if (putAll l).2 = 0 then anew1T T n (putAll l).1 else T
/-- Read. -/
def readL (T : TS) (n : ByteArray) : List (List ByteArray) := (scanV (readT T n).1).1
def readW (T : TS) (n : ByteArray) : Bool := (scanV (readT T n).1).2 == (((readT T n).1.size : Nat) : Int)
/-- Open. -/
def openE (T : TS) (n : ByteArray) : Int := if pathV (besN n) = false then 1 else if readW (removeT T (besN n)) n = true then 0 else anewE (removeT T (besN n)) n (readL (removeT T (besN n)) n)
def openT (T : TS) (n : ByteArray) : TS := if pathV (besN n) = false then T else if readW (removeT T (besN n)) n = true then syncT (removeT T (besN n)) else anewT (removeT T (besN n)) n (readL (removeT T (besN n)) n)
def openL (T : TS) (n : ByteArray) : List (List ByteArray) := if openE T n = 0 then readL (removeT T (besN n)) n else []
/-! ### what stays -/
theorem write_room (T : TS) (st : Bool) (q s : ByteArray) : (writeT T st q s).room = T.room := by unfold writeT; split <;> rfl
theorem remove_room (T : TS) (q : ByteArray) : (removeT T q).room = T.room := by unfold removeT; split <;> rfl
theorem rename_room (T : TS) (a b : ByteArray) : (renameT T a b).room = T.room := by unfold renameT; split <;> rfl
theorem sync_room (T : TS) : (syncT T).room = T.room := rfl
theorem crash_room (T : TS) (a b : Int) : (crashT T a b).room = T.room := rfl
theorem add_room (T : TS) (n : ByteArray) (l : List ByteArray) : (addT T n l).room = T.room := by
  unfold addT
  split
  · rfl
  · split
    · exact write_room _ _ _ _
    · rfl
theorem anew1_room (T : TS) (n s : ByteArray) : (anew1T T n s).room = T.room := by
  unfold anew1T
  split
  · split
    · rw [sync_room, rename_room, write_room]
    · rw [remove_room, rename_room, write_room]
  · rw [remove_room, write_room]
theorem anew_room (T : TS) (n : ByteArray) (l : List (List ByteArray)) : (anewT T n l).room = T.room := by
  unfold anewT
  split
  · rfl
  · split
    · exact anew1_room _ _ _
    · rfl
theorem open_room (T : TS) (n : ByteArray) : (openT T n).room = T.room := by
  unfold openT
  split
  · rfl
  · split
    · rw [sync_room, remove_room]
    · rw [anew_room, remove_room]
theorem inv_syncT {n : Nat} {T : TS} (h : Inv n T) : Inv n (syncT T) := inv_sync h.room h.clock h.good
theorem lineL_le {l : List ByteArray} (h : (putV l).2 = 0) : (putV l).1.size ≤ 13000 := by
  unfold putV at h ⊢
  split
  · exact Nat.zero_le _
  next h1 =>
    split
    · exact Nat.zero_le _
    next h2 =>
      split
      · exact Nat.zero_le _
      next h3 =>
        show (Hand.lineL l).toArray.size ≤ 13000
        rw [List.size_toArray]
        omega
theorem inv_add {n : Nat} {T : TS} (h : Inv n T) (q : ByteArray) (l : List ByteArray) : Inv (n + 1) (addT T q l) := by
  unfold addT
  split
  · exact h.mono (Nat.le_succ n)
  · split
    next h2 => exact inv_write h true (Nat.le_trans (lineL_le h2) (by decide))
    next => exact h.mono (Nat.le_succ n)
theorem inv_anew1 {n : Nat} {T : TS} (h : Inv n T) (q s : ByteArray) (hs : s.size ≤ 1000000000) : Inv (n + 3) (anew1T T q s) := by
  have h1 := inv_write h false (q := besN q) hs
  unfold anew1T
  split
  · have h2 := inv_rename h1 (besN q) q
    split
    · exact (inv_syncT h2).mono (by omega)
    · exact inv_remove h2 _
  · exact (inv_remove h1 _).mono (by omega)
theorem putAllA_size : ∀ (l : List (List ByteArray)) (acc : ByteArray), (putAllA acc l).1.size ≤ acc.size + 13000 * l.length := by
  intro l
  induction l with
  | nil => intro acc; exact Nat.le_refl _
  | cons x r ih =>
    intro acc
    rw [putAllA]
    split
    next h =>
      have h1 := ih (acc ++ (putV x).1)
      have h2 := lineL_le h
      rw [ByteArray.size_append] at h1
      rw [List.length_cons]
      omega
    next => exact Nat.zero_le _
theorem putAll_size (l : List (List ByteArray)) : (putAll l).1.size ≤ 13000 * l.length := by
  have := putAllA_size l ⟨#[]⟩
  have e : (⟨#[]⟩ : ByteArray).size = 0 := rfl
  unfold putAll
  omega
theorem inv_anew {n : Nat} {T : TS} (h : Inv n T) (q : ByteArray) (l : List (List ByteArray)) (hl : l.length ≤ 70000) : Inv (n + 3) (anewT T q l) := by
  unfold anewT
  split
  · exact h.mono (by omega)
  · split
    · exact inv_anew1 h q _ (by have := putAll_size l; omega)
    · exact h.mono (by omega)
theorem scan_many (s : ByteArray) : (scanV s).1.length ≤ s.size + 1 := by
  unfold scanV
  rw [List.length_map]
  exact Hand.scanG_len _ _ _
theorem read_used (T : TS) (q : ByteArray) : (readT T q).1.size ≤ usedF T.l := by
  unfold readT
  cases e : findF T.l q with
  | none => exact Nat.zero_le _
  | some f => exact text_le (mem_of_find e)
theorem readL_many {n : Nat} {T : TS} (h : Inv n T) (q : ByteArray) : ((readL T q).length : Int) ≤ T.room + 1 := by
  have h1 := scan_many (readT T q).1
  have h2 := read_used T q
  have h3 := h.good.used
  unfold readL
  omega
end Go.Proofs.YtebfkifhkaeknaaGreatDoor.Fr
/- Plain facts of quoted words. -/
namespace Go.Proofs.YtebfkifhkaeknaaGreatDoor.PureR
open Go.RowKit Go.Proofs.YtebfkifhkaeknaaGreatDoorW.PrintWords
open Go.Proofs.YtebfkifhkaeknaaGreatDoor.Hand
open Go.Proofs.YtebfkifhkaeknaaGreatDoor.Fr (plainI)
set_option linter.unusedVariables false
set_option linter.unusedSimpArgs false
theorem len_data (s : ByteArray) : s.data.toList.length = s.size := by rw [Array.length_toList]; rfl
def sign (c : UInt8) : Prop := plainI c.toNat = true ∨ c = 37
theorem hexD_sign (m : Nat) (h : m < 16) : plainI (hexD m).toNat = true := by
  have : ∀ m : Fin 16, plainI (hexD m.1).toNat = true := by decide
  exact this ⟨m, h⟩
theorem quoteB_sign (c : UInt8) : ∀ d ∈ quoteB c, sign d := by
  intro d hd
  unfold quoteB at hd
  have hl := UInt8.toNat_lt c
  split at hd
  · next h =>
    rw [List.mem_singleton.1 hd]
    exact .inl h
  · simp only [List.mem_cons, List.not_mem_nil, or_false] at hd
    rcases hd with rfl | rfl | rfl
    · exact .inr rfl
    · exact .inl (hexD_sign _ (by omega))
    · exact .inl (hexD_sign _ (by omega))
theorem quoteB_pos (c : UInt8) : 1 ≤ (quoteB c).length := by
  unfold quoteB
  split <;> simp
theorem data_app2 (s t : ByteArray) : (s ++ t).data.toList = s.data.toList ++ t.data.toList := by
  simp [ByteArray.data_append, Array.toList_append]
theorem ofNat_to (n : Nat) (h : n < 256) : (UInt8.ofNat n).toNat = n := by simp [UInt8.toNat_ofNat']; omega
theorem hexv_hexD : ∀ r : Fin 16, hexv (hexD r.val) = some r.val := by decide +kernel
theorem plain_no37 {c : UInt8} (h : plainI c.toNat = true) : c ≠ 37 := by
  intro e
  subst e
  exact absurd h (by decide)
theorem ofNat_back (c : UInt8) : UInt8.ofNat (16 * (c.toNat / 16) + c.toNat % 16) = c := by
  apply UInt8.toNat_inj.1
  rw [ofNat_to _ (by have := UInt8.toNat_lt c; omega)]
  omega
theorem decG_quote : ∀ t : List UInt8, decG (t.flatMap quoteB) = some t := by
  intro t
  induction t with
  | nil => exact decG_nil
  | cons c t ih =>
    rw [List.flatMap_cons, quoteB]
    have hc := UInt8.toNat_lt c
    by_cases hp : plainI c.toNat = true
    · rw [if_pos hp, List.singleton_append, decG_plain c _ (plain_no37 hp), ih]
      rfl
    · have h1 := hexv_hexD ⟨c.toNat / 16, by omega⟩
      have h2 := hexv_hexD ⟨c.toNat % 16, by omega⟩
      simp only at h1 h2
      have h3 : hexG 0 [hexD (c.toNat / 16), hexD (c.toNat % 16)] = some (16 * (c.toNat / 16) + c.toNat % 16) := by
        simp only [hexG, h1, h2]
        congr 1
        omega
      rw [if_neg hp]
      simp only [List.cons_append, List.nil_append]
      rw [decG_pct, h3, ih]
      show some (UInt8.ofNat _ :: t) = _
      rw [ofNat_back]
theorem quoteV_data {t : List UInt8} (h : t ≠ []) : (quoteV ⟨t.toArray⟩).data.toList = t.flatMap quoteB := by
  unfold quoteV
  rw [if_neg]
  show ¬ t.toArray.size = 0
  rw [List.size_toArray]
  intro e
  exact h (List.eq_nil_of_length_eq_zero e)
end Go.Proofs.YtebfkifhkaeknaaGreatDoor.PureR
/- Plain facts of lines. -/
namespace Go.Proofs.YtebfkifhkaeknaaGreatDoor.PureL
open Go.RowKit Go.Proofs.YtebfkifhkaeknaaGreatDoor.PureR Go.Proofs.YtebfkifhkaeknaaGreatDoor.Spl
open Go.Proofs.YtebfkifhkaeknaaGreatDoor.Hand
open Go.Proofs.YtebfkifhkaeknaaGreatDoor.Fr (plainI)
set_option linter.unusedVariables false
set_option linter.unusedSimpArgs false
theorem quoteV_empty {s : ByteArray} (h : s.data.toList = []) : quoteV s = ⟨#[37]⟩ := by
  unfold quoteV
  rw [if_pos]
  rw [← len_data, h]
  rfl
theorem quoteV_full {s : ByteArray} (h : s.data.toList ≠ []) : (quoteV s).data.toList = s.data.toList.flatMap quoteB := quoteV_data (t := s.data.toList) h
theorem quoteV_sign (s : ByteArray) : ∀ c ∈ (quoteV s).data.toList, plainI c.toNat = true ∨ c = 37 := by
  intro c hc
  by_cases h : s.data.toList = []
  · rw [quoteV_empty h] at hc
    exact .inr (by simpa using hc)
  · rw [quoteV_full h] at hc
    obtain ⟨d, -, hd⟩ := List.mem_flatMap.1 hc
    exact quoteB_sign d c hd
theorem sign_ne {c : UInt8} (h : plainI c.toNat = true ∨ c = 37) : c ≠ 32 ∧ c ≠ 10 := by
  constructor <;> (rintro rfl; rcases h with h | h <;> exact absurd h (by decide))
theorem unq_quote (s : ByteArray) : unqV (quoteV s) = some s := by
  by_cases h : s.data.toList = []
  · rw [quoteV_empty h]
    have : s = (⟨#[]⟩ : ByteArray) := ba_ext h
    rw [this]
    rfl
  · have hf := quoteV_full h
    have hne : (quoteV s).data.toList ≠ [37] := by
      rw [hf]
      cases hd : s.data.toList with
      | nil => exact absurd hd h
      | cons c t =>
        intro e
        rw [List.flatMap_cons, quoteB] at e
        split at e
        next hp =>
          rw [List.singleton_append] at e
          injection e with e1 e2
          exact plain_no37 hp e1
        next => simp at e
    rw [unqV_of hne (congrArg decG hf), decG_quote]
    show (if s.data.toList ≠ [] ∧ quoteV ⟨s.data.toList.toArray⟩ = quoteV s then some (⟨s.data.toList.toArray⟩ : ByteArray) else none) = some s
    have hs : (⟨s.data.toList.toArray⟩ : ByteArray) = s := ba_ext rfl
    rw [hs, if_pos ⟨h, rfl⟩]
theorem unq_inv {x t : ByteArray} (h : unqV x = some t) : quoteV t = x := by
  unfold unqV at h
  split at h
  next hx =>
    injection h with h
    subst h
    exact ba_ext hx.symm
  next hx =>
    cases hd : decG x.data.toList with
    | none => rw [hd] at h; cases h
    | some l =>
      rw [hd] at h
      have h' : (if l ≠ [] ∧ quoteV ⟨l.toArray⟩ = x then some (⟨l.toArray⟩ : ByteArray) else none) = some t := h
      by_cases hc : l ≠ [] ∧ quoteV ⟨l.toArray⟩ = x
      · rw [if_pos hc] at h'
        injection h' with h'
        subst h'
        exact hc.2
      · rw [if_neg hc] at h'
        cases h'
theorem body_sign (l : List ByteArray) : ∀ c ∈ bodyL l, (plainI c.toNat = true ∨ c = 37) ∨ c = 32 := by
  intro c hc
  obtain ⟨x, -, hx⟩ := List.mem_flatMap.1 hc
  rcases List.mem_append.1 hx with h | h
  · exact .inl (quoteV_sign x c h)
  · exact .inr (by simpa using h)
theorem body_no10 (l : List ByteArray) : ∀ c ∈ bodyL l, c ≠ 10 := by
  intro c hc
  rcases body_sign l c hc with h | h
  · exact (sign_ne h).2
  · rw [h]; decide
theorem body_cons (x : ByteArray) (r : List ByteArray) : bodyL (x :: r) = (quoteV x).data.toList ++ 32 :: bodyL r := by simp [bodyL]
theorem body_map (l : List ByteArray) : bodyL l = ((l.map quoteV).map (·.data.toList)).flatMap (· ++ [32]) := by
  induction l with
  | nil => rfl
  | cons x r ih => rw [body_cons, ih]; simp
theorem body_ne {l : List ByteArray} (h : l ≠ []) : bodyL l ≠ [] := by
  cases l with
  | nil => exact absurd rfl h
  | cons x r => rw [body_cons]; simp
theorem body_split : ∀ l : List ByteArray, l ≠ [] → splG 32 [] (bodyL l).dropLast = l.map (fun x => (quoteV x).data.toList) ∧ (bodyL l).dropLast ++ [32] = bodyL l := by
  intro l
  induction l with
  | nil => intro h; exact absurd rfl h
  | cons x r ih =>
    intro _
    have hq : splG 32 [] (quoteV x).data.toList = [(quoteV x).data.toList] := by
      rw [splG_none 32 _ [] (fun c hc => (sign_ne (quoteV_sign x c hc)).1)]
      rfl
    rw [body_cons]
    cases r with
    | nil =>
      have e : (quoteV x).data.toList ++ 32 :: bodyL [] = (quoteV x).data.toList ++ [32] := rfl
      rw [e, List.dropLast_concat]
      exact ⟨hq, rfl⟩
    | cons y r' =>
      obtain ⟨i1, i2⟩ := ih (by simp)
      have hne := body_ne (l := y :: r') (by simp)
      have e : ((quoteV x).data.toList ++ 32 :: bodyL (y :: r')).dropLast = (quoteV x).data.toList ++ 32 :: (bodyL (y :: r')).dropLast := by
        rw [List.dropLast_append_of_ne_nil (by simp), List.dropLast_cons_of_ne_nil hne]
      rw [e, splG_app, hq, i1]
      refine ⟨rfl, ?_⟩
      rw [List.append_assoc, List.cons_append, i2]
theorem hexd_hex : ∀ d : Fin 16, hexL.contains (SumW.hexd d.val) = true := by decide +kernel
theorem hexList_hex : ∀ n : Nat, ∀ c ∈ SumW.hexList n, hexL.contains c = true := by
  intro n
  induction n using Nat.strongRecOn with
  | ind n ih =>
    intro c hc
    by_cases h : n < 16
    · rw [SumW.hexList_lt h, List.mem_singleton] at hc
      rw [hc]
      exact hexd_hex ⟨n, h⟩
    · rw [SumW.hexList_ge (by omega)] at hc
      rcases List.mem_append.1 hc with hc | hc
      · exact ih (n / 16) (by omega) c hc
      · rw [List.mem_singleton] at hc
        rw [hc]
        exact hexd_hex ⟨n % 16, Nat.mod_lt _ (by decide)⟩
theorem hex8_hex (n : Nat) : ∀ c ∈ (SumW.hex8 n).data.toList, hexL.contains c = true := by
  intro c hc
  exact hexList_hex (n + 4294967296) c (List.mem_of_mem_drop hc)
theorem hex_no10 {c : UInt8} (h : hexL.contains c = true) : c ≠ 10 := by
  rintro rfl
  exact absurd h (by decide)
theorem hex8_len {n : Nat} (h : n < 4294967296) : (SumW.hex8 n).data.toList.length = 8 := by rw [len_data]; exact hex8_size n h
theorem line_len (l : List ByteArray) : (lineL l).length = (bodyL l).length + 9 := by
  unfold lineL
  rw [List.length_append, List.length_append, hex8_len (adlOf_lt _)]
  rfl
theorem index_app (c : UInt8) (r : List UInt8) : ∀ l : List UInt8, c ∉ l → Lib.index (l ++ c :: r) [c] = l.length := by
  intro l
  induction l with
  | nil => intro _; rw [List.nil_append, Lib.index]; simp [List.isPrefixOf]
  | cons b t ih =>
    intro h
    rw [List.mem_cons, not_or] at h
    have hp : ([c] : List UInt8).isPrefixOf (b :: (t ++ c :: r)) = false := by simp [List.isPrefixOf, h.1]
    rw [List.cons_append, Lib.index, hp, ih h.2]
    simp
theorem cut_app (c : UInt8) (l r : List UInt8) (h : c ∉ l) : Lib.cut (l ++ c :: r) [c] = (l, r, true) := by
  unfold Lib.cut
  rw [index_app c r l h, if_pos (by omega)]
  simp
theorem bytes_map (l : List ByteArray) : (l.map (·.data.toList)).map (fun x => (⟨x.toArray⟩ : ByteArray)) = l := by
  rw [List.map_map]
  have : ((fun x : List UInt8 => (⟨x.toArray⟩ : ByteArray)) ∘ fun x : ByteArray => x.data.toList) = id := by
    funext x
    rfl
  rw [this, List.map_id]
theorem put_ok {l : List ByteArray} (h : (putV l).2 = 0) : 1 ≤ l.length ∧ l.length ≤ 40 ∧ (lineL l).length ≤ 13000 ∧ putV l = (⟨(lineL l).toArray⟩, 0) := by
  unfold putV at h ⊢
  split at h
  · exact absurd h (by decide)
  · split at h
    · exact absurd h (by decide)
    · split at h
      · exact absurd h (by decide)
      · next h1 h2 h3 => exact ⟨by omega, by omega, by omega, by rw [if_neg h1, if_neg h2, if_neg h3]⟩
theorem put_of {l : List ByteArray} (h1 : 1 ≤ l.length) (h2 : l.length ≤ 40) (h3 : (lineL l).length ≤ 13000) : putV l = (⟨(lineL l).toArray⟩, 0) := by
  unfold putV
  rw [if_neg (by omega), if_neg (by omega), if_neg (by omega)]
/-- What was put is taken. -/
theorem take_line {l : List ByteArray} (h : (putV l).2 = 0) (r : ByteArray) : takeV ((putV l).1 ++ r) = (l, r, 0) := by
  obtain ⟨h1, h2, h3, h4⟩ := put_ok h
  have hne : l ≠ [] := by intro e; subst e; simp at h1
  obtain ⟨s1, s2⟩ := body_split l hne
  have hll := line_len l
  obtain ⟨D, hD⟩ : ∃ D, (bodyL l).dropLast = D := ⟨_, rfl⟩
  rw [hD] at s1 s2
  clear hD
  have hbl : D.length + 1 = (bodyL l).length := by
    have := congrArg List.length s2
    rw [List.length_append] at this
    exact this
  have h8 := hex8_len (adlOf_lt (bodyL l))
  have hno : (10 : UInt8) ∉ bodyL l ++ (SumW.hex8 (adlOf (bodyL l))).data.toList := by
    intro hm
    rcases List.mem_append.1 hm with hm | hm
    · exact body_no10 l _ hm rfl
    · exact hex_no10 (hex8_hex _ _ hm) rfl
  have hd : ((putV l).1 ++ r).data.toList = (bodyL l ++ (SumW.hex8 (adlOf (bodyL l))).data.toList) ++ 10 :: r.data.toList := by
    rw [h4, data_app2]
    show lineL l ++ r.data.toList = _
    unfold lineL
    simp
  unfold takeV
  rw [hd, cut_app 10 _ _ hno, if_neg (show ¬ (true = false) by decide)]
  show takeB ⟨(bodyL l ++ (SumW.hex8 (adlOf (bodyL l))).data.toList).toArray⟩ ⟨r.data.toList.toArray⟩ = _
  have hr : (⟨r.data.toList.toArray⟩ : ByteArray) = r := rfl
  rw [hr]
  obtain ⟨a, ha⟩ : ∃ a : ByteArray, a = ⟨(bodyL l ++ (SumW.hex8 (adlOf (bodyL l))).data.toList).toArray⟩ := ⟨_, rfl⟩
  rw [← ha]
  have had : a.data.toList = bodyL l ++ (SumW.hex8 (adlOf (bodyL l))).data.toList := by rw [ha]
  have has : a.size = (bodyL l).length + 8 := by rw [← len_data, had, List.length_append, h8]
  have hs9 : a.size - 9 = D.length := by omega
  have hs8 : a.size - 8 = (bodyL l).length := by omega
  have ht9 : a.data.toList.take (a.size - 9) = D := by
    rw [hs9, had]
    rw [← s2, List.append_assoc, List.take_left]
  have ht8 : a.data.toList.take (a.size - 8) = bodyL l := by rw [hs8, had, List.take_left]
  have hd8 : a.data.toList.drop (a.size - 8) = (SumW.hex8 (adlOf (bodyL l))).data.toList := by rw [hs8, had, List.drop_left]
  have h32 : a.data.toList[a.size - 9]? = some 32 := by
    rw [hs9, had]
    rw [← s2, List.append_assoc, List.getElem?_append_right (Nat.le_refl _), Nat.sub_self]
    rfl
  have hform : formB a = true := by
    unfold formB
    rw [h32, hd8]
    simp only [Bool.and_eq_true, decide_eq_true_eq, List.all_eq_true]
    exact ⟨⟨⟨by omega, by omega⟩, trivial⟩, hex8_hex _⟩
  have hw : wordsB a = l.map quoteV := by
    have hwd := words_data a
    rw [show (a.extract 0 (a.size - 9)).data.toList = a.data.toList.take (a.size - 9) by rw [← ext_take], ht9, s1] at hwd
    rw [← bytes_map (wordsB a), hwd, List.map_map]
    rfl
  have hsum : SumW.hex8 (adlOf (a.data.toList.take (a.size - 8))) = a.extract (a.size - 8) a.size := by
    rw [ht8, ← ext_drop, hd8]
  unfold takeB
  rw [hform, if_neg (by decide), hw, if_neg (by rw [List.length_map]; omega), if_neg, if_pos hsum]
  · rw [List.map_map]
    have : ((fun x => (unqV x).getD ⟨#[]⟩) ∘ quoteV) = id := by
      funext x
      rw [Function.comp_apply, unq_quote]
      rfl
    rw [this, List.map_id]
  · rw [List.all_map]
    have : ((fun x => (unqV x).isSome) ∘ quoteV) = fun _ => true := by
      funext x
      rw [Function.comp_apply, unq_quote]
      rfl
    rw [this]
    simp
theorem splG_join (c : UInt8) : ∀ l cur : List UInt8, (splG c cur l).flatMap (· ++ [c]) = cur.reverse ++ l ++ [c] := by
  intro l
  induction l with
  | nil => intro cur; simp [splG]
  | cons b t ih =>
    intro cur
    rw [splG]
    split
    next h =>
      subst h
      rw [List.flatMap_cons, ih]
      simp
    next h =>
      rw [ih]
      simp
/-- What is taken is a line that was put. -/
theorem take_inv {s : ByteArray} (h : (takeV s).2.2 = 0) : (putV (takeV s).1).2 = 0 ∧ (putV (takeV s).1).1 ++ (takeV s).2.1 = s := by
  have hspec := (cut_one 10 s.data.toList).2
  unfold takeV at h ⊢
  split at h
  · exact absurd h (by decide)
  · next hf =>
    rw [if_neg hf]
    have hs : s.data.toList = (Lib.cut s.data.toList [10]).1 ++ 10 :: (Lib.cut s.data.toList [10]).2.1 := by
      rcases hspec with ⟨-, h⟩ | ⟨h, -⟩
      · exact h
      · exact absurd h hf
    obtain ⟨a, ha⟩ : ∃ a : ByteArray, a = ⟨(Lib.cut s.data.toList [10]).1.toArray⟩ := ⟨_, rfl⟩
    obtain ⟨r, hr⟩ : ∃ r : ByteArray, r = ⟨(Lib.cut s.data.toList [10]).2.1.toArray⟩ := ⟨_, rfl⟩
    have had : (Lib.cut s.data.toList [10]).1 = a.data.toList := by rw [ha]
    have hrd : (Lib.cut s.data.toList [10]).2.1 = r.data.toList := by rw [hr]
    rw [← ha, ← hr] at h ⊢
    rw [had, hrd] at hs
    clear ha hr had hrd hspec hf
    unfold takeB at h ⊢
    split at h
    · exact absurd h (by decide)
    · split at h
      · exact absurd h (by decide)
      · split at h
        · exact absurd h (by decide)
        · split at h
          · next h1 h2 h3 h4 =>
            rw [if_neg h1, if_neg h2, if_neg h3, if_pos h4]
            show (putV ((wordsB a).map fun x => (unqV x).getD ⟨#[]⟩)).2 = 0 ∧ (putV ((wordsB a).map fun x => (unqV x).getD ⟨#[]⟩)).1 ++ r = s
            have hform : formB a = true := by simpa using h1
            simp only [formB, Bool.and_eq_true, decide_eq_true_eq] at hform
            obtain ⟨⟨⟨f1, f2⟩, f3⟩, f4⟩ := hform
            have hsome : ∀ x ∈ wordsB a, (unqV x).isSome = true := by
              have : (wordsB a).all (fun x => (unqV x).isSome) = true := by rw [Bool.not_eq_false] at h3; exact h3
              exact List.all_eq_true.1 this
            have hq : ((wordsB a).map fun x => (unqV x).getD ⟨#[]⟩).map quoteV = wordsB a := by
              rw [List.map_map]
              conv => rhs; rw [← List.map_id (wordsB a)]
              refine List.map_congr_left fun x hx => ?_
              obtain ⟨t, ht⟩ := Option.isSome_iff_exists.1 (hsome x hx)
              rw [Function.comp_apply, ht]
              exact unq_inv ht
            have hlen : a.data.toList.length = a.size := len_data a
            have hbody : bodyL ((wordsB a).map fun x => (unqV x).getD ⟨#[]⟩) = a.data.toList.take (a.size - 8) := by
              have e1 : bodyL ((wordsB a).map fun x => (unqV x).getD ⟨#[]⟩) = ((((wordsB a).map fun x => (unqV x).getD ⟨#[]⟩).map quoteV).map (·.data.toList)).flatMap (· ++ [32]) := body_map _
              rw [e1, hq, words_data, splG_join, show (a.extract 0 (a.size - 9)).data.toList = a.data.toList.take (a.size - 9) by rw [← ext_take]]
              have h9 : a.size - 9 < a.data.toList.length := by omega
              rw [List.getElem?_eq_getElem h9] at f3
              rw [show a.size - 8 = (a.size - 9) + 1 by omega, List.take_succ_eq_append_getElem h9, Option.some.inj f3]
              rfl
            have hline : lineL ((wordsB a).map fun x => (unqV x).getD ⟨#[]⟩) = a.data.toList ++ [10] := by
              unfold lineL
              rw [hbody, h4, ← ext_drop]
              show a.data.toList.take (a.size - 8) ++ a.data.toList.drop (a.size - 8) ++ [10] = _
              rw [List.take_append_drop]
            have hwl : 1 ≤ (wordsB a).length := by
              have := congrArg List.length (words_data a)
              rw [List.length_map, splG_len] at this
              omega
            have hput := put_of (l := (wordsB a).map fun x => (unqV x).getD ⟨#[]⟩) (by rw [List.length_map]; exact hwl) (by rw [List.length_map]; omega) (by rw [hline, List.length_append]; simp; omega)
            rw [hput]
            refine ⟨rfl, ba_ext ?_⟩
            rw [data_app2, hs]
            show lineL ((wordsB a).map fun x => (unqV x).getD ⟨#[]⟩) ++ r.data.toList = _
            rw [hline]
            simp
          · exact absurd h (by decide)
end Go.Proofs.YtebfkifhkaeknaaGreatDoor.PureL
/- Plain facts of lines one behind the other. -/
namespace Go.Proofs.YtebfkifhkaeknaaGreatDoor.PureL
open Go.RowKit Go.Proofs.YtebfkifhkaeknaaGreatDoor.PureR Go.Proofs.YtebfkifhkaeknaaGreatDoor.Spl
open Go.Proofs.YtebfkifhkaeknaaGreatDoor.Hand
open Go.Proofs.YtebfkifhkaeknaaGreatDoor.Fr (plainI)
set_option linter.unusedVariables false
set_option linter.unusedSimpArgs false
/-- Lines put one behind the other, and what is behind. -/
def cat : List (List ByteArray) → ByteArray → ByteArray
  | [], r => r
  | l :: t, r => (putV l).1 ++ cat t r
theorem ba_assoc (a b c : ByteArray) : (a ++ b) ++ c = a ++ (b ++ c) := by
  apply ba_ext
  simp [ByteArray.data_append, Array.toList_append]
theorem cat_app (xs ys : List (List ByteArray)) (r : ByteArray) : cat (xs ++ ys) r = cat xs (cat ys r) := by
  induction xs with
  | nil => rfl
  | cons l t ih => show (putV l).1 ++ cat (t ++ ys) r = _; rw [ih]; rfl
theorem cat_behind (xs : List (List ByteArray)) (r q : ByteArray) : cat xs r ++ q = cat xs (r ++ q) := by
  induction xs with
  | nil => rfl
  | cons l t ih => show ((putV l).1 ++ cat t r) ++ q = (putV l).1 ++ cat t (r ++ q); rw [ba_assoc, ih]
theorem scan_step {l : List ByteArray} (h : (putV l).2 = 0) (r : ByteArray) (tot f : Nat) : scanG tot (f + 1) ((putV l).1 ++ r) = (l, (tot : Int) - (r.size : Int)) :: scanG tot f r := by
  rw [scanG, take_line h r, if_pos rfl]
theorem scan_stop {u : ByteArray} (h : (takeV u).2.2 ≠ 0) (tot : Nat) : ∀ f, scanG tot f u = [] := by
  intro f
  cases f with
  | zero => rfl
  | succ f => rw [scanG, if_neg h]
theorem cat_size (xs : List (List ByteArray)) (r : ByteArray) : (cat xs r).size = (cat xs ⟨#[]⟩).size + r.size := by
  have := cat_behind xs ⟨#[]⟩ r
  have e : (⟨#[]⟩ : ByteArray) ++ r = r := ba_ext (by simp [ByteArray.data_append, Array.toList_append])
  rw [e] at this
  rw [← this, ByteArray.size_append]
theorem scan_cat (tot : Nat) (r : ByteArray) (hr : (takeV r).2.2 ≠ 0) : ∀ (xs : List (List ByteArray)) (f : Nat), (∀ l ∈ xs, (putV l).2 = 0) → xs.length ≤ f →
    (scanG tot f (cat xs r)).map (·.1) = xs ∧ (xs ≠ [] → lastE (scanG tot f (cat xs r)) = (tot : Int) - (r.size : Int)) := by
  intro xs
  induction xs with
  | nil =>
    intro f _ _
    rw [cat, scan_stop hr]
    exact ⟨rfl, fun h => absurd rfl h⟩
  | cons l t ih =>
    intro f hx hf
    obtain ⟨f, rfl⟩ : ∃ g, f = g + 1 := ⟨f - 1, by simp at hf; omega⟩
    have hl := hx l (by simp)
    obtain ⟨i1, i2⟩ := ih f (fun y hy => hx y (by simp [hy])) (by simpa using hf)
    rw [cat, scan_step hl]
    refine ⟨by rw [List.map_cons, i1], fun _ => ?_⟩
    cases t with
    | nil =>
      rw [cat, scan_stop hr]
      rfl
    | cons m t' =>
      have i3 := i2 (by simp)
      rw [← i3]
      unfold lastE
      cases hs : scanG tot f (cat (m :: t') r) with
      | nil => rw [hs] at i1; simp at i1
      | cons a b => rw [List.getLast?_cons_cons]
theorem scanV_cat (xs : List (List ByteArray)) (r : ByteArray) (hx : ∀ l ∈ xs, (putV l).2 = 0) (hr : (takeV r).2.2 ≠ 0) : scanV (cat xs r) = (xs, ((cat xs ⟨#[]⟩).size : Int)) := by
  have hsz := cat_size xs r
  have hlen : xs.length ≤ (cat xs r).size + 1 := by
    have : ∀ ys : List (List ByteArray), (∀ l ∈ ys, (putV l).2 = 0) → ys.length ≤ (cat ys ⟨#[]⟩).size := by
      intro ys
      induction ys with
      | nil => intro _; exact Nat.zero_le _
      | cons l t ih =>
        intro h
        have h1 := ih fun y hy => h y (by simp [hy])
        obtain ⟨-, -, -, h4⟩ := put_ok (h l (by simp))
        have h5 : 1 ≤ (putV l).1.size := by
          rw [h4]
          show 1 ≤ (lineL l).toArray.size
          rw [List.size_toArray, line_len]
          omega
        show t.length + 1 ≤ ((putV l).1 ++ cat t ⟨#[]⟩).size
        rw [ByteArray.size_append]
        omega
    have := this xs hx
    omega
  obtain ⟨h1, h2⟩ := scan_cat (cat xs r).size r hr xs ((cat xs r).size + 1) hx hlen
  unfold scanV scanP
  rw [h1]
  congr 1
  cases xs with
  | nil =>
    rw [cat, scan_stop hr]
    rfl
  | cons l t =>
    rw [h2 (by simp), hsz]
    omega
theorem take_no10 {u : ByteArray} (h : ∀ c ∈ u.data.toList, c ≠ 10) : (takeV u).2.2 ≠ 0 := by
  rcases cut_one 10 u.data.toList with ⟨h1, ⟨h2, h3⟩ | ⟨h2, h3⟩⟩
  · exfalso
    rw [h3] at h
    exact h 10 (by simp) rfl
  · unfold takeV
    rw [h2, if_pos rfl]
    decide
theorem putV_size {l : List ByteArray} (h : (putV l).2 = 0) : (putV l).1.size = (lineL l).length := by
  rw [(put_ok h).2.2.2]
  exact List.size_toArray
theorem putV_data {l : List ByteArray} (h : (putV l).2 = 0) : (putV l).1.data.toList = lineL l := by
  rw [(put_ok h).2.2.2]
/-- A part of a line that is put has no line feed, but at its end. -/
theorem line_no10 (l : List ByteArray) : lineL l = (bodyL l ++ (SumW.hex8 (adlOf (bodyL l))).data.toList) ++ [10] ∧ ∀ c ∈ bodyL l ++ (SumW.hex8 (adlOf (bodyL l))).data.toList, c ≠ 10 := by
  refine ⟨rfl, fun c hc => ?_⟩
  rcases List.mem_append.1 hc with h | h
  · exact body_no10 l c h
  · exact hex_no10 (hex8_hex _ c h)
end Go.Proofs.YtebfkifhkaeknaaGreatDoor.PureL
/- What is read of a text, plain. -/
namespace Go.Proofs.YtebfkifhkaeknaaGreatDoor.Fr
open Go.RowKit Go.Proofs.YtebfkifhkaeknaaGreatDoor.F Go.Proofs.YtebfkifhkaeknaaGreatDoorW.PrintWords
open Go.Proofs.YtebfkifhkaeknaaGreatDoor.Hand (putV takeV scanV scanG scanP lastE lineL)
open Go.Proofs.YtebfkifhkaeknaaGreatDoor.PureL (cat cat_app cat_behind cat_size scanV_cat take_inv take_no10 putV_data line_no10 ba_assoc)
set_option linter.unusedVariables false
set_option linter.unusedSimpArgs false
def e0 : ByteArray := ⟨#[]⟩
theorem app_e0 (s : ByteArray) : s ++ e0 = s := ba_eq (by simp [e0, ByteArray.data_append, Array.toList_append])
theorem e0_app (s : ByteArray) : e0 ++ s = s := ba_eq (by simp [e0, ByteArray.data_append, Array.toList_append])
theorem size_e0 {s : ByteArray} (h : s.size = 0) : s = e0 := ba_eq (by
  have : s.data.toList.length = 0 := by rw [Array.length_toList]; exact h
  rw [List.length_eq_zero_iff.1 this]
  rfl)
def Lines (xs : List (List ByteArray)) : Prop := ∀ l ∈ xs, (putV l).2 = 0
/-- A text is the lines of xs, and what is behind: it begins with none. -/
structure Dec (s : ByteArray) (xs : List (List ByteArray)) (r : ByteArray) : Prop where
  ok : Lines xs
  tl : (takeV r).2.2 ≠ 0
  eq : s = cat xs r
theorem take_e0 : (takeV e0).2.2 ≠ 0 := take_no10 (by intro c hc; cases hc)
theorem Dec.scan {s : ByteArray} {xs : List (List ByteArray)} {r : ByteArray} (h : Dec s xs r) : scanV s = (xs, ((cat xs e0).size : Int)) := by
  rw [h.eq]
  exact scanV_cat xs r h.ok h.tl
theorem scanG_inv (tot : Nat) : ∀ (f : Nat) (u : ByteArray), u.size < f → ∃ r, Dec u ((scanG tot f u).map (·.1)) r := by
  intro f
  induction f with
  | zero => intro u h; omega
  | succ f ih =>
    intro u h
    rw [scanG]
    split
    next ht =>
      obtain ⟨h1, h2⟩ := take_inv ht
      have h3 := Hand.take_rest ht
      obtain ⟨r, hr⟩ := ih (takeV u).2.1 (by omega)
      refine ⟨r, ?_, hr.tl, ?_⟩
      · intro l hl
        rw [List.map_cons] at hl
        rcases List.mem_cons.1 hl with rfl | hl
        · exact h1
        · exact hr.ok l hl
      · rw [List.map_cons]
        show u = (putV (takeV u).1).1 ++ cat _ r
        rw [← hr.eq]
        exact h2.symm
    next ht => exact ⟨u, fun l hl => (by cases hl), ht, rfl⟩
theorem scan_dec (s : ByteArray) : ∃ r, Dec s (scanV s).1 r := scanG_inv s.size (s.size + 1) s (Nat.lt_succ_self _)
theorem Dec.uniq {s : ByteArray} {xs ys : List (List ByteArray)} {r q : ByteArray} (h : Dec s xs r) (k : Dec s ys q) : xs = ys := by
  have := h.scan
  rw [k.scan] at this
  exact (congrArg (·.1) this).symm
theorem Dec.size {s : ByteArray} {xs : List (List ByteArray)} {r : ByteArray} (h : Dec s xs r) : s.size = (cat xs e0).size + r.size := by
  rw [h.eq]
  exact cat_size xs r
theorem Dec.whole {s : ByteArray} {xs : List (List ByteArray)} {r : ByteArray} (h : Dec s xs r) : ((scanV s).2 == ((s.size : Nat) : Int)) = decide (r.size = 0) := by
  rw [h.scan]
  have := h.size
  rw [Bool.eq_iff_iff]
  simp only [beq_iff_eq, decide_eq_true_eq]
  omega
theorem dec_cat {xs : List (List ByteArray)} (h : Lines xs) : Dec (cat xs e0) xs e0 := ⟨h, take_e0, rfl⟩
theorem dec_part {xs : List (List ByteArray)} (h : Lines xs) {r : ByteArray} (hr : ∀ c ∈ r.data.toList, c ≠ 10) : Dec (cat xs r) xs r := ⟨h, take_no10 hr, rfl⟩
theorem cat_snoc (xs : List (List ByteArray)) (l : List ByteArray) : cat (xs ++ [l]) e0 = cat xs e0 ++ (putV l).1 := by
  rw [cat_app, cat_behind]
  show cat xs ((putV l).1 ++ e0) = cat xs (e0 ++ (putV l).1)
  rw [app_e0, e0_app]
theorem putAllA_ok : ∀ (xs : List (List ByteArray)) (acc : ByteArray), Lines xs → putAllA acc xs = (acc ++ cat xs e0, 0) := by
  intro xs
  induction xs with
  | nil => intro acc _; rw [putAllA]; show _ = (acc ++ e0, 0); rw [app_e0]
  | cons x t ih =>
    intro acc h
    rw [putAllA, if_pos (h x (List.mem_cons_self ..)), ih _ (fun l hl => h l (List.mem_cons_of_mem _ hl)), ba_assoc]
    rfl
theorem putAll_ok {xs : List (List ByteArray)} (h : Lines xs) : putAll xs = (cat xs e0, 0) := by
  unfold putAll
  have := putAllA_ok xs ⟨#[]⟩ h
  rw [this]
  show (e0 ++ _, _) = _
  rw [e0_app]
theorem putAllA_err : ∀ (xs : List (List ByteArray)) (acc : ByteArray), (putAllA acc xs).2 = 0 → Lines xs := by
  intro xs
  induction xs with
  | nil => intro acc _ l hl; cases hl
  | cons x t ih =>
    intro acc h
    rw [putAllA] at h
    split at h
    next hx =>
      intro l hl
      rcases List.mem_cons.1 hl with rfl | hl
      · exact hx
      · exact ih _ h l hl
    next hx => exact absurd h hx
theorem putAll_lines {xs : List (List ByteArray)} (h : (putAll xs).2 = 0) : Lines xs := putAllA_err _ _ h
theorem putAll_iff (xs : List (List ByteArray)) : (putAll xs).2 = 0 ↔ Lines xs := ⟨putAll_lines, fun h => by rw [putAll_ok h]⟩
theorem scan_lines (s : ByteArray) : Lines (scanV s).1 := by
  obtain ⟨r, h⟩ := scan_dec s
  exact h.ok
theorem scan_put (s : ByteArray) : (putAll (scanV s).1).2 = 0 ∧ (putAll (scanV s).1).1.size ≤ s.size := by
  obtain ⟨r, h⟩ := scan_dec s
  rw [putAll_ok h.ok]
  have := h.size
  exact ⟨rfl, by show (cat _ e0).size ≤ _; omega⟩
theorem inv_open {n : Nat} {T : TS} (h : Inv n T) (q : ByteArray) (hr : T.room ≤ 2000000) : Inv (n + 4) (openT T q) := by
  have h1 := inv_remove h (besN q)
  unfold openT
  split
  · exact h.mono (by omega)
  · split
    · exact (inv_syncT h1).mono (by omega)
    · unfold anewT
      split
      · exact h1.mono (by omega)
      · split
        · refine inv_anew1 h1 q _ ?_
          have h2 := (scan_put (readT (removeT T (besN q)) q).1).2
          have h3 := read_used (removeT T (besN q)) q
          have h4 := h1.good.used
          have h5 := remove_room T (besN q)
          unfold readL
          omega
        · exact h1.mono (by omega)
theorem size_cat_le {xs : List (List ByteArray)} (h : Lines xs) : (cat xs e0).size ≤ 13000 * xs.length := by
  have := putAll_size xs
  rw [putAll_ok h] at this
  exact this
/-- A line of which a part is there: nothing, or it has no line feed, or it is whole. -/
theorem line_cut {l : List ByteArray} (h : (putV l).2 = 0) (m : Nat) : (putV l).1.extract 0 m = (putV l).1 ∨ ∀ c ∈ ((putV l).1.extract 0 m).data.toList, c ≠ 10 := by
  by_cases hm : (putV l).1.size ≤ m
  · left
    apply ba_eq
    have e1 : ((putV l).1.extract 0 m).data.toList = ((putV l).1.data.toList).take m := by
      rw [← Hand.ext_take]
    rw [e1]
    exact List.take_of_length_le (by rw [Array.length_toList]; exact hm)
  · right
    obtain ⟨e1, e2⟩ := line_no10 l
    have e3 := putV_data h
    rw [e1] at e3
    intro c hc
    have e4 : ((putV l).1.extract 0 m).data.toList = ((putV l).1.data.toList).take m := by
      rw [← Hand.ext_take]
    rw [e4, e3] at hc
    have hs : (putV l).1.size = (putV l).1.data.toList.length := by rw [Array.length_toList]; rfl
    rw [e3, List.length_append, List.length_singleton] at hs
    rw [List.take_append_of_le_length (by omega)] at hc
    exact e2 c (List.mem_of_mem_take hc)
end Go.Proofs.YtebfkifhkaeknaaGreatDoor.Fr
/- Journals in a tree with room, plain. -/
namespace Go.Proofs.YtebfkifhkaeknaaGreatDoor.Fr
open Go.RowKit Go.Proofs.YtebfkifhkaeknaaGreatDoor.F Go.Proofs.YtebfkifhkaeknaaGreatDoorW.PrintWords
open Go.Proofs.YtebfkifhkaeknaaGreatDoor.Hand (putV takeV scanV)
open Go.Proofs.YtebfkifhkaeknaaGreatDoor.PureL (cat cat_app cat_behind cat_size)
set_option linter.unusedVariables false
set_option linter.unusedSimpArgs false
theorem read_text (T : TS) (q : ByteArray) : (readT T q).1 = textF T.l q := by
  unfold readT textF
  cases findF T.l q <;> rfl
theorem same_false' {a b : ByteArray} (h : a ≠ b) : sameB a b = false := by
  unfold sameB
  cases e : a.data.toList == b.data.toList with
  | false => rfl
  | true => exact absurd (ba_eq (eq_of_beq e)) h
theorem same_self (a : ByteArray) : sameB a a = true := by unfold sameB; exact beq_self_eq_true _
theorem srt_eq {l k : List Fl} (hl : Srt l) (hk : Srt k) (h : ∀ x, x ∈ l ↔ x ∈ k) : l = k := by
  induction l generalizing k with
  | nil =>
    cases k with
    | nil => rfl
    | cons y r => exact absurd ((h y).2 List.mem_cons_self) (by simp)
  | cons x r ih =>
    cases k with
    | nil => exact absurd ((h x).1 List.mem_cons_self) (by simp)
    | cons y s =>
      obtain ⟨h1, h2⟩ := srt_cons.1 hl
      obtain ⟨h3, h4⟩ := srt_cons.1 hk
      have e : x = y := by
        rcases List.mem_cons.1 ((h x).1 List.mem_cons_self) with e | e
        · exact e
        · rcases List.mem_cons.1 ((h y).2 List.mem_cons_self) with e2 | e2
          · exact e2.symm
          · have a1 := h3 x e
            have a2 := h1 y e2
            exact absurd (ltB_trans a2 a1) (ltB_irrefl _)
      subst e
      congr 1
      refine ih h2 h4 fun z => ?_
      constructor
      · intro hz
        rcases List.mem_cons.1 ((h z).1 (List.mem_cons_of_mem _ hz)) with e | e
        · subst e
          exact absurd (h1 z hz) (ltB_irrefl _)
        · exact e
      · intro hz
        rcases List.mem_cons.1 ((h z).2 (List.mem_cons_of_mem _ hz)) with e | e
        · subst e
          exact absurd (h3 z hz) (ltB_irrefl _)
        · exact e
/-- Names of which none is another one's directory, all of them paths. -/
structure NS (N : List ByteArray) : Prop where
  way : ∀ a ∈ N, ∀ b ∈ N, wayF a b = false
  path : ∀ a ∈ N, pathV a = true
  many : N.length ≤ 100
theorem filter_lt {N : List ByteArray} {a : ByteArray} (h : a ∈ N) : (N.filter fun x => !sameB x a).length < N.length := by
  induction N with
  | nil => cases h
  | cons x t ih =>
    have hle : (t.filter fun x => !sameB x a).length ≤ t.length := List.length_filter_le _ _
    rcases List.mem_cons.1 h with rfl | h
    · rw [List.filter_cons, if_neg (by rw [same_self]; decide), List.length_cons]
      omega
    · have := ih h
      rw [List.filter_cons]
      split
      · rw [List.length_cons, List.length_cons]; omega
      · rw [List.length_cons]; omega
theorem len_names : ∀ (l : List Fl) (N : List ByteArray), Srt l → (∀ f ∈ l, f.f0 ∈ N) → l.length ≤ N.length := by
  intro l
  induction l with
  | nil => intro N _ _; exact Nat.zero_le _
  | cons f r ih =>
    intro N hs hn
    obtain ⟨h1, h2⟩ := srt_cons.1 hs
    have hf := hn f (List.mem_cons_self ..)
    have := ih (N.filter fun x => !sameB x f.f0) h2 fun g hg => by
      rw [List.mem_filter]
      refine ⟨hn g (List.mem_cons_of_mem _ hg), ?_⟩
      have hne : g.f0 ≠ f.f0 := fun e => ltB_irrefl f.f0 (by have := h1 g hg; rw [e] at this; exact this)
      rw [same_false' hne]
      rfl
    have := filter_lt hf
    rw [List.length_cons]
    omega
/-- A tree whose files' names are among N; so many bytes. -/
structure Jn (R : Nat) (N : List ByteArray) (n u : Nat) (T : TS) : Prop where
  inv : Inv n T
  room : T.room = (R : Int)
  rle : R ≤ 2000000
  names : ∀ f ∈ T.l, f.f0 ∈ N
  used : usedF T.l ≤ u
theorem Jn.mono {R : Nat} {N : List ByteArray} {n u n' u' : Nat} {T : TS} (h : Jn R N n u T) (h1 : n ≤ n') (h2 : u ≤ u') : Jn R N n' u' T := ⟨h.inv.mono h1, h.room, h.rle, h.names, Nat.le_trans h.used h2⟩
theorem jn_new {R : Nat} (h1 : 1 ≤ R) (h2 : R ≤ 2000000) (N : List ByteArray) : Jn R N 0 0 (newT R) := ⟨inv_new (by omega) (by omega), rfl, h2, fun f hf => (by cases hf), Nat.le_refl _⟩
section
variable {R : Nat} {N : List ByteArray} {n u : Nat} {T : TS}
theorem Jn.many (h : Jn R N n u T) : T.l.length ≤ N.length := len_names _ _ h.inv.good.srt h.names
theorem Jn.free (hN : NS N) (h : Jn R N n u T) {q : ByteArray} (hq : q ∈ N) (but : ByteArray) : blockT T.l q but = false := by
  unfold blockT
  rw [List.any_eq_false]
  intro f hf
  have h1 := hN.way _ (h.names f hf) _ hq
  have h2 := hN.way _ hq _ (h.names f hf)
  unfold testB
  simp [h1, h2]
theorem Jn.write0 (hN : NS N) (hN2 : N.length ≤ 100) (h : Jn R N n u T) {q : ByteArray} (hq : q ∈ N) (st : Bool) (s : ByteArray) (hu : u + s.size ≤ R) : writeE T st q s = 0 := by
  have h1 := had_le T.l q
  have h2 := h.used
  have hrl := h.rle
  have h3 : sizeT T st q s ≤ hadT T q + s.size ∧ (usedF T.l : Int) - hadT T q + sizeT T st q s ≤ usedF T.l + s.size := by
    unfold sizeT hadT
    split <;> omega
  have h4 := h.many
  have h5 : manyT T q ≤ 101 := by
    unfold manyT
    split <;> omega
  have hh : hadT T q = (textF T.l q).size := rfl
  unfold writeE
  rw [hN.path q hq, if_neg (by decide), if_neg (by omega), h.free hN hq, if_neg (by decide), if_neg]
  unfold fullT
  rw [Bool.or_eq_true, decide_eq_true_eq, decide_eq_true_eq, h.room]
  omega
theorem write_done {st : Bool} {q s : ByteArray} (h : writeE T st q s = 0) : writeT T st q s = doneT T (writeC T st q s) := by
  unfold writeT
  rw [if_pos h]
/-- The text of a file, behind a write. -/
theorem write_text0 (hI : Inv n T) {q s : ByteArray} (h : writeE T false q s = 0) : (writeT T false q s).l = putF T.l ⟨q, s, T.clock + 1⟩ := by rw [write_done h]; rfl
theorem write_text1 (hI : Inv n T) {q s : ByteArray} (h : writeE T true q s = 0) : (writeT T true q s).l = putF T.l ⟨q, textF T.l q ++ s, T.clock + 1⟩ := by rw [write_done h]; rfl
theorem text_put {l : List Fl} (h : Srt l) (f : Fl) : textF (putF l f) f.f0 = f.f1 := by unfold textF; rw [find_put h]
theorem text_put_ne {l : List Fl} (h : Srt l) (f : Fl) {q : ByteArray} (hq : q ≠ f.f0) : textF (putF l f) q = textF l q := by unfold textF; rw [find_put_ne h f hq]
theorem text_drop (l : List Fl) (q : ByteArray) : textF (dropF l q) q = e0 := by unfold textF; rw [find_drop]; rfl
theorem text_drop_ne {l : List Fl} (h : Srt l) {q p : ByteArray} (hq : p ≠ q) : textF (dropF l q) p = textF l p := by unfold textF; rw [find_drop_ne h hq]
theorem Jn.append (hN : NS N) (h : Jn R N n u T) {q s : ByteArray} (hq : q ∈ N) (hu : u + s.size ≤ R) :
    writeE T true q s = 0 ∧ Jn R N (n + 1) (u + s.size) (writeT T true q s) ∧ textF (writeT T true q s).l q = textF T.l q ++ s ∧ (∀ p, p ≠ q → textF (writeT T true q s).l p = textF T.l p ∧ findF (writeT T true q s).l p = findF T.l p) ∧ writeT T true q s = doneT T ⟨2, q, s, T.clock + 1⟩ := by
  have he := h.write0 hN hN.many hq true s hu
  have hl := write_text1 h.inv he
  have hrl := h.rle
  have hsz : s.size ≤ 1000000000 := by omega
  obtain ⟨p1, p2⟩ := put_used h.inv.good.srt ⟨q, textF T.l q ++ s, T.clock + 1⟩
  rw [ByteArray.size_append] at p1
  have hu2 := h.used
  refine ⟨he, ⟨inv_write h.inv true hsz, by rw [write_room, h.room], h.rle, fun f hf => ?_, ?_⟩, ?_, fun p hp => ⟨?_, ?_⟩, ?_⟩
  · rw [hl] at hf
    rcases mem_put.1 hf with rfl | hf
    · exact hq
    · exact h.names f hf.1
  · rw [hl]
    have e : textF T.l ({ f0 := q, f1 := textF T.l q ++ s, f2 := T.clock + 1 } : Fl).f0 = textF T.l q := rfl
    rw [e] at p1
    omega
  · rw [hl]
    exact text_put h.inv.good.srt _
  · rw [hl]
    exact text_put_ne h.inv.good.srt _ hp
  · rw [hl]
    exact find_put_ne h.inv.good.srt _ hp
  · rw [write_done he]
    rfl
theorem remove_if {q : ByteArray} (h : findF T.l q = none) : removeT T q = T := by
  unfold removeT removeE
  rw [h]
  rfl
theorem remove_some {q : ByteArray} (h : (findF T.l q).isSome = true) : removeT T q = doneT T ⟨3, q, ⟨#[]⟩, 0⟩ := by
  unfold removeT removeE
  rw [h]
  rfl
theorem used_drop {l : List Fl} (h : Srt l) (q : ByteArray) : usedF (dropF l q) ≤ usedF l := by
  cases e : findF l q with
  | none => rw [drop_none e]; exact Nat.le_refl _
  | some f => have := (drop_some h e).1; omega
theorem Jn.remove (h : Jn R N n u T) (q : ByteArray) :
    Jn R N (n + 1) u (removeT T q) ∧ (∀ p, p ≠ q → findF (removeT T q).l p = findF T.l p) ∧ findF (removeT T q).l q = none := by
  cases e : findF T.l q with
  | none =>
    rw [remove_if e]
    exact ⟨h.mono (Nat.le_succ n) (Nat.le_refl u), fun p hp => rfl, e⟩
  | some f =>
    have hI := inv_remove h.inv q
    rw [remove_some (by rw [e]; rfl)] at hI ⊢
    have hl : (doneT T ⟨3, q, ⟨#[]⟩, 0⟩).l = dropF T.l q := rfl
    refine ⟨⟨hI, h.room, h.rle, fun g hg => ?_, ?_⟩, fun p hp => ?_, ?_⟩
    · rw [hl] at hg
      exact h.names g (mem_drop.1 hg).1
    · rw [hl]
      exact Nat.le_trans (used_drop h.inv.good.srt q) h.used
    · rw [hl]
      exact find_drop_ne h.inv.good.srt hp
    · rw [hl]
      exact find_drop _ _
theorem Jn.sync (h : Jn R N n u T) : Jn R N n u (syncT T) := ⟨inv_syncT h.inv, h.room, h.rle, h.names, h.used⟩
theorem text_find {l k : List Fl} {q : ByteArray} (h : findF l q = findF k q) : textF l q = textF k q := by unfold textF; rw [h]
/-- Written anew. -/
theorem Jn.anew1 (hN : NS N) (h : Jn R N n u T) {q s : ByteArray} (hq : q ∈ N) (hb : besN q ∈ N) (hne : besN q ≠ q) (hu : u + s.size ≤ R) :
    anew1E T q s = 0 ∧ Jn R N (n + 3) (u + s.size) (anew1T T q s) ∧ textF (anew1T T q s).l q = s ∧ findF (anew1T T q s).l (besN q) = none ∧ (∀ p, p ≠ q → p ≠ besN q → findF (anew1T T q s).l p = findF T.l p) ∧
      (anew1T T q s).ch = [] ∧ (anew1T T q s).last = (anew1T T q s).l ∧ writeE T false (besN q) s = 0 ∧ renameE (writeT T false (besN q) s) (besN q) q = 0 ∧ anew1T T q s = syncT (doneT (doneT T ⟨1, besN q, s, T.clock + 1⟩) ⟨4, besN q, q, 0⟩) := by
  have he := h.write0 hN hN.many hb false s hu
  have hrl := h.rle
  have hI := inv_write h.inv false (q := besN q) (s := s) (by omega)
  have hl := write_text0 h.inv he
  have hsrt := h.inv.good.srt
  have hJ1 : Jn R N (n + 1) (u + s.size) (writeT T false (besN q) s) := by
    refine ⟨hI, by rw [write_room, h.room], h.rle, fun f hf => ?_, ?_⟩
    · rw [hl] at hf
      rcases mem_put.1 hf with rfl | hf
      · exact hb
      · exact h.names f hf.1
    · rw [hl]
      have p1 := (put_used hsrt ⟨besN q, s, T.clock + 1⟩).1
      have := h.used
      simp only at p1
      omega
  have hf1 : findF (writeT T false (besN q) s).l (besN q) = some ⟨besN q, s, T.clock + 1⟩ := by
    rw [hl]
    exact find_put hsrt ⟨besN q, s, T.clock + 1⟩
  have hblk := hJ1.free hN hq (besN q)
  have hre : renameE (writeT T false (besN q) s) (besN q) q = 0 := by
    unfold renameE
    rw [hf1, hN.path q hq, same_false' hne, hblk]
    rfl
  have hrt : renameT (writeT T false (besN q) s) (besN q) q = doneT (writeT T false (besN q) s) ⟨4, besN q, q, 0⟩ := by
    unfold renameT
    rw [if_pos ⟨by rw [hf1]; rfl, hN.path q hq, same_false' hne, hblk⟩]
  have hrl : (renameT (writeT T false (besN q) s) (besN q) q).l = putF (dropF (writeT T false (besN q) s).l (besN q)) ⟨q, s, T.clock + 1⟩ := by
    rw [hrt]
    show afterF _ ⟨4, besN q, q, 0⟩ = _
    show (match findF (writeT T false (besN q) s).l (besN q) with | none => _ | some f => _) = _
    rw [hf1]
  have hI2 := inv_rename hI (besN q) q
  have hsd := srt_drop hI.good.srt (besN q)
  have hds : dropF (writeT T false (besN q) s).l (besN q) = dropF T.l (besN q) := by
    rw [hl]
    have key : ∀ x, x ∈ dropF (putF T.l ⟨besN q, s, T.clock + 1⟩) (besN q) ↔ x ∈ dropF T.l (besN q) := fun x => by
      rw [mem_drop, mem_drop, mem_put]
      constructor
      · rintro ⟨rfl | h1, h2⟩
        · exact absurd rfl h2
        · exact ⟨h1.1, h2⟩
      · rintro ⟨h1, h2⟩
        exact ⟨.inr ⟨h1, h2⟩, h2⟩
    exact srt_eq (srt_drop (srt_put hsrt _) _) (srt_drop hsrt _) key
  have ha : anew1T T q s = syncT (renameT (writeT T false (besN q) s) (besN q) q) := by
    unfold anew1T
    rw [if_pos he, if_pos hre]
  have hal : (anew1T T q s).l = putF (dropF T.l (besN q)) ⟨q, s, T.clock + 1⟩ := by
    rw [ha, ← hds]
    exact hrl
  have hsd0 := srt_drop hsrt (besN q)
  refine ⟨by unfold anew1E; rw [if_pos he]; exact hre, ⟨inv_anew1 h.inv q s (by omega), by rw [anew1_room, h.room], h.rle, fun f hf => ?_, ?_⟩, ?_, ?_, fun p hp hp2 => ?_, by rw [ha]; rfl, by rw [ha]; rfl, he, hre, by rw [ha, hrt, write_done he]; rfl⟩
  · rw [hal] at hf
    rcases mem_put.1 hf with rfl | hf
    · exact hq
    · exact h.names f (mem_drop.1 hf.1).1
  · rw [hal]
    have p1 := (put_used hsd0 ⟨q, s, T.clock + 1⟩).1
    have p2 := used_drop hsrt (besN q)
    have := h.used
    simp only at p1
    omega
  · rw [hal]
    exact text_put hsd0 ⟨q, s, T.clock + 1⟩
  · rw [hal, find_put_ne hsd0 ⟨q, s, T.clock + 1⟩ hne]
    exact find_drop _ _
  · rw [hal, find_put_ne hsd0 ⟨q, s, T.clock + 1⟩ hp]
    exact find_drop_ne hsrt hp2
end
end Go.Proofs.YtebfkifhkaeknaaGreatDoor.Fr
/- Journals behind a crash, plain. -/
namespace Go.Proofs.YtebfkifhkaeknaaGreatDoor.Fr
open Go.RowKit Go.Proofs.YtebfkifhkaeknaaGreatDoor.F Go.Proofs.YtebfkifhkaeknaaGreatDoorW.PrintWords
open Go.Proofs.YtebfkifhkaeknaaGreatDoor.Hand (putV takeV scanV)
open Go.Proofs.YtebfkifhkaeknaaGreatDoor.PureL (cat cat_app cat_behind cat_size)
set_option linter.unusedVariables false
set_option linter.unusedSimpArgs false
/-- The records of a journal among those that were added to some. -/
def sel (q : ByteArray) : List (ByteArray × List ByteArray) → List (List ByteArray)
  | [] => []
  | y :: r => if y.1 = q then y.2 :: sel q r else sel q r
theorem sel_app (q : ByteArray) (a b : List (ByteArray × List ByteArray)) : sel q (a ++ b) = sel q a ++ sel q b := by
  induction a with
  | nil => rfl
  | cons y r ih =>
    rw [List.cons_append, sel, sel, ih]
    split <;> rfl
theorem sel_lines {q : ByteArray} {ys : List (ByteArray × List ByteArray)} (h : ∀ y ∈ ys, (putV y.2).2 = 0) : Lines (sel q ys) := by
  induction ys with
  | nil => intro l hl; cases hl
  | cons y r ih =>
    have i := ih fun z hz => h z (List.mem_cons_of_mem _ hz)
    intro l hl
    rw [sel] at hl
    split at hl
    · rcases List.mem_cons.1 hl with rfl | hl
      · exact h y (List.mem_cons_self ..)
      · exact i l hl
    · exact i l hl
/-- Changes that add these records. -/
def ChOf (ys : List (ByteArray × List ByteArray)) (cs : List Cg) : Prop := cs.map (fun c => (c.f0, c.f1, c.f2)) = ys.map (fun y => ((2 : Int), y.1, (putV y.2).1))
theorem ChOf.nil : ChOf [] [] := rfl
theorem ChOf.snoc {ys : List (ByteArray × List ByteArray)} {cs : List Cg} (h : ChOf ys cs) (q : ByteArray) (l : List ByteArray) (t : Int) : ChOf (ys ++ [(q, l)]) (cs ++ [⟨2, q, (putV l).1, t⟩]) := by
  unfold ChOf at h ⊢
  rw [List.map_append, List.map_append, h]
  rfl
theorem ChOf.len {ys : List (ByteArray × List ByteArray)} {cs : List Cg} (h : ChOf ys cs) : cs.length = ys.length := by
  have := congrArg List.length h
  rwa [List.length_map, List.length_map] at this
theorem ChOf.take {ys : List (ByteArray × List ByteArray)} {cs : List Cg} (h : ChOf ys cs) (k : Nat) : ChOf (ys.take k) (cs.take k) := by
  unfold ChOf at h ⊢
  rw [List.map_take, List.map_take, h]
theorem ChOf.cons {y : ByteArray × List ByteArray} {ys : List (ByteArray × List ByteArray)} {cs : List Cg} (h : ChOf (y :: ys) cs) : ∃ c r, cs = c :: r ∧ c.f0 = 2 ∧ c.f1 = y.1 ∧ c.f2 = (putV y.2).1 ∧ ChOf ys r := by
  cases cs with
  | nil => cases h
  | cons c r =>
    have h : (c.f0, c.f1, c.f2) :: r.map _ = _ :: ys.map _ := h
    injection h with h1 h2
    injection h1 with a1 h1
    injection h1 with a2 a3
    exact ⟨c, r, rfl, a1, a2, a3, h2⟩
theorem ChOf.at {ys : List (ByteArray × List ByteArray)} {cs : List Cg} (h : ChOf ys cs) {k : Nat} (hk : k < ys.length) : ∃ c, cs[k]? = some c ∧ c.f0 = 2 ∧ c.f1 = ys[k].1 ∧ c.f2 = (putV ys[k].2).1 := by
  have hl : k < cs.length := by rw [h.len]; exact hk
  have e : (cs.map (fun c => (c.f0, c.f1, c.f2)))[k]? = (ys.map (fun y => ((2 : Int), y.1, (putV y.2).1)))[k]? := congrArg (·[k]?) h
  rw [List.getElem?_map, List.getElem?_map, List.getElem?_eq_getElem hl, List.getElem?_eq_getElem hk] at e
  injection e with e
  injection e with a1 e
  injection e with a2 a3
  exact ⟨cs[k], List.getElem?_eq_getElem hl, a1, a2, a3⟩
theorem after_text {l : List Fl} (hs : Srt l) {c : Cg} (hc : c.f0 = 2) (q : ByteArray) : textF (afterF l c) q = textF l q ++ (if c.f1 = q then c.f2 else e0) := by
  have e : afterF l c = putF l ⟨c.f1, textF l c.f1 ++ c.f2, c.f3⟩ := by
    unfold afterF
    rw [if_neg (by omega), if_pos hc]
  rw [e]
  by_cases h : c.f1 = q
  · subst h
    rw [if_pos rfl]
    exact text_put hs ⟨c.f1, textF l c.f1 ++ c.f2, c.f3⟩
  · rw [if_neg h, app_e0]
    exact text_put_ne hs ⟨c.f1, textF l c.f1 ++ c.f2, c.f3⟩ (fun e => h e.symm)
theorem fold_text (q : ByteArray) : ∀ (ys : List (ByteArray × List ByteArray)) (cs : List Cg) (l : List Fl) (xs : List (List ByteArray)), Srt l → ChOf ys cs → textF l q = cat xs e0 → textF (foldF l cs) q = cat (xs ++ sel q ys) e0 := by
  intro ys
  induction ys with
  | nil =>
    intro cs l xs hs h hx
    have : cs = [] := List.length_eq_zero_iff.1 h.len
    subst this
    rw [sel, List.append_nil]
    exact hx
  | cons y r ih =>
    intro cs l xs hs h hx
    obtain ⟨c, cr, rfl, h0, h1, h2, h3⟩ := h.cons
    have ht := after_text hs h0 q
    show textF (foldF (afterF l c) cr) q = _
    rw [h1, h2, hx] at ht
    rw [sel]
    by_cases e : y.1 = q
    · rw [if_pos e, ← cat_snoc] at ht
      rw [if_pos e, ih cr _ (xs ++ [y.2]) (srt_after hs c) h3 ht, List.append_assoc]
      rfl
    · rw [if_neg e, app_e0] at ht
      rw [if_neg e]
      exact ih cr _ xs (srt_after hs c) h3 ht
theorem fold_srt : ∀ (cs : List Cg) (l : List Fl), Srt l → Srt (foldF l cs) := by
  intro cs
  induction cs with
  | nil => intro l h; exact h
  | cons c r ih => intro l h; exact ih _ (srt_after h c)
theorem cut_cases {l : List ByteArray} (h : (putV l).2 = 0) (part : Int) (hp : 1 ≤ part) : (cutS (putV l).1 part = (putV l).1 ∧ ((putV l).1.size : Int) ≤ part) ∨ ∀ c ∈ (cutS (putV l).1 part).data.toList, c ≠ 10 := by
  unfold cutS
  rw [if_neg (by omega)]
  by_cases hs : ((putV l).1.size : Int) ≤ part
  · left
    refine ⟨?_, hs⟩
    have e : (min part (((putV l).1.size : Nat) : Int)).toNat = (putV l).1.size := by omega
    rw [e]
    exact ByteArray.extract_zero_size
  · rcases line_cut h (min part (((putV l).1.size : Nat) : Int)).toNat with e | e
    · exfalso
      have := congrArg ByteArray.size e
      rw [ByteArray.size_extract] at this
      omega
    · exact .inr e
/-- Behind a crash each journal has its first records, and perhaps a torn one. -/
theorem crash_dec {T : TS} {ys : List (ByteArray × List ByteArray)} (hs : Srt T.last) (hc : ChOf ys T.ch) (hy : ∀ y ∈ ys, (putV y.2).2 = 0) (many part : Int) :
    ∃ j, keptN many ys.length ≤ j ∧ j ≤ ys.length ∧ (j = keptN many ys.length ∨ ∃ h : keptN many ys.length < ys.length, ((putV ys[keptN many ys.length].2).1.size : Int) ≤ part) ∧ ∀ q xs, textF T.last q = cat xs e0 → Lines xs → ∃ r, Dec (textF (crashT T many part).l q) (xs ++ sel q (ys.take j)) r := by
  have hk : keptN many ys.length ≤ ys.length := by unfold keptN; omega
  have hl : (crashT T many part).l = crashL T many part := rfl
  have hfold : ∀ (k : Nat) q xs, textF T.last q = cat xs e0 → textF (foldF T.last (T.ch.take k)) q = cat (xs ++ sel q (ys.take k)) e0 := fun k q xs h => fold_text q (ys.take k) _ _ xs hs (hc.take k) h
  have hyk : ∀ (k : Nat) q, Lines (sel q (ys.take k)) := fun k q => sel_lines fun y h => hy y (List.mem_of_mem_take h)
  have happ : ∀ {xs : List (List ByteArray)} (k : Nat) (q : ByteArray), Lines xs → Lines (xs ++ sel q (ys.take k)) := fun k q h l hm => (List.mem_append.1 hm).elim (h l) (hyk k q l)
  rw [hl]
  unfold crashL
  rw [hc.len]
  generalize keptN many ys.length = k at hk
  simp only
  by_cases hlt : k < ys.length
  · obtain ⟨c, e1, c0, c1, c2⟩ := hc.at hlt
    rw [e1]
    simp only
    by_cases hp : c.f0 ≤ 2 ∧ 1 ≤ part
    · rw [if_pos hp]
      have hz := hy _ (List.getElem_mem hlt)
      have hsr := fold_srt (T.ch.take k) _ hs
      have hcut0 : (cutC c part).f0 = 2 := c0
      have hcut1 : (cutC c part).f1 = ys[k].1 := c1
      have hcut2 : (cutC c part).f2 = cutS (putV ys[k].2).1 part := by rw [← c2]; rfl
      have htk : ys.take (k + 1) = ys.take k ++ [ys[k]] := List.take_succ_eq_append_getElem hlt
      rcases cut_cases hz part hp.2 with hw | hw
      · refine ⟨k + 1, by omega, hlt, .inr ⟨hlt, hw.2⟩, fun q xs hx hxs => ⟨e0, ?_⟩⟩
        have ht := after_text hsr hcut0 q
        rw [hfold k q xs hx, hcut1, hcut2, hw.1] at ht
        rw [ht, htk, sel_app]
        have e3 : sel q [ys[k]] = if ys[k].1 = q then [ys[k].2] else [] := by
          rw [sel, sel]
        rw [e3]
        have hall := happ (k + 1) q hxs
        rw [htk, sel_app, e3] at hall
        split
        next hq =>
          rw [if_pos hq] at hall
          rw [← List.append_assoc] at hall ⊢
          rw [← cat_snoc]
          exact dec_cat hall
        next hq =>
          rw [if_neg hq] at hall
          rw [List.append_nil] at hall ⊢
          rw [app_e0]
          exact dec_cat hall
      · refine ⟨k, Nat.le_refl _, hk, .inl rfl, fun q xs hx hxs => ?_⟩
        have ht := after_text hsr hcut0 q
        rw [hfold k q xs hx, hcut1, hcut2] at ht
        rw [ht]
        by_cases hq : ys[k].1 = q
        · rw [if_pos hq, cat_behind, e0_app]
          exact ⟨_, dec_part (happ k q hxs) hw⟩
        · rw [if_neg hq, app_e0]
          exact ⟨e0, dec_cat (happ k q hxs)⟩
    · rw [if_neg hp]
      exact ⟨k, Nat.le_refl _, hk, .inl rfl, fun q xs hx hxs => ⟨e0, by rw [hfold k q xs hx]; exact dec_cat (happ k q hxs)⟩⟩
  · have e1 : T.ch[k]? = none := List.getElem?_eq_none (by rw [hc.len]; omega)
    rw [e1]
    exact ⟨k, Nat.le_refl _, hk, .inl rfl, fun q xs hx hxs => ⟨e0, by rw [hfold k q xs hx]; exact dec_cat (happ k q hxs)⟩⟩
end Go.Proofs.YtebfkifhkaeknaaGreatDoor.Fr
/- Journals that are added to, synced, opened, plain. -/
namespace Go.Proofs.YtebfkifhkaeknaaGreatDoor.Fr
open Go.RowKit Go.Proofs.YtebfkifhkaeknaaGreatDoor.F Go.Proofs.YtebfkifhkaeknaaGreatDoorW.PrintWords
open Go.Proofs.YtebfkifhkaeknaaGreatDoor.Hand (putV takeV scanV)
open Go.Proofs.YtebfkifhkaeknaaGreatDoor.PureL (cat cat_app cat_behind cat_size)
set_option linter.unusedVariables false
set_option linter.unusedSimpArgs false
/-- X: what the journals had at the last sync; ys: what was added since. -/
structure Jl (R : Nat) (N : List ByteArray) (n u : Nat) (T : TS) (X : ByteArray → List (List ByteArray)) (ys : List (ByteArray × List ByteArray)) : Prop where
  jn : Jn R N n u T
  last : ∀ q, textF T.last q = cat (X q) e0
  srt : Srt T.last
  xl : ∀ q, Lines (X q)
  ch : ChOf ys T.ch
  yl : ∀ y ∈ ys, (putV y.2).2 = 0
section
variable {R : Nat} {N : List ByteArray} {n u : Nat} {T : TS} {X : ByteArray → List (List ByteArray)} {ys : List (ByteArray × List ByteArray)}
theorem jl_new {R : Nat} (h1 : 1 ≤ R) (h2 : R ≤ 2000000) (N : List ByteArray) : Jl R N 0 0 (newT R) (fun _ => []) [] := ⟨jn_new h1 h2 N, fun q => rfl, List.Pairwise.nil, fun q l hl => (by cases hl), rfl, fun y hy => (by cases hy)⟩
theorem Jl.mono {n' u' : Nat} (h : Jl R N n u T X ys) (h1 : n ≤ n') (h2 : u ≤ u') : Jl R N n' u' T X ys := { h with jn := h.jn.mono h1 h2 }
theorem Jl.lines (h : Jl R N n u T X ys) (q : ByteArray) : Lines (X q ++ sel q ys) := fun l hl => (List.mem_append.1 hl).elim (h.xl q l) (sel_lines h.yl l)
theorem Jl.now (h : Jl R N n u T X ys) (q : ByteArray) : textF T.l q = cat (X q ++ sel q ys) e0 := by
  rw [← h.jn.inv.fold]
  exact fold_text q ys _ _ (X q) h.srt h.ch (h.last q)
theorem Jl.dec (h : Jl R N n u T X ys) (q : ByteArray) : Dec (textF T.l q) (X q ++ sel q ys) e0 := by
  rw [h.now q]
  exact dec_cat (h.lines q)
theorem Jl.add (hN : NS N) (h : Jl R N n u T X ys) {q : ByteArray} (hq : q ∈ N) (hb : besN q ∈ N) {l : List ByteArray} (hl : (putV l).2 = 0) {b : Nat} (hs : (putV l).1.size ≤ b) (hu : u + b ≤ R) :
    addE T q l = 0 ∧ Jl R N (n + 1) (u + b) (addT T q l) X (ys ++ [(q, l)]) ∧ (addT T q l).last = T.last := by
  obtain ⟨a1, a2, a3, a4, a5⟩ := h.jn.append hN (q := q) (s := (putV l).1) hq (by omega)
  have e1 : addE T q l = 0 := by
    unfold addE
    rw [hN.path _ hb, if_neg (by decide), if_pos hl, a1]
  have e2 : addT T q l = writeT T true q (putV l).1 := by
    unfold addT
    rw [hN.path _ hb, if_neg (by decide), if_pos hl]
  rw [e2]
  refine ⟨e1, ⟨a2.mono (Nat.le_refl _) (by omega), ?_, ?_, h.xl, ?_, ?_⟩, ?_⟩
  · rw [a5]
    exact h.last
  · rw [a5]
    exact h.srt
  · rw [a5]
    exact h.ch.snoc q l _
  · intro y hy
    rcases List.mem_append.1 hy with hy | hy
    · exact h.yl y hy
    · rw [List.mem_singleton.1 hy]
      exact hl
  · rw [a5]
    rfl
theorem add_bad {q : ByteArray} {l : List ByteArray} (hb : pathV (besN q) = true) (hl : (putV l).2 ≠ 0) : addE T q l = (putV l).2 ∧ addT T q l = T := by
  unfold addE addT
  rw [hb]
  exact ⟨by rw [if_neg (by decide), if_neg hl], by rw [if_neg (by decide), if_neg hl]⟩
theorem Jl.sync (h : Jl R N n u T X ys) : Jl R N n u (syncT T) (fun q => X q ++ sel q ys) [] :=
  ⟨h.jn.sync, fun q => h.now q, h.jn.inv.good.srt, h.lines, rfl, fun y hy => (by cases hy)⟩
/-- Bytes of changes that add. -/
def bytesY (ys : List (ByteArray × List ByteArray)) : Nat := (ys.map fun y => (putV y.2).1.size).sum
theorem after_used {l : List Fl} (hs : Srt l) {c : Cg} (hc : c.f0 = 2) : usedF (afterF l c) = usedF l + c.f2.size := by
  have e : afterF l c = putF l ⟨c.f1, textF l c.f1 ++ c.f2, c.f3⟩ := by
    unfold afterF
    rw [if_neg (by omega), if_pos hc]
  have := (put_used hs ⟨c.f1, textF l c.f1 ++ c.f2, c.f3⟩).1
  rw [e]
  rw [ByteArray.size_append] at this
  have e2 : textF l ({ f0 := c.f1, f1 := textF l c.f1 ++ c.f2, f2 := c.f3 } : Fl).f0 = textF l c.f1 := rfl
  rw [e2] at this
  omega
theorem after_names {l : List Fl} {c : Cg} (hc : c.f0 = 2) {f : Fl} (hf : f ∈ afterF l c) : f.f0 = c.f1 ∨ ∃ g ∈ l, g.f0 = f.f0 := by
  have e : afterF l c = putF l ⟨c.f1, textF l c.f1 ++ c.f2, c.f3⟩ := by
    unfold afterF
    rw [if_neg (by omega), if_pos hc]
  rw [e] at hf
  rcases mem_put.1 hf with rfl | hf
  · exact .inl rfl
  · exact .inr ⟨f, hf.1, rfl⟩
theorem after_has {l : List Fl} {c : Cg} (hc : c.f0 = 2) {N : List ByteArray} (h : ∀ f ∈ afterF l c, f.f0 ∈ N) : c.f1 ∈ N ∧ ∀ f ∈ l, f.f0 ∈ N := by
  have e : afterF l c = putF l ⟨c.f1, textF l c.f1 ++ c.f2, c.f3⟩ := by
    unfold afterF
    rw [if_neg (by omega), if_pos hc]
  rw [e] at h
  have h1 := h _ (mem_put.2 (.inl rfl))
  refine ⟨h1, fun f hf => ?_⟩
  by_cases e2 : f.f0 = c.f1
  · rw [e2]; exact h1
  · exact h f (mem_put.2 (.inr ⟨hf, e2⟩))
theorem fold_used : ∀ (ys : List (ByteArray × List ByteArray)) (cs : List Cg) (l : List Fl), Srt l → ChOf ys cs → usedF (foldF l cs) = usedF l + bytesY ys := by
  intro ys
  induction ys with
  | nil =>
    intro cs l hs h
    have : cs = [] := List.length_eq_zero_iff.1 h.len
    subst this
    rfl
  | cons y r ih =>
    intro cs l hs h
    obtain ⟨c, cr, rfl, h0, h1, h2, h3⟩ := h.cons
    show usedF (foldF (afterF l c) cr) = _
    rw [ih cr _ (srt_after hs c) h3, after_used hs h0, h2]
    unfold bytesY
    rw [List.map_cons, List.sum_cons]
    omega
theorem fold_names : ∀ (ys : List (ByteArray × List ByteArray)) (cs : List Cg) (l : List Fl) (N : List ByteArray), ChOf ys cs → (∀ f ∈ foldF l cs, f.f0 ∈ N) → (∀ f ∈ l, f.f0 ∈ N) ∧ ∀ c ∈ cs, c.f1 ∈ N := by
  intro ys
  induction ys with
  | nil =>
    intro cs l N h hn
    have : cs = [] := List.length_eq_zero_iff.1 h.len
    subst this
    exact ⟨hn, fun c hc => (by cases hc)⟩
  | cons y r ih =>
    intro cs l N h hn
    obtain ⟨c, cr, rfl, h0, h1, h2, h3⟩ := h.cons
    have h4 := ih cr _ N h3 hn
    have h5 := after_has h0 h4.1
    refine ⟨h5.2, fun d hd => ?_⟩
    rcases List.mem_cons.1 hd with rfl | hd
    · exact h5.1
    · exact h4.2 d hd
theorem fold_in : ∀ (ys : List (ByteArray × List ByteArray)) (cs : List Cg) (l : List Fl) (N : List ByteArray), ChOf ys cs → (∀ f ∈ l, f.f0 ∈ N) → (∀ c ∈ cs, c.f1 ∈ N) → ∀ f ∈ foldF l cs, f.f0 ∈ N := by
  intro ys
  induction ys with
  | nil =>
    intro cs l N h hn _
    have : cs = [] := List.length_eq_zero_iff.1 h.len
    subst this
    exact hn
  | cons y r ih =>
    intro cs l N h hn hcs
    obtain ⟨c, cr, rfl, h0, h1, h2, h3⟩ := h.cons
    refine ih cr _ N h3 (fun f hf => ?_) fun d hd => hcs d (List.mem_cons_of_mem _ hd)
    rcases after_names h0 hf with e | ⟨g, hg, e⟩
    · rw [e]; exact hcs c (List.mem_cons_self ..)
    · rw [← e]; exact hn g hg
theorem bytesY_app (a b : List (ByteArray × List ByteArray)) : bytesY (a ++ b) = bytesY a + bytesY b := by
  unfold bytesY
  rw [List.map_append, List.sum_append]
theorem bytesY_take (ys : List (ByteArray × List ByteArray)) (k : Nat) : bytesY (ys.take k) ≤ bytesY ys := by
  have := bytesY_app (ys.take k) (ys.drop k)
  rw [List.take_append_drop] at this
  omega
theorem cutS_size {s : ByteArray} {part : Int} (hp : 1 ≤ part) : (cutS s part).size ≤ s.size := by
  unfold cutS
  rw [if_neg (by omega), ByteArray.size_extract]
  omega
/-- Behind a crash. -/
theorem Jl.crash (h : Jl R N n u T X ys) (many part : Int) :
    Jn R N n u (crashT T many part) ∧ (crashT T many part).ch = [] ∧ ∃ j, keptN many ys.length ≤ j ∧ j ≤ ys.length ∧ (j = keptN many ys.length ∨ ∃ h : keptN many ys.length < ys.length, ((putV ys[keptN many ys.length].2).1.size : Int) ≤ part) ∧ ∀ q, ∃ r, Dec (textF (crashT T many part).l q) (X q ++ sel q (ys.take j)) r := by
  obtain ⟨j, h1, h2, h4, h3⟩ := crash_dec h.srt h.ch h.yl many part
  refine ⟨⟨inv_crash h.jn.inv many part, h.jn.room, h.jn.rle, ?_, ?_⟩, rfl, j, h1, h2, h4, fun q => h3 q (X q) (h.last q) (h.xl q)⟩
  · have hn : ∀ f ∈ foldF T.last T.ch, f.f0 ∈ N := by rw [h.jn.inv.fold]; exact h.jn.names
    obtain ⟨n1, n2⟩ := fold_names ys T.ch T.last N h.ch hn
    show ∀ f ∈ crashL T many part, f.f0 ∈ N
    unfold crashL
    generalize keptN many T.ch.length = k
    have n3 := fold_in _ _ _ N (h.ch.take k) n1 fun c hc => n2 c (List.mem_of_mem_take hc)
    simp only
    cases e : T.ch[k]? with
    | none => exact n3
    | some c =>
      simp only
      split
      next hc =>
        intro f hf
        have hc2 : (cutC c part).f0 = 2 := by
          obtain ⟨hlt, hget⟩ := List.getElem?_eq_some_iff.1 e
          obtain ⟨c', e1, c0, -⟩ := h.ch.at (k := k) (by rw [← h.ch.len]; exact hlt)
          rw [e] at e1
          cases e1
          exact c0
        rcases after_names hc2 hf with e2 | ⟨g, hg, e2⟩
        · rw [e2]
          exact n2 c (List.mem_of_getElem? e)
        · rw [← e2]
          exact n3 g hg
      next => exact n3
  · have hu := h.jn.used
    rw [← h.jn.inv.fold, fold_used ys _ _ h.srt h.ch] at hu
    show usedF (crashL T many part) ≤ u
    unfold crashL
    generalize keptN many T.ch.length = k
    have n3 := fold_used _ _ _ h.srt (h.ch.take k)
    have n4 := bytesY_take ys k
    simp only
    cases e : T.ch[k]? with
    | none => simp only; omega
    | some c =>
      simp only
      split
      next hc =>
        obtain ⟨hlt, hget⟩ := List.getElem?_eq_some_iff.1 e
        have hky : k < ys.length := by rw [← h.ch.len]; exact hlt
        obtain ⟨c', e1, c0, c1, c2⟩ := h.ch.at hky
        rw [e] at e1
        cases e1
        have hc2 : (cutC c part).f0 = 2 := c0
        rw [after_used (fold_srt _ _ h.srt) hc2, n3]
        have hs : (cutC c part).f2.size ≤ (putV ys[k].2).1.size := by rw [← c2]; exact cutS_size hc.2
        have n5 := bytesY_take ys (k + 1)
        rw [List.take_succ_eq_append_getElem hky, bytesY_app] at n5
        have e3 : bytesY [ys[k]] = (putV ys[k].2).1.size := by
          unfold bytesY
          rw [List.map_singleton, List.sum_singleton]
        omega
      next => omega
/-- Opened: the lines, and nothing behind. -/
theorem open_dec (hN : NS N) (h : Jn R N n u T) {q : ByteArray} (hq : q ∈ N) (hb : besN q ∈ N) (hne : besN q ≠ q) {xs : List (List ByteArray)} {r : ByteArray} (hd : Dec (textF T.l q) xs r) (hu : r.size ≠ 0 → u + u ≤ R) :
    openE T q = 0 ∧ openL T q = xs ∧ Jn R N (n + 4) (u + u) (openT T q) ∧ (r.size = 0 → Jn R N (n + 4) u (openT T q)) ∧ textF (openT T q).l q = cat xs e0 ∧ findF (openT T q).l (besN q) = none ∧
      (∀ p, p ≠ q → p ≠ besN q → findF (openT T q).l p = findF T.l p) ∧ (openT T q).ch = [] ∧ (openT T q).last = (openT T q).l := by
  obtain ⟨r1, r2, r3⟩ := h.remove (besN q)
  have ht : textF (removeT T (besN q)).l q = textF T.l q := text_find (r2 q (fun e => hne e.symm))
  have hd2 := hd
  rw [← ht] at hd2
  have hrl : readL (removeT T (besN q)) q = xs := by
    unfold readL
    rw [read_text, hd2.scan]
  have hrw : readW (removeT T (besN q)) q = decide (r.size = 0) := by
    unfold readW
    rw [read_text]
    exact hd2.whole
  have hpb := hN.path _ hb
  have hE : openE T q = if r.size = 0 then 0 else anewE (removeT T (besN q)) q xs := by
    unfold openE
    rw [hpb, if_neg (by decide), hrl, hrw]
    by_cases hr : r.size = 0
    · rw [if_pos hr, if_pos (decide_eq_true hr)]
    · rw [if_neg hr, if_neg (by rw [decide_eq_false hr]; decide)]
  have hT : openT T q = if r.size = 0 then syncT (removeT T (besN q)) else anewT (removeT T (besN q)) q xs := by
    unfold openT
    rw [hpb, if_neg (by decide), hrl, hrw]
    by_cases hr : r.size = 0
    · rw [if_pos hr, if_pos (decide_eq_true hr)]
    · rw [if_neg hr, if_neg (by rw [decide_eq_false hr]; decide)]
  by_cases hr : r.size = 0
  · rw [if_pos hr] at hE hT
    have hL : openL T q = xs := by unfold openL; rw [if_pos hE, hrl]
    rw [hT]
    refine ⟨hE, hL, (r1.sync).mono (by omega) (by omega), fun _ => (r1.sync).mono (by omega) (Nat.le_refl u), ?_, r3, fun p hp hp2 => r2 p hp2, rfl, rfl⟩
    show textF (removeT T (besN q)).l q = _
    rw [ht, hd.eq, size_e0 hr]
  · rw [if_neg hr] at hE hT
    have hu := hu hr
    have hcs : (cat xs e0).size ≤ u := by
      have h1 := hd.size
      have h2 := had_le T.l q
      have h3 := h.used
      omega
    obtain ⟨a1, a2, a3, a4, a5, a6, a7, -⟩ := r1.anew1 hN (s := cat xs e0) hq hb hne (by omega)
    have hE2 : anewE (removeT T (besN q)) q xs = 0 := by
      unfold anewE
      rw [hpb, if_neg (by decide), putAll_ok hd.ok, if_pos rfl]
      exact a1
    have hT2 : anewT (removeT T (besN q)) q xs = anew1T (removeT T (besN q)) q (cat xs e0) := by
      unfold anewT
      rw [hpb, if_neg (by decide), putAll_ok hd.ok, if_pos rfl]
    rw [hE2] at hE
    rw [hT2] at hT
    have hL : openL T q = xs := by unfold openL; rw [if_pos hE, hrl]
    rw [hT]
    exact ⟨hE, hL, a2.mono (by omega) (by omega), fun e => absurd e hr, a3, a4, fun p hp hp2 => (a5 p hp hp2).trans (r2 p hp2), a6, a7⟩
theorem Jl.of (h : Jn R N n u T) (hc : T.ch = []) (hl : T.last = T.l) (hx : ∀ q, textF T.l q = cat (X q) e0) (hxl : ∀ q, Lines (X q)) : Jl R N n u T X [] :=
  ⟨h, fun q => by rw [hl]; exact hx q, by rw [hl]; exact h.inv.good.srt, hxl, by rw [hc]; rfl, fun y hy => (by cases hy)⟩
theorem anew_ok (hN : NS N) (h : Jn R N n u T) {q : ByteArray} (hq : q ∈ N) (hb : besN q ∈ N) (hne : besN q ≠ q) {xs : List (List ByteArray)} (hx : Lines xs) {b : Nat} (hs : (cat xs e0).size ≤ b) (hu : u + b ≤ R) :
    anewE T q xs = 0 ∧ Jn R N (n + 3) (u + b) (anewT T q xs) ∧ textF (anewT T q xs).l q = cat xs e0 ∧ findF (anewT T q xs).l (besN q) = none ∧ (∀ p, p ≠ q → p ≠ besN q → findF (anewT T q xs).l p = findF T.l p) ∧
      (anewT T q xs).ch = [] ∧ (anewT T q xs).last = (anewT T q xs).l := by
  obtain ⟨a1, a2, a3, a4, a5, a6, a7, -⟩ := h.anew1 hN (s := cat xs e0) hq hb hne (by omega)
  have hpb := hN.path _ hb
  have hE2 : anewE T q xs = 0 := by
    unfold anewE
    rw [hpb, if_neg (by decide), putAll_ok hx, if_pos rfl]
    exact a1
  have hT2 : anewT T q xs = anew1T T q (cat xs e0) := by
    unfold anewT
    rw [hpb, if_neg (by decide), putAll_ok hx, if_pos rfl]
  rw [hT2]
  exact ⟨hE2, a2.mono (Nat.le_refl _) (by omega), a3, a4, a5, a6, a7⟩
theorem anew_bad {q : ByteArray} (hb : pathV (besN q) = true) {xs : List (List ByteArray)} (hx : ¬ Lines xs) : anewE T q xs ≠ 0 ∧ anewT T q xs = T := by
  have h2 : (putAll xs).2 ≠ 0 := fun e => hx (putAll_lines e)
  unfold anewE anewT
  rw [hb]
  exact ⟨by rw [if_neg (by decide), if_neg h2]; exact h2, by rw [if_neg (by decide), if_neg h2]⟩
end
end Go.Proofs.YtebfkifhkaeknaaGreatDoor.Fr
/- journal's calls: Beside, put, Read. -/
namespace Go.Proofs.YtebfkifhkaeknaaGreatDoor.Fr
open Go.RowKit Go.Proofs.YtebfkifhkaeknaaGreatDoor.F Go.Proofs.YtebfkifhkaeknaaGreatDoorW.PrintWords
open Go.Proofs.YtebfkifhkaeknaaGreatDoor.Hand (putV takeV scanV)
open Go.Proofs.YtebfkifhkaeknaaGreatDoor.PureL (cat cat_app cat_behind cat_size)
set_option linter.unusedVariables false
set_option linter.unusedSimpArgs false
abbrev kLL : Kd (List ByteArray) := Kd.slice 9 Kd.string
theorem at_LL {w : World} {A : Option Addr} {xs : List (List ByteArray)} (h : Kd.C kLL w A xs.length xs) {i : Nat} (hi : i < xs.length) :
    ∃ ad A' c', A = some ad ∧ w.cell? (ad.add i) = some (.slice A' (xs[i]).length c') ∧ (xs[i]).length ≤ c' ∧ Kd.C Kd.string w A' (xs[i]).length xs[i] := by
  obtain ⟨ad, c, e, _, ⟨A', c', hcs, hl, hr⟩, hc⟩ := Kd.C_get h [] (i : Int) (by omega) (by omega)
  have e1 : xs.getD (i : Int).toNat [] = xs[i] := by
    rw [Int.toNat_natCast, List.getD_eq_getElem?_getD, List.getElem?_eq_getElem hi, Option.getD_some]
  rw [e1] at hcs hl hr
  subst hcs
  have := hc 0 _ rfl
  have h0 : (i : Int).toNat * kLL.sz + 0 = i := by rw [Int.toNat_natCast]; exact Nat.mul_one i
  rw [h0] at this
  exact ⟨ad, A', c', e, this, hl, hr⟩
theorem put_code (l : List ByteArray) : (putV l).2 = 0 ∨ (putV l).2 = 1 ∨ (putV l).2 = 3 := by
  unfold putV
  split
  · exact .inr (.inl rfl)
  · split
    · exact .inr (.inr rfl)
    · split
      · exact .inr (.inr rfl)
      · exact .inl rfl
theorem beside_call (q : ByteArray) (hq : q.size ≤ 100000) (W : World) : Calls Tryz.prog 35 #[.string q] W fun e w' => e = .returned (.string (besN q)) ∧ W = w' := by
  go_enter Tryz.func35, Tryz.ntmps35
  go_wp2
  go_ret
  exact ⟨rfl, rfl⟩
theorem putAll_stop : ∀ (all : List (List ByteArray)) (k : Nat) (hk : k < all.length) (acc : ByteArray), Lines (all.take k) → (putV all[k]).2 ≠ 0 → putAllA acc all = (e0, (putV all[k]).2) := by
  intro all
  induction all with
  | nil => intro k hk; exact absurd hk (Nat.not_lt_zero _)
  | cons x r ih =>
    intro k hk acc hl hx
    cases k with
    | zero => rw [putAllA, if_neg (show ¬ (putV x).2 = 0 from hx)]; rfl
    | succ k =>
      rw [putAllA, if_pos (hl x (by simp))]
      exact ih k (by simpa using hk) _ (fun y hy => hl y (by simp [hy])) hx
theorem putAllA_code : ∀ (all : List (List ByteArray)) (acc : ByteArray), (putAllA acc all).2 = 0 ∨ (putAllA acc all).2 = 1 ∨ (putAllA acc all).2 = 3 := by
  intro all
  induction all with
  | nil => intro acc; exact .inl rfl
  | cons x r ih =>
    intro acc
    rw [putAllA]
    split
    · exact ih _
    · exact put_code x
theorem lines_take_succ {all : List (List ByteArray)} {k : Nat} (hk : k < all.length) (h : Lines (all.take k)) (hx : (putV all[k]).2 = 0) : Lines (all.take (k + 1)) := by
  rw [List.take_succ_eq_append_getElem hk]
  intro l hl
  rcases List.mem_append.1 hl with hl | hl
  · exact h l hl
  · rw [List.mem_singleton.1 hl]; exact hx
set_option maxHeartbeats 8000000 in
set_option maxRecDepth 100000 in
theorem putAll_walk (A : Option Addr) (c : Nat) (all : List (List ByteArray)) (w : World) (hG : Hand2.Glob w) (hC : Kd.C kLL w A all.length all) (hx : ∀ l ∈ all, ∀ x ∈ l, x.size ≤ 100000)
    (hB : ∀ k, k ≤ all.length → (putAll (all.take k)).1.size ≤ 90000000) (hn : all.length ≤ 10000000) :
    Calls Tryz.prog 40 #[.slice A all.length c, .func (.func 39) #[] #[]] w fun e w' => e = .returned (.tuple #[.string (putAll all).1, .int .i64 (putAll all).2]) ∧ Below w.heap.size w w' := by
  have HG := Lib.hid hG
  have HC := Lib.hid hC
  have HX := Lib.hid hx
  have HB := Lib.hid hB
  clear hG hC hx hB
  go_enter Tryz.func40, Tryz.ntmps40
  go_wp2
  obtain ⟨w0, hw0⟩ : ∃ w0, w.alloc (Obj.cells #[Value.pointer none, Value.slice none 0 0] 111) = w0 := ⟨_, rfl⟩
  have hs0 : w0.heap.size = w.heap.size + 1 := by rw [← hw0]; simp
  have hB0 : Hid (Below w.heap.size w w0) := by
    rw [Hid, ← hw0]
    exact (Below.refl _ _).alloc (Nat.le_refl _) _
  have hbl0 : Hid (Hand.Bld w.heap.size (w.heap.size + 1) [] w0) := by
    refine ⟨by omega, by rw [hs0]; omega, _, _, .inl rfl, ?_, World.ownsRowF_nil _ _ _ _⟩
    rw [← hw0]
    exact World.alloc_heap_new w _
  rw [hw0]
  clear hw0
  go_loopw [13] (fun i wr => ∃ k : Nat, k ≤ all.length ∧ i = .int .i64 k ∧ Hid (Hand.Bld w.heap.size (w.heap.size + 1) (Lib.byteCells (cat (all.take k) e0).data.toList) wr) ∧ Hid (Hand.Apart w.heap.size (w.heap.size + 1) w0 wr) ∧ Hid (Lines (all.take k)))
    (fun i _ => all.length - (intOf i).toNat)
  case atStart => exact ⟨0, Nat.zero_le _, rfl, hbl0, Hand.Apart.refl _ _ _, fun l hl => (by cases hl)⟩
  case round =>
    obtain ⟨k, hk, rfl, hbl, hA, HL⟩ := hrel
    have hlen : Hid ((cat (all.take k) e0).data.toList.length ≤ 90000000) := by
      have := HB.out k hk
      rw [putAll_ok HL.out] at this
      rw [Hid, Array.length_toList]
      exact this
    have HT := Lib.hid (hB0.out.trans (hA.out.below (by omega)))
    by_cases hlt : k < all.length
    · obtain ⟨ad, A', c', rfl, hc1, hc2, hC'⟩ := at_LL (Kd.C_below HC.out HT.out) hlt
      have HC' := Lib.hid hC'
      have HX' := Lib.hid (HX.out _ (List.getElem_mem hlt))
      have HST := Lib.hid (putAll_stop all k hlt ⟨#[]⟩ HL.out)
      have HNX := Lib.hid (lines_take_succ hlt HL.out)
      have HTK : Hid (all.take (k + 1) = all.take k ++ [all[k]]) := List.take_succ_eq_append_getElem hlt
      have hcode := put_code all[k]
      have hln := lineL_le (l := all[k])
      clear hC'
      generalize all[k] = x at hc1 hc2 HC' HX' HST HNX HTK hcode hln
      have HP := Lib.hid (Hand.put_walk A' c' x wr (HG.out.below HT.out) HC'.out hc2 HX'.out)
      obtain ⟨s, er, hp⟩ : ∃ s er, Hid (putV x = (s, er)) := ⟨_, _, Lib.hid rfl⟩
      rw [hp.out] at hcode HP HST HNX hln
      simp only [Hand.pOut] at HP
      simp only at hcode hln
      have hsx := World.block_lt_of_cell? _ _ hc1
      rcases hcode with rfl | rfl | rfl
      · have hs : s.size ≤ 13000 := hln rfl
        have hwl : Hid ((Lib.byteCells (cat (all.take k) e0).data.toList).length + s.size ≤ 100000000) := by
          have := hlen.out
          rw [Hid, Lib.byteCells_length]
          omega
        go_wp2_with (first | (go_at_call 39; refine HP.out.mono ?_; rintro e W1 ⟨rfl, hb1⟩; have HL1 := Lib.hid (Hand.bld_below hbl.out hb1); have HA1 := Lib.hid (hA.out.trans (Hand.apart_of_below hb1 hbl.out.2.1)); clear hb1) | (go_at_call 64; refine (Hand.writeString w.heap.size (w.heap.size + 1) _ _ _ HL1.out hwl.out).mono ?_; rintro e W2 ⟨rfl, hb2, hA2⟩; have HL2 := Lib.hid hb2; have HA2 := Lib.hid (HA1.out.trans hA2); clear hb2 hA2))
        go_roundw
        case rel =>
          refine ⟨k + 1, by omega, by go_num, ?_, HA2, HNX.out (by first | rfl | exact trivial)⟩
          have := HL2.out
          rw [Lib.strCells_eq, ← Lib.byteCells_append] at this
          rw [Hid, HTK.out, cat_snoc, hp.out]
          have e : (cat (all.take k) e0 ++ s).data.toList = (cat (all.take k) e0).data.toList ++ s.data.toList := by simp [ByteArray.data_append, Array.toList_append]
          rw [e]
          exact this
        case measure => simp [intOf]; omega
      all_goals
        have HE : Hid (putAll all = (e0, _)) := HST.out (by simp)
        go_wp2_with (first | (go_at_call 39; refine HP.out.mono ?_; rintro e W1 ⟨rfl, hb1⟩; have HA1 := Lib.hid (HT.out.trans (hb1.mono HT.out.size)); clear hb1))
        go_ret2
        exact ⟨by rw [HE.out]; rfl, HA1.out⟩
    · have hkn : k = all.length := by omega
      subst hkn
      have htk : all.take all.length = all := List.take_length
      rw [htk] at hbl hlen HL
      clear htk
      have HS := Lib.hid (Hand.bstring2 w.heap.size (cat all e0).data.toList wr hbl.out)
      have HE : Hid (putAll all = (cat all e0, 0)) := putAll_ok HL.out
      have e1 : (⟨(cat all e0).data.toList.toArray⟩ : ByteArray) = cat all e0 := ba_eq rfl
      rw [e1] at HS
      clear e1
      go_wp2_with (first | (go_at_call 68; refine HS.out.mono ?_; rintro e W1 ⟨rfl, hb1, hA1⟩; have HA1 := Lib.hid (hB0.out.trans ((hA.out.trans hA1).below (Nat.lt_succ_self _))); clear hb1 hA1))
      go_ret2
      exact ⟨by rw [HE.out]; rfl, HA1.out⟩
/-- Read. -/
def RdEnd (w : World) (l : List (List ByteArray)) (b : Bool) (e : Ending) (w' : World) : Prop := ∃ v, e = .returned (.tuple #[v, .bool b]) ∧ Kd.S kLL 33 w' w.heap.size (fun _ => True) v l ∧ Below w.heap.size w w'
set_option maxHeartbeats 4000000 in
set_option maxRecDepth 100000 in
theorem Sts.jRead {K : Nat → Prop} {L : List (Nat × TS)} {m p i n : Nat} {T Tm : TS} {W : World} (h : Sts K L m Tm W) (hi : L[i]? = some (p, T)) (hG : Hand2.Glob W) (hI : Inv n T) (hr : T.room ≤ 2000000) (q : ByteArray) (hq : q.size ≤ 100000) :
    Calls Tryz.prog 17 #[.pointer (some ⟨p, 0, none⟩), .string q] W (RdEnd W (readL T q) (readW T q)) := by
  have HS := Lib.hid h
  have HG := Lib.hid hG
  have hsz : (readT T q).1.size ≤ 2000000 := by
    have h1 := read_used T q
    have h2 := hI.good.used
    omega
  have HR := Lib.hid (h.Read hi q hq)
  have hw : (((scanV (readT T q).1).2 == (((readT T q).1.size : Nat) : Int)) : Bool) = readW T q := rfl
  have hl : (scanV (readT T q).1).1 = readL T q := rfl
  have HSC := Lib.hid (Hand.scan_walk (readT T q).1 hsz W hG)
  rw [hl] at HSC
  generalize readT T q = r at HR hw hl hsz HSC
  obtain ⟨s, er⟩ := r
  simp only at HR hw hl hsz HSC
  generalize (scanV s).2 = z at hw HSC
  generalize readL T q = ls at HSC
  have HW := Lib.hid hw
  clear h hG hw hl
  go_enter Tryz.func17, Tryz.ntmps17
  go_wp2_with (first
    | (go_at_call 16; refine HR.out.mono ?_; rintro e w1 ⟨rfl, rfl⟩)
    | (go_at_call 43; refine HSC.out.mono ?_; rintro e w2 ⟨v, rfl, hv, hb⟩; have HV := Lib.hid hv; have HB := Lib.hid hb; clear hv hb))
  go_ret2
  exact ⟨v, by rw [HW.out]; rfl, HV.out, HB.out⟩
end Go.Proofs.YtebfkifhkaeknaaGreatDoor.Fr
/- journal's calls over the trees that a law holds: Add, Anew, Open. -/
namespace Go.Proofs.YtebfkifhkaeknaaGreatDoor.Fr
open Go.RowKit Go.Proofs.YtebfkifhkaeknaaGreatDoor.F Go.Proofs.YtebfkifhkaeknaaGreatDoorW.PrintWords
open Go.Proofs.YtebfkifhkaeknaaGreatDoor.Hand (putV takeV scanV)
open Go.Proofs.YtebfkifhkaeknaaGreatDoor.PureL (cat cat_app cat_behind cat_size)
set_option linter.unusedVariables false
set_option linter.unusedSimpArgs false
section
variable {K : Nat → Prop} {L : List (Nat × TS)} {m p i n : Nat} {T Tm T' : TS} {W W' : World}
theorem set_same {x : Nat × TS} (hi : L[i]? = some x) : L.set i x = L := by
  obtain ⟨h1, h2⟩ := List.getElem?_eq_some_iff.1 hi
  subst h2
  exact List.set_getElem_self h1
theorem set_set' (x y : Nat × TS) : (L.set i x).set i y = L.set i y := List.set_set ..
theorem set_at (hi : L[i]? = some (p, T)) (T' : TS) : (L.set i (p, T'))[i]? = some (p, T') := List.getElem?_set_self (List.getElem?_eq_some_iff.1 hi).1
theorem StEnd.same {v : Value} (h : Sts K L m Tm W) (hi : L[i]? = some (p, T)) (hb : Below W.heap.size W W') : StEnd K (L.set i (p, T)) m Tm W v (.returned v) W' := ⟨rfl, by rw [set_same hi]; exact h.below hb, Kp.of hb⟩
/-- What the library's variables hold stays as long as K is kept. -/
def GK (K : Nat → Prop) (W : World) : Prop := ∀ W', Kp K W W' → Hand2.Glob W'
theorem GK.now (h : GK K W) : Hand2.Glob W := h _ (Kp.of (Below.refl _ _))
theorem GK.step (h : GK K W) (hk : Kp K W W') : GK K W' := fun W2 h2 => h W2 (hk.trans h2)
theorem GK.more {K' : Nat → Prop} (h : GK K W) (hK : ∀ k, K k → K' k) : GK K' W := fun W2 h2 => h W2 (h2.mono hK)
theorem Kp.glob {w : World} (hG : Hand2.Glob w) (hK : ∀ k, k < w.heap.size → K k) (hk : Kp K w W') : Hand2.Glob W' := hG.below (hk.below (Nat.le_refl _) hK)
set_option maxHeartbeats 4000000 in
set_option maxRecDepth 100000 in
theorem Sts.jAdd (h : Sts K L m Tm W) (hi : L[i]? = some (p, T)) (hG : Hand2.Glob W) (hI : Inv n T) (hn : n ≤ 1000000) (q : ByteArray) (hq : q.size ≤ 99000) (A : Option Addr) (c : Nat) (l : List ByteArray)
    (hC : Kd.C Kd.string W A l.length l) (hc : l.length ≤ c) (hx : ∀ x ∈ l, x.size ≤ 100000) :
    Calls Tryz.prog 11 #[.pointer (some ⟨p, 0, none⟩), .string q, .slice A l.length c] W (StEnd K (L.set i (p, addT T q l)) m Tm W (.int .i64 (addE T q l))) := by
  have HS := Lib.hid h
  have HC := Lib.hid hC
  have HG := Lib.hid hG
  have HX := Lib.hid hx
  have HI := Lib.hid hI
  have hbs := besN_size q
  have HBs := Lib.hid (beside_call q (by omega))
  obtain ⟨m0, hm0⟩ := hG.g.cell
  have HP := Lib.hid (path_walk (besN q) (by omega) m0 W hG.g.lt hm0)
  clear hm0
  cases hb : pathV (besN q) with
  | false =>
    have HE : Hid (addE T q l = 1 ∧ addT T q l = T) := by unfold Hid addE addT; rw [hb]; exact ⟨rfl, rfl⟩
    rw [hb] at HP
    rw [HE.out.1, HE.out.2]
    clear h hC hG hx hI hb hbs HE
    go_enter Tryz.func11, Tryz.ntmps11
    go_wp2_with (first
      | (go_at_call 35; refine (HBs.out _).mono ?_; rintro e w1 ⟨rfl, rfl⟩)
      | (go_at_call 38; refine HP.out.mono ?_; rintro e w2 ⟨rfl, hb⟩; have HB := Lib.hid hb; clear hb))
    go_ret
    exact StEnd.same HS.out hi HB.out
  | true =>
    rw [hb] at HP
    have HQ : Hid (∀ W1, Below W.heap.size W W1 → Calls Tryz.prog 39 #[.slice A l.length c] W1 fun e w' => e = .returned (.tuple #[.string (putV l).1, .int .i64 (putV l).2]) ∧ Below W1.heap.size W1 w') :=
      fun W1 hb => Hand.put_walk A c l W1 (hG.below hb) (Kd.C_below hC hb) hc hx
    have hcode := put_code l
    have hln := lineL_le (l := l)
    obtain ⟨s, er, hp⟩ : ∃ s er, putV l = (s, er) := ⟨_, _, rfl⟩
    have HA : Hid (addE T q l = if er = 0 then writeE T true q s else er) := by unfold Hid addE; rw [hb, if_neg (by decide), hp]
    have HT : Hid (addT T q l = if er = 0 then writeT T true q s else T) := by unfold Hid addT; rw [hb, if_neg (by decide), hp]
    rw [hp] at HQ hcode hln
    simp only at HQ hcode hln
    rw [HA.out, HT.out]
    clear h hC hG hx hI hb hbs hp HA HT
    rcases hcode with rfl | rfl | rfl
    · have hs : s.size ≤ 13000 := hln rfl
      rw [if_pos rfl, if_pos rfl]
      clear hln
      go_enter Tryz.func11, Tryz.ntmps11
      go_wp2_with (first
        | (go_at_call 35; refine (HBs.out _).mono ?_; rintro e w1 ⟨rfl, rfl⟩)
        | (go_at_call 38; refine HP.out.mono ?_; rintro e w2 ⟨rfl, hb⟩; have HB := Lib.hid hb; clear hb)
        | (go_at_call 39; refine (HQ.out _ HB.out).mono ?_; rintro e w3 ⟨rfl, hb⟩; have HB3 := Lib.hid (HB.out.trans (hb.mono HB.out.size)); clear hb)
        | (go_at_call 15; refine ((HS.out.below HB3.out).Append hi (HG.out.below HB3.out).g HI.out hn q s (by omega) (by omega)).mono ?_; rintro e w4 ⟨rfl, hs4, hk4⟩; have HE := Lib.hid hs4; have HK := Lib.hid ((Kp.of (K := K) HB3.out).trans hk4); clear hs4 hk4))
      go_ret
      exact ⟨rfl, HE.out, HK.out⟩
    all_goals
      rw [if_neg (by decide), if_neg (by decide)]
      clear hln
      go_enter Tryz.func11, Tryz.ntmps11
      go_wp2_with (first
        | (go_at_call 35; refine (HBs.out _).mono ?_; rintro e w1 ⟨rfl, rfl⟩)
        | (go_at_call 38; refine HP.out.mono ?_; rintro e w2 ⟨rfl, hb⟩; have HB := Lib.hid hb; clear hb)
        | (go_at_call 39; refine (HQ.out _ HB.out).mono ?_; rintro e w3 ⟨rfl, hb⟩; have HB3 := Lib.hid (HB.out.trans (hb.mono HB.out.size)); clear hb))
      go_ret
      exact StEnd.same HS.out hi HB3.out
theorem write_code (T : TS) (st : Bool) (q s : ByteArray) : writeE T st q s = 0 ∨ writeE T st q s = 1 ∨ writeE T st q s = 3 ∨ writeE T st q s = 5 ∨ writeE T st q s = 6 := by
  unfold writeE
  split
  · simp
  · split
    · simp
    · split
      · simp
      · split <;> simp
theorem rename_code (T : TS) (a b : ByteArray) : renameE T a b = 0 ∨ renameE T a b = 1 ∨ renameE T a b = 4 ∨ renameE T a b = 5 := by
  unfold renameE
  split
  · simp
  · split
    · simp
    · split
      · simp
      · split <;> simp
theorem anew1_code (T : TS) (q s : ByteArray) : anew1E T q s = 0 ∨ anew1E T q s = 1 ∨ anew1E T q s = 3 ∨ anew1E T q s = 4 ∨ anew1E T q s = 5 ∨ anew1E T q s = 6 := by
  have h1 := write_code T false (besN q) s
  have h2 := rename_code (writeT T false (besN q) s) (besN q) q
  unfold anew1E
  split <;> omega
theorem anew_code (T : TS) (q : ByteArray) (l : List (List ByteArray)) : anewE T q l = 0 ∨ anewE T q l = 1 ∨ anewE T q l = 3 ∨ anewE T q l = 4 ∨ anewE T q l = 5 ∨ anewE T q l = 6 := by
  have h1 := anew1_code T q (putAll l).1
  have h2 : (putAll l).2 = 0 ∨ (putAll l).2 = 1 ∨ (putAll l).2 = 3 := putAllA_code l _
  unfold anewE
  split
  · omega
  · split <;> omega
theorem flat_ge : ∀ l : List UInt8, l.length ≤ (l.flatMap Hand.quoteB).length := by
  intro l
  induction l with
  | nil => exact Nat.le_refl _
  | cons c r ih =>
    rw [List.flatMap_cons, List.length_append, List.length_cons]
    have := PureR.quoteB_pos c
    omega
theorem quote_ge (s : ByteArray) : s.size ≤ (Hand.quoteV s).size := by
  unfold Hand.quoteV
  split
  next h => rw [h]; exact Nat.zero_le _
  next h =>
    have := flat_ge s.data.toList
    rw [Array.length_toList] at this
    show s.size ≤ (s.data.toList.flatMap Hand.quoteB).toArray.size
    rw [List.size_toArray]
    exact this
theorem body_mem {x : ByteArray} : ∀ l : List ByteArray, x ∈ l → (Hand.quoteV x).size ≤ (Hand.bodyL l).length := by
  intro l
  induction l with
  | nil => intro h; cases h
  | cons y r ih =>
    intro h
    have e : Hand.bodyL (y :: r) = ((Hand.quoteV y).data.toList ++ [32]) ++ Hand.bodyL r := by simp [Hand.bodyL]
    have e2 : (Hand.quoteV y).data.size = (Hand.quoteV y).size := rfl
    rw [e, List.length_append, List.length_append, Array.length_toList]
    rcases List.mem_cons.1 h with rfl | h
    · omega
    · have := ih h
      omega
theorem word_le {l : List ByteArray} (h : (putV l).2 = 0) : ∀ x ∈ l, x.size ≤ 13000 := fun x hx => by
  have h1 := lineL_le h
  rw [PureL.putV_size h] at h1
  have h2 := body_mem l hx
  have h3 : (Hand.bodyL l).length ≤ (Hand.lineL l).length := by
    unfold Hand.lineL
    rw [List.length_append, List.length_append]
    omega
  have h4 := quote_ge x
  omega
/-- What a journal's text may be that is written anew. -/
structure AllOK (all : List (List ByteArray)) : Prop where
  small : ∀ l ∈ all, ∀ x ∈ l, x.size ≤ 100000
  size : ∀ k, k ≤ all.length → (putAll (all.take k)).1.size ≤ 90000000
  many : all.length ≤ 10000000
theorem AllOK.all {all : List (List ByteArray)} (h : AllOK all) : (putAll all).1.size ≤ 90000000 := by
  have := h.size all.length (Nat.le_refl _)
  rwa [List.take_length] at this
theorem pathV_size {q : ByteArray} (h : pathV (besN q) = true) : q.size ≤ 96 := by
  have h1 := path_size h
  have h2 := besN_size q
  omega
set_option maxHeartbeats 16000000 in
set_option maxRecDepth 100000 in
theorem Sts.jAnew (h : Sts K L m Tm W) (hi : L[i]? = some (p, T)) (hGK : GK K W) (hI : Inv n T) (hn : n + 3 ≤ 1000000) (q : ByteArray) (hq : q.size ≤ 99000) (A : Option Addr) (c : Nat) (all : List (List ByteArray))
    (hC : Kd.C kLL W A all.length all) (hA : AllOK all) :
    Calls Tryz.prog 12 #[.pointer (some ⟨p, 0, none⟩), .string q, .slice A all.length c] W (StEnd K (L.set i (p, anewT T q all)) m Tm W (.int .i64 (anewE T q all))) := by
  have hG : Hand2.Glob W := hGK _ (Kp.of (Below.refl _ _))
  have hGl : ∀ W', Kp K W W' → Fr.Glob W' := fun W' h => (hGK W' h).g
  clear hGK
  have HS := Lib.hid h
  have HGl := Lib.hid hGl
  have hbs := besN_size q
  have HBs := Lib.hid (beside_call q (by omega))
  obtain ⟨m0, hm0⟩ := hG.g.cell
  have HP := Lib.hid (path_walk (besN q) (by omega) m0 W hG.g.lt hm0)
  clear hm0
  cases hb : pathV (besN q) with
  | false =>
    have HE : Hid (anewE T q all = 1 ∧ anewT T q all = T) := by unfold Hid anewE anewT; rw [hb]; exact ⟨rfl, rfl⟩
    rw [hb] at HP
    rw [HE.out.1, HE.out.2]
    clear h hC hG hGl hI hb hbs HE hA
    go_enter Tryz.func12, Tryz.ntmps12
    go_wp2_with (first
      | (go_at_call 35; refine (HBs.out _).mono ?_; rintro e w1 ⟨rfl, rfl⟩)
      | (go_at_call 38; refine HP.out.mono ?_; rintro e w2 ⟨rfl, hb⟩; have HB := Lib.hid hb; clear hb))
    go_ret
    exact StEnd.same HS.out hi HB.out
  | true =>
    rw [hb] at HP
    have HQ : Hid (∀ W1, Below W.heap.size W W1 → Calls Tryz.prog 40 #[.slice A all.length c, .func (.func 39) #[] #[]] W1 fun e w' => e = .returned (.tuple #[.string (putAll all).1, .int .i64 (putAll all).2]) ∧ Below W1.heap.size W1 w') :=
      fun W1 hb => putAll_walk A c all W1 (hG.below hb) (Kd.C_below hC hb) hA.small hA.size hA.many
    have hqs := pathV_size hb
    have hcode : (putAll all).2 = 0 ∨ (putAll all).2 = 1 ∨ (putAll all).2 = 3 := by
      by_cases hL : Lines all
      · rw [putAll_ok hL]; exact .inl rfl
      · exact putAllA_code all _
    have hln := hA.all
    obtain ⟨s, er, hp⟩ : ∃ s er, putAll all = (s, er) := ⟨_, _, rfl⟩
    have HA1 : Hid (anewE T q all = if er = 0 then anew1E T q s else er) := by unfold Hid anewE; rw [hb, if_neg (by decide), hp]
    have HT1 : Hid (anewT T q all = if er = 0 then anew1T T q s else T) := by unfold Hid anewT; rw [hb, if_neg (by decide), hp]
    rw [hp] at HQ hcode hln
    simp only at HQ hcode hln
    rw [HA1.out, HT1.out]
    have HbQ : (besN q).size ≤ 100 := by omega
    have hI1 := Lib.hid (inv_write hI false (q := besN q) (s := s) (by omega))
    have hI2 := Lib.hid (inv_rename hI1.out (besN q) q)
    have HI := Lib.hid hI
    clear h hC hG hGl hI hb hbs hp HA1 HT1 hA
    have hE : anew1E T q s = if writeE T false (besN q) s = 0 then renameE (writeT T false (besN q) s) (besN q) q else writeE T false (besN q) s := rfl
    have hT : anew1T T q s = if writeE T false (besN q) s = 0 then
    if renameE (writeT T false (besN q) s) (besN q) q = 0 then syncT (renameT (writeT T false (besN q) s) (besN q) q) else removeT (renameT (writeT T false (besN q) s) (besN q) q) (besN q)
  else removeT (writeT T false (besN q) s) (besN q) := rfl
    rw [hE, hT]
    clear hE hT
    obtain ⟨B, hB⟩ : ∃ B, besN q = B := ⟨_, rfl⟩
    rw [hB] at HBs HP hI1 hI2 HbQ ⊢
    clear hB
    rcases hcode with rfl | rfl | rfl
    · rw [if_pos rfl, if_pos rfl]
      have HW : Hid (∀ W1, Below W.heap.size W W1 → Calls Tryz.prog 23 #[.pointer (some ⟨p, 0, none⟩), .string B, .string s] W1 (StEnd K (L.set i (p, writeT T false B s)) m Tm W1 (.int .i64 (writeE T false B s)))) :=
        fun W1 hb => (HS.out.below hb).Write hi (HGl.out _ (Kp.of hb)) HI.out (by omega) B s (by omega) (by omega)
      have hw := write_code T false B s
      generalize writeE T false B s = ew at HW hw ⊢
      generalize writeT T false B s = T1 at HW hI1 hI2 ⊢
      rcases hw with rfl | hw
      · rw [if_pos rfl, if_pos rfl]
        have hr := rename_code T1 B q
        have HR : Hid (∀ W1, Sts K (L.set i (p, T1)) m Tm W1 → Kp K W W1 → Calls Tryz.prog 24 #[.pointer (some ⟨p, 0, none⟩), .string B, .string q] W1 (StEnd K (L.set i (p, renameT T1 B q)) m Tm W1 (.int .i64 (renameE T1 B q)))) := fun W1 h1 h2 => by
          have := h1.Rename (set_at hi T1) (HGl.out _ h2) hI1.out (by omega) B q (by omega) (by omega)
          rwa [set_set'] at this
        generalize renameE T1 B q = er at HR hr ⊢
        generalize renameT T1 B q = T2 at HR hI2 ⊢
        have HR2 : Hid (∀ W1, Sts K (L.set i (p, T2)) m Tm W1 → Kp K W W1 → Calls Tryz.prog 41 #[.pointer (some ⟨p, 0, none⟩), .string B] W1 (StEnd K (L.set i (p, removeT T2 B)) m Tm W1 (.int .i64 (removeE T2 B)))) := fun W1 h1 h2 => by
          have := h1.Remove (set_at hi T2) (HGl.out _ h2) hI2.out (by omega) B (by omega)
          rwa [set_set'] at this
        have HR3 : Hid (∀ W1, Sts K (L.set i (p, T2)) m Tm W1 → Kp K W W1 → Calls Tryz.prog 19 #[.pointer (some ⟨p, 0, none⟩)] W1 (StEnd K (L.set i (p, syncT T2)) m Tm W1 (.tuple #[]))) := fun W1 h1 h2 => by
          have := h1.Sync (set_at hi T2) (HGl.out _ h2) hI2.out (by omega)
          rwa [set_set'] at this
        rcases hr with rfl | rfl | rfl | rfl
        · rw [if_pos rfl]
          go_enter Tryz.func12, Tryz.ntmps12
          go_wp2_with (first
            | (go_at_call 35; refine (HBs.out _).mono ?_; rintro e w1 ⟨rfl, rfl⟩)
            | (go_at_call 38; refine HP.out.mono ?_; rintro e w2 ⟨rfl, hb⟩; have HB := Lib.hid hb; clear hb)
            | (go_at_call 40; refine (HQ.out _ HB.out).mono ?_; rintro e w3 ⟨rfl, hb⟩; have HB3 := Lib.hid (HB.out.trans (hb.mono HB.out.size)); clear hb)
            | (go_at_call 23; refine (HW.out _ HB3.out).mono ?_; rintro e w4 ⟨rfl, hs4, hk4⟩; have HE4 := Lib.hid hs4; have HK4 := Lib.hid ((Kp.of (K := K) HB3.out).trans hk4); clear hs4 hk4)
            | (go_at_call 24; refine (HR.out _ HE4.out HK4.out).mono ?_; rintro e w5 ⟨rfl, hs5, hk5⟩; have HE5 := Lib.hid hs5; have HK5 := Lib.hid (HK4.out.trans hk5); clear hs5 hk5)
            | (go_at_call 19; refine (HR3.out _ HE5.out HK5.out).mono ?_; rintro e w6 ⟨rfl, hs6, hk6⟩; have HE6 := Lib.hid hs6; have HK6 := Lib.hid (HK5.out.trans hk6); clear hs6 hk6))
          go_ret
          exact ⟨rfl, HE6.out, HK6.out⟩
        all_goals
          rw [if_neg (by decide)]
          go_enter Tryz.func12, Tryz.ntmps12
          go_wp2_with (first
            | (go_at_call 35; refine (HBs.out _).mono ?_; rintro e w1 ⟨rfl, rfl⟩)
            | (go_at_call 38; refine HP.out.mono ?_; rintro e w2 ⟨rfl, hb⟩; have HB := Lib.hid hb; clear hb)
            | (go_at_call 40; refine (HQ.out _ HB.out).mono ?_; rintro e w3 ⟨rfl, hb⟩; have HB3 := Lib.hid (HB.out.trans (hb.mono HB.out.size)); clear hb)
            | (go_at_call 23; refine (HW.out _ HB3.out).mono ?_; rintro e w4 ⟨rfl, hs4, hk4⟩; have HE4 := Lib.hid hs4; have HK4 := Lib.hid ((Kp.of (K := K) HB3.out).trans hk4); clear hs4 hk4)
            | (go_at_call 24; refine (HR.out _ HE4.out HK4.out).mono ?_; rintro e w5 ⟨rfl, hs5, hk5⟩; have HE5 := Lib.hid hs5; have HK5 := Lib.hid (HK4.out.trans hk5); clear hs5 hk5)
            | (go_at_call 41; refine (HR2.out _ HE5.out HK5.out).mono ?_; rintro e w6 ⟨rfl, hs6, hk6⟩; have HE6 := Lib.hid hs6; have HK6 := Lib.hid (HK5.out.trans hk6); clear hs6 hk6))
          go_ret
          exact ⟨rfl, HE6.out, HK6.out⟩
      · have HR2 : Hid (∀ W1, Sts K (L.set i (p, T1)) m Tm W1 → Kp K W W1 → Calls Tryz.prog 41 #[.pointer (some ⟨p, 0, none⟩), .string B] W1 (StEnd K (L.set i (p, removeT T1 B)) m Tm W1 (.int .i64 (removeE T1 B)))) := fun W1 h1 h2 => by
          have := h1.Remove (set_at hi T1) (HGl.out _ h2) hI1.out (by omega) B (by omega)
          rwa [set_set'] at this
        clear hI2
        rcases hw with rfl | rfl | rfl | rfl
        all_goals
          rw [if_neg (by decide), if_neg (by decide)]
          go_enter Tryz.func12, Tryz.ntmps12
          go_wp2_with (first
            | (go_at_call 35; refine (HBs.out _).mono ?_; rintro e w1 ⟨rfl, rfl⟩)
            | (go_at_call 38; refine HP.out.mono ?_; rintro e w2 ⟨rfl, hb⟩; have HB := Lib.hid hb; clear hb)
            | (go_at_call 40; refine (HQ.out _ HB.out).mono ?_; rintro e w3 ⟨rfl, hb⟩; have HB3 := Lib.hid (HB.out.trans (hb.mono HB.out.size)); clear hb)
            | (go_at_call 23; refine (HW.out _ HB3.out).mono ?_; rintro e w4 ⟨rfl, hs4, hk4⟩; have HE4 := Lib.hid hs4; have HK4 := Lib.hid ((Kp.of (K := K) HB3.out).trans hk4); clear hs4 hk4)
            | (go_at_call 41; refine (HR2.out _ HE4.out HK4.out).mono ?_; rintro e w6 ⟨rfl, hs6, hk6⟩; have HE6 := Lib.hid hs6; have HK6 := Lib.hid (HK4.out.trans hk6); clear hs6 hk6))
          go_ret
          exact ⟨rfl, HE6.out, HK6.out⟩
    all_goals
      rw [if_neg (by decide), if_neg (by decide)]
      clear hI1 hI2
      go_enter Tryz.func12, Tryz.ntmps12
      go_wp2_with (first
        | (go_at_call 35; refine (HBs.out _).mono ?_; rintro e w1 ⟨rfl, rfl⟩)
        | (go_at_call 38; refine HP.out.mono ?_; rintro e w2 ⟨rfl, hb⟩; have HB := Lib.hid hb; clear hb)
        | (go_at_call 40; refine (HQ.out _ HB.out).mono ?_; rintro e w3 ⟨rfl, hb⟩; have HB3 := Lib.hid (HB.out.trans (hb.mono HB.out.size)); clear hb))
      go_ret
      exact StEnd.same HS.out hi HB3.out
/-- Open. -/
def JOEnd (K : Nat → Prop) (L : List (Nat × TS)) (m : Nat) (Tm : TS) (W : World) (l : List (List ByteArray)) (er : Int) (e : Ending) (w' : World) : Prop :=
  ∃ v K', e = .returned (.tuple #[v, .int .i64 er]) ∧ (∀ k, K k → K' k) ∧ Sts K' L m Tm w' ∧ Kp K W w' ∧ Kd.S kLL 33 w' W.heap.size (fun k => K' k ∧ W.heap.size ≤ k) v l
theorem JOEnd.none {e : Int} (h : Sts K L m Tm W') (hk : Kp K W W') : JOEnd K L m Tm W [] e (.returned (.tuple #[.slice none 0 0, .int .i64 e])) W' :=
  ⟨_, K, rfl, fun k h => h, h, hk, Kd.S_nil _ _ _ _ _⟩
theorem readAll_ok {n : Nat} {T : TS} (hI : Inv n T) (hr : T.room ≤ 2000000) (q : ByteArray) : AllOK (readL T q) where
  small := fun l hl x hx => by
    have h1 := scan_lines (readT T q).1 l hl
    have h2 := lineL_le h1
    have h3 := word_le h1 x hx
    omega
  size := fun k hk => by
    have h1 := scan_lines (readT T q).1
    have h2 : Lines ((readL T q).take k) := fun l hl => h1 l (List.mem_of_mem_take hl)
    rw [putAll_ok h2]
    obtain ⟨r, hd⟩ := scan_dec (readT T q).1
    have h3 := hd.size
    have h4 := read_used T q
    have h5 := hI.good.used
    have e : readL T q = (readL T q).take k ++ (readL T q).drop k := (List.take_append_drop k _).symm
    have h6 : (cat (readL T q) e0).size = (cat ((readL T q).take k) e0).size + (cat ((readL T q).drop k) e0).size := by
      conv => lhs; rw [e, cat_app]
      exact cat_size _ _
    have h7 : (scanV (readT T q).1).1 = readL T q := rfl
    rw [h7] at h3
    show (cat _ e0).size ≤ _
    omega
  many := by
    have := readL_many hI q
    omega
set_option maxHeartbeats 8000000 in
set_option maxRecDepth 100000 in
theorem Sts.jOpen (h : Sts K L m Tm W) (hi : L[i]? = some (p, T)) (hGK : GK K W) (hI : Inv n T) (hn : n + 4 ≤ 1000000) (hr : T.room ≤ 2000000) (q : ByteArray) (hq : q.size ≤ 99000) :
    Calls Tryz.prog 13 #[.pointer (some ⟨p, 0, none⟩), .string q] W (JOEnd K (L.set i (p, openT T q)) m Tm W (openL T q) (openE T q)) := by
  have hG : Hand2.Glob W := hGK.now
  have HS := Lib.hid h
  have HGK := Lib.hid hGK
  have hbs := besN_size q
  have HBs := Lib.hid (beside_call q (by omega))
  obtain ⟨m0, hm0⟩ := hG.g.cell
  have HP := Lib.hid (path_walk (besN q) (by omega) m0 W hG.g.lt hm0)
  clear hm0
  cases hb : pathV (besN q) with
  | false =>
    have HE : Hid (openE T q = 1 ∧ openT T q = T ∧ openL T q = []) := by
      have h1 : openE T q = 1 := by unfold openE; rw [hb]; rfl
      exact ⟨h1, by unfold openT; rw [hb]; rfl, by unfold openL; rw [h1]; rfl⟩
    rw [hb] at HP
    rw [HE.out.1, HE.out.2.1, HE.out.2.2, set_same hi]
    clear h hG hGK hI hb hbs HE
    go_enter Tryz.func13, Tryz.ntmps13
    go_wp2_with (first
      | (go_at_call 35; refine (HBs.out _).mono ?_; rintro e w1 ⟨rfl, rfl⟩)
      | (go_at_call 38; refine HP.out.mono ?_; rintro e w2 ⟨rfl, hb⟩; have HB := Lib.hid hb; clear hb))
    go_ret2
    exact JOEnd.none (HS.out.below HB.out) (Kp.of HB.out)
  | true =>
    rw [hb] at HP
    have hqs := pathV_size hb
    have HbQ : (besN q).size ≤ 100 := by omega
    have hI1 := inv_remove hI (besN q)
    have hr1 : (removeT T (besN q)).room ≤ 2000000 := by rw [remove_room]; exact hr
    have HI := Lib.hid hI
    have HR : Hid (∀ W1, Below W.heap.size W W1 → Calls Tryz.prog 41 #[.pointer (some ⟨p, 0, none⟩), .string (besN q)] W1 (StEnd K (L.set i (p, removeT T (besN q))) m Tm W1 (.int .i64 (removeE T (besN q))))) :=
      fun W1 hb => (HS.out.below hb).Remove hi (HGK.out _ (Kp.of hb)).g hI (by omega) (besN q) (by omega)
    have hall := readAll_ok hI1 hr1 q
    have hoE : openE T q = if readW (removeT T (besN q)) q = true then 0 else anewE (removeT T (besN q)) q (readL (removeT T (besN q)) q) := by unfold openE; rw [hb, if_neg (by decide)]
    have hoT : openT T q = if readW (removeT T (besN q)) q = true then syncT (removeT T (besN q)) else anewT (removeT T (besN q)) q (readL (removeT T (besN q)) q) := by unfold openT; rw [hb, if_neg (by decide)]
    have hoL : openL T q = if openE T q = 0 then readL (removeT T (besN q)) q else [] := rfl
    rw [hoL, hoT, hoE]
    clear hoL hoT hoE h hG hGK hI hb
    obtain ⟨B, hB⟩ : ∃ B, besN q = B := ⟨_, rfl⟩
    rw [hB] at HBs HP HR HbQ hI1 hr1 hall hbs ⊢
    clear hB
    have HRD : Hid (∀ W1, Sts K (L.set i (p, removeT T B)) m Tm W1 → Kp K W W1 → Calls Tryz.prog 17 #[.pointer (some ⟨p, 0, none⟩), .string q] W1 (RdEnd W1 (readL (removeT T B) q) (readW (removeT T B) q))) :=
      fun W1 h1 h2 => h1.jRead (set_at hi _) (HGK.out _ h2) hI1 hr1 q (by omega)
    generalize removeE T B = re at HR
    generalize removeT T B = T1 at HR HRD hI1 hr1 hall ⊢
    generalize readL T1 q = ls at HRD hall ⊢
    have HI1 := Lib.hid hI1
    have HALL := Lib.hid hall
    clear hI1 hr1 hall
    have HSY : Hid (∀ W1, Sts K (L.set i (p, T1)) m Tm W1 → Kp K W W1 → ∀ W2, Below W1.heap.size W1 W2 → ∀ K2 : Nat → Prop, (∀ k, K2 k → K k ∨ (W1.heap.size ≤ k ∧ k < W2.heap.size)) → (∀ k, K k → K2 k) → Calls Tryz.prog 19 #[.pointer (some ⟨p, 0, none⟩)] W2 (StEnd K2 (L.set i (p, syncT T1)) m Tm W2 (.tuple #[]))) := fun W1 h1 h2 W2 hb K2 hk hk' => by
      have := (h1.kept hb hk).Sync (set_at hi T1) (HGK.out _ (h2.trans (Kp.of hb))).g HI1.out (by omega)
      rwa [set_set'] at this
    have HAN : Hid (∀ W1, Sts K (L.set i (p, T1)) m Tm W1 → Kp K W W1 → ∀ W2, Below W1.heap.size W1 W2 → ∀ K2 : Nat → Prop, (∀ k, K2 k → K k ∨ (W1.heap.size ≤ k ∧ k < W2.heap.size)) → (∀ k, K k → K2 k) → ∀ A c, Kd.C kLL W2 A ls.length ls → Calls Tryz.prog 12 #[.pointer (some ⟨p, 0, none⟩), .string q, .slice A ls.length c] W2 (StEnd K2 (L.set i (p, anewT T1 q ls)) m Tm W2 (.int .i64 (anewE T1 q ls)))) := fun W1 h1 h2 W2 hb K2 hk hk' A c hC => by
      have := (h1.kept hb hk).jAnew (set_at hi T1) (((HGK.out.step h2).step (Kp.of hb)).more hk') HI1.out (by omega) q hq A c ls hC HALL.out
      rwa [set_set'] at this
    have hcode := anew_code T1 q ls
    obtain ⟨bw, hbw⟩ : ∃ bw, readW T1 q = bw := ⟨_, rfl⟩
    rw [hbw] at HRD ⊢
    clear hbw
    have HVK : Hid (∀ (w1 w2 w3 : World) (v : Value), Kp K W w1 → Below w1.heap.size w1 w2 → Kd.S kLL 33 w2 w1.heap.size (fun _ => True) v ls → Kp (fun k => K k ∨ (w1.heap.size ≤ k ∧ k < w2.heap.size)) w2 w3 →
        Kd.S kLL 33 w3 W.heap.size (fun k => (K k ∨ (w1.heap.size ≤ k ∧ k < w2.heap.size)) ∧ W.heap.size ≤ k) v ls) := fun w1 w2 w3 v h1 h2 h3 h4 => by
      have hle : W.heap.size ≤ w1.heap.size := h1.size
      refine Kd.S_lower (Kd.S_mono (Kd.S_step (Kd.S_bound h3) (w1 := w3) fun k hk hlt => h4.block (.inr ⟨hk.2.1, hk.2.2.1⟩) hlt) fun k hk => ?_) hle
      exact ⟨.inr ⟨hk.2.1, hk.2.2.1⟩, Nat.le_trans hle hk.2.1⟩
    cases bw with
    | true =>
      rw [if_pos rfl, if_pos rfl, if_pos rfl]
      go_enter Tryz.func13, Tryz.ntmps13
      go_wp2_with (first
        | (go_at_call 35; refine (HBs.out _).mono ?_; rintro e w1 ⟨rfl, rfl⟩)
        | (go_at_call 38; refine HP.out.mono ?_; rintro e w2 ⟨rfl, hb⟩; have HB := Lib.hid hb; clear hb)
        | (go_at_call 41; refine (HR.out _ HB.out).mono ?_; rintro e w3 ⟨rfl, hs3, hk3⟩; have HE3 := Lib.hid hs3; have HK3 := Lib.hid ((Kp.of (K := K) HB.out).trans hk3); clear hs3 hk3)
        | (go_at_call 17; refine (HRD.out _ HE3.out HK3.out).mono ?_; rintro e w4 ⟨v, rfl, hv, hb⟩; obtain ⟨Av, cv, rfl⟩ := Kd.S_slice hv; have HV := Lib.hid hv; have HB4 := Lib.hid hb; clear hv hb)
        | (go_at_call 19; refine (HSY.out _ HE3.out HK3.out _ HB4.out _ (fun k hk => hk) (fun k hk => .inl hk)).mono ?_; rintro e w5 ⟨rfl, hs5, hk5⟩; have HE5 := Lib.hid hs5; have HK5 := Lib.hid hk5; clear hs5 hk5))
      go_ret2
      exact ⟨_, _, rfl, fun k hk => .inl hk, HE5.out, (HK3.out.trans (Kp.of HB4.out)).trans (HK5.out.mono fun k hk => .inl hk), HVK.out _ _ _ _ HK3.out HB4.out HV.out HK5.out⟩
    | false =>
      have hff : ¬ (false = true) := by decide
      simp only [if_neg hff]
      clear hff
      generalize anewE T1 q ls = er at hcode HAN ⊢
      generalize anewT T1 q ls = T2 at HAN ⊢
      clear HSY
      rcases hcode with rfl | hcode
      · rw [if_pos rfl]
        go_enter Tryz.func13, Tryz.ntmps13
        go_wp2_with (first
          | (go_at_call 35; refine (HBs.out _).mono ?_; rintro e w1 ⟨rfl, rfl⟩)
          | (go_at_call 38; refine HP.out.mono ?_; rintro e w2 ⟨rfl, hb⟩; have HB := Lib.hid hb; clear hb)
          | (go_at_call 41; refine (HR.out _ HB.out).mono ?_; rintro e w3 ⟨rfl, hs3, hk3⟩; have HE3 := Lib.hid hs3; have HK3 := Lib.hid ((Kp.of (K := K) HB.out).trans hk3); clear hs3 hk3)
          | (go_at_call 17; refine (HRD.out _ HE3.out HK3.out).mono ?_; rintro e w4 ⟨v, rfl, hv, hb⟩; obtain ⟨Av, cv, rfl⟩ := Kd.S_slice hv; have HC4 := Lib.hid (Kd.S_reads' hv).2.2; have HV := Lib.hid hv; have HB4 := Lib.hid hb; clear hv hb)
          | (go_at_call 12; refine (HAN.out _ HE3.out HK3.out _ HB4.out _ (fun k hk => hk) (fun k hk => .inl hk) _ _ HC4.out).mono ?_; rintro e w5 ⟨rfl, hs5, hk5⟩; have HE5 := Lib.hid hs5; have HK5 := Lib.hid hk5; clear hs5 hk5))
        go_ret2
        exact ⟨_, _, rfl, fun k hk => .inl hk, HE5.out, (HK3.out.trans (Kp.of HB4.out)).trans (HK5.out.mono fun k hk => .inl hk), HVK.out _ _ _ _ HK3.out HB4.out HV.out HK5.out⟩
      · rcases hcode with rfl | rfl | rfl | rfl | rfl
        all_goals
          rw [if_neg (by decide)]
          go_enter Tryz.func13, Tryz.ntmps13
          go_wp2_with (first
            | (go_at_call 35; refine (HBs.out _).mono ?_; rintro e w1 ⟨rfl, rfl⟩)
            | (go_at_call 38; refine HP.out.mono ?_; rintro e w2 ⟨rfl, hb⟩; have HB := Lib.hid hb; clear hb)
            | (go_at_call 41; refine (HR.out _ HB.out).mono ?_; rintro e w3 ⟨rfl, hs3, hk3⟩; have HE3 := Lib.hid hs3; have HK3 := Lib.hid ((Kp.of (K := K) HB.out).trans hk3); clear hs3 hk3)
            | (go_at_call 17; refine (HRD.out _ HE3.out HK3.out).mono ?_; rintro e w4 ⟨v, rfl, hv, hb⟩; obtain ⟨Av, cv, rfl⟩ := Kd.S_slice hv; have HC4 := Lib.hid (Kd.S_reads' hv).2.2; have HV := Lib.hid hv; have HB4 := Lib.hid hb; clear hv hb)
            | (go_at_call 12; refine (HAN.out _ HE3.out HK3.out _ HB4.out _ (fun k hk => hk) (fun k hk => .inl hk) _ _ HC4.out).mono ?_; rintro e w5 ⟨rfl, hs5, hk5⟩; have HE5 := Lib.hid hs5; have HK5 := Lib.hid hk5; clear hs5 hk5))
          go_ret2
          exact JOEnd.none (HE5.out.drop fun k hk => .inl hk) ((HK3.out.trans (Kp.of HB4.out)).trans (HK5.out.mono fun k hk => .inl hk))
end
end Go.Proofs.YtebfkifhkaeknaaGreatDoor.Fr
/- Rows of lists that a law gathers; what Open told is kept. -/
namespace Go.Proofs.YtebfkifhkaeknaaGreatDoor.Fr
open Go.RowKit Go.Proofs.YtebfkifhkaeknaaGreatDoor.F Go.Proofs.YtebfkifhkaeknaaGreatDoorW.PrintWords
set_option linter.unusedVariables false
set_option linter.unusedSimpArgs false
section
variable {w W W' W1 : World} {K K' : Nat → Prop} {m n p : Nat} {L L' : List (Nat × TS)} {T T' Tm Tm' : TS} {V V' : List Vw}
theorem Law.gk (h : Law w K m L Tm V W) : GK K W := fun W' hk => h.g0.below (h.bel.trans (hk.below h.bel.size h.kw))
/-- What is new and was told is kept. -/
theorem Law.told (h : Law w K m L Tm V W) {P : Vw} (hK : ∀ k, K k → K' k) (hs : Sts K' L' m Tm' W') (hk : Kp K W W') (hP : P W') (hst : ∀ W1 W2, Kp K' W1 W2 → P W1 → P W2) : Law w K' m L' Tm' (P :: V) W' :=
  { h.step (hs.drop hK) hk with
    sts := hs
    kw := fun k hk => hK k (h.kw k hk)
    vs := fun x hx => by
      rcases List.mem_cons.1 hx with rfl | hx
      · exact ⟨hP, hst⟩
      · exact ⟨((h.step (hs.drop hK) hk).vs x hx).1, fun W1 W2 hk => (h.vs x hx).2 W1 W2 (hk.mono hK)⟩ }
/-- Open's list: kept. -/
theorem Law.opened (h : Law w K m L Tm V W) {l : List (List ByteArray)} {v : Value} (hK : ∀ k, K k → K' k) (hs : Sts K' L' m Tm W') (hk : Kp K W W') (hv : Kd.S kLL 33 W' W.heap.size (fun k => K' k ∧ W.heap.size ≤ k) v l) :
    Law w K' m L' Tm ((fun W2 => Kd.S kLL 33 W2 W.heap.size (fun k => K' k ∧ W.heap.size ≤ k) v l) :: V) W' :=
  h.told hK hs hk hv fun W1 W2 hk h1 => Kd.S_step h1 fun k hk1 hlt => hk.block hk1.1 hlt
/-- Read's list: kept. -/
theorem Law.reads (h : Law w K m L Tm V W) {l : List (List ByteArray)} {v : Value} (hb : Below W.heap.size W W') (hv : Kd.S kLL 33 W' W.heap.size (fun _ => True) v l) :
    ∃ (K' O : Nat → Prop), Law w K' m L Tm ((fun W2 => Kd.S kLL 33 W2 W.heap.size O v l) :: V) W' ∧ ∀ k, K k → K' k := by
  refine ⟨fun k => K k ∨ (W.heap.size ≤ k ∧ k < W'.heap.size), fun k => W.heap.size ≤ k ∧ k < W'.heap.size, ?_, fun k hk => .inl hk⟩
  refine h.told (fun k hk => .inl hk) (h.sts.kept hb fun k hk => hk) (Kp.of hb) ?_ ?_
  · exact Kd.S_mono (Kd.S_bound hv) fun k hk => ⟨hk.2.1, hk.2.2.1⟩
  · intro W1 W2 hk h1
    exact Kd.S_step h1 fun k hk1 hlt => hk.block (.inr hk1) hlt
theorem S_at {W : World} {b : Nat} {ok : Nat → Prop} {v : Value} {l : List (List ByteArray)} (h : Kd.S kLL 33 W b ok v l) : ∃ A c, v = .slice A l.length c ∧ l.length ≤ c ∧ Kd.C kLL W A l.length l := Kd.S_reads h
/-- v: a row of the law's own, of lists that lay there when the law began. -/
structure InAt (w : World) (K : Nat → Prop) (W : World) (v : Value) (xs : List (List ByteArray)) (cells : List Value) : Prop where
  len : cells.length = xs.length
  row : W.ownsRow w.heap.size 33 1 v xs.length cells
  rk : ∀ k, v.ownBlock = some k → K k
  el : ∀ (i : Nat) (x : List ByteArray), xs[i]? = some x → ∃ A c, cells[i]? = some (Value.slice A x.length c) ∧ x.length ≤ c ∧ Kd.C Kd.string w A x.length x
section
variable {v v' : Value} {xs : List (List ByteArray)} {cells : List Value}
theorem InAt.kp (h : InAt w K W v xs cells) (hk : Kp K W W') : InAt w K W' v xs cells where
  len := h.len
  row := ownsRow_block h.row fun k hv => hk.block (h.rk k hv) (own_lt h.row k hv)
  rk := h.rk
  el := h.el
theorem InAt.below (h : InAt w K W v xs cells) (hb : Below W.heap.size W W') : InAt w K W' v xs cells := h.kp (Kp.of hb)
theorem InAt.more (h : InAt w K W v xs cells) (hK : ∀ k, K k → K' k) : InAt w K' W v xs cells := { h with rk := fun k hk => hK k (h.rk k hk) }
theorem in_nil (w W : World) (K : Nat → Prop) : InAt w K W (Value.slice none 0 0) [] [] where
  len := rfl
  row := own_nil _ _ _ _
  rk := fun k hk => by simp [Value.ownBlock] at hk
  el := fun i c hc => by simp at hc
theorem InAt.slice (h : InAt w K W v xs cells) : ∃ A c, v = .slice A xs.length c := by
  rcases h.row.2 with ⟨rfl, e⟩ | ⟨g, cap, cur, rfl, _⟩
  · exact ⟨none, 0, by rw [e]⟩
  · exact ⟨_, _, rfl⟩
theorem kd_str_below {W2 : World} {A : Option Addr} {x : List ByteArray} (h : Kd.C Kd.string w A x.length x) (hb : Below w.heap.size w W2) : Kd.C Kd.string W2 A x.length x := Kd.C_below h hb
theorem InAt.reads (h : InAt w K W v xs cells) (hb : Below w.heap.size w W) : ∃ A c, v = .slice A xs.length c ∧ xs.length ≤ c ∧ Kd.C kLL W A xs.length xs := by
  have hR : OwnRow (kLL.K W) 33 1 W w.heap.size v xs := by
    refine ⟨cells, h.row, by rw [h.len, Nat.mul_one], fun j x hj => ?_⟩
    obtain ⟨A, c, h1, h2, h3⟩ := h.el j x hj
    refine ⟨A, c, ?_, h2, Kd.C_below h3 hb⟩
    rw [Nat.mul_one]
    obtain ⟨hlt, hget⟩ := List.getElem?_eq_some_iff.1 h1
    rw [List.drop_eq_getElem_cons hlt, hget]
    rfl
  obtain ⟨A, c, h1, h2, h3⟩ := hR.reads
  exact ⟨A, c, h1, h2, h3⟩
/-- Behind 'xs = append(xs, x)': another row that lies elsewhere, and whatever is no such block, stays. -/
theorem in_step {w2 : World} {A1 : Option Addr} {n1 : Nat} {x : List ByteArray} (hL : Law w K m L Tm V W) (hN : InAt w K W v xs cells) (hx : x.length ≤ n1) (hC : Kd.C Kd.string w A1 x.length x)
    (hV : ∀ P ∈ V, ∀ W1 W2, Chg (fun k => v.ownBlock = some k) W1 W2 → W.heap.size ≤ W1.heap.size → P W1 → P W2)
    (h1 : w2.ownsRow w.heap.size 33 1 v' (xs.length + 1) (cells ++ [.slice A1 x.length n1])) (h2 : (W.alloc (.cells #[.slice A1 x.length n1] 33)).grownBy w2 v.ownBlock)
    (h4 : v'.ownBlock = v.ownBlock ∨ v'.ownBlock = some (W.alloc (.cells #[.slice A1 x.length n1] 33)).heap.size) :
    ∃ K', Law w K' m L Tm V w2 ∧ InAt w K' w2 v' (xs ++ [x]) (cells ++ [.slice A1 x.length n1]) ∧ (∀ k, K k → K' k) ∧ Chg (fun k => v.ownBlock = some k) W w2 ∧ (v'.ownBlock = v.ownBlock ∨ ∃ k, v'.ownBlock = some k ∧ W.heap.size ≤ k) := by
  have hbA : Below W.heap.size W (W.alloc (.cells #[.slice A1 x.length n1] 33)) := newBelow _ _
  obtain ⟨Wa, hWa⟩ : ∃ Wa, Wa = W.alloc (.cells #[.slice A1 x.length n1] 33) := ⟨_, rfl⟩
  have hsz1 : Wa.heap.size = W.heap.size + 1 := by rw [hWa, World.size_alloc]
  rw [← hWa] at h2 h4 hbA
  have hg2 := h2.size
  have hC1 : Chg (fun k => v.ownBlock = some k) W w2 := (Chg.of_below hbA _).grown h2 fun k e _ => e
  refine ⟨fun k => K k ∨ (W.heap.size ≤ k ∧ k < w2.heap.size), ?_, ?_, fun k hk => .inl hk, hC1, ?_⟩
  · obtain ⟨φ, F, B, hs⟩ := hL.sts
    have hs' : StsAt (fun k => K k ∨ (W.heap.size ≤ k ∧ k < w2.heap.size)) L m Tm w2 φ F B := hs.chg hC1 (fun k e => hN.rk k e) (fun q hq e => by
      obtain ⟨cs, hcs⟩ := own_typed hN.row q e
      cases hf : φ q with
      | none => exact hq hf
      | some f =>
        have := hs.fl q f hf
        rw [hcs] at this
        simp at this) fun k hk => hk
    exact {
      g0 := hL.g0
      sts := ⟨φ, F, B, hs'⟩
      bel := hL.bel.trans (hC1.to_below hL.bel.size fun k e => own_base hN.row k e)
      kw := fun k hk => .inl (hL.kw k hk)
      vs := fun P hP => ⟨hV P hP _ _ hC1 (Nat.le_refl _) (hL.vs P hP).1, fun W1 W2 hk => (hL.vs P hP).2 W1 W2 (hk.mono fun k e => .inl e)⟩ }
  · have hlen := hN.len
    exact {
      len := by rw [List.length_append, List.length_append, hlen]; rfl
      row := by rw [List.length_append]; exact h1
      rk := fun k hk => by
        rcases h4 with e | e
        · rw [e] at hk
          exact .inl (hN.rk k hk)
        · rw [e] at hk
          have hk : Wa.heap.size = k := by simpa using hk
          have hlt := own_lt h1 k (by rw [e, hk])
          exact .inr ⟨by omega, hlt⟩
      el := fun i y hy => by
        by_cases hi : i < xs.length
        · rw [List.getElem?_append_left hi] at hy
          obtain ⟨A, c, e1, e2, e3⟩ := hN.el i y hy
          exact ⟨A, c, by rw [List.getElem?_append_left (by rw [hlen]; exact hi)]; exact e1, e2, e3⟩
        · have hin : i = xs.length := by
            have := (List.getElem?_eq_some_iff.1 hy).1
            rw [List.length_append, List.length_singleton] at this
            omega
          subst hin
          rw [List.getElem?_append_right (Nat.le_refl _), Nat.sub_self] at hy
          have hy : x = y := by simpa using hy
          subst hy
          exact ⟨A1, n1, by rw [List.getElem?_append_right (by rw [hlen]; exact Nat.le_refl _), hlen, Nat.sub_self]; rfl, hx, hC⟩ }
  · rcases h4 with e | e
    · exact .inl e
    · exact .inr ⟨_, e, by omega⟩
/-- Another row stays. -/
theorem InAt.other {u : Value} (h : InAt w K W v xs cells) (hc : Chg (fun k => u.ownBlock = some k) W W') (hne : ∀ k, v.ownBlock = some k → u.ownBlock ≠ some k) : InAt w K W' v xs cells where
  len := h.len
  row := ownsRow_block h.row fun k hv => hc.block k (own_lt h.row k hv) (hne k hv)
  rk := h.rk
  el := h.el
end
end
end Go.Proofs.YtebfkifhkaeknaaGreatDoor.Fr
/- sameAll, tiny, pick, plain. -/
namespace Go.Proofs.YtebfkifhkaeknaaGreatDoor.Fr
open Go.RowKit Go.Proofs.YtebfkifhkaeknaaGreatDoor.F Go.Proofs.YtebfkifhkaeknaaGreatDoorW.PrintWords
set_option linter.unusedVariables false
set_option linter.unusedSimpArgs false
theorem w64i {x : Int} (h0 : -9223372036854775808 ≤ x) (h1 : x ≤ 9223372036854775807) : wrap64 x = x := by unfold wrap64; omega
theorem w64k (i : Nat) (h : i ≤ 100000000000) : wrap64 ((i : Int) + 1) = ((i + 1 : Nat) : Int) := by rw [w64i (by omega) (by omega)]; omega
theorem rdLL {a : List (List ByteArray)} {i : Nat} (h : i < a.length) : rd_L1 a (i : Int) = a[i] := by
  unfold rd_L1
  rw [Int.toNat_natCast, List.getD_eq_getElem?_getD, List.getElem?_eq_getElem h, Option.getD_some]
theorem rdS {l : List ByteArray} {i : Nat} (h : i < l.length) : rdOf ByteArray.empty l (i : Int) = l[i] := by
  unfold rdOf
  rw [Int.toNat_natCast, List.getD_eq_getElem?_getD, List.getElem?_eq_getElem h, Option.getD_some]
theorem tl_eq {a b : ByteArray} : a.toList = b.toList ↔ a = b := ⟨fun h => ba_eq (by rw [← ByteArray.toList_eq, ← ByteArray.toList_eq]; exact h), fun h => by rw [h]⟩
theorem same_l1 (a b : List (List ByteArray)) (hl : a.length ≤ 100000000) (i : Nat) (hi : i < a.length) (hib : i < b.length) (hs : a[i].length = b[i].length) (hsl : a[i].length ≤ 100000000)
    (K : Ev fun k => cooperagelaw6_sameAll.l0 k a b ((i + 1 : Nat) : Int) = some (decide (a.drop (i + 1) = b.drop (i + 1)))) :
    ∀ (n j : Nat), j + n = a[i].length → Ev fun k => cooperagelaw6_sameAll.l1 k a b (i : Int) (j : Int) = some (decide (a[i].drop j = b[i].drop j ∧ a.drop (i + 1) = b.drop (i + 1))) := by
  have hr := rdLL hi
  have hrb := rdLL hib
  intro n
  induction n with
  | zero =>
    intro j hj
    refine Ev.up (K.mp fun k hk => ?_)
    unfold cooperagelaw6_sameAll.l1
    rw [if_pos (by omega), if_pos (by omega), hr, if_neg (by omega), w64k i (by omega), hk]
    have e1 : a[i].drop j = [] := List.drop_eq_nil_of_le (by omega)
    have e2 : b[i].drop j = [] := List.drop_eq_nil_of_le (by omega)
    rw [e1, e2]
    simp
  | succ n ih =>
    intro j hj
    have h1 : j < a[i].length := by omega
    have h2 : j < b[i].length := by omega
    have d1 := List.drop_eq_getElem_cons h1
    have d2 := List.drop_eq_getElem_cons h2
    by_cases he : a[i][j] = b[i][j]
    · refine Ev.up ((ih (j + 1) (by omega)).mp fun k hk => ?_)
      unfold cooperagelaw6_sameAll.l1
      rw [if_pos (by omega), if_pos (by omega), hr, if_pos (by omega), if_pos (by omega), if_pos (by omega), hrb, if_pos (by omega), rdS h1, rdS h2, if_pos (tl_eq.2 he), w64k j (by omega), hk]
      have e3 : (a[i].drop j = b[i].drop j) ↔ (a[i].drop (j + 1) = b[i].drop (j + 1)) := by rw [d1, d2, he]; exact ⟨fun h => (List.cons.inj h).2, fun h => by rw [h]⟩
      simp only [e3]
    · refine Ev.up (Ev.of fun k => ?_)
      unfold cooperagelaw6_sameAll.l1
      rw [if_pos (by omega), if_pos (by omega), hr, if_pos (by omega), if_pos (by omega), if_pos (by omega), hrb, if_pos (by omega), rdS h1, rdS h2, if_neg (fun e => he (tl_eq.1 e))]
      have e3 : ¬ (a[i].drop j = b[i].drop j) := by rw [d1, d2]; exact fun h => he (List.cons.inj h).1
      simp [e3]
theorem same_l0 (a b : List (List ByteArray)) (hl : a.length ≤ 100000000) (hll : a.length = b.length) (ha : ∀ x ∈ a, x.length ≤ 100000000) :
    ∀ (n i : Nat), i + n = a.length → Ev fun k => cooperagelaw6_sameAll.l0 k a b (i : Int) = some (decide (a.drop i = b.drop i)) := by
  intro n
  induction n with
  | zero =>
    intro i hi
    refine Ev.up (Ev.of fun k => ?_)
    unfold cooperagelaw6_sameAll.l0
    rw [if_neg (by omega), List.drop_eq_nil_of_le (by omega), List.drop_eq_nil_of_le (by omega)]
    simp
  | succ n ih =>
    intro i hi
    have h1 : i < a.length := by omega
    have h2 : i < b.length := by omega
    have d1 := List.drop_eq_getElem_cons h1
    have d2 := List.drop_eq_getElem_cons h2
    by_cases hs : a[i].length = b[i].length
    · refine Ev.up ((same_l1 a b hl i h1 h2 hs (ha _ (List.getElem_mem h1)) (ih (i + 1) (by omega)) a[i].length 0 (by omega)).mp fun k hk => ?_)
      unfold cooperagelaw6_sameAll.l0
      have hk' : cooperagelaw6_sameAll.l1 k a b (i : Int) 0 = _ := hk
      rw [if_pos (by omega), if_pos (by omega), if_pos (by omega), rdLL h1, rdLL h2, if_pos (by omega), hk', List.drop_zero, List.drop_zero]
      have e3 : (a.drop i = b.drop i) ↔ (a[i] = b[i] ∧ a.drop (i + 1) = b.drop (i + 1)) := by rw [d1, d2]; exact ⟨fun h => ⟨(List.cons.inj h).1, (List.cons.inj h).2⟩, fun h => by rw [h.1, h.2]⟩
      simp only [e3]
    · refine Ev.up (Ev.of fun k => ?_)
      unfold cooperagelaw6_sameAll.l0
      rw [if_pos (by omega), if_pos (by omega), if_pos (by omega), rdLL h1, rdLL h2, if_neg (by omega)]
      have e3 : ¬ (a.drop i = b.drop i) := by
        rw [d1, d2]
        exact fun h => hs (by rw [(List.cons.inj h).1])
      simp [e3]
theorem same_all (a b : List (List ByteArray)) (hl : a.length ≤ 100000000) (ha : ∀ x ∈ a, x.length ≤ 100000000) : ∃ k, cooperagelaw6_sameAll.f k a b = some (decide (a = b)) := by
  by_cases h : a.length = b.length
  · refine ((same_l0 a b hl h ha a.length 0 (by omega)).mp fun k hk => ?_).get
    have hk' : cooperagelaw6_sameAll.l0 k a b 0 = _ := hk
    unfold cooperagelaw6_sameAll.f
    rw [if_pos (by omega), hk', List.drop_zero, List.drop_zero]
  · refine ⟨0, ?_⟩
    unfold cooperagelaw6_sameAll.f
    rw [if_neg (by omega)]
    have : ¬ a = b := fun e => h (by rw [e])
    simp [this]
theorem same_call {W : World} {A B : Option Addr} {c d : Nat} {a b : List (List ByteArray)} (ha : Kd.C kLL W A a.length a) (hc : a.length ≤ c) (hb : Kd.C kLL W B b.length b) (hd : b.length ≤ d) (h1 : a.length ≤ 100000000) (h2 : ∀ x ∈ a, x.length ≤ 100000000) :
    Calls Tryz.prog 14 #[.slice A a.length c, .slice B b.length d] W fun e w' => e = .returned (.bool (decide (a = b))) ∧ Below W.heap.size W w' := by
  obtain ⟨k, hk⟩ := same_all a b h1 h2
  exact (cooperagelaw6_sameAll.calls k A c a B d b _ W ha hc hb hd hk).mono fun e w' h => ⟨h.1, h.2.below⟩
theorem same_yes {W : World} {A B : Option Addr} {c d : Nat} {a b : List (List ByteArray)} (ha : Kd.C kLL W A a.length a) (hc : a.length ≤ c) (hb : Kd.C kLL W B b.length b) (hd : b.length ≤ d) (h1 : a.length ≤ 100000000) (h2 : ∀ x ∈ a, x.length ≤ 100000000) (e : a = b) :
    Calls Tryz.prog 14 #[.slice A a.length c, .slice B b.length d] W fun e w' => e = .returned (.bool true) ∧ Below W.heap.size W w' := by
  have := same_call ha hc hb hd h1 h2
  rwa [decide_eq_true e] at this
theorem same_no {W : World} {A B : Option Addr} {c d : Nat} {a b : List (List ByteArray)} (ha : Kd.C kLL W A a.length a) (hc : a.length ≤ c) (hb : Kd.C kLL W B b.length b) (hd : b.length ≤ d) (h1 : a.length ≤ 100000000) (h2 : ∀ x ∈ a, x.length ≤ 100000000) (e : ¬ a = b) :
    Calls Tryz.prog 14 #[.slice A a.length c, .slice B b.length d] W fun e w' => e = .returned (.bool false) ∧ Below W.heap.size W w' := by
  have := same_call ha hc hb hd h1 h2
  rwa [decide_eq_false e] at this
def TinyP (l : List ByteArray) : Prop := l.length ≤ 45 ∧ ∀ x ∈ l, x.size ≤ 60
theorem tiny_l1 (ls : List (List ByteArray)) (hls : ls.length ≤ 20) (i : Nat) (hi : i < ls.length) (hl : ls[i].length ≤ 45) (K : ∃ b, (Ev fun k => cooperagelaw6_tiny.l0 k ls ((i + 1 : Nat) : Int) = some b) ∧ (b = true → ∀ l ∈ ls.drop (i + 1), TinyP l)) :
    ∀ (n j : Nat), j + n = ls[i].length → ∃ b, (Ev fun k => cooperagelaw6_tiny.l1 k ls (i : Int) (j : Int) = some b) ∧ (b = true → (∀ x ∈ ls[i].drop j, x.size ≤ 60) ∧ ∀ l ∈ ls.drop (i + 1), TinyP l) := by
  have hr := rdLL hi
  intro n
  induction n with
  | zero =>
    intro j hj
    obtain ⟨b, hb, hp⟩ := K
    refine ⟨b, Ev.up (hb.mp fun k hk => ?_), fun h => ⟨fun x hx => ?_, hp h⟩⟩
    · unfold cooperagelaw6_tiny.l1
      rw [if_pos (by omega), if_pos (by omega), hr, if_neg (by omega), w64k i (by omega)]
      exact hk
    · rw [List.drop_eq_nil_of_le (by omega)] at hx
      exact absurd hx (by simp)
  | succ n ih =>
    intro j hj
    have hlt : j < ls[i].length := by omega
    have hr2 := rdS hlt
    by_cases h60 : ls[i][j].size ≤ 60
    · obtain ⟨b, hb, hp⟩ := ih (j + 1) (by omega)
      refine ⟨b, Ev.up (hb.mp fun k hk => ?_), fun h => ⟨fun x hx => ?_, (hp h).2⟩⟩
      · unfold cooperagelaw6_tiny.l1
        rw [if_pos (by omega), if_pos (by omega), hr, if_pos (by omega), if_pos (by omega), hr2, if_neg (by omega), w64k j (by omega)]
        exact hk
      · rw [List.drop_eq_getElem_cons hlt] at hx
        rcases List.mem_cons.1 hx with e | e
        · subst e
          exact h60
        · exact (hp h).1 x e
    · refine ⟨false, Ev.up (Ev.of fun k => ?_), fun h => by cases h⟩
      unfold cooperagelaw6_tiny.l1
      rw [if_pos (by omega), if_pos (by omega), hr, if_pos (by omega), if_pos (by omega), hr2, if_pos (by omega)]
theorem tiny_l0 (ls : List (List ByteArray)) (hls : ls.length ≤ 20) : ∀ (n i : Nat), i + n = ls.length → ∃ b, (Ev fun k => cooperagelaw6_tiny.l0 k ls (i : Int) = some b) ∧ (b = true → ∀ l ∈ ls.drop i, TinyP l) := by
  intro n
  induction n with
  | zero =>
    intro i hi
    refine ⟨true, Ev.up (Ev.of fun k => ?_), fun _ l hl => ?_⟩
    · unfold cooperagelaw6_tiny.l0
      rw [if_neg (by omega)]
    · rw [List.drop_eq_nil_of_le (by omega)] at hl
      exact absurd hl (by simp)
  | succ n ih =>
    intro i hi
    have hlt : i < ls.length := by omega
    have hr := rdLL hlt
    by_cases h50 : ls[i].length ≤ 45
    · obtain ⟨b, hb, hp⟩ := tiny_l1 ls hls i hlt h50 (ih (i + 1) (by omega)) ls[i].length 0 (by omega)
      refine ⟨b, Ev.up (hb.mp fun k hk => ?_), fun h l hl => ?_⟩
      · unfold cooperagelaw6_tiny.l0
        rw [if_pos (by omega), if_pos (by omega), hr, if_neg (by omega)]
        exact hk
      · rw [List.drop_eq_getElem_cons hlt] at hl
        rcases List.mem_cons.1 hl with e | e
        · subst e
          exact ⟨h50, (hp h).1⟩
        · exact (hp h).2 l e
    · refine ⟨false, Ev.up (Ev.of fun k => ?_), fun h => by cases h⟩
      unfold cooperagelaw6_tiny.l0
      rw [if_pos (by omega), if_pos (by omega), hr, if_pos (by omega)]
def TinyL (ls : List (List ByteArray)) : Prop := ls.length ≤ 20 ∧ ∀ l ∈ ls, TinyP l
theorem tiny_f (ls : List (List ByteArray)) : ∃ b k, cooperagelaw6_tiny.f k ls = some b ∧ (b = true → TinyL ls) := by
  by_cases h : ls.length ≤ 20
  · obtain ⟨b, hb, hp⟩ := tiny_l0 ls h ls.length 0 (by omega)
    obtain ⟨k, hk⟩ := hb.get
    refine ⟨b, k, ?_, fun hb => ⟨h, hp hb⟩⟩
    unfold cooperagelaw6_tiny.f
    rw [if_neg (by omega)]
    exact hk
  · refine ⟨false, 0, ?_, fun h => by cases h⟩
    unfold cooperagelaw6_tiny.f
    rw [if_pos (by omega)]
def TinyEnd (ls : List (List ByteArray)) (W : World) (e : Ending) (w' : World) : Prop := ∃ b, e = .returned (.bool b) ∧ (b = true → TinyL ls) ∧ Below W.heap.size W w'
theorem tiny_call {W : World} {A : Option Addr} {c : Nat} {a : List (List ByteArray)} (ha : Kd.C kLL W A a.length a) (hc : a.length ≤ c) :
    Calls Tryz.prog 9 #[.slice A a.length c] W (TinyEnd a W) := by
  obtain ⟨b, k, hk, hb⟩ := tiny_f a
  exact (cooperagelaw6_tiny.calls k A c a _ W ha hc hk).mono fun e w' h => ⟨b, h.1, hb, h.2.below⟩
def pickI (c n : Int) : Int := if c < 0 then Int.tmod (-(c + 1)) n else Int.tmod c n
theorem pickn_f (c n : Int) (h0 : -9223372036854775808 ≤ c ∧ c ≤ 9223372036854775807) (h1 : 1 ≤ n) : cooperagelaw6_pick.f c n = some (pickI c n) := by
  unfold cooperagelaw6_pick.f pickI
  by_cases h : c < 0
  · rw [if_pos h, if_neg (by omega), if_pos h]
    have e : wrap64 (-(wrap64 (c + 1))) = -(c + 1) := by unfold wrap64; omega
    rw [e]
  · rw [if_neg h, if_neg (by omega), if_neg h]
theorem pickn_lt (c n : Int) (h1 : 1 ≤ n) : 0 ≤ pickI c n ∧ pickI c n < n := by
  unfold pickI
  split
  · rw [Int.tmod_eq_emod_of_nonneg (by omega)]
    exact ⟨Int.emod_nonneg _ (by omega), Int.emod_lt_of_pos _ (by omega)⟩
  · rw [Int.tmod_eq_emod_of_nonneg (by omega)]
    exact ⟨Int.emod_nonneg _ (by omega), Int.emod_lt_of_pos _ (by omega)⟩
theorem pick6_call (c n : Int) (h0 : -9223372036854775808 ≤ c ∧ c ≤ 9223372036854775807) (h1 : 1 ≤ n) (W : World) : Calls Tryz.prog 18 #[.int .i64 c, .int .i64 n] W fun e w' => e = .returned (.int .i64 (pickI c n)) ∧ Below W.heap.size W w' :=
  (cooperagelaw6_pick.calls c n _ W (pickn_f c n h0 h1)).mono fun e w' h => ⟨h.1, h.2.below⟩
end Go.Proofs.YtebfkifhkaeknaaGreatDoor.Fr
/- One journal: what a law tells of it, plain. -/
namespace Go.Proofs.YtebfkifhkaeknaaGreatDoor.Fr
open Go.RowKit Go.Proofs.YtebfkifhkaeknaaGreatDoor.F Go.Proofs.YtebfkifhkaeknaaGreatDoorW.PrintWords
open Go.Proofs.YtebfkifhkaeknaaGreatDoor.Hand (putV takeV scanV)
open Go.Proofs.YtebfkifhkaeknaaGreatDoor.PureL (cat cat_app cat_behind cat_size)
set_option linter.unusedVariables false
set_option linter.unusedSimpArgs false
def logB : ByteArray := ⟨#[108, 111, 103]⟩
def lgnB : ByteArray := ⟨#[108, 111, 103, 46, 110, 101, 119]⟩
theorem bes_log : besN logB = lgnB := by kernel_rfl
def logN : List ByteArray := [logB, lgnB]
theorem ns_of {N : List ByteArray} (h1 : (N.all fun a => N.all fun b => !wayF a b) = true) (h2 : N.all pathV = true) (h3 : N.length ≤ 100) : NS N where
  way := fun a ha b hb => by
    have := List.all_eq_true.1 (List.all_eq_true.1 h1 a ha) b hb
    simpa using this
  path := fun a ha => List.all_eq_true.1 h2 a ha
  many := h3
theorem ns_log : NS logN := ns_of (by kernel_rfl) (by kernel_rfl) (by decide)
theorem log_mem : logB ∈ logN := List.mem_cons_self ..
theorem lgn_mem : besN logB ∈ logN := by rw [bes_log]; exact List.mem_cons_of_mem _ (List.mem_cons_self ..)
theorem lgn_ne : besN logB ≠ logB := by
  rw [bes_log]
  intro e
  have := congrArg ByteArray.size e
  exact absurd this (by decide)
/-- A journal alone: xs at the last sync, ys since. -/
def at1 (q : ByteArray) (xs : List (List ByteArray)) : ByteArray → List (List ByteArray) := fun p => if p = q then xs else []
theorem sel_own (q : ByteArray) (ys : List (List ByteArray)) : sel q (ys.map fun y => (q, y)) = ys := by
  induction ys with
  | nil => rfl
  | cons y r ih => rw [List.map_cons, sel, if_pos rfl, ih]
theorem sel_not {q p : ByteArray} (h : q ≠ p) (ys : List (List ByteArray)) : sel p (ys.map fun y => (q, y)) = [] := by
  induction ys with
  | nil => rfl
  | cons y r ih => rw [List.map_cons, sel, if_neg h, ih]
theorem at1_add (q : ByteArray) (xs ys : List (List ByteArray)) : (fun p => at1 q xs p ++ sel p (ys.map fun y => (q, y))) = at1 q (xs ++ ys) := by
  funext p
  unfold at1
  by_cases h : p = q
  · rw [if_pos h, if_pos h, h, sel_own]
  · rw [if_neg h, if_neg h, sel_not (fun e => h e.symm)]
    rfl
structure J1 (R : Nat) (N : List ByteArray) (q : ByteArray) (n u : Nat) (T : TS) (xs ys : List (List ByteArray)) : Prop where
  jl : Jl R N n u T (at1 q xs) (ys.map fun y => (q, y))
section
variable {R : Nat} {N : List ByteArray} {q : ByteArray} {n u : Nat} {T : TS} {xs ys : List (List ByteArray)}
theorem j1_new {R : Nat} (h1 : 1 ≤ R) (h2 : R ≤ 2000000) (N : List ByteArray) (q : ByteArray) : J1 R N q 0 0 (newT R) [] [] := ⟨{ jl_new h1 h2 N with
  last := fun p => by
    have : at1 q [] p = [] := by unfold at1; split <;> rfl
    rw [this]
    exact (jl_new h1 h2 N).last p
  xl := fun p => by
    have : at1 q [] p = [] := by unfold at1; split <;> rfl
    rw [this]
    exact fun l hl => by cases hl }⟩
theorem J1.mono {n' u' : Nat} (h : J1 R N q n u T xs ys) (h1 : n ≤ n') (h2 : u ≤ u') : J1 R N q n' u' T xs ys := ⟨h.jl.mono h1 h2⟩
theorem J1.sync (h : J1 R N q n u T xs ys) : J1 R N q n u (syncT T) (xs ++ ys) [] := ⟨by
  have := h.jl.sync
  rw [at1_add] at this
  exact this⟩
theorem J1.inv (h : J1 R N q n u T xs ys) : Inv n T := h.jl.jn.inv
theorem J1.room (h : J1 R N q n u T xs ys) : T.room ≤ 2000000 := by have := h.jl.jn.rle; rw [h.jl.jn.room]; omega
theorem J1.add (hN : NS N) (h : J1 R N q n u T xs ys) (hq : q ∈ N) (hb : besN q ∈ N) {l : List ByteArray} (hl : (putV l).2 = 0) {b : Nat} (hs : (putV l).1.size ≤ b) (hu : u + b ≤ R) :
    addE T q l = 0 ∧ J1 R N q (n + 1) (u + b) (addT T q l) xs (ys ++ [l]) := by
  obtain ⟨h1, h2, h3⟩ := h.jl.add hN hq hb hl hs hu
  refine ⟨h1, ⟨?_⟩⟩
  rw [List.map_append]
  exact h2
theorem J1.lines (h : J1 R N q n u T xs ys) : Lines (xs ++ ys) := by
  have := h.jl.lines q
  unfold at1 at this
  rw [if_pos rfl, sel_own] at this
  exact this
theorem J1.now (h : J1 R N q n u T xs ys) : textF T.l q = cat (xs ++ ys) e0 := by
  have := h.jl.now q
  unfold at1 at this
  rw [if_pos rfl, sel_own] at this
  exact this
theorem J1.crash (h : J1 R N q n u T xs ys) (many part : Int) :
    Jn R N n u (crashT T many part) ∧ ∃ j r, keptN many ys.length ≤ j ∧ j ≤ ys.length ∧ (j = keptN many ys.length ∨ ∃ h : keptN many ys.length < ys.length, ((putV ys[keptN many ys.length]).1.size : Int) ≤ part) ∧ Dec (textF (crashT T many part).l q) (xs ++ ys.take j) r := by
  obtain ⟨h1, h2, j, h3, h4, h6, h5⟩ := h.jl.crash many part
  simp only [List.length_map, List.getElem_map] at h3 h4 h6
  obtain ⟨r, hr⟩ := h5 q
  refine ⟨h1, j, r, h3, h4, h6, ?_⟩
  rw [← List.map_take, sel_own] at hr
  unfold at1 at hr
  rw [if_pos rfl] at hr
  exact hr
end
/-- A journal is read behind it was opened. -/
theorem read_cat {T : TS} {q : ByteArray} {xs : List (List ByteArray)} (hl : Lines xs) (h : textF T.l q = cat xs e0) : readL T q = xs ∧ readW T q = true := by
  have hd : Dec (textF T.l q) xs e0 := by rw [h]; exact dec_cat hl
  constructor
  · unfold readL
    rw [read_text, hd.scan]
  · unfold readW
    rw [read_text, hd.whole]
    rfl
theorem keptN_min (many : Int) (n : Nat) : (keptN many n : Int) = min (max 0 many) n := by unfold keptN; omega
end Go.Proofs.YtebfkifhkaeknaaGreatDoor.Fr
/- begun and alike of chapter 6's laws. -/
namespace Go.Proofs.YtebfkifhkaeknaaGreatDoor.Fr
open Go.RowKit Go.Proofs.YtebfkifhkaeknaaGreatDoor.F Go.Proofs.YtebfkifhkaeknaaGreatDoorW.PrintWords
set_option linter.unusedVariables false
set_option linter.unusedSimpArgs false
/-- How begun ends where there is room. -/
def Begun6End (w : World) (φ : Phi) (room : Int) (e : Ending) (w' : World) : Prop :=
  ∃ p A m B, e = .returned (.tuple #[.agg #[.pointer (some ⟨p, 0, none⟩), .pointer (some ⟨m, 0, none⟩)], .bool true]) ∧ Pr w' φ p A m B (newT room) ∧ Below w.heap.size w w' ∧ (∀ k, A k → w.heap.size ≤ k) ∧ (∀ k, B k → w.heap.size ≤ k) ∧ w.heap.size ≤ m
set_option maxHeartbeats 2000000 in
set_option maxRecDepth 100000 in
theorem begun6_call (w : World) (φ : Phi) (hF : FilesOK w φ) (room : Int) (h1 : 1 ≤ room) (h2 : room ≤ 1073741824) : Calls Tryz.prog 10 #[.int .i64 room] w (Begun6End w φ room) := by
  have HF := Lib.hid hF
  clear hF
  go_enter Tryz.func10, Tryz.ntmps10
  go_wp2_with (first
    | (go_at_call 36; refine (new_call _ φ (HF.out.below (newBelow w _)) room h1 h2).mono ?_; rintro e w1 ⟨p, A, rfl, ht, hb, ha⟩; have HT := Lib.hid ht; have HB := Lib.hid ((newBelow w _).trans (hb.mono (by rw [World.size_alloc]; omega))); have HA := Lib.hid ha; have HAT1 := Lib.hid ((hb.block w.heap.size (by rw [World.size_alloc]; omega)).trans (World.alloc_heap_new w _)); clear ht hb ha)
    | (go_at_call 37; refine (rNew_call _ room h1 h2).mono ?_; rintro e w2 ⟨m, B, rfl, hr, hb2, hm, hB2⟩; have HR := Lib.hid hr; have HB2 := Lib.hid hb2; have HM := Lib.hid hm; have HBB := Lib.hid hB2; have hat2 := (hb2.block w.heap.size (Array.getElem?_eq_some_iff.1 HAT1.out).1).trans HAT1.out; have HAT2 := Lib.hid hat2; have d0 : w2.cell? ⟨w.heap.size, 0, none⟩ = some (.pointer none) := (by simp [World.cell?, hat2]); have d1 : w2.cell? ⟨w.heap.size, 1, none⟩ = some (.pointer none) := (by simp [World.cell?, hat2]); have g0 : w2.frozen? ⟨w.heap.size, 0, none⟩ = false := (by simp [World.frozen?, hat2]); have g1 : w2.frozen? ⟨w.heap.size, 1, none⟩ = false := (by simp [World.frozen?, hat2]); clear hat2 hr hb2 hm hB2))
  have hlt2 : w.heap.size < w2.heap.size := (Array.getElem?_eq_some_iff.1 HAT2.out).1
  have HEND : Hid (Begun6End w φ room (.returned (.tuple #[.agg #[.pointer (some ⟨p, 0, none⟩), .pointer (some ⟨m, 0, none⟩)], .bool true])) ((w2.setCell ⟨w.heap.size, 0, none⟩ (.pointer (some ⟨p, 0, none⟩))).setCell ⟨w.heap.size, 1, none⟩ (.pointer (some ⟨m, 0, none⟩)))) := by
    have hC : Chg (fun k => k = w.heap.size) w2 ((w2.setCell ⟨w.heap.size, 0, none⟩ (.pointer (some ⟨p, 0, none⟩))).setCell ⟨w.heap.size, 1, none⟩ (.pointer (some ⟨m, 0, none⟩))) := ((Chg.refl (fun k => k = w.heap.size) w2).setCell (p := ⟨w.heap.size, 0, none⟩) (fun _ => rfl) _).setCell (p := ⟨w.heap.size, 1, none⟩) (fun _ => rfl) _
    have hA := HA.out
    have hM := HM.out
    have hBB := HBB.out
    have hs1 : w.heap.size + 1 ≤ w1.heap.size := (Array.getElem?_eq_some_iff.1 HAT1.out).1
    have hT2 := HT.out.below HB2.out
    have hsz : (w.alloc (.cells #[.pointer none, .pointer none] 28)).heap.size = w.heap.size + 1 := World.size_alloc _ _
    have hA' : ∀ k, A k → w.heap.size + 1 ≤ k := fun k hk => by have := hA k hk; omega
    refine ⟨p, A, m, B, rfl, ⟨hT2.chg hC (fun k hk e => by have := hA' k hk; omega) (Ext.refl _ _) (hT2.files.chg hC fun q hq e => ?_), HR.out.chg hC (fun e => by omega) (fun k hk e => by have := hBB k hk; omega), fun k hk => ⟨fun e => ?_, fun e => ?_⟩, fun k hk e => ?_⟩, ?_, fun k hk => (by have := hA' k hk; omega), fun k hk => (by have := hBB k hk; omega), by omega⟩
    · have := HF.out.lt hq
      omega
    · have := (HT.out.free hk).1
      omega
    · have h1 := (HT.out.free hk).1
      have h2 := hBB k e
      omega
    · have := HF.out.lt hk
      omega
    · exact ((Chg.of_below (HB.out.trans (HB2.out.mono HB.out.size)) (fun _ => False)).trans hC fun k hk e => by omega).to_below (Nat.le_refl _) fun k hk => hk.elim
  refine bodyPost_ret (v := .tuple #[.agg #[.pointer (some ⟨p, 0, none⟩), .pointer (some ⟨m, 0, none⟩)], .bool true]) ?_ rfl HEND.out
  rw [results_cell_tmp rfl]
  go_simp
theorem VA.slice {w : World} {ok : Nat → Prop} {v : Value} {l : List Fl} (h : VA w ok v (l.map af)) : ∃ A c, v = .slice A l.length c := by
  obtain ⟨A, c, rfl⟩ := Kd.V_slice h
  exact ⟨A, c, by rw [List.length_map]⟩
def PBox6 (p m b : Nat) (W : World) : Prop := W.heap[b]? = some (.cells #[.pointer (some ⟨p, 0, none⟩), .pointer (some ⟨m, 0, none⟩)] 28)
theorem PBox6.cells {W : World} {p m b : Nat} (h : PBox6 p m b W) : W.cell? ⟨b, 0, none⟩ = some (.pointer (some ⟨p, 0, none⟩)) ∧ W.cell? ⟨b, 1, none⟩ = some (.pointer (some ⟨m, 0, none⟩)) := by
  have h : W.heap[b]? = _ := h
  constructor <;> simp [World.cell?, h]
theorem PBox6.chg {W W' : World} {p m b : Nat} {S : Nat → Prop} (h : PBox6 p m b W) (hc : Chg S W W') (hs : ¬ S b) : PBox6 p m b W' := (hc.block _ (Array.getElem?_eq_some_iff.1 h).1 hs).trans h
theorem PBox6.below {W W' : World} {p m b : Nat} (h : PBox6 p m b W) (hb : Below W.heap.size W W') : PBox6 p m b W' := h.chg (Chg.of_below hb fun _ => False) fun e => e
theorem PBox6.lt {W : World} {p m b : Nat} (h : PBox6 p m b W) : b < W.heap.size := (Array.getElem?_eq_some_iff.1 h).1
section
variable {w : World} {φ : Phi} {p m : Nat} {A B : Nat → Prop} {T : TS} {n : Nat}
end
/-- begun, and the pair's box. -/
def BegEnd6 (W : World) (room : Int) (e : Ending) (w' : World) : Prop := ∃ p m, e = .returned (.tuple #[.agg #[.pointer (some ⟨p, 0, none⟩), .pointer (some ⟨m, 0, none⟩)], .bool true]) ∧ Sts (fun k => k < W.heap.size) [(p, newT room)] m (newT room) w' ∧ Below W.heap.size W w'
theorem begun6_sts (W : World) (room : Int) (h1 : 1 ≤ room) (h2 : room ≤ 1073741824) : Calls Tryz.prog 10 #[.int .i64 room] W (BegEnd6 W room) := by
  refine (begun6_call W (fun _ => none) (fun q f e => by cases e) room h1 h2).mono ?_
  rintro e w' ⟨p, A, m, B, rfl, hP, hb, hA, hB, hm⟩
  exact ⟨p, m, rfl, hP.sts (fun k hk => Nat.lt_of_lt_of_le hk hb.size) (fun k hk e => by have := hA k hk; omega) (fun k hk e => by have := hB k hk; omega) (by omega), hb⟩
theorem law_begun6 {w W W1 : World} {p m : Nat} {room : Int} (hG : Hand2.Glob w) (hb0 : Below w.heap.size w W) (hs : Sts (fun k => k < W.heap.size) [(p, newT room)] m (newT room) W1) (hb : Below W.heap.size W W1) :
    Law w (fun k => k < W.heap.size ∨ k = W1.heap.size) m [(p, newT room)] (newT room) [fun W' => W'.heap[W1.heap.size]? = some (.cells #[.pointer (some ⟨p, 0, none⟩), .pointer (some ⟨m, 0, none⟩)] 28)] (W1.alloc (.cells #[.pointer (some ⟨p, 0, none⟩), .pointer (some ⟨m, 0, none⟩)] 28)) :=
  Law.box1 (K := fun k => k < W.heap.size) { g0 := hG, sts := hs, bel := hb0.trans (hb.mono hb0.size), kw := fun k hk => Nat.lt_of_lt_of_le hk hb0.size, vs := fun x hx => by cases hx } _
end Go.Proofs.YtebfkifhkaeknaaGreatDoor.Fr
/- The example at the head of chapter 6's statements. -/
namespace Go.Proofs.YtebfkifhkaeknaaGreatDoor.Fr
open Go.RowKit Go.Proofs.YtebfkifhkaeknaaGreatDoor.F Go.Proofs.YtebfkifhkaeknaaGreatDoorW.PrintWords
open Go.Proofs.YtebfkifhkaeknaaGreatDoor.Hand (putV takeV scanV)
open Go.Proofs.YtebfkifhkaeknaaGreatDoor.PureL (cat cat_app cat_behind cat_size put_of line_len putV_size)
set_option linter.unusedVariables false
set_option linter.unusedSimpArgs false
theorem line_small {l : List ByteArray} {m : Nat} (h : ∀ x ∈ l, x.size ≤ m) (h1 : 1 ≤ l.length) (h2 : l.length ≤ 40) (h3 : (3 * m + 2) * l.length + 9 ≤ 13000) :
    (putV l).2 = 0 ∧ (putV l).1.size ≤ (3 * m + 2) * l.length + 9 ∧ 9 ≤ (putV l).1.size := by
  have hb := Hand.bodyL_len m l h
  have hl := line_len l
  have h0 := put_of h1 h2 (by omega)
  have hz : (putV l).2 = 0 := by rw [h0]
  have := putV_size hz
  exact ⟨hz, by omega, by omega⟩
def jB : ByteArray := ⟨#[106]⟩
def jnB : ByteArray := ⟨#[106, 46, 110, 101, 119]⟩
theorem bes_j : besN jB = jnB := by kernel_rfl
theorem bes_j' : besN (⟨#[106]⟩ : ByteArray) = (⟨#[106, 46, 110, 101, 119]⟩ : ByteArray) := by kernel_rfl
def jN : List ByteArray := [jB, jnB]
theorem ns_j : NS jN := ns_of (by kernel_rfl) (by kernel_rfl) (by decide)
theorem j_mem : jB ∈ jN := List.mem_cons_self ..
theorem jn_mem : besN jB ∈ jN := by rw [bes_j]; exact List.mem_cons_of_mem _ (List.mem_cons_self ..)
theorem jn_ne : besN jB ≠ jB := by
  rw [bes_j]
  intro e
  exact absurd (congrArg ByteArray.size e) (by decide)
def aL : List ByteArray := [⟨#[97]⟩]
def bL : List ByteArray := [⟨#[98]⟩]
theorem a_line : (putV aL).2 = 0 ∧ (putV aL).1.size ≤ 14 ∧ 9 ≤ (putV aL).1.size := line_small (m := 1) (fun x hx => by rw [List.mem_singleton.1 hx]; decide) (by decide) (by decide) (by decide)
theorem b_line : (putV bL).2 = 0 ∧ (putV bL).1.size ≤ 14 ∧ 9 ≤ (putV bL).1.size := line_small (m := 1) (fun x hx => by rw [List.mem_singleton.1 hx]; decide) (by decide) (by decide) (by decide)
def Z0 : TS := newT 1000
def Z1 : TS := addT Z0 jB aL
def Z2 : TS := syncT Z1
def Z3 : TS := addT Z2 jB bL
def Z4 : TS := crashT Z3 0 5
def Z5 : TS := openT Z4 jB
theorem z0 : J1 1000 jN jB 0 0 Z0 [] [] := j1_new (by decide) (by decide) jN jB
theorem z1 : addE Z0 jB aL = 0 ∧ J1 1000 jN jB 1 14 Z1 [] [aL] := z0.add ns_j j_mem jn_mem a_line.1 a_line.2.1 (by decide)
theorem z2 : J1 1000 jN jB 1 14 Z2 [aL] [] := z1.2.sync
theorem z3 : addE Z2 jB bL = 0 ∧ J1 1000 jN jB 2 28 Z3 [aL] [bL] := z2.add ns_j j_mem jn_mem b_line.1 b_line.2.1 (by decide)
theorem z4 : Jn 1000 jN 2 28 Z4 ∧ ∃ r, Dec (textF Z4.l jB) [aL] r := by
  obtain ⟨h1, j, r, h2, h3, h4, h5⟩ := z3.2.crash 0 5
  refine ⟨h1, r, ?_⟩
  have hk : keptN 0 [bL].length = 0 := by decide
  rw [hk] at h4
  rcases h4 with h4 | ⟨hlt, h4⟩
  · rw [h4] at h5
    exact h5
  · have : ([bL][0]'hlt) = bL := rfl
    rw [this] at h4
    have := b_line.2.2
    omega
theorem z5 : openE Z4 jB = 0 ∧ openL Z4 jB = [aL] := by
  obtain ⟨h1, r, h2⟩ := z4
  obtain ⟨e1, e2, -⟩ := open_dec ns_j h1 j_mem jn_mem jn_ne h2 (fun _ => by decide)
  exact ⟨e1, e2⟩
theorem z5i : Inv 6 Z5 := inv_open z4.1.inv jB (by rw [z4.1.room]; decide)
theorem int_wf {x : Int} (h : (Lit.int .i64 x).wf = true) : -9223372036854775808 ≤ x ∧ x ≤ 9223372036854775807 := by
  have h2 : (decide (IntKind.i64.min ≤ x) && decide (x ≤ IntKind.i64.max)) = true := h
  rw [Bool.and_eq_true, decide_eq_true_eq, decide_eq_true_eq] at h2
  exact h2
/-- sameAll of two rows, whatever lay ahead of it. -/
def SameAt (W0 : World) (A : Option Addr) (c : Nat) (a : List (List ByteArray)) (B : Option Addr) (d : Nat) (b : List (List ByteArray)) (r : Bool) : Prop :=
  ∀ W, Below W0.heap.size W0 W → Calls Tryz.prog 14 #[.slice A a.length c, .slice B b.length d] W fun e w' => e = .returned (.bool r) ∧ Below W0.heap.size W0 w'
theorem SameAt.at {W0 : World} {A B : Option Addr} {c d : Nat} {a b : List (List ByteArray)} {r : Bool} (h : SameAt W0 A c a B d b r) (W : World) (hB : Below W0.heap.size W0 W) : Calls Tryz.prog 14 #[.slice A a.length c, .slice B b.length d] W fun e w' => e = .returned (.bool r) ∧ Below W0.heap.size W0 w' := h W hB
theorem same_at {W0 : World} {A B : Option Addr} {c d : Nat} {a b : List (List ByteArray)} (ha : Kd.C kLL W0 A a.length a) (hc : a.length ≤ c) (hb : Kd.C kLL W0 B b.length b) (hd : b.length ≤ d) (h1 : a.length ≤ 100000000 ∧ ∀ x ∈ a, x.length ≤ 100000000) {r : Bool} (e : decide (a = b) = r) :
    SameAt W0 A c a B d b r := fun W hB => by
  have := same_call (Kd.C_below ha hB) hc (Kd.C_below hb hB) hd h1.1 h1.2
  rw [e] at this
  exact this.mono fun e w' h => ⟨h.1, hB.trans (h.2.mono hB.size)⟩
/-- Rows that the code lays itself. -/
theorem C_lit1 (W : World) (s : ByteArray) : Kd.C Kd.string (W.alloc (.cells #[.string s] 9)) (some ⟨W.heap.size, 0, none⟩) 1 [s] := by
  refine ⟨rfl, by decide, fun _ => ⟨_, rfl, fun j p hj => ?_⟩⟩
  have hj0 : j = 0 := by
    have := (List.getElem?_eq_some_iff.1 hj).1
    simp at this
    exact this
  subst hj0
  have hp : s = p := by simpa using hj
  subst hp
  refine ⟨[.string s], rfl, rfl, fun i u hu => ?_⟩
  have hi : i = 0 := by
    have := (List.getElem?_eq_some_iff.1 hu).1
    simp at this
    exact this
  subst hi
  have hu : Value.string s = u := by simpa using hu
  subst hu
  exact cell_box (World.alloc_heap_new W _) 0 rfl
theorem C_lit2 (W : World) {A : Option Addr} {c : Nat} {l : List ByteArray} (h : Kd.C Kd.string W A l.length l) (hc : l.length ≤ c) : Kd.C kLL (W.alloc (.cells #[.slice A l.length c] 33)) (some ⟨W.heap.size, 0, none⟩) 1 [l] := by
  refine ⟨rfl, by decide, fun _ => ⟨_, rfl, fun j p hj => ?_⟩⟩
  have hj0 : j = 0 := by
    have := (List.getElem?_eq_some_iff.1 hj).1
    simp at this
    exact this
  subst hj0
  have hp : l = p := by simpa using hj
  subst hp
  refine ⟨[.slice A l.length c], rfl, ⟨A, c, rfl, hc, Kd.C_below h (newBelow W _)⟩, fun i u hu => ?_⟩
  have hi : i = 0 := by
    have := (List.getElem?_eq_some_iff.1 hu).1
    simp at this
    exact this
  subst hi
  have hu : Value.slice A l.length c = u := by simpa using hu
  subst hu
  exact cell_box (World.alloc_heap_new W _) 0 rfl
section
variable {w : World}
set_option maxHeartbeats 8000000 in
set_option maxRecDepth 100000 in
theorem shown6_call (hG : Hand2.Glob w) : Calls Tryz.prog 8 #[] w fun e w' => e = .returned (.bool true) ∧ Below w.heap.size w w' := by
  have HG := Lib.hid hG
  clear hG
  go_enter Tryz.func8, Tryz.ntmps8
  go_upto_region 2 with (first | (go_at_call 10; refine (begun6_sts w 1000 (by decide) (by decide)).mono ?_; rintro e w1 ⟨p, m, rfl, hs, hb⟩; have HL0' := Lib.hid (law_begun6 HG.out (Below.refl _ w) hs hb); clear hs hb))
  obtain ⟨b, hbz⟩ : ∃ b, w1.heap.size = b := ⟨_, rfl⟩
  obtain ⟨K, hK⟩ : ∃ K : Nat → Prop, K = fun k => k < w.heap.size ∨ k = b := ⟨_, rfl⟩
  have HL0 : Hid (Law w K m [(p, Z0)] (newT 1000) [PBox6 p m b] (w1.alloc (.cells #[.pointer (some ⟨p, 0, none⟩), .pointer (some ⟨m, 0, none⟩)] 28))) := by rw [hK, ← hbz]; exact HL0'.out
  clear HL0' hK
  rw [hbz]
  generalize w1.alloc (.cells #[.pointer (some ⟨p, 0, none⟩), .pointer (some ⟨m, 0, none⟩)] 28) = W0 at HL0 ⊢
  clear hbz
  obtain ⟨c0, c1⟩ := (HL0.out.va 0 rfl : PBox6 p m b _).cells
  go_upto_region 4 with (first | (go_at_call 11; refine ((HL0.out.below (newBelow _ _)).sts.jAdd (i := 0) rfl (HL0.out.below (newBelow _ _)).glob z0.inv (by decide) jB (by decide) _ 1 aL (C_lit1 _ _) (by decide) (fun x hx => by rw [List.mem_singleton.1 hx]; decide)).mono ?_; rintro e w2 ⟨rfl, hs, hk⟩; rw [z1.1]; have HL1 : Hid (Law w K m [(p, Z1)] (newT 1000) [PBox6 p m b] w2) := (HL0.out.below (newBelow _ _)).step hs hk; clear hs hk))
  clear c0 c1 HL0
  obtain ⟨c0, c1⟩ := (HL1.out.va 0 rfl : PBox6 p m b _).cells
  go_upto_region 5 with (first | (go_at_call 19; refine (HL1.out.sts.Sync (i := 0) rfl HL1.out.glob.g z1.2.inv (by decide)).mono ?_; rintro e w2 ⟨rfl, hs, hk⟩; have HL2 : Hid (Law w K m [(p, Z2)] (newT 1000) [PBox6 p m b] w2) := HL1.out.step hs hk; clear hs hk))
  clear c0 c1 HL1
  obtain ⟨c0, c1⟩ := (HL2.out.va 0 rfl : PBox6 p m b _).cells
  go_upto_region 6 with (first | (go_at_call 11; refine ((HL2.out.below (newBelow _ _)).sts.jAdd (i := 0) rfl (HL2.out.below (newBelow _ _)).glob z2.inv (by decide) jB (by decide) _ 1 bL (C_lit1 _ _) (by decide) (fun x hx => by rw [List.mem_singleton.1 hx]; decide)).mono ?_; rintro e w2 ⟨rfl, hs, hk⟩; rw [z3.1]; have HL3 : Hid (Law w K m [(p, Z3)] (newT 1000) [PBox6 p m b] w2) := (HL2.out.below (newBelow _ _)).step hs hk; clear hs hk))
  clear c0 c1 HL2
  obtain ⟨c0, c1⟩ := (HL3.out.va 0 rfl : PBox6 p m b _).cells
  go_upto_region 7 with (first | (go_at_call 20; refine (HL3.out.sts.Crash (i := 0) rfl HL3.out.glob.g z3.2.inv (by decide) 0 5 (by decide)).mono ?_; rintro e w2 ⟨rfl, hs, hk⟩; have HL4 : Hid (Law w K m [(p, Z4)] (newT 1000) [PBox6 p m b] w2) := HL3.out.step hs hk; clear hs hk))
  clear c0 c1 HL3
  obtain ⟨c0, c1⟩ := (HL4.out.va 0 rfl : PBox6 p m b _).cells
  go_upto_region 8 with (first | (go_at_call 13; refine (HL4.out.sts.jOpen (i := 0) rfl HL4.out.gk z4.1.inv (by decide) (by rw [z4.1.room]; decide) jB (by decide)).mono ?_; rintro e w2 ⟨v1, K1, rfl, hKK, hs, hk, hv⟩; rw [z5.1]; rw [z5.2] at hv; obtain ⟨A1, n1, rfl⟩ := Kd.S_slice hv; have HL5 := Lib.hid (HL4.out.opened hKK hs hk hv); have HV := Lib.hid hv; clear hKK hs hk hv))
  clear c0 c1 HL4
  obtain ⟨Aq, cq, e, hcq, hC⟩ := S_at HV.out
  cases e
  have HCQ := Lib.hid hcq
  have HSA : Hid (Calls Tryz.prog 14 #[.slice A1 1 n1, .slice (some ⟨w2.heap.size + 1, 0, none⟩) 1 1] ((w2.alloc (.cells #[.string (⟨#[97]⟩ : ByteArray)] 9)).alloc (.cells #[.slice (some ⟨w2.heap.size, 0, none⟩) 1 1] 33)) fun e w' => e = .returned (.bool true) ∧ Below w2.heap.size w2 w') := by
    have h1 : Kd.C Kd.string (w2.alloc (.cells #[.string (⟨#[97]⟩ : ByteArray)] 9)) (some ⟨w2.heap.size, 0, none⟩) aL.length aL := C_lit1 w2 _
    have h2 := C_lit2 (c := 1) _ h1 (by decide)
    have hz : (w2.alloc (.cells #[.string (⟨#[97]⟩ : ByteArray)] 9)).heap.size = w2.heap.size + 1 := World.size_alloc ..
    rw [hz] at h2
    have hB : Below w2.heap.size w2 ((w2.alloc (.cells #[.string (⟨#[97]⟩ : ByteArray)] 9)).alloc (.cells #[.slice (some ⟨w2.heap.size, 0, none⟩) 1 1] 33)) := (newBelow _ _).trans ((newBelow _ _).mono (by rw [hz]; omega))
    have h3 : Kd.C kLL _ A1 [aL].length [aL] := Kd.C_below hC hB
    exact (same_yes (a := [aL]) (b := [aL]) (A := A1) (c := n1) h3 hcq h2 (Nat.le_refl 1) (by decide) (fun x hx => by rw [List.mem_singleton.1 hx]; decide) rfl).mono fun e w' h => ⟨h.1, hB.trans (h.2.mono hB.size)⟩
  clear hcq hC
  go_wp2_with (first
    | (go_at_call 14; refine HSA.out.mono ?_; rintro e w6 ⟨rfl, hb⟩; have HB6 := Lib.hid hb; clear hb)
    | (go_at_call 35; refine (beside_call (⟨#[106]⟩ : ByteArray) (by decide) _).mono ?_; rintro e w7 ⟨rfl, rfl⟩; rw [bes_j']))
  go_ret
  exact ⟨rfl, HL5.out.bel.trans (HB6.out.mono HL5.out.bel.size)⟩
end
end Go.Proofs.YtebfkifhkaeknaaGreatDoor.Fr
/- JournalAnew, plain. -/
namespace Go.Proofs.YtebfkifhkaeknaaGreatDoor.Fr
open Go.RowKit Go.Proofs.YtebfkifhkaeknaaGreatDoor.F Go.Proofs.YtebfkifhkaeknaaGreatDoorW.PrintWords
open Go.Proofs.YtebfkifhkaeknaaGreatDoor.Hand (putV takeV scanV)
open Go.Proofs.YtebfkifhkaeknaaGreatDoor.PureL (cat cat_app cat_behind cat_size)
set_option linter.unusedVariables false
set_option linter.unusedSimpArgs false
theorem tiny_size {l : List (List ByteArray)} (h : TinyL l) (hl : Lines l) : (cat l e0).size ≤ 260000 := by
  have := size_cat_le hl
  have := h.1
  omega
theorem tiny_all {l : List (List ByteArray)} (h : TinyL l) : AllOK l where
  small := fun x hx y hy => Nat.le_trans ((h.2 x hx).2 y hy) (by decide)
  size := fun k hk => by
    have h1 := putAll_size (l.take k)
    have h2 : (l.take k).length ≤ l.length := List.length_take_le' ..
    have := h.1
    omega
  many := Nat.le_trans h.1 (by decide)
theorem tiny_many {l : List (List ByteArray)} (h : TinyL l) : l.length ≤ 100000000 ∧ ∀ x ∈ l, x.length ≤ 100000000 := ⟨Nat.le_trans h.1 (by decide), fun x hx => Nat.le_trans (h.2 x hx).1 (by decide)⟩
theorem text_read {T : TS} {q t : ByteArray} (h : textF T.l q = t) (h2 : t.size ≠ 0) : readT T q = (t, 0) := by
  unfold readT textF at *
  cases e : findF T.l q with
  | none =>
    rw [e] at h
    rw [← h] at h2
    exact absurd rfl h2
  | some f =>
    rw [e] at h
    rw [← h]
theorem two_cases (many : Int) : (2 ≤ many ∧ keptN many 2 = 2) ∨ (many < 2 ∧ (keptN many 2 = 0 ∨ keptN many 2 = 1)) := by unfold keptN; omega
theorem crashL_of {T : TS} {cs : List Cg} (h : T.ch = cs) (many part : Int) (k : Nat) (hk : keptN many cs.length = k) :
    crashL T many part = (match cs[k]? with | none => foldF T.last (cs.take k) | some c => if c.f0 ≤ 2 ∧ 1 ≤ part then afterF (foldF T.last (cs.take k)) (cutC c part) else foldF T.last (cs.take k)) := by
  subst h
  subst hk
  rfl
/-- Written beside, and renamed, by hand; a crash. -/
theorem beside_crash {R : Nat} {N : List ByteArray} {n u : Nat} {T : TS} {q s : ByteArray} (hN : NS N) (h : Jn R N n u T) (hq : q ∈ N) (hb : besN q ∈ N) (hne : besN q ≠ q) (hu : u + s.size ≤ R) (hc : T.ch = []) (hl : T.last = T.l) (many part : Int) :
    Inv (n + 1) (writeT T false (besN q) s) ∧ Inv (n + 2) (renameT (writeT T false (besN q) s) (besN q) q) ∧
    Jn R N (n + 2) (u + s.size) (crashT (renameT (writeT T false (besN q) s) (besN q) q) many part) ∧
    textF (crashT (renameT (writeT T false (besN q) s) (besN q) q) many part).l q = if 2 ≤ many then s else textF T.l q := by
  obtain ⟨a1, a2, a3, a4, a5, a6, a7, a8, a9, a10⟩ := h.anew1 hN (s := s) hq hb hne hu
  have hI1 := inv_write h.inv false (q := besN q) (s := s) (by have := h.rle; omega)
  have hI2 := inv_rename hI1 (besN q) q
  have e1 : writeT T false (besN q) s = doneT T ⟨1, besN q, s, T.clock + 1⟩ := write_done a8
  have e2 : renameT (writeT T false (besN q) s) (besN q) q = doneT (doneT T ⟨1, besN q, s, T.clock + 1⟩) ⟨4, besN q, q, 0⟩ := by
    rw [e1]
    have hf : (findF (doneT T ⟨1, besN q, s, T.clock + 1⟩).l (besN q)) = some ⟨besN q, s, T.clock + 1⟩ := find_put h.inv.good.srt ⟨besN q, s, T.clock + 1⟩
    have hr := a9
    rw [e1] at hr
    unfold renameE at hr
    unfold renameT
    rw [hf] at hr ⊢
    have hp := hN.path q hq
    have hsm := same_false' hne
    rw [if_neg (by simp), hp, if_neg (by decide), hsm, if_neg (by decide)] at hr
    cases hbk : blockT (doneT T ⟨1, besN q, s, T.clock + 1⟩).l q (besN q) with
    | true => rw [hbk] at hr; simp at hr
    | false => rw [if_pos ⟨rfl, hp, hsm, rfl⟩]
  refine ⟨hI1, hI2, ?_⟩
  have hI3 := inv_crash hI2 many part
  rw [e2] at hI3 ⊢
  obtain ⟨T4, hT4⟩ : ∃ T4, doneT (doneT T ⟨1, besN q, s, T.clock + 1⟩) ⟨4, besN q, q, 0⟩ = T4 := ⟨_, rfl⟩
  have hch : T4.ch = [⟨1, besN q, s, T.clock + 1⟩, ⟨4, besN q, q, 0⟩] := by
    rw [← hT4]
    show (T.ch ++ [_]) ++ [_] = _
    rw [hc]
    rfl
  have hla : T4.last = T.l := by rw [← hT4]; exact hl
  have hl4 : (anew1T T q s).l = T4.l := by rw [a10, ← hT4]; rfl
  have hrm : T4.room = (R : Int) := by rw [← hT4]; exact h.room
  rw [hT4] at hI3 ⊢
  have hsrt := h.inv.good.srt
  have hput : ∀ t : ByteArray, t.size ≤ s.size → (∀ f ∈ putF T.l ⟨besN q, t, T.clock + 1⟩, f.f0 ∈ N) ∧ usedF (putF T.l ⟨besN q, t, T.clock + 1⟩) ≤ u + s.size ∧ textF (putF T.l ⟨besN q, t, T.clock + 1⟩) q = textF T.l q := fun t ht => by
    refine ⟨fun f hf => ?_, ?_, text_put_ne hsrt ⟨besN q, t, T.clock + 1⟩ (fun e => hne e.symm)⟩
    · rcases mem_put.1 hf with rfl | hf
      · exact hb
      · exact h.names f hf.1
    · have p1 := (put_used hsrt ⟨besN q, t, T.clock + 1⟩).1
      have := h.used
      simp only at p1
      omega
  have key : (∀ f ∈ crashL T4 many part, f.f0 ∈ N) ∧ usedF (crashL T4 many part) ≤ u + s.size ∧ textF (crashL T4 many part) q = if 2 ≤ many then s else textF T.l q := by
    have hlen : ([⟨1, besN q, s, T.clock + 1⟩, ⟨4, besN q, q, 0⟩] : List Cg).length = 2 := rfl
    rcases two_cases many with ⟨h2, hk⟩ | ⟨h2, hk | hk⟩
    · have hfold : foldF T.l ([⟨1, besN q, s, T.clock + 1⟩, ⟨4, besN q, q, 0⟩] : List Cg) = T4.l := by rw [← hT4]; rfl
      have e : crashL T4 many part = (anew1T T q s).l := by
        rw [crashL_of hch many part 2 hk, hl4, ← hfold, hla]
        rfl
      rw [e, if_pos h2]
      exact ⟨a2.names, a2.used, a3⟩
    · rw [if_neg (by omega)]
      by_cases hp : 1 ≤ part
      · have e : crashL T4 many part = putF T.l ⟨besN q, cutS s part, T.clock + 1⟩ := by
          rw [crashL_of hch many part 0 hk, hla]
          show (if (1 : Int) ≤ 2 ∧ 1 ≤ part then _ else _) = _
          rw [if_pos ⟨by decide, hp⟩]
          rfl
        rw [e]
        exact hput _ (cutS_size hp)
      · have e : crashL T4 many part = T.l := by
          rw [crashL_of hch many part 0 hk, hla]
          show (if (1 : Int) ≤ 2 ∧ 1 ≤ part then _ else _) = _
          rw [if_neg (fun e => hp e.2)]
          rfl
        rw [e]
        exact ⟨h.names, Nat.le_trans h.used (Nat.le_add_right _ _), rfl⟩
    · rw [if_neg (by omega)]
      have e : crashL T4 many part = putF T.l ⟨besN q, s, T.clock + 1⟩ := by
        rw [crashL_of hch many part 1 hk, hla]
        show (if (4 : Int) ≤ 2 ∧ 1 ≤ part then _ else _) = _
        rw [if_neg (fun e => absurd e.1 (by decide))]
        rfl
      rw [e]
      exact hput _ (Nat.le_refl _)
  exact ⟨⟨hI3, hrm, h.rle, key.1, key.2.1⟩, key.2.2⟩
/-- All that JournalAnew asks. -/
structure AnewOK (T1 T2 T3 T4 T5 T6 T7 : TS) (old l : List (List ByteArray)) (s : ByteArray) (many : Int) : Prop where
  i1 : Inv 10 T1
  i2 : Inv 10 T2
  i3 : Inv 10 T3
  i4 : Inv 10 T4
  i5 : Inv 10 T5
  i6 : Inv 10 T6
  r1 : T1.room ≤ 2000000
  r2 : T2.room ≤ 2000000
  r5 : T5.room ≤ 2000000
  rd : (readT T2 logB).1 = s
  s : s.size ≤ 1000000
  e5 : openE T5 logB = 0
  l5 : openL T5 logB = if 2 ≤ many then l else old
  e2 : openE T2 logB = 0
  l2 : openL T2 logB = l
  no : (readT T6 lgnB).2 = 4
theorem anew_law {old l : List (List ByteArray)} (ho : TinyL old) (hl : TinyL l) (ko : Lines old) (kl : Lines l) (many part : Int) :
    ∃ s, anewE (newT 1048576) logB old = 0 ∧ anewE (anewT (newT 1048576) logB old) logB l = 0 ∧
    AnewOK (anewT (newT 1048576) logB old) (anewT (anewT (newT 1048576) logB old) logB l) (writeT (anewT (newT 1048576) logB old) false lgnB s) (renameT (writeT (anewT (newT 1048576) logB old) false lgnB s) lgnB logB)
      (crashT (renameT (writeT (anewT (newT 1048576) logB old) false lgnB s) lgnB logB) many part) (openT (crashT (renameT (writeT (anewT (newT 1048576) logB old) false lgnB s) lgnB logB) many part) logB) (openT (anewT (anewT (newT 1048576) logB old) logB l) logB) old l s many := by
  have j0 : Jn 1048576 logN 0 0 (newT ((1048576 : Nat) : Int)) := jn_new (by decide) (by decide) logN
  have j0 : Jn 1048576 logN 0 0 (newT 1048576) := j0
  have so := tiny_size ho ko
  have sl := tiny_size hl kl
  obtain ⟨a1, a2, a3, a4, a5, a6, a7⟩ := anew_ok ns_log j0 log_mem lgn_mem lgn_ne ko so (by decide)
  obtain ⟨b1, b2, b3, b4, b5, b6, b7⟩ := anew_ok ns_log a2 log_mem lgn_mem lgn_ne kl sl (by decide)
  obtain ⟨c1, c2, c3, c4⟩ := beside_crash ns_log a2 (s := cat l e0) log_mem lgn_mem lgn_ne (by omega) a6 a7 many part
  rw [bes_log] at c1 c2 c3 c4
  have c3 := c3.mono (n' := 10) (u' := 520000) (by omega) (by omega)
  have hd5 : Dec (textF (crashT (renameT (writeT (anewT (newT 1048576) logB old) false lgnB (cat l e0)) lgnB logB) many part).l logB) (if 2 ≤ many then l else old) e0 := by
    rw [c4]
    split
    · exact dec_cat kl
    · rw [a3]; exact dec_cat ko
  obtain ⟨d1, d2, d3, d3', d4, d5, d6, d7, d8⟩ := open_dec ns_log c3 log_mem lgn_mem lgn_ne hd5 (fun _ => by decide)
  have b2 := b2.mono (n' := 10) (u' := 520000) (by omega) (by omega)
  have hd2 : Dec (textF (anewT (anewT (newT 1048576) logB old) logB l).l logB) l e0 := by rw [b3]; exact dec_cat kl
  obtain ⟨f1, f2, -⟩ := open_dec ns_log b2 log_mem lgn_mem lgn_ne hd2 (fun _ => by decide)
  have i5 : Inv 5 (crashT (renameT (writeT (anewT (newT 1048576) logB old) false lgnB (cat l e0)) lgnB logB) many part) := inv_crash c2 many part
  have i6 : Inv 9 (openT (crashT (renameT (writeT (anewT (newT 1048576) logB old) false lgnB (cat l e0)) lgnB logB) many part) logB) := inv_open i5 logB (by rw [c3.room]; decide)
  refine ⟨cat l e0, a1, b1, ⟨a2.inv.mono (by omega), b2.inv, c1.mono (by omega), c2.mono (by omega), c3.inv, i6.mono (by omega), (by rw [a2.room]; decide), (by rw [b2.room]; decide), (by rw [c3.room]; decide), (by rw [read_text]; exact b3), (by omega), d1, d2, f1, f2, ?_⟩⟩
  rw [bes_log] at d5
  unfold readT
  rw [d5]
end Go.Proofs.YtebfkifhkaeknaaGreatDoor.Fr
/- Rows that chapter 6's laws gather; JournalKeeps, plain. -/
namespace Go.Proofs.YtebfkifhkaeknaaGreatDoor.Fr
open Go.RowKit Go.Proofs.YtebfkifhkaeknaaGreatDoor.F Go.Proofs.YtebfkifhkaeknaaGreatDoorW.PrintWords
open Go.Proofs.YtebfkifhkaeknaaGreatDoor.Hand (putV takeV scanV)
open Go.Proofs.YtebfkifhkaeknaaGreatDoor.PureL (cat cat_app cat_behind cat_size)
set_option linter.unusedVariables false
set_option linter.unusedSimpArgs false
theorem box_in {w W : World} {K : Nat → Prop} {v : Value} {xs : List (List ByteArray)} {cells : List Value} {p m b0 : Nat} (hN : InAt w K W v xs cells) (hB : PBox6 p m b0 W) :
    ∀ P ∈ [PBox6 p m b0], ∀ W1 W2, Chg (fun k => v.ownBlock = some k) W1 W2 → W.heap.size ≤ W1.heap.size → P W1 → P W2 := fun P hP W1 W2 hc hs h1 => by
  rw [List.mem_singleton.1 hP] at h1 ⊢
  refine h1.chg hc fun e => ?_
  obtain ⟨cs, hcs⟩ := own_typed hN.row b0 e
  have hB : W.heap[b0]? = _ := hB
  rw [hcs] at hB
  simp at hB
theorem two_step {w W w2 : World} {K K' : Nat → Prop} {vx vy v' : Value} {ys : List (List ByteArray)} {cy : List Value} (h : InAt w K W vy ys cy) (hd : ∀ k, vy.ownBlock = some k → vx.ownBlock ≠ some k)
    (hC : Chg (fun k => vx.ownBlock = some k) W w2) (hK : ∀ k, K k → K' k) (hb : v'.ownBlock = vx.ownBlock ∨ ∃ k, v'.ownBlock = some k ∧ W.heap.size ≤ k) :
    InAt w K' w2 vy ys cy ∧ (∀ k, vy.ownBlock = some k → v'.ownBlock ≠ some k) := by
  refine ⟨(h.other hC hd).more hK, fun k hk e => ?_⟩
  rcases hb with hb | ⟨j, hb, hj⟩
  · exact hd k hk (hb ▸ e)
  · have := own_lt h.row k hk
    rw [hb] at e
    cases e
    omega
theorem news1 (W : World) (u : Value) : ∀ (j : Nat) v, [u][j]? = some v → (W.alloc (.cells #[u] 33)).cell? ((⟨W.heap.size, 0, none⟩ : Addr).add j) = some v := World.news_of_block (World.alloc_heap_new W _)
theorem line_words {l : List ByteArray} (h : (putV l).2 = 0) : l.length ≤ 40 := (PureL.put_ok h).2.1
theorem lines_len {xs : List (List ByteArray)} (h : Lines xs) : ∀ x ∈ xs, x.length ≤ 40 := fun x hx => line_words (h x hx)
/-- JournalKeeps: behind the crash. -/
structure KeepOK (n : Nat) (T5 T6 : TS) (zs : List (List ByteArray)) (sy : Nat) (many : Int) (j : Nat) : Prop where
  i5 : Inv n T5
  r5 : T5.room ≤ 2000000
  i6 : Inv (n + 4) T6
  r6 : T6.room ≤ 2000000
  e5 : openE T5 logB = 0
  l5 : openL T5 logB = zs.take j
  rd : readL T6 logB = zs.take j
  rw : readW T6 logB = true
  ch : T6.ch.length = 0
  jl : j ≤ zs.length
  jsy : sy ≤ j
  jm : min (zs.length : Int) (sy + max 0 many) ≤ j
theorem keep_law {n u : Nat} {T : TS} {xs ys : List (List ByteArray)} (h : J1 1048576 logN logB n u T xs ys) (hu : u + u ≤ 1048576) (many part : Int) :
    ∃ j, KeepOK n (crashT T many part) (openT (crashT T many part) logB) (xs ++ ys) xs.length many j := by
  obtain ⟨h1, j, r, h2, h3, -, h4⟩ := h.crash many part
  obtain ⟨e1, e2, e3, -, e5, e6, e7, e8, e9⟩ := open_dec ns_log h1 log_mem lgn_mem lgn_ne h4 (fun _ => hu)
  have hk := keptN_min many ys.length
  have htk : xs ++ ys.take j = (xs ++ ys).take (xs.length + j) := by
    rw [List.take_append, List.take_of_length_le (show xs.length ≤ xs.length + j by omega)]
    congr 2
    omega
  have hl : Lines (xs ++ ys.take j) := h4.ok
  obtain ⟨f1, f2⟩ := read_cat hl e5
  rw [htk] at e2 f1
  refine ⟨xs.length + j, h1.inv, by rw [h1.room]; decide, e3.inv, by rw [e3.room]; decide, e1, e2, f1, f2, by rw [e8]; rfl, by rw [List.length_append]; omega, by omega, ?_⟩
  rw [List.length_append]
  omega
def oneB : ByteArray := ⟨#[111, 110, 101]⟩
def onnB : ByteArray := ⟨#[111, 110, 101, 46, 110, 101, 119]⟩
def twoB : ByteArray := ⟨#[100, 47, 116, 119, 111]⟩
def twnB : ByteArray := ⟨#[100, 47, 116, 119, 111, 46, 110, 101, 119]⟩
theorem bes_one : besN oneB = onnB := by kernel_rfl
theorem bes_two : besN twoB = twnB := by kernel_rfl
def apN : List ByteArray := [oneB, onnB, twoB, twnB]
theorem ns_ap : NS apN := ns_of (by kernel_rfl) (by kernel_rfl) (by decide)
theorem one_mem : oneB ∈ apN := List.mem_cons_self ..
theorem onn_mem : besN oneB ∈ apN := by rw [bes_one]; exact List.mem_cons_of_mem _ (List.mem_cons_self ..)
theorem two_mem : twoB ∈ apN := List.mem_cons_of_mem _ (List.mem_cons_of_mem _ (List.mem_cons_self ..))
theorem twn_mem : besN twoB ∈ apN := by rw [bes_two]; exact List.mem_cons_of_mem _ (List.mem_cons_of_mem _ (List.mem_cons_of_mem _ (List.mem_cons_self ..)))
theorem ba_ne {a b : ByteArray} (h : a.size ≠ b.size ∨ a.data.toList ≠ b.data.toList) : a ≠ b := by
  rintro rfl
  rcases h with h | h <;> exact h rfl
theorem one_two : oneB ≠ twoB := ba_ne (.inl (by decide))
theorem onn_ne : besN oneB ≠ oneB := by rw [bes_one]; exact ba_ne (.inl (by decide))
theorem twn_ne : besN twoB ≠ twoB := by rw [bes_two]; exact ba_ne (.inl (by decide))
/-- Two journals, never synced. -/
structure J2 (n u : Nat) (T : TS) (zx zy : List (List ByteArray)) : Prop where
  ex : ∃ ys, Jl 1048576 apN n u T (fun _ => []) ys ∧ zx = sel oneB ys ∧ zy = sel twoB ys
theorem j2_new : J2 0 0 (newT 1048576) [] [] := ⟨[], jl_new (R := 1048576) (by decide) (by decide) apN, rfl, rfl⟩
section
variable {n u : Nat} {T : TS} {zx zy : List (List ByteArray)}
theorem J2.inv (h : J2 n u T zx zy) : Inv n T := by obtain ⟨ys, h, -⟩ := h.ex; exact h.jn.inv
theorem J2.mono {n' u' : Nat} (h : J2 n u T zx zy) (h1 : n ≤ n') (h2 : u ≤ u') : J2 n' u' T zx zy := by obtain ⟨ys, h, e⟩ := h.ex; exact ⟨ys, h.mono h1 h2, e⟩
theorem J2.addx (h : J2 n u T zx zy) {l : List ByteArray} (hl : (putV l).2 = 0) (hu : u + 13000 ≤ 1048576) : addE T oneB l = 0 ∧ J2 (n + 1) (u + 13000) (addT T oneB l) (zx ++ [l]) zy := by
  obtain ⟨ys, h, e1, e2⟩ := h.ex
  obtain ⟨a1, a2, -⟩ := h.add ns_ap one_mem onn_mem hl (lineL_le hl) hu
  refine ⟨a1, _, a2, ?_, ?_⟩
  · rw [sel_app, e1, sel, sel, if_pos rfl]
  · rw [sel_app, e2, sel, sel, if_neg one_two, List.append_nil]
theorem J2.addy (h : J2 n u T zx zy) {l : List ByteArray} (hl : (putV l).2 = 0) (hu : u + 13000 ≤ 1048576) : addE T twoB l = 0 ∧ J2 (n + 1) (u + 13000) (addT T twoB l) zx (zy ++ [l]) := by
  obtain ⟨ys, h, e1, e2⟩ := h.ex
  obtain ⟨a1, a2, -⟩ := h.add ns_ap two_mem twn_mem hl (lineL_le hl) hu
  refine ⟨a1, _, a2, ?_, ?_⟩
  · rw [sel_app, e1, sel, sel, if_neg (fun e => one_two e.symm), List.append_nil]
  · rw [sel_app, e2, sel, sel, if_pos rfl]
/-- Both journals' texts. -/
structure J2t (n u : Nat) (T : TS) (zx zy : List (List ByteArray)) : Prop where
  jn : Jn 1048576 apN n u T
  lx : Lines zx
  ly : Lines zy
  tx : textF T.l oneB = cat zx e0
  ty : textF T.l twoB = cat zy e0
theorem J2.t (h : J2 n u T zx zy) : J2t n u T zx zy := by
  obtain ⟨ys, h, e1, e2⟩ := h.ex
  have l1 := h.lines oneB
  have l2 := h.lines twoB
  have n1 := h.now oneB
  have n2 := h.now twoB
  rw [List.nil_append, ← e1] at l1 n1
  rw [List.nil_append, ← e2] at l2 n2
  exact ⟨h.jn, l1, l2, n1, n2⟩
theorem J2t.anew (h : J2t n u T zx zy) (hx : zx.length ≤ 20) (hu : u + 260000 ≤ 1048576) : anewE T oneB zx = 0 ∧ J2t (n + 3) (u + 260000) (anewT T oneB zx) zx zy := by
  have hs := size_cat_le h.lx
  obtain ⟨a1, a2, a3, a4, a5, -⟩ := anew_ok ns_ap h.jn one_mem onn_mem onn_ne h.lx (b := 260000) (by omega) hu
  refine ⟨a1, a2, h.lx, h.ly, a3, ?_⟩
  rw [← h.ty]
  exact text_find (a5 twoB (ba_ne (.inl (by decide))) (by rw [bes_one]; exact ba_ne (.inl (by decide))))
theorem J2t.opens (h : J2t n u T zx zy) : openE T twoB = 0 ∧ openL T twoB = zy ∧ openE (openT T twoB) oneB = 0 ∧ openL (openT T twoB) oneB = zx ∧ Inv (n + 4) (openT T twoB) ∧ T.room ≤ 2000000 ∧ (openT T twoB).room ≤ 2000000 := by
  have d2 : Dec (textF T.l twoB) zy e0 := by rw [h.ty]; exact dec_cat h.ly
  obtain ⟨a1, a2, a3, a4, a5, a6, a7, -⟩ := open_dec ns_ap h.jn two_mem twn_mem twn_ne d2 (fun e => absurd rfl e)
  have a4 := a4 rfl
  have d1 : Dec (textF (openT T twoB).l oneB) zx e0 := by
    rw [text_find (a7 oneB (ba_ne (.inl (by decide))) (by rw [bes_two]; exact ba_ne (.inl (by decide)))), h.tx]
    exact dec_cat h.lx
  obtain ⟨b1, b2, -⟩ := open_dec ns_ap a4 one_mem onn_mem onn_ne d1 (fun e => absurd rfl e)
  exact ⟨a1, a2, b1, b2, a4.inv, by rw [h.jn.room]; decide, by rw [a4.room]; decide⟩
end
end Go.Proofs.YtebfkifhkaeknaaGreatDoor.Fr
