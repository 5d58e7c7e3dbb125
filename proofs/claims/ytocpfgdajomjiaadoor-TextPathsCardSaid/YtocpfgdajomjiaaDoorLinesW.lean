import Derived.Test.YtocpfgdajomjiaaDoorRange
import Derived.Test.YtocpfgdajomjiaaDoorShelf
import Derived.Shelf.Abstract
import Derived.Shelf.RegionOpen
import Derived.WalkKit
import Derived.OwnWalkIn
import Derived.TacticsInMore
import Derived.LoopNIn
import Derived.LoopIn
import Derived.Lib.Hide
import Derived.Maps.AppendAt
import Derived.Test.YtocpfgdajomjiaaDoorWMore
import Derived.Test.YtocpfgdajomjiaaDoorWWords
namespace Go.Proofs.YtocpfgdajomjiaaDoor.Hand
open Go.RowKit Go.Shelf Go.Proofs.YtocpfgdajomjiaaDoor.Range Go.Proofs.YtocpfgdajomjiaaDoorW.PrintWords
attribute [local go_sem] Oper.semAt_some
set_option linter.unusedVariables false
set_option linter.unusedSimpArgs false

/-! #### Lines -/
def cutL : List UInt8 → List UInt8 × List UInt8
  | [] => ([], [])
  | c :: t => if c = 10 then ([], t) else (c :: (cutL t).1, (cutL t).2)
def linesGo (cur : List UInt8) : List UInt8 → List (List UInt8)
  | [] => if cur = [] then [] else [cur.reverse]
  | c :: t => if c = 10 then cur.reverse :: linesGo [] t else linesGo (c :: cur) t
def bytesOf (l : List UInt8) : ByteArray := ⟨l.toArray⟩
def linesV (s : ByteArray) : List ByteArray := (linesGo [] s.data.toList).map bytesOf
theorem cut_eq (s : List UInt8) : (Lib.cut s [10]).1 = (cutL s).1 ∧ (Lib.cut s [10]).2.1 = (cutL s).2 := by
  induction s with
  | nil => simp [Lib.cut, Lib.index, cutL]
  | cons c t ih =>
    unfold Lib.cut at ih ⊢
    by_cases e : c = 10
    · subst e
      simp [Lib.index, cutL]
    · have e1 : (10 == c) = false := by simpa using fun h => e h.symm
      have hge := Lib.index_ge t [10]
      rw [Lib.index, cutL, if_neg e]
      simp only [List.isPrefixOf, e1, Bool.false_and, Bool.false_eq_true, if_false]
      by_cases h : Lib.index t [10] = -1
      · rw [h] at ih ⊢
        simpa using ih
      · have h0 : 0 ≤ Lib.index t [10] := by omega
        rw [if_pos h0] at ih
        have e2 : (Lib.index t [10] == -1) = false := by simpa using h
        rw [e2]
        simp only [Bool.false_eq_true, if_false]
        rw [if_pos (by omega), show (Lib.index t [10] + 1).toNat = (Lib.index t [10]).toNat + 1 by omega]
        simp only at ih ⊢
        rw [List.take_succ_cons, ih.1, Nat.add_right_comm, List.drop_succ_cons, ih.2]
        exact ⟨rfl, rfl⟩
theorem linesGo_cut : ∀ (s cur : List UInt8), (cur ≠ [] ∨ s ≠ []) → linesGo cur s = (cur.reverse ++ (cutL s).1) :: linesGo [] (cutL s).2 := by
  intro s
  induction s with
  | nil =>
    intro cur h
    have : cur ≠ [] := by
      rcases h with h | h
      · exact h
      · exact absurd rfl h
    simp [linesGo, cutL, this]
  | cons c t ih =>
    intro cur _
    by_cases e : c = 10
    · simp [linesGo, cutL, e]
    · rw [linesGo, if_neg e, ih (c :: cur) (.inl (by simp)), cutL, if_neg e]
      simp
theorem cutL_le (s : List UInt8) : (cutL s).2.length ≤ s.length := by
  induction s with
  | nil => simp [cutL]
  | cons c t ih =>
    rw [cutL]
    split
    · simp
    · simp only [List.length_cons]
      omega
theorem cutL_lt {s : List UInt8} (h : s ≠ []) : (cutL s).2.length < s.length := by
  cases s with
  | nil => exact absurd rfl h
  | cons c t =>
    rw [cutL]
    split
    · simp
    · have := cutL_le t
      simp only [List.length_cons]
      omega
theorem ba_ne {u : ByteArray} (e : u ≠ ByteArray.empty) : u.data.toList ≠ [] := by
  intro h
  apply e
  cases u with
  | mk d =>
    have : d = #[] := Array.ext' h
    rw [this]
    rfl
theorem ba_isEmpty {u : ByteArray} (e : u ≠ ByteArray.empty) : u.toList.isEmpty = false := by
  rw [ByteArray.toList_eq]
  cases h : u.data.toList with
  | nil => exact absurd h (ba_ne e)
  | cons => rfl
theorem linesGo_len : ∀ (s cur : List UInt8), (linesGo cur s).length ≤ s.length + 1 := by
  intro s
  induction s with
  | nil =>
    intro cur
    rw [linesGo]
    split <;> simp
  | cons c t ih =>
    intro cur
    rw [linesGo]
    have h1 := ih []
    have h2 := ih (c :: cur)
    split
    · simp only [List.length_cons]
      omega
    · simp only [List.length_cons] at h2 ⊢
      omega
theorem linesV_cons {s : ByteArray} (h : s ≠ ByteArray.empty) : linesV s = ⟨(Lib.cut s.data.toList [10]).1.toArray⟩ :: linesV ⟨(Lib.cut s.data.toList [10]).2.1.toArray⟩ := by
  obtain ⟨e1, e2⟩ := cut_eq s.data.toList
  rw [e1, e2]
  unfold linesV
  rw [linesGo_cut _ _ (.inr (ba_ne h))]
  simp [bytesOf]
/-- How long the text is that the cell holds. -/
def leftAt (B : Nat) (w : World) : Nat := match w.cell? ⟨B, 0, none⟩ with
  | some (.string s) => s.size
  | _ => 0
theorem cell_lt' {w : World} {p : Addr} {v : Value} (h : w.cell? p = some v) : p.block < w.heap.size := World.block_lt_of_cell? w _ h

theorem belowD (w : World) (n : Nat) : Below w.heap.size w (w.drewN n) := ⟨rfl, rfl, rfl, Nat.le_refl _, fun _ _ => rfl⟩
set_option maxHeartbeats 1000000 in
theorem lines1_in (l Bn n₀ : Nat) (m : Int) (xs : List ByteArray) (J : List ByteArray → World → Prop) (hJ : CalmC Bn J) (s : ByteArray) (hs : s.size ≤ 100000) (W : World) (hxs : linesV s = xs)
    (hY : ∀ pre x W1, J pre W1 → (∃ t, pre ++ x :: t = xs) → YieldAt Fence.wide (3 - 1) Tryd.prog l #[.string x] W1 fun e W' => e = .returned (.bool true) ∧ J (pre ++ [x]) W' ∧ Below n₀ W1 W')
    (hb2 : 2 < Bn) (hbn : Bn < n₀) (hn0 : n₀ ≤ W.heap.size) (hm : W.cell? ⟨2, 0, none⟩ = some (.int .i64 m)) (hBn : W.cell? ⟨Bn, 0, none⟩ = some (.string s)) (hfz : W.frozen? ⟨Bn, 0, none⟩ = false) (h0 : J [] W) :
    CallsIn Fence.wide 3 Tryd.prog 73 #[.func (.yield l) #[] #[], .pointer (some ⟨Bn, 0, none⟩)] W fun e W' => (∃ v, e = .returned v) ∧ J xs W' := by
  have HY := Lib.hid hY
  have H0 := Lib.hid h0
  have HJ := Lib.hid hJ
  have HX := Lib.hid hxs
  have HM := Lib.hid hm
  have HB := Lib.hid hBn
  have HF := Lib.hid hfz
  clear hY h0 hJ hxs hm hBn hfz
  refine callsIn_of_wp Tryd.func73 rfl trivial ?_ rfl
  simp only [Tryd.ntmps73, List.size_toArray, List.length_cons, List.length_nil, Nat.reduceAdd, Nat.reduceSub, Array.replicate_succ, Array.replicate_zero, List.push_toArray, List.append_toArray, List.nil_append, List.cons_append]
  gi_wp2
  gi_loopw [] (fun wr => ∃ (pre : List ByteArray) (u : ByteArray), Hid (J pre wr) ∧ Hid (pre ++ linesV u = xs) ∧ u.size ≤ 100000 ∧ Hid (wr.cell? ⟨Bn, 0, none⟩ = some (.string u)) ∧ Hid (wr.frozen? ⟨Bn, 0, none⟩ = false) ∧ Hid (wr.cell? ⟨2, 0, none⟩ = some (.int .i64 m)) ∧ n₀ ≤ wr.heap.size)
    (fun wr => leftAt Bn wr)
  case atStart => exact ⟨[], s, H0, by simpa [Hid] using HX.out, hs, HB, HF, HM, hn0⟩
  case round =>
    obtain ⟨pre, u, hJu, hpu, hsu, hcu, hfu, hmu, hnu⟩ := hrel
    have hc := hcu.out
    by_cases e : u = ByteArray.empty
    · subst e
      have hfin : Hid (J xs wr) := by
        have h := hpu.out
        rw [show linesV ByteArray.empty = [] from rfl, List.append_nil] at h
        rw [← h]
        exact hJu
      gi_wp2
      go_end0
      exact ⟨⟨_, rfl⟩, hfin.out⟩
    · have hcons := linesV_cons e
      have hlt := cutL_lt (s := u.data.toList) (ba_ne e)
      rw [← (cut_eq u.data.toList).2] at hlt
      have hle : (Lib.cut u.data.toList [10]).2.1.length < u.size := by simpa using hlt
      generalize hcx : (⟨(Lib.cut u.data.toList [10]).1.toArray⟩ : ByteArray) = x at hcons
      have hv : Hid ((⟨(Lib.cut u.data.toList [10]).2.1.toArray⟩ : ByteArray).size < u.size) := by
        show (Lib.cut u.data.toList [10]).2.1.toArray.size < u.size
        rw [List.size_toArray]
        exact hle
      generalize hcv : (⟨(Lib.cut u.data.toList [10]).2.1.toArray⟩ : ByteArray) = v at hcons hv
      have hcut := Lib.hid (Tryd.strings_Cut u ⟨#[10]⟩ m wr (by omega) hmu.out)
      rw [show ((⟨#[10]⟩ : ByteArray).data.toList) = [10] from rfl, hcx, hcv] at hcut
      generalize (Lib.cut u.data.toList [10]).2.2 = found at hcut
      have hE := Lib.hid e
      have hne : u.toList.isEmpty = false := ba_isEmpty e
      clear hcx hcv hle hlt e
      have hxs : Hid ((pre ++ [x]) ++ linesV v = xs) := by
        rw [← hpu.out, hcons]
        simp [Hid]
      clear hcons
      have hround : Hid (∀ nd, YieldAt Fence.wide (3 - 1) Tryd.prog l #[.string x] (wr.drewN nd) fun e W' => e = .returned (.bool true) ∧ J (pre ++ [x]) W' ∧ Below n₀ (wr.drewN nd) W') := fun nd =>
        HY.out pre x _ (HJ.out.below _ _ _ hJu.out (belowD _ _)) ⟨linesV v, by have := hxs.out; rwa [List.append_assoc] at this⟩
      have hcD : Hid (∀ nd, (wr.drewN nd).cell? ⟨Bn, 0, none⟩ = some (.string u)) := fun nd => ((belowD wr nd).cell (p := ⟨Bn, 0, none⟩) (cell_lt' hc)).trans hc
      gi_wp2_with (refine ⟨trivial, ?_⟩; gi_at_call 63; refine (callsIn_wide.2 hcut.out).mono ?_; rintro e w' ⟨rfl, nd, rfl⟩; obtain ⟨fn, tmps, assign, body, hy, hR⟩ := hround.out nd)
      refine hR.mono ?_
      rintro e W3 ⟨rfl, hJ3, hb3⟩
      have hc3 : W3.cell? ⟨Bn, 0, none⟩ = some (.string u) := (hb3.cell (p := ⟨Bn, 0, none⟩) hbn).trans (hcD.out nd)
      have hf3 : W3.frozen? ⟨Bn, 0, none⟩ = false := (hb3.frozen (p := ⟨Bn, 0, none⟩) hbn).trans hfu.out
      have hm3 : Hid (W3.cell? ⟨2, 0, none⟩ = some (.int .i64 m)) := (hb3.cell (p := ⟨2, 0, none⟩) (by show 2 < n₀; omega)).trans hmu.out
      have hJ4 := Lib.hid hJ3
      have hs3 : n₀ ≤ W3.heap.size := Nat.le_trans hnu hb3.size
      clear hJ3 hb3 hy hR
      gi_wp2
      go_roundw
      case rel =>
        refine ⟨pre ++ [x], v, HJ.out.cell _ _ _ hJ4.out, hxs, by have := hv.out; omega, ?_, ?_, ?_, ?_⟩
        · exact World.cell?_setCell_same' _ _ _ (by rw [hc3]; rfl)
        · show World.frozen? _ _ = false
          rw [World.frozen?_setCell]
          exact hf3
        · exact (World.cell?_setCell_other _ _ _ _ (by simp <;> omega)).trans hm3.out
        · simpa using hs3
      case measure =>
        have h1 : leftAt Bn wr = u.size := by simp [leftAt, hc]
        have h2 : leftAt Bn (W3.setCell ⟨Bn, 0, none⟩ (.string v)) = v.size := by
          unfold leftAt
          rw [World.cell?_setCell_same' _ _ _ (by rw [hc3]; rfl)]
        rw [h1, h2]
        exact hv.out

/-- lines$1 gives the lines. -/
theorem lines_gives (Bn n₀ : Nat) (m : Int) (s : ByteArray) (hs : s.size ≤ 100000) (w : World) (hb2 : 2 < Bn) (hbn : Bn < n₀) (hn0 : n₀ ≤ w.heap.size) (hm : w.cell? ⟨2, 0, none⟩ = some (.int .i64 m)) (hBn : w.cell? ⟨Bn, 0, none⟩ = some (.string s)) (hfz : w.frozen? ⟨Bn, 0, none⟩ = false) :
    Gives Fence.wide 3 Tryd.prog 73 #[.pointer (some ⟨Bn, 0, none⟩)] (fun x : ByteArray => #[.string x]) Bn n₀ (linesV s) w := by
  intro l J W hb hJ hY h0
  exact lines1_in l Bn n₀ m _ J hJ s hs W rfl hY hb2 hbn (Nat.le_trans hn0 hb.size) ((hb.cell (p := ⟨2, 0, none⟩) (by show 2 < _; omega)).trans hm) ((hb.cell (p := ⟨Bn, 0, none⟩) (by show Bn < _; omega)).trans hBn) ((hb.frozen (p := ⟨Bn, 0, none⟩) (by show Bn < _; omega)).trans hfz) h0

/-! #### gather -/
theorem grown_of_below {W W' : World} (h : Below W.heap.size W W') : W.grownBy W' none := ⟨h.os, h.tape, h.output, h.size, fun k hk _ => h.block k hk⟩
theorem Tryd.infoStr : (Tryd.prog.info? 9).map (fun i => (i.zero, i.size, i.bytes)) = some (some (.string ByteArray.empty), 1, 16) := by kernel_rfl
theorem R_strs {w : World} {base : Nat} {v : Value} {xs : List ByteArray} (h : w.ownsRow base 9 1 v xs.length (xs.map Value.string)) : Kd.R Kd.string 9 w base (fun _ => True) v xs := by
  refine ⟨fun _ _ => trivial, xs.map Value.string, h, by simp [Kd.string, Kd.scalar], fun j p hj => ?_⟩
  show ((xs.map Value.string).drop (j * 1)).take 1 = [.string p]
  rw [Nat.mul_one]
  obtain ⟨hl, rfl⟩ := List.getElem?_eq_some_iff.1 hj
  rw [List.drop_eq_getElem_cons (by simpa using hl)]
  simp
theorem row_not {W : World} {n₀ Bn size k e : Nat} {v : Value} {xs : List Value} (h : W.ownsRow n₀ e size v k xs) (hB : Bn < n₀) : v.ownBlock ≠ some Bn := by
  rcases h.2 with ⟨rfl, _⟩ | ⟨g, cap, cur, rfl, hg, _⟩
  · simp [Value.ownBlock]
  · intro e
    have : g = Bn := by simpa [Value.ownBlock] using e
    omega
/-- What gather keeps between two rounds. -/
def GInv (Bn n₀ B : Nat) (w : World) (pre : List ByteArray) (W : World) : Prop :=
  (∃ v, Boxed W B 23 v ∧ W.ownsRow n₀ 9 1 v pre.length (pre.map Value.string) ∧ True) ∧ Below Bn w W
theorem ginv_calm (Bn n₀ B : Nat) (w : World) (h1 : Bn < n₀) (h2 : n₀ ≤ B) : CalmC Bn (GInv Bn n₀ B w) where
  cell := by
    rintro s W u ⟨⟨v, hv, hr, _⟩, hb⟩
    refine ⟨⟨v, hv.kept (grownBy_setCell' W Bn u) (fun e => by cases e; omega), hr.kept (grownBy_setCell' W Bn u) (.inr (row_not hr h1)), trivial⟩, hb.setCell (p := ⟨Bn, 0, none⟩) (Nat.le_refl _) u⟩
  below := by
    rintro s W W' ⟨⟨v, hv, hr, _⟩, hb⟩ hB
    exact ⟨⟨v, hv.kept (grown_of_below hB) (by simp), hr.kept (grown_of_below hB) (by rcases hr.2 with ⟨rfl, _⟩ | ⟨g, cap, cur, rfl, _⟩; (· exact .inl rfl); (· exact .inr (by simp [Value.ownBlock]))), trivial⟩, hb.trans (hB.mono (by have := hv.lt; omega))⟩
theorem ginv_put (Bn n₀ B : Nat) (w w1 : World) (h1 : Bn < n₀) (h2 : n₀ ≤ B) (h3 : Bn ≤ w1.heap.size) : ∀ s W l o o', GInv Bn n₀ B w s W → w1.heap.size ≤ l → W.heap[l]? = some o → Obj.isCells o = false → GInv Bn n₀ B w s (W.putObj l o') := by
  rintro s W l o o' ⟨h, hb⟩ hl ho hc
  refine ⟨(holdsRow_own n₀ B 23 9 1 (fun s : List ByteArray => s.length) (fun s => s.map Value.string) (fun _ _ => True)).putObj o' h ho hc, ?_⟩
  exact hb.trans ((Below.refl _ W).grown (grownBy_putObj' W _ _) (by have := (Array.getElem?_eq_some_iff.1 ho).1; omega) (fun k e => by cases e; omega))

set_option maxHeartbeats 1000000 in
theorem gather_in (gf : Nat) (lb : Array Value) (eg : ∀ args w, (callFunc gf args).run Tryd.prog w = .ok (.enter gf args) w) (Bn : Nat) (xs : List ByteArray) (hxl : xs.length ≤ 1000000) (w : World) (hBn : Bn < w.heap.size)
    (hseq : Gives Fence.wide 3 Tryd.prog gf lb (fun x : ByteArray => #[.string x]) Bn w.heap.size xs w) :
    CallsIn Fence.wide 4 Tryd.prog 49 #[.func (.func gf) #[] lb] w fun e W' => ∃ v, e = .returned v ∧ W'.ownsRow w.heap.size 9 1 v xs.length (xs.map Value.string) ∧ Below Bn w W' := by
  have HS := Lib.hid hseq
  have HE := Lib.hid eg
  clear hseq eg
  refine callsIn_of_wp_marks Tryd.func49 rfl trivial ?_ rfl
  simp only [Tryd.ntmps49, List.size_toArray, List.length_cons, List.length_nil, Nat.reduceAdd, Nat.reduceSub, Array.replicate_succ, Array.replicate_zero, List.push_toArray, List.append_toArray, List.nil_append, List.cons_append]
  gi_wp2
  have hbW : Below w.heap.size w (w.alloc (.cells #[.slice none 0 0] 23)) := (Below.refl _ w).alloc (Nat.le_refl _) _
  refine loop_all (xs := xs) rfl (by omega) (gf := gf) (lb := lb) rfl trivial HE.out HS.out hbW (by simp; omega) (by simp) (fun _ => rfl) (GInv Bn w.heap.size w.heap.size w) (ginv_calm Bn _ _ w hBn (Nat.le_refl _)) (ginv_put Bn _ _ w _ hBn (Nat.le_refl _) (by simp; omega))
    ⟨⟨_, Boxed.new w 23 _, World.ownsRow_nil _ _ _ _, trivial⟩, hbW.mono (by omega)⟩
    (fun x => { tmps := #[.func (.func gf) #[] lb, undef, .slice none 0 0, .pointer (some ⟨w.heap.size, 0, none⟩), .string x, .func (.func gf) #[] lb, .string x, undef, undef, undef, undef, undef], defers := [] }) ?assign ?body ?done
  case assign =>
    intro l x W K hK
    gi_wp2
    exact hK
  case body =>
    rintro l pre x W ⟨⟨v, hv, hrow, _⟩, hb⟩ ⟨t, ht⟩
    have hpl : pre.length + 1 ≤ 1000000 := by
      have := congrArg List.length ht
      simp only [List.length_append, List.length_cons] at this
      omega
    have hle : w.heap.size ≤ W.heap.size := Nat.le_of_lt hv.lt
    have hc := hv.cell
    have HV := Lib.hid hv
    have HR := Lib.hid hrow
    clear hv hrow
    obtain ⟨i0, hi, hz0, hz1, hz2⟩ := info_parts Tryd.infoStr
    gi_wp2_with (gi_at_builtin; refine wpListIn_append_own _ rfl _ _ 23 rfl w.heap.size 9 i0 (.string ByteArray.empty) 1 16 Tryd.underlying23 hi hz0 hz1 hz2 rfl (by decide) _ _ _ rfl (HR.out.alloc _) ⟨W.heap.size, 0, none⟩ 1 1 [.string x] rfl rfl (cell_one_new _ _ _) (by simp [Value.oneCell']) (by unfold maxLen; omega) (by omega) (by simp; omega) ?_; intro v' w1 hown' hgrow _; obtain ⟨g', cap', rfl⟩ := ownsRow_succ hown'; obtain ⟨hv1, hv2, hr2, hk2, hb2⟩ := HV.out.appended (by decide) HR.out hle (Nat.le_refl _) hown' hgrow; have hc1 := hv1.cell; have hf1 := hv1.frozen)
    exact ⟨hk2.from _, hb2, ⟨_, hv2, by simpa using hr2, trivial⟩, hb.trans (hb2.mono (by omega))⟩
  case done =>
    rintro D W hD ⟨⟨v, hv, hrow, _⟩, hb⟩ hK
    have hc := hv.cell
    have hlt := hv.lt
    gi_wp2
    refine ⟨by simp, .inl ⟨_, _, rfl, run_takeDeferred hK, ?_⟩⟩
    refine ⟨_, results_tmp rfl _ _ _, _, rfl, ownsRow_putObj hrow _ hK rfl, ?_⟩
    exact hb.trans ((Below.refl _ W).grown (grownBy_putObj' W _ _) (by omega) (fun k e => by cases e; simp at hD; omega))

theorem lines_mk (s : ByteArray) (w : World) : Calls Tryd.prog 50 #[.string s] w fun e w' => e = .returned (.func (.func 73) #[] #[.pointer (some ⟨w.heap.size, 0, none⟩)]) ∧ w' = w.alloc (.cells #[.string s] 9) := by
  go_enter Tryd.func50, Tryd.ntmps50
  go_wp2
  go_ret
  exact ⟨rfl, rfl⟩
theorem enters73 (args : Array Value) (w : World) : (callFunc 73 args).run Tryd.prog w = .ok (.enter 73 args) w := enters_of Tryd.func73 (by kernel_rfl) rfl args w
set_option maxHeartbeats 1000000 in
theorem lines_walk (s : ByteArray) (hs : s.size ≤ 100000) (m : Int) (w : World) (hw : 2 < w.heap.size) (hm : w.cell? ⟨2, 0, none⟩ = some (.int .i64 m)) :
    Calls Tryd.prog 20 #[.string s] w fun e w' => ∃ v, e = .returned v ∧ Kd.R Kd.string 9 w' w.heap.size (fun _ => True) v (linesV s) ∧ Below w.heap.size w w' := by
  have hB : Hid (Below w.heap.size w (w.alloc (.cells #[.string s] 9))) := (Below.refl _ w).alloc (Nat.le_refl _) _
  have hll : (linesV s).length ≤ 1000000 := by
    have := linesGo_len s.data.toList []
    have e : s.data.toList.length = s.size := by simp
    unfold linesV
    rw [List.length_map]
    omega
  have HG := Lib.hid (gather_in 73 #[.pointer (some ⟨w.heap.size, 0, none⟩)] enters73 w.heap.size (linesV s) hll (w.alloc (.cells #[.string s] 9)) (by simp)
    (lines_gives w.heap.size _ m s hs _ hw (by simp) (Nat.le_refl _) ((hB.out.cell (p := ⟨2, 0, none⟩) hw).trans hm) (by simp) (by simp)))
  clear hm
  refine (callsIn_wide (n := 5)).1 ?_
  refine callsIn_of_wp Tryd.func20 rfl trivial ?_ rfl
  simp only [Tryd.ntmps20, List.size_toArray, List.length_cons, List.length_nil, Nat.reduceAdd, Nat.reduceSub, Array.replicate_succ, Array.replicate_zero, List.push_toArray, List.append_toArray, List.nil_append, List.cons_append]
  gi_wp2_with (first | (refine ⟨trivial, ?_⟩; gi_at_call 50; refine (callsIn_wide.2 (lines_mk s w)).mono ?_; rintro e w' ⟨rfl, rfl⟩) | (refine ⟨trivial, ?_⟩; gi_at_call 49; refine HG.out.mono ?_; rintro e w' ⟨v, rfl, hr, hb⟩))
  go_ret
  refine ⟨_, rfl, Kd.R_lower (R_strs hr) (by simp), hB.out.trans (hb)⟩
/-- text.Lines: guarded by a size and by the table's cell. -/
def text_Lines.f (a0 : ByteArray) : Option (List ByteArray) := if a0.size ≤ 100000 then some (linesV a0) else none
end Go.Proofs.YtocpfgdajomjiaaDoor.Hand
