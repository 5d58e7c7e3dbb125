import Derived.Test.YtnjjnfbkilgidaaDoorQB
import Derived.Test.YtnjjnfbkilgidaaDoorProg
import Derived.Below
import Derived.Deep.Draws
import Derived.Deep.AppendLies
import Derived.Maps.AppendAt
import Derived.OwnWalk
import Derived.Laws.BytesArg
import Derived.Laws.MakeOwn
import Derived.Laws.OwnMore
import Derived.Deep.OwnRows
import Derived.Tactics
import Derived.Lib.ConvBytes
import Derived.Laws.Slices
import Derived.WalkKit
import Derived.KernelRfl
import Derived.RowKit3
import Derived.Deep.LoopGhost
import Derived.Deep.QuietTactic
import Derived.BigQuiet
import Derived.WideLaws
import Derived.Deep.DeepCutAuto
import Derived.Deep.CutBlock
import Derived.Deep.RegionHeld3
import Derived.Laws.Rows
import Derived.Lib.AppendStr
import Derived.ArgAppend
import Derived.Laws.IdiomCopy
import Derived.OrdersHeld
import Derived.Laws.BitsLemmas
import Derived.RowKit
import Derived.Test.YtnjjnfbkilgidaaDoorWWords
import Derived.Test.YtnjjnfbkilgidaaDoorWLast
import Derived.Test.YtnjjnfbkilgidaaDoorWTab
import Derived.Test.YtnjjnfbkilgidaaDoorWFour
import Derived.Test.YtnjjnfbkilgidaaDoorWQPut
import Derived.Test.YtnjjnfbkilgidaaDoorWApart
import Derived.Test.YtnjjnfbkilgidaaDoorWArr
import Derived.Test.YtnjjnfbkilgidaaDoorWZeros
import Derived.Test.YtnjjnfbkilgidaaDoorWFoot
import Derived.Test.YtnjjnfbkilgidaaDoorWKept
import Derived.Test.YtnjjnfbkilgidaaDoorWShare
import Derived.Test.YtnjjnfbkilgidaaDoorWN
import Derived.Test.YtnjjnfbkilgidaaDoorWFootNe
import Derived.Test.YtnjjnfbkilgidaaDoorWAt
import Derived.Test.YtnjjnfbkilgidaaDoorWEqStruct
import Derived.Test.YtnjjnfbkilgidaaDoorWRepsOne
import Derived.Test.YtnjjnfbkilgidaaDoorWInv
import Derived.Test.YtnjjnfbkilgidaaDoorWInvWords
import Derived.Test.YtnjjnfbkilgidaaDoorWGuard
import Derived.Test.YtnjjnfbkilgidaaDoorWNEv
import Derived.Test.YtnjjnfbkilgidaaDoorWMore
import Derived.Test.YtnjjnfbkilgidaaDoorWSized
import Derived.Carry
/- Several texts of this session in one: the walks of the functions that the laws reach, and what they tell. -/
namespace Go.Proofs.YtnjjnfbkilgidaaDoor.Hand
open Go.RowKit Go.Shelf Go.Proofs.YtnjjnfbkilgidaaDoor.Range Go.Proofs.YtnjjnfbkilgidaaDoorW.PrintWords
attribute [local go_sem] Oper.semAt_some
set_option linter.unusedVariables false
set_option linter.unusedSimpArgs false

theorem Tryd.infoAS : (Tryd.prog.info? 59).map (fun i => (i.zero, i.size)) = some (some (.agg (Array.replicate 256 (.bool false))), 256) := by kernel_rfl
theorem ascii_blanks : ∀ (j : Nat) b, blanksB.data.toList[j]? = some b → b.toNat < 128 := ascii_of_all (by decide)
theorem indexAny_blank (s : ByteArray) (hs : s.size ≤ 100000) (w : World) :
    Calls Tryd.prog 22 #[.string s, .string blanksB] w fun e w' => e = .returned (.int .i64 (Lib.indexAny s.data.toList [32, 9])) ∧ Below w.heap.size w w' := by
  by_cases h : s.size ≤ 8
  · exact indexAny_near s w h
  · refine (Tryd.strings_IndexAny_long (zero_of_info Tryd.infoAS).1 s blanksB w (by decide) (by omega) (by omega) (by decide) ascii_blanks).mono ?_
    rintro e w' ⟨he, rfl⟩
    exact ⟨he, ((Below.refl _ _).alloc (Nat.le_refl _) _).alloc (by simp) _⟩
theorem trimLeft_blank (s : ByteArray) (w : World) :
    Calls Tryd.prog 21 #[.string s, .string blanksB] w fun e w' => e = .returned (.string ⟨(Lib.trimLeftS s.data.toList [32, 9]).toArray⟩) ∧ Below w.heap.size w w' :=
  Any.strings_TrimLeft_laid Tryd.lays161 Tryd.infoAS s blanksB w (by decide) ascii_blanks

/-! #### Words -/
def blank (c : UInt8) : Bool := c == 32 || c == 9
theorem contains_blank (c : UInt8) : List.contains [32, 9] c = blank c := by
  rw [blank, Bool.eq_iff_iff]
  simp [List.contains_cons]
def wordsGo (cur : List UInt8) : List UInt8 → List (List UInt8)
  | [] => if cur = [] then [] else [cur.reverse]
  | c :: t => if blank c = true then (if cur = [] then wordsGo [] t else cur.reverse :: wordsGo [] t) else wordsGo (c :: cur) t
def wordsV (s : ByteArray) : List ByteArray := (wordsGo [] s.data.toList).map bytesOf
theorem wordsGo_drop (l : List UInt8) : wordsGo [] l = wordsGo [] (Lib.trimLeftS l [32, 9]) := by
  unfold Lib.trimLeftS
  induction l with
  | nil => rfl
  | cons c t ih =>
    rw [List.dropWhile_cons, contains_blank]
    by_cases h : blank c = true
    · rw [if_pos h, wordsGo, if_pos h, if_pos rfl, ih]
    · rw [if_neg h]
theorem wordsGo_span : ∀ (l cur : List UInt8), (cur ≠ [] ∨ (l ≠ [] ∧ ∀ c, l.head? = some c → blank c = false)) → wordsGo cur l = (cur.reverse ++ l.takeWhile fun c => !blank c) :: wordsGo [] (l.dropWhile fun c => !blank c) := by
  intro l
  induction l with
  | nil =>
    intro cur h
    have : cur ≠ [] := by
      rcases h with h | h
      · exact h
      · exact absurd rfl h.1
    simp [wordsGo, this]
  | cons c t ih =>
    intro cur h
    by_cases hb : blank c = true
    · have hc : cur ≠ [] := by
        rcases h with h | h
        · exact h
        · have := h.2 c rfl
          rw [hb] at this
          exact absurd this (by simp)
      rw [wordsGo, if_pos hb, if_neg hc]
      have h1 : wordsGo [] (c :: t) = wordsGo [] t := by rw [wordsGo, if_pos hb, if_pos rfl]
      simp [hb, h1]
    · rw [wordsGo, if_neg hb, ih (c :: cur) (.inl (by simp))]
      simp [hb]
/-- Where the word ends. -/
def cutAt (l : List UInt8) : Nat := if Lib.indexAny l [32, 9] < 0 then l.length else (Lib.indexAny l [32, 9]).toNat
theorem cutAt_cons (c : UInt8) (t : List UInt8) : cutAt (c :: t) = if blank c = true then 0 else cutAt t + 1 := by
  unfold cutAt
  rw [Lib.indexAny, contains_blank]
  have hge := Lib.indexAny_ge [32, 9] t
  by_cases h : blank c = true
  · simp [h]
  · rw [if_neg h, if_neg h]
    by_cases h1 : Lib.indexAny t [32, 9] = -1
    · rw [h1]
      simp
    · have e1 : (Lib.indexAny t [32, 9] == -1) = false := by simpa using h1
      rw [e1]
      simp only [Bool.false_eq_true, if_false]
      rw [if_neg (by omega), if_neg (by omega)]
      omega
theorem cutAt_spec (l : List UInt8) : l.take (cutAt l) = (l.takeWhile fun c => !blank c) ∧ l.drop (cutAt l) = (l.dropWhile fun c => !blank c) ∧ cutAt l ≤ l.length := by
  induction l with
  | nil => simp [cutAt, Lib.indexAny]
  | cons c t ih =>
    rw [cutAt_cons]
    by_cases h : blank c = true
    · simp [h]
    · rw [if_neg h, List.take_succ_cons, List.drop_succ_cons]
      simp [h, ih.1, ih.2.1, ih.2.2]
theorem trimLeft_head (l : List UInt8) : ∀ c, (Lib.trimLeftS l [32, 9]).head? = some c → blank c = false := by
  intro c h
  unfold Lib.trimLeftS at h
  have := List.head?_dropWhile_not (fun b => List.contains [32, 9] b) l
  rw [h] at this
  simp only [contains_blank] at this
  simpa using this
theorem trimLeft_len (l : List UInt8) : (Lib.trimLeftS l [32, 9]).length ≤ l.length := by
  unfold Lib.trimLeftS
  exact (List.dropWhile_sublist _).length_le
/-- One round of words. -/
theorem words_round (u v : List UInt8) (hv : v = Lib.trimLeftS u [32, 9]) : (v = [] → wordsGo [] u = []) ∧ (v ≠ [] → wordsGo [] u = v.take (cutAt v) :: wordsGo [] (v.drop (cutAt v)) ∧ (v.drop (cutAt v)).length < u.length) := by
  have h1 := wordsGo_drop u
  have h2 := trimLeft_head u
  have h3 := trimLeft_len u
  rw [← hv] at h1 h2 h3
  refine ⟨fun e => by rw [h1, e]; rfl, fun e => ?_⟩
  have hs := cutAt_spec v
  rw [h1, wordsGo_span v [] (.inr ⟨e, h2⟩), ← hs.1, ← hs.2.1]
  refine ⟨rfl, ?_⟩
  cases v with
  | nil => exact absurd rfl e
  | cons c t =>
    have hb := h2 c rfl
    rw [cutAt_cons, if_neg (by simp [hb]), List.drop_succ_cons, List.length_drop]
    simp only [List.length_cons] at h3
    omega
theorem wordsGo_len : ∀ (s cur : List UInt8), (wordsGo cur s).length ≤ s.length + 1 := by
  intro s
  induction s with
  | nil =>
    intro cur
    rw [wordsGo]
    split <;> simp
  | cons c t ih =>
    intro cur
    rw [wordsGo]
    have h1 := ih []
    have h2 := ih (c :: cur)
    split
    · split <;> simp only [List.length_cons] <;> omega
    · simp only [List.length_cons] at h2 ⊢
      omega
theorem ba_ext {a b : ByteArray} (h : a.data.toList = b.data.toList) : a = b := by
  cases a with
  | mk x =>
    cases b with
    | mk y => rw [show x = y from Array.ext' h]
theorem ext_take (v : ByteArray) (k : Nat) : (⟨(v.data.toList.take k).toArray⟩ : ByteArray) = v.extract 0 k := by
  apply ba_ext
  simp [ByteArray.data_extract]
theorem ext_drop (v : ByteArray) (k : Nat) : (⟨(v.data.toList.drop k).toArray⟩ : ByteArray) = v.extract k v.size := by
  apply ba_ext
  rw [ByteArray.data_extract, Array.toList_extract, List.extract_eq_take_drop, List.take_of_length_le]
  rw [List.length_drop, ← Lib.size_eq]
  exact Nat.le_refl _
set_option maxHeartbeats 1000000 in
theorem words1_in (l Bn n₀ : Nat) (xs : List ByteArray) (J : List ByteArray → World → Prop) (hJ : CalmC Bn J) (s : ByteArray) (hs : s.size ≤ 100000) (W : World) (hxs : wordsV s = xs)
    (hY : ∀ pre x W1, J pre W1 → (∃ t, pre ++ x :: t = xs) → YieldAt Fence.wide (3 - 1) Tryd.prog l #[.string x] W1 fun e W' => e = .returned (.bool true) ∧ J (pre ++ [x]) W' ∧ Below n₀ W1 W')
    (hbn : Bn < n₀) (hn0 : n₀ ≤ W.heap.size) (hBn : W.cell? ⟨Bn, 0, none⟩ = some (.string s)) (hfz : W.frozen? ⟨Bn, 0, none⟩ = false) (h0 : J [] W) :
    CallsIn Fence.wide 3 Tryd.prog 20 #[.func (.yield l) #[] #[], .pointer (some ⟨Bn, 0, none⟩)] W fun e W' => (∃ v, e = .returned v) ∧ J xs W' := by
  have HY := Lib.hid hY
  have H0 := Lib.hid h0
  have HJ := Lib.hid hJ
  have HX := Lib.hid hxs
  have HB := Lib.hid hBn
  have HF := Lib.hid hfz
  clear hY h0 hJ hxs hBn hfz
  refine callsIn_of_wp Tryd.func20 rfl trivial ?_ rfl
  simp only [Tryd.ntmps20, List.size_toArray, List.length_cons, List.length_nil, Nat.reduceAdd, Nat.reduceSub, Array.replicate_succ, Array.replicate_zero, List.push_toArray, List.append_toArray, List.nil_append, List.cons_append]
  gi_wp2
  gi_loopw [] (fun wr => ∃ (pre : List ByteArray) (u : ByteArray), Hid (J pre wr) ∧ Hid (pre ++ wordsV u = xs) ∧ u.size ≤ 100000 ∧ Hid (wr.cell? ⟨Bn, 0, none⟩ = some (.string u)) ∧ Hid (wr.frozen? ⟨Bn, 0, none⟩ = false) ∧ n₀ ≤ wr.heap.size)
    (fun wr => leftAt Bn wr)
  case atStart => exact ⟨[], s, H0, by simpa [Hid] using HX.out, hs, HB, HF, hn0⟩
  case round =>
    obtain ⟨pre, u, hJu, hpu, hsu, hcu, hfu, hnu⟩ := hrel
    have hc := hcu.out
    obtain ⟨v, hv⟩ : ∃ v : ByteArray, v = ⟨(Lib.trimLeftS u.data.toList [32, 9]).toArray⟩ := ⟨_, rfl⟩
    have htr := Lib.hid (trimLeft_blank u wr)
    rw [← hv] at htr
    have hcB : Hid (∀ w', Below wr.heap.size wr w' → w'.cell? ⟨Bn, 0, none⟩ = some (.string u) ∧ w'.frozen? ⟨Bn, 0, none⟩ = false) := fun w' h => ⟨(h.cell (p := ⟨Bn, 0, none⟩) (cell_lt' hc)).trans hc, (h.frozen (p := ⟨Bn, 0, none⟩) (cell_lt' hc)).trans hfu.out⟩
    have hround := words_round u.data.toList v.data.toList (by rw [hv])
    have hv' := trimLeft_len u.data.toList
    have hvs : v.size ≤ 100000 := by
      rw [hv]
      show (Lib.trimLeftS u.data.toList [32, 9]).toArray.size ≤ _
      rw [List.size_toArray]
      have : u.data.toList.length = u.size := by simp
      omega
    clear hv hv'
    have hidx := Lib.hid (fun w => indexAny_blank v hvs w)
    have hge := Lib.indexAny_ge [32, 9] v.data.toList
    obtain ⟨ix, hix⟩ : ∃ ix, Lib.indexAny v.data.toList [32, 9] = ix := ⟨_, rfl⟩
    rw [hix] at hidx hge
    have hcV : Hid (∀ w1 w3, Below wr.heap.size wr w1 → Below (w1.setCell ⟨Bn, 0, none⟩ (.string v)).heap.size (w1.setCell ⟨Bn, 0, none⟩ (.string v)) w3 → w3.cell? ⟨Bn, 0, none⟩ = some (.string v) ∧ w3.frozen? ⟨Bn, 0, none⟩ = false ∧ Hid (J pre w3) ∧ n₀ ≤ w3.heap.size) := by
      intro w1 w3 h1 h3
      obtain ⟨a1, a2⟩ := hcB.out w1 h1
      have hlt := cell_lt' a1
      have b1 : (w1.setCell ⟨Bn, 0, none⟩ (.string v)).cell? ⟨Bn, 0, none⟩ = some (.string v) := World.cell?_setCell_same' _ _ _ (by rw [a1]; rfl)
      have b2 : (w1.setCell ⟨Bn, 0, none⟩ (.string v)).frozen? ⟨Bn, 0, none⟩ = false := by rw [World.frozen?_setCell]; exact a2
      refine ⟨(h3.cell (p := ⟨Bn, 0, none⟩) (cell_lt' b1)).trans b1, (h3.frozen (p := ⟨Bn, 0, none⟩) (cell_lt' b1)).trans b2, HJ.out.below _ _ _ (HJ.out.cell _ _ _ (HJ.out.below _ _ _ hJu.out h1)) h3, ?_⟩
      have := h1.size
      have := h3.size
      simp at this
      omega
    by_cases e : v = ByteArray.empty
    · subst e
      have hix1 : ix = -1 := by rw [← hix]; rfl
      subst hix1
      have hfin : Hid (pre = xs) := by
        have h := hpu.out
        unfold wordsV at h
        rw [hround.1 rfl] at h
        show pre = xs
        simpa using h
      clear hround hix
      gi_wp2_with (first | (refine ⟨trivial, ?_⟩; gi_at_call 21; refine (callsIn_wide.2 htr.out).mono ?_; rintro e w1 ⟨rfl, hb1⟩; obtain ⟨hc1, hf1⟩ := hcB.out _ hb1) | (refine ⟨trivial, ?_⟩; gi_at_call 22; refine (callsIn_wide.2 (hidx.out _)).mono ?_; rintro e w3 ⟨rfl, hb3⟩; obtain ⟨hc3, hf3, hj3, hn3⟩ := hcV.out _ _ hb1 hb3))
      refine ⟨fun _ h => (by cases h), ?_⟩
      gi_wp2
      refine bodyPost_ret (results_none rfl _ _ _) rfl ?_
      exact ⟨⟨_, rfl⟩, by rw [← hfin.out]; exact hj3.out⟩
    · obtain ⟨hr1, hr2⟩ := hround.2 (ba_ne e)
      obtain ⟨x, hx⟩ : ∃ x : ByteArray, x = ⟨(v.data.toList.take (cutAt v.data.toList)).toArray⟩ := ⟨_, rfl⟩
      obtain ⟨z, hz⟩ : ∃ z : ByteArray, z = ⟨(v.data.toList.drop (cutAt v.data.toList)).toArray⟩ := ⟨_, rfl⟩
      have hxs : Hid ((pre ++ [x]) ++ wordsV z = xs) := by
        have h := hpu.out
        unfold wordsV at h ⊢
        rw [hr1] at h
        rw [hx, hz]
        simpa [Hid, bytesOf] using h
      have hzl : Hid (z.size < u.size) := by
        rw [hz]
        show (v.data.toList.drop (cutAt v.data.toList)).toArray.size < u.size
        rw [List.size_toArray]
        have : u.data.toList.length = u.size := by simp
        omega
      have hne : v.toList.isEmpty = false := ba_isEmpty e
      have hk := (cutAt_spec v.data.toList).2.2
      rw [← Lib.size_eq] at hk
      have hround' : Hid (∀ w3, J pre w3 → YieldAt Fence.wide (3 - 1) Tryd.prog l #[.string x] w3 fun e W' => e = .returned (.bool true) ∧ J (pre ++ [x]) W' ∧ Below n₀ w3 W') := fun w3 hj =>
        HY.out pre x _ hj ⟨wordsV z, by have := hxs.out; rwa [List.append_assoc] at this⟩
      clear hr1 hr2 hround
      by_cases hneg : ix < 0
      · have hcut : cutAt v.data.toList = v.size := by
          unfold cutAt
          rw [hix, if_pos hneg, Lib.size_eq]
        have hix1 : ix = -1 := by omega
        subst hix1
        rw [hcut] at hx hz
        have hxv : x = v := by rw [hx, Lib.size_eq, List.take_length]
        have hzv : z = ByteArray.empty := by rw [hz, Lib.size_eq, List.drop_length]; rfl
        subst hxv hzv
        clear hix hneg hge hcut hk hx hz
        gi_wp2_with (first | (refine ⟨trivial, ?_⟩; gi_at_call 21; refine (callsIn_wide.2 htr.out).mono ?_; rintro e w1 ⟨rfl, hb1⟩; obtain ⟨hc1, hf1⟩ := hcB.out _ hb1) | (refine ⟨trivial, ?_⟩; gi_at_call 22; refine (callsIn_wide.2 (hidx.out _)).mono ?_; rintro e w3 ⟨rfl, hb3⟩; obtain ⟨hc3, hf3, hj3, hn3⟩ := hcV.out _ _ hb1 hb3; obtain ⟨fn, tmps, assign, body, hy, hR⟩ := hround'.out _ hj3.out))
        refine hR.mono ?_
        rintro e W3 ⟨rfl, hJ4, hb4⟩
        have hc4 : W3.cell? ⟨Bn, 0, none⟩ = some (.string x) := (hb4.cell (p := ⟨Bn, 0, none⟩) hbn).trans hc3
        have hf4 : W3.frozen? ⟨Bn, 0, none⟩ = false := (hb4.frozen (p := ⟨Bn, 0, none⟩) hbn).trans hf3
        have HJ4 := Lib.hid hJ4
        have hs4 : n₀ ≤ W3.heap.size := Nat.le_trans hn3 hb4.size
        clear hJ4 hb4 hy hR hc3 hf3 hc1 hf1
        gi_wp2
        go_roundw
        case rel =>
          refine ⟨pre ++ [x], ByteArray.empty, HJ.out.cell _ _ _ HJ4.out, hxs, by have := hzl.out; omega, ?_, ?_, ?_⟩
          · exact World.cell?_setCell_same' _ _ _ (by rw [hc4]; rfl)
          · show World.frozen? _ _ = false
            rw [World.frozen?_setCell]
            exact hf4
          · simpa using hs4
        case measure =>
          have h1 : leftAt Bn wr = u.size := by simp [leftAt, hc]
          have h2 : leftAt Bn (W3.setCell ⟨Bn, 0, none⟩ (.string ByteArray.empty)) = (ByteArray.empty : ByteArray).size := by
            unfold leftAt
            rw [World.cell?_setCell_same' _ _ _ (by rw [hc4]; rfl)]
          rw [h1, h2]
          exact hzl.out
      · obtain ⟨k, rfl⟩ := Int.eq_ofNat_of_zero_le (show 0 ≤ ix by omega)
        have hcut : cutAt v.data.toList = k := by
          unfold cutAt
          rw [hix, if_neg hneg]
          rfl
        rw [hcut] at hx hz hk
        have hk9 : (k : Int) ≤ v.size := by omega
        have hv9 : (v.size : Int) ≤ 100000 := by omega
        rw [ext_take] at hx
        rw [ext_drop] at hz
        subst hx hz
        clear hix hneg hge hcut
        gi_wp2_with (first | (refine ⟨trivial, ?_⟩; gi_at_call 21; refine (callsIn_wide.2 htr.out).mono ?_; rintro e w1 ⟨rfl, hb1⟩; obtain ⟨hc1, hf1⟩ := hcB.out _ hb1) | (refine ⟨trivial, ?_⟩; gi_at_call 22; refine (callsIn_wide.2 (hidx.out _)).mono ?_; rintro e w3 ⟨rfl, hb3⟩; obtain ⟨hc3, hf3, hj3, hn3⟩ := hcV.out _ _ hb1 hb3; obtain ⟨fn, tmps, assign, body, hy, hR⟩ := hround'.out _ hj3.out))
        refine hR.mono ?_
        rintro e W3 ⟨rfl, hJ4, hb4⟩
        have hc4 : W3.cell? ⟨Bn, 0, none⟩ = some (.string v) := (hb4.cell (p := ⟨Bn, 0, none⟩) hbn).trans hc3
        have hf4 : W3.frozen? ⟨Bn, 0, none⟩ = false := (hb4.frozen (p := ⟨Bn, 0, none⟩) hbn).trans hf3
        have HJ4 := Lib.hid hJ4
        have hs4 : n₀ ≤ W3.heap.size := Nat.le_trans hn3 hb4.size
        clear hJ4 hb4 hy hR hc3 hf3 hc1 hf1
        gi_wp2
        go_roundw
        case rel =>
          refine ⟨pre ++ [v.extract 0 k], v.extract k v.size, HJ.out.cell _ _ _ HJ4.out, hxs, by have := hzl.out; omega, ?_, ?_, ?_⟩
          · exact World.cell?_setCell_same' _ _ _ (by rw [hc4]; rfl)
          · show World.frozen? _ _ = false
            rw [World.frozen?_setCell]
            exact hf4
          · simpa using hs4
        case measure =>
          have h1 : leftAt Bn wr = u.size := by simp [leftAt, hc]
          have h2 : leftAt Bn (W3.setCell ⟨Bn, 0, none⟩ (.string (v.extract k v.size))) = (v.extract k v.size).size := by
            unfold leftAt
            rw [World.cell?_setCell_same' _ _ _ (by rw [hc4]; rfl)]
          rw [h1, h2]
          exact hzl.out

theorem words_gives (Bn n₀ : Nat) (s : ByteArray) (hs : s.size ≤ 100000) (w : World) (hbn : Bn < n₀) (hn0 : n₀ ≤ w.heap.size) (hBn : w.cell? ⟨Bn, 0, none⟩ = some (.string s)) (hfz : w.frozen? ⟨Bn, 0, none⟩ = false) :
    Gives Fence.wide 3 Tryd.prog 20 #[.pointer (some ⟨Bn, 0, none⟩)] (fun x : ByteArray => #[.string x]) Bn n₀ (wordsV s) w := by
  intro l J W hb hJ hY h0
  exact words1_in l Bn n₀ _ J hJ s hs W rfl hY hbn (Nat.le_trans hn0 hb.size) ((hb.cell (p := ⟨Bn, 0, none⟩) (by show Bn < _; omega)).trans hBn) ((hb.frozen (p := ⟨Bn, 0, none⟩) (by show Bn < _; omega)).trans hfz) h0
theorem words_mk (s : ByteArray) (w : World) : Calls Tryd.prog 16 #[.string s] w fun e w' => e = .returned (.func (.func 20) #[] #[.pointer (some ⟨w.heap.size, 0, none⟩)]) ∧ w' = w.alloc (.cells #[.string s] 9) := by
  go_enter Tryd.func16, Tryd.ntmps16
  go_wp2
  go_ret
  exact ⟨rfl, rfl⟩
theorem entersW (args : Array Value) (w : World) : (callFunc 20 args).run Tryd.prog w = .ok (.enter 20 args) w := enters_of Tryd.func20 (by kernel_rfl) rfl args w
set_option maxHeartbeats 1000000 in
theorem words_walk (s : ByteArray) (hs : s.size ≤ 100000) (w : World) :
    Calls Tryd.prog 13 #[.string s] w fun e w' => ∃ v, e = .returned v ∧ Kd.R Kd.string 9 w' w.heap.size (fun _ => True) v (wordsV s) ∧ Below w.heap.size w w' := by
  have hB : Hid (Below w.heap.size w (w.alloc (.cells #[.string s] 9))) := (Below.refl _ w).alloc (Nat.le_refl _) _
  have hll : (wordsV s).length ≤ 1000000 := by
    have := wordsGo_len s.data.toList []
    have e : s.data.toList.length = s.size := by simp
    unfold wordsV
    rw [List.length_map]
    omega
  have HG := Lib.hid (gather_in 20 #[.pointer (some ⟨w.heap.size, 0, none⟩)] entersW w.heap.size (wordsV s) hll (w.alloc (.cells #[.string s] 9)) (by simp)
    (words_gives w.heap.size _ s hs _ (by simp) (Nat.le_refl _) (by simp) (by simp)))
  refine (callsIn_wide (n := 5)).1 ?_
  refine callsIn_of_wp Tryd.func13 rfl trivial ?_ rfl
  simp only [Tryd.ntmps13, List.size_toArray, List.length_cons, List.length_nil, Nat.reduceAdd, Nat.reduceSub, Array.replicate_succ, Array.replicate_zero, List.push_toArray, List.append_toArray, List.nil_append, List.cons_append]
  gi_wp2_with (first | (refine ⟨trivial, ?_⟩; gi_at_call 16; refine (callsIn_wide.2 (words_mk s w)).mono ?_; rintro e w' ⟨rfl, rfl⟩) | (refine ⟨trivial, ?_⟩; gi_at_call 15; refine HG.out.mono ?_; rintro e w' ⟨v, rfl, hr, hb⟩))
  go_ret
  refine ⟨_, rfl, Kd.R_lower (R_strs hr) (by simp), hB.out.trans (hb)⟩

/-! #### Trim, Join -/
def trimV (s : ByteArray) : ByteArray := ⟨(Lib.trimS s.data.toList [32, 9]).toArray⟩
def joinV (l : List ByteArray) : ByteArray := ⟨(Lib.join (l.map (·.data.toList)) [32]).toArray⟩
theorem join_walk (A : Option Addr) (c : Nat) (l : List ByteArray) (w : World) (hC : Kd.C Kd.string w A l.length l) (hc : l.length ≤ c) (hl : l.length ≤ 100000) (hlen : (joinV l).size ≤ 100000000) :
    Calls Tryd.prog 28 #[.slice A l.length c] w fun e w' => e = .returned (.string (joinV l)) ∧ Below w.heap.size w w' := by
  have HJ : Hid (Calls Tryd.prog 44 #[.slice A l.length c, .string ⟨#[32]⟩] w fun e w' => e = .returned (.string (joinV l)) ∧ Below w.heap.size w w') := by
    cases l with
    | nil => exact (Tryd.strings_Join_none A c ⟨#[32]⟩ w).mono (by rintro e w' ⟨he, rfl⟩; exact ⟨he, Below.refl _ _⟩)
    | cons x t =>
      obtain ⟨ad, rfl, hx⟩ := hC.2.2 (by simp)
      have hcell : ∀ (j : Nat) y, (x :: t)[j]? = some y → w.cell? (ad.add j) = some (.string y) := by
        intro j y hy
        obtain ⟨cs, hl, hk, hcs⟩ := hx j y hy
        obtain rfl : cs = [.string y] := hk
        have := hcs 0 _ rfl
        simpa [Kd.string, Kd.scalar] using this
      have h0 := hcell 0 x rfl
      obtain ⟨bk, o, sp⟩ := ad
      obtain rfl : sp = none := by
        cases sp with
        | none => rfl
        | some k =>
          have h0' : w.cell? ⟨bk, o, some k⟩ = some (.string x) := by simpa [Addr.add] using h0
          unfold World.cell? at h0'
          simp only [Option.isSome_some, if_true] at h0'
          split at h0' <;> cases h0'
      have hadd : ∀ j, (⟨bk, o, none⟩ : Addr).add j = ⟨bk, o + j, none⟩ := by
        intro j
        unfold Addr.add
        split
        · next h => rw [h]; rfl
        · rfl
      exact Tryd.strings_Join bk o c (x :: t) ⟨#[32]⟩ w (fun j y hy => by rw [← hadd]; exact hcell j y hy) (cell_lt' (p := ⟨bk, o, none⟩) (by have := hcell 0 x rfl; rwa [hadd] at this)) (by omega) hc (by
        have e : (joinV (x :: t)).size = (Lib.join ((x :: t).map (·.data.toList)) [32]).length := by
          show (Lib.join _ _).toArray.size = _
          rw [List.size_toArray]
        show (Lib.join ((x :: t).map (·.data.toList)) [32]).length ≤ _
        omega)
  clear hC
  go_enter Tryd.func28, Tryd.ntmps28
  go_wp2_with (go_at_call 44; refine HJ.out.mono ?_; rintro e w' ⟨rfl, hb⟩)
  go_ret
  exact ⟨rfl, hb⟩
end Go.Proofs.YtnjjnfbkilgidaaDoor.Hand
/- recipe, plain: what a command lays, does, and what a script makes. -/
namespace Go.Proofs.YtnjjnfbkilgidaaDoor.Fr
open Go.RowKit Go.Proofs.YtnjjnfbkilgidaaDoor.F Go.Proofs.YtnjjnfbkilgidaaDoorW.PrintWords
open Go.Proofs.YtnjjnfbkilgidaaDoor.Hand (joinV wordsV)
set_option linter.unusedVariables false
set_option linter.unusedSimpArgs false
def nilB : ByteArray := ⟨#[]⟩
def wd (w : List ByteArray) (i : Nat) : ByteArray := w.getD i nilB
/-- concat's texts, one behind the other; none: one of them is not there. -/
def catV (own : List Ob) (ins : List Fi) : List ByteArray → ByteArray → Option ByteArray
  | [], acc => some acc
  | a :: r, acc => match fileV own ins a with | none => none | some s => catV own ins r (acc ++ s)
/-- What a command lays: a name, a text; does it not fail? -/
def laidV (own : List Ob) (ins : List Fi) (w : List ByteArray) : ByteArray × ByteArray × Bool :=
  let v := v0 w
  if v = [116, 114, 117, 101] then (nilB, nilB, true)
  else if v = [102, 97, 105, 108] then (nilB, nilB, false)
  else if v = [114, 109] then (nilB, nilB, (findF own (wd w 1)).isSome)
  else if v = [115, 97, 121] then (wd w 1, joinV (w.drop 2) ++ ⟨#[10]⟩, true)
  else if v = [109, 111, 114, 101] then (wd w 1, hadV own ins (wd w 1) ++ joinV (w.drop 2) ++ ⟨#[10]⟩, true)
  else if v = [116, 111, 117, 99, 104] then (wd w 1, hadV own ins (wd w 1), true)
  else if v = [99, 111, 110, 99, 97, 116] then (match catV own ins (w.drop 2) nilB with | none => (nilB, nilB, false) | some s => (wd w 1, s, true))
  else if v = [109, 118] then (wd w 2, hadV own ins (wd w 1), (findF own (wd w 1)).isSome)
  else match fileV own ins (wd w 1) with
    | none => (nilB, nilB, false)
    | some s =>
      if v = [115, 97, 109, 101] then (nilB, nilB, (fileV own ins (wd w 2)).isSome && (hadV own ins (wd w 2)).toList == s.toList)
      else if v = [104, 97, 115] then (nilB, nilB, Lib.contains s.data.toList (wd w 2).data.toList)
      else (wd w 2, turnedV v s, true)
/-- A verb without what stands ahead of it: '@', '-' (it may fail). -/
def verbV (v : List UInt8) : List UInt8 × Bool :=
  let v := if 1 < v.length ∧ v.head? = some 64 then v.drop 1 else v
  if 1 < v.length ∧ v.head? = some 45 then (v.drop 1, true) else (v, false)
/-- What is laid, on the bench: what is wrong (0: nothing), the bench behind, the fuel left. -/
def layV (own : List Ob) (fuel : Int) (may : Bool) (verb : List UInt8) (w : List ByteArray) (r : ByteArray × ByteArray × Bool) : Int × List Ob × Int :=
  if (!r.2.2 || decide (4000 < r.2.1.size)) = true then
    (if may = false then (11, own, fuel) else if fuel - 1 < 0 then (12, own, fuel - 1) else (0, own, fuel - 1))
  else if fuel - (1 + (r.2.1.size : Int) / 100) < 0 then (12, own, fuel - (1 + (r.2.1.size : Int) / 100))
  else (0, (fun o => if r.1.toList = [] then o else putF o ⟨r.1, r.2.1⟩) (if verb = [114, 109] ∨ verb = [109, 118] then dropF own (wd w 1) else own), fuel - (1 + (r.2.1.size : Int) / 100))
/-- A command's words, its verb without what stands ahead of it. -/
def cmdV (w0 : List ByteArray) : List ByteArray := (⟨(verbV (v0 w0)).1.toArray⟩ : ByteArray) :: w0.drop 1
/-- A command. -/
def doV (own : List Ob) (ins : List Fi) (fuel : Int) (w0 : List ByteArray) : Int × List Ob × Int :=
  if rightV (cmdV w0) = false then (2, own, fuel)
  else layV own fuel (verbV (v0 w0)).2 (verbV (v0 w0)).1 (cmdV w0) (laidV own ins (cmdV w0))
/-- A script, from a bench on: what is wrong, the bench behind, the fuel left. -/
def scriptV (ins : List Fi) : List ByteArray → List Ob → Int → Int × List Ob × Int
  | [], own, fuel => (0, own, fuel)
  | line :: r, own, fuel =>
    if wordsV line = [] then scriptV ins r own fuel
    else match doV own ins fuel (wordsV line) with
      | (e, own', fuel') => if e = 0 then scriptV ins r own' fuel' else (e, own', fuel')
/-- What a script ends with: what became of the target. -/
def endV (target : ByteArray) (r : Int × List Ob × Int) : ByteArray × Bool × Int :=
  if r.1 = 0 then (match findF r.2.1 target with | some f => (f.f1, true, 0) | none => (nilB, false, 0)) else (nilB, false, r.1)
/-- Run. -/
def runV (script : List ByteArray) (ins : List Fi) (target : ByteArray) (fuel : Int) : ByteArray × Bool × Int :=
  endV target (scriptV ins script [] (max (-1) (min fuel 10000)))
end Go.Proofs.YtnjjnfbkilgidaaDoor.Fr
/- recipe, plain: what holds of every script. -/
namespace Go.Proofs.YtnjjnfbkilgidaaDoor.Fr
open Go.RowKit Go.Proofs.YtnjjnfbkilgidaaDoor.F Go.Proofs.YtnjjnfbkilgidaaDoorW.PrintWords
open Go.Proofs.YtnjjnfbkilgidaaDoor.Hand (joinV wordsV wordsGo blank linesV linesGo)
set_option linter.unusedVariables false
set_option linter.unusedSimpArgs false
theorem scriptV_app (ins : List Fi) (b : List ByteArray) : ∀ (a : List ByteArray) (own : List Ob) (fuel : Int), scriptV ins (a ++ b) own fuel = if (scriptV ins a own fuel).1 = 0 then scriptV ins b (scriptV ins a own fuel).2.1 (scriptV ins a own fuel).2.2 else scriptV ins a own fuel := by
  intro a
  induction a with
  | nil => intro own fuel; rfl
  | cons x r ih =>
    intro own fuel
    rw [List.cons_append, scriptV, scriptV]
    by_cases h : wordsV x = []
    · rw [if_pos h, if_pos h]; exact ih own fuel
    · rw [if_neg h, if_neg h]
      generalize doV own ins fuel (wordsV x) = d
      obtain ⟨e, o, f⟩ := d
      by_cases he : e = 0
      · simp only [if_pos he]; exact ih o f
      · simp only [if_neg he]
theorem layV_fuel (own : List Ob) (fuel d : Int) (may : Bool) (verb : List UInt8) (w : List ByteArray) (r : ByteArray × ByteArray × Bool) (hd : 0 ≤ d) (h : (layV own fuel may verb w r).1 ≠ 12) :
    layV own (fuel + d) may verb w r = ((layV own fuel may verb w r).1, (layV own fuel may verb w r).2.1, (layV own fuel may verb w r).2.2 + d) := by
  unfold layV at h ⊢
  generalize (1 + (r.2.1.size : Int) / 100) = c at h ⊢
  by_cases h1 : (!r.2.2 || decide (4000 < r.2.1.size)) = true
  · simp only [if_pos h1] at h ⊢
    by_cases h2 : may = false
    · simp only [if_pos h2] at h ⊢
    · simp only [if_neg h2] at h ⊢
      by_cases h3 : fuel - 1 < 0
      · rw [if_pos h3] at h; exact absurd rfl h
      · rw [if_neg h3, if_neg (by omega)]
        simp only [Prod.mk.injEq, true_and]
        omega
  · simp only [if_neg h1] at h ⊢
    by_cases h3 : fuel - c < 0
    · rw [if_pos h3] at h; exact absurd rfl h
    · rw [if_neg h3, if_neg (by omega)]
      simp only [Prod.mk.injEq, true_and]
      omega
theorem doV_fuel (own : List Ob) (ins : List Fi) (fuel d : Int) (w : List ByteArray) (hd : 0 ≤ d) (h : (doV own ins fuel w).1 ≠ 12) :
    doV own ins (fuel + d) w = ((doV own ins fuel w).1, (doV own ins fuel w).2.1, (doV own ins fuel w).2.2 + d) := by
  unfold doV at h ⊢
  by_cases h1 : rightV (cmdV w) = false
  · simp only [if_pos h1]
  · simp only [if_neg h1] at h ⊢
    exact layV_fuel _ _ _ _ _ _ _ hd h
theorem scriptV_fuel (ins : List Fi) (d : Int) (hd : 0 ≤ d) : ∀ (l : List ByteArray) (own : List Ob) (fuel : Int), (scriptV ins l own fuel).1 ≠ 12 → scriptV ins l own (fuel + d) = ((scriptV ins l own fuel).1, (scriptV ins l own fuel).2.1, (scriptV ins l own fuel).2.2 + d) := by
  intro l
  induction l with
  | nil => intro own fuel _; rfl
  | cons x r ih =>
    intro own fuel h
    rw [scriptV] at h ⊢
    rw [scriptV]
    by_cases hx : wordsV x = []
    · rw [if_pos hx] at h ⊢; rw [if_pos hx]; exact ih own fuel h
    · rw [if_neg hx] at h ⊢
      rw [if_neg hx]
      have hf := doV_fuel own ins fuel d (wordsV x) hd
      generalize doV own ins fuel (wordsV x) = D at h hf ⊢
      obtain ⟨e, o, f⟩ := D
      by_cases he : e = 0
      · simp only [if_pos he] at h ⊢
        rw [hf (by show e ≠ 12; omega)]
        simp only [if_pos he]
        exact ih o f h
      · simp only [if_neg he] at h ⊢
        rw [hf h]
        simp only [if_neg he]
theorem layV_pos (own : List Ob) (fuel : Int) (may : Bool) (verb : List UInt8) (w : List ByteArray) (r : ByteArray × ByteArray × Bool) (h : (layV own fuel may verb w r).1 = 0) : 0 ≤ (layV own fuel may verb w r).2.2 := by
  unfold layV at h ⊢
  generalize (1 + (r.2.1.size : Int) / 100) = c at h ⊢
  by_cases h1 : (!r.2.2 || decide (4000 < r.2.1.size)) = true
  · simp only [if_pos h1] at h ⊢
    by_cases h2 : may = false
    · rw [if_pos h2] at h; cases h
    · simp only [if_neg h2] at h ⊢
      by_cases h3 : fuel - 1 < 0
      · rw [if_pos h3] at h; cases h
      · rw [if_neg h3]; show 0 ≤ fuel - 1; omega
  · simp only [if_neg h1] at h ⊢
    by_cases h3 : fuel - c < 0
    · rw [if_pos h3] at h; cases h
    · rw [if_neg h3]; show 0 ≤ fuel - c; omega
theorem scriptV_pos (ins : List Fi) : ∀ (l : List ByteArray) (own : List Ob) (fuel : Int), 0 ≤ fuel → (scriptV ins l own fuel).1 = 0 → 0 ≤ (scriptV ins l own fuel).2.2 := by
  intro l
  induction l with
  | nil => intro own fuel h _; exact h
  | cons x r ih =>
    intro own fuel h0 h
    rw [scriptV] at h ⊢
    by_cases hx : wordsV x = []
    · rw [if_pos hx] at h ⊢; exact ih own fuel h0 h
    · rw [if_neg hx] at h ⊢
      have hp : (doV own ins fuel (wordsV x)).1 = 0 → 0 ≤ (doV own ins fuel (wordsV x)).2.2 := by
        unfold doV
        by_cases h1 : rightV (cmdV (wordsV x)) = false
        · rw [if_pos h1]; intro h; cases h
        · rw [if_neg h1]; exact layV_pos _ _ _ _ _ _
      generalize doV own ins fuel (wordsV x) = D at h hp ⊢
      obtain ⟨e, o, f⟩ := D
      by_cases he : e = 0
      · simp only [if_pos he] at h ⊢
        exact ih o f (hp he) h
      · simp only [if_neg he] at h
        exact absurd h he
/-! #### Names -/
theorem insF_mem (f x : Ob) : ∀ l : List Ob, x ∈ insF f l → x = f ∨ x ∈ l := by
  intro l
  induction l with
  | nil => intro h; exact .inl (by simpa [insF] using h)
  | cons g r ih =>
    intro h
    rw [insF] at h
    split at h
    · rcases List.mem_cons.1 h with h | h
      · exact .inl h
      · exact .inr h
    · rcases List.mem_cons.1 h with h | h
      · exact .inr (by rw [h]; exact List.mem_cons_self ..)
      · rcases ih h with h | h
        · exact .inl h
        · exact .inr (List.mem_cons_of_mem _ h)
theorem putF_mem (f x : Ob) (l : List Ob) (h : x ∈ putF l f) : x = f ∨ x ∈ l := (insF_mem f x _ h).imp id fun h => (List.mem_filter.1 h).1
theorem dropF_mem (p : ByteArray) (x : Ob) (l : List Ob) (h : x ∈ dropF l p) : x ∈ l := (List.mem_filter.1 h).1
theorem layV_own (own : List Ob) (fuel : Int) (may : Bool) (verb : List UInt8) (w : List ByteArray) (r : ByteArray × ByteArray × Bool) (x : Ob) (h : x ∈ (layV own fuel may verb w r).2.1) :
    x ∈ own ∨ (x.f0 = r.1 ∧ r.1.toList ≠ [] ∧ x.f1.size ≤ 4000) := by
  unfold layV at h
  generalize (1 + (r.2.1.size : Int) / 100) = c at h
  by_cases h1 : (!r.2.2 || decide (4000 < r.2.1.size)) = true
  · simp only [if_pos h1] at h
    refine .inl ?_
    split at h
    · exact h
    · split at h <;> exact h
  · simp only [if_neg h1] at h
    split at h
    · exact .inl h
    · have hs : r.2.1.size ≤ 4000 := by
        cases hr : r.2.2 <;> simp [hr] at h1
        omega
      have hd : ∀ x, x ∈ (if verb = [114, 109] ∨ verb = [109, 118] then dropF own (wd w 1) else own) → x ∈ own := fun x hx => by
        split at hx
        · exact dropF_mem _ _ _ hx
        · exact hx
      generalize (if verb = [114, 109] ∨ verb = [109, 118] then dropF own (wd w 1) else own) = o at h hd
      by_cases hn : r.1.toList = []
      · simp only [if_pos hn] at h; exact .inl (hd x h)
      · simp only [if_neg hn] at h
        rcases putF_mem _ _ _ h with rfl | h
        · exact .inr ⟨rfl, hn, hs⟩
        · exact .inl (hd x h)
theorem wd_lt {w : List ByteArray} {i : Nat} (h : i < w.length) : wd w i = w[i] := by unfold wd; rw [List.getD_eq_getElem?_getD, List.getElem?_eq_getElem h, Option.getD_some]
/-- What a command of right words may be. -/
theorem names_cases (v : List UInt8) (n : Int) (h : 0 ≤ namesL v n) :
    ((v = [99, 111, 112, 121] ∨ v = [117, 112, 112, 101, 114] ∨ v = [108, 111, 119, 101, 114] ∨ v = [114, 101, 118, 101, 114, 115, 101] ∨ v = [115, 111, 114, 116] ∨ v = [109, 118] ∨ v = [115, 97, 109, 101]) ∧ n = 2 ∧ namesL v n = 2)
    ∨ (v = [104, 97, 115] ∧ n = 2 ∧ namesL v n = 1) ∨ (v = [99, 111, 110, 99, 97, 116] ∧ 2 ≤ n ∧ namesL v n = n)
    ∨ ((v = [115, 97, 121] ∨ v = [109, 111, 114, 101]) ∧ 1 ≤ n ∧ namesL v n = 1) ∨ ((v = [116, 111, 117, 99, 104] ∨ v = [114, 109]) ∧ n = 1 ∧ namesL v n = 1)
    ∨ ((v = [116, 114, 117, 101] ∨ v = [102, 97, 105, 108]) ∧ n = 0 ∧ namesL v n = 0) := by
  by_cases a1 : v = [99, 111, 112, 121]
  · subst a1; by_cases hn : n = 2
    · subst hn; exact .inl ⟨by simp, rfl, rfl⟩
    · simp [namesL, hn] at h
  by_cases a2 : v = [117, 112, 112, 101, 114]
  · subst a2; by_cases hn : n = 2
    · subst hn; exact .inl ⟨by simp, rfl, rfl⟩
    · simp [namesL, hn] at h
  by_cases a3 : v = [108, 111, 119, 101, 114]
  · subst a3; by_cases hn : n = 2
    · subst hn; exact .inl ⟨by simp, rfl, rfl⟩
    · simp [namesL, hn] at h
  by_cases a4 : v = [114, 101, 118, 101, 114, 115, 101]
  · subst a4; by_cases hn : n = 2
    · subst hn; exact .inl ⟨by simp, rfl, rfl⟩
    · simp [namesL, hn] at h
  by_cases a5 : v = [115, 111, 114, 116]
  · subst a5; by_cases hn : n = 2
    · subst hn; exact .inl ⟨by simp, rfl, rfl⟩
    · simp [namesL, hn] at h
  by_cases a6 : v = [109, 118]
  · subst a6; by_cases hn : n = 2
    · subst hn; exact .inl ⟨by simp, rfl, rfl⟩
    · simp [namesL, hn] at h
  by_cases a7 : v = [115, 97, 109, 101]
  · subst a7; by_cases hn : n = 2
    · subst hn; exact .inl ⟨by simp, rfl, rfl⟩
    · simp [namesL, hn] at h
  by_cases a8 : v = [104, 97, 115]
  · subst a8; by_cases hn : n = 2
    · subst hn; exact .inr (.inl ⟨rfl, rfl, rfl⟩)
    · simp [namesL, hn] at h
  by_cases a9 : v = [99, 111, 110, 99, 97, 116]
  · subst a9; by_cases hn : n ≥ 2
    · exact .inr (.inr (.inl ⟨rfl, hn, by simp [namesL, hn]⟩))
    · simp [namesL, hn] at h
  by_cases a10 : v = [115, 97, 121]
  · subst a10; by_cases hn : n ≥ 1
    · exact .inr (.inr (.inr (.inl ⟨by simp, hn, by simp [namesL, hn]⟩)))
    · simp [namesL, hn] at h
  by_cases a11 : v = [109, 111, 114, 101]
  · subst a11; by_cases hn : n ≥ 1
    · exact .inr (.inr (.inr (.inl ⟨by simp, hn, by simp [namesL, hn]⟩)))
    · simp [namesL, hn] at h
  by_cases a12 : v = [116, 111, 117, 99, 104]
  · subst a12; by_cases hn : n = 1
    · subst hn; exact .inr (.inr (.inr (.inr (.inl ⟨by simp, rfl, rfl⟩))))
    · simp [namesL, hn] at h
  by_cases a13 : v = [114, 109]
  · subst a13; by_cases hn : n = 1
    · subst hn; exact .inr (.inr (.inr (.inr (.inl ⟨by simp, rfl, rfl⟩))))
    · simp [namesL, hn] at h
  by_cases a14 : v = [116, 114, 117, 101]
  · subst a14; by_cases hn : n = 0
    · subst hn; exact .inr (.inr (.inr (.inr (.inr ⟨by simp, rfl, rfl⟩))))
    · simp [namesL, hn] at h
  by_cases a15 : v = [102, 97, 105, 108]
  · subst a15; by_cases hn : n = 0
    · subst hn; exact .inr (.inr (.inr (.inr (.inr ⟨by simp, rfl, rfl⟩))))
    · simp [namesL, hn] at h
  simp [namesL, a1, a2, a3, a4, a5, a6, a7, a8, a9, a10, a11, a12, a13, a14, a15] at h
theorem right_at {w : List ByteArray} (h : rightV w = true) {i : Nat} (h1 : 1 ≤ i) (hi : (i : Int) ≤ namesV w) (hw : i < w.length) : pathV w[i] = true ∧ w[i] ∈ w.drop 1 := by
  unfold rightV at h
  rw [Bool.and_eq_true] at h
  have hm : w[i] ∈ (w.drop 1).take (namesV w).toNat := by
    rw [List.mem_take_iff_getElem]
    refine ⟨i - 1, by rw [List.length_drop]; omega, ?_⟩
    rw [List.getElem_drop]
    congr 1
    omega
  exact ⟨List.all_eq_true.1 h.2 _ hm, List.mem_of_mem_take hm⟩
theorem right_names {w : List ByteArray} (h : rightV w = true) : 0 ≤ namesV w := by
  unfold rightV at h
  rw [Bool.and_eq_true] at h
  exact of_decide_eq_true h.1
theorem nilB_list : nilB.toList = [] := by rw [ByteArray.toList_eq]; rfl
theorem laidV_name (own : List Ob) (ins : List Fi) (w : List ByteArray) (h : rightV w = true) : (laidV own ins w).1 = nilB ∨ ((laidV own ins w).1 ∈ w.drop 1 ∧ pathV (laidV own ins w).1 = true) := by
  have hn := right_names h
  have c := names_cases _ _ hn
  have W1 : 1 ≤ namesV w → 1 < w.length → pathV (wd w 1) = true ∧ wd w 1 ∈ w.drop 1 := fun a b => by rw [wd_lt b]; exact right_at h (Nat.le_refl _) a b
  have W2 : 2 ≤ namesV w → 2 < w.length → pathV (wd w 2) = true ∧ wd w 2 ∈ w.drop 1 := fun a b => by rw [wd_lt b]; exact right_at h (by decide) a b
  have hv : namesV w = namesL (v0 w) ((w.length : Int) - 1) := rfl
  unfold laidV
  generalize hvv : v0 w = v at c hv
  rw [hv] at W1 W2 hn
  clear hv hvv
  have hq : ∀ (q : ByteArray) (l : List ByteArray), pathV q = true ∧ q ∈ l → q = nilB ∨ (q ∈ l ∧ pathV q = true) := fun q l h => .inr ⟨h.2, h.1⟩
  rcases c with ⟨c, hl, e⟩ | ⟨c, hl, e⟩ | ⟨c, hl, e⟩ | ⟨c, hl, e⟩ | ⟨c, hl, e⟩ | ⟨c, hl, e⟩
  · have w2 := W2 (by omega) (by omega)
    rcases c with c | c | c | c | c | c | c <;> subst c <;> simp only [reduceIte, List.cons.injEq, reduceCtorEq, and_true, and_false, false_and, true_and] <;> first | exact hq _ _ w2 | skip
    all_goals
      repeat' split
      all_goals first | exact .inl rfl | exact hq _ _ w2 | simp_all
  · subst c
    simp only [reduceIte, List.cons.injEq, reduceCtorEq, and_true, and_false, false_and, true_and]
    repeat' split
    all_goals first | exact .inl rfl | simp_all
  · have w1 := W1 (by omega) (by omega)
    subst c
    simp only [reduceIte, List.cons.injEq, reduceCtorEq, and_true, and_false, false_and, true_and]
    repeat' split
    all_goals first | exact .inl rfl | exact hq _ _ w1 | simp_all
  · have w1 := W1 (by omega) (by omega)
    rcases c with c | c <;> subst c <;> simp only [reduceIte, List.cons.injEq, reduceCtorEq, and_true, and_false, false_and, true_and]
    all_goals
      repeat' split
      all_goals first | exact .inl rfl | exact hq _ _ w1 | simp_all
  · have w1 := W1 (by omega) (by omega)
    rcases c with c | c <;> subst c <;> simp only [reduceIte, List.cons.injEq, reduceCtorEq, and_true, and_false, false_and, true_and]
    all_goals
      repeat' split
      all_goals first | exact .inl rfl | exact hq _ _ w1 | simp_all
  · rcases c with c | c <;> subst c <;> simp only [reduceIte, List.cons.injEq, reduceCtorEq, and_true, and_false, false_and, true_and]
    all_goals
      repeat' split
      all_goals first | exact .inl rfl | simp_all
theorem cmdV_drop (w0 : List ByteArray) : (cmdV w0).drop 1 = w0.drop 1 := rfl
/-- Each name of a bench is a path, and has what P says; each text is short. -/
def OwnP (P : ByteArray → Prop) (own : List Ob) : Prop := ∀ f ∈ own, pathV f.f0 = true ∧ P f.f0 ∧ f.f1.size ≤ 4000
theorem doV_own (P : ByteArray → Prop) (own : List Ob) (ins : List Fi) (fuel : Int) (w : List ByteArray) (h : OwnP P own) (hP : ∀ x ∈ w.drop 1, P x) : OwnP P (doV own ins fuel w).2.1 := by
  unfold doV
  by_cases h1 : rightV (cmdV w) = false
  · rw [if_pos h1]; exact h
  · rw [if_neg h1]
    intro f hf
    have hr : rightV (cmdV w) = true := by simpa using h1
    rcases layV_own _ _ _ _ _ _ _ hf with hf | ⟨e, hne, hs⟩
    · exact h f hf
    · rcases laidV_name own ins _ hr with h2 | ⟨h2, h3⟩
      · exact absurd (by rw [h2]; exact nilB_list) hne
      · rw [e]
        exact ⟨h3, hP _ (by rw [← cmdV_drop]; exact h2), hs⟩
theorem scriptV_own (P : ByteArray → Prop) (ins : List Fi) : ∀ (l : List ByteArray) (own : List Ob) (fuel : Int), OwnP P own → (∀ s ∈ l, ∀ x ∈ wordsV s, P x) → OwnP P (scriptV ins l own fuel).2.1 := by
  intro l
  induction l with
  | nil => intro own fuel h _; exact h
  | cons x r ih =>
    intro own fuel h hP
    rw [scriptV]
    by_cases hx : wordsV x = []
    · rw [if_pos hx]; exact ih own fuel h fun s hs => hP s (List.mem_cons_of_mem _ hs)
    · rw [if_neg hx]
      have hd := doV_own P own ins fuel (wordsV x) h fun y hy => hP x (List.mem_cons_self ..) y (List.mem_of_mem_drop hy)
      generalize doV own ins fuel (wordsV x) = D at hd ⊢
      obtain ⟨e, o, f⟩ := D
      by_cases he : e = 0
      · simp only [if_pos he]; exact ih o f hd fun s hs => hP s (List.mem_cons_of_mem _ hs)
      · simp only [if_neg he]; exact hd
theorem findF_mem {own : List Ob} {p : ByteArray} {f : Ob} (h : findF own p = some f) : f ∈ own ∧ f.f0.data.toList = p.data.toList := by
  unfold findF at h
  exact ⟨List.mem_of_find?_eq_some h, by simpa using List.find?_some h⟩
/-! #### A file that no command names -/
theorem fileV_cons (own : List Ob) (ins : List Fi) (g : Fi) (p : ByteArray) (h : g.f0.toList ≠ p.toList) : fileV own (g :: ins) p = fileV own ins p := by
  unfold fileV inV
  rw [List.find?_cons]
  have : (g.f0.toList == p.toList) = false := beq_eq_false_iff_ne.2 h
  rw [this]
theorem hadV_cons (own : List Ob) (ins : List Fi) (g : Fi) (p : ByteArray) (h : g.f0.toList ≠ p.toList) : hadV own (g :: ins) p = hadV own ins p := by
  unfold hadV
  rw [fileV_cons _ _ _ _ h]
theorem catV_cons (own : List Ob) (ins : List Fi) (g : Fi) : ∀ (l : List ByteArray) (acc : ByteArray), (∀ x ∈ l, g.f0.toList ≠ x.toList) → catV own (g :: ins) l acc = catV own ins l acc := by
  intro l
  induction l with
  | nil => intro acc _; rfl
  | cons x r ih =>
    intro acc h
    rw [catV, catV, fileV_cons _ _ _ _ (h x (List.mem_cons_self ..))]
    cases fileV own ins x with
    | none => rfl
    | some s => exact ih _ fun y hy => h y (List.mem_cons_of_mem _ hy)
theorem laidV_cons (own : List Ob) (ins : List Fi) (g : Fi) (w : List ByteArray) (hg : g.f0.toList ≠ []) (h : ∀ x ∈ w.drop 1, g.f0.toList ≠ x.toList) : laidV own (g :: ins) w = laidV own ins w := by
  have hw : ∀ i, 1 ≤ i → g.f0.toList ≠ (wd w i).toList := fun i h1 => by
    by_cases hi : i < w.length
    · rw [wd_lt hi]
      refine h _ ?_
      rw [List.mem_drop_iff_getElem]
      exact ⟨i - 1, by omega, by congr 1; omega⟩
    · have : wd w i = nilB := by unfold wd; rw [List.getD_eq_getElem?_getD, List.getElem?_eq_none (by omega)]; rfl
      rw [this, nilB_list]
      exact hg
  have hc := catV_cons own ins g (w.drop 2) nilB fun x hx => h x (by
    have : w.drop 2 = (w.drop 1).drop 1 := by rw [List.drop_drop]
    rw [this] at hx
    exact List.mem_of_mem_drop hx)
  unfold laidV
  rw [fileV_cons _ _ _ _ (hw 1 (by decide)), fileV_cons _ _ _ _ (hw 2 (by decide)), hadV_cons _ _ _ _ (hw 1 (by decide)), hadV_cons _ _ _ _ (hw 2 (by decide)), hc]
theorem scriptV_cons (ins : List Fi) (g : Fi) (hg : g.f0.toList ≠ []) : ∀ (l : List ByteArray) (own : List Ob) (fuel : Int), (∀ s ∈ l, ∀ x ∈ wordsV s, g.f0.toList ≠ x.toList) → scriptV (g :: ins) l own fuel = scriptV ins l own fuel := by
  intro l
  induction l with
  | nil => intro own fuel _; rfl
  | cons x r ih =>
    intro own fuel h
    rw [scriptV, scriptV]
    have hd : doV own (g :: ins) fuel (wordsV x) = doV own ins fuel (wordsV x) := by
      unfold doV
      rw [laidV_cons own ins g _ hg fun y hy => h x (List.mem_cons_self ..) y (List.mem_of_mem_drop (by rw [← cmdV_drop]; exact hy))]
    rw [hd]
    by_cases hx : wordsV x = []
    · rw [if_pos hx, if_pos hx]; exact ih own fuel fun s hs => h s (List.mem_cons_of_mem _ hs)
    · rw [if_neg hx, if_neg hx]
      generalize doV own ins fuel (wordsV x) = D
      obtain ⟨e, o, f⟩ := D
      by_cases he : e = 0
      · simp only [if_pos he]; exact ih o f fun s hs => h s (List.mem_cons_of_mem _ hs)
      · simp only [if_neg he]
/-! #### A word stands in its line -/
theorem wordsGo_infix : ∀ (s cur : List UInt8) (x : List UInt8), x ∈ wordsGo cur s → x <:+: cur.reverse ++ s := by
  intro s
  induction s with
  | nil =>
    intro cur x h
    rw [wordsGo] at h
    split at h
    · cases h
    · rw [List.mem_singleton.1 h, List.append_nil]; exact List.infix_refl _
  | cons c t ih =>
    intro cur x h
    rw [wordsGo] at h
    split at h
    · split at h
      · exact (ih [] x h).trans ⟨cur.reverse ++ [c], [], by simp⟩
      · rcases List.mem_cons.1 h with h | h
        · rw [h]; exact ⟨[], c :: t, by simp⟩
        · exact (ih [] x h).trans ⟨cur.reverse ++ [c], [], by simp⟩
    · have := ih (c :: cur) x h
      simpa using this
theorem wordsV_infix (s x : ByteArray) (h : x ∈ wordsV s) : x.data.toList <:+: s.data.toList := by
  unfold wordsV at h
  obtain ⟨y, hy, rfl⟩ := List.mem_map.1 h
  have := wordsGo_infix _ _ _ hy
  simpa [Hand.bytesOf] using this
end Go.Proofs.YtnjjnfbkilgidaaDoor.Fr
/- recipe: what Run gives, in bounds. -/
namespace Go.Proofs.YtnjjnfbkilgidaaDoor.Fr
open Go.RowKit Go.Proofs.YtnjjnfbkilgidaaDoor.F Go.Proofs.YtnjjnfbkilgidaaDoorW.PrintWords
def recipe_Run.f (l0 : List ByteArray) (l1 : List Fi) (a2 : ByteArray) (a3 : Int) : Option (ByteArray × Bool × Int) :=
  if (decide (l0.length ≤ 100) && (l0.all fun x => decide (x.size ≤ 8000)) && decide (l1.length ≤ 100) && (l1.all fun f => decide (f.f1.size ≤ 10000)) && decide (a2.size ≤ 1000)) = true then some (runV l0 l1 a2 a3) else none
end Go.Proofs.YtnjjnfbkilgidaaDoor.Fr
/- Plain: a measure of steps; numbers; texts; what Run gives. -/
namespace Go.Proofs.YtnjjnfbkilgidaaDoor.Pure
open Go.RowKit Go.Proofs.YtnjjnfbkilgidaaDoor.F Go.Proofs.YtnjjnfbkilgidaaDoor.Fr Go.Proofs.YtnjjnfbkilgidaaDoorW.PrintWords
open Go.Proofs.YtnjjnfbkilgidaaDoor.Hand (joinV wordsV wordsGo blank linesV linesGo ba_ext)
set_option linter.unusedVariables false
set_option linter.unusedSimpArgs false
theorem w64 {x : Int} (h0 : -9223372036854775808 ≤ x) (h1 : x ≤ 9223372036854775807) : wrap64 x = x := by unfold wrap64; omega
theorem w64s (i : Nat) (h : i ≤ 100000000000) : wrap64 ((i : Int) + 1) = ((i + 1 : Nat) : Int) := by rw [w64 (by omega) (by omega)]; omega
/-- From some measure of steps on. -/
def Ev (p : Nat → Prop) : Prop := ∃ k0, ∀ k, k0 ≤ k → p k
theorem Ev.of {p : Nat → Prop} (h : ∀ k, p k) : Ev p := ⟨0, fun k _ => h k⟩
theorem Ev.and {p q : Nat → Prop} : Ev p → Ev q → Ev fun k => p k ∧ q k := fun ⟨a, ha⟩ ⟨b, hb⟩ => ⟨max a b, fun k hk => ⟨ha k (by omega), hb k (by omega)⟩⟩
theorem Ev.mp {p q : Nat → Prop} (h : Ev p) (hi : ∀ k, p k → q k) : Ev q := let ⟨a, ha⟩ := h; ⟨a, fun k hk => hi k (ha k hk)⟩
theorem Ev.up {p : Nat → Prop} (h : Ev fun k => p (k + 1)) : Ev p := by
  obtain ⟨a, ha⟩ := h
  refine ⟨a + 1, fun k hk => ?_⟩
  obtain ⟨j, rfl⟩ : ∃ j, k = j + 1 := ⟨k - 1, by omega⟩
  exact ha j (by omega)
theorem Ev.get {p : Nat → Prop} (h : Ev p) : ∃ k, p k := let ⟨a, ha⟩ := h; ⟨a, ha a (Nat.le_refl _)⟩
theorem rdo {l : List ByteArray} {i : Nat} (h : i < l.length) : rdOf ByteArray.empty l (i : Int) = l[i] := by
  simp [rdOf, List.getD_eq_getElem?_getD, List.getElem?_eq_getElem h]
theorem tl (s : ByteArray) : s.toList = s.data.toList := ByteArray.toList_eq s
theorem tl_inj {a b : ByteArray} (h : a.toList = b.toList) : a = b := ba_ext (by rw [← tl, ← tl]; exact h)
theorem len_data (s : ByteArray) : s.data.toList.length = s.size := by rw [Array.length_toList]; rfl
theorem bt_nat (s : ByteArray) (i : Nat) (h : i < s.data.toList.length) : bt s (i : Int) = ((s.data.toList[i]).toNat : Int) := by
  have h' : i < s.data.size := by simpa using h
  unfold bt
  rw [dif_pos (by simpa using h')]
  simp [ByteArray.getElem_eq_getElem_data]
theorem data_app (s t : ByteArray) : (s ++ t).data.toList = s.data.toList ++ t.data.toList := by
  simp [ByteArray.data_append, Array.toList_append]
/-! #### A text that stands in another one -/
theorem seg_at (x : ByteArray) (a b : Nat) : (x.extract a b).toList = (x.data.toList.take b).drop a := by
  rw [tl]
  simp [ByteArray.data_extract, Array.toList_extract, List.extract_eq_take_drop, List.drop_take]
theorem infix_at {p s : List UInt8} (h : p <:+: s) : ∃ j, j + p.length ≤ s.length ∧ (s.take (j + p.length)).drop j = p := by
  obtain ⟨a, b, rfl⟩ := h
  refine ⟨a.length, by simp, ?_⟩
  rw [show a.length + p.length = (a ++ p).length by simp, List.take_left, List.drop_left]
theorem infix_of {p s : List UInt8} {j : Nat} (hj : j + p.length ≤ s.length) (h : (s.take (j + p.length)).drop j = p) : p <:+: s := by
  refine ⟨s.take j, s.drop (j + p.length), ?_⟩
  have e : s.take j ++ p = s.take (j + p.length) := by
    conv => lhs; rw [← h]
    have := List.take_append_drop j (s.take (j + p.length))
    rw [List.take_take, Nat.min_eq_left (by omega)] at this
    exact this
  rw [e, List.take_append_drop]
/-! #### Run -/
theorem run_ok (l : List ByteArray) (ins : List Fi) (t : ByteArray) (fuel : Int) (hl : l.length ≤ 100) (hx : ∀ x ∈ l, x.size ≤ 8000) (hi : ins.length ≤ 100) (hy : ∀ f ∈ ins, f.f1.size ≤ 10000) (ht : t.size ≤ 1000) : recipe_Run.f l ins t fuel = some (runV l ins t fuel) := by
  unfold recipe_Run.f
  rw [if_pos]
  rw [Bool.and_eq_true, Bool.and_eq_true, Bool.and_eq_true, Bool.and_eq_true, List.all_eq_true, List.all_eq_true]
  exact ⟨⟨⟨⟨decide_eq_true hl, fun x h => decide_eq_true (hx x h)⟩, decide_eq_true hi⟩, fun f h => decide_eq_true (hy f h)⟩, decide_eq_true ht⟩
end Go.Proofs.YtnjjnfbkilgidaaDoor.Pure
namespace Go.Proofs.YtnjjnfbkilgidaaDoor.K
open Go.Proofs.YtnjjnfbkilgidaaDoor.F (S31 at_T31 errW errW_none errW_some k31 k31_mk k31_mkM k31_open k31_openM rd_T31 z31)
open Go.RowKit Go.Proofs.YtnjjnfbkilgidaaDoorW.PrintWords Go.Proofs.YtnjjnfbkilgidaaDoorW.PrintLast Go.Proofs.YtnjjnfbkilgidaaDoorW.PrintMore
attribute [local go_sem] max2_int min2_int max_two min_two max_three min_three max_four min_four   -- for this text's walks alone
set_option linter.unusedVariables false
set_option linter.unusedSimpArgs false
theorem info9 : (Tryd.prog.info? 9).map (fun i => (i.zero, i.size, i.bytes)) = some (some (.string ⟨#[]⟩), 1, 16) := by kernel_rfl
theorem info31 : (Tryd.prog.info? 31).map (fun i => (i.zero, i.size, i.bytes)) = some (some (.agg #[(.string ⟨#[]⟩), (.string ⟨#[]⟩)]), 2, 32) := by kernel_rfl
end Go.Proofs.YtnjjnfbkilgidaaDoor.K
/- recipe: what a command lays, walked. -/
namespace Go.Proofs.YtnjjnfbkilgidaaDoor.Fr
open Go.RowKit Go.Proofs.YtnjjnfbkilgidaaDoor.F Go.Proofs.YtnjjnfbkilgidaaDoorW.PrintWords
open Go.Proofs.YtnjjnfbkilgidaaDoor.Hand (joinV wordsV join_walk)
set_option linter.unusedVariables false
set_option linter.unusedSimpArgs false
def LaidEnd (W : World) (r : ByteArray × ByteArray × Bool) (e : Ending) (w' : World) : Prop := e = .returned (.tuple #[.string r.1, .string r.2.1, .bool r.2.2]) ∧ Below W.heap.size W w'
/-- What laid is called with. -/
structure LIn (W : World) (b mb : Nat) (φ : Phi) (A : Option Addr) (c : Nat) (own : List Ob) (ins : List Fi) (fuel : Int) (Aw : Option Addr) (cw : Nat) (w : List ByteArray) : Prop where
  h : BnAt W b mb φ A c own ins fuel
  C : Kd.C Kd.string W Aw w.length w
  cap : w.length ≤ cw
  len : w.length ≤ 9001
  ws : ∀ x ∈ w, x.size ≤ 9000
  gl : Gl W
  own : ∀ f ∈ own, f.f1.size ≤ 10000
  ins : ∀ f ∈ ins, f.f1.size ≤ 10000
def catR (y : ByteArray) : Option ByteArray → ByteArray × ByteArray × Bool | none => (nilB, nilB, false) | some s => (y, s, true)
theorem catV_at (own : List Ob) (ins : List Fi) (a : ByteArray) (r : List ByteArray) (acc : ByteArray) : catV own ins (a :: r) acc = match fileV own ins a with | none => none | some s => catV own ins r (acc ++ s) := by
  rw [catV]
  all_goals cases fileV own ins a <;> rfl
theorem wd_at {w : List ByteArray} {i : Nat} (h : i < w.length) : wd w i = w[i] := by unfold wd; rw [List.getD_eq_getElem?_getD, List.getElem?_eq_getElem h, Option.getD_some]
theorem file_size {own : List Ob} {ins : List Fi} (h1 : ∀ f ∈ own, f.f1.size ≤ 10000) (h2 : ∀ f ∈ ins, f.f1.size ≤ 10000) (p : ByteArray) : ∀ s, fileV own ins p = some s → s.size ≤ 10000 := by
  intro s h
  unfold fileV at h
  cases hf : findF own p with
  | some f => rw [hf] at h; injection h with h; subst h; exact h1 f (List.mem_of_find?_eq_some hf)
  | none =>
    rw [hf] at h
    unfold inV at h
    obtain ⟨f, hf2, e⟩ := Option.map_eq_some_iff.1 h
    subst e
    exact h2 f (List.mem_of_find?_eq_some hf2)
theorem had_size {own : List Ob} {ins : List Fi} (h1 : ∀ f ∈ own, f.f1.size ≤ 10000) (h2 : ∀ f ∈ ins, f.f1.size ≤ 10000) (p : ByteArray) : (hadV own ins p).size ≤ 10000 := by
  unfold hadV
  cases h : fileV own ins p with
  | none => show (0 : Nat) ≤ _; omega
  | some s => exact file_size h1 h2 p s h
theorem joinV_le (l : List ByteArray) (hl : l.length ≤ 9001) (hx : ∀ x ∈ l, x.size ≤ 9000) : (joinV l).size ≤ 90000000 := by
  unfold joinV
  show (Lib.join (l.map (·.data.toList)) [32]).toArray.size ≤ _
  rw [List.size_toArray]
  cases l with
  | nil => simp [Lib.join]
  | cons x r =>
    rw [List.map_cons, Lib.join_length]
    have h1 := lens_le 9000 ((x :: r).map (·.data.toList)) (fun y hy => by
      obtain ⟨z, hz, rfl⟩ := List.mem_map.1 hy
      have := hx z hz
      rw [Array.length_toList]
      exact this)
    simp only [List.length_map, List.map_cons, List.length_cons, List.length_nil] at h1 hl ⊢
    have e : (r.length + 1) * 9000 = 9000 * r.length + 9000 := by omega
    rw [e] at h1
    omega
section
variable {W : World} {b mb c cw : Nat} {φ : Phi} {A Aw : Option Addr} {own : List Ob} {ins : List Fi} {fuel : Int} {w : List ByteArray}
theorem LIn.below (h : LIn W b mb φ A c own ins fuel Aw cw w) {W' : World} (hb : Below W.heap.size W W') : LIn W' b mb φ A c own ins fuel Aw cw w :=
  ⟨h.h.below hb, Kd.C_below h.C hb, h.cap, h.len, h.ws, h.gl.below hb, h.own, h.ins⟩
theorem LIn.had (h : LIn W b mb φ A c own ins fuel Aw cw w) (y : ByteArray) (hy : y.size ≤ 100000) : ∀ W', Below W.heap.size W W' → Calls Tryd.prog 29 #[.pointer (some ⟨b, 0, none⟩), .string y] W' fun e w' => e = .returned (.string (hadV own ins y)) ∧ Below W'.heap.size W' w' :=
  fun W' hb => had_call (h.h.below hb) y hy
theorem LIn.join (h : LIn W b mb φ A c own ins fuel Aw cw w) (h2 : 2 ≤ w.length) : ∀ W', Below W.heap.size W W' → ∀ (A' : Option Addr) (k c' : Nat), A' = (if cw = 2 then Aw else Option.map (fun x => x.add (2 * Kd.string.sz)) Aw) → k = w.length - 2 → c' = cw - 2 → Calls Tryd.prog 28 #[.slice A' k c'] W' fun e w' => e = .returned (.string (joinV (w.drop 2))) ∧ Below W'.heap.size W' w' := by
  intro W' hb A' k c' e1 e2 e3
  have hA := Kd.C_below (Kd.C_drop h.C (m := 2) h2 h.cap) hb
  have e : (w.drop 2).length = w.length - 2 := List.length_drop
  rw [← e1] at hA
  rw [e2, ← e]
  have hcap := h.cap
  have hlen := h.len
  exact join_walk A' c' (w.drop 2) W' hA (by omega) (by omega) (by have := joinV_le (w.drop 2) (by omega) (fun x hx => h.ws x (List.mem_of_mem_drop hx)); omega)

theorem LIn.looks (h : LIn W b mb φ A c own ins fuel Aw cw w) (y : ByteArray) (hy : y.size ≤ 100000) {f : Ob} (hf : findF own y = some f) : ∃ qo : World → Nat, ∀ W', Below W.heap.size W W' → (Instr.lookup 37 (.map (some mb)) (.string y) false).run Tryd.prog W' = .ok (.pointer (some ⟨qo W', 0, none⟩)) W' :=
  (Classical.skolem (p := fun (W' : World) (q : Nat) => Below W.heap.size W W' → (Instr.lookup 37 (.map (some mb)) (.string y) false).run Tryd.prog W' = .ok (.pointer (some ⟨q, 0, none⟩)) W')).1 fun W' => by
    by_cases hb : Below W.heap.size W W'
    · obtain ⟨q, hrun, _⟩ := (h.h.below hb).img.look hy hf
      exact ⟨q, fun _ => hrun⟩
    · exact ⟨0, fun h => absurd h hb⟩
theorem LIn.misses (h : LIn W b mb φ A c own ins fuel Aw cw w) (y : ByteArray) (hy : y.size ≤ 100000) (hf : findF own y = none) : ∀ W', Below W.heap.size W W' → (Instr.lookup 37 (.map (some mb)) (.string y) false).run Tryd.prog W' = .ok (.pointer none) W' :=
  fun W' hb => (h.h.below hb).img.look_none hy hf
set_option maxHeartbeats 4000000 in
set_option maxRecDepth 100000 in
theorem laid_true (h : LIn W b mb φ A c own ins fuel Aw cw w) (h0 : 0 < w.length) (hv : v0 w = [116, 114, 117, 101]) :
    Calls Tryd.prog 19 #[.pointer (some ⟨b, 0, none⟩), .slice Aw w.length cw] W (LaidEnd W (laidV own ins w)) := by
  have hr : laidV own ins w = (nilB, nilB, true) := by unfold laidV; rw [hv]; first | rfl | (show (match catV own ins (w.drop 2) nilB with | none => (nilB, nilB, false) | some s => (wd w 1, s, true)) = _; cases catV own ins (w.drop 2) nilB <;> rfl)
  rw [hr]
  have hcw := h.cap
  have hI0 : (0 : Int) < (w.length : Int) := by omega
  have hN0 : 0 < w.length := by omega
  have hIc : (w.length : Int) ≤ (cw : Int) := by omega
  obtain ⟨ad, e, hat⟩ := strs_at h.C (k := 0) (by omega)
  subst e
  have hx : w[0].toList = [116, 114, 117, 101] := by
    have e : v0 w = w[0].toList := by unfold v0; rw [show (0 : Int) = ((0 : Nat) : Int) from rfl, rdS (by omega)]
    rw [← e, hv]
  generalize w[0] = x at hat hx
  have q_true : (x.toList == [116, 114, 117, 101]) = true := by rw [hx]; rfl
  have q_fail : (x.toList == [102, 97, 105, 108]) = false := by rw [hx]; rfl
  have q_rm : (x.toList == [114, 109]) = false := by rw [hx]; rfl
  have q_say : (x.toList == [115, 97, 121]) = false := by rw [hx]; rfl
  have q_more : (x.toList == [109, 111, 114, 101]) = false := by rw [hx]; rfl
  have q_touch : (x.toList == [116, 111, 117, 99, 104]) = false := by rw [hx]; rfl
  have q_concat : (x.toList == [99, 111, 110, 99, 97, 116]) = false := by rw [hx]; rfl
  have q_mv : (x.toList == [109, 118]) = false := by rw [hx]; rfl
  have q_same : (x.toList == [115, 97, 109, 101]) = false := by rw [hx]; rfl
  have q_has : (x.toList == [104, 97, 115]) = false := by rw [hx]; rfl
  have hat0 : W.cell? ad = some (.string x) := by simpa [Addr.add] using hat
  clear hat hx
  go_enter Tryd.func19, Tryd.ntmps19
  go_wp2_with fail
  exact bodyPost_ret (v := .tuple #[.string nilB, .string nilB, .bool true]) (by simp [results, Tryd.results19, go_sem, nilB]) rfl ⟨rfl, Below.refl _ _⟩
set_option maxHeartbeats 4000000 in
set_option maxRecDepth 100000 in
theorem laid_fail (h : LIn W b mb φ A c own ins fuel Aw cw w) (h0 : 0 < w.length) (hv : v0 w = [102, 97, 105, 108]) :
    Calls Tryd.prog 19 #[.pointer (some ⟨b, 0, none⟩), .slice Aw w.length cw] W (LaidEnd W (laidV own ins w)) := by
  have hr : laidV own ins w = (nilB, nilB, false) := by unfold laidV; rw [hv]; first | rfl | (show (match catV own ins (w.drop 2) nilB with | none => (nilB, nilB, false) | some s => (wd w 1, s, true)) = _; cases catV own ins (w.drop 2) nilB <;> rfl)
  rw [hr]
  have hcw := h.cap
  have hI0 : (0 : Int) < (w.length : Int) := by omega
  have hN0 : 0 < w.length := by omega
  have hIc : (w.length : Int) ≤ (cw : Int) := by omega
  obtain ⟨ad, e, hat⟩ := strs_at h.C (k := 0) (by omega)
  subst e
  have hx : w[0].toList = [102, 97, 105, 108] := by
    have e : v0 w = w[0].toList := by unfold v0; rw [show (0 : Int) = ((0 : Nat) : Int) from rfl, rdS (by omega)]
    rw [← e, hv]
  generalize w[0] = x at hat hx
  have q_true : (x.toList == [116, 114, 117, 101]) = false := by rw [hx]; rfl
  have q_fail : (x.toList == [102, 97, 105, 108]) = true := by rw [hx]; rfl
  have q_rm : (x.toList == [114, 109]) = false := by rw [hx]; rfl
  have q_say : (x.toList == [115, 97, 121]) = false := by rw [hx]; rfl
  have q_more : (x.toList == [109, 111, 114, 101]) = false := by rw [hx]; rfl
  have q_touch : (x.toList == [116, 111, 117, 99, 104]) = false := by rw [hx]; rfl
  have q_concat : (x.toList == [99, 111, 110, 99, 97, 116]) = false := by rw [hx]; rfl
  have q_mv : (x.toList == [109, 118]) = false := by rw [hx]; rfl
  have q_same : (x.toList == [115, 97, 109, 101]) = false := by rw [hx]; rfl
  have q_has : (x.toList == [104, 97, 115]) = false := by rw [hx]; rfl
  have hat0 : W.cell? ad = some (.string x) := by simpa [Addr.add] using hat
  clear hat hx
  go_enter Tryd.func19, Tryd.ntmps19
  go_wp2_with fail
  exact bodyPost_ret (v := .tuple #[.string nilB, .string nilB, .bool false]) (by simp [results, Tryd.results19, go_sem, nilB]) rfl ⟨rfl, Below.refl _ _⟩
set_option maxHeartbeats 4000000 in
set_option maxRecDepth 100000 in
theorem laid_rm (h : LIn W b mb φ A c own ins fuel Aw cw w) (h0 : 1 < w.length) (hv : v0 w = [114, 109]) :
    Calls Tryd.prog 19 #[.pointer (some ⟨b, 0, none⟩), .slice Aw w.length cw] W (LaidEnd W (laidV own ins w)) := by
  have hr : laidV own ins w = (nilB, nilB, (findF own (wd w 1)).isSome) := by unfold laidV; rw [hv]; first | rfl | (show (match catV own ins (w.drop 2) nilB with | none => (nilB, nilB, false) | some s => (wd w 1, s, true)) = _; cases catV own ins (w.drop 2) nilB <;> rfl)
  rw [hr]
  have hcw := h.cap
  have hI0 : (0 : Int) < (w.length : Int) := by omega
  have hI1 : (1 : Int) < (w.length : Int) := by omega
  have hN0 : 0 < w.length := by omega
  have hI9 : (2 : Int) ≤ (w.length : Int) := by omega
  have hIc : (w.length : Int) ≤ (cw : Int) := by omega
  obtain ⟨ad, e, hat⟩ := strs_at h.C (k := 0) (by omega)
  subst e
  have hx : w[0].toList = [114, 109] := by
    have e : v0 w = w[0].toList := by unfold v0; rw [show (0 : Int) = ((0 : Nat) : Int) from rfl, rdS (by omega)]
    rw [← e, hv]
  have hw1 : wd w 1 = w[1] := wd_at (by omega)
  rw [hw1]
  obtain ⟨ad1, e1, hat10⟩ := strs_at h.C (k := 1) (by omega)
  obtain rfl : ad = ad1 := by injection e1
  have hat1 : W.cell? ⟨ad.block, ad.off + 1, none⟩ = some (.string w[1]) := hat10
  have hs1 : w[1].size ≤ 100000 := Nat.le_trans (h.ws _ (List.getElem_mem (by omega))) (by decide)
  have HS1 := Lib.hid hs1
  clear hat10 hw1
  generalize w[1] = y at hat1 hs1 HS1 ⊢
  generalize w[0] = x at hat hx
  have q_true : (x.toList == [116, 114, 117, 101]) = false := by rw [hx]; rfl
  have q_fail : (x.toList == [102, 97, 105, 108]) = false := by rw [hx]; rfl
  have q_rm : (x.toList == [114, 109]) = true := by rw [hx]; rfl
  have q_say : (x.toList == [115, 97, 121]) = false := by rw [hx]; rfl
  have q_more : (x.toList == [109, 111, 114, 101]) = false := by rw [hx]; rfl
  have q_touch : (x.toList == [116, 111, 117, 99, 104]) = false := by rw [hx]; rfl
  have q_concat : (x.toList == [99, 111, 110, 99, 97, 116]) = false := by rw [hx]; rfl
  have q_mv : (x.toList == [109, 118]) = false := by rw [hx]; rfl
  have q_same : (x.toList == [115, 97, 109, 101]) = false := by rw [hx]; rfl
  have q_has : (x.toList == [104, 97, 115]) = false := by rw [hx]; rfl
  have hat0 : W.cell? ad = some (.string x) := by simpa [Addr.add] using hat
  clear hat hx
  obtain ⟨c0, c1, c2⟩ := h.h.cells
  cases hf : findF own y with
  | none =>
    have hrun := h.h.img.look_none hs1 hf
    have hrun2 := (h.h.below (Below.refl _ _).drew).img.look_none hs1 hf
    go_enter Tryd.func19, Tryd.ntmps19
    go_wp2_with fail
    go_region
    go_wp2
    exact bodyPost_ret (v := .tuple #[.string nilB, .string nilB, .bool false]) (by simp [results, Tryd.results19, go_sem, nilB]) rfl ⟨rfl, (Below.refl _ _).drew⟩
  | some f =>
    obtain ⟨q, hrun, hq⟩ := (h.h.below (Below.refl _ _).drew).img.look hs1 hf
    go_enter Tryd.func19, Tryd.ntmps19
    go_wp2_with fail
    go_region
    go_wp2
    exact bodyPost_ret (v := .tuple #[.string nilB, .string nilB, .bool true]) (by simp [results, Tryd.results19, go_sem, nilB]) rfl ⟨rfl, (Below.refl _ _).drew⟩
set_option maxHeartbeats 4000000 in
set_option maxRecDepth 100000 in
theorem laid_touch (h : LIn W b mb φ A c own ins fuel Aw cw w) (h0 : 1 < w.length) (hv : v0 w = [116, 111, 117, 99, 104]) :
    Calls Tryd.prog 19 #[.pointer (some ⟨b, 0, none⟩), .slice Aw w.length cw] W (LaidEnd W (laidV own ins w)) := by
  have hr : laidV own ins w = (wd w 1, hadV own ins (wd w 1), true) := by unfold laidV; rw [hv]; first | rfl | (show (match catV own ins (w.drop 2) nilB with | none => (nilB, nilB, false) | some s => (wd w 1, s, true)) = _; cases catV own ins (w.drop 2) nilB <;> rfl)
  rw [hr]
  have hcw := h.cap
  have hI0 : (0 : Int) < (w.length : Int) := by omega
  have hI1 : (1 : Int) < (w.length : Int) := by omega
  have hN0 : 0 < w.length := by omega
  have hI9 : (2 : Int) ≤ (w.length : Int) := by omega
  have hIc : (w.length : Int) ≤ (cw : Int) := by omega
  obtain ⟨ad, e, hat⟩ := strs_at h.C (k := 0) (by omega)
  subst e
  have hx : w[0].toList = [116, 111, 117, 99, 104] := by
    have e : v0 w = w[0].toList := by unfold v0; rw [show (0 : Int) = ((0 : Nat) : Int) from rfl, rdS (by omega)]
    rw [← e, hv]
  have hw1 : wd w 1 = w[1] := wd_at (by omega)
  rw [hw1]
  obtain ⟨ad1, e1, hat10⟩ := strs_at h.C (k := 1) (by omega)
  obtain rfl : ad = ad1 := by injection e1
  have hat1 : W.cell? ⟨ad.block, ad.off + 1, none⟩ = some (.string w[1]) := hat10
  have hs1 : w[1].size ≤ 100000 := Nat.le_trans (h.ws _ (List.getElem_mem (by omega))) (by decide)
  have HS1 := Lib.hid hs1
  clear hat10 hw1
  generalize w[1] = y at hat1 hs1 HS1 ⊢
  generalize w[0] = x at hat hx
  have q_true : (x.toList == [116, 114, 117, 101]) = false := by rw [hx]; rfl
  have q_fail : (x.toList == [102, 97, 105, 108]) = false := by rw [hx]; rfl
  have q_rm : (x.toList == [114, 109]) = false := by rw [hx]; rfl
  have q_say : (x.toList == [115, 97, 121]) = false := by rw [hx]; rfl
  have q_more : (x.toList == [109, 111, 114, 101]) = false := by rw [hx]; rfl
  have q_touch : (x.toList == [116, 111, 117, 99, 104]) = true := by rw [hx]; rfl
  have q_concat : (x.toList == [99, 111, 110, 99, 97, 116]) = false := by rw [hx]; rfl
  have q_mv : (x.toList == [109, 118]) = false := by rw [hx]; rfl
  have q_same : (x.toList == [115, 97, 109, 101]) = false := by rw [hx]; rfl
  have q_has : (x.toList == [104, 97, 115]) = false := by rw [hx]; rfl
  have hat0 : W.cell? ad = some (.string x) := by simpa [Addr.add] using hat
  clear hat hx
  have HH := Lib.hid (h.had y hs1)
  generalize hadV own ins y = hy at HH ⊢
  clear h
  go_enter Tryd.func19, Tryd.ntmps19
  go_upto_region 13 with fail
  have HS : Hid (∀ W', Below W.heap.size W W' → (W'.cell? ad = some (.string x) ∧ W'.cell? ⟨ad.block, ad.off + 1, none⟩ = some (.string y)) ∧ Hid (Below W.heap.size W W')) := fun W' hb => ⟨⟨(hb.cell (p := ad) (cell_lt hat0)).trans hat0, (hb.cell (p := ⟨ad.block, ad.off + 1, none⟩) (cell_lt hat1)).trans hat1⟩, hb⟩
  go_region_held3 (fun W' => (W'.cell? ad = some (.string x) ∧ W'.cell? ⟨ad.block, ad.off + 1, none⟩ = some (.string y)) ∧ Hid (Below W.heap.size W W')) (first | exact HS.out _ HBh.out | exact HS.out _ (Below.refl _ W).drew) (first | (go_at_call 29; refine (HH.out _ ?hbb).mono ?_; (case hbb => first | exact (Below.refl _ W).drew); rintro e w2_h ⟨rfl, hb⟩; first | (have HBh := Lib.hid ((Below.refl _ W).drew.trans hb)); clear hb))
  all_goals (go_wp2; exact bodyPost_ret (v := .tuple #[.string y, .string hy, .bool true]) (by simp [results, Tryd.results19, go_sem, nilB]) rfl ⟨rfl, HBh.out⟩)
set_option maxHeartbeats 4000000 in
set_option maxRecDepth 100000 in
theorem laid_say (h : LIn W b mb φ A c own ins fuel Aw cw w) (h0 : 1 < w.length) (hv : v0 w = [115, 97, 121]) :
    Calls Tryd.prog 19 #[.pointer (some ⟨b, 0, none⟩), .slice Aw w.length cw] W (LaidEnd W (laidV own ins w)) := by
  have hr : laidV own ins w = (wd w 1, joinV (w.drop 2) ++ ⟨#[10]⟩, true) := by unfold laidV; rw [hv]; first | rfl | (show (match catV own ins (w.drop 2) nilB with | none => (nilB, nilB, false) | some s => (wd w 1, s, true)) = _; cases catV own ins (w.drop 2) nilB <;> rfl)
  rw [hr]
  have hcw := h.cap
  have hI0 : (0 : Int) < (w.length : Int) := by omega
  have hI1 : (1 : Int) < (w.length : Int) := by omega
  have hN0 : 0 < w.length := by omega
  have hI9 : (2 : Int) ≤ (w.length : Int) := by omega
  have hIc : (w.length : Int) ≤ (cw : Int) := by omega
  obtain ⟨ad, e, hat⟩ := strs_at h.C (k := 0) (by omega)
  subst e
  have hx : w[0].toList = [115, 97, 121] := by
    have e : v0 w = w[0].toList := by unfold v0; rw [show (0 : Int) = ((0 : Nat) : Int) from rfl, rdS (by omega)]
    rw [← e, hv]
  have hw1 : wd w 1 = w[1] := wd_at (by omega)
  rw [hw1]
  obtain ⟨ad1, e1, hat10⟩ := strs_at h.C (k := 1) (by omega)
  obtain rfl : ad = ad1 := by injection e1
  have hat1 : W.cell? ⟨ad.block, ad.off + 1, none⟩ = some (.string w[1]) := hat10
  have hs1 : w[1].size ≤ 100000 := Nat.le_trans (h.ws _ (List.getElem_mem (by omega))) (by decide)
  have HS1 := Lib.hid hs1
  clear hat10 hw1
  generalize w[1] = y at hat1 hs1 HS1 ⊢
  generalize w[0] = x at hat hx
  have q_true : (x.toList == [116, 114, 117, 101]) = false := by rw [hx]; rfl
  have q_fail : (x.toList == [102, 97, 105, 108]) = false := by rw [hx]; rfl
  have q_rm : (x.toList == [114, 109]) = false := by rw [hx]; rfl
  have q_say : (x.toList == [115, 97, 121]) = true := by rw [hx]; rfl
  have q_more : (x.toList == [109, 111, 114, 101]) = false := by rw [hx]; rfl
  have q_touch : (x.toList == [116, 111, 117, 99, 104]) = false := by rw [hx]; rfl
  have q_concat : (x.toList == [99, 111, 110, 99, 97, 116]) = false := by rw [hx]; rfl
  have q_mv : (x.toList == [109, 118]) = false := by rw [hx]; rfl
  have q_same : (x.toList == [115, 97, 109, 101]) = false := by rw [hx]; rfl
  have q_has : (x.toList == [104, 97, 115]) = false := by rw [hx]; rfl
  have hat0 : W.cell? ad = some (.string x) := by simpa [Addr.add] using hat
  clear hat hx
  have hjs : (joinV (w.drop 2)).size ≤ 90000000 := joinV_le _ (by have := h.len; rw [List.length_drop]; omega) (fun x hx => h.ws x (List.mem_of_mem_drop hx))
  have hlw := h.len
  have HJ0 := h.join (by omega)
  clear h
  generalize joinV (w.drop 2) = jv at HJ0 hjs ⊢
  by_cases hc2 : cw = 2
  · have HJ : Hid (∀ W', Below W.heap.size W W' → ∀ (k c' : Nat), k = w.length - 2 → c' = cw - 2 → _) := fun W' hb k c' e2 e3 => HJ0 W' hb _ k c' (if_pos hc2).symm e2 e3
    clear HJ0
    subst hc2
    have hb2 : jv.size + 1 ≤ 9223372036854775807 := by omega
    have hb4 : (9223372036854775807 < jv.size + 1) = False := eq_false (by omega)
    go_enter Tryd.func19, Tryd.ntmps19
    go_upto_region 9 with fail
    have HS : Hid (∀ W', Below W.heap.size W W' → (W'.cell? ad = some (.string x) ∧ W'.cell? ⟨ad.block, ad.off + 1, none⟩ = some (.string y)) ∧ Hid (Below W.heap.size W W')) := fun W' hb => ⟨⟨(hb.cell (p := ad) (cell_lt hat0)).trans hat0, (hb.cell (p := ⟨ad.block, ad.off + 1, none⟩) (cell_lt hat1)).trans hat1⟩, hb⟩
    go_region_held3 (fun W' => (W'.cell? ad = some (.string x) ∧ W'.cell? ⟨ad.block, ad.off + 1, none⟩ = some (.string y)) ∧ Hid (Below W.heap.size W W')) (first | exact HS.out _ HBj.out | exact HS.out _ (Below.refl _ W).drew) (first | (go_at_call 28; refine (HJ.out _ ?hbb _ _ ?e2 ?e3).mono ?_; (case hbb => first | exact (Below.refl _ W).drew); (case e2 => first | rfl | omega); (case e3 => first | rfl | omega); rintro e w2_j ⟨rfl, hb⟩; first | (have HBj := Lib.hid ((Below.refl _ W).drew.trans hb)); clear hb))
    all_goals (go_wp2; exact bodyPost_ret (v := .tuple #[.string y, .string (jv ++ ⟨#[10]⟩), .bool true]) (by simp [results, Tryd.results19, go_sem, nilB]) rfl ⟨rfl, HBj.out⟩)
  · have HJ : Hid (∀ W', Below W.heap.size W W' → ∀ (k c' : Nat), k = w.length - 2 → c' = cw - 2 → _) := fun W' hb k c' e2 e3 => HJ0 W' hb _ k c' (if_neg hc2).symm e2 e3
    clear HJ0
    have hb2 : jv.size + 1 ≤ 9223372036854775807 := by omega
    have hb4 : (9223372036854775807 < jv.size + 1) = False := eq_false (by omega)
    go_enter Tryd.func19, Tryd.ntmps19
    go_upto_region 9 with fail
    have HS : Hid (∀ W', Below W.heap.size W W' → (W'.cell? ad = some (.string x) ∧ W'.cell? ⟨ad.block, ad.off + 1, none⟩ = some (.string y)) ∧ Hid (Below W.heap.size W W')) := fun W' hb => ⟨⟨(hb.cell (p := ad) (cell_lt hat0)).trans hat0, (hb.cell (p := ⟨ad.block, ad.off + 1, none⟩) (cell_lt hat1)).trans hat1⟩, hb⟩
    go_region_held3 (fun W' => (W'.cell? ad = some (.string x) ∧ W'.cell? ⟨ad.block, ad.off + 1, none⟩ = some (.string y)) ∧ Hid (Below W.heap.size W W')) (first | exact HS.out _ HBj.out | exact HS.out _ (Below.refl _ W).drew) (first | (go_at_call 28; refine (HJ.out _ ?hbb _ _ ?e2 ?e3).mono ?_; (case hbb => first | exact (Below.refl _ W).drew); (case e2 => first | rfl | omega); (case e3 => first | rfl | omega); rintro e w2_j ⟨rfl, hb⟩; first | (have HBj := Lib.hid ((Below.refl _ W).drew.trans hb)); clear hb))
    all_goals (go_wp2; exact bodyPost_ret (v := .tuple #[.string y, .string (jv ++ ⟨#[10]⟩), .bool true]) (by simp [results, Tryd.results19, go_sem, nilB]) rfl ⟨rfl, HBj.out⟩)
set_option maxHeartbeats 4000000 in
set_option maxRecDepth 100000 in
theorem laid_more (h : LIn W b mb φ A c own ins fuel Aw cw w) (h0 : 1 < w.length) (hv : v0 w = [109, 111, 114, 101]) :
    Calls Tryd.prog 19 #[.pointer (some ⟨b, 0, none⟩), .slice Aw w.length cw] W (LaidEnd W (laidV own ins w)) := by
  have hr : laidV own ins w = (wd w 1, hadV own ins (wd w 1) ++ joinV (w.drop 2) ++ ⟨#[10]⟩, true) := by unfold laidV; rw [hv]; first | rfl | (show (match catV own ins (w.drop 2) nilB with | none => (nilB, nilB, false) | some s => (wd w 1, s, true)) = _; cases catV own ins (w.drop 2) nilB <;> rfl)
  rw [hr]
  have hcw := h.cap
  have hI0 : (0 : Int) < (w.length : Int) := by omega
  have hI1 : (1 : Int) < (w.length : Int) := by omega
  have hN0 : 0 < w.length := by omega
  have hI9 : (2 : Int) ≤ (w.length : Int) := by omega
  have hIc : (w.length : Int) ≤ (cw : Int) := by omega
  obtain ⟨ad, e, hat⟩ := strs_at h.C (k := 0) (by omega)
  subst e
  have hx : w[0].toList = [109, 111, 114, 101] := by
    have e : v0 w = w[0].toList := by unfold v0; rw [show (0 : Int) = ((0 : Nat) : Int) from rfl, rdS (by omega)]
    rw [← e, hv]
  have hw1 : wd w 1 = w[1] := wd_at (by omega)
  rw [hw1]
  obtain ⟨ad1, e1, hat10⟩ := strs_at h.C (k := 1) (by omega)
  obtain rfl : ad = ad1 := by injection e1
  have hat1 : W.cell? ⟨ad.block, ad.off + 1, none⟩ = some (.string w[1]) := hat10
  have hs1 : w[1].size ≤ 100000 := Nat.le_trans (h.ws _ (List.getElem_mem (by omega))) (by decide)
  have HS1 := Lib.hid hs1
  clear hat10 hw1
  generalize w[1] = y at hat1 hs1 HS1 ⊢
  generalize w[0] = x at hat hx
  have q_true : (x.toList == [116, 114, 117, 101]) = false := by rw [hx]; rfl
  have q_fail : (x.toList == [102, 97, 105, 108]) = false := by rw [hx]; rfl
  have q_rm : (x.toList == [114, 109]) = false := by rw [hx]; rfl
  have q_say : (x.toList == [115, 97, 121]) = false := by rw [hx]; rfl
  have q_more : (x.toList == [109, 111, 114, 101]) = true := by rw [hx]; rfl
  have q_touch : (x.toList == [116, 111, 117, 99, 104]) = false := by rw [hx]; rfl
  have q_concat : (x.toList == [99, 111, 110, 99, 97, 116]) = false := by rw [hx]; rfl
  have q_mv : (x.toList == [109, 118]) = false := by rw [hx]; rfl
  have q_same : (x.toList == [115, 97, 109, 101]) = false := by rw [hx]; rfl
  have q_has : (x.toList == [104, 97, 115]) = false := by rw [hx]; rfl
  have hat0 : W.cell? ad = some (.string x) := by simpa [Addr.add] using hat
  clear hat hx
  have hhs : (hadV own ins y).size ≤ 10000 := had_size h.own h.ins y
  have HH := Lib.hid (h.had y hs1)
  generalize hadV own ins y = hy at HH hhs ⊢
  have hjs : (joinV (w.drop 2)).size ≤ 90000000 := joinV_le _ (by have := h.len; rw [List.length_drop]; omega) (fun x hx => h.ws x (List.mem_of_mem_drop hx))
  have hlw := h.len
  have HJ0 := h.join (by omega)
  clear h
  generalize joinV (w.drop 2) = jv at HJ0 hjs ⊢
  by_cases hc2 : cw = 2
  · have HJ : Hid (∀ W', Below W.heap.size W W' → ∀ (k c' : Nat), k = w.length - 2 → c' = cw - 2 → _) := fun W' hb k c' e2 e3 => HJ0 W' hb _ k c' (if_pos hc2).symm e2 e3
    clear HJ0
    subst hc2
    have hsum : (hy ++ jv).size ≤ 90010000 := by rw [ByteArray.size_append]; omega
    have hb1 : hy.size + jv.size ≤ 9223372036854775807 := by omega
    have hb2 : hy.size + jv.size + 1 ≤ 9223372036854775807 := by omega
    have hb3 : (9223372036854775807 < hy.size + jv.size) = False := eq_false (by omega)
    have hb4 : (9223372036854775807 < hy.size + jv.size + 1) = False := eq_false (by omega)
    go_enter Tryd.func19, Tryd.ntmps19
    go_upto_region 11 with fail
    have HS : Hid (∀ W', Below W.heap.size W W' → (W'.cell? ad = some (.string x) ∧ W'.cell? ⟨ad.block, ad.off + 1, none⟩ = some (.string y)) ∧ Hid (Below W.heap.size W W')) := fun W' hb => ⟨⟨(hb.cell (p := ad) (cell_lt hat0)).trans hat0, (hb.cell (p := ⟨ad.block, ad.off + 1, none⟩) (cell_lt hat1)).trans hat1⟩, hb⟩
    go_region_held3 (fun W' => (W'.cell? ad = some (.string x) ∧ W'.cell? ⟨ad.block, ad.off + 1, none⟩ = some (.string y)) ∧ Hid (Below W.heap.size W W')) (first | exact HS.out _ HBj.out | exact HS.out _ HBh.out | exact HS.out _ (Below.refl _ W).drew) (first | (go_at_call 29; refine (HH.out _ ?hbb).mono ?_; (case hbb => first | exact HBj.out | exact (Below.refl _ W).drew); rintro e w2_h ⟨rfl, hb⟩; first | (have HBh := Lib.hid (HBj.out.trans (hb.mono HBj.out.size))) | (have HBh := Lib.hid ((Below.refl _ W).drew.trans hb)); clear hb) | (go_at_call 28; refine (HJ.out _ ?hbb _ _ ?e2 ?e3).mono ?_; (case hbb => first | exact HBh.out | exact (Below.refl _ W).drew); (case e2 => first | rfl | omega); (case e3 => first | rfl | omega); rintro e w2_j ⟨rfl, hb⟩; first | (have HBj := Lib.hid (HBh.out.trans (hb.mono HBh.out.size))) | (have HBj := Lib.hid ((Below.refl _ W).drew.trans hb)); clear hb))
    all_goals (go_wp2; first | exact bodyPost_ret (v := .tuple #[.string y, .string (hy ++ jv ++ ⟨#[10]⟩), .bool true]) (by simp [results, Tryd.results19, go_sem, nilB]) rfl ⟨rfl, HBj.out⟩ | exact bodyPost_ret (v := .tuple #[.string y, .string (hy ++ jv ++ ⟨#[10]⟩), .bool true]) (by simp [results, Tryd.results19, go_sem, nilB]) rfl ⟨rfl, HBh.out⟩)
  · have HJ : Hid (∀ W', Below W.heap.size W W' → ∀ (k c' : Nat), k = w.length - 2 → c' = cw - 2 → _) := fun W' hb k c' e2 e3 => HJ0 W' hb _ k c' (if_neg hc2).symm e2 e3
    clear HJ0
    have hsum : (hy ++ jv).size ≤ 90010000 := by rw [ByteArray.size_append]; omega
    have hb1 : hy.size + jv.size ≤ 9223372036854775807 := by omega
    have hb2 : hy.size + jv.size + 1 ≤ 9223372036854775807 := by omega
    have hb3 : (9223372036854775807 < hy.size + jv.size) = False := eq_false (by omega)
    have hb4 : (9223372036854775807 < hy.size + jv.size + 1) = False := eq_false (by omega)
    go_enter Tryd.func19, Tryd.ntmps19
    go_upto_region 11 with fail
    have HS : Hid (∀ W', Below W.heap.size W W' → (W'.cell? ad = some (.string x) ∧ W'.cell? ⟨ad.block, ad.off + 1, none⟩ = some (.string y)) ∧ Hid (Below W.heap.size W W')) := fun W' hb => ⟨⟨(hb.cell (p := ad) (cell_lt hat0)).trans hat0, (hb.cell (p := ⟨ad.block, ad.off + 1, none⟩) (cell_lt hat1)).trans hat1⟩, hb⟩
    go_region_held3 (fun W' => (W'.cell? ad = some (.string x) ∧ W'.cell? ⟨ad.block, ad.off + 1, none⟩ = some (.string y)) ∧ Hid (Below W.heap.size W W')) (first | exact HS.out _ HBj.out | exact HS.out _ HBh.out | exact HS.out _ (Below.refl _ W).drew) (first | (go_at_call 29; refine (HH.out _ ?hbb).mono ?_; (case hbb => first | exact HBj.out | exact (Below.refl _ W).drew); rintro e w2_h ⟨rfl, hb⟩; first | (have HBh := Lib.hid (HBj.out.trans (hb.mono HBj.out.size))) | (have HBh := Lib.hid ((Below.refl _ W).drew.trans hb)); clear hb) | (go_at_call 28; refine (HJ.out _ ?hbb _ _ ?e2 ?e3).mono ?_; (case hbb => first | exact HBh.out | exact (Below.refl _ W).drew); (case e2 => first | rfl | omega); (case e3 => first | rfl | omega); rintro e w2_j ⟨rfl, hb⟩; first | (have HBj := Lib.hid (HBh.out.trans (hb.mono HBh.out.size))) | (have HBj := Lib.hid ((Below.refl _ W).drew.trans hb)); clear hb))
    all_goals (go_wp2; first | exact bodyPost_ret (v := .tuple #[.string y, .string (hy ++ jv ++ ⟨#[10]⟩), .bool true]) (by simp [results, Tryd.results19, go_sem, nilB]) rfl ⟨rfl, HBj.out⟩ | exact bodyPost_ret (v := .tuple #[.string y, .string (hy ++ jv ++ ⟨#[10]⟩), .bool true]) (by simp [results, Tryd.results19, go_sem, nilB]) rfl ⟨rfl, HBh.out⟩)
set_option maxHeartbeats 4000000 in
set_option maxRecDepth 100000 in
theorem laid_mv (h : LIn W b mb φ A c own ins fuel Aw cw w) (h0 : 2 < w.length) (hv : v0 w = [109, 118]) :
    Calls Tryd.prog 19 #[.pointer (some ⟨b, 0, none⟩), .slice Aw w.length cw] W (LaidEnd W (laidV own ins w)) := by
  have hr : laidV own ins w = (wd w 2, hadV own ins (wd w 1), (findF own (wd w 1)).isSome) := by unfold laidV; rw [hv]; first | rfl | (show (match catV own ins (w.drop 2) nilB with | none => (nilB, nilB, false) | some s => (wd w 1, s, true)) = _; cases catV own ins (w.drop 2) nilB <;> rfl)
  rw [hr]
  have hcw := h.cap
  have hI0 : (0 : Int) < (w.length : Int) := by omega
  have hI1 : (1 : Int) < (w.length : Int) := by omega
  have hI2 : (2 : Int) < (w.length : Int) := by omega
  have hN0 : 0 < w.length := by omega
  have hI9 : (2 : Int) ≤ (w.length : Int) := by omega
  have hIc : (w.length : Int) ≤ (cw : Int) := by omega
  obtain ⟨ad, e, hat⟩ := strs_at h.C (k := 0) (by omega)
  subst e
  have hx : w[0].toList = [109, 118] := by
    have e : v0 w = w[0].toList := by unfold v0; rw [show (0 : Int) = ((0 : Nat) : Int) from rfl, rdS (by omega)]
    rw [← e, hv]
  have hw1 : wd w 1 = w[1] := wd_at (by omega)
  rw [hw1]
  obtain ⟨ad1, e1, hat10⟩ := strs_at h.C (k := 1) (by omega)
  obtain rfl : ad = ad1 := by injection e1
  have hat1 : W.cell? ⟨ad.block, ad.off + 1, none⟩ = some (.string w[1]) := hat10
  have hs1 : w[1].size ≤ 100000 := Nat.le_trans (h.ws _ (List.getElem_mem (by omega))) (by decide)
  have HS1 := Lib.hid hs1
  clear hat10 hw1
  generalize w[1] = y at hat1 hs1 HS1 ⊢
  have hw2 : wd w 2 = w[2] := wd_at (by omega)
  rw [hw2]
  obtain ⟨ad2, e2, hat20⟩ := strs_at h.C (k := 2) (by omega)
  obtain rfl : ad = ad2 := by injection e2
  have hat2 : W.cell? ⟨ad.block, ad.off + 2, none⟩ = some (.string w[2]) := hat20
  have hs2 : w[2].size ≤ 100000 := Nat.le_trans (h.ws _ (List.getElem_mem (by omega))) (by decide)
  have HS2 := Lib.hid hs2
  clear hat20 hw2
  generalize w[2] = z at hat2 hs2 HS2 ⊢
  generalize w[0] = x at hat hx
  have q_true : (x.toList == [116, 114, 117, 101]) = false := by rw [hx]; rfl
  have q_fail : (x.toList == [102, 97, 105, 108]) = false := by rw [hx]; rfl
  have q_rm : (x.toList == [114, 109]) = false := by rw [hx]; rfl
  have q_say : (x.toList == [115, 97, 121]) = false := by rw [hx]; rfl
  have q_more : (x.toList == [109, 111, 114, 101]) = false := by rw [hx]; rfl
  have q_touch : (x.toList == [116, 111, 117, 99, 104]) = false := by rw [hx]; rfl
  have q_concat : (x.toList == [99, 111, 110, 99, 97, 116]) = false := by rw [hx]; rfl
  have q_mv : (x.toList == [109, 118]) = true := by rw [hx]; rfl
  have q_same : (x.toList == [115, 97, 109, 101]) = false := by rw [hx]; rfl
  have q_has : (x.toList == [104, 97, 115]) = false := by rw [hx]; rfl
  have hat0 : W.cell? ad = some (.string x) := by simpa [Addr.add] using hat
  clear hat hx
  have HH := Lib.hid (h.had y hs1)
  generalize hadV own ins y = hy at HH ⊢
  cases hf : findF own y with
  | none =>
    have HQ := h.misses y hs1 hf
    go_enter Tryd.func19, Tryd.ntmps19
    go_upto_region 24 with fail
    have HS : Hid (∀ W', Below W.heap.size W W' → (W'.cell? ad = some (.string x) ∧ W'.cell? ⟨ad.block, ad.off + 1, none⟩ = some (.string y) ∧ W'.cell? ⟨ad.block, ad.off + 2, none⟩ = some (.string z) ∧ W'.cell? ⟨b, 0, none⟩ = some (.map (some mb)) ∧ (Instr.lookup 37 (.map (some mb)) (.string y) false).run Tryd.prog W' = .ok (.pointer none) W') ∧ Hid (Below W.heap.size W W')) := fun W' hb => ⟨⟨(hb.cell (p := ad) (cell_lt hat0)).trans hat0, (hb.cell (p := ⟨ad.block, ad.off + 1, none⟩) (cell_lt hat1)).trans hat1, (hb.cell (p := ⟨ad.block, ad.off + 2, none⟩) (cell_lt hat2)).trans hat2, (h.h.below hb).cells.1, HQ W' hb⟩, hb⟩
    go_region_held3 (fun W' => (W'.cell? ad = some (.string x) ∧ W'.cell? ⟨ad.block, ad.off + 1, none⟩ = some (.string y) ∧ W'.cell? ⟨ad.block, ad.off + 2, none⟩ = some (.string z) ∧ W'.cell? ⟨b, 0, none⟩ = some (.map (some mb)) ∧ (Instr.lookup 37 (.map (some mb)) (.string y) false).run Tryd.prog W' = .ok (.pointer none) W') ∧ Hid (Below W.heap.size W W')) (first | exact HS.out _ HBh.out | exact HS.out _ (Below.refl _ W).drew) (first | (go_at_call 29; refine (HH.out _ ?hbb).mono ?_; (case hbb => first | exact (Below.refl _ W).drew); rintro e w2_h ⟨rfl, hb⟩; first | (have HBh := Lib.hid ((Below.refl _ W).drew.trans hb)); clear hb))
    clear HS
    all_goals (go_wp2; first | exact bodyPost_ret (v := .tuple #[.string z, .string hy, .bool false]) (by simp [results, Tryd.results19, go_sem, nilB]) rfl ⟨rfl, HBh.out⟩)
  | some f =>
    obtain ⟨qo, HQ⟩ := h.looks y hs1 hf
    go_enter Tryd.func19, Tryd.ntmps19
    go_upto_region 24 with fail
    have HS : Hid (∀ W', Below W.heap.size W W' → (W'.cell? ad = some (.string x) ∧ W'.cell? ⟨ad.block, ad.off + 1, none⟩ = some (.string y) ∧ W'.cell? ⟨ad.block, ad.off + 2, none⟩ = some (.string z) ∧ W'.cell? ⟨b, 0, none⟩ = some (.map (some mb)) ∧ (Instr.lookup 37 (.map (some mb)) (.string y) false).run Tryd.prog W' = .ok (.pointer (some ⟨qo W', 0, none⟩)) W') ∧ Hid (Below W.heap.size W W')) := fun W' hb => ⟨⟨(hb.cell (p := ad) (cell_lt hat0)).trans hat0, (hb.cell (p := ⟨ad.block, ad.off + 1, none⟩) (cell_lt hat1)).trans hat1, (hb.cell (p := ⟨ad.block, ad.off + 2, none⟩) (cell_lt hat2)).trans hat2, (h.h.below hb).cells.1, HQ W' hb⟩, hb⟩
    go_region_held3 (fun W' => (W'.cell? ad = some (.string x) ∧ W'.cell? ⟨ad.block, ad.off + 1, none⟩ = some (.string y) ∧ W'.cell? ⟨ad.block, ad.off + 2, none⟩ = some (.string z) ∧ W'.cell? ⟨b, 0, none⟩ = some (.map (some mb)) ∧ (Instr.lookup 37 (.map (some mb)) (.string y) false).run Tryd.prog W' = .ok (.pointer (some ⟨qo W', 0, none⟩)) W') ∧ Hid (Below W.heap.size W W')) (first | exact HS.out _ HBh.out | exact HS.out _ (Below.refl _ W).drew) (first | (go_at_call 29; refine (HH.out _ ?hbb).mono ?_; (case hbb => first | exact (Below.refl _ W).drew); rintro e w2_h ⟨rfl, hb⟩; first | (have HBh := Lib.hid ((Below.refl _ W).drew.trans hb)); clear hb))
    clear HS
    all_goals (go_wp2; first | exact bodyPost_ret (v := .tuple #[.string z, .string hy, .bool true]) (by simp [results, Tryd.results19, go_sem, nilB]) rfl ⟨rfl, HBh.out⟩)
set_option maxHeartbeats 4000000 in
set_option maxRecDepth 100000 in
theorem laid_concat (h : LIn W b mb φ A c own ins fuel Aw cw w) (h0 : 2 < w.length) (hv : v0 w = [99, 111, 110, 99, 97, 116]) :
    Calls Tryd.prog 19 #[.pointer (some ⟨b, 0, none⟩), .slice Aw w.length cw] W (LaidEnd W (laidV own ins w)) := by
  have hr : laidV own ins w = catR (wd w 1) (catV own ins (w.drop 2) nilB) := by unfold laidV; rw [hv]; first | rfl | (show (match catV own ins (w.drop 2) nilB with | none => (nilB, nilB, false) | some s => (wd w 1, s, true)) = _; cases catV own ins (w.drop 2) nilB <;> rfl)
  rw [hr]
  have hcw := h.cap
  have hI0 : (0 : Int) < (w.length : Int) := by omega
  have hI1 : (1 : Int) < (w.length : Int) := by omega
  have hI2 : (2 : Int) < (w.length : Int) := by omega
  have hN0 : 0 < w.length := by omega
  have hI9 : (2 : Int) ≤ (w.length : Int) := by omega
  have hIc : (w.length : Int) ≤ (cw : Int) := by omega
  obtain ⟨ad, e, hat⟩ := strs_at h.C (k := 0) (by omega)
  subst e
  have hx : w[0].toList = [99, 111, 110, 99, 97, 116] := by
    have e : v0 w = w[0].toList := by unfold v0; rw [show (0 : Int) = ((0 : Nat) : Int) from rfl, rdS (by omega)]
    rw [← e, hv]
  have hw1 : wd w 1 = w[1] := wd_at (by omega)
  rw [hw1]
  obtain ⟨ad1, e1, hat10⟩ := strs_at h.C (k := 1) (by omega)
  obtain rfl : ad = ad1 := by injection e1
  have hat1 : W.cell? ⟨ad.block, ad.off + 1, none⟩ = some (.string w[1]) := hat10
  have hs1 : w[1].size ≤ 100000 := Nat.le_trans (h.ws _ (List.getElem_mem (by omega))) (by decide)
  have HS1 := Lib.hid hs1
  clear hat10 hw1
  generalize w[1] = y at hat1 hs1 HS1 ⊢
  generalize w[0] = x at hat hx
  have q_true : (x.toList == [116, 114, 117, 101]) = false := by rw [hx]; rfl
  have q_fail : (x.toList == [102, 97, 105, 108]) = false := by rw [hx]; rfl
  have q_rm : (x.toList == [114, 109]) = false := by rw [hx]; rfl
  have q_say : (x.toList == [115, 97, 121]) = false := by rw [hx]; rfl
  have q_more : (x.toList == [109, 111, 114, 101]) = false := by rw [hx]; rfl
  have q_touch : (x.toList == [116, 111, 117, 99, 104]) = false := by rw [hx]; rfl
  have q_concat : (x.toList == [99, 111, 110, 99, 97, 116]) = true := by rw [hx]; rfl
  have q_mv : (x.toList == [109, 118]) = false := by rw [hx]; rfl
  have q_same : (x.toList == [115, 97, 109, 101]) = false := by rw [hx]; rfl
  have q_has : (x.toList == [104, 97, 115]) = false := by rw [hx]; rfl
  have hat0 : W.cell? ad = some (.string x) := by simpa [Addr.add] using hat
  clear hat hx
  obtain ⟨R, hR⟩ : ∃ R, catR y (catV own ins (w.drop 2) nilB) = R := ⟨_, rfl⟩
  rw [hR]
  have HR := Lib.hid hR
  clear hR hr
  have hc2 : ¬ cw = 2 := by omega
  have HF : Hid (∀ W', Below W.heap.size W W' → ∀ nm : ByteArray, nm.size ≤ 100000 → Calls Tryd.prog 30 #[.pointer (some ⟨b, 0, none⟩), .string nm] W' (FileEnd W' (fileV own ins nm))) := fun W' hb nm hn => file_call (h.h.below hb) nm hn
  have HH : Hid (∀ W', Below W.heap.size W W' → ∀ nm : ByteArray, nm.size ≤ 100000 → Calls Tryd.prog 29 #[.pointer (some ⟨b, 0, none⟩), .string nm] W' fun e w' => e = .returned (.string (hadV own ins nm)) ∧ Below W'.heap.size W' w') := fun W' hb nm hn => h.had nm hn W' hb
  have HZ : Hid (∀ p s, fileV own ins p = some s → s.size ≤ 10000) := fun p s => file_size h.own h.ins p s
  have HW : Hid (∀ k (hk : k + 2 < w.length), W.cell? ⟨ad.block, ad.off + 2 + k, none⟩ = some (.string w[k + 2])) := fun k hk => by
    obtain ⟨ad', e', hat'⟩ := strs_at h.C hk
    obtain rfl : ad = ad' := by injection e'
    rw [show ad.off + 2 + k = ad.off + (k + 2) by omega]
    exact hat'
  have HS : Hid (∀ x ∈ w, x.size ≤ 9000) := h.ws
  have hlw := h.len
  obtain ⟨n, hn⟩ : ∃ n, w.length - 2 = n := ⟨_, rfl⟩
  have HN := Lib.hid hn
  have hn9 : n ≤ 9001 := by omega
  clear h hs1
  go_enter Tryd.func19, Tryd.ntmps19
  go_wp2_with fail
  try rw [hn]
  clear hn
  go_loopw [5, 8, 66] (fun s _ i wr => ∃ (k : Nat) (acc : ByteArray), k ≤ n ∧ i = .int .i64 k ∧ s = .string acc ∧ Hid (Below W.heap.size W wr) ∧ Hid (catV own ins (w.drop 2) nilB = catV own ins ((w.drop 2).drop k) acc) ∧ acc.size ≤ k * 10000) (fun _ _ i _ => n - (intOf i).toNat)
  case atStart => exact ⟨0, nilB, Nat.zero_le _, rfl, rfl, Below.refl _ _, rfl, Nat.zero_le _⟩
  case round =>
    obtain ⟨k, acc, hk, rfl, rfl, HB, HC, hacc⟩ := hrel
    by_cases hlk : k < n
    · have hltz : (k : Int) < (n : Int) := by omega
      have hk2 : k + 2 < w.length := by have := HN.out; omega
      have f0 := (HB.out.cell (p := ⟨ad.block, ad.off + 2 + k, none⟩) (cell_lt (HW.out k hk2))).trans (HW.out k hk2)
      have hsz : w[k + 2].size ≤ 100000 := Nat.le_trans (HS.out _ (List.getElem_mem hk2)) (by decide)
      have HCF := Lib.hid (HF.out wr HB.out w[k + 2] hsz)
      have HCH : Hid (∀ W', Below wr.heap.size wr W' → _) := fun W' hb => HH.out W' (HB.out.trans (hb.mono HB.out.size)) w[k + 2] hsz
      have hd : (w.drop 2).drop k = w[k + 2] :: (w.drop 2).drop (k + 1) := by
        rw [List.drop_drop, List.drop_drop, show 2 + k = k + 2 by omega, show 2 + (k + 1) = k + 2 + 1 by omega, List.drop_eq_getElem_cons hk2]
      have HX : Hid (catV own ins ((w.drop 2).drop k) acc = match fileV own ins w[k + 2] with | none => none | some s => catV own ins ((w.drop 2).drop (k + 1)) (acc ++ s)) := by rw [Hid, hd]; exact catV_at _ _ _ _ _
      have HG : Hid (∀ s, fileV own ins w[k + 2] = some s → hadV own ins w[k + 2] = s ∧ s.size ≤ 10000) := fun s hs => ⟨by unfold hadV; rw [hs]; rfl, HZ.out _ _ hs⟩
      clear hd hsz
      generalize w[k + 2] = a at f0 HCF HCH HX HG
      generalize hadV own ins a = ha at HCH HG
      generalize fileV own ins a = fa at HCF HX HG
      cases fa with
      | none =>
        have HX2 : Hid (catV own ins (w.drop 2) nilB = none) := HC.out.trans HX.out
        clear HX HC HG
        go_wp2_with (go_at_call 30; refine HCF.out.mono ?_; rintro e w2 ⟨rfl, hb⟩; have HB2 := Lib.hid (HB.out.trans (hb.mono HB.out.size)); clear hb)
        have hRe := HR.out
        rw [HX2.out] at hRe
        subst hRe
        exact bodyPost_ret (v := .tuple #[.string nilB, .string nilB, .bool false]) (by simp [results, Tryd.results19, go_sem, nilB]) rfl ⟨rfl, HB2.out⟩
      | some s =>
        obtain ⟨hg1, hg2⟩ := HG.out s rfl
        subst hg1
        have hsum : acc.size + ha.size ≤ 9223372036854775807 := by omega
        have HX2 : Hid (catV own ins (w.drop 2) nilB = catV own ins ((w.drop 2).drop (k + 1)) (acc ++ ha)) := HC.out.trans HX.out
        have HL : Hid ((acc ++ ha).size ≤ (k + 1) * 10000) := by rw [Hid, ByteArray.size_append]; omega
        clear HX HC HG
        go_wp2_with (first
          | (go_at_call 30; refine HCF.out.mono ?_; rintro e w2 ⟨⟨ad2, rfl, -⟩, hb⟩; have HB2 := Lib.hid hb; clear hb)
          | (go_at_call 29; refine (HCH.out _ HB2.out).mono ?_; rintro e w3 ⟨rfl, hb⟩; have HB3 := Lib.hid (HB.out.trans ((HB2.out.trans (hb.mono HB2.out.size)).mono HB.out.size)); clear hb))
        go_roundw
        case rel => exact ⟨k + 1, _, hlk, by go_num, rfl, HB3.out, HX2.out, HL.out⟩
        case measure => simp [intOf]; omega
    · obtain rfl : k = n := by omega
      have hltz : ¬ (k : Int) < (k : Int) := by omega
      have f1 := (HB.out.cell (p := ⟨ad.block, ad.off + 1, none⟩) (cell_lt hat1)).trans hat1
      have HX2 : Hid (catV own ins (w.drop 2) nilB = some acc) := by
        rw [Hid, HC.out, List.drop_eq_nil_of_le (by rw [List.length_drop]; have := HN.out; omega), catV]
      clear HC
      go_wp2
      have hRe := HR.out
      rw [HX2.out] at hRe
      subst hRe
      exact bodyPost_ret (v := .tuple #[.string y, .string acc, .bool true]) (by simp [results, Tryd.results19, go_sem, nilB]) rfl ⟨rfl, HB.out⟩
set_option maxHeartbeats 4000000 in
set_option maxRecDepth 100000 in
theorem laid_no (h : LIn W b mb φ A c own ins fuel Aw cw w) (h0 : 1 < w.length) (n_true : v0 w ≠ [116, 114, 117, 101]) (n_fail : v0 w ≠ [102, 97, 105, 108]) (n_rm : v0 w ≠ [114, 109]) (n_say : v0 w ≠ [115, 97, 121]) (n_more : v0 w ≠ [109, 111, 114, 101]) (n_touch : v0 w ≠ [116, 111, 117, 99, 104]) (n_concat : v0 w ≠ [99, 111, 110, 99, 97, 116]) (n_mv : v0 w ≠ [109, 118]) (hf : fileV own ins (wd w 1) = none) :
    Calls Tryd.prog 19 #[.pointer (some ⟨b, 0, none⟩), .slice Aw w.length cw] W (LaidEnd W (laidV own ins w)) := by
  have hr : laidV own ins w = (nilB, nilB, false) := by unfold laidV; simp only [if_neg n_true, if_neg n_fail, if_neg n_rm, if_neg n_say, if_neg n_more, if_neg n_touch, if_neg n_concat, if_neg n_mv]; rw [hf]
  rw [hr]
  have hcw := h.cap
  have hI0 : (0 : Int) < (w.length : Int) := by omega
  have hI1 : (1 : Int) < (w.length : Int) := by omega
  have hN0 : 0 < w.length := by omega
  have hI9 : (2 : Int) ≤ (w.length : Int) := by omega
  obtain ⟨ad, e, hat⟩ := strs_at h.C (k := 0) (by omega)
  subst e
  have hv0 : v0 w = w[0].toList := by unfold v0; rw [show (0 : Int) = ((0 : Nat) : Int) from rfl, rdS (by omega)]
  have hw1 : wd w 1 = w[1] := wd_at (by omega)
  try rw [hw1]
  rw [hw1] at hf
  obtain ⟨ad1, e1, hat10⟩ := strs_at h.C (k := 1) (by omega)
  obtain rfl : ad = ad1 := by injection e1
  have hat1 : W.cell? ⟨ad.block, ad.off + 1, none⟩ = some (.string w[1]) := hat10
  have hs1 : w[1].size ≤ 100000 := Nat.le_trans (h.ws _ (List.getElem_mem (by omega))) (by decide)
  have HS1 := Lib.hid hs1
  clear hat10 hw1
  generalize w[1] = y at hat1 hs1 HS1 hf ⊢
  rw [hv0] at n_true n_fail n_rm n_say n_more n_touch n_concat n_mv
  try rw [hv0]
  generalize w[0] = x at hat n_true n_fail n_rm n_say n_more n_touch n_concat n_mv ⊢
  have q_true : (x.toList == [116, 114, 117, 101]) = false := beq_eq_false_iff_ne.2 n_true
  have q_fail : (x.toList == [102, 97, 105, 108]) = false := beq_eq_false_iff_ne.2 n_fail
  have q_rm : (x.toList == [114, 109]) = false := beq_eq_false_iff_ne.2 n_rm
  have q_say : (x.toList == [115, 97, 121]) = false := beq_eq_false_iff_ne.2 n_say
  have q_more : (x.toList == [109, 111, 114, 101]) = false := beq_eq_false_iff_ne.2 n_more
  have q_touch : (x.toList == [116, 111, 117, 99, 104]) = false := beq_eq_false_iff_ne.2 n_touch
  have q_concat : (x.toList == [99, 111, 110, 99, 97, 116]) = false := beq_eq_false_iff_ne.2 n_concat
  have q_mv : (x.toList == [109, 118]) = false := beq_eq_false_iff_ne.2 n_mv
  have hat0 : W.cell? ad = some (.string x) := by simpa [Addr.add] using hat
  clear hat n_true n_fail n_rm n_say n_more n_touch n_concat n_mv hv0
  have HF : Hid (∀ W', Below W.heap.size W W' → ∀ nm : ByteArray, nm.size ≤ 100000 → Calls Tryd.prog 30 #[.pointer (some ⟨b, 0, none⟩), .string nm] W' (FileEnd W' (fileV own ins nm))) := fun W' hb nm hn => file_call (h.h.below hb) nm hn
  have HH : Hid (∀ W', Below W.heap.size W W' → ∀ nm : ByteArray, nm.size ≤ 100000 → Calls Tryd.prog 29 #[.pointer (some ⟨b, 0, none⟩), .string nm] W' fun e w' => e = .returned (.string (hadV own ins nm)) ∧ Below W'.heap.size W' w') := fun W' hb nm hn => h.had nm hn W' hb
  have HFy := Lib.hid hf
  clear hf h hs1
  go_enter Tryd.func19, Tryd.ntmps19
  go_wp2_with (go_at_call 30; refine (HF.out _ (Below.refl _ W) y HS1.out).mono ?_; rw [HFy.out]; rintro e w1 ⟨rfl, hb⟩; have HB1 := Lib.hid (hb); clear hb; have g1_0 := (HB1.out.cell (p := ad) (cell_lt hat0)).trans hat0; have g1_1 := (HB1.out.cell (p := ⟨ad.block, ad.off + 1, none⟩) (cell_lt hat1)).trans hat1)
  exact bodyPost_ret (v := .tuple #[.string nilB, .string nilB, .bool false]) (by simp [results, Tryd.results19, go_sem, nilB]) rfl ⟨rfl, HB1.out⟩
set_option maxHeartbeats 4000000 in
set_option maxRecDepth 100000 in
theorem laid_has (h : LIn W b mb φ A c own ins fuel Aw cw w) (h0 : 2 < w.length) (hv : v0 w = [104, 97, 115]) {s : ByteArray} (hf : fileV own ins (wd w 1) = some s) :
    Calls Tryd.prog 19 #[.pointer (some ⟨b, 0, none⟩), .slice Aw w.length cw] W (LaidEnd W (laidV own ins w)) := by
  have hr : laidV own ins w = (nilB, nilB, Lib.contains s.data.toList (wd w 2).data.toList) := by unfold laidV; rw [hv]; show (match fileV own ins (wd w 1) with | none => (nilB, nilB, false) | some s => _) = _; rw [hf]; rfl
  rw [hr]
  have hcw := h.cap
  have hI0 : (0 : Int) < (w.length : Int) := by omega
  have hI1 : (1 : Int) < (w.length : Int) := by omega
  have hI2 : (2 : Int) < (w.length : Int) := by omega
  have hN0 : 0 < w.length := by omega
  have hI9 : (2 : Int) ≤ (w.length : Int) := by omega
  obtain ⟨ad, e, hat⟩ := strs_at h.C (k := 0) (by omega)
  subst e
  have hv0 : v0 w = w[0].toList := by unfold v0; rw [show (0 : Int) = ((0 : Nat) : Int) from rfl, rdS (by omega)]
  have hw1 : wd w 1 = w[1] := wd_at (by omega)
  try rw [hw1]
  rw [hw1] at hf
  obtain ⟨ad1, e1, hat10⟩ := strs_at h.C (k := 1) (by omega)
  obtain rfl : ad = ad1 := by injection e1
  have hat1 : W.cell? ⟨ad.block, ad.off + 1, none⟩ = some (.string w[1]) := hat10
  have hs1 : w[1].size ≤ 100000 := Nat.le_trans (h.ws _ (List.getElem_mem (by omega))) (by decide)
  have HS1 := Lib.hid hs1
  clear hat10 hw1
  generalize w[1] = y at hat1 hs1 HS1 hf ⊢
  have hw2 : wd w 2 = w[2] := wd_at (by omega)
  try rw [hw2]
  obtain ⟨ad2, e2, hat20⟩ := strs_at h.C (k := 2) (by omega)
  obtain rfl : ad = ad2 := by injection e2
  have hat2 : W.cell? ⟨ad.block, ad.off + 2, none⟩ = some (.string w[2]) := hat20
  have hs2 : w[2].size ≤ 100000 := Nat.le_trans (h.ws _ (List.getElem_mem (by omega))) (by decide)
  have HS2 := Lib.hid hs2
  clear hat20 hw2
  generalize w[2] = z at hat2 hs2 HS2  ⊢
  rw [hv0] at hv
  generalize w[0] = x at hat hv
  have q_true : (x.toList == [116, 114, 117, 101]) = false := by rw [hv]; rfl
  have q_fail : (x.toList == [102, 97, 105, 108]) = false := by rw [hv]; rfl
  have q_rm : (x.toList == [114, 109]) = false := by rw [hv]; rfl
  have q_say : (x.toList == [115, 97, 121]) = false := by rw [hv]; rfl
  have q_more : (x.toList == [109, 111, 114, 101]) = false := by rw [hv]; rfl
  have q_touch : (x.toList == [116, 111, 117, 99, 104]) = false := by rw [hv]; rfl
  have q_concat : (x.toList == [99, 111, 110, 99, 97, 116]) = false := by rw [hv]; rfl
  have q_mv : (x.toList == [109, 118]) = false := by rw [hv]; rfl
  have q_same : (x.toList == [115, 97, 109, 101]) = false := by rw [hv]; rfl
  have q_has : (x.toList == [104, 97, 115]) = true := by rw [hv]; rfl
  have hat0 : W.cell? ad = some (.string x) := by simpa [Addr.add] using hat
  clear hat hv hv0
  have HF : Hid (∀ W', Below W.heap.size W W' → ∀ nm : ByteArray, nm.size ≤ 100000 → Calls Tryd.prog 30 #[.pointer (some ⟨b, 0, none⟩), .string nm] W' (FileEnd W' (fileV own ins nm))) := fun W' hb nm hn => file_call (h.h.below hb) nm hn
  have HH : Hid (∀ W', Below W.heap.size W W' → ∀ nm : ByteArray, nm.size ≤ 100000 → Calls Tryd.prog 29 #[.pointer (some ⟨b, 0, none⟩), .string nm] W' fun e w' => e = .returned (.string (hadV own ins nm)) ∧ Below W'.heap.size W' w') := fun W' hb nm hn => h.had nm hn W' hb
  have HY : Hid (hadV own ins y = s) := by rw [Hid]; unfold hadV; rw [hf]; rfl
  have HFy := Lib.hid hf
  have hss : s.size < 4294967281 := Nat.lt_of_le_of_lt (file_size h.own h.ins y s hf) (by decide)
  have HG := Lib.hid h.gl
  have HC : Hid (∀ W', Below W.heap.size W W' → Calls Tryd.prog 31 #[.string s, .string z] W' fun e w' => e = .returned (.bool (Lib.contains s.data.toList z.data.toList)) ∧ w' = W') := fun W' hb => by
    obtain ⟨m, hm⟩ := (HG.out.below hb).mx
    exact Tryd.strings_Contains s z m W' hss hm
  generalize Lib.contains s.data.toList z.data.toList = r at HC ⊢
  clear hf h hs1 hs2
  go_enter Tryd.func19, Tryd.ntmps19
  go_wp2_with (first | (go_at_call 30; refine (HF.out _ (Below.refl _ W) y HS1.out).mono ?_; rw [HFy.out]; rintro e w1 ⟨⟨ad1_, rfl, -⟩, hb⟩; have HB1 := Lib.hid (hb); clear hb; have g1_0 := (HB1.out.cell (p := ad) (cell_lt hat0)).trans hat0; have g1_1 := (HB1.out.cell (p := ⟨ad.block, ad.off + 1, none⟩) (cell_lt hat1)).trans hat1; have g1_2 := (HB1.out.cell (p := ⟨ad.block, ad.off + 2, none⟩) (cell_lt hat2)).trans hat2) | (go_at_call 29; refine (HH.out _ HB1.out y HS1.out).mono ?_; rw [HY.out]; rintro e w2 ⟨rfl, hb⟩; have HB2 := Lib.hid (HB1.out.trans (hb.mono HB1.out.size)); clear hb; have g2_0 := (HB2.out.cell (p := ad) (cell_lt hat0)).trans hat0; have g2_1 := (HB2.out.cell (p := ⟨ad.block, ad.off + 1, none⟩) (cell_lt hat1)).trans hat1; have g2_2 := (HB2.out.cell (p := ⟨ad.block, ad.off + 2, none⟩) (cell_lt hat2)).trans hat2) | (go_at_call 31; refine (HC.out _ HB2.out).mono ?_; rintro e w9 ⟨rfl, rfl⟩))
  exact bodyPost_ret (v := .tuple #[.string nilB, .string nilB, .bool r]) (by simp [results, Tryd.results19, go_sem, nilB]) rfl ⟨rfl, HB2.out⟩
set_option maxHeartbeats 4000000 in
set_option maxRecDepth 100000 in
theorem laid_same_no (h : LIn W b mb φ A c own ins fuel Aw cw w) (h0 : 2 < w.length) (hv : v0 w = [115, 97, 109, 101]) {s : ByteArray} (hf : fileV own ins (wd w 1) = some s) (hz : fileV own ins (wd w 2) = none) :
    Calls Tryd.prog 19 #[.pointer (some ⟨b, 0, none⟩), .slice Aw w.length cw] W (LaidEnd W (laidV own ins w)) := by
  have hr : laidV own ins w = (nilB, nilB, (fileV own ins (wd w 2)).isSome && (hadV own ins (wd w 2)).toList == s.toList) := by unfold laidV; rw [hv]; show (match fileV own ins (wd w 1) with | none => (nilB, nilB, false) | some s => _) = _; rw [hf]; rfl
  rw [hr]
  have hcw := h.cap
  have hI0 : (0 : Int) < (w.length : Int) := by omega
  have hI1 : (1 : Int) < (w.length : Int) := by omega
  have hI2 : (2 : Int) < (w.length : Int) := by omega
  have hN0 : 0 < w.length := by omega
  have hI9 : (2 : Int) ≤ (w.length : Int) := by omega
  obtain ⟨ad, e, hat⟩ := strs_at h.C (k := 0) (by omega)
  subst e
  have hv0 : v0 w = w[0].toList := by unfold v0; rw [show (0 : Int) = ((0 : Nat) : Int) from rfl, rdS (by omega)]
  have hw1 : wd w 1 = w[1] := wd_at (by omega)
  try rw [hw1]
  rw [hw1] at hf
  obtain ⟨ad1, e1, hat10⟩ := strs_at h.C (k := 1) (by omega)
  obtain rfl : ad = ad1 := by injection e1
  have hat1 : W.cell? ⟨ad.block, ad.off + 1, none⟩ = some (.string w[1]) := hat10
  have hs1 : w[1].size ≤ 100000 := Nat.le_trans (h.ws _ (List.getElem_mem (by omega))) (by decide)
  have HS1 := Lib.hid hs1
  clear hat10 hw1
  generalize w[1] = y at hat1 hs1 HS1 hf ⊢
  have hw2 : wd w 2 = w[2] := wd_at (by omega)
  try rw [hw2]
  rw [hw2] at hz
  obtain ⟨ad2, e2, hat20⟩ := strs_at h.C (k := 2) (by omega)
  obtain rfl : ad = ad2 := by injection e2
  have hat2 : W.cell? ⟨ad.block, ad.off + 2, none⟩ = some (.string w[2]) := hat20
  have hs2 : w[2].size ≤ 100000 := Nat.le_trans (h.ws _ (List.getElem_mem (by omega))) (by decide)
  have HS2 := Lib.hid hs2
  clear hat20 hw2
  generalize w[2] = z at hat2 hs2 HS2 hz ⊢
  rw [hv0] at hv
  generalize w[0] = x at hat hv
  have q_true : (x.toList == [116, 114, 117, 101]) = false := by rw [hv]; rfl
  have q_fail : (x.toList == [102, 97, 105, 108]) = false := by rw [hv]; rfl
  have q_rm : (x.toList == [114, 109]) = false := by rw [hv]; rfl
  have q_say : (x.toList == [115, 97, 121]) = false := by rw [hv]; rfl
  have q_more : (x.toList == [109, 111, 114, 101]) = false := by rw [hv]; rfl
  have q_touch : (x.toList == [116, 111, 117, 99, 104]) = false := by rw [hv]; rfl
  have q_concat : (x.toList == [99, 111, 110, 99, 97, 116]) = false := by rw [hv]; rfl
  have q_mv : (x.toList == [109, 118]) = false := by rw [hv]; rfl
  have q_same : (x.toList == [115, 97, 109, 101]) = true := by rw [hv]; rfl
  have q_has : (x.toList == [104, 97, 115]) = false := by rw [hv]; rfl
  have hat0 : W.cell? ad = some (.string x) := by simpa [Addr.add] using hat
  clear hat hv hv0
  have HF : Hid (∀ W', Below W.heap.size W W' → ∀ nm : ByteArray, nm.size ≤ 100000 → Calls Tryd.prog 30 #[.pointer (some ⟨b, 0, none⟩), .string nm] W' (FileEnd W' (fileV own ins nm))) := fun W' hb nm hn => file_call (h.h.below hb) nm hn
  have HH : Hid (∀ W', Below W.heap.size W W' → ∀ nm : ByteArray, nm.size ≤ 100000 → Calls Tryd.prog 29 #[.pointer (some ⟨b, 0, none⟩), .string nm] W' fun e w' => e = .returned (.string (hadV own ins nm)) ∧ Below W'.heap.size W' w') := fun W' hb nm hn => h.had nm hn W' hb
  have HY : Hid (hadV own ins y = s) := by rw [Hid]; unfold hadV; rw [hf]; rfl
  have HFy := Lib.hid hf
  have HFz := Lib.hid hz
  rw [hz]
  clear hf hz h hs1 hs2
  go_enter Tryd.func19, Tryd.ntmps19
  go_wp2_with (first | (go_at_call_of 30 y; refine (HF.out _ (Below.refl _ W) y HS1.out).mono ?_; rw [HFy.out]; rintro e w1 ⟨⟨ad1_, rfl, -⟩, hb⟩; have HB1 := Lib.hid (hb); clear hb; have g1_0 := (HB1.out.cell (p := ad) (cell_lt hat0)).trans hat0; have g1_1 := (HB1.out.cell (p := ⟨ad.block, ad.off + 1, none⟩) (cell_lt hat1)).trans hat1; have g1_2 := (HB1.out.cell (p := ⟨ad.block, ad.off + 2, none⟩) (cell_lt hat2)).trans hat2) | (go_at_call_of 29 y; refine (HH.out _ HB1.out y HS1.out).mono ?_; rw [HY.out]; rintro e w2 ⟨rfl, hb⟩; have HB2 := Lib.hid (HB1.out.trans (hb.mono HB1.out.size)); clear hb; have g2_0 := (HB2.out.cell (p := ad) (cell_lt hat0)).trans hat0; have g2_1 := (HB2.out.cell (p := ⟨ad.block, ad.off + 1, none⟩) (cell_lt hat1)).trans hat1; have g2_2 := (HB2.out.cell (p := ⟨ad.block, ad.off + 2, none⟩) (cell_lt hat2)).trans hat2) | (go_at_call_of 30 z; refine (HF.out _ HB2.out z HS2.out).mono ?_; rw [HFz.out]; rintro e w3 ⟨rfl, hb⟩; have HB3 := Lib.hid (HB2.out.trans (hb.mono HB2.out.size)); clear hb; have g3_0 := (HB3.out.cell (p := ad) (cell_lt hat0)).trans hat0; have g3_1 := (HB3.out.cell (p := ⟨ad.block, ad.off + 1, none⟩) (cell_lt hat1)).trans hat1; have g3_2 := (HB3.out.cell (p := ⟨ad.block, ad.off + 2, none⟩) (cell_lt hat2)).trans hat2))
  exact bodyPost_ret (v := .tuple #[.string nilB, .string nilB, .bool false]) (by simp [results, Tryd.results19, go_sem, nilB]) rfl ⟨rfl, HB3.out⟩
set_option maxHeartbeats 4000000 in
set_option maxRecDepth 100000 in
theorem laid_same (h : LIn W b mb φ A c own ins fuel Aw cw w) (h0 : 2 < w.length) (hv : v0 w = [115, 97, 109, 101]) {s : ByteArray} {t : ByteArray} (hf : fileV own ins (wd w 1) = some s) (hz : fileV own ins (wd w 2) = some t) :
    Calls Tryd.prog 19 #[.pointer (some ⟨b, 0, none⟩), .slice Aw w.length cw] W (LaidEnd W (laidV own ins w)) := by
  have hr : laidV own ins w = (nilB, nilB, (fileV own ins (wd w 2)).isSome && (hadV own ins (wd w 2)).toList == s.toList) := by unfold laidV; rw [hv]; show (match fileV own ins (wd w 1) with | none => (nilB, nilB, false) | some s => _) = _; rw [hf]; rfl
  rw [hr]
  have hcw := h.cap
  have hI0 : (0 : Int) < (w.length : Int) := by omega
  have hI1 : (1 : Int) < (w.length : Int) := by omega
  have hI2 : (2 : Int) < (w.length : Int) := by omega
  have hN0 : 0 < w.length := by omega
  have hI9 : (2 : Int) ≤ (w.length : Int) := by omega
  obtain ⟨ad, e, hat⟩ := strs_at h.C (k := 0) (by omega)
  subst e
  have hv0 : v0 w = w[0].toList := by unfold v0; rw [show (0 : Int) = ((0 : Nat) : Int) from rfl, rdS (by omega)]
  have hw1 : wd w 1 = w[1] := wd_at (by omega)
  try rw [hw1]
  rw [hw1] at hf
  obtain ⟨ad1, e1, hat10⟩ := strs_at h.C (k := 1) (by omega)
  obtain rfl : ad = ad1 := by injection e1
  have hat1 : W.cell? ⟨ad.block, ad.off + 1, none⟩ = some (.string w[1]) := hat10
  have hs1 : w[1].size ≤ 100000 := Nat.le_trans (h.ws _ (List.getElem_mem (by omega))) (by decide)
  have HS1 := Lib.hid hs1
  clear hat10 hw1
  generalize w[1] = y at hat1 hs1 HS1 hf ⊢
  have hw2 : wd w 2 = w[2] := wd_at (by omega)
  try rw [hw2]
  rw [hw2] at hz
  obtain ⟨ad2, e2, hat20⟩ := strs_at h.C (k := 2) (by omega)
  obtain rfl : ad = ad2 := by injection e2
  have hat2 : W.cell? ⟨ad.block, ad.off + 2, none⟩ = some (.string w[2]) := hat20
  have hs2 : w[2].size ≤ 100000 := Nat.le_trans (h.ws _ (List.getElem_mem (by omega))) (by decide)
  have HS2 := Lib.hid hs2
  clear hat20 hw2
  generalize w[2] = z at hat2 hs2 HS2 hz ⊢
  rw [hv0] at hv
  generalize w[0] = x at hat hv
  have q_true : (x.toList == [116, 114, 117, 101]) = false := by rw [hv]; rfl
  have q_fail : (x.toList == [102, 97, 105, 108]) = false := by rw [hv]; rfl
  have q_rm : (x.toList == [114, 109]) = false := by rw [hv]; rfl
  have q_say : (x.toList == [115, 97, 121]) = false := by rw [hv]; rfl
  have q_more : (x.toList == [109, 111, 114, 101]) = false := by rw [hv]; rfl
  have q_touch : (x.toList == [116, 111, 117, 99, 104]) = false := by rw [hv]; rfl
  have q_concat : (x.toList == [99, 111, 110, 99, 97, 116]) = false := by rw [hv]; rfl
  have q_mv : (x.toList == [109, 118]) = false := by rw [hv]; rfl
  have q_same : (x.toList == [115, 97, 109, 101]) = true := by rw [hv]; rfl
  have q_has : (x.toList == [104, 97, 115]) = false := by rw [hv]; rfl
  have hat0 : W.cell? ad = some (.string x) := by simpa [Addr.add] using hat
  clear hat hv hv0
  have HF : Hid (∀ W', Below W.heap.size W W' → ∀ nm : ByteArray, nm.size ≤ 100000 → Calls Tryd.prog 30 #[.pointer (some ⟨b, 0, none⟩), .string nm] W' (FileEnd W' (fileV own ins nm))) := fun W' hb nm hn => file_call (h.h.below hb) nm hn
  have HH : Hid (∀ W', Below W.heap.size W W' → ∀ nm : ByteArray, nm.size ≤ 100000 → Calls Tryd.prog 29 #[.pointer (some ⟨b, 0, none⟩), .string nm] W' fun e w' => e = .returned (.string (hadV own ins nm)) ∧ Below W'.heap.size W' w') := fun W' hb nm hn => h.had nm hn W' hb
  have HY : Hid (hadV own ins y = s) := by rw [Hid]; unfold hadV; rw [hf]; rfl
  have HFy := Lib.hid hf
  have HFz := Lib.hid hz
  have HZ : Hid (hadV own ins z = t) := by rw [Hid]; unfold hadV; rw [hz]; rfl
  rw [hz, HZ.out]
  clear hf hz h hs1 hs2
  go_enter Tryd.func19, Tryd.ntmps19
  go_wp2_with (first | (go_at_call_of 30 y; refine (HF.out _ (Below.refl _ W) y HS1.out).mono ?_; rw [HFy.out]; rintro e w1 ⟨⟨ad1_, rfl, -⟩, hb⟩; have HB1 := Lib.hid (hb); clear hb; have g1_0 := (HB1.out.cell (p := ad) (cell_lt hat0)).trans hat0; have g1_1 := (HB1.out.cell (p := ⟨ad.block, ad.off + 1, none⟩) (cell_lt hat1)).trans hat1; have g1_2 := (HB1.out.cell (p := ⟨ad.block, ad.off + 2, none⟩) (cell_lt hat2)).trans hat2) | (go_at_call_of 29 y; refine (HH.out _ HB1.out y HS1.out).mono ?_; rw [HY.out]; rintro e w2 ⟨rfl, hb⟩; have HB2 := Lib.hid (HB1.out.trans (hb.mono HB1.out.size)); clear hb; have g2_0 := (HB2.out.cell (p := ad) (cell_lt hat0)).trans hat0; have g2_1 := (HB2.out.cell (p := ⟨ad.block, ad.off + 1, none⟩) (cell_lt hat1)).trans hat1; have g2_2 := (HB2.out.cell (p := ⟨ad.block, ad.off + 2, none⟩) (cell_lt hat2)).trans hat2) | (go_at_call_of 29 z; refine (HH.out _ HB3.out z HS2.out).mono ?_; rw [HZ.out]; rintro e w4 ⟨rfl, hb⟩; have HB4 := Lib.hid (HB3.out.trans (hb.mono HB3.out.size)); clear hb; have g4_0 := (HB4.out.cell (p := ad) (cell_lt hat0)).trans hat0; have g4_1 := (HB4.out.cell (p := ⟨ad.block, ad.off + 1, none⟩) (cell_lt hat1)).trans hat1; have g4_2 := (HB4.out.cell (p := ⟨ad.block, ad.off + 2, none⟩) (cell_lt hat2)).trans hat2) | (go_at_call_of 30 z; refine (HF.out _ HB2.out z HS2.out).mono ?_; rw [HFz.out]; rintro e w3 ⟨⟨ad3_, rfl, -⟩, hb⟩; have HB3 := Lib.hid (HB2.out.trans (hb.mono HB2.out.size)); clear hb; have g3_0 := (HB3.out.cell (p := ad) (cell_lt hat0)).trans hat0; have g3_1 := (HB3.out.cell (p := ⟨ad.block, ad.off + 1, none⟩) (cell_lt hat1)).trans hat1; have g3_2 := (HB3.out.cell (p := ⟨ad.block, ad.off + 2, none⟩) (cell_lt hat2)).trans hat2))
  exact bodyPost_ret (v := .tuple #[.string nilB, .string nilB, .bool (t.toList == s.toList)]) (by simp [results, Tryd.results19, go_sem, nilB]) rfl ⟨rfl, HB4.out⟩
theorem lnL_mem (s : ByteArray) : ∀ x ∈ lnL s, x.length ≤ s.size := by
  have hg : ∀ (l cur : List UInt8), ∀ x ∈ Hand.linesGo cur l, x.length ≤ cur.length + l.length := by
    intro l
    induction l with
    | nil =>
      intro cur x hx
      rw [Hand.linesGo] at hx
      split at hx
      · cases hx
      · rw [List.mem_singleton.1 hx]; simp
    | cons c t ih =>
      intro cur x hx
      rw [Hand.linesGo] at hx
      split at hx
      · rcases List.mem_cons.1 hx with hx | hx
        · rw [hx]; simp
        · have := ih [] x hx
          simp only [List.length_nil, List.length_cons] at this ⊢
          omega
      · have := ih (c :: cur) x hx
        simp only [List.length_cons] at this ⊢
        omega
  intro x hx
  unfold lnL Hand.linesV at hx
  obtain ⟨y, hy, rfl⟩ := List.mem_map.1 hx
  obtain ⟨z, hz, rfl⟩ := List.mem_map.1 hy
  have := hg _ [] z hz
  have e : s.data.toList.length = s.size := by rw [Array.length_toList]; rfl
  rw [e] at this
  simpa [Hand.bytesOf] using this
set_option maxHeartbeats 4000000 in
set_option maxRecDepth 100000 in
theorem laid_turn (h : LIn W b mb φ A c own ins fuel Aw cw w) (h0 : 2 < w.length) (n_true : v0 w ≠ [116, 114, 117, 101]) (n_fail : v0 w ≠ [102, 97, 105, 108]) (n_rm : v0 w ≠ [114, 109]) (n_say : v0 w ≠ [115, 97, 121]) (n_more : v0 w ≠ [109, 111, 114, 101]) (n_touch : v0 w ≠ [116, 111, 117, 99, 104]) (n_concat : v0 w ≠ [99, 111, 110, 99, 97, 116]) (n_mv : v0 w ≠ [109, 118]) (n_same : v0 w ≠ [115, 97, 109, 101]) (n_has : v0 w ≠ [104, 97, 115]) {s : ByteArray} (hf : fileV own ins (wd w 1) = some s) :
    Calls Tryd.prog 19 #[.pointer (some ⟨b, 0, none⟩), .slice Aw w.length cw] W (LaidEnd W (laidV own ins w)) := by
  have hr : laidV own ins w = (wd w 2, turnedV (v0 w) s, true) := by unfold laidV; simp only [if_neg n_true, if_neg n_fail, if_neg n_rm, if_neg n_say, if_neg n_more, if_neg n_touch, if_neg n_concat, if_neg n_mv, if_neg n_same, if_neg n_has]; rw [hf]
  rw [hr]
  have hcw := h.cap
  have hI0 : (0 : Int) < (w.length : Int) := by omega
  have hI1 : (1 : Int) < (w.length : Int) := by omega
  have hI2 : (2 : Int) < (w.length : Int) := by omega
  have hN0 : 0 < w.length := by omega
  have hI9 : (2 : Int) ≤ (w.length : Int) := by omega
  obtain ⟨ad, e, hat⟩ := strs_at h.C (k := 0) (by omega)
  subst e
  have hv0 : v0 w = w[0].toList := by unfold v0; rw [show (0 : Int) = ((0 : Nat) : Int) from rfl, rdS (by omega)]
  have hw1 : wd w 1 = w[1] := wd_at (by omega)
  try rw [hw1]
  rw [hw1] at hf
  obtain ⟨ad1, e1, hat10⟩ := strs_at h.C (k := 1) (by omega)
  obtain rfl : ad = ad1 := by injection e1
  have hat1 : W.cell? ⟨ad.block, ad.off + 1, none⟩ = some (.string w[1]) := hat10
  have hs1 : w[1].size ≤ 100000 := Nat.le_trans (h.ws _ (List.getElem_mem (by omega))) (by decide)
  have HS1 := Lib.hid hs1
  clear hat10 hw1
  generalize w[1] = y at hat1 hs1 HS1 hf ⊢
  have hw2 : wd w 2 = w[2] := wd_at (by omega)
  try rw [hw2]
  obtain ⟨ad2, e2, hat20⟩ := strs_at h.C (k := 2) (by omega)
  obtain rfl : ad = ad2 := by injection e2
  have hat2 : W.cell? ⟨ad.block, ad.off + 2, none⟩ = some (.string w[2]) := hat20
  have hs2 : w[2].size ≤ 100000 := Nat.le_trans (h.ws _ (List.getElem_mem (by omega))) (by decide)
  have HS2 := Lib.hid hs2
  clear hat20 hw2
  generalize w[2] = z at hat2 hs2 HS2  ⊢
  rw [hv0] at n_true n_fail n_rm n_say n_more n_touch n_concat n_mv n_same n_has
  try rw [hv0]
  generalize w[0] = x at hat n_true n_fail n_rm n_say n_more n_touch n_concat n_mv n_same n_has ⊢
  have q_true : (x.toList == [116, 114, 117, 101]) = false := beq_eq_false_iff_ne.2 n_true
  have q_fail : (x.toList == [102, 97, 105, 108]) = false := beq_eq_false_iff_ne.2 n_fail
  have q_rm : (x.toList == [114, 109]) = false := beq_eq_false_iff_ne.2 n_rm
  have q_say : (x.toList == [115, 97, 121]) = false := beq_eq_false_iff_ne.2 n_say
  have q_more : (x.toList == [109, 111, 114, 101]) = false := beq_eq_false_iff_ne.2 n_more
  have q_touch : (x.toList == [116, 111, 117, 99, 104]) = false := beq_eq_false_iff_ne.2 n_touch
  have q_concat : (x.toList == [99, 111, 110, 99, 97, 116]) = false := beq_eq_false_iff_ne.2 n_concat
  have q_mv : (x.toList == [109, 118]) = false := beq_eq_false_iff_ne.2 n_mv
  have q_same : (x.toList == [115, 97, 109, 101]) = false := beq_eq_false_iff_ne.2 n_same
  have q_has : (x.toList == [104, 97, 115]) = false := beq_eq_false_iff_ne.2 n_has
  have hat0 : W.cell? ad = some (.string x) := by simpa [Addr.add] using hat
  clear hat n_true n_fail n_rm n_say n_more n_touch n_concat n_mv n_same n_has hv0
  have HF : Hid (∀ W', Below W.heap.size W W' → ∀ nm : ByteArray, nm.size ≤ 100000 → Calls Tryd.prog 30 #[.pointer (some ⟨b, 0, none⟩), .string nm] W' (FileEnd W' (fileV own ins nm))) := fun W' hb nm hn => file_call (h.h.below hb) nm hn
  have HH : Hid (∀ W', Below W.heap.size W W' → ∀ nm : ByteArray, nm.size ≤ 100000 → Calls Tryd.prog 29 #[.pointer (some ⟨b, 0, none⟩), .string nm] W' fun e w' => e = .returned (.string (hadV own ins nm)) ∧ Below W'.heap.size W' w') := fun W' hb nm hn => h.had nm hn W' hb
  have HY : Hid (hadV own ins y = s) := by rw [Hid]; unfold hadV; rw [hf]; rfl
  have HFy := Lib.hid hf
  have hss : s.size ≤ 10000 := file_size h.own h.ins y s hf
  have HG := Lib.hid h.gl
  have HC : Hid (∀ W', Below W.heap.size W W' → Calls Tryd.prog 32 #[.string x, .string s] W' fun e w' => e = .returned (.string (turnedV x.toList s)) ∧ Below W'.heap.size W' w') := fun W' hb => turned_call x s (by omega) (fun q hq => Nat.le_trans (lnL_mem s q hq) (by omega)) W' (HG.out.below hb)
  generalize turnedV x.toList s = r at HC ⊢
  clear hf h hs1 hs2
  go_enter Tryd.func19, Tryd.ntmps19
  go_upto_region 33 with (first | (go_at_call 30; refine (HF.out _ (Below.refl _ W) y HS1.out).mono ?_; rw [HFy.out]; rintro e w1 ⟨⟨ad1_, rfl, -⟩, hb⟩; have HB1 := Lib.hid (hb); clear hb; have g1_0 := (HB1.out.cell (p := ad) (cell_lt hat0)).trans hat0; have g1_1 := (HB1.out.cell (p := ⟨ad.block, ad.off + 1, none⟩) (cell_lt hat1)).trans hat1; have g1_2 := (HB1.out.cell (p := ⟨ad.block, ad.off + 2, none⟩) (cell_lt hat2)).trans hat2) | (go_at_call 29; refine (HH.out _ HB1.out y HS1.out).mono ?_; rw [HY.out]; rintro e w2 ⟨rfl, hb⟩; have HB2 := Lib.hid (HB1.out.trans (hb.mono HB1.out.size)); clear hb; have g2_0 := (HB2.out.cell (p := ad) (cell_lt hat0)).trans hat0; have g2_1 := (HB2.out.cell (p := ⟨ad.block, ad.off + 1, none⟩) (cell_lt hat1)).trans hat1; have g2_2 := (HB2.out.cell (p := ⟨ad.block, ad.off + 2, none⟩) (cell_lt hat2)).trans hat2))
  have HB2d := Lib.hid HB2.out.drew
  have HS : Hid (∀ W', Below W.heap.size W W' → (W'.cell? ad = some (.string x) ∧ W'.cell? ⟨ad.block, ad.off + 2, none⟩ = some (.string z)) ∧ Hid (Below W.heap.size W W')) := fun W' hb => ⟨⟨(hb.cell (p := ad) (cell_lt hat0)).trans hat0, (hb.cell (p := ⟨ad.block, ad.off + 2, none⟩) (cell_lt hat2)).trans hat2⟩, hb⟩
  go_region_held3 (fun W' => (W'.cell? ad = some (.string x) ∧ W'.cell? ⟨ad.block, ad.off + 2, none⟩ = some (.string z)) ∧ Hid (Below W.heap.size W W')) (first | exact HS.out _ HB9.out | exact HS.out _ HB2d.out) (first | (go_at_call 32; refine (HC.out _ HB2d.out).mono ?_; rintro e w9 ⟨rfl, hb⟩; have HB9 := Lib.hid (HB2d.out.trans (hb.mono HB2d.out.size)); clear hb))
  all_goals (go_wp2; exact bodyPost_ret (v := .tuple #[.string z, .string r, .bool true]) (by simp [results, Tryd.results19, go_sem, nilB]) rfl ⟨rfl, HB9.out⟩)
end
end Go.Proofs.YtnjjnfbkilgidaaDoor.Fr
/- recipe: what a command lays: whatever it is. -/
namespace Go.Proofs.YtnjjnfbkilgidaaDoor.Fr
open Go.RowKit Go.Proofs.YtnjjnfbkilgidaaDoor.F Go.Proofs.YtnjjnfbkilgidaaDoorW.PrintWords
set_option linter.unusedVariables false
set_option linter.unusedSimpArgs false
theorem laid_call {W : World} {b mb c cw : Nat} {φ : Phi} {A Aw : Option Addr} {own : List Ob} {ins : List Fi} {fuel : Int} {w : List ByteArray} (h : LIn W b mb φ A c own ins fuel Aw cw w) (h0 : 0 < w.length) (hr : rightV w = true) :
    Calls Tryd.prog 19 #[.pointer (some ⟨b, 0, none⟩), .slice Aw w.length cw] W (LaidEnd W (laidV own ins w)) := by
  have hn := right_names hr
  rcases names_cases _ _ hn with ⟨c, hl, -⟩ | ⟨c, hl, -⟩ | ⟨c, hl, -⟩ | ⟨c, hl, -⟩ | ⟨c, hl, -⟩ | ⟨c, hl, -⟩
  · have hlen : 2 < w.length := by omega
    by_cases hmv : v0 w = [109, 118]
    · exact laid_mv h hlen hmv
    by_cases hsame : v0 w = [115, 97, 109, 101]
    · cases hf : fileV own ins (wd w 1) with
      | none => refine laid_no h (by omega) ?_ ?_ ?_ ?_ ?_ ?_ ?_ ?_ hf <;> rw [hsame] <;> decide
      | some s =>
        cases hz : fileV own ins (wd w 2) with
        | none => exact laid_same_no h hlen hsame hf hz
        | some t => exact laid_same h hlen hsame hf hz
    have c2 : v0 w = [99, 111, 112, 121] ∨ v0 w = [117, 112, 112, 101, 114] ∨ v0 w = [108, 111, 119, 101, 114] ∨ v0 w = [114, 101, 118, 101, 114, 115, 101] ∨ v0 w = [115, 111, 114, 116] := by
      rcases c with c | c | c | c | c | c | c
      · exact .inl c
      · exact .inr (.inl c)
      · exact .inr (.inr (.inl c))
      · exact .inr (.inr (.inr (.inl c)))
      · exact .inr (.inr (.inr (.inr c)))
      · exact absurd c hmv
      · exact absurd c hsame
    cases hf : fileV own ins (wd w 1) with
    | none => rcases c2 with c | c | c | c | c <;> (refine laid_no h (by omega) ?_ ?_ ?_ ?_ ?_ ?_ ?_ ?_ hf <;> rw [c] <;> decide)
    | some s => rcases c2 with c | c | c | c | c <;> (refine laid_turn h hlen ?_ ?_ ?_ ?_ ?_ ?_ ?_ ?_ ?_ ?_ hf <;> rw [c] <;> decide)
  · have hlen : 2 < w.length := by omega
    cases hf : fileV own ins (wd w 1) with
    | none => refine laid_no h (by omega) ?_ ?_ ?_ ?_ ?_ ?_ ?_ ?_ hf <;> rw [c] <;> decide
    | some s => exact laid_has h hlen c hf
  · exact laid_concat h (by omega) c
  · rcases c with c | c
    · exact laid_say h (by omega) c
    · exact laid_more h (by omega) c
  · rcases c with c | c
    · exact laid_touch h (by omega) c
    · exact laid_rm h (by omega) c
  · rcases c with c | c
    · exact laid_true h h0 c
    · exact laid_fail h h0 c
end Go.Proofs.YtnjjnfbkilgidaaDoor.Fr
/- recipe: a command is done. -/
namespace Go.Proofs.YtnjjnfbkilgidaaDoor.Fr
open Go.RowKit Go.Proofs.YtnjjnfbkilgidaaDoor.F Go.Proofs.YtnjjnfbkilgidaaDoorW.PrintWords Go.Maps
set_option linter.unusedVariables false
set_option linter.unusedSimpArgs false
/-- What do is called with: a bench that was made since W0. -/
structure DIn (W0 W : World) (b mb : Nat) (φ : Phi) (A : Option Addr) (c : Nat) (own : List Ob) (ins : List Fi) (fuel : Int) : Prop where
  h : BnAt W b mb φ A c own ins fuel
  bel : Below W0.heap.size W0 W
  b0 : W0.heap.size ≤ b
  m0 : W0.heap.size ≤ mb
  C0 : Kd.C k31 W0 A ins.length ins
  gl : Gl W0
  few : own.length ≤ 100000
  low : -1 ≤ fuel
  high : fuel ≤ 10000
  own : ∀ f ∈ own, f.f1.size ≤ 10000
  ins : ∀ f ∈ ins, f.f1.size ≤ 10000
section
variable {W0 W W' : World} {b mb c : Nat} {φ : Phi} {A : Option Addr} {own : List Ob} {ins : List Fi} {fuel : Int}
theorem DIn.below (h : DIn W0 W b mb φ A c own ins fuel) (hb : Below W.heap.size W W') : DIn W0 W' b mb φ A c own ins fuel :=
  ⟨h.h.below hb, h.bel.trans (hb.mono h.bel.size), h.b0, h.m0, h.C0, h.gl, h.few, h.low, h.high, h.own, h.ins⟩
theorem DIn.ne (h : DIn W0 W b mb φ A c own ins fuel) : b ≠ mb := by
  intro e
  subst e
  obtain ⟨es, clock, hb, _⟩ := h.h.img
  rw [h.h.box] at hb
  injection hb with hb
  cases hb
theorem DIn.phi_m (h : DIn W0 W b mb φ A c own ins fuel) : φ mb = none := by
  cases e : φ mb with
  | none => rfl
  | some f =>
    obtain ⟨es, clock, hb, _⟩ := h.h.img
    rw [h.h.bx mb f e] at hb
    injection hb with hb
    cases hb
theorem DIn.phi_b (h : DIn W0 W b mb φ A c own ins fuel) : φ b = none := by
  cases e : φ b with
  | none => rfl
  | some f =>
    have hb := h.h.box
    rw [h.h.bx b f e] at hb
    injection hb with hb
    injection hb with _ h2 _
    exact absurd h2 (by decide)
/-- What is left: what is wrong, and a bench. -/
def DoEnd (W0 : World) (b mb : Nat) (A : Option Addr) (c : Nat) (ins : List Fi) (r : Int × List Ob × Int) (e : Ending) (w' : World) : Prop :=
  e = .returned (.int .i64 r.1) ∧ ∃ φ', BnAt w' b mb φ' A c r.2.1 ins r.2.2 ∧ Below W0.heap.size W0 w'
/-- The fuel is written, and a text laid in a box of its own. -/
theorem DIn.spend (h : DIn W0 W b mb φ A c own ins fuel) (f' : Int) (s : ByteArray) : BnAt ((W.setCell ⟨b, 2, none⟩ (.int .i64 f')).alloc (.cells #[.string s] 9)) b mb (φ.add W.heap.size s) A c own ins f' ∧ Below W0.heap.size W0 ((W.setCell ⟨b, 2, none⟩ (.int .i64 f')).alloc (.cells #[.string s] 9)) := by
  have hC : Chg (fun k => k = b) W ((W.setCell ⟨b, 2, none⟩ (.int .i64 f')).alloc (.cells #[.string s] 9)) := ((Chg.refl (fun k => k = b) W).setCell (p := ⟨b, 2, none⟩) (fun _ => rfl) _).alloc _
  have hB : Below W0.heap.size W0 ((W.setCell ⟨b, 2, none⟩ (.int .i64 f')).alloc (.cells #[.string s] 9)) := h.bel.trans (hC.to_below h.bel.size (fun k e => by subst e; exact h.b0))
  refine ⟨⟨?_, ?_, ?_, Kd.C_below h.C0 hB, h.h.len⟩, hB⟩
  · rw [Below.heap_alloc _ _ _ (by simpa using h.h.lt), heap_setCell_same W b 2 _ _ _ h.h.box]
    rfl
  · have hi : Img ((W.setCell ⟨b, 2, none⟩ (.int .i64 f')).alloc (.cells #[.string s] 9)) φ mb own := h.h.img.chg hC (fun e => h.ne e.symm)
    exact hi.ext fun q f e => by
      have := h.h.bx.lt (q := q) (by rw [e]; simp)
      unfold Phi.add
      rw [if_neg (by omega)]
      exact e
  · intro q f e
    unfold Phi.add at e
    split at e
    next hq =>
      subst hq
      have := World.alloc_heap_new (W.setCell ⟨b, 2, none⟩ (.int .i64 f')) (.cells #[.string s] 9)
      rw [show (W.setCell ⟨b, 2, none⟩ (.int .i64 f')).heap.size = W.heap.size by simp] at this
      rw [this]
      injection e with e
      rw [e]
    next hq =>
      have hlt := h.h.bx.lt (q := q) (by rw [e]; simp)
      exact (hC.block q hlt (fun e2 => by subst e2; rw [h.phi_b] at e; cases e)).trans (h.h.bx q f e)
theorem BnAt.turned (h : BnAt W b mb φ A c own ins fuel) (hne : b ≠ mb) (hphi : φ mb = none) (hB : Below W0.heap.size W0 W) (m0 : W0.heap.size ≤ mb) (C0 : Kd.C k31 W0 A ins.length ins) {own' : List Ob} (hi : Img W' φ mb own') (hC : Chg (fun k => k = mb) W W') : BnAt W' b mb φ A c own' ins fuel ∧ Below W0.heap.size W0 W' := by
  have hB2 : Below W0.heap.size W0 W' := hB.trans (hC.to_below hB.size (fun k e => by subst e; exact m0))
  exact ⟨⟨(hC.block b h.lt hne).trans h.box, hi, h.bx.chg hC (fun q e e2 => by subst e2; exact e hphi), Kd.C_below C0 hB2, h.len⟩, hB2⟩
end
theorem R_own {w : World} {base : Nat} {v : Value} {xs : List ByteArray} (h : w.ownsRow base 9 1 v xs.length (xs.map Value.string)) : ∃ A1 c1, v = .slice A1 xs.length c1 ∧ xs.length ≤ c1 ∧ Kd.C Kd.string w A1 xs.length xs := Kd.R_reads (Hand.R_strs h)
theorem newOwn (W : World) (V : ByteArray) : (W.alloc (.cells #[.string V] 9)).ownsRow W.heap.size 9 1 (.slice (some ⟨W.heap.size, 0, none⟩) 1 1) 1 [.string V] :=
  ⟨rfl, .inr ⟨_, 1, #[.string V], rfl, Nat.le_refl _, World.alloc_heap_new _ _, Nat.le_refl _, by decide, rfl, rfl⟩⟩
theorem app_end {W w1 : World} {V : ByteArray} {r : List ByteArray} {v1 : Value} {n : Nat} (hn : n = r.length) (h1 : w1.ownsRow W.heap.size 9 1 v1 (1 + n) ([.string V] ++ r.map Value.string)) (h2 : (W.alloc (.cells #[.string V] 9)).grownBy w1 (Value.slice (some ⟨W.heap.size, 0, none⟩) 1 1).ownBlock) :
    ∃ A1 c1, v1 = .slice A1 (V :: r).length c1 ∧ (V :: r).length ≤ c1 ∧ Kd.C Kd.string w1 A1 (V :: r).length (V :: r) ∧ Below W.heap.size W w1 := by
  subst hn
  have e : 1 + r.length = (V :: r).length := by rw [List.length_cons]; omega
  rw [e] at h1
  obtain ⟨A1, c1, h3, h4, h5⟩ := R_own (xs := V :: r) h1
  exact ⟨A1, c1, h3, h4, h5, (newBelow W _).trans (below_grown h2 (Nat.le_refl _) (by rw [World.size_alloc]; omega))⟩
theorem not_bench {W : World} {b mb c : Nat} {φ : Phi} {A : Option Addr} {own : List Ob} {ins : List Fi} {fuel : Int} (h : BnAt W b mb φ A c own ins fuel) {p : Addr} {y : ByteArray} (hp : p.spot = none) (hc : W.cell? p = some (.string y)) : p.block ≠ b := by
  obtain ⟨pb, po, pe⟩ := p
  intro e
  simp only at e hp
  subst e hp
  have hb := h.box
  simp only [World.cell?, hb] at hc
  match po, hc with
  | 0, hc => simp at hc
  | 1, hc => simp at hc
  | 2, hc => simp at hc
  | n + 3, hc => simp at hc
theorem trim_at (x : ByteArray) : (⟨(Lib.trimPrefix x.data.toList [64]).toArray⟩ : ByteArray).toList = if x.toList.head? = some 64 then x.toList.drop 1 else x.toList := by
  rw [ByteArray.toList_eq, ByteArray.toList_eq]
  show Lib.trimPrefix x.data.toList [64] = _
  unfold Lib.trimPrefix
  cases x.data.toList with
  | nil => rfl
  | cons a t =>
    by_cases h : a = 64
    · subst h; simp [Lib.hasPrefix]
    · have : ¬ (64 : UInt8) = a := fun e => h e.symm
      simp [Lib.hasPrefix, h, this]
theorem dash_at (V : ByteArray) (h1 : 1 < V.size) (hh : 0 < V.size) : (((V[0]'hh).toNat : Int) == 45) = (if 1 < V.toList.length ∧ V.toList.head? = some 45 then (V.toList.drop 1, true) else (V.toList, false)).2 := by
  have hl : V.toList.length = V.size := by rw [ByteArray.toList_eq, Array.length_toList]; rfl
  have hz : V.toList.head? = some V[0] := by
    rw [ByteArray.toList_eq, List.head?_eq_getElem?, Array.getElem?_toList]
    have : V.data[0]? = some V.data[0] := Array.getElem?_eq_getElem hh
    rw [this]
    rfl
  rw [hl, hz]
  by_cases h : V[0] = 45
  · rw [if_pos ⟨h1, by rw [h]⟩, h]; rfl
  · rw [if_neg (fun e => h (Option.some.inj e.2))]
    refine beq_eq_false_iff_ne.2 (fun e => h ?_)
    have : (V[0]).toNat = 45 := by omega
    exact UInt8.toNat_inj.1 this
set_option maxHeartbeats 4000000 in
set_option maxRecDepth 100000 in
theorem do_call {W0 W : World} {b mb c cw : Nat} {φ : Phi} {A Aw : Option Addr} {own : List Ob} {ins : List Fi} {fuel : Int} {w : List ByteArray} (h : DIn W0 W b mb φ A c own ins fuel) (hC : Kd.C Kd.string W Aw w.length w) (h0 : 0 < w.length) (hcw : w.length ≤ cw) (hlen : w.length ≤ 9000) (hws : ∀ x ∈ w, x.size ≤ 9000) :
    Calls Tryd.prog 14 #[.pointer (some ⟨b, 0, none⟩), .slice Aw w.length cw] W (DoEnd W0 b mb A c ins (doV own ins fuel w)) := by
  obtain ⟨ad, e, hat⟩ := strs_at hC (k := 0) h0
  subst e
  have hv0 : v0 w = w[0].toList := by unfold v0; rw [show (0 : Int) = ((0 : Nat) : Int) from rfl, rdS h0]
  have hx9 : w[0].size ≤ 9000 := hws _ (List.getElem_mem h0)
  have HXW : Hid (w = w[0] :: w.drop 1) := by
    rw [Hid]
    exact (List.drop_eq_getElem_cons h0).trans rfl
  obtain ⟨R, hR⟩ : ∃ R, doV own ins fuel w = R := ⟨_, rfl⟩
  rw [hR]
  have HR := Lib.hid hR
  clear hR
  have HV0 := Lib.hid hv0
  generalize w[0] = x at hat HV0 hx9 HXW
  have hat0 : W.cell? ad = some (.string x) := by simpa [Addr.add] using hat
  have HD := Lib.hid h
  have HC := Lib.hid hC
  have HWS := Lib.hid hws
  clear hat hv0 h hC hws
  have HT := Lib.hid (trim_at x)
  have HTC := Lib.hid fun (w : World) => Tryd.strings_TrimPrefix x ⟨#[64]⟩ w
  go_enter Tryd.func14, Tryd.ntmps14
  go_upto_if 15 with fail
  obtain ⟨V1, hV1⟩ : ∃ V1 : ByteArray, V1 = if 1 < x.size then (⟨(Lib.trimPrefix x.data.toList [64]).toArray⟩ : ByteArray) else x := ⟨_, rfl⟩
  have HV1 := Lib.hid hV1
  clear hV1
  go_cut [5] (fun v wc => v = .string V1 ∧ wc = W)
  case first =>
    by_cases h1 : 1 < x.size
    · have hV : V1 = (⟨(Lib.trimPrefix x.data.toList [64]).toArray⟩ : ByteArray) := by have := HV1.out; rwa [if_pos h1] at this
      have h1i : (1 : Int) < (x.size : Int) := by omega
      generalize (⟨(Lib.trimPrefix x.data.toList [64]).toArray⟩ : ByteArray) = T1 at hV HTC
      have hV' := Lib.hid hV
      clear hV
      go_wp2_with (go_at_call 17; refine (HTC.out _).mono ?_; rintro e w2 ⟨rfl, rfl⟩)
      go_meet
      exact ⟨by rw [hV'.out], rfl⟩
    · have hV : V1 = x := by have := HV1.out; rwa [if_neg h1] at this
      have hV' := Lib.hid hV
      clear hV
      have h1i : ¬ (1 : Int) < (x.size : Int) := by omega
      go_wp2_with fail
      go_meet
      exact ⟨by rw [hV'.out], rfl⟩
  case rest =>
    obtain ⟨rfl, e2⟩ := hcut
    rw [e2]
    clear e2
    have HVV : Hid (verbV (v0 w) = if 1 < V1.toList.length ∧ V1.toList.head? = some 45 then (V1.toList.drop 1, true) else (V1.toList, false)) := by
      rw [Hid, HV0.out]
      unfold verbV
      have e : (if 1 < x.toList.length ∧ x.toList.head? = some 64 then x.toList.drop 1 else x.toList) = V1.toList := by
        rw [HV1.out]
        have hl : x.toList.length = x.size := by rw [ByteArray.toList_eq, Array.length_toList]; rfl
        by_cases h1 : 1 < x.size
        · rw [if_pos h1, HT.out, hl]
          by_cases h2 : x.toList.head? = some 64
          · rw [if_pos ⟨h1, h2⟩, if_pos h2]
          · rw [if_neg (fun h => h2 h.2), if_neg h2]
        · rw [if_neg h1, hl, if_neg (fun h => h1 h.1)]
      rw [e]
    have hVs : V1.size ≤ 9000 := by
      rw [HV1.out]
      by_cases h1 : 1 < x.size
      · rw [if_pos h1]
        have hl : x.data.toList.length = x.size := by rw [Array.length_toList]; rfl
        show (Lib.trimPrefix x.data.toList [64]).toArray.size ≤ _
        rw [List.size_toArray]
        unfold Lib.trimPrefix
        split
        · rw [List.length_drop]; omega
        · omega
      · rw [if_neg h1]; exact hx9
    clear HV1 HT HTC hx9
    obtain ⟨M, hM⟩ : ∃ M, M = (verbV (v0 w)).2 := ⟨_, rfl⟩
    obtain ⟨V, hV⟩ : ∃ V : ByteArray, V = ⟨(verbV (v0 w)).1.toArray⟩ := ⟨_, rfl⟩
    have HM := Lib.hid hM
    have HV := Lib.hid hV
    have hVl : V1.toList.length = V1.size := by rw [ByteArray.toList_eq, Array.length_toList]; rfl
    have HVL := Lib.hid hVl
    clear hM hV hVl
    go_upto_region 4 with fail
    go_cut [6] (fun m wc => m = .bool M ∧ wc = W)
    case first =>
      by_cases h1 : 1 < V1.size
      · have h1i : (1 : Int) < (V1.size : Int) := by omega
        have hm : ∀ hh : 0 < V1.size, (((V1[0]'hh).toNat : Int) == 45) = M := fun hh => by
          rw [HM.out, HVV.out]
          exact dash_at V1 h1 hh
        have HMM := Lib.hid hm
        clear hm
        go_wp2_with fail
        go_meet
        exact ⟨by rw [HMM.out], rfl⟩
      · have hm : M = false := by rw [HM.out, HVV.out, if_neg (fun h => h1 (by rw [← HVL.out]; exact h.1))]
        subst hm
        have h1i : ¬ (1 : Int) < (V1.size : Int) := by omega
        go_wp2_with fail
        go_meet
        exact ⟨rfl, rfl⟩
    case rest =>
      obtain ⟨rfl, e2⟩ := hcut
      rw [e2]
      clear e2
      go_upto_if 26 with fail
      go_cut [5] (fun v wc => v = .string V ∧ wc = W)
      case first =>
        cases M with
        | true =>
          have hsz : 1 ≤ V1.size := by
            have := HM.out
            rw [HVV.out] at this
            by_cases h : 1 < V1.toList.length ∧ V1.toList.head? = some 45
            · rw [← HVL.out]; omega
            · rw [if_neg h] at this; cases this
          go_wp2_with fail
          go_meet
          refine ⟨?_, rfl⟩
          have hm := HM.out
          have hv := HV.out
          rw [HVV.out] at hm hv
          by_cases h : 1 < V1.toList.length ∧ V1.toList.head? = some 45
          · rw [if_pos h] at hv
            rw [hv, ← Hand.ext_drop, ByteArray.toList_eq]
          · rw [if_neg h] at hm; cases hm
        | false =>
          go_wp2_with fail
          go_meet
          refine ⟨?_, rfl⟩
          have hm := HM.out
          have hv := HV.out
          rw [HVV.out] at hm hv
          by_cases h : 1 < V1.toList.length ∧ V1.toList.head? = some 45
          · rw [if_pos h] at hm; cases hm
          · rw [if_neg h] at hv; rw [hv]; congr 1; exact Hand.ba_ext (by simp [ByteArray.toList_eq])
      case rest =>
        obtain ⟨rfl, e2⟩ := hcut
        rw [e2]
        clear e2
        have hVs2 : V.size ≤ 9000 := by
          rw [HV.out, HVV.out]
          show (Array.size (List.toArray _)) ≤ _
          rw [List.size_toArray]
          split
          · rw [List.length_drop, HVL.out]; omega
          · rw [HVL.out]; exact hVs
        clear HVV HVL hVs
        obtain ⟨i0, hi, hz0, hz1, hz2⟩ := info_parts Hand.Tryd.infoStr
        have HOW := Lib.hid (newOwn W V)
        have HNW : Hid (∀ k, k < w.length → W.cell? (ad.add k) = some (.string (w.getD k nilB))) := fun k hk => by
          obtain ⟨ad', e', hat'⟩ := strs_at HC.out hk
          obtain rfl : ad = ad' := by injection e'
          rw [hat', List.getD_eq_getElem?_getD, List.getElem?_eq_getElem hk, Option.getD_some]
        have hnl : ((w.drop 1).map Value.string).length = (w.length - 1) * 1 := by rw [List.length_map, List.length_drop, Nat.mul_one]
        have HNL := Lib.hid hnl
        have HONE : Hid (∀ u ∈ (w.drop 1).map Value.string, u.oneCell' = true) := fun u hu => by
          obtain ⟨y, _, rfl⟩ := List.mem_map.1 hu
          rfl
        have H63 : Hid (1 + (w.length - 1) ≤ maxLen) := by unfold Hid maxLen; omega
        have HBY : Hid ((1 + (w.length - 1)) * 16 ≤ 140737488355328) := by unfold Hid; omega
        have HBA : Hid (W.heap.size ≤ (W.alloc (.cells #[.string V] 9)).heap.size) := by unfold Hid; rw [World.size_alloc]; omega
        have HDL : Hid (w.length - 1 = (w.drop 1).length) := by unfold Hid; rw [List.length_drop]
        clear hnl
        obtain ⟨q, hq⟩ : ∃ q, q = V :: w.drop 1 := ⟨_, rfl⟩
        have HQ := Lib.hid hq
        clear hq
        go_upto_region 7 with fail
        go_cut [1] (fun v wc => ∃ A1 c1, v = .slice A1 q.length c1 ∧ Hid (q.length ≤ c1 ∧ Kd.C Kd.string wc A1 q.length q ∧ Below W.heap.size W wc))
        case first =>
          by_cases hc1 : cw = 1
          · have hl1 : w.length = 1 := by omega
            have hd1 : w.drop 1 = [] := List.drop_eq_nil_of_le (by omega)
            have HQ1 : Hid (q = [V]) := by rw [Hid, HQ.out, hd1]
            have hCC := R_own (xs := [V]) (newOwn W V)
            obtain ⟨A1, c1, h3, h4, h5⟩ := hCC
            injection h3 with h6 h7 h8
            subst h6 h8
            have HC5 := Lib.hid h5
            have HL1 := Lib.hid hl1
            clear hl1 hd1 h4 h5 h7
            subst hc1
            go_wp2_with fail
            go_meet
            exact ⟨_, 1, by rw [HQ1.out]; rfl, by rw [HQ1.out]; exact ⟨Nat.le_refl _, HC5.out, newBelow W _⟩⟩
          · have HN1 : Hid (∀ j u, ((w.drop 1).map Value.string)[j]? = some u → (W.alloc (.cells #[.string V] 9)).cell? ((⟨ad.block, ad.off + 1, none⟩ : Addr).add j) = some u) := fun j u hj => by
              rw [List.getElem?_map, List.getElem?_drop] at hj
              obtain ⟨y, hy, rfl⟩ := Option.map_eq_some_iff.1 hj
              have hk := (List.getElem?_eq_some_iff.1 hy).1
              have hc := HNW.out (j + 1) (by omega)
              rw [List.getD_eq_getElem?_getD, show j + 1 = 1 + j by omega, hy, Option.getD_some] at hc
              have ea : (⟨ad.block, ad.off + 1, none⟩ : Addr).add j = ad.add (1 + j) := by
                cases j with
                | zero => rfl
                | succ j => show (⟨ad.block, ad.off + 1 + (j + 1), none⟩ : Addr) = ad.add (1 + (j + 1)); rw [show 1 + (j + 1) = j + 1 + 1 by omega]; show _ = (⟨ad.block, ad.off + (j + 1 + 1), none⟩ : Addr); congr 1; omega
              rw [ea]
              exact ((newBelow W _).cell (cell_lt hc)).trans hc
            go_wp2_with (at_builtin; refine wpList_append_own_at _ rfl _ _ 22 rfl W.heap.size 9 i0 _ 1 16 Tryd.underlying22 hi hz0 hz1 hz2 rfl (by decide) (.slice (some ⟨W.heap.size, 0, none⟩) 1 1) 1 [.string V] rfl HOW.out ⟨ad.block, ad.off + 1, none⟩ (w.length - 1) (cw - 1) ((w.drop 1).map Value.string) rfl HNL.out HN1.out HONE.out H63.out HBY.out HBA.out ?_; intro v1 w1 h1 h2 h3 h4; obtain ⟨A1, c1, rfl, hc1', hC1, hB1⟩ := app_end HDL.out h1 h2; clear h1 h2 h3 h4)
            go_meet
            exact ⟨A1, c1, by rw [HQ.out, List.length_cons, List.length_drop], by rw [HQ.out]; exact ⟨hc1', hC1, hB1⟩⟩
        case rest =>
          obtain ⟨A1, c1, e2, HZ⟩ := hcut
          subst e2
          obtain ⟨hqc, hCq, hBq⟩ := HZ.out
          have hqv : q = cmdV w := by rw [HQ.out]; unfold cmdV; rw [HV.out]
          have hq0 : 0 < q.length := by rw [HQ.out]; simp
          have hql : q.length ≤ 9000 := by rw [HQ.out, List.length_cons, List.length_drop]; omega
          have hqs : ∀ y ∈ q, y.size ≤ 9000 := fun y hy => by
            rw [HQ.out] at hy
            rcases List.mem_cons.1 hy with hy | hy
            · rw [hy]; exact hVs2
            · exact HWS.out y (List.mem_of_mem_drop hy)
          have hqv0 : (verbV (v0 w)).1 = V.toList := by rw [HV.out, ByteArray.toList_eq]
          have HDq := Lib.hid (HD.out.below hBq)
          have hR2 : R = if rightV q = false then (2, own, fuel) else layV own fuel M V.toList q (laidV own ins q) := by
            rw [← HR.out, hqv]
            unfold doV
            rw [HM.out, ← hqv0]
          have HRC := Lib.hid (right_call A1 c1 q wc hCq hqc hq0 (by omega) (fun y hy => Nat.le_trans (hqs y hy) (by decide)) (HDq.out.gl.below HDq.out.bel))
          have HLI : Hid (∀ W', Below wc.heap.size wc W' → LIn W' b mb φ A c own ins fuel A1 c1 q) := fun W' hb =>
            have hd := HDq.out.below hb
            ⟨hd.h, Kd.C_below hCq hb, hqc, by omega, hqs, hd.gl.below hd.bel, hd.own, hd.ins⟩
          have HCQ := Lib.hid hCq
          have HVQ : Hid (v0 q = V.toList) := by
            rw [Hid, HQ.out]; rfl
          clear HR HV0 HXW hat0 HC HWS HV HM HOW HNW HNL HONE H63 HBY HBA HDL HQ HZ hqv hqv0 hVs2 hlen hcw h0 HD
          have HR2 := Lib.hid hR2
          have HC1 := Lib.hid hqc
          have HQS := Lib.hid hqs
          clear hR2 hqc hqs hCq
          by_cases hr : rightV q = false
          · have HRR : Hid (R = (2, own, fuel)) := by rw [Hid, HR2.out, if_pos hr]
            rw [hr] at HRC
            go_wp2_with (go_at_call 18; refine HRC.out.mono ?_; rintro e w2 ⟨rfl, hb⟩; have HB2 := Lib.hid hb; clear hb)
            go_ret
            have hd := HDq.out.below HB2.out
            rw [HRR.out]
            exact ⟨rfl, φ, hd.h, hd.bel⟩
          · have hr1 : rightV q = true := by simpa using hr
            have HRR : Hid (R = layV own fuel M V.toList q (laidV own ins q)) := by rw [Hid, HR2.out, if_neg hr]
            have HLC : Hid (∀ W', Below wc.heap.size wc W' → Calls Tryd.prog 19 #[.pointer (some ⟨b, 0, none⟩), .slice A1 q.length c1] W' (LaidEnd W' (laidV own ins q))) := fun W' hb => laid_call (HLI.out W' hb) hq0 hr1
            rw [hr1] at HRC
            have hname := laidV_name own ins q hr1
            have HNA := Lib.hid hname
            have HN2 := Lib.hid (right_names hr1)
            clear HR2 hr hname
            generalize laidV own ins q = r at HRR HLC HNA
            obtain ⟨nm, s, ok⟩ := r
            go_upto_region 11 with (first
              | (go_at_call 18; refine HRC.out.mono ?_; rintro e w2 ⟨rfl, hb⟩; have HB2 := Lib.hid hb; clear hb)
              | (go_at_call 19; refine (HLC.out _ HB2.out).mono ?_; rintro e w3 ⟨rfl, hb⟩; have HB3 := Lib.hid (HB2.out.trans (hb.mono HB2.out.size)); clear hb))
            have HD3 := Lib.hid (HDq.out.below HB3.out)
            obtain ⟨bad, hbad⟩ : ∃ bad, bad = (!ok || decide (4000 < s.size)) := ⟨_, rfl⟩
            have HBAD := Lib.hid hbad
            clear hbad HRC HLC HLI HB2
            have hg := (newBelow w3 (.cells #[.string s] 9)).size
            have cs : (w3.alloc (.cells #[.string s] 9)).cell? ⟨w3.heap.size, 0, none⟩ = some (.string s) := by
              have e := World.alloc_heap_new w3 (.cells #[.string s] 9)
              simp only [World.cell?, e]
              rfl
            clear hg
            go_cut [50] (fun v wd => v = .bool bad ∧ wd = w3.alloc (.cells #[.string s] 9))
            case first =>
              cases ok with
              | false =>
                go_wp2_with fail
                go_meet
                exact ⟨by rw [HBAD.out]; rfl, rfl⟩
              | true =>
                have HB4 : Hid (bad = decide ((4000 : Int) < (s.size : Int))) := by
                  rw [Hid, HBAD.out]
                  by_cases h4 : 4000 < s.size
                  · rw [decide_eq_true h4, decide_eq_true (by omega)]; rfl
                  · rw [decide_eq_false h4, decide_eq_false (by omega)]; rfl
                go_wp2_with fail
                go_meet
                exact ⟨by rw [HB4.out], rfl⟩
            case rest =>
              obtain ⟨rfl, e2⟩ := hcut
              rw [e2]
              clear e2
              have hlow := HD3.out.low
              have hhigh := HD3.out.high
              cases bad with
              | true =>
                cases M with
                | false =>
                  have HRX : Hid (R = (11, own, fuel)) := by
                    rw [Hid, HRR.out]; unfold layV; rw [if_pos HBAD.out.symm, if_pos rfl]
                  go_wp2_with fail
                  go_ret
                  have hd := HD3.out.below (newBelow w3 (.cells #[.string ⟨#[]⟩] 9))
                  rw [HRX.out]
                  exact ⟨rfl, φ, hd.h, hd.bel⟩
                | true =>
                  have HRX : Hid (R = if fuel - 1 < 0 then (12, own, fuel - 1) else (0, own, fuel - 1)) := by
                    rw [Hid, HRR.out]; unfold layV; rw [if_pos HBAD.out.symm, if_neg (by decide)]
                  have hd := (HD3.out.below (newBelow w3 (.cells #[.string ⟨#[]⟩] 9))).below (Below.refl _ _).drew
                  obtain ⟨c0, c1', c2⟩ := hd.h.cells
                  have f2 : ((w3.alloc (.cells #[.string ⟨#[]⟩] 9)).drew).frozen? ⟨b, 2, none⟩ = false := by simp [World.frozen?, hd.h.box]
                  have cz : ((w3.alloc (.cells #[.string ⟨#[]⟩] 9)).drew).cell? ⟨w3.heap.size, 0, none⟩ = some (.string ⟨#[]⟩) := by
                    have e := World.alloc_heap_new w3 (.cells #[.string ⟨#[]⟩] 9)
                    simp only [World.cell?, World.drew, e]
                    rfl
                  have hbl : b < w3.heap.size := HD3.out.h.lt
                  clear hd
                  have E1 : IntKind.i64.wrap (fuel - 1) = fuel - 1 := IntWalk.i64_in _ (by omega)
                  go_upto_region 15 with fail
                  go_region
                  have hsp := HD3.out.spend (fuel - 1) ⟨#[]⟩
                  obtain ⟨w4, hw4⟩ : ∃ w4, w4 = ((w3.setCell ⟨b, 2, none⟩ (.int .i64 (fuel - 1))).alloc (.cells #[.string ⟨#[]⟩] 9)).drew := ⟨_, rfl⟩
                  have hb4 := hsp.1.below (Below.refl _ _).drew
                  have hl4 := hsp.2.trans ((Below.refl _ _).drew.mono hsp.2.size)
                  rw [← hw4] at hb4 hl4
                  rw [← hw4]
                  have HB4 := Lib.hid hb4
                  have HL4 := Lib.hid hl4
                  clear hw4 hsp hl4 hb4 c0 c1' c2 f2 cz cs E1
                  obtain ⟨c0, c1', c2⟩ := HB4.out.cells
                  by_cases hneg : fuel - 1 < 0
                  · have HRZ : Hid (R = (12, own, fuel - 1)) := by rw [Hid, HRX.out, if_pos hneg]
                    go_wp2_with fail
                    go_ret
                    rw [HRZ.out]
                    exact ⟨rfl, _, HB4.out, HL4.out⟩
                  · have HRZ : Hid (R = (0, own, fuel - 1)) := by rw [Hid, HRX.out, if_neg hneg]
                    go_wp2_with fail
                    go_ret
                    rw [HRZ.out]
                    exact ⟨rfl, _, HB4.out, HL4.out⟩
              | false =>
                have hok : ok = true := by
                  have := HBAD.out
                  cases ok with
                  | true => rfl
                  | false => simp at this
                subst hok
                have hs4 : s.size ≤ 4000 := by
                  have := HBAD.out
                  simp at this
                  omega
                obtain ⟨f', hf'⟩ : ∃ f' : Int, f' = fuel - (1 + (s.size : Int) / 100) := ⟨_, rfl⟩
                have HF' := Lib.hid hf'
                have HRX : Hid (R = if f' < 0 then (12, own, f') else (0, (fun o => if nm.toList = [] then o else putF o ⟨nm, s⟩) (if V.toList = [114, 109] ∨ V.toList = [109, 118] then dropF own (wd q 1) else own), f')) := by
                  rw [Hid, HRR.out, HF'.out]; unfold layV; rw [if_neg (fun h => by have := HBAD.out.trans h; cases this)]
                have E0 : IntKind.i64.wrap ((s.size : Int).tdiv 100) = (s.size : Int) / 100 := by
                  rw [Int.tdiv_eq_ediv_of_nonneg (by omega)]; exact IntWalk.i64_in _ (by omega)
                have E1 : IntKind.i64.wrap (1 + (s.size : Int) / 100) = 1 + (s.size : Int) / 100 := IntWalk.i64_in _ (by omega)
                have E2 : IntKind.i64.wrap (fuel - (1 + (s.size : Int) / 100)) = f' := by rw [hf']; exact IntWalk.i64_in _ (by omega)
                have hd := (HD3.out.below (newBelow w3 (.cells #[.string s] 9))).below (Below.refl _ _).drew
                obtain ⟨c0, c1', c2⟩ := hd.h.cells
                have f2 : ((w3.alloc (.cells #[.string s] 9)).drew).frozen? ⟨b, 2, none⟩ = false := by simp [World.frozen?, hd.h.box]
                have cz : ((w3.alloc (.cells #[.string s] 9)).drew).cell? ⟨w3.heap.size, 0, none⟩ = some (.string s) := by
                  have e := World.alloc_heap_new w3 (.cells #[.string s] 9)
                  simp only [World.cell?, World.drew, e]
                  rfl
                have hbl : b < w3.heap.size := HD3.out.h.lt
                clear hd hf'
                go_upto_region 15 with fail
                go_region
                have hsp := HD3.out.spend f' s
                have HCH : Hid (Chg (fun k => k = b) w3 ((w3.setCell ⟨b, 2, none⟩ (.int .i64 f')).alloc (.cells #[.string s] 9)).drew) := (((Chg.refl (fun k => k = b) w3).setCell (p := ⟨b, 2, none⟩) (fun _ => rfl) _).alloc _).drew
                obtain ⟨w4, hw4⟩ : ∃ w4, w4 = ((w3.setCell ⟨b, 2, none⟩ (.int .i64 f')).alloc (.cells #[.string s] 9)).drew := ⟨_, rfl⟩
                have hb4 := hsp.1.below (Below.refl _ _).drew
                have hl4 := hsp.2.trans ((Below.refl _ _).drew.mono hsp.2.size)
                rw [← hw4] at hb4 hl4 HCH
                rw [← hw4]
                have HB4 := Lib.hid hb4
                have HL4 := Lib.hid hl4
                clear hw4 hsp hl4 hb4 c0 c1' c2 f2 cz cs E0 E1 E2
                obtain ⟨c0, c1', c2⟩ := HB4.out.cells
                by_cases hneg : f' < 0
                · have HRZ : Hid (R = (12, own, f')) := by rw [Hid, HRX.out, if_pos hneg]
                  go_wp2_with fail
                  go_ret
                  rw [HRZ.out]
                  exact ⟨rfl, _, HB4.out, HL4.out⟩
                · have HRZ : Hid (R = (0, (fun o => if nm.toList = [] then o else putF o ⟨nm, s⟩) (if V.toList = [114, 109] ∨ V.toList = [109, 118] then dropF own (wd q 1) else own), f')) := by rw [Hid, HRX.out, if_neg hneg]
                  have HNE := Lib.hid HD3.out.ne
                  have hml : mb < w3.heap.size := HD3.out.h.img.lt
                  have HPM : Hid ((φ.add w3.heap.size s) mb = none) := by
                    rw [Hid]; unfold Phi.add; rw [if_neg (by omega)]; exact HD3.out.phi_m
                  have HPS : Hid ((φ.add w3.heap.size s) w3.heap.size = some s) := by
                    rw [Hid]; unfold Phi.add; rw [if_pos rfl]
                  have HM0 := Lib.hid HD3.out.m0
                  have HC0 := Lib.hid HD3.out.C0
                  have HFW := Lib.hid HD3.out.few
                  have HNM : Hid (nm.size ≤ 100000) := by
                    rw [Hid]
                    rcases HNA.out with e | ⟨e, _⟩
                    · have : nm = nilB := e
                      rw [this]; decide
                    · exact Nat.le_trans (HQS.out nm (List.mem_of_mem_drop e)) (by decide)
                  generalize φ.add w3.heap.size s = φ4 at HB4 HPM HPS
                  obtain ⟨own1, ho1⟩ : ∃ own1, own1 = if V.toList = [114, 109] ∨ V.toList = [109, 118] then dropF own (wd q 1) else own := ⟨_, rfl⟩
                  rw [← ho1] at HRZ
                  have HO1 := Lib.hid ho1
                  clear ho1 hml
                  obtain ⟨dl, hdl⟩ : ∃ dl, dl = ((V.toList == [114, 109]) || (V.toList == [109, 118])) := ⟨_, rfl⟩
                  have HDL := Lib.hid hdl
                  clear hdl
                  go_upto_region 18 with fail
                  go_cut [77] (fun v wd => v = .bool dl ∧ wd = w4)
                  case first =>
                    cases h1 : (V.toList == [114, 109]) with
                    | true =>
                      have HD1 : Hid (dl = true) := by rw [Hid, HDL.out, h1]; rfl
                      go_wp2_with fail
                      go_meet
                      exact ⟨by rw [HD1.out], rfl⟩
                    | false =>
                      have HD1 : Hid (dl = (V.toList == [109, 118])) := by rw [Hid, HDL.out, h1]; rfl
                      go_wp2_with fail
                      go_meet
                      exact ⟨by rw [HD1.out], rfl⟩
                  case rest =>
                    obtain ⟨rfl, e2⟩ := hcut
                    rw [e2]
                    clear e2
                    go_upto_if 77 with fail
                    go_cut [4] (fun v wd => v = .int .i64 0 ∧ Hid (BnAt wd b mb φ4 A c own1 ins f' ∧ Below W0.heap.size W0 wd))
                    case first =>
                      cases dl with
                      | false =>
                        have HO2 : Hid (own1 = own) := by
                          have := HDL.out.symm
                          rw [Bool.or_eq_false_iff] at this
                          rw [Hid, HO1.out, if_neg]
                          rintro (h | h)
                          · rw [h] at this; exact absurd this.1 (by decide)
                          · rw [h] at this; exact absurd this.2 (by decide)
                        go_wp2_with fail
                        go_meet
                        exact ⟨rfl, by rw [HO2.out]; exact ⟨HB4.out, HL4.out⟩⟩
                      | true =>
                        have hvv : V.toList = [114, 109] ∨ V.toList = [109, 118] := by
                          have := HDL.out.symm
                          rw [Bool.or_eq_true] at this
                          exact this.imp beq_iff_eq.1 beq_iff_eq.1
                        have HO2 : Hid (own1 = dropF own (wd q 1)) := by rw [Hid, HO1.out, if_pos hvv]
                        have hq2 : 1 < q.length := by
                          have hn : 0 ≤ namesL (v0 q) ((q.length : Int) - 1) := HN2.out
                          rw [HVQ.out] at hn
                          rcases hvv with h | h <;> rw [h] at hn
                          · by_cases h3 : (q.length : Int) - 1 = 1
                            · omega
                            · simp [namesL, h3] at hn
                          · by_cases h3 : (q.length : Int) - 1 = 2
                            · omega
                            · simp [namesL, h3] at hn
                        obtain ⟨ad1, e1, hat1⟩ := strs_at (Kd.C_below HCQ.out HB3.out) (k := 1) hq2
                        subst e1
                        have hnb := not_bench HD3.out.h (p := ad1.add 1) rfl hat1
                        have d1 : w4.cell? ⟨ad1.block, ad1.off + 1, none⟩ = some (.string q[1]) := (HCH.out.cell (p := ad1.add 1) (cell_lt hat1) hnb).trans hat1
                        have hp9 : q[1].size ≤ 100000 := Nat.le_trans (HQS.out _ (List.getElem_mem hq2)) (by decide)
                        obtain ⟨w5, hrun, hi5, ht5⟩ := (HB4.out.below (Below.refl _ _).drew).img.drop (p := q[1]) hp9 0
                        have hw1 : wd q 1 = q[1] := wd_at hq2
                        have HL5 := Lib.hid (HL4.out.trans ((Below.refl w4.heap.size w4).drew.mono HL4.out.size))
                        have H5 := Lib.hid ((HB4.out.below (Below.refl _ _).drew).turned HNE.out HPM.out HL5.out HM0.out HC0.out hi5 (turned_chg ht5))
                        have HW1 := Lib.hid hw1
                        clear hat1 hnb hi5 ht5 hw1 hvv
                        generalize q[1] = y at d1 hrun H5 HW1
                        go_upto_region 19 with fail
                        go_region
                        go_wp2_with fail
                        go_meet
                        exact ⟨rfl, by rw [HO2.out, HW1.out]; exact H5.out⟩
                    case rest =>
                      obtain ⟨rfl, HZ5⟩ := hcut
                      obtain ⟨hb5, hl5⟩ := HZ5.out
                      have HB5 := Lib.hid hb5
                      have HL5 := Lib.hid hl5
                      obtain ⟨e0, e1', e2⟩ := hb5.cells
                      have HFL : Hid (own1.length ≤ 1000000) := by
                        rw [Hid, HO1.out]
                        have := HFW.out
                        split
                        · exact Nat.le_trans (List.length_filter_le _ _) (by omega)
                        · omega
                      clear hb5 hl5 HZ5 c0 c1' c2
                      by_cases hn : nm.toList = []
                      · have HRF : Hid (R = (0, own1, f')) := by rw [Hid, HRZ.out]; simp only [if_pos hn]
                        have hn1 : nm.toList.isEmpty = true := by rw [hn]; rfl
                        go_wp2_with fail
                        go_ret
                        rw [HRF.out]
                        exact ⟨rfl, φ4, HB5.out, HL5.out⟩
                      · have HRF : Hid (R = (0, putF own1 ⟨nm, s⟩, f')) := by rw [Hid, HRZ.out]; simp only [if_neg hn]
                        have hn1 : nm.toList.isEmpty = false := by
                          cases h : nm.toList with
                          | nil => exact absurd h hn
                          | cons a r => rfl
                        have hn2 : (nm.toList == []) = false := beq_eq_false_iff_ne.2 hn
                        go_wp2_with (at_mapUpdate; refine wpList_store_img (φ := φ4) _ rfl _ _ _ rfl mb w3.heap.size ⟨nm, s⟩ rfl HB5.out.img HFL.out rfl rfl HPS.out HNM.out ?_; intro w6 hi6 hC6 hz6; have H6 := Lib.hid (HB5.out.turned HNE.out HPM.out HL5.out HM0.out HC0.out hi6 hC6); clear hi6 hC6 hz6)
                        go_ret
                        rw [HRF.out]
                        exact ⟨rfl, φ4, H6.out⟩
end Go.Proofs.YtnjjnfbkilgidaaDoor.Fr
/- recipe: Run. -/
namespace Go.Proofs.YtnjjnfbkilgidaaDoor.Fr
open Go.RowKit Go.Proofs.YtnjjnfbkilgidaaDoor.F Go.Proofs.YtnjjnfbkilgidaaDoorW.PrintWords Go.Maps
open Go.Proofs.YtnjjnfbkilgidaaDoor.Hand (wordsV words_walk)
set_option linter.unusedVariables false
set_option linter.unusedSimpArgs false
abbrev Glob := Gl
theorem Glob.below {w w' : World} (h : Glob w) (hb : Below w.heap.size w w') : Glob w' := Gl.below h hb
theorem insF_len (f : Ob) : ∀ l : List Ob, (insF f l).length = l.length + 1 := by
  intro l
  induction l with
  | nil => rfl
  | cons g r ih =>
    rw [insF]
    split
    · rfl
    · rw [List.length_cons, ih, List.length_cons]
theorem layV_few (own : List Ob) (fuel : Int) (may : Bool) (verb : List UInt8) (w : List ByteArray) (r : ByteArray × ByteArray × Bool) : (layV own fuel may verb w r).2.1.length ≤ own.length + 1 ∧ (layV own fuel may verb w r).2.2 ≤ fuel := by
  unfold layV
  have hc : 0 ≤ (r.2.1.size : Int) / 100 := Int.ediv_nonneg (by omega) (by omega)
  generalize (r.2.1.size : Int) / 100 = c at hc
  have hd : ∀ p, (dropF own p).length ≤ own.length := fun p => List.length_filter_le _ _
  by_cases h1 : (!r.2.2 || decide (4000 < r.2.1.size)) = true
  · simp only [if_pos h1]
    by_cases h2 : may = false
    · rw [if_pos h2]; exact ⟨Nat.le_succ _, Int.le_refl _⟩
    · rw [if_neg h2]
      by_cases h3 : fuel - 1 < 0
      · rw [if_pos h3]; exact ⟨Nat.le_succ _, by show fuel - 1 ≤ fuel; omega⟩
      · rw [if_neg h3]; exact ⟨Nat.le_succ _, by show fuel - 1 ≤ fuel; omega⟩
  · simp only [if_neg h1]
    by_cases h3 : fuel - (1 + c) < 0
    · rw [if_pos h3]; exact ⟨Nat.le_succ _, by show fuel - (1 + c) ≤ fuel; omega⟩
    · rw [if_neg h3]
      refine ⟨?_, by show fuel - (1 + c) ≤ fuel; omega⟩
      have ho : (if verb = [114, 109] ∨ verb = [109, 118] then dropF own (wd w 1) else own).length ≤ own.length := by
        split
        · exact hd _
        · exact Nat.le_refl _
      generalize (if verb = [114, 109] ∨ verb = [109, 118] then dropF own (wd w 1) else own) = o at ho
      show (if r.1.toList = [] then o else putF o ⟨r.1, r.2.1⟩).length ≤ _
      split
      · omega
      · unfold putF
        rw [insF_len]
        have := List.length_filter_le (fun f : Ob => !(f.f0.data.toList == r.1.data.toList)) o
        exact Nat.succ_le_succ (Nat.le_trans this ho)
theorem doV_few (own : List Ob) (ins : List Fi) (fuel : Int) (w : List ByteArray) : (doV own ins fuel w).2.1.length ≤ own.length + 1 ∧ (doV own ins fuel w).2.2 ≤ fuel := by
  unfold doV
  split
  · exact ⟨Nat.le_succ _, Int.le_refl _⟩
  · exact layV_few _ _ _ _ _ _
theorem doV_pos (own : List Ob) (ins : List Fi) (fuel : Int) (w : List ByteArray) (h : (doV own ins fuel w).1 = 0) : 0 ≤ (doV own ins fuel w).2.2 := by
  unfold doV at h ⊢
  by_cases h1 : rightV (cmdV w) = false
  · rw [if_pos h1] at h; cases h
  · rw [if_neg h1] at h ⊢; exact layV_pos _ _ _ _ _ _ h
theorem doV_sizes (own : List Ob) (ins : List Fi) (fuel : Int) (w : List ByteArray) (h : ∀ f ∈ own, f.f1.size ≤ 10000) : ∀ f ∈ (doV own ins fuel w).2.1, f.f1.size ≤ 10000 := by
  unfold doV
  split
  · exact h
  · intro f hf
    rcases layV_own _ _ _ _ _ _ _ hf with hf | ⟨_, _, hs⟩
    · exact h f hf
    · omega
theorem words_few (s : ByteArray) (hs : s.size ≤ 8000) : (wordsV s).length ≤ 9000 ∧ ∀ x ∈ wordsV s, x.size ≤ 9000 := by
  have hl : s.data.toList.length = s.size := by rw [Array.length_toList]; rfl
  constructor
  · have := Hand.wordsGo_len s.data.toList []
    unfold wordsV
    rw [List.length_map]
    omega
  · intro x hx
    have := (wordsV_infix s x hx).length_le
    have hx2 : x.data.toList.length = x.size := by rw [Array.length_toList]; rfl
    omega
theorem files_own (l : List Fi) (h : (l.all fun f => decide (f.f1.size ≤ 10000)) = true) : ∀ f ∈ l, f.f1.size ≤ 10000 := fun f hf => of_decide_eq_true (List.all_eq_true.1 h f hf)
set_option maxHeartbeats 4000000 in
set_option maxRecDepth 100000 in
theorem run_walk (A0 : Option Addr) (c0 : Nat) (l : List ByteArray) (A1 : Option Addr) (c1 : Nat) (ins : List Fi) (t : ByteArray) (fuel : Int) (w : World) (hG : Glob w) (hr0 : Kd.C Kd.string w A0 l.length l) (hc0 : l.length ≤ c0) (hr1 : Kd.C k31 w A1 ins.length ins) (hc1 : ins.length ≤ c1)
    (hl : l.length ≤ 100) (hx : ∀ x ∈ l, x.size ≤ 8000) (hi : ins.length ≤ 100) (hy : ∀ f ∈ ins, f.f1.size ≤ 10000) (ht : t.size ≤ 1000) :
    Calls Tryd.prog 11 #[.slice A0 l.length c0, .slice A1 ins.length c1, .string t, .int .i64 fuel] w fun e w' => (∃ r, r = runV l ins t fuel ∧ e = .returned (.tuple #[.string r.1, .bool r.2.1, .int .i64 r.2.2])) ∧ Below w.heap.size w w' := by
  obtain ⟨R, hR⟩ : ∃ R, R = runV l ins t fuel := ⟨_, rfl⟩
  obtain ⟨f0, hf0⟩ : ∃ f0 : Int, f0 = max (-1) (min fuel 10000) := ⟨_, rfl⟩
  have hf1 : -1 ≤ f0 ∧ f0 ≤ 10000 := by omega
  have HF0 := Lib.hid hf0
  have HR : Hid (R = endV t (scriptV ins l [] f0)) := by rw [Hid, hR, hf0]; rfl
  rw [← hR]
  have hm := Img.made w (fun _ => none)
  have HD0 : Hid (DIn w ((w.alloc (.map #[] 0)).alloc (.cells #[.map (some w.heap.size), .slice A1 ins.length c1, .int .i64 f0] 39)) (w.heap.size + 1) w.heap.size (fun _ => none) A1 c1 [] ins f0) := by
    have hb : Below w.heap.size w ((w.alloc (.map #[] 0)).alloc (.cells #[.map (some w.heap.size), .slice A1 ins.length c1, .int .i64 f0] 39)) := ((Below.refl _ _).alloc (Nat.le_refl _) _).alloc (by rw [World.size_alloc]; omega) _
    refine ⟨⟨?_, hm.below (newBelow _ _), fun q f e => (by cases e), Kd.C_below hr1 hb, by omega⟩, hb, Nat.le_succ _, Nat.le_refl _, hr1, hG, Nat.zero_le _, hf1.1, hf1.2, fun f h => (by cases h), hy⟩
    have := World.alloc_heap_new (w.alloc (.map #[] 0)) (.cells #[.map (some w.heap.size), .slice A1 ins.length c1, .int .i64 f0] 39)
    rw [World.size_alloc] at this
    exact this
  have HC := Lib.hid hr0
  have HX := Lib.hid hx
  clear hR hf0 hr0 hr1 hx hy hm hf1 hG
  have hmm := @run_makeMap Tryd.prog
  go_enter Tryd.func11, Tryd.ntmps11
  go_upto_region 2 with fail
  rw [← HF0.out]
  clear hmm HF0
  obtain ⟨W1, hW1⟩ : ∃ W1, W1 = ((w.alloc (.map #[] 0)).alloc (.cells #[.map (some w.heap.size), .slice A1 ins.length c1, .int .i64 f0] 39)) := ⟨_, rfl⟩
  rw [← hW1] at HD0 ⊢
  clear hW1
  obtain ⟨b, hb⟩ : ∃ b, b = w.heap.size + 1 := ⟨_, rfl⟩
  rw [← hb] at HD0 ⊢
  clear hb
  obtain ⟨mb, hmb⟩ : ∃ mb, mb = w.heap.size := ⟨_, rfl⟩
  have HD1 : Hid (DIn w W1 b mb (fun _ => none) A1 c1 [] ins f0) := by rw [Hid, hmb]; exact HD0.out
  clear HD0
  rw [← hmb]
  clear hmb
  go_upto_region 3 with fail
  go_loopw [13, 14, 15, 26] (fun _ _ _ i wr => ∃ (k : Nat) (own : List Ob) (φ : Phi) (f : Int), k ≤ l.length ∧ i = .int .i64 k ∧ Hid (DIn w wr b mb φ A1 c1 own ins f) ∧ Hid (scriptV ins l [] f0 = scriptV ins (l.drop k) own f) ∧ own.length ≤ k) (fun _ _ _ i _ => l.length - (intOf i).toNat)
  case atStart => exact ⟨0, [], _, f0, Nat.zero_le _, rfl, HD1.out, rfl, Nat.le_refl _⟩
  case round =>
    obtain ⟨k, own, φ, f, hk, rfl, HD, HS, hown⟩ := hrel
    by_cases hlk : k < l.length
    · have hltz : (k : Int) < (l.length : Int) := by omega
      obtain ⟨ad, e, hat⟩ := strs_at HC.out hlk
      subst e
      have d0 := (HD.out.bel.cell (cell_lt hat)).trans hat
      have hs8 : l[k].size ≤ 8000 := HX.out _ (List.getElem_mem hlk)
      have hd : l.drop k = l[k] :: l.drop (k + 1) := List.drop_eq_getElem_cons hlk
      have HS2 : Hid (scriptV ins l [] f0 = scriptV ins (l[k] :: l.drop (k + 1)) own f) := by rw [Hid, ← hd]; exact HS.out
      have HWC := Lib.hid (words_walk l[k] (by omega) wr)
      have HWF := Lib.hid (words_few l[k] hs8)
      clear hat hs8 hd HS
      generalize l[k] = s at d0 HS2 HWC HWF
      obtain ⟨ws, hws⟩ : ∃ ws, ws = wordsV s := ⟨_, rfl⟩
      rw [← hws] at HWC HWF
      by_cases hnil : ws = []
      · have HS3 : Hid (scriptV ins l [] f0 = scriptV ins (l.drop (k + 1)) own f) := by
          rw [Hid, HS2.out, scriptV, if_pos (by rw [← hws]; exact hnil)]
        have hlen0 : (ws.length : Int) = 0 := by rw [hnil]; rfl
        clear HS2 hws
        go_wp2_with (go_at_call 13; refine HWC.out.mono ?_; rintro e w2 ⟨v, rfl, hv, hb⟩; obtain ⟨Av, cv, rfl, hcv, hCv⟩ := Kd.R_reads hv; have HB2 := Lib.hid hb; clear hv hb hcv hCv)
        go_roundw
        case rel => exact ⟨k + 1, own, φ, f, hlk, by go_num, HD.out.below HB2.out, HS3.out, by omega⟩
        case measure => simp [intOf]; omega
      · have hl0 : 0 < ws.length := List.length_pos_iff.2 hnil
        have hlen0 : ((ws.length : Int) == 0) = false := beq_eq_false_iff_ne.2 (by omega)
        obtain ⟨D, hD⟩ : ∃ D, D = doV own ins f ws := ⟨_, rfl⟩
        have HS3 : Hid (scriptV ins l [] f0 = if D.1 = 0 then scriptV ins (l.drop (k + 1)) D.2.1 D.2.2 else D) := by
          rw [Hid, HS2.out, scriptV, if_neg (by rw [← hws]; exact hnil), ← hws, ← hD]
        have HF1 := Lib.hid (doV_few own ins f ws)
        have HP1 := Lib.hid (doV_pos own ins f ws)
        have HZ1 := Lib.hid (doV_sizes own ins f ws HD.out.own)
        have HDC : Hid (∀ (W' : World) (Av : Option Addr) (cv : Nat), Below wr.heap.size wr W' → Kd.C Kd.string W' Av ws.length ws → ws.length ≤ cv → Calls Tryd.prog 14 #[.pointer (some ⟨b, 0, none⟩), .slice Av ws.length cv] W' (DoEnd w b mb A1 c1 ins (doV own ins f ws))) := fun W' Av cv hb hC hc => do_call (HD.out.below hb) hC hl0 hc HWF.out.1 HWF.out.2
        rw [← hD] at HF1 HP1 HZ1 HDC
        clear HS2 hws hD
        obtain ⟨de, down, df⟩ := D
        by_cases he : de = 0
        · have HS4 : Hid (scriptV ins l [] f0 = scriptV ins (l.drop (k + 1)) down df) := by rw [Hid, HS3.out, if_pos he]
          have HDN : Hid (∀ (W' : World) (φ' : Phi), BnAt W' b mb φ' A1 c1 down ins df → Below w.heap.size w W' → DIn w W' b mb φ' A1 c1 down ins df) := fun W' φ' hb hB =>
            ⟨hb, hB, HD.out.b0, HD.out.m0, HD.out.C0, HD.out.gl, by have := HF1.out.1; have h2 : down.length ≤ own.length + 1 := this; omega, by have : 0 ≤ df := HP1.out he; omega, by have : df ≤ f := HF1.out.2; have := HD.out.high; omega, HZ1.out, HD.out.ins⟩
          have hfew : down.length ≤ k + 1 := by have h2 : down.length ≤ own.length + 1 := HF1.out.1; omega
          clear HS3
          go_wp2_with (first
            | (go_at_call 13; refine HWC.out.mono ?_; rintro e w2 ⟨v, rfl, hv, hb⟩; obtain ⟨Av, cv, rfl, hcv, hCv⟩ := Kd.R_reads hv; have HB2 := Lib.hid hb; have HCV := Lib.hid hCv; have HCC := Lib.hid hcv; clear hv hb hcv hCv)
            | (go_at_call 14; refine (HDC.out _ _ _ HB2.out HCV.out HCC.out).mono ?_; rintro e w3 ⟨rfl, φ', hb3, hB3⟩; have HD3 := Lib.hid (HDN.out _ _ hb3 hB3); clear hb3 hB3))
          go_roundw
          case rel => exact ⟨k + 1, down, φ', df, hlk, by go_num, HD3.out, HS4.out, hfew⟩
          case measure => simp [intOf]; omega
        · have HS4 : Hid (R = (nilB, false, de)) := by
            rw [Hid, HR.out, HS3.out, if_neg he]; unfold endV; rw [if_neg he]
          have hne : (de == 0) = false := beq_eq_false_iff_ne.2 he
          clear HS3
          go_wp2_with (first
            | (go_at_call 13; refine HWC.out.mono ?_; rintro e w2 ⟨v, rfl, hv, hb⟩; obtain ⟨Av, cv, rfl, hcv, hCv⟩ := Kd.R_reads hv; have HB2 := Lib.hid hb; have HCV := Lib.hid hCv; have HCC := Lib.hid hcv; clear hv hb hcv hCv)
            | (go_at_call 14; refine (HDC.out _ _ _ HB2.out HCV.out HCC.out).mono ?_; rintro e w3 ⟨rfl, φ', hb3, hB3⟩; have HB3 := Lib.hid hB3; clear hb3 hB3))
          refine bodyPost_ret (v := .tuple #[.string nilB, .bool false, .int .i64 de]) (by simp [results, Tryd.results11, go_sem, nilB]) rfl ⟨⟨R, rfl, ?_⟩, HB3.out⟩
          rw [HS4.out]
    · obtain rfl : k = l.length := by omega
      have hltz : ¬ (l.length : Int) < (l.length : Int) := by omega
      have HS2 : Hid (R = endV t (0, own, f)) := by
        rw [Hid, HR.out, HS.out, List.drop_length]; rfl
      obtain ⟨e0, e1, e2⟩ := HD.out.h.cells
      cases hf : findF own t with
      | none =>
        have hrun := HD.out.h.img.look_none (by omega) hf
        have HS3 : Hid (R = (nilB, false, 0)) := by rw [Hid, HS2.out]; unfold endV; rw [if_pos rfl]; show (match findF own t with | some f => _ | none => _) = _; rw [hf]
        clear hf HS2
        go_wp2
        refine bodyPost_ret (v := .tuple #[.string nilB, .bool false, .int .i64 0]) (by simp [results, Tryd.results11, go_sem, nilB]) rfl ⟨?_, HD.out.bel⟩
        first | (refine ⟨R, rfl, ?_⟩; rw [HS3.out]; done) | (rw [HS3.out]; done) | (have hz := HS3.out; subst hz; rfl)
      | some g =>
        obtain ⟨q, hrun, hq⟩ := HD.out.h.img.look (by omega) hf
        have hcq := HD.out.h.bx.cell0 hq
        have HS3 : Hid (R = (g.f1, true, 0)) := by rw [Hid, HS2.out]; unfold endV; rw [if_pos rfl]; show (match findF own t with | some f => _ | none => _) = _; rw [hf]
        clear hf HS2 hq
        go_wp2
        refine bodyPost_ret (v := .tuple #[.string g.f1, .bool true, .int .i64 0]) (by simp [results, Tryd.results11, go_sem, nilB]) rfl ⟨?_, HD.out.bel⟩
        first | (refine ⟨R, rfl, ?_⟩; rw [HS3.out]; done) | (rw [HS3.out]; done) | (have hz := HS3.out; subst hz; rfl)
theorem recipe_Run.calls (A0 : Option Addr) (c0 : Nat) (l0 : List ByteArray) (A1 : Option Addr) (c1 : Nat) (l1 : List Fi) (a2 : ByteArray) (a3 : Int) (r1 : ByteArray) (r2 : Bool) (r3 : Int) (w : World) (hG : Glob w) (hr0 : Kd.C Kd.string w A0 l0.length l0) (hc0 : l0.length ≤ c0) (hr1 : Kd.C k31 w A1 l1.length l1) (hc1 : l1.length ≤ c1) (h : recipe_Run.f l0 l1 a2 a3 = some (r1, r2, r3)) :
    Calls Tryd.prog 11 #[.slice A0 l0.length c0, .slice A1 l1.length c1, .string a2, .int .i64 a3] w fun e w' => e = .returned (.tuple #[.string r1, .bool r2, .int .i64 r3]) ∧ Below w.heap.size w w' := by
  unfold recipe_Run.f at h
  split at h
  next hc =>
    simp only [Bool.and_eq_true, decide_eq_true_eq, List.all_eq_true] at hc
    injection h with h
    refine (run_walk A0 c0 l0 A1 c1 l1 a2 a3 w hG hr0 hc0 hr1 hc1 hc.1.1.1.1 hc.1.1.1.2 hc.1.1.2 hc.1.2 hc.2).mono ?_
    rintro e w' ⟨⟨r, hr, rfl⟩, hb⟩
    rw [h] at hr
    subst hr
    exact ⟨rfl, hb⟩
  next => cases h
end Go.Proofs.YtnjjnfbkilgidaaDoor.Fr
