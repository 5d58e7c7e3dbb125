import Derived.Test.YtocpfgdajomjiaaDoorIdx3
import Derived.Test.YtocpfgdajomjiaaDoorLinesW
namespace Go.Proofs.YtocpfgdajomjiaaDoor.Hand
open Go.RowKit Go.Shelf Go.Proofs.YtocpfgdajomjiaaDoor.Range Go.Proofs.YtocpfgdajomjiaaDoorW.PrintWords
attribute [local go_sem] Oper.semAt_some
set_option linter.unusedVariables false
set_option linter.unusedSimpArgs false

theorem Tryd.info89 : (Tryd.prog.info? 89).map (fun i => (i.zero, i.size)) = some (some (.agg (Array.replicate 256 (.bool false))), 256) := by kernel_rfl
theorem ascii_blanks : ∀ (j : Nat) b, blanksB.data.toList[j]? = some b → b.toNat < 128 := ascii_of_all (by decide)
theorem indexAny_blank (s : ByteArray) (hs : s.size ≤ 100000) (w : World) :
    Calls Tryd.prog 78 #[.string s, .string blanksB] w fun e w' => e = .returned (.int .i64 (Lib.indexAny s.data.toList [32, 9])) ∧ Below w.heap.size w w' := by
  by_cases h : s.size ≤ 8
  · exact indexAny_near s w h
  · refine (Tryd.strings_IndexAny_long (zero_of_info Tryd.info89).1 s blanksB w (by decide) (by omega) (by omega) (by decide) ascii_blanks).mono ?_
    rintro e w' ⟨he, rfl⟩
    exact ⟨he, ((Below.refl _ _).alloc (Nat.le_refl _) _).alloc (by simp) _⟩
theorem trimLeft_blank (s : ByteArray) (w : World) :
    Calls Tryd.prog 77 #[.string s, .string blanksB] w fun e w' => e = .returned (.string ⟨(Lib.trimLeftS s.data.toList [32, 9]).toArray⟩) ∧ Below w.heap.size w w' :=
  Any.strings_TrimLeft_laid Tryd.lays161 Tryd.info89 s blanksB w (by decide) ascii_blanks
theorem trim_blank (s : ByteArray) (hs : s.size ≤ 100000) (w : World) :
    Calls Tryd.prog 58 #[.string s, .string blanksB] w fun e w' => e = .returned (.string ⟨(Lib.trimS s.data.toList [32, 9]).toArray⟩) ∧ Below w.heap.size w w' :=
  Any.strings_Trim_laid Tryd.lays160 Tryd.info89 s blanksB w (by omega) (by decide) ascii_blanks

/-! #### Words -/
def blank (c : UInt8) : Bool := c == 32 || c == 9
theorem contains_blank (c : UInt8) : List.contains [32, 9] c = blank c := by
  rw [blank, Bool.eq_iff_iff]
  simp [List.contains_cons]
def wordsGo (cur : List UInt8) : List UInt8 → List (List UInt8)
  | [] => if cur = [] then [] else [cur.reverse]
  | c :: t => if blank c = true then (if cur = [] then wordsGo [] t else cur.reverse :: wordsGo [] t) else wordsGo (c :: cur) t
def wordsV (s : ByteArray) : List ByteArray := (wordsGo [] s.data.toList).map bytesOf
theorem wordsGo_drop (l : List UInt8) : wordsGo [] l = wordsGo [] (Lib.trimLeftS l [32, 9]) := by
  unfold Lib.trimLeftS
  induction l with
  | nil => rfl
  | cons c t ih =>
    rw [List.dropWhile_cons, contains_blank]
    by_cases h : blank c = true
    · rw [if_pos h, wordsGo, if_pos h, if_pos rfl, ih]
    · rw [if_neg h]
theorem wordsGo_span : ∀ (l cur : List UInt8), (cur ≠ [] ∨ (l ≠ [] ∧ ∀ c, l.head? = some c → blank c = false)) → wordsGo cur l = (cur.reverse ++ l.takeWhile fun c => !blank c) :: wordsGo [] (l.dropWhile fun c => !blank c) := by
  intro l
  induction l with
  | nil =>
    intro cur h
    have : cur ≠ [] := by
      rcases h with h | h
      · exact h
      · exact absurd rfl h.1
    simp [wordsGo, this]
  | cons c t ih =>
    intro cur h
    by_cases hb : blank c = true
    · have hc : cur ≠ [] := by
        rcases h with h | h
        · exact h
        · have := h.2 c rfl
          rw [hb] at this
          exact absurd this (by simp)
      rw [wordsGo, if_pos hb, if_neg hc]
      have h1 : wordsGo [] (c :: t) = wordsGo [] t := by rw [wordsGo, if_pos hb, if_pos rfl]
      simp [hb, h1]
    · rw [wordsGo, if_neg hb, ih (c :: cur) (.inl (by simp))]
      simp [hb]
/-- Where the word ends. -/
def cutAt (l : List UInt8) : Nat := if Lib.indexAny l [32, 9] < 0 then l.length else (Lib.indexAny l [32, 9]).toNat
theorem cutAt_cons (c : UInt8) (t : List UInt8) : cutAt (c :: t) = if blank c = true then 0 else cutAt t + 1 := by
  unfold cutAt
  rw [Lib.indexAny, contains_blank]
  have hge := Lib.indexAny_ge [32, 9] t
  by_cases h : blank c = true
  · simp [h]
  · rw [if_neg h, if_neg h]
    by_cases h1 : Lib.indexAny t [32, 9] = -1
    · rw [h1]
      simp
    · have e1 : (Lib.indexAny t [32, 9] == -1) = false := by simpa using h1
      rw [e1]
      simp only [Bool.false_eq_true, if_false]
      rw [if_neg (by omega), if_neg (by omega)]
      omega
theorem cutAt_spec (l : List UInt8) : l.take (cutAt l) = (l.takeWhile fun c => !blank c) ∧ l.drop (cutAt l) = (l.dropWhile fun c => !blank c) ∧ cutAt l ≤ l.length := by
  induction l with
  | nil => simp [cutAt, Lib.indexAny]
  | cons c t ih =>
    rw [cutAt_cons]
    by_cases h : blank c = true
    · simp [h]
    · rw [if_neg h, List.take_succ_cons, List.drop_succ_cons]
      simp [h, ih.1, ih.2.1, ih.2.2]
theorem trimLeft_head (l : List UInt8) : ∀ c, (Lib.trimLeftS l [32, 9]).head? = some c → blank c = false := by
  intro c h
  unfold Lib.trimLeftS at h
  have := List.head?_dropWhile_not (fun b => List.contains [32, 9] b) l
  rw [h] at this
  simp only [contains_blank] at this
  simpa using this
theorem trimLeft_len (l : List UInt8) : (Lib.trimLeftS l [32, 9]).length ≤ l.length := by
  unfold Lib.trimLeftS
  exact (List.dropWhile_sublist _).length_le
/-- One round of words. -/
theorem words_round (u v : List UInt8) (hv : v = Lib.trimLeftS u [32, 9]) : (v = [] → wordsGo [] u = []) ∧ (v ≠ [] → wordsGo [] u = v.take (cutAt v) :: wordsGo [] (v.drop (cutAt v)) ∧ (v.drop (cutAt v)).length < u.length) := by
  have h1 := wordsGo_drop u
  have h2 := trimLeft_head u
  have h3 := trimLeft_len u
  rw [← hv] at h1 h2 h3
  refine ⟨fun e => by rw [h1, e]; rfl, fun e => ?_⟩
  have hs := cutAt_spec v
  rw [h1, wordsGo_span v [] (.inr ⟨e, h2⟩), ← hs.1, ← hs.2.1]
  refine ⟨rfl, ?_⟩
  cases v with
  | nil => exact absurd rfl e
  | cons c t =>
    have hb := h2 c rfl
    rw [cutAt_cons, if_neg (by simp [hb]), List.drop_succ_cons, List.length_drop]
    simp only [List.length_cons] at h3
    omega
theorem wordsGo_len : ∀ (s cur : List UInt8), (wordsGo cur s).length ≤ s.length + 1 := by
  intro s
  induction s with
  | nil =>
    intro cur
    rw [wordsGo]
    split <;> simp
  | cons c t ih =>
    intro cur
    rw [wordsGo]
    have h1 := ih []
    have h2 := ih (c :: cur)
    split
    · split <;> simp only [List.length_cons] <;> omega
    · simp only [List.length_cons] at h2 ⊢
      omega
theorem ba_ext {a b : ByteArray} (h : a.data.toList = b.data.toList) : a = b := by
  cases a with
  | mk x =>
    cases b with
    | mk y => rw [show x = y from Array.ext' h]
theorem ext_take (v : ByteArray) (k : Nat) : (⟨(v.data.toList.take k).toArray⟩ : ByteArray) = v.extract 0 k := by
  apply ba_ext
  simp [ByteArray.data_extract]
theorem ext_drop (v : ByteArray) (k : Nat) : (⟨(v.data.toList.drop k).toArray⟩ : ByteArray) = v.extract k v.size := by
  apply ba_ext
  rw [ByteArray.data_extract, Array.toList_extract, List.extract_eq_take_drop, List.take_of_length_le]
  rw [List.length_drop, ← Lib.size_eq]
  exact Nat.le_refl _
set_option maxHeartbeats 1000000 in
theorem words1_in (l Bn n₀ : Nat) (xs : List ByteArray) (J : List ByteArray → World → Prop) (hJ : CalmC Bn J) (s : ByteArray) (hs : s.size ≤ 100000) (W : World) (hxs : wordsV s = xs)
    (hY : ∀ pre x W1, J pre W1 → (∃ t, pre ++ x :: t = xs) → YieldAt Fence.wide (3 - 1) Tryd.prog l #[.string x] W1 fun e W' => e = .returned (.bool true) ∧ J (pre ++ [x]) W' ∧ Below n₀ W1 W')
    (hbn : Bn < n₀) (hn0 : n₀ ≤ W.heap.size) (hBn : W.cell? ⟨Bn, 0, none⟩ = some (.string s)) (hfz : W.frozen? ⟨Bn, 0, none⟩ = false) (h0 : J [] W) :
    CallsIn Fence.wide 3 Tryd.prog 76 #[.func (.yield l) #[] #[], .pointer (some ⟨Bn, 0, none⟩)] W fun e W' => (∃ v, e = .returned v) ∧ J xs W' := by
  have HY := Lib.hid hY
  have H0 := Lib.hid h0
  have HJ := Lib.hid hJ
  have HX := Lib.hid hxs
  have HB := Lib.hid hBn
  have HF := Lib.hid hfz
  clear hY h0 hJ hxs hBn hfz
  refine callsIn_of_wp Tryd.func76 rfl trivial ?_ rfl
  simp only [Tryd.ntmps76, List.size_toArray, List.length_cons, List.length_nil, Nat.reduceAdd, Nat.reduceSub, Array.replicate_succ, Array.replicate_zero, List.push_toArray, List.append_toArray, List.nil_append, List.cons_append]
  gi_wp2
  gi_loopw [] (fun wr => ∃ (pre : List ByteArray) (u : ByteArray), Hid (J pre wr) ∧ Hid (pre ++ wordsV u = xs) ∧ u.size ≤ 100000 ∧ Hid (wr.cell? ⟨Bn, 0, none⟩ = some (.string u)) ∧ Hid (wr.frozen? ⟨Bn, 0, none⟩ = false) ∧ n₀ ≤ wr.heap.size)
    (fun wr => leftAt Bn wr)
  case atStart => exact ⟨[], s, H0, by simpa [Hid] using HX.out, hs, HB, HF, hn0⟩
  case round =>
    obtain ⟨pre, u, hJu, hpu, hsu, hcu, hfu, hnu⟩ := hrel
    have hc := hcu.out
    obtain ⟨v, hv⟩ : ∃ v : ByteArray, v = ⟨(Lib.trimLeftS u.data.toList [32, 9]).toArray⟩ := ⟨_, rfl⟩
    have htr := Lib.hid (trimLeft_blank u wr)
    rw [← hv] at htr
    have hcB : Hid (∀ w', Below wr.heap.size wr w' → w'.cell? ⟨Bn, 0, none⟩ = some (.string u) ∧ w'.frozen? ⟨Bn, 0, none⟩ = false) := fun w' h => ⟨(h.cell (p := ⟨Bn, 0, none⟩) (cell_lt' hc)).trans hc, (h.frozen (p := ⟨Bn, 0, none⟩) (cell_lt' hc)).trans hfu.out⟩
    have hround := words_round u.data.toList v.data.toList (by rw [hv])
    have hv' := trimLeft_len u.data.toList
    have hvs : v.size ≤ 100000 := by
      rw [hv]
      show (Lib.trimLeftS u.data.toList [32, 9]).toArray.size ≤ _
      rw [List.size_toArray]
      have : u.data.toList.length = u.size := by simp
      omega
    clear hv hv'
    have hidx := Lib.hid (fun w => indexAny_blank v hvs w)
    have hge := Lib.indexAny_ge [32, 9] v.data.toList
    obtain ⟨ix, hix⟩ : ∃ ix, Lib.indexAny v.data.toList [32, 9] = ix := ⟨_, rfl⟩
    rw [hix] at hidx hge
    have hcV : Hid (∀ w1 w3, Below wr.heap.size wr w1 → Below (w1.setCell ⟨Bn, 0, none⟩ (.string v)).heap.size (w1.setCell ⟨Bn, 0, none⟩ (.string v)) w3 → w3.cell? ⟨Bn, 0, none⟩ = some (.string v) ∧ w3.frozen? ⟨Bn, 0, none⟩ = false ∧ Hid (J pre w3) ∧ n₀ ≤ w3.heap.size) := by
      intro w1 w3 h1 h3
      obtain ⟨a1, a2⟩ := hcB.out w1 h1
      have hlt := cell_lt' a1
      have b1 : (w1.setCell ⟨Bn, 0, none⟩ (.string v)).cell? ⟨Bn, 0, none⟩ = some (.string v) := World.cell?_setCell_same' _ _ _ (by rw [a1]; rfl)
      have b2 : (w1.setCell ⟨Bn, 0, none⟩ (.string v)).frozen? ⟨Bn, 0, none⟩ = false := by rw [World.frozen?_setCell]; exact a2
      refine ⟨(h3.cell (p := ⟨Bn, 0, none⟩) (cell_lt' b1)).trans b1, (h3.frozen (p := ⟨Bn, 0, none⟩) (cell_lt' b1)).trans b2, HJ.out.below _ _ _ (HJ.out.cell _ _ _ (HJ.out.below _ _ _ hJu.out h1)) h3, ?_⟩
      have := h1.size
      have := h3.size
      simp at this
      omega
    by_cases e : v = ByteArray.empty
    · subst e
      have hix1 : ix = -1 := by rw [← hix]; rfl
      subst hix1
      have hfin : Hid (pre = xs) := by
        have h := hpu.out
        unfold wordsV at h
        rw [hround.1 rfl] at h
        show pre = xs
        simpa using h
      clear hround hix
      gi_wp2_with (first | (refine ⟨trivial, ?_⟩; gi_at_call 77; refine (callsIn_wide.2 htr.out).mono ?_; rintro e w1 ⟨rfl, hb1⟩; obtain ⟨hc1, hf1⟩ := hcB.out _ hb1) | (refine ⟨trivial, ?_⟩; gi_at_call 78; refine (callsIn_wide.2 (hidx.out _)).mono ?_; rintro e w3 ⟨rfl, hb3⟩; obtain ⟨hc3, hf3, hj3, hn3⟩ := hcV.out _ _ hb1 hb3))
      refine ⟨fun _ h => (by cases h), ?_⟩
      gi_wp2
      refine bodyPost_ret (results_none rfl _ _ _) rfl ?_
      exact ⟨⟨_, rfl⟩, by rw [← hfin.out]; exact hj3.out⟩
    · obtain ⟨hr1, hr2⟩ := hround.2 (ba_ne e)
      obtain ⟨x, hx⟩ : ∃ x : ByteArray, x = ⟨(v.data.toList.take (cutAt v.data.toList)).toArray⟩ := ⟨_, rfl⟩
      obtain ⟨z, hz⟩ : ∃ z : ByteArray, z = ⟨(v.data.toList.drop (cutAt v.data.toList)).toArray⟩ := ⟨_, rfl⟩
      have hxs : Hid ((pre ++ [x]) ++ wordsV z = xs) := by
        have h := hpu.out
        unfold wordsV at h ⊢
        rw [hr1] at h
        rw [hx, hz]
        simpa [Hid, bytesOf] using h
      have hzl : Hid (z.size < u.size) := by
        rw [hz]
        show (v.data.toList.drop (cutAt v.data.toList)).toArray.size < u.size
        rw [List.size_toArray]
        have : u.data.toList.length = u.size := by simp
        omega
      have hne : v.toList.isEmpty = false := ba_isEmpty e
      have hk := (cutAt_spec v.data.toList).2.2
      rw [← Lib.size_eq] at hk
      have hround' : Hid (∀ w3, J pre w3 → YieldAt Fence.wide (3 - 1) Tryd.prog l #[.string x] w3 fun e W' => e = .returned (.bool true) ∧ J (pre ++ [x]) W' ∧ Below n₀ w3 W') := fun w3 hj =>
        HY.out pre x _ hj ⟨wordsV z, by have := hxs.out; rwa [List.append_assoc] at this⟩
      clear hr1 hr2 hround
      by_cases hneg : ix < 0
      · have hcut : cutAt v.data.toList = v.size := by
          unfold cutAt
          rw [hix, if_pos hneg, Lib.size_eq]
        have hix1 : ix = -1 := by omega
        subst hix1
        rw [hcut] at hx hz
        have hxv : x = v := by rw [hx, Lib.size_eq, List.take_length]
        have hzv : z = ByteArray.empty := by rw [hz, Lib.size_eq, List.drop_length]; rfl
        subst hxv hzv
        clear hix hneg hge hcut hk hx hz
        gi_wp2_with (first | (refine ⟨trivial, ?_⟩; gi_at_call 77; refine (callsIn_wide.2 htr.out).mono ?_; rintro e w1 ⟨rfl, hb1⟩; obtain ⟨hc1, hf1⟩ := hcB.out _ hb1) | (refine ⟨trivial, ?_⟩; gi_at_call 78; refine (callsIn_wide.2 (hidx.out _)).mono ?_; rintro e w3 ⟨rfl, hb3⟩; obtain ⟨hc3, hf3, hj3, hn3⟩ := hcV.out _ _ hb1 hb3; obtain ⟨fn, tmps, assign, body, hy, hR⟩ := hround'.out _ hj3.out))
        refine hR.mono ?_
        rintro e W3 ⟨rfl, hJ4, hb4⟩
        have hc4 : W3.cell? ⟨Bn, 0, none⟩ = some (.string x) := (hb4.cell (p := ⟨Bn, 0, none⟩) hbn).trans hc3
        have hf4 : W3.frozen? ⟨Bn, 0, none⟩ = false := (hb4.frozen (p := ⟨Bn, 0, none⟩) hbn).trans hf3
        have HJ4 := Lib.hid hJ4
        have hs4 : n₀ ≤ W3.heap.size := Nat.le_trans hn3 hb4.size
        clear hJ4 hb4 hy hR hc3 hf3 hc1 hf1
        gi_wp2
        go_roundw
        case rel =>
          refine ⟨pre ++ [x], ByteArray.empty, HJ.out.cell _ _ _ HJ4.out, hxs, by have := hzl.out; omega, ?_, ?_, ?_⟩
          · exact World.cell?_setCell_same' _ _ _ (by rw [hc4]; rfl)
          · show World.frozen? _ _ = false
            rw [World.frozen?_setCell]
            exact hf4
          · simpa using hs4
        case measure =>
          have h1 : leftAt Bn wr = u.size := by simp [leftAt, hc]
          have h2 : leftAt Bn (W3.setCell ⟨Bn, 0, none⟩ (.string ByteArray.empty)) = (ByteArray.empty : ByteArray).size := by
            unfold leftAt
            rw [World.cell?_setCell_same' _ _ _ (by rw [hc4]; rfl)]
          rw [h1, h2]
          exact hzl.out
      · obtain ⟨k, rfl⟩ := Int.eq_ofNat_of_zero_le (show 0 ≤ ix by omega)
        have hcut : cutAt v.data.toList = k := by
          unfold cutAt
          rw [hix, if_neg hneg]
          rfl
        rw [hcut] at hx hz hk
        have hk9 : (k : Int) ≤ v.size := by omega
        have hv9 : (v.size : Int) ≤ 100000 := by omega
        rw [ext_take] at hx
        rw [ext_drop] at hz
        subst hx hz
        clear hix hneg hge hcut
        gi_wp2_with (first | (refine ⟨trivial, ?_⟩; gi_at_call 77; refine (callsIn_wide.2 htr.out).mono ?_; rintro e w1 ⟨rfl, hb1⟩; obtain ⟨hc1, hf1⟩ := hcB.out _ hb1) | (refine ⟨trivial, ?_⟩; gi_at_call 78; refine (callsIn_wide.2 (hidx.out _)).mono ?_; rintro e w3 ⟨rfl, hb3⟩; obtain ⟨hc3, hf3, hj3, hn3⟩ := hcV.out _ _ hb1 hb3; obtain ⟨fn, tmps, assign, body, hy, hR⟩ := hround'.out _ hj3.out))
        refine hR.mono ?_
        rintro e W3 ⟨rfl, hJ4, hb4⟩
        have hc4 : W3.cell? ⟨Bn, 0, none⟩ = some (.string v) := (hb4.cell (p := ⟨Bn, 0, none⟩) hbn).trans hc3
        have hf4 : W3.frozen? ⟨Bn, 0, none⟩ = false := (hb4.frozen (p := ⟨Bn, 0, none⟩) hbn).trans hf3
        have HJ4 := Lib.hid hJ4
        have hs4 : n₀ ≤ W3.heap.size := Nat.le_trans hn3 hb4.size
        clear hJ4 hb4 hy hR hc3 hf3 hc1 hf1
        gi_wp2
        go_roundw
        case rel =>
          refine ⟨pre ++ [v.extract 0 k], v.extract k v.size, HJ.out.cell _ _ _ HJ4.out, hxs, by have := hzl.out; omega, ?_, ?_, ?_⟩
          · exact World.cell?_setCell_same' _ _ _ (by rw [hc4]; rfl)
          · show World.frozen? _ _ = false
            rw [World.frozen?_setCell]
            exact hf4
          · simpa using hs4
        case measure =>
          have h1 : leftAt Bn wr = u.size := by simp [leftAt, hc]
          have h2 : leftAt Bn (W3.setCell ⟨Bn, 0, none⟩ (.string (v.extract k v.size))) = (v.extract k v.size).size := by
            unfold leftAt
            rw [World.cell?_setCell_same' _ _ _ (by rw [hc4]; rfl)]
          rw [h1, h2]
          exact hzl.out

theorem words_gives (Bn n₀ : Nat) (s : ByteArray) (hs : s.size ≤ 100000) (w : World) (hbn : Bn < n₀) (hn0 : n₀ ≤ w.heap.size) (hBn : w.cell? ⟨Bn, 0, none⟩ = some (.string s)) (hfz : w.frozen? ⟨Bn, 0, none⟩ = false) :
    Gives Fence.wide 3 Tryd.prog 76 #[.pointer (some ⟨Bn, 0, none⟩)] (fun x : ByteArray => #[.string x]) Bn n₀ (wordsV s) w := by
  intro l J W hb hJ hY h0
  exact words1_in l Bn n₀ _ J hJ s hs W rfl hY hbn (Nat.le_trans hn0 hb.size) ((hb.cell (p := ⟨Bn, 0, none⟩) (by show Bn < _; omega)).trans hBn) ((hb.frozen (p := ⟨Bn, 0, none⟩) (by show Bn < _; omega)).trans hfz) h0
theorem words_mk (s : ByteArray) (w : World) : Calls Tryd.prog 55 #[.string s] w fun e w' => e = .returned (.func (.func 76) #[] #[.pointer (some ⟨w.heap.size, 0, none⟩)]) ∧ w' = w.alloc (.cells #[.string s] 9) := by
  go_enter Tryd.func55, Tryd.ntmps55
  go_wp2
  go_ret
  exact ⟨rfl, rfl⟩
theorem enters76 (args : Array Value) (w : World) : (callFunc 76 args).run Tryd.prog w = .ok (.enter 76 args) w := enters_of Tryd.func76 (by kernel_rfl) rfl args w
set_option maxHeartbeats 1000000 in
theorem words_walk (s : ByteArray) (hs : s.size ≤ 100000) (w : World) :
    Calls Tryd.prog 24 #[.string s] w fun e w' => ∃ v, e = .returned v ∧ Kd.R Kd.string 9 w' w.heap.size (fun _ => True) v (wordsV s) ∧ Below w.heap.size w w' := by
  have hB : Hid (Below w.heap.size w (w.alloc (.cells #[.string s] 9))) := (Below.refl _ w).alloc (Nat.le_refl _) _
  have hll : (wordsV s).length ≤ 1000000 := by
    have := wordsGo_len s.data.toList []
    have e : s.data.toList.length = s.size := by simp
    unfold wordsV
    rw [List.length_map]
    omega
  have HG := Lib.hid (gather_in 76 #[.pointer (some ⟨w.heap.size, 0, none⟩)] enters76 w.heap.size (wordsV s) hll (w.alloc (.cells #[.string s] 9)) (by simp)
    (words_gives w.heap.size _ s hs _ (by simp) (Nat.le_refl _) (by simp) (by simp)))
  refine (callsIn_wide (n := 5)).1 ?_
  refine callsIn_of_wp Tryd.func24 rfl trivial ?_ rfl
  simp only [Tryd.ntmps24, List.size_toArray, List.length_cons, List.length_nil, Nat.reduceAdd, Nat.reduceSub, Array.replicate_succ, Array.replicate_zero, List.push_toArray, List.append_toArray, List.nil_append, List.cons_append]
  gi_wp2_with (first | (refine ⟨trivial, ?_⟩; gi_at_call 55; refine (callsIn_wide.2 (words_mk s w)).mono ?_; rintro e w' ⟨rfl, rfl⟩) | (refine ⟨trivial, ?_⟩; gi_at_call 49; refine HG.out.mono ?_; rintro e w' ⟨v, rfl, hr, hb⟩))
  go_ret
  refine ⟨_, rfl, Kd.R_lower (R_strs hr) (by simp), hB.out.trans (hb)⟩

/-! #### Trim, Join -/
def trimV (s : ByteArray) : ByteArray := ⟨(Lib.trimS s.data.toList [32, 9]).toArray⟩
theorem trim_walk (s : ByteArray) (hs : s.size ≤ 100000) (w : World) : Calls Tryd.prog 30 #[.string s] w fun e w' => e = .returned (.string (trimV s)) ∧ Below w.heap.size w w' := by
  have HT := Lib.hid (trim_blank s hs w)
  go_enter Tryd.func30, Tryd.ntmps30
  go_wp2_with (go_at_call 58; refine HT.out.mono ?_; rintro e w' ⟨rfl, hb⟩)
  go_ret
  exact ⟨rfl, hb⟩
def joinV (l : List ByteArray) : ByteArray := ⟨(Lib.join (l.map (·.data.toList)) [32]).toArray⟩
theorem join_walk (A : Option Addr) (c : Nat) (l : List ByteArray) (w : World) (hC : Kd.C Kd.string w A l.length l) (hc : l.length ≤ c) (hl : l.length ≤ 100000) (hlen : (joinV l).size ≤ 100000000) :
    Calls Tryd.prog 28 #[.slice A l.length c] w fun e w' => e = .returned (.string (joinV l)) ∧ Below w.heap.size w w' := by
  have HJ : Hid (Calls Tryd.prog 57 #[.slice A l.length c, .string ⟨#[32]⟩] w fun e w' => e = .returned (.string (joinV l)) ∧ Below w.heap.size w w') := by
    cases l with
    | nil => exact (Tryd.strings_Join_none A c ⟨#[32]⟩ w).mono (by rintro e w' ⟨he, rfl⟩; exact ⟨he, Below.refl _ _⟩)
    | cons x t =>
      obtain ⟨ad, rfl, hx⟩ := hC.2.2 (by simp)
      have hcell : ∀ (j : Nat) y, (x :: t)[j]? = some y → w.cell? (ad.add j) = some (.string y) := by
        intro j y hy
        obtain ⟨cs, hl, hk, hcs⟩ := hx j y hy
        obtain rfl : cs = [.string y] := hk
        have := hcs 0 _ rfl
        simpa [Kd.string, Kd.scalar] using this
      have h0 := hcell 0 x rfl
      obtain ⟨bk, o, sp⟩ := ad
      obtain rfl : sp = none := by
        cases sp with
        | none => rfl
        | some k =>
          have h0' : w.cell? ⟨bk, o, some k⟩ = some (.string x) := by simpa [Addr.add] using h0
          unfold World.cell? at h0'
          simp only [Option.isSome_some, if_true] at h0'
          split at h0' <;> cases h0'
      have hadd : ∀ j, (⟨bk, o, none⟩ : Addr).add j = ⟨bk, o + j, none⟩ := by
        intro j
        unfold Addr.add
        split
        · next h => rw [h]; rfl
        · rfl
      exact Tryd.strings_Join bk o c (x :: t) ⟨#[32]⟩ w (fun j y hy => by rw [← hadd]; exact hcell j y hy) (cell_lt' (p := ⟨bk, o, none⟩) (by have := hcell 0 x rfl; rwa [hadd] at this)) (by omega) hc (by
        have e : (joinV (x :: t)).size = (Lib.join ((x :: t).map (·.data.toList)) [32]).length := by
          show (Lib.join _ _).toArray.size = _
          rw [List.size_toArray]
        show (Lib.join ((x :: t).map (·.data.toList)) [32]).length ≤ _
        omega)
  clear hC
  go_enter Tryd.func28, Tryd.ntmps28
  go_wp2_with (go_at_call 57; refine HJ.out.mono ?_; rintro e w' ⟨rfl, hb⟩)
  go_ret
  exact ⟨rfl, hb⟩
end Go.Proofs.YtocpfgdajomjiaaDoor.Hand
