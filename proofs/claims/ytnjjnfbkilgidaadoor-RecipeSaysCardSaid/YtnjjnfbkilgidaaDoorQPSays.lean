import Derived.Test.YtnjjnfbkilgidaaDoorQD
import Derived.Test.YtnjjnfbkilgidaaDoorQK7
import Derived.KernelRfl
/- Plain: RecipeSays. -/
namespace Go.Proofs.YtnjjnfbkilgidaaDoor.Pure
open Go.RowKit Go.Proofs.YtnjjnfbkilgidaaDoor.Fr Go.Proofs.YtnjjnfbkilgidaaDoor.K Go.Proofs.YtnjjnfbkilgidaaDoorW.PrintWords
open Go.Proofs.YtnjjnfbkilgidaaDoor.Hand (joinV wordsV wordsGo linesV linesGo ba_ext)
set_option linter.unusedVariables false
set_option linter.unusedSimpArgs false
theorem words_end (r : List UInt8) : ∀ (x cur : List UInt8), (∀ c ∈ x, Hand.blank c = false) → (cur ≠ [] ∨ x ≠ []) → wordsGo cur (x ++ 32 :: r) = (cur.reverse ++ x) :: wordsGo [] r := by
  intro x
  induction x with
  | nil =>
    intro cur _ h
    have hc : cur ≠ [] := h.resolve_right (fun h => h rfl)
    rw [List.nil_append, wordsGo, if_pos (by decide), if_neg hc, List.append_nil]
  | cons c t ih =>
    intro cur hx _
    have hb := hx c (List.mem_cons_self ..)
    rw [List.cons_append, wordsGo, if_neg (by rw [hb]; decide), ih (c :: cur) (fun y hy => hx y (List.mem_cons_of_mem _ hy)) (.inl (by simp))]
    simp
def tB : ByteArray := ⟨#[116]⟩
def moreB : ByteArray := ⟨#[109, 111, 114, 101]⟩
def xB : ByteArray := ⟨#[120]⟩
def lineB (x : ByteArray) : ByteArray := ((⟨#[109, 111, 114, 101, 32, 116, 32]⟩ : ByteArray) ++ x) ++ (⟨#[32, 120]⟩ : ByteArray)
theorem words_line (x : ByteArray) (h0 : x.data.toList ≠ []) (hx : ∀ c ∈ x.data.toList, Hand.blank c = false) : wordsV (lineB x) = [moreB, tB, x, xB] := by
  have e : (lineB x).data.toList = 109 :: 111 :: 114 :: 101 :: 32 :: 116 :: 32 :: (x.data.toList ++ 32 :: [120]) := by
    unfold lineB
    rw [data_app, data_app]
    simp
  unfold wordsV
  rw [e]
  have e2 : wordsGo [] (109 :: 111 :: 114 :: 101 :: 32 :: 116 :: 32 :: (x.data.toList ++ 32 :: [120])) = [109, 111, 114, 101] :: [116] :: wordsGo [] (x.data.toList ++ 32 :: [120]) := by
    simp [wordsGo, Hand.blank]
  rw [e2, words_end [120] x.data.toList [] hx (.inr h0)]
  have e3 : wordsGo [] [120] = [[120]] := by decide
  rw [e3]
  rfl
theorem path_t : pathV tB = true := by decide +kernel
theorem right_line (x : ByteArray) : rightV [moreB, tB, x, xB] = true := by
  have hn : namesV [moreB, tB, x, xB] = 1 := by
    unfold namesV
    have hv : v0 [moreB, tB, x, xB] = [109, 111, 114, 101] := by
      unfold v0; rw [tl]; rfl
    rw [hv]
    rfl
  unfold rightV
  rw [hn]
  show (decide ((0 : Int) ≤ 1) && [tB].all pathV) = true
  simp [path_t]
theorem cmd_line (x : ByteArray) : v0 [moreB, tB, x, xB] = [109, 111, 114, 101] ∧ verbV [109, 111, 114, 101] = ([109, 111, 114, 101], false) ∧ cmdV [moreB, tB, x, xB] = [moreB, tB, x, xB] := by
  have hv : v0 [moreB, tB, x, xB] = [109, 111, 114, 101] := by
    unfold v0; rw [tl]; rfl
  have h2 : verbV [109, 111, 114, 101] = ([109, 111, 114, 101], false) := by decide
  refine ⟨hv, h2, ?_⟩
  unfold cmdV
  rw [hv, h2]
  rfl
theorem find_t (s : ByteArray) : findF [⟨tB, s⟩] tB = some ⟨tB, s⟩ := by
  unfold findF
  rw [List.find?_cons]
  simp
theorem put_t (a s : ByteArray) : putF [⟨tB, a⟩] ⟨tB, s⟩ = [⟨tB, s⟩] := by
  unfold putF dropF
  simp [insF]
theorem do_line (a x : ByteArray) (f : Int) (ha : a.size + x.size + 3 ≤ 1400) (hf : 20 ≤ f) : ∃ f', f - 15 ≤ f' ∧ doV [⟨tB, a⟩] [] f [moreB, tB, x, xB] = (0, [⟨tB, (a ++ x) ++ (⟨#[32, 120, 10]⟩ : ByteArray)⟩], f') := by
  obtain ⟨h1, h2, h3⟩ := cmd_line x
  have hs : hadV [⟨tB, a⟩] [] tB ++ joinV [x, xB] ++ ⟨#[10]⟩ = (a ++ x) ++ (⟨#[32, 120, 10]⟩ : ByteArray) := by
    have e1 : hadV [⟨tB, a⟩] [] tB = a := by unfold hadV fileV; rw [find_t]; rfl
    rw [e1]
    apply ba_ext
    rw [data_app, data_app, data_app, data_app]
    have e2 : (joinV [x, xB]).data.toList = x.data.toList ++ [32, 120] := by
      unfold joinV
      show Lib.join [x.data.toList, [120]] [32] = _
      simp [Lib.join]
    rw [e2]
    simp
  have hlaid : laidV [⟨tB, a⟩] [] [moreB, tB, x, xB] = (tB, (a ++ x) ++ (⟨#[32, 120, 10]⟩ : ByteArray), true) := by
    unfold laidV
    rw [h1]
    show (tB, hadV [⟨tB, a⟩] [] tB ++ joinV [x, xB] ++ ⟨#[10]⟩, true) = _
    rw [hs]
  have hz : ((a ++ x) ++ (⟨#[32, 120, 10]⟩ : ByteArray)).size = a.size + x.size + 3 := by rw [ByteArray.size_append, ByteArray.size_append]; rfl
  generalize (a ++ x) ++ (⟨#[32, 120, 10]⟩ : ByteArray) = s at hlaid hz
  refine ⟨f - (1 + (s.size : Int) / 100), by omega, ?_⟩
  unfold doV
  rw [h1, h2, h3, if_neg (by rw [right_line]; decide), hlaid]
  unfold layV
  have hb : (!true || decide (4000 < s.size)) = false := by rw [decide_eq_false (by omega)]; rfl
  simp only [hb]
  rw [if_neg Bool.false_ne_true, if_neg (by omega)]
  simp only [if_neg (show ¬ tB.toList = [] by rw [tl]; decide), if_neg (show ¬ (([109, 111, 114, 101] : List UInt8) = [114, 109] ∨ ([109, 111, 114, 101] : List UInt8) = [109, 118]) by decide), put_t]
structure SInv (i : Nat) (x4 : List ByteArray) (x5 : ByteArray) : Prop where
  len : x4.length = i + 1
  sz : ∀ s ∈ x4, s.size ≤ 200
  acc : x5.size ≤ 103 * i
  run : ∃ f : Int, 9998 - 15 * i ≤ f ∧ scriptV [] x4 [] 9999 = (0, [⟨tB, x5⟩], f)
theorem sinv0 : SInv 0 [⟨#[116, 111, 117, 99, 104, 32, 116]⟩] ⟨#[]⟩ :=
  ⟨rfl, fun s h => by rw [List.mem_singleton.1 h]; decide, Nat.le_refl _, 9998, by decide, by kernel_rfl⟩
theorem sinv_step {i : Nat} {x4 : List ByteArray} {x5 x : ByteArray} (h : SInv i x4 x5) (hi : i ≤ 11) (h0 : x.data.toList ≠ []) (hx : ∀ c ∈ x.data.toList, Hand.blank c = false) (hs : x.size ≤ 100) : SInv (i + 1) (x4 ++ [lineB x]) ((x5 ++ x) ++ (⟨#[32, 120, 10]⟩ : ByteArray)) := by
  have hacc := h.acc
  refine ⟨by rw [List.length_append, h.len]; rfl, fun s hs2 => ?_, ?_, ?_⟩
  · rcases List.mem_append.1 hs2 with hs2 | hs2
    · exact h.sz s hs2
    · rw [List.mem_singleton.1 hs2]
      unfold lineB
      rw [ByteArray.size_append, ByteArray.size_append]
      show 7 + x.size + 2 ≤ 200
      omega
  · rw [ByteArray.size_append, ByteArray.size_append]
    show x5.size + x.size + 3 ≤ _
    omega
  · obtain ⟨f, hf, hr⟩ := h.run
    obtain ⟨f', hf', hd⟩ := do_line x5 x f (by omega) (by omega)
    refine ⟨f', by omega, ?_⟩
    rw [scriptV_app, hr]
    show (if (0 : Int) = 0 then scriptV [] [lineB x] [⟨tB, x5⟩] f else _) = _
    rw [if_pos rfl, scriptV, words_line x h0 hx, if_neg (by simp), hd]
    rfl
theorem says_end {i : Nat} {x4 : List ByteArray} {x5 : ByteArray} (h : SInv i x4 x5) (l : List ByteArray) (hl : l.length ≤ 12) (hi : ¬ (i : Int) < (l.length : Int)) (hi2 : i ≤ 12) : Ev fun k => cooperagelaw15_RecipeSays.l0 k l x4 x5 (i : Int) = some true := by
  refine Ev.up (Ev.of fun k => ?_)
  have hr := run_ok x4 [] ⟨#[116]⟩ 9999 (by have := h.len; omega) (fun s hs => Nat.le_trans (h.sz s hs) (by decide)) (by decide) (fun f hf => by cases hf) (by decide)
  have hv : runV x4 [] ⟨#[116]⟩ 9999 = (x5, true, 0) := by
    unfold runV
    obtain ⟨f, _, hs⟩ := h.run
    have e1 : max (-1 : Int) (min 9999 10000) = 9999 := by decide
    rw [e1, hs]
    unfold endV
    rw [if_pos rfl]
    have := find_t x5
    unfold tB at this ⊢
    rw [this]
  simp only [cooperagelaw15_RecipeSays.l0]
  rw [if_neg hi, hr, hv, Option.bind_some, if_pos rfl, if_pos rfl]
  rfl
theorem bt_is (x : ByteArray) (j : Nat) (hj : j < x.data.toList.length) (n : Nat) (hn : n < 256) : bt x (j : Int) = (n : Int) ↔ x.data.toList[j] = UInt8.ofNat n := by
  rw [bt_nat x j hj]
  constructor
  · intro h
    have : (x.data.toList[j]).toNat = n := by omega
    rw [← this]; simp
  · intro h
    rw [h]
    simp [Nat.mod_eq_of_lt hn]
theorem says_l1 (l : List ByteArray) (hl : l.length ≤ 12) (x4 : List ByteArray) (x5 : ByteArray) (i : Nat) (hi : i < l.length) (hs : l[i].size ≤ 100) (h4 : x4.length ≤ 20) (h5 : x5.size ≤ 2000)
    (hnext : (∀ c ∈ l[i].data.toList, Hand.blank c = false) → Ev fun k => cooperagelaw15_RecipeSays.l0 k l (x4 ++ [lineB l[i]]) ((x5 ++ l[i]) ++ (⟨#[32, 120, 10]⟩ : ByteArray)) ((i + 1 : Nat) : Int) = some true) :
    ∀ (n j : Nat), j + n = l[i].size → (∀ q (hq : q < l[i].data.toList.length), q < j → Hand.blank l[i].data.toList[q] = false) → Ev fun k => cooperagelaw15_RecipeSays.l1 k l x4 x5 (i : Int) (j : Int) = some true := by
  have hr := rdo hi
  have hlen := len_data l[i]
  intro n
  induction n with
  | zero =>
    intro j hj hq
    have hall : ∀ c ∈ l[i].data.toList, Hand.blank c = false := fun c hc => by
      obtain ⟨q, hq1, rfl⟩ := List.getElem_of_mem hc
      exact hq q hq1 (by omega)
    refine Ev.up ((hnext hall).mp fun k hk => ?_)
    simp only [cooperagelaw15_RecipeSays.l1]
    have hsz : ((⟨#[109, 111, 114, 101, 32, 116, 32]⟩ : ByteArray) ++ l[i]).size = 7 + l[i].size := by rw [ByteArray.size_append]; rfl
    have hsz2 : (x5 ++ l[i]).size = x5.size + l[i].size := by rw [ByteArray.size_append]
    rw [if_pos (by omega), if_pos (by omega), hr, if_neg (by omega), if_pos (by omega), if_pos (by omega), if_pos (by omega), if_pos (by omega), if_pos (by omega), w64s i (by omega)]
    exact hk
  | succ n ih =>
    intro j hj hq
    have hjl : j < l[i].data.toList.length := by omega
    have h32 : bt l[i] (j : Int) = 32 ↔ l[i].data.toList[j] = 32 := bt_is l[i] j hjl 32 (by decide)
    have h9 : bt l[i] (j : Int) = 9 ↔ l[i].data.toList[j] = 9 := bt_is l[i] j hjl 9 (by decide)
    by_cases e32 : l[i].data.toList[j] = 32
    · refine Ev.up (Ev.of fun k => ?_)
      simp only [cooperagelaw15_RecipeSays.l1]
      rw [if_pos (by omega), if_pos (by omega), hr, if_pos (by omega), if_pos (by omega), if_pos (h32.2 e32)]
    · by_cases e9 : l[i].data.toList[j] = 9
      · refine Ev.up (Ev.of fun k => ?_)
        simp only [cooperagelaw15_RecipeSays.l1]
        rw [if_pos (by omega), if_pos (by omega), hr, if_pos (by omega), if_pos (by omega), if_neg (fun h => e32 (h32.1 h)), if_pos (h9.2 e9)]
      · refine Ev.up ((ih (j + 1) (by omega) fun q hq1 hq2 => ?_).mp fun k hk => ?_)
        · by_cases e : q = j
          · subst e
            unfold Hand.blank
            rw [Bool.or_eq_false_iff]
            exact ⟨beq_eq_false_iff_ne.2 e32, beq_eq_false_iff_ne.2 e9⟩
          · exact hq q hq1 (by omega)
        · simp only [cooperagelaw15_RecipeSays.l1]
          rw [if_pos (by omega), if_pos (by omega), hr, if_pos (by omega), if_pos (by omega), if_neg (fun h => e32 (h32.1 h)), if_neg (fun h => e9 (h9.1 h)), w64s j (by omega)]
          exact hk
theorem says_l0 (l : List ByteArray) (hl : l.length ≤ 12) : ∀ (n i : Nat) (x4 : List ByteArray) (x5 : ByteArray), i + n = l.length → SInv i x4 x5 → Ev fun k => cooperagelaw15_RecipeSays.l0 k l x4 x5 (i : Int) = some true := by
  intro n
  induction n with
  | zero => intro i x4 x5 hi h; exact says_end h l hl (by omega) (by omega)
  | succ n ih =>
    intro i x4 x5 hi h
    have hlt : i < l.length := by omega
    have hr := rdo hlt
    by_cases h0 : l[i].toList = []
    · refine Ev.up (Ev.up (Ev.of fun k => ?_))
      simp only [cooperagelaw15_RecipeSays.l0]
      rw [if_pos (by omega), if_pos (by omega), hr, if_pos h0]
      simp only [cooperagelaw15_RecipeSays.j2]
      rw [if_pos trivial]
    · by_cases hs : l[i].size ≤ 100
      · have h1 := says_l1 l hl x4 x5 i hlt hs (by have := h.len; omega) (by have := h.acc; omega) (fun hb => ih (i + 1) _ _ (by omega) (sinv_step h (by omega) (by rw [← tl]; exact h0) hb hs)) l[i].size 0 (by omega) (fun q hq h => absurd h (by omega))
        refine Ev.up (Ev.up (h1.mp fun k hk => ?_))
        simp only [cooperagelaw15_RecipeSays.l0]
        rw [if_pos (by omega), if_pos (by omega), hr, if_neg h0, decide_eq_false (by omega)]
        simp only [cooperagelaw15_RecipeSays.j2]
        rw [if_neg Bool.false_ne_true]
        exact hk
      · refine Ev.up (Ev.up (Ev.of fun k => ?_))
        simp only [cooperagelaw15_RecipeSays.l0]
        rw [if_pos (by omega), if_pos (by omega), hr, if_neg h0, decide_eq_true (by omega)]
        simp only [cooperagelaw15_RecipeSays.j2]
        rw [if_pos trivial]
theorem RecipeSays : ∀ (l : List ByteArray), ∃ k, cooperagelaw15_RecipeSays.f k l = some true := by
  intro l
  by_cases hl : l.length ≤ 12
  · refine (Ev.up ((says_l0 l hl l.length 0 _ _ (by omega) sinv0).mp fun k hk => ?_) : Ev fun k => cooperagelaw15_RecipeSays.f k l = some true).get
    unfold cooperagelaw15_RecipeSays.f
    rw [shown_f, Option.bind_some, if_pos rfl, decide_eq_false (by omega)]
    simp only [cooperagelaw15_RecipeSays.j0]
    rw [if_neg Bool.false_ne_true]
    exact hk
  · refine (Ev.up (Ev.of fun k => ?_) : Ev fun k => cooperagelaw15_RecipeSays.f k l = some true).get
    unfold cooperagelaw15_RecipeSays.f
    rw [shown_f, Option.bind_some, if_pos rfl, decide_eq_true (by omega)]
    simp only [cooperagelaw15_RecipeSays.j0]
    rw [if_pos trivial]
end Go.Proofs.YtnjjnfbkilgidaaDoor.Pure
