import Derived.Test.YtghbaehbgefpaaaGreatDoorQ27
import Derived.Lib.SplitLaws
/- Several texts of this session in one: the walks of the functions that the laws reach, and what they tell. -/
set_option linter.unusedVariables false
set_option linter.unusedSimpArgs false
namespace Go.Proofs.YtghbaehbgefpaaaGreatDoor.Fr
open Go.RowKit Go.Proofs.YtghbaehbgefpaaaGreatDoor.F Go.Proofs.YtghbaehbgefpaaaGreatDoorW.PrintWords
def splG (c : UInt8) (cur : List UInt8) : List UInt8 → List (List UInt8)
  | [] => [cur.reverse]
  | b :: t => if b = c then cur.reverse :: splG c [] t else splG c (b :: cur) t
theorem splG_cur (c : UInt8) : ∀ a cur : List UInt8, ∃ h r, splG c [] a = h :: r ∧ splG c cur a = (cur.reverse ++ h) :: r := by
  intro a
  induction a with
  | nil => intro cur; exact ⟨[], [], rfl, by simp [splG]⟩
  | cons x t ih =>
    intro cur
    simp only [splG]
    split
    · exact ⟨[], splG c [] t, rfl, by simp⟩
    · obtain ⟨h, r, e1, e2⟩ := ih [x]
      obtain ⟨h', r', e1', e2'⟩ := ih (x :: cur)
      rw [e1] at e1'
      injection e1' with q1 q2
      subst q1 q2
      exact ⟨_, _, e2, by rw [e2']; simp⟩
theorem splitK_G (c : UInt8) : ∀ l : List UInt8, Lib.splitK [c] 0 (Lib.count l [c]) l = splG c [] l := by
  intro l
  induction l with
  | nil => rw [Lib.count_miss (by simp [Lib.index])]; rfl
  | cons b t ih =>
    by_cases h : b = c
    · subst h
      have hix : Lib.index (b :: t) [b] = ((0 : Nat) : Int) := by rw [Lib.index]; simp [List.isPrefixOf]
      rw [Lib.count_cons_eq, Nat.add_comm, Lib.splitK, hix]
      simp only [splG, if_true]
      rw [if_neg (by decide)]
      simpa using ih
    · rw [Lib.count_cons_ne b c t h, splG, if_neg h]
      obtain ⟨h1, r1, e1, e2⟩ := splG_cur c t [b]
      rw [e2]
      have hp : ([c] : List UInt8).isPrefixOf (b :: t) = false := by simp [List.isPrefixOf, Ne.symm h]
      have hix : Lib.index (b :: t) [c] = if Lib.index t [c] == -1 then -1 else Lib.index t [c] + 1 := by rw [Lib.index, hp]; simp
      rw [e1] at ih
      by_cases hm : Lib.index t [c] = -1
      · rw [Lib.count_miss hm] at ih ⊢
        simp only [Lib.splitK] at ih ⊢
        injection ih with q1 q2
        subst q1 q2
        simp
      · have hge := Lib.index_ge t [c]
        obtain ⟨j, hj⟩ : ∃ j : Nat, Lib.index t [c] = j := ⟨(Lib.index t [c]).toNat, by omega⟩
        have hix' : Lib.index (b :: t) [c] = ((j + 1 : Nat) : Int) := by rw [hix, if_neg (fun e => hm (beq_iff_eq.1 e)), hj]; omega
        rw [Lib.count_hit (by simp) hj, Nat.add_comm, Lib.splitK] at ih ⊢
        rw [hj, if_neg (by simp)] at ih
        rw [hix', if_neg (by simp; omega)]
        injection ih with q1 q2
        simp only [Int.toNat_natCast, Nat.add_zero, List.length_cons, List.length_nil, Nat.zero_add] at q1 q2 ⊢
        rw [show j + 1 + 1 = (j + 1) + 1 from rfl, List.take_succ_cons, List.drop_succ_cons, q1, q2]
        simp
def Ev (p : Nat → Prop) : Prop := ∃ k0, ∀ k, k0 ≤ k → p k
theorem Ev.of {p : Nat → Prop} (h : ∀ k, p k) : Ev p := ⟨0, fun k _ => h k⟩
theorem Ev.and {p q : Nat → Prop} : Ev p → Ev q → Ev fun k => p k ∧ q k := fun ⟨a, ha⟩ ⟨b, hb⟩ => ⟨max a b, fun k hk => ⟨ha k (by omega), hb k (by omega)⟩⟩
theorem Ev.mp {p q : Nat → Prop} (h : Ev p) (hi : ∀ k, p k → q k) : Ev q := let ⟨a, ha⟩ := h; ⟨a, fun k hk => hi k (ha k hk)⟩
theorem Ev.up {p : Nat → Prop} (h : Ev fun k => p (k + 1)) : Ev p := by
  obtain ⟨a, ha⟩ := h
  refine ⟨a + 1, fun k hk => ?_⟩
  obtain ⟨j, rfl⟩ : ∃ j, k = j + 1 := ⟨k - 1, by omega⟩
  exact ha j (by omega)
theorem Ev.get {p : Nat → Prop} (h : Ev p) : ∃ k, p k := let ⟨a, ha⟩ := h; ⟨a, ha a (Nat.le_refl _)⟩
theorem tl (s : ByteArray) : s.toList = s.data.toList := ByteArray.toList_eq s
theorem len_data (s : ByteArray) : s.data.toList.length = s.size := by rw [Array.length_toList]; rfl
theorem bt_nat (s : ByteArray) (i : Nat) (h : i < s.data.toList.length) : bt s (i : Int) = ((s.data.toList[i]).toNat : Int) := by
  have h' : i < s.data.size := by simpa using h
  unfold bt
  rw [dif_pos (by simpa using h')]
  simp [ByteArray.getElem_eq_getElem_data]
theorem data_app2 (s t : ByteArray) : (s ++ t).data.toList = s.data.toList ++ t.data.toList := by
  simp [ByteArray.data_append, Array.toList_append]
def badL (p : List UInt8) : Bool := p.isEmpty || p == [46] || p == [46, 46]
def pathL (l : List UInt8) : Bool := (l.all fun c => plainI c.toNat) && (splG 47 [] l).all (fun p => !badL p) && decide ((l.length : Int) ≤ 100) && decide (((splG 47 [] l).length : Int) ≤ 8)
theorem parts_eq (s : ByteArray) : (partsB s).map (·.data.toList) = splG 47 [] s.data.toList := by
  unfold partsB
  rw [Lib.splitB_data]
  exact splitK_G 47 _
theorem pathV_eq (s : ByteArray) : pathV s = pathL s.data.toList := by
  unfold pathV pathL
  have e1 : (partsB s).all (fun p => !badPart p) = (splG 47 [] s.data.toList).all (fun p => !badL p) := by
    rw [← parts_eq, List.all_map]
    congr 1
    funext p
    simp only [badPart, badL, Function.comp_apply, ByteArray.toList_eq]
  have e2 : (partsB s).length = (splG 47 [] s.data.toList).length := by rw [← parts_eq, List.length_map]
  have e3 : s.data.toList.length = s.size := by rw [Array.length_toList]; rfl
  rw [e1, e2, e3]
theorem rplain_f : ∀ n : Fin 256, cooperageref1_plain.f ((n.val : Nat) : Int) = some (plainI ((n.val : Nat) : Int)) := by decide +kernel
theorem plain_at (s : ByteArray) (i : Nat) (h : i < s.data.toList.length) : cooperageref1_plain.f (bt s (i : Int)) = some (plainI (s.data.toList[i]).toNat) := by
  rw [bt_nat s i h]
  exact rplain_f ⟨(s.data.toList[i]).toNat, UInt8.toNat_lt _⟩
theorem drop_at {l : List UInt8} {i : Nat} (h : i < l.length) : l.drop i = l[i] :: l.drop (i + 1) := List.drop_eq_getElem_cons h
theorem ext_one (s : ByteArray) (i : Nat) (h : i < s.data.toList.length) : (s.extract i (i + 1)).data.toList = [s.data.toList[i]] := by
  rw [Lib.extract_data, List.drop_eq_getElem_cons h, show i + 1 - i = 1 by omega]
  rfl
theorem w64z {i : Nat} (h : i ≤ 100000000000) : (wrap64 ((i : Int) + 1)).toNat = i + 1 := by rw [w64s i h]; omega
theorem bt47 {s : ByteArray} {i : Nat} (h : i < s.data.toList.length) : bt s (i : Int) = 47 ↔ s.data.toList[i] = 47 := by
  rw [bt_nat s i h]
  constructor
  · intro e
    exact UInt8.toNat_inj.1 (by have : (s.data.toList[i]).toNat = 47 := by omega
                                rw [this]; rfl)
  · intro e
    rw [e]
    rfl
theorem refpath_loop (s : ByteArray) (hs : s.size ≤ 100000) : ∀ (n i : Nat) (P : Nat) (part : ByteArray), i + n = s.size → part.size ≤ i → P ≤ i →
    Ev fun k => cooperageref1_Path.l0 k s (P : Int) part (i : Int) = some (((s.data.toList.drop i).all fun c => plainI c.toNat) && (splG 47 part.data.toList.reverse (s.data.toList.drop i)).all (fun p => !badL p) && decide (((P + (splG 47 part.data.toList.reverse (s.data.toList.drop i)).length : Nat) : Int) ≤ 8)) := by
  have hl := len_data s
  intro n
  induction n with
  | zero =>
    intro i P part hi hp hP
    have hd : s.data.toList.drop i = [] := List.drop_eq_nil_of_le (by omega)
    rw [hd]
    simp only [splG, List.all_nil, List.all_cons, List.reverse_reverse, Bool.and_true, Bool.true_and, List.length_singleton]
    have hstep : ∀ k, cooperageref1_Path.l0 (k + 1 + 1 + 1) s (P : Int) part (i : Int) = if part.toList = ([] : List UInt8) then (some false) else (if part.toList = ([46] : List UInt8) then (some false) else (if part.toList = ([46, 46] : List UInt8) then (some false) else (cooperageref1_Path.l0 k s (wrap64 ((P : Int) + 1)) (⟨#[]⟩ : ByteArray) (wrap64 ((i : Int) + 1))))) := by
      intro k
      simp only [cooperageref1_Path.l0, cooperageref1_Path.j2, cooperageref1_Path.j3]
      rw [if_pos (by omega), if_neg (by omega), if_neg (by decide), if_neg (by omega), if_neg (by decide)]
    refine Ev.up (Ev.up (Ev.up (Ev.up (Ev.of fun k => ?_))))
    rw [hstep, tl, w64s i (by omega), w64s P (by omega)]
    by_cases h1 : part.data.toList = []
    · rw [if_pos h1, h1]; rfl
    · by_cases h2 : part.data.toList = [46]
      · rw [if_neg h1, if_pos h2, h2]; rfl
      · by_cases h3 : part.data.toList = [46, 46]
        · rw [if_neg h1, if_neg h2, if_pos h3, h3]; rfl
        · have hb : badL part.data.toList = false := by
            unfold badL
            rw [Bool.or_eq_false_iff, Bool.or_eq_false_iff]
            exact ⟨⟨by simpa using h1, by simpa using h2⟩, by simpa using h3⟩
          rw [if_neg h1, if_neg h2, if_neg h3, hb]
          simp only [cooperageref1_Path.l0]
          rw [if_neg (by omega)]
          rfl
  | succ n ih =>
    intro i P part hi hp hP
    have hlt : i < s.data.toList.length := by omega
    have hpl := plain_at s i hlt
    rw [drop_at hlt]
    by_cases hc : plainI (s.data.toList[i]).toNat = true
    · by_cases h47 : s.data.toList[i] = 47
      · have hb47 : bt s (i : Int) = 47 := (bt47 hlt).2 h47
        have hstep : ∀ k, cooperageref1_Path.l0 (k + 1 + 1 + 1) s (P : Int) part (i : Int) = if part.toList = ([] : List UInt8) then (some false) else (if part.toList = ([46] : List UInt8) then (some false) else (if part.toList = ([46, 46] : List UInt8) then (some false) else (cooperageref1_Path.l0 k s (wrap64 ((P : Int) + 1)) (⟨#[]⟩ : ByteArray) (wrap64 ((i : Int) + 1))))) := by
          intro k
          simp only [cooperageref1_Path.l0, cooperageref1_Path.j2, cooperageref1_Path.j3]
          rw [if_pos (by omega), if_pos (by omega), if_pos (by omega), hpl, Option.bind_some, hc, if_neg (by decide), if_pos (by omega), if_pos (by omega), hb47, if_neg (by decide)]
        simp only [splG, h47, if_true, List.reverse_reverse, List.all_cons, List.length_cons]
        have ih' := ih (i + 1) (P + 1) (⟨#[]⟩ : ByteArray) (by omega) (by show 0 ≤ _; omega) (by omega)
        refine Ev.up (Ev.up (Ev.up (ih'.mp fun k hk => ?_)))
        rw [hstep, tl, w64s i (by omega), w64s P (by omega), hk]
        have hp47 : plainI ((47 : UInt8).toNat : Int) = true := by decide
        rw [hp47]
        have hdat : ((⟨#[]⟩ : ByteArray).data.toList.reverse : List UInt8) = [] := rfl
        rw [hdat, show P + 1 + (splG 47 [] (s.data.toList.drop (i + 1))).length = P + ((splG 47 [] (s.data.toList.drop (i + 1))).length + 1) by omega]
        by_cases h1 : part.data.toList = []
        · rw [if_pos h1, h1]
          simp [badL]
        · by_cases h2 : part.data.toList = [46]
          · rw [if_neg h1, if_pos h2, h2]
            simp [badL]
          · by_cases h3 : part.data.toList = [46, 46]
            · rw [if_neg h1, if_neg h2, if_pos h3, h3]
              simp [badL]
            · have hb : badL part.data.toList = false := by
                unfold badL
                rw [Bool.or_eq_false_iff, Bool.or_eq_false_iff]
                exact ⟨⟨by simpa using h1, by simpa using h2⟩, by simpa using h3⟩
              rw [if_neg h1, if_neg h2, if_neg h3, hb]
              simp
      · have hb47 : ¬ bt s (i : Int) = 47 := fun e => h47 ((bt47 hlt).1 e)
        have hne : (bt s (i : Int) != 47) = true := by simpa using hb47
        have hw := w64s i (by omega : i ≤ 100000000000)
        have hz : (s.extract (i : Int).toNat (wrap64 ((i : Int) + 1)).toNat).size = 1 := by
          rw [w64z (by omega), Int.toNat_natCast, ByteArray.size_extract]
          omega
        have hpe : (part ++ s.extract (i : Int).toNat (wrap64 ((i : Int) + 1)).toNat).data.toList = part.data.toList ++ [s.data.toList[i]] := by
          rw [data_app2, w64z (by omega), Int.toNat_natCast, ext_one s i hlt]
        have ih' := ih (i + 1) P (part ++ s.extract (i : Int).toNat (wrap64 ((i : Int) + 1)).toNat) (by omega) (by rw [ByteArray.size_append, hz]; omega) (by omega)
        refine Ev.up (Ev.up (Ev.up (ih'.mp fun k hk => ?_)))
        simp only [cooperageref1_Path.l0, cooperageref1_Path.j2, cooperageref1_Path.j3]
        rw [if_pos (by omega), if_pos (by omega), if_pos (by omega), hpl, Option.bind_some, hc, if_neg (by decide), if_pos (by omega), if_pos (by omega), hne, if_pos rfl, if_pos (by omega), if_pos (by rw [hw]; omega), if_pos (by rw [hw]; omega),
          if_pos (by rw [hz]; omega)]
        rw [hw] at hk ⊢
        rw [hk, hw] at *
        rw [hpe, List.reverse_append]
        simp only [splG, if_neg h47, List.all_cons, hc, Bool.true_and, List.reverse_cons, List.reverse_nil, List.nil_append, List.cons_append]
    · have hc' : plainI (s.data.toList[i]).toNat = false := by simpa using hc
      refine Ev.up (Ev.up (Ev.of fun k => ?_))
      simp only [cooperageref1_Path.l0, cooperageref1_Path.j2]
      rw [if_pos (by omega), if_pos (by omega), if_pos (by omega), hpl, Option.bind_some, hc', if_pos (by decide), List.all_cons, hc']
      rfl
theorem refpath_f (s : ByteArray) (hs : s.size ≤ 100000) : Ev fun k => cooperageref1_Path.f k s = some (pathV s) := by
  have hl := len_data s
  rw [pathV_eq]
  have hj1 : Ev fun k => cooperageref1_Path.j0 k s true = some false := by
    refine Ev.up (Ev.of fun k => ?_)
    simp only [cooperageref1_Path.j0]
    rw [if_pos trivial]
  by_cases h1 : s.size < 1
  · refine hj1.mp fun k hk => ?_
    unfold cooperageref1_Path.f
    rw [if_pos (by omega), hk]
    have : s.data.toList = [] := List.eq_nil_of_length_eq_zero (by omega)
    rw [this]
    rfl
  · by_cases h2 : s.size ≤ 100
    · have := refpath_loop s hs s.size 0 0 (⟨#[]⟩ : ByteArray) (by omega) (by show 0 ≤ 0; omega) (by omega)
      refine (Ev.up (p := fun k => cooperageref1_Path.j0 k s false = some (pathL s.data.toList)) (this.mp fun k hk => ?_)).mp fun k hk => ?_
      · simp only [cooperageref1_Path.j0]
        rw [if_neg (by decide)]
        refine hk.trans ?_
        have hdat : ((⟨#[]⟩ : ByteArray).data.toList.reverse : List UInt8) = [] := rfl
        rw [hdat, List.drop_zero, Nat.zero_add]
        unfold pathL
        rw [show decide ((s.data.toList.length : Int) ≤ 100) = true from decide_eq_true (by omega), Bool.and_true]
      · unfold cooperageref1_Path.f
        rw [if_neg (by omega), show decide ((s.size : Int) > 100) = false from decide_eq_false (by omega)]
        exact hk
    · refine hj1.mp fun k hk => ?_
      unfold cooperageref1_Path.f
      rw [if_neg (by omega), show decide ((s.size : Int) > 100) = true from decide_eq_true (by omega), hk]
      unfold pathL
      rw [show decide ((s.data.toList.length : Int) ≤ 100) = false from decide_eq_false (by omega)]
      simp
theorem rpath_call (s : ByteArray) (hs : s.size ≤ 100000) (w : World) : Calls Tryz.prog 46 #[.string s] w fun e w' => e = .returned (.bool (pathV s)) ∧ Drawn0 w w' := by
  obtain ⟨k, hk⟩ := (refpath_f s hs).get
  exact cooperageref1_Path.calls k s _ w hk
theorem lt_before : ∀ (a b : List UInt8), a < b → bytesBefore a b = true
  | [], [], h => absurd h (List.lt_irrefl _)
  | [], _ :: _, _ => rfl
  | _ :: _, [], h => by cases h
  | x :: xs, y :: ys, h => by
    rw [List.cons_lt_cons_iff] at h
    simp only [bytesBefore, Bool.or_eq_true, Bool.and_eq_true, decide_eq_true_eq, beq_iff_eq]
    rcases h with h | ⟨h, h2⟩
    · exact .inl h
    · exact .inr ⟨h, lt_before xs ys h2⟩
theorem ltB_iff {a b : ByteArray} : ltB a b = true ↔ a.data.toList < b.data.toList := ⟨before_lt _ _, lt_before _ _⟩
theorem ltB_trans {a b c : ByteArray} (h1 : ltB a b = true) (h2 : ltB b c = true) : ltB a c = true := ltB_iff.2 (List.lt_trans (ltB_iff.1 h1) (ltB_iff.1 h2))
theorem ltB_irrefl (a : ByteArray) : ¬ ltB a a = true := fun h => List.lt_irrefl _ (ltB_iff.1 h)
theorem ltB_total {a b : ByteArray} (h1 : ¬ ltB a b = true) (h2 : a.data.toList ≠ b.data.toList) : ltB b a = true := by
  rw [ltB_iff]
  have h3 : ¬ a.data.toList < b.data.toList := fun h => h1 (ltB_iff.2 h)
  have h4 : b.data.toList ≤ a.data.toList := List.not_lt.1 h3
  rcases List.le_iff_lt_or_eq.1 h4 with h5 | h5
  · exact h5
  · exact absurd h5.symm h2
theorem ba_eq {a b : ByteArray} (h : a.data.toList = b.data.toList) : a = b := by
  obtain ⟨⟨a⟩⟩ := a
  obtain ⟨⟨b⟩⟩ := b
  simp only at h
  rw [h]
theorem beq_ba {a b : ByteArray} : (a.data.toList == b.data.toList) = true ↔ a = b := by
  rw [beq_iff_eq]
  exact ⟨ba_eq, fun h => by rw [h]⟩
theorem mem_ins {f x : Fl} {l : List Fl} : x ∈ insF f l ↔ x = f ∨ x ∈ l := by
  induction l with
  | nil => simp [insF]
  | cons g r ih =>
    by_cases h : ltB f.f0 g.f0 = true
    · rw [insF_lt h]; simp
    · rw [insF_ge h, List.mem_cons, ih, List.mem_cons]
      constructor
      · rintro (h | h | h)
        · exact .inr (.inl h)
        · exact .inl h
        · exact .inr (.inr h)
      · rintro (h | h | h)
        · exact .inr (.inl h)
        · exact .inl h
        · exact .inr (.inr h)
theorem mem_drop {x : Fl} {l : List Fl} {q : ByteArray} : x ∈ dropF l q ↔ x ∈ l ∧ x.f0 ≠ q := by
  unfold dropF
  rw [List.mem_filter]
  constructor
  · rintro ⟨h1, h2⟩
    refine ⟨h1, fun e => ?_⟩
    rw [e] at h2
    simp at h2
  · rintro ⟨h1, h2⟩
    refine ⟨h1, ?_⟩
    cases e : (x.f0.data.toList == q.data.toList) with
    | false => rfl
    | true => exact absurd (beq_ba.1 e) h2
theorem mem_put {f x : Fl} {l : List Fl} : x ∈ putF l f ↔ x = f ∨ (x ∈ l ∧ x.f0 ≠ f.f0) := by
  unfold putF
  rw [mem_ins, mem_drop]
theorem len_ins (f : Fl) (l : List Fl) : (insF f l).length = l.length + 1 := by
  induction l with
  | nil => rfl
  | cons g r ih =>
    by_cases h : ltB f.f0 g.f0 = true
    · rw [insF_lt h]; rfl
    · rw [insF_ge h, List.length_cons, ih, List.length_cons]
theorem used_cons (f : Fl) (l : List Fl) : usedF (f :: l) = f.f1.size + usedF l := by unfold usedF; rw [List.map_cons, List.sum_cons]
theorem used_ins (f : Fl) (l : List Fl) : usedF (insF f l) = usedF l + f.f1.size := by
  induction l with
  | nil => rw [show insF f [] = [f] from rfl, used_cons]; omega
  | cons g r ih =>
    by_cases h : ltB f.f0 g.f0 = true
    · rw [insF_lt h, used_cons]; omega
    · rw [insF_ge h, used_cons, used_cons, ih]; omega
theorem srt_cons {f : Fl} {l : List Fl} : Srt (f :: l) ↔ (∀ g ∈ l, ltB f.f0 g.f0 = true) ∧ Srt l := List.pairwise_cons
theorem srt_drop {l : List Fl} (h : Srt l) (q : ByteArray) : Srt (dropF l q) := List.Pairwise.sublist List.filter_sublist h
theorem srt_ins {f : Fl} {l : List Fl} (h : Srt l) (hn : ∀ g ∈ l, g.f0 ≠ f.f0) : Srt (insF f l) := by
  induction l with
  | nil => exact List.pairwise_singleton _ _
  | cons g r ih =>
    obtain ⟨h1, h2⟩ := srt_cons.1 h
    by_cases hl : ltB f.f0 g.f0 = true
    · rw [insF_lt hl]
      exact srt_cons.2 ⟨fun x hx => by
        rcases List.mem_cons.1 hx with rfl | hx
        · exact hl
        · exact ltB_trans hl (h1 x hx), h⟩
    · rw [insF_ge hl]
      refine srt_cons.2 ⟨fun x hx => ?_, ih h2 fun x hx => hn x (List.mem_cons_of_mem _ hx)⟩
      rcases mem_ins.1 hx with rfl | hx
      · exact ltB_total hl fun e => hn g (List.mem_cons_self ..) (ba_eq e).symm
      · exact h1 x hx
theorem srt_put {l : List Fl} (h : Srt l) (f : Fl) : Srt (putF l f) := srt_ins (srt_drop h f.f0) fun g hg => (mem_drop.1 hg).2
theorem srt_after {l : List Fl} (h : Srt l) (c : Cg) : Srt (afterF l c) := by
  unfold afterF
  split
  · exact srt_put h _
  · split
    · exact srt_put h _
    · split
      · exact srt_drop h _
      · split
        · exact h
        · exact srt_put (srt_drop h _) _
theorem find_some_iff {l : List Fl} (h : Srt l) {q : ByteArray} {f : Fl} : findF l q = some f ↔ f ∈ l ∧ f.f0 = q := by
  constructor
  · intro e
    refine ⟨mem_of_find e, ?_⟩
    unfold findF at e
    have := List.find?_some e
    exact beq_ba.1 this
  · rintro ⟨h1, rfl⟩
    exact find_of_srt h h1
theorem find_none_iff {l : List Fl} {q : ByteArray} : findF l q = none ↔ ∀ f ∈ l, f.f0 ≠ q := by
  unfold findF
  rw [List.find?_eq_none]
  constructor
  · intro h f hf e
    exact h f hf (beq_ba.2 e)
  · intro h f hf e
    exact h f hf (beq_ba.1 e)
theorem find_put {l : List Fl} (h : Srt l) (f : Fl) : findF (putF l f) f.f0 = some f := (find_some_iff (srt_put h f)).2 ⟨mem_put.2 (.inl rfl), rfl⟩
theorem find_put_ne {l : List Fl} (h : Srt l) (f : Fl) {q : ByteArray} (hq : q ≠ f.f0) : findF (putF l f) q = findF l q := by
  cases e : findF l q with
  | none =>
    rw [find_none_iff] at e ⊢
    intro g hg
    rcases mem_put.1 hg with rfl | hg
    · exact fun e => hq e.symm
    · exact e g hg.1
  | some g =>
    rw [find_some_iff h] at e
    rw [find_some_iff (srt_put h f)]
    exact ⟨mem_put.2 (.inr ⟨e.1, by rw [e.2]; exact hq⟩), e.2⟩
theorem find_drop (l : List Fl) (q : ByteArray) : findF (dropF l q) q = none := find_none_iff.2 fun f hf => (mem_drop.1 hf).2
theorem find_drop_ne {l : List Fl} (h : Srt l) {q p : ByteArray} (hq : p ≠ q) : findF (dropF l q) p = findF l p := by
  cases e : findF l p with
  | none =>
    rw [find_none_iff] at e ⊢
    exact fun g hg => e g (mem_drop.1 hg).1
  | some g =>
    rw [find_some_iff h] at e
    rw [find_some_iff (srt_drop h q)]
    exact ⟨mem_drop.2 ⟨e.1, by rw [e.2]; exact hq⟩, e.2⟩
theorem drop_none {l : List Fl} {q : ByteArray} (h : findF l q = none) : dropF l q = l := by
  unfold dropF
  rw [List.filter_eq_self]
  intro f hf
  have := find_none_iff.1 h f hf
  cases e : (f.f0.data.toList == q.data.toList) with
  | false => rfl
  | true => exact absurd (beq_ba.1 e) this
theorem drop_some {l : List Fl} (h : Srt l) {q : ByteArray} {f : Fl} (hf : findF l q = some f) : usedF (dropF l q) + f.f1.size = usedF l ∧ (dropF l q).length + 1 = l.length := by
  induction l with
  | nil => cases hf
  | cons g r ih =>
    obtain ⟨h1, h2⟩ := srt_cons.1 h
    by_cases e : g.f0 = q
    · have hg : g = f := by
        have := (find_some_iff h).1 hf
        have h3 : findF (g :: r) q = some g := (find_some_iff h).2 ⟨List.mem_cons_self .., e⟩
        rw [h3] at hf
        exact Option.some.inj hf
      subst hg
      have hr : findF r q = none := find_none_iff.2 fun x hx e2 => by
        have := h1 x hx
        rw [e, e2] at this
        exact ltB_irrefl _ this
      have : dropF (g :: r) q = r := by
        show List.filter _ (g :: r) = r
        rw [List.filter_cons_of_neg (by simp [e])]
        exact drop_none hr
      rw [this, used_cons, List.length_cons]
      omega
    · have hb : (g.f0.data.toList == q.data.toList) = false := by
        cases e2 : (g.f0.data.toList == q.data.toList) with
        | false => rfl
        | true => exact absurd (beq_ba.1 e2) e
      have : dropF (g :: r) q = g :: dropF r q := by
        show List.filter _ (g :: r) = g :: List.filter _ r
        rw [List.filter_cons_of_pos (by rw [hb]; rfl)]
      have hf' : findF r q = some f := by
        unfold findF at hf ⊢
        rw [List.find?_cons, hb] at hf
        exact hf
      obtain ⟨e3, e4⟩ := ih h2 hf'
      rw [this, used_cons, used_cons, List.length_cons, List.length_cons]
      omega
theorem put_used {l : List Fl} (h : Srt l) (f : Fl) : usedF (putF l f) + (textF l f.f0).size = usedF l + f.f1.size ∧ (putF l f).length = (if (findF l f.f0).isSome = true then l.length else l.length + 1) := by
  unfold putF textF
  rw [used_ins, len_ins]
  cases e : findF l f.f0 with
  | none =>
    rw [drop_none e]
    exact ⟨by show _ + 0 = _; omega, rfl⟩
  | some g =>
    obtain ⟨h1, h2⟩ := drop_some h e
    refine ⟨by show _ + g.f1.size = _; omega, ?_⟩
    simp only [Option.isSome_some, if_true]
    omega
theorem way_list (x y : List UInt8) : (decide (x.length < y.length) && (y.take x.length == x) && (y[x.length]? == some 47)) = (x ++ [47]).isPrefixOf y := by
  rw [Bool.eq_iff_iff, List.isPrefixOf_iff_prefix]
  simp only [Bool.and_eq_true, decide_eq_true_eq, beq_iff_eq]
  constructor
  · rintro ⟨⟨h1, h2⟩, h3⟩
    refine ⟨y.drop (x.length + 1), ?_⟩
    have h4 : y[x.length]'h1 = 47 := by
      rw [List.getElem?_eq_getElem h1] at h3
      exact Option.some.inj h3
    have h5 := List.take_append_drop x.length y
    rw [h2, List.drop_eq_getElem_cons h1, h4] at h5
    rw [List.append_assoc]
    exact h5
  · rintro ⟨t, rfl⟩
    refine ⟨⟨?_, ?_⟩, ?_⟩
    · simp
    · rw [List.append_assoc, List.take_append_of_le_length (Nat.le_refl _), List.take_length]
    · rw [List.append_assoc, List.getElem?_append_right (Nat.le_refl _)]
      simp
theorem way_eq (a b : ByteArray) : wayR a b = wayF a b := by
  unfold wayR wayF
  have hl : a.data.toList.length = a.size := by rw [Array.length_toList]; rfl
  have hl2 : b.data.toList.length = b.size := by rw [Array.length_toList]; rfl
  rw [← hl, ← hl2]
  exact way_list _ _
theorem pathV_ne {a : ByteArray} (h : pathV a = true) : a ≠ ⟨#[]⟩ := by
  rintro rfl
  rw [pathV_eq] at h
  exact absurd h (by decide)
def Pth (l : List Fl) : Prop := ∀ f ∈ l, pathV f.f0 = true
theorem block_eq {l : List Fl} (h : Pth l) (q : ByteArray) : blockT l q ⟨#[]⟩ = blockR l q := by
  unfold blockT blockR
  rw [Bool.eq_iff_iff, List.any_eq_true, List.any_eq_true]
  have : ∀ f ∈ l, testB q ⟨#[]⟩ f = (wayR f.f0 q || wayR q f.f0) := by
    intro f hf
    unfold testB
    rw [way_eq, way_eq]
    have : sameB f.f0 ⟨#[]⟩ = false := by
      cases e : sameB f.f0 ⟨#[]⟩ with
      | false => rfl
      | true => exact absurd (beq_ba.1 e) (pathV_ne (h f hf))
    rw [this]
    rfl
  constructor
  · rintro ⟨f, h1, h2⟩
    exact ⟨f, h1, by rw [← this f h1]; exact h2⟩
  · rintro ⟨f, h1, h2⟩
    exact ⟨f, h1, by rw [this f h1]; exact h2⟩
theorem block_but {l : List Fl} (a b : ByteArray) : blockT l b a = blockR (dropF l a) b := by
  unfold blockT blockR
  rw [Bool.eq_iff_iff, List.any_eq_true, List.any_eq_true]
  constructor
  · rintro ⟨f, h1, h2⟩
    unfold testB at h2
    rw [Bool.and_eq_true, Bool.not_eq_true'] at h2
    refine ⟨f, mem_drop.2 ⟨h1, fun e => ?_⟩, by rw [way_eq, way_eq]; exact h2.2⟩
    have : sameB f.f0 a = true := beq_ba.2 e
    rw [this] at h2
    cases h2.1
  · rintro ⟨f, h1, h2⟩
    obtain ⟨h3, h4⟩ := mem_drop.1 h1
    refine ⟨f, h3, ?_⟩
    unfold testB
    have : sameB f.f0 a = false := by
      cases e : sameB f.f0 a with
      | false => rfl
      | true => exact absurd (beq_ba.1 e) h4
    rw [this, ← way_eq, ← way_eq]
    exact h2
theorem write_after (T : TS) (stays : Bool) (q s : ByteArray) : ∃ t, afterF T.l (writeC T stays q s) = putF T.l ⟨q, t, T.clock + 1⟩ ∧ t.size = sizeT T stays q s := by
  cases stays with
  | false => exact ⟨s, rfl, rfl⟩
  | true =>
    refine ⟨textF T.l q ++ s, rfl, ?_⟩
    unfold sizeT hadT
    rw [if_pos rfl, ByteArray.size_append]
    omega
theorem full_eq {T : TS} (h : Srt T.l) (stays : Bool) (q s : ByteArray) : fullT T stays q s = (decide (T.room < (usedF (afterF T.l (writeC T stays q s)) : Int)) || decide (200 < (afterF T.l (writeC T stays q s)).length)) := by
  obtain ⟨t, e1, e2⟩ := write_after T stays q s
  obtain ⟨h1, h2⟩ := put_used h ⟨q, t, T.clock + 1⟩
  rw [e1, h2]
  unfold fullT manyT
  have h3 : (usedF T.l : Int) - hadT T q + sizeT T stays q s = (usedF (putF T.l ⟨q, t, T.clock + 1⟩) : Int) := by
    unfold hadT
    simp only at h1
    omega
  rw [h3]
section
variable {m : Nat} {T : TS} {B : Nat → Prop}
theorem RfEnd.same {w w' : World} (h : Rf w m T B) (hb : Below w.heap.size w w') : RfEnd w m B T w' := ⟨B, h.below hb, Chg.of_below hb _, fun _ hk => .inl hk⟩
theorem RfEnd.left {w w1 w' : World} {T' : TS} (hb : Below w.heap.size w w1) (h : RfEnd w1 m B T' w') : RfEnd w m B T' w' := by
  obtain ⟨B', h1, h2, h3⟩ := h
  exact ⟨B', h1, (Chg.of_below hb _).trans h2 fun _ _ e => e, fun k hk => (h3 k hk).imp id fun e => Nat.le_trans hb.size e⟩
set_option maxHeartbeats 1000000 in
set_option maxRecDepth 100000 in
theorem rUsed_call (w : World) (hT : Rf w m T B) (hl : T.l.length ≤ 100000) (hu : usedF T.l ≤ 10000000000000000) :
    Calls Tryz.prog 38 #[.pointer (some ⟨m, 0, none⟩)] w fun e w' => e = .returned (.int .i64 (usedF T.l)) ∧ Below w.heap.size w w' := by
  obtain ⟨vl, vs, vc, h⟩ := hT
  have HT := Lib.hid h
  have HL := Lib.hid (Nat.le_trans hl (by decide : 100000 ≤ 1000000))
  have HU := Lib.hid hu
  have c2 := h.c2
  clear h hu
  go_enter Tryz.func38, Tryz.ntmps38
  go_wp2_with (first
    | (go_at_call 62; refine (rused_call HT.out.now HL.out HU.out).mono ?_; rintro e w1 ⟨rfl, hd⟩; have HB := Lib.hid (drawn_below hd); clear hd))
  go_ret
  exact ⟨rfl, HB.out⟩
set_option maxHeartbeats 1000000 in
set_option maxRecDepth 100000 in
theorem rRead_call (w : World) (hT : Rf w m T B) (hl : T.l.length ≤ 100000) (q : ByteArray) :
    Calls Tryz.prog 85 #[.pointer (some ⟨m, 0, none⟩), .string q] w fun e w' => e = .returned (.tuple #[.string (readT T q).1, .int .i64 (readT T q).2]) ∧ Below w.heap.size w w' := by
  obtain ⟨vl, vs, vc, h⟩ := hT
  have HT := Lib.hid h
  have HL := Lib.hid (Nat.le_trans hl (by decide : 100000 ≤ 1000000))
  have hlt := h.lt
  have c2 := h.c2
  clear h hl
  cases hf : findF T.l q with
  | none =>
    have HF := Lib.hid (findI_none hf)
    have HR : Hid (readT T q = (⟨#[]⟩, 4)) := by unfold readT; rw [Hid, hf]
    clear hf
    rw [HR.out]
    go_enter Tryz.func85, Tryz.ntmps85
    go_wp2_with (first
      | (go_at_call 63; refine (rfind_call HT.out.now HL.out _).mono ?_; rintro e w1 ⟨rfl, hd⟩; rw [HF.out]; have HB := Lib.hid (drawn_below hd); clear hd))
    go_ret2
    exact ⟨rfl, HB.out⟩
  | some f =>
    obtain ⟨i, hi, hfi, hli⟩ := findI_some hf
    have HF := Lib.hid hfi
    have HLI := Lib.hid hli
    have HR : Hid (readT T q = (f.f1, 0)) := by unfold readT; rw [Hid, hf]
    clear hf hfi hli
    rw [HR.out]
    go_enter Tryz.func85, Tryz.ntmps85
    go_upto_region 2 with (first
      | (go_at_call 63; refine (rfind_call HT.out.now HL.out _).mono ?_; rintro e w1 ⟨rfl, hd⟩; rw [HF.out]; have HB := Lib.hid (drawn_below hd); clear hd))
    have c2' := (HT.out.below HB.out).c2
    obtain ⟨ad, cc, e, hlc, q0, q1, q2⟩ := VF_at (HT.out.below HB.out).now hi
    rw [HLI.out] at q0 q1 q2
    subst e
    go_wp2_with fail
    go_ret2
    exact ⟨rfl, HB.out⟩
theorem rsync_end {w : World} {vl vs vc : Value} (h : RfAt w m T B vl vs vc) : RfEnd w m B (syncT T) ((w.setCell ⟨m, 3, none⟩ vl).setCell ⟨m, 4, none⟩ (.slice none 0 0)) := by
  have hC : Chg (fun k => k = m) w ((w.setCell ⟨m, 3, none⟩ vl).setCell ⟨m, 4, none⟩ (.slice none 0 0)) := ((Chg.refl (fun k => k = m) w).setCell (p := ⟨m, 3, none⟩) (fun _ => rfl) _).setCell (p := ⟨m, 4, none⟩) (fun _ => rfl) _
  have h3 := heap_setCell_same w m 3 _ _ vl h.at_
  have h4 := heap_setCell_same _ m 4 _ _ (.slice none 0 0) h3
  refine ⟨B, ⟨vl, vl, .slice none 0 0, ?_⟩, hC, fun k hk => .inl hk⟩
  exact {
    at_ := by rw [h4]; simp [syncT]
    now := Kd.V_step h.now fun k hk hl => hC.block k hl (h.free k hk).2
    last := Kd.V_step h.now fun k hk hl => hC.block k hl (h.free k hk).2
    row := Kd.V_nil _ _ _ _ _
    nil := fun _ => rfl
    free := fun k hk => ⟨Nat.lt_of_lt_of_le (h.free k hk).1 hC.size, (h.free k hk).2⟩ }
set_option maxHeartbeats 1000000 in
set_option maxRecDepth 100000 in
theorem rSync_call (w : World) (hT : Rf w m T B) : Calls Tryz.prog 57 #[.pointer (some ⟨m, 0, none⟩)] w fun e w' => e = .returned (.tuple #[]) ∧ RfEnd w m B (syncT T) w' := by
  obtain ⟨vl, vs, vc, h⟩ := hT
  have HE := Lib.hid (rsync_end h)
  have hlt := h.lt
  have c2 := h.c2
  have c3 := h.c3
  have c4 := h.c4
  have g3 := h.fz 3
  have g4 := h.fz 4
  obtain ⟨A1, k1, rfl⟩ := Kd.V_slice h.now
  clear h
  go_enter Tryz.func57, Tryz.ntmps57
  go_wp2_with fail
  go_end0
  exact ⟨rfl, HE.out⟩
set_option maxHeartbeats 1000000 in
set_option maxRecDepth 100000 in
theorem rRemove_call (w : World) (hT : Rf w m T B) (hO : TOK T) (q : ByteArray) (hq : q.size ≤ 100000) :
    Calls Tryz.prog 55 #[.pointer (some ⟨m, 0, none⟩), .string q] w fun e w' => e = .returned (.int .i64 (removeE T q)) ∧ RfEnd w m B (removeT T q) w' := by
  have HX := Lib.hid hT
  obtain ⟨vl, vs, vc, h⟩ := hT
  have HT := Lib.hid h
  have HO := Lib.hid hO
  have HL := Lib.hid (Nat.le_trans hO.many (by decide : 100000 ≤ 1000000))
  have c2 := h.c2
  clear h hO
  cases hf : findF T.l q with
  | none =>
    have HF := Lib.hid (findI_none hf)
    have HE1 : Hid (removeE T q = 4) := by unfold removeE; rw [Hid, hf]; rfl
    have HE2 : Hid (removeT T q = T) := by unfold removeT; rw [Hid, HE1.out]; rfl
    clear hf
    rw [HE1.out, HE2.out]
    go_enter Tryz.func55, Tryz.ntmps55
    go_wp2_with (first
      | (go_at_call 63; refine (rfind_call HT.out.now HL.out _).mono ?_; rintro e w1 ⟨rfl, hd⟩; rw [HF.out]; have HB := Lib.hid (drawn_below hd); clear hd))
    go_ret
    exact ⟨rfl, RfEnd.same HX.out HB.out⟩
  | some f =>
    obtain ⟨i, hi, hfi, hli⟩ := findI_some hf
    have HF := Lib.hid hfi
    have HE1 : Hid (removeE T q = 0) := by unfold removeE; rw [Hid, hf]; rfl
    have HE2 : Hid (removeT T q = doneT T ⟨3, q, ⟨#[]⟩, 0⟩) := by unfold removeT; rw [Hid, HE1.out]; rfl
    have HD : Hid (∀ W, Rf W m T B → Calls Tryz.prog 84 #[.pointer (some ⟨m, 0, none⟩), .agg #[.int .i64 3, .string q, .string ⟨#[]⟩, .int .i64 0]] W fun e w' => e = .returned (.tuple #[]) ∧ RfEnd W m B (doneT T ⟨3, q, ⟨#[]⟩, 0⟩) w') := fun W hW =>
      rchange_call W hW ⟨3, q, ⟨#[]⟩, 0⟩ ⟨.inr (.inr (.inl rfl)), hq, Nat.zero_le _, fun e => absurd e (show ¬ ((3 : Int) = 4) by decide)⟩ HO.out.many (fun f hf => Nat.le_trans (HO.out.texts f hf) (by decide)) HO.out.clock HO.out.chs
    clear hf hfi hli
    rw [HE1.out, HE2.out]
    go_enter Tryz.func55, Tryz.ntmps55
    go_wp2_with (first
      | (go_at_call 63; refine (rfind_call HT.out.now HL.out _).mono ?_; rintro e w1 ⟨rfl, hd⟩; rw [HF.out]; have HB := Lib.hid (drawn_below hd); clear hd)
      | (go_at_call 84; refine (HD.out _ (HX.out.below HB.out)).mono ?_; rintro e w4 ⟨rfl, he4⟩; have HE4 := Lib.hid he4; clear he4))
    go_ret
    exact ⟨rfl, HE4.out.left HB.out⟩
end
end Go.Proofs.YtghbaehbgefpaaaGreatDoor.Fr
