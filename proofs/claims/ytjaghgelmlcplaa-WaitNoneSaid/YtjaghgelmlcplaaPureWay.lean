import Derived.Test.YtjaghgelmlcplaaHandWait
import Derived.Test.YtjaghgelmlcplaaP1
import Derived.Test.YtjaghgelmlcplaaP2
import Derived.Test.YtjaghgelmlcplaaP3
import Derived.Test.YtjaghgelmlcplaaP4
import Derived.Test.YtjaghgelmlcplaaP5
import Derived.Test.YtjaghgelmlcplaaP6
import Derived.Test.YtjaghgelmlcplaaP7
namespace Go.Proofs.Ytjaghgelmlcplaa.Pure
open Go.RowKit Go.Proofs.Ytjaghgelmlcplaa.P Go.Proofs.Ytjaghgelmlcplaa.Hand Go.Proofs.Ytjaghgelmlcplaa.Way Go.Proofs.YtjaghgelmlcplaaW.PrintWords
attribute [local instance] Classical.propDecidable
set_option linter.unusedVariables false
set_option linter.unusedSimpArgs false

theorem w64 {x : Int} (h0 : -9223372036854775808 ≤ x) (h1 : x ≤ 9223372036854775807) : wrap64 x = x := by unfold wrap64; omega
theorem w64s (i : Nat) (h : i ≤ 1000000) : wrap64 ((i : Int) + 1) = ((i + 1 : Nat) : Int) := by rw [w64 (by omega) (by omega)]; omega

/-- From some measure of steps on. -/
def Ev (p : Nat → Prop) : Prop := ∃ k0, ∀ k, k0 ≤ k → p k
theorem Ev.of {p : Nat → Prop} (h : ∀ k, p k) : Ev p := ⟨0, fun k _ => h k⟩
theorem Ev.and {p q : Nat → Prop} : Ev p → Ev q → Ev fun k => p k ∧ q k := fun ⟨a, ha⟩ ⟨b, hb⟩ => ⟨max a b, fun k hk => ⟨ha k (by omega), hb k (by omega)⟩⟩
theorem Ev.mp {p q : Nat → Prop} (h : Ev p) (hi : ∀ k, p k → q k) : Ev q := let ⟨a, ha⟩ := h; ⟨a, fun k hk => hi k (ha k hk)⟩
theorem Ev.up {p : Nat → Prop} (h : Ev fun k => p (k + 1)) : Ev p := by
  obtain ⟨a, ha⟩ := h
  refine ⟨a + 1, fun k hk => ?_⟩
  obtain ⟨j, rfl⟩ : ∃ j, k = j + 1 := ⟨k - 1, by omega⟩
  exact ha j (by omega)
theorem Ev.get {p : Nat → Prop} (h : Ev p) : ∃ k, p k := let ⟨a, ha⟩ := h; ⟨a, ha a (Nat.le_refl _)⟩

theorem rd_at {l : List Int} {i : Nat} (h : i < l.length) : rd l (i : Int) = l[i] := by
  simp [rd, List.getD_eq_getElem?_getD, List.getElem?_eq_getElem h]
theorem rd43 {l : List S43} {i : Nat} (h : i < l.length) : rd_T43 l (i : Int) = l[i] := by
  simp [rd_T43, List.getD_eq_getElem?_getD, List.getElem?_eq_getElem h]
theorem rd40 {l : List S40} {i : Nat} (h : i < l.length) : rd_T40 l (i : Int) = l[i] := by
  simp [rd_T40, List.getD_eq_getElem?_getD, List.getElem?_eq_getElem h]
theorem rd48 {l : List S48} {i : Nat} (h : i < l.length) : rd_T48 l (i : Int) = l[i] := by
  simp [rd_T48, List.getD_eq_getElem?_getD, List.getElem?_eq_getElem h]
theorem rd49 {l : List S49} {i : Nat} (h : i < l.length) : rd_T49 l (i : Int) = l[i] := by
  simp [rd_T49, List.getD_eq_getElem?_getD, List.getElem?_eq_getElem h]

/-! #### Two lists of numbers that are one -/
theorem same_loop (a : List Int) (ha : a.length ≤ 100000) : ∀ (n i : Nat), i + n = a.length → Ev fun k => cooperagelaw17_sameInts.l0 k a a (i : Int) = some true := by
  intro n
  induction n with
  | zero =>
    intro i hi
    refine Ev.up (Ev.of fun k => ?_)
    simp only [cooperagelaw17_sameInts.l0]
    rw [if_neg (by omega)]
  | succ n ih =>
    intro i hi
    refine Ev.up ((ih (i + 1) (by omega)).mp fun k hk => ?_)
    simp only [cooperagelaw17_sameInts.l0]
    rw [if_pos (by omega), if_pos (by omega), if_pos (by omega), if_pos trivial, w64s i (by omega)]
    exact hk
theorem same_f (a : List Int) (ha : a.length ≤ 100000) : Ev fun k => cooperagelaw17_sameInts.f k a a = some true := by
  refine (same_loop a ha a.length 0 (by omega)).mp fun k hk => ?_
  unfold cooperagelaw17_sameInts.f
  rw [if_pos rfl]
  exact hk

/-! #### The reference's edges and ages -/
def to48 (l : List S43) : List S48 := l.map fun e => ⟨e.f0, e.f1⟩
def to49 (l : List S40) : List S49 := l.map fun e => ⟨e.f0, e.f1⟩
theorem as_loop (l : List S43) : ∀ (n i : Nat) (o : List S48), (i + n = l.length ∨ i + n = 40) → i ≤ l.length → i ≤ 40 → (n = 0 → i = l.length ∨ i = 40) → (o.length ≤ 40) → o = to48 (l.take i) →
    Ev fun k => cooperagelaw17_as.l0 k l o (i : Int) = some (to48 (l.take 40), decide ((l.length : Int) ≤ 40)) := by
  intro n
  induction n with
  | zero =>
    intro i o _ h1 h2 h3 h4 h5
    refine Ev.up (Ev.of fun k => ?_)
    simp only [cooperagelaw17_as.l0]
    rcases h3 rfl with e | e
    · rw [if_neg (by omega), h5, e, List.take_length, List.take_of_length_le (by omega)]
    · by_cases hl : i < l.length
      · rw [if_pos (by omega), if_neg (by omega), h5, e]
      · rw [if_neg (by omega), h5, e]
  | succ n ih =>
    intro i o h0 h1 h2 h3 h4 h5
    by_cases hl : i < l.length ∧ i < 40
    · have hL : (o ++ [(⟨l[i].f0, l[i].f1⟩ : S48)]).length ≤ 40 := by
        rw [h5]
        simp [to48]
        omega
      refine Ev.up ((ih (i + 1) (o ++ [(⟨l[i].f0, l[i].f1⟩ : S48)]) (by omega) (by omega) (by omega) (by omega) hL ?_).mp fun k hk => ?_)
      · rw [h5, List.take_succ_eq_append_getElem hl.1, to48, to48, List.map_append]
        rfl
      · simp only [cooperagelaw17_as.l0]
        rw [if_pos (by omega), if_pos (by omega), if_pos (by omega), if_pos (by omega), w64s i (by omega), rd43 hl.1]
        exact hk
    · refine Ev.up (Ev.of fun k => ?_)
      simp only [cooperagelaw17_as.l0]
      by_cases hl1 : i < l.length
      · rw [if_pos (by omega), if_neg (by omega), h5, show i = 40 by omega]
      · rw [if_neg (by omega), h5, List.take_of_length_le (by omega), List.take_of_length_le (by omega)]
theorem as_f (l : List S43) : Ev fun k => cooperagelaw17_as.f k l = some (to48 (l.take 40), decide ((l.length : Int) ≤ 40)) := by
  unfold cooperagelaw17_as.f
  by_cases h : l.length ≤ 40
  · exact as_loop l l.length 0 [] (.inl (by omega)) (by omega) (by omega) (fun h => .inl (by omega)) (by simp) rfl
  · exact as_loop l 40 0 [] (.inr (by omega)) (by omega) (by omega) (fun h => by omega) (by simp) rfl
theorem ages_loop (l : List S40) (hl : l.length ≤ 1000) : ∀ (n i : Nat) (o : List S49), i + n = l.length → o = to49 (l.take i) →
    Ev fun k => cooperagelaw17_ages.l0 k l o (i : Int) = some (to49 l) := by
  intro n
  induction n with
  | zero =>
    intro i o h1 h5
    refine Ev.up (Ev.of fun k => ?_)
    simp only [cooperagelaw17_ages.l0]
    rw [if_neg (by omega), h5, List.take_of_length_le (by omega)]
  | succ n ih =>
    intro i o h0 h5
    have hi : i < l.length := by omega
    have hL : o.length < 2000 := by
      rw [h5]
      simp [to49]
      omega
    refine Ev.up ((ih (i + 1) (o ++ [(⟨l[i].f0, l[i].f1⟩ : S49)]) (by omega) ?_).mp fun k hk => ?_)
    · rw [h5, List.take_succ_eq_append_getElem hi, to49, to49, List.map_append]
      rfl
    · simp only [cooperagelaw17_ages.l0]
      rw [if_pos (by omega), if_pos (by omega), if_pos (by omega), w64s i (by omega), rd40 hi]
      exact hk
theorem ages_f (l : List S40) (hl : l.length ≤ 1000) : Ev fun k => cooperagelaw17_ages.f k l = some (to49 l) := ages_loop l hl l.length 0 [] (by omega) rfl

/-! #### once -/
def onceV (l : List Int) (x : Int) : List Int := if x ∈ l then l else l ++ [x]
theorem once_loop (l : List Int) (x : Int) (hl : l.length ≤ 1000) : ∀ (n i : Nat), i + n = l.length → x ∉ l.take i → Ev fun k => cooperageref17_once.l0 k l x (i : Int) = some (onceV l x) := by
  intro n
  induction n with
  | zero =>
    intro i hi hx
    refine Ev.up (Ev.of fun k => ?_)
    rw [List.take_of_length_le (by omega)] at hx
    simp only [cooperageref17_once.l0]
    rw [if_neg (by omega), Option.bind_some, if_pos (by simp only [List.length_nil]; omega), Option.bind_some, if_pos (by simp only [List.nil_append]; omega), onceV, if_neg hx]
    rfl
  | succ n ih =>
    intro i hi hx
    have hlt : i < l.length := by omega
    by_cases e : l[i] = x
    · refine Ev.up (Ev.of fun k => ?_)
      simp only [cooperageref17_once.l0]
      rw [if_pos (by omega), if_pos (by omega), rd_at hlt, if_pos e, onceV, if_pos (by rw [← e]; exact List.getElem_mem hlt)]
    · refine Ev.up ((ih (i + 1) (by omega) ?_).mp fun k hk => ?_)
      · rw [List.take_succ_eq_append_getElem hlt]
        intro hm
        rcases List.mem_append.1 hm with hm | hm
        · exact hx hm
        · exact e (List.mem_singleton.1 hm).symm
      · simp only [cooperageref17_once.l0]
        rw [if_pos (by omega), if_pos (by omega), rd_at hlt, if_neg e, w64s i (by omega)]
        exact hk
theorem once_f (l : List Int) (x : Int) (hl : l.length ≤ 1000) : Ev fun k => cooperageref17_once.f k l x = some (onceV l x) := once_loop l x hl l.length 0 (by omega) (by simp)
theorem mem_onceV {l : List Int} {x y : Int} : y ∈ onceV l x ↔ y ∈ l ∨ y = x := by
  unfold onceV
  split
  next h => exact ⟨.inl, fun h2 => h2.elim id fun e => e ▸ h⟩
  next h => simp

/-! #### The reference's search -/
def e48 (l : List S48) : List (Int × Int) := l.map fun e => (e.f0, e.f1)
theorem e48_to (l : List S43) : e48 (to48 l) = es l := by simp [e48, to48, es]
theorem e48_at {l : List S48} {i : Nat} (h : i < l.length) : ∃ h' : i < (e48 l).length, (e48 l)[i] = (l[i].f0, l[i].f1) := ⟨by simpa [e48] using h, by simp [e48]⟩
def Closed (m : List (Int × Int)) (dd : Int) (s : List Int) : Prop := ∀ e ∈ m, e.1 ∈ s → e.2 ∈ s ∧ e.2 ≠ dd
theorem Closed.none {m : List (Int × Int)} {a dd : Int} {s : List Int} (h : Closed m dd s) (ha : a ∈ s) : ¬ Leads m a dd := by
  have key : ∀ b, Leads m a b → b ∈ s ∧ b ≠ dd := by
    intro b hb
    induction hb with
    | one e => exact h _ e ha
    | more _ e ih => exact h _ e ih.1
  exact fun hw => (key dd hw).2 rfl
structure Rd (m : List (Int × Int)) (a dd : Int) (s0 s : List Int) (i : Nat) : Prop where
  sub : ∀ x ∈ s0, x ∈ s
  sound : ∀ x ∈ s, x = a ∨ Leads m a x
  done : ∀ e ∈ m.take i, e.1 ∈ s0 → e.2 ∈ s ∧ e.2 ≠ dd
  cl : Closed m dd s0 → s = s0
  meas : s = s0 ∨ unseen m s + 1 ≤ unseen m s0
  len : s.length + unseen m s ≤ m.length + 1
theorem unseen_more {m : List (Int × Int)} {i : Nat} {s : List Int} (hi : i < m.length) (h2 : m[i].2 ∉ s) : unseen m (s ++ [m[i].2]) + 1 ≤ unseen m s := by
  have := unseen_push hi h2
  have e : unseen m (s ++ [m[i].2]) = unseen m (m[i].2 :: s) := by
    unfold unseen
    congr 1
    apply List.filter_congr
    intro e _
    simp [Bool.or_comm]
  omega
theorem Rd.skip {m : List (Int × Int)} {a dd : Int} {s0 s : List Int} {i : Nat} (h : Rd m a dd s0 s i) (hi : i < m.length) (hs : m[i].1 ∉ s) : Rd m a dd s0 s (i + 1) :=
  have hd : ∀ e ∈ m.take (i + 1), e.1 ∈ s0 → e.2 ∈ s ∧ e.2 ≠ dd := fun e he h0 => by
      rw [take_one hi] at he
      rcases List.mem_append.1 he with he | he
      · exact h.done e he h0
      · rw [List.mem_singleton.1 he] at h0
        exact absurd (h.sub _ h0) hs
  ⟨h.sub, h.sound, hd, h.cl, h.meas, h.len⟩
theorem Rd.push {m : List (Int × Int)} {a dd : Int} {s0 s : List Int} {i : Nat} (h : Rd m a dd s0 s i) (hi : i < m.length) (hs : m[i].1 ∈ s) (ht : m[i].2 ≠ dd) : Rd m a dd s0 (onceV s m[i].2) (i + 1) := by
  have hm : (m[i].1, m[i].2) ∈ m := List.getElem_mem hi
  have hw : Leads m a m[i].2 := by
    rcases h.sound _ hs with e | hl
    · exact .one (by rw [← e]; exact hm)
    · exact .more hl hm
  refine ⟨fun x hx => mem_onceV.2 (.inl (h.sub x hx)), fun x hx => ?_, fun e he h0 => ?_, fun hc => ?_, ?_, ?_⟩
  · rcases mem_onceV.1 hx with hx | rfl
    · exact h.sound x hx
    · exact .inr hw
  · rw [take_one hi] at he
    rcases List.mem_append.1 he with he | he
    · exact ⟨mem_onceV.2 (.inl (h.done e he h0).1), (h.done e he h0).2⟩
    · rw [List.mem_singleton.1 he]
      exact ⟨mem_onceV.2 (.inr rfl), ht⟩
  · have e := h.cl hc
    rw [e] at hs ⊢
    unfold onceV
    rw [if_pos (hc _ hm hs).1]
  · by_cases hn : m[i].2 ∈ s
    · unfold onceV
      rw [if_pos hn]
      exact h.meas
    · unfold onceV
      rw [if_neg hn]
      have := unseen_more hi hn
      rcases h.meas with e | e
      · right; rw [← e]; exact this
      · right; omega
  · by_cases hn : m[i].2 ∈ s
    · unfold onceV
      rw [if_pos hn]
      exact h.len
    · unfold onceV
      rw [if_neg hn]
      have := unseen_more hi hn
      have := h.len
      rw [List.length_append, List.length_singleton]
      omega
theorem Rd.found {m : List (Int × Int)} {a dd : Int} {s0 s : List Int} {i : Nat} (h : Rd m a dd s0 s i) (hi : i < m.length) (hs : m[i].1 ∈ s) (ht : m[i].2 = dd) : Leads m a dd := by
  have hm : (m[i].1, m[i].2) ∈ m := List.getElem_mem hi
  rw [ht] at hm
  rcases h.sound _ hs with e | hl
  · exact .one (by rw [← e]; exact hm)
  · exact .more hl hm

theorem reach_l2 (l : List S48) (dd r : Int) (i : Nat) (hi : i < l.length) (b : Bool) (s : List Int) (hsl : s.length ≤ 1000) (hil : i ≤ 1000)
    (h1 : l[i].f0 ∈ s → l[i].f1 = dd → b = true)
    (h2 : l[i].f0 ∈ s → l[i].f1 ≠ dd → Ev fun k => cooperageref17_Reaches.l1 k l dd (onceV s l[i].f1) r ((i + 1 : Nat) : Int) = some b)
    (h3 : l[i].f0 ∉ s → Ev fun k => cooperageref17_Reaches.l1 k l dd s r ((i + 1 : Nat) : Int) = some b) :
    ∀ (n j : Nat), j + n = s.length → l[i].f0 ∉ s.take j → Ev fun k => cooperageref17_Reaches.l2 k l dd s r (i : Int) (j : Int) = some b := by
  intro n
  induction n with
  | zero =>
    intro j hj hx
    rw [List.take_of_length_le (by omega)] at hx
    refine Ev.up ((h3 hx).mp fun k hk => ?_)
    simp only [cooperageref17_Reaches.l2]
    rw [if_neg (by omega), w64s i (by omega)]
    exact hk
  | succ n ih =>
    intro j hj hx
    have hlt : j < s.length := by omega
    by_cases e : l[i].f0 = s[j]
    · have hm : l[i].f0 ∈ s := by rw [e]; exact List.getElem_mem hlt
      by_cases et : l[i].f1 = dd
      · refine Ev.up (Ev.of fun k => ?_)
        simp only [cooperageref17_Reaches.l2]
        rw [if_pos (by omega), if_pos (by omega), if_pos (by omega), if_pos (by omega), rd48 hi, rd_at hlt, if_pos e, if_pos et, h1 hm et]
      · refine Ev.up (((once_f s l[i].f1 hsl).and (h2 hm et)).mp fun k hk => ?_)
        simp only [cooperageref17_Reaches.l2]
        rw [if_pos (by omega), if_pos (by omega), if_pos (by omega), if_pos (by omega), rd48 hi, rd_at hlt, if_pos e, if_neg et, hk.1, Option.bind_some, w64s i (by omega)]
        exact hk.2
    · refine Ev.up ((ih (j + 1) (by omega) ?_).mp fun k hk => ?_)
      · rw [List.take_succ_eq_append_getElem hlt]
        intro hm
        rcases List.mem_append.1 hm with hm | hm
        · exact hx hm
        · exact e (List.mem_singleton.1 hm)
      · simp only [cooperageref17_Reaches.l2]
        rw [if_pos (by omega), if_pos (by omega), if_pos (by omega), if_pos (by omega), rd48 hi, rd_at hlt, if_neg e, w64s j (by omega)]
        exact hk
theorem reach_l1 (l : List S48) (hl : l.length ≤ 500) (a dd r : Int) (b : Bool) (hb : b = decide (Leads (e48 l) a dd)) (s0 : List Int)
    (hnext : ∀ s, Rd (e48 l) a dd s0 s l.length → Ev fun k => cooperageref17_Reaches.l0 k l dd s (wrap64 (r + 1)) = some b) :
    ∀ (n i : Nat) (s : List Int), i + n = l.length → Rd (e48 l) a dd s0 s i → Ev fun k => cooperageref17_Reaches.l1 k l dd s r (i : Int) = some b := by
  have hel : (e48 l).length = l.length := by simp [e48]
  intro n
  induction n with
  | zero =>
    intro i s hi hR
    have : i = l.length := by omega
    rw [this] at hR
    refine Ev.up ((hnext s hR).mp fun k hk => ?_)
    simp only [cooperageref17_Reaches.l1]
    rw [if_neg (by omega)]
    exact hk
  | succ n ih =>
    intro i s hi hR
    have hlt : i < l.length := by omega
    obtain ⟨hlt', he⟩ := e48_at hlt
    have hsl : s.length ≤ 1000 := by have := hR.len; omega
    refine Ev.up ((reach_l2 l dd r i hlt b s hsl (by omega) (fun hm ht => ?_) (fun hm ht => ?_) (fun hm => ?_) s.length 0 (by omega) (by simp)).mp fun k hk => ?_)
    · rw [hb]
      exact decide_eq_true (hR.found hlt' (by rw [he]; exact hm) (by rw [he]; exact ht))
    · have := hR.push hlt' (by rw [he]; exact hm) (by rw [he]; exact ht)
      rw [he] at this
      exact ih (i + 1) _ (by omega) this
    · exact ih (i + 1) _ (by omega) (hR.skip hlt' (by rw [he]; exact hm))
    · simp only [cooperageref17_Reaches.l1]
      rw [if_pos (by omega)]
      exact hk
theorem reach_l0 (l : List S48) (hl : l.length ≤ 500) (a dd : Int) (b : Bool) (hb : b = decide (Leads (e48 l) a dd)) :
    ∀ (n r : Nat) (s : List Int), r + n = l.length + 1 → a ∈ s → (∀ x ∈ s, x = a ∨ Leads (e48 l) a x) → s.length + unseen (e48 l) s ≤ (e48 l).length + 1 → (Closed (e48 l) dd s ∨ unseen (e48 l) s + r ≤ l.length) →
    Ev fun k => cooperageref17_Reaches.l0 k l dd s (r : Int) = some b := by
  have hel : (e48 l).length = l.length := by simp [e48]
  intro n
  induction n with
  | zero =>
    intro r s hr ha hs hn hc
    refine Ev.up (Ev.of fun k => ?_)
    simp only [cooperageref17_Reaches.l0]
    rw [if_neg (by omega), hb]
    rcases hc with hc | hc
    · rw [decide_eq_false (hc.none ha)]
    · omega
  | succ n ih =>
    intro r s hr ha hs hn hc
    refine Ev.up ((reach_l1 l hl a dd (r : Int) b hb s (fun s' hR => ?_) l.length 0 s (by omega) ⟨fun x hx => hx, hs, fun e he => by simp at he, fun _ => rfl, .inl rfl, hn⟩).mp fun k hk => ?_)
    · rw [w64s r (by omega)]
      refine ih (r + 1) s' (by omega) (hR.sub a ha) hR.sound hR.len ?_
      have hcl : s' = s → Closed (e48 l) dd s' := by
        intro e
        rw [e]
        intro e' he' h0
        have := hR.done e' (by rw [List.take_of_length_le (by omega)]; exact he') h0
        rw [e] at this
        exact this
      rcases hR.meas with e | e
      · exact .inl (hcl e)
      · rcases hc with hc | hc
        · exact .inl (hcl (hR.cl hc))
        · exact .inr (by omega)
    · simp only [cooperageref17_Reaches.l0]
      rw [if_pos (by omega)]
      exact hk
theorem reach_f (l : List S48) (hl : l.length ≤ 500) (a dd : Int) : Ev fun k => cooperageref17_Reaches.f k l a dd = some (decide (Leads (e48 l) a dd)) := by
  have hel : (e48 l).length = l.length := by simp [e48]
  have hu := unseen_le (e48 l) [a]
  exact reach_l0 l hl a dd _ rfl (l.length + 1) 0 [a] (by omega) List.mem_cons_self (fun x hx => .inl (List.mem_singleton.1 hx)) (by simp only [List.length_singleton]; omega) (.inr (by omega))
end Go.Proofs.Ytjaghgelmlcplaa.Pure
