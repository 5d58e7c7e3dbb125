/- Ways along edges, and what a search by a queue keeps (plain: no program). -/
import Derived.Below
namespace Go.Proofs.Ytjaghgelmlcplaa.Way

/-- There is a way of one edge or more. -/
inductive Leads (l : List (Int × Int)) (a : Int) : Int → Prop
  | one {b : Int} : (a, b) ∈ l → Leads l a b
  | more {b c : Int} : Leads l a b → (b, c) ∈ l → Leads l a c

theorem Leads.trans {l : List (Int × Int)} {a b c : Int} (h : Leads l a b) (k : Leads l b c) : Leads l a c := by
  induction k with
  | one e => exact .more h e
  | more _ e ih => exact .more ih e
theorem Leads.mono {l m : List (Int × Int)} {a b : Int} (hm : ∀ e ∈ l, e ∈ m) (h : Leads l a b) : Leads m a b := by
  induction h with
  | one e => exact .one (hm _ e)
  | more _ e ih => exact .more ih (hm _ e)

/-- How many edges lead to one that is not seen. -/
def unseen (l : List (Int × Int)) (sn : List Int) : Nat := (l.filter fun e => !sn.contains e.2).length

structure Inv (l : List (Int × Int)) (fr to : Int) (q sn : List Int) : Prop where
  q1 : ∀ x ∈ q, x = fr ∨ Leads l fr x
  s1 : ∀ x ∈ sn, Leads l fr x
  t1 : to ∉ sn
  c1 : ∀ x, (x = fr ∨ x ∈ sn) → x ∉ q → ∀ y, (x, y) ∈ l → y ∈ sn
structure InvI (l : List (Int × Int)) (fr to at_ : Int) (k : Nat) (q sn : List Int) : Prop where
  q1 : ∀ x ∈ q, x = fr ∨ Leads l fr x
  s1 : ∀ x ∈ sn, Leads l fr x
  t1 : to ∉ sn
  a1 : at_ = fr ∨ Leads l fr at_
  c1 : ∀ x, (x = fr ∨ x ∈ sn) → x ∉ q → x ≠ at_ → ∀ y, (x, y) ∈ l → y ∈ sn
  k1 : ∀ y, (at_, y) ∈ l.take k → y ∈ sn

theorem Inv.start (l : List (Int × Int)) (fr to : Int) : Inv l fr to [fr] [] where
  q1 := fun x hx => .inl (List.mem_singleton.1 hx)
  s1 := fun x hx => by cases hx
  t1 := fun h => by cases h
  c1 := fun x hx hq => by
    rcases hx with rfl | hx
    · exact absurd (List.mem_singleton.2 rfl) hq
    · cases hx
theorem Inv.enter {l : List (Int × Int)} {fr to a : Int} {q sn : List Int} (h : Inv l fr to (a :: q) sn) : InvI l fr to a 0 q sn where
  q1 := fun x hx => h.q1 x (List.mem_cons_of_mem _ hx)
  s1 := h.s1
  t1 := h.t1
  a1 := h.q1 a List.mem_cons_self
  c1 := fun x hx hq hne => h.c1 x hx (fun hm => by
    rcases List.mem_cons.1 hm with e | e
    · exact hne e
    · exact hq e)
  k1 := fun y hy => by simp at hy
theorem take_one {l : List (Int × Int)} {k : Nat} (hk : k < l.length) : l.take (k + 1) = l.take k ++ [l[k]] := List.take_succ_eq_append_getElem hk
theorem InvI.skip {l : List (Int × Int)} {fr to a : Int} {k : Nat} {q sn : List Int} (h : InvI l fr to a k q sn) (hk : k < l.length) (hs : l[k].1 ≠ a ∨ l[k].2 ∈ sn) : InvI l fr to a (k + 1) q sn where
  q1 := h.q1
  s1 := h.s1
  t1 := h.t1
  a1 := h.a1
  c1 := h.c1
  k1 := fun y hy => by
    rw [take_one hk] at hy
    rcases List.mem_append.1 hy with hy | hy
    · exact h.k1 y hy
    · have e := List.mem_singleton.1 hy
      rw [← e] at hs
      rcases hs with hs | hs
      · exact absurd rfl hs
      · exact hs
theorem InvI.found {l : List (Int × Int)} {fr to a : Int} {k : Nat} {q sn : List Int} (h : InvI l fr to a k q sn) (hk : k < l.length) (h1 : l[k].1 = a) (h2 : l[k].2 = to) : Leads l fr to := by
  have hm : (a, to) ∈ l := by
    have := List.getElem_mem hk
    rw [show l[k] = (a, to) from Prod.ext h1 h2] at this
    exact this
  rcases h.a1 with rfl | ha
  · exact .one hm
  · exact .more ha hm
theorem InvI.push {l : List (Int × Int)} {fr to a : Int} {k : Nat} {q sn : List Int} (h : InvI l fr to a k q sn) (hk : k < l.length) (h1 : l[k].1 = a) (h3 : l[k].2 ≠ to) : InvI l fr to a (k + 1) (q ++ [l[k].2]) (l[k].2 :: sn) := by
  have hm : (a, l[k].2) ∈ l := by
    have := List.getElem_mem hk
    rw [show l[k] = (a, l[k].2) from Prod.ext h1 rfl] at this
    exact this
  have hw : Leads l fr l[k].2 := by
    rcases h.a1 with e | ha
    · rw [← e]; exact .one hm
    · exact .more ha hm
  refine ⟨fun x hx => ?_, fun x hx => ?_, fun ht => ?_, h.a1, fun x hx hq hne y hy => ?_, fun y hy => ?_⟩
  · rcases List.mem_append.1 hx with hx | hx
    · exact h.q1 x hx
    · rw [List.mem_singleton.1 hx]; exact .inr hw
  · rcases List.mem_cons.1 hx with e | hx
    · rw [e]; exact hw
    · exact h.s1 x hx
  · rcases List.mem_cons.1 ht with e | ht
    · exact h3 e.symm
    · exact h.t1 ht
  · have hq' : x ∉ q := fun hm => hq (List.mem_append_left _ hm)
    have hx' : x = fr ∨ x ∈ sn := by
      rcases hx with hx | hx
      · exact .inl hx
      · rcases List.mem_cons.1 hx with e | hx
        · exact absurd (List.mem_append_right _ (List.mem_singleton.2 e)) hq
        · exact .inr hx
    exact List.mem_cons_of_mem _ (h.c1 x hx' hq' hne y hy)
  · rw [take_one hk] at hy
    rcases List.mem_append.1 hy with hy | hy
    · exact List.mem_cons_of_mem _ (h.k1 y hy)
    · rw [← List.mem_singleton.1 hy]; exact List.mem_cons_self
theorem InvI.leave {l : List (Int × Int)} {fr to a : Int} {q sn : List Int} (h : InvI l fr to a l.length q sn) : Inv l fr to q sn where
  q1 := h.q1
  s1 := h.s1
  t1 := h.t1
  c1 := fun x hx hq y hy => by
    by_cases e : x = a
    · subst e
      exact h.k1 y (by rw [List.take_length]; exact hy)
    · exact h.c1 x hx hq e y hy
theorem Inv.none {l : List (Int × Int)} {fr to : Int} {sn : List Int} (h : Inv l fr to [] sn) : ¬ Leads l fr to := by
  have key : ∀ b, Leads l fr b → b ∈ sn := by
    intro b hb
    induction hb with
    | one e => exact h.c1 fr (.inl rfl) (by simp) _ e
    | more _ e ih => exact h.c1 _ (.inr ih) (by simp) _ e
  exact fun hw => h.t1 (key to hw)
theorem unseen_push {l : List (Int × Int)} {k : Nat} {sn : List Int} (hk : k < l.length) (h2 : l[k].2 ∉ sn) : unseen l (l[k].2 :: sn) + 1 ≤ unseen l sn := by
  have key : ∀ (m : List (Int × Int)) (y : Int), y ∉ sn → ((m.filter fun e => !(y :: sn).contains e.2).length ≤ (m.filter fun e => !sn.contains e.2).length) ∧ (∀ e ∈ m, e.2 = y → (m.filter fun e => !(y :: sn).contains e.2).length + 1 ≤ (m.filter fun e => !sn.contains e.2).length) := by
    intro m y hy
    induction m with
    | nil => exact ⟨by simp, fun e he => by cases he⟩
    | cons c m ih =>
      by_cases h1 : c.2 ∈ sn
      · have e1 : (!(y :: sn).contains c.2) = false := by simp [h1]
        have e2 : (!sn.contains c.2) = false := by simp [h1]
        rw [List.filter_cons, List.filter_cons, e1, e2]
        refine ⟨by simpa using ih.1, fun e he hey => ?_⟩
        rcases List.mem_cons.1 he with rfl | he
        · exact absurd h1 (by rw [hey]; exact hy)
        · simpa using ih.2 e he hey
      · by_cases h3 : c.2 = y
        · have e1 : (!(y :: sn).contains c.2) = false := by simp [h3]
          have e2 : (!sn.contains c.2) = true := by simp [h1]
          rw [List.filter_cons, List.filter_cons, e1, e2]
          have := ih.1
          simp only [Bool.false_eq_true, if_false, if_true, List.length_cons]
          exact ⟨by omega, fun _ _ _ => by omega⟩
        · have e1 : (!(y :: sn).contains c.2) = true := by simp [h1, h3]
          have e2 : (!sn.contains c.2) = true := by simp [h1]
          rw [List.filter_cons, List.filter_cons, e1, e2]
          simp only [if_true, List.length_cons]
          refine ⟨by have := ih.1; omega, fun e he hey => ?_⟩
          rcases List.mem_cons.1 he with rfl | he
          · exact absurd hey h3
          · have := ih.2 e he hey; omega
  exact (key l _ h2).2 _ (List.getElem_mem hk) rfl
theorem unseen_le (l : List (Int × Int)) (sn : List Int) : unseen l sn ≤ l.length := List.length_filter_le _ _
end Go.Proofs.Ytjaghgelmlcplaa.Way
