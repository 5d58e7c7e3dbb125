import Derived.Test.YtajiidkmijeidaaDoorMB
import Derived.Test.YtajiidkmijeidaaDoorMA
import Derived.Lib.SplitLaws
/- Several texts of this session in one (merge.py): the walks of the functions that the laws reach. -/
/- The reference's own rows, plain. -/
namespace Go.Proofs.YtajiidkmijeidaaDoor.Fr
open Go.RowKit Go.Proofs.YtajiidkmijeidaaDoor.F Go.Proofs.YtajiidkmijeidaaDoorW.PrintWords
set_option linter.unusedVariables false
set_option linter.unusedSimpArgs false
theorem w64s (i : Nat) (h : i ≤ 100000000000) : wrap64 ((i : Int) + 1) = ((i + 1 : Nat) : Int) := by unfold wrap64; omega
theorem w64n (i : Int) (h0 : -100000000000000000 ≤ i) (h : i ≤ 100000000000000000) : wrap64 i = i := by unfold wrap64; omega
theorem rd_at (l : List Fl) (i : Nat) (h : i < l.length) : rd_T90 l (i : Int) = l[i] := by
  unfold rd_T90
  rw [Int.toNat_natCast, List.getD_eq_getElem?_getD, List.getElem?_eq_getElem h]
  rfl
def isP (q : ByteArray) (f : Fl) : Bool := f.f0.data.toList == q.data.toList
/-- Where a path's file stands; -1. -/
def findI (l : List Fl) (q : ByteArray) : Int := match l.findIdx? (isP q) with | some i => (i : Int) | none => -1
theorem Find_l0 (l : List Fl) (q : ByteArray) (hl : l.length ≤ 1000000) : ∀ (k i : Nat), i ≤ l.length → l.length < k + i → cooperageref5_Find.l0 k l q i = some (match (l.drop i).findIdx? (isP q) with | some j => ((i + j : Nat) : Int) | none => -1)
  | 0, i, h1, h2 => absurd h2 (by omega)
  | k + 1, i, h1, h2 => by
    unfold cooperageref5_Find.l0
    by_cases hi : i < l.length
    · rw [if_pos (by omega), if_pos (by omega), rd_at l i hi, List.drop_eq_getElem_cons hi, List.findIdx?_cons]
      by_cases hp : isP q l[i] = true
      · have hp' : l[i].f0.toList = q.toList := by
          unfold isP at hp
          rw [ByteArray.toList_eq, ByteArray.toList_eq]
          exact beq_iff_eq.1 hp
        rw [if_pos hp', if_pos hp]
        simp
      · have hp' : ¬ l[i].f0.toList = q.toList := by
          intro e
          apply hp
          unfold isP
          rw [ByteArray.toList_eq, ByteArray.toList_eq] at e
          exact beq_iff_eq.2 e
        rw [if_neg hp', if_neg hp, w64s i (by omega), Find_l0 l q hl k (i + 1) (by omega) (by omega)]
        cases (l.drop (i + 1)).findIdx? (isP q) with
        | none => rfl
        | some j =>
          simp only [Option.map_some]
          have e : ((i + 1 + j : Nat) : Int) = ((i + (j + 1) : Nat) : Int) := by congr 1; omega
          exact congrArg some e
    · rw [if_neg (by omega)]
      rw [List.drop_eq_nil_of_le (by omega)]
      rfl
theorem Find_f (l : List Fl) (q : ByteArray) (hl : l.length ≤ 1000000) : cooperageref5_Find.f (l.length + 1) l q = some (findI l q) := by
  have := Find_l0 l q hl (l.length + 1) 0 (by omega) (by omega)
  unfold cooperageref5_Find.f findI
  rw [show (0 : Int) = ((0 : Nat) : Int) from rfl, this, List.drop_zero]
  cases l.findIdx? (isP q) <;> simp
theorem findI_none {l : List Fl} {q : ByteArray} (h : findF l q = none) : findI l q = -1 := by
  unfold findI
  have : l.findIdx? (isP q) = none := by
    rw [List.findIdx?_eq_none_iff]
    intro x hx
    unfold findF at h
    rw [List.find?_eq_none] at h
    simpa [isP] using h x hx
  rw [this]
theorem findI_some {l : List Fl} {q : ByteArray} {f : Fl} (h : findF l q = some f) : ∃ i, ∃ hi : i < l.length, findI l q = (i : Int) ∧ l[i] = f := by
  have h1 : l.findIdx? (isP q) ≠ none := by
    intro e
    rw [List.findIdx?_eq_none_iff] at e
    have := e f (List.mem_of_find?_eq_some h)
    have h2 := List.find?_some h
    unfold isP at this
    rw [h2] at this
    cases this
  cases e : l.findIdx? (isP q) with
  | none => exact absurd e h1
  | some i =>
    have e' := e
    rw [List.findIdx?_eq_some_iff_getElem] at e
    obtain ⟨hi, hp, hlt⟩ := e
    refine ⟨i, hi, ?_, ?_⟩
    · unfold findI
      rw [e']
    · unfold findF at h
      have : l.find? (isP q) = some l[i] := by
        rw [List.find?_eq_some_iff_getElem]
        exact ⟨hp, i, hi, rfl, fun j hj => by simpa using hlt j hj⟩
      have h3 : l.find? (isP q) = some f := h
      rw [this] at h3
      exact Option.some.inj h3
theorem drop_l0 (l : List Fl) (q : ByteArray) (hl : l.length ≤ 1000000) : ∀ (k i : Nat) (out : List Fl), i ≤ l.length → l.length < k + i → out.length ≤ i → cooperageref5_drop.l0 k l q out i = some (out ++ dropF (l.drop i) q)
  | 0, i, out, h1, h2, h3 => absurd h2 (by omega)
  | k + 1, i, out, h1, h2, h3 => by
    unfold cooperageref5_drop.l0
    by_cases hi : i < l.length
    · rw [if_pos (by omega), if_pos (by omega), rd_at l i hi, List.drop_eq_getElem_cons hi]
      by_cases hp : l[i].f0.toList = q.toList
      · rw [if_pos hp, w64s i (by omega), drop_l0 l q hl k (i + 1) out (by omega) (by omega) (by omega)]
        unfold dropF
        rw [List.filter_cons_of_neg]
        rw [ByteArray.toList_eq, ByteArray.toList_eq] at hp
        simp [hp]
      · rw [if_neg hp, if_pos (by omega), w64s i (by omega), drop_l0 l q hl k (i + 1) _ (by omega) (by omega) (by simp; omega)]
        unfold dropF
        rw [List.filter_cons_of_pos]
        · rw [List.append_assoc]
          rfl
        · rw [ByteArray.toList_eq, ByteArray.toList_eq] at hp
          simp only [Bool.not_eq_true', beq_eq_false_iff_ne]
          exact hp
    · rw [if_neg (by omega), List.drop_eq_nil_of_le (by omega)]
      simp [dropF]
theorem drop_f (l : List Fl) (q : ByteArray) (hl : l.length ≤ 1000000) (k : Nat) (hk : l.length < k) : cooperageref5_drop.f k l q = some (dropF l q) := by
  unfold cooperageref5_drop.f
  have := drop_l0 l q hl k 0 [] (by omega) (by omega) (by simp)
  simpa using this
theorem less_before : ∀ (a b : List UInt8), Op.bytesLess a b = bytesBefore a b
  | [], [] => rfl
  | [], _ :: _ => rfl
  | _ :: _, [] => rfl
  | x :: xs, y :: ys => by
    unfold Op.bytesLess bytesBefore
    rw [less_before xs ys]
theorem put_done (l : List Fl) (p s : ByteArray) (t : Int) (hl : l.length ≤ 1000000) : ∀ (k i : Nat) (out : List Fl), i ≤ l.length → l.length < k + i → out.length ≤ i + 1 → cooperageref5_put.l0 k l out true i p s t = some (out ++ l.drop i)
  | 0, i, out, h1, h2, h3 => absurd h2 (by omega)
  | k + 1, i, out, h1, h2, h3 => by
    unfold cooperageref5_put.l0
    by_cases hi : i < l.length
    · rw [if_pos (by omega), if_pos rfl, if_pos (by omega), if_pos (by omega), rd_at l i hi, w64s i (by omega), put_done l p s t hl k (i + 1) _ (by omega) (by omega) (by simp; omega), List.drop_eq_getElem_cons hi, List.append_assoc]
      rfl
    · rw [if_neg (by omega), if_pos rfl, List.drop_eq_nil_of_le (by omega)]
      simp
theorem insF_lt {f g : Fl} {r : List Fl} (h : ltB f.f0 g.f0 = true) : insF f (g :: r) = f :: g :: r := if_pos h
theorem insF_ge {f g : Fl} {r : List Fl} (h : ¬ ltB f.f0 g.f0 = true) : insF f (g :: r) = g :: insF f r := if_neg h
theorem put_l0 (l : List Fl) (p s : ByteArray) (t : Int) (hl : l.length ≤ 1000000) : ∀ (k i : Nat) (out : List Fl), i ≤ l.length → l.length < k + i → out.length ≤ i → cooperageref5_put.l0 k l out false i p s t = some (out ++ insF ⟨p, s, t⟩ (l.drop i))
  | 0, i, out, h1, h2, h3 => absurd h2 (by omega)
  | k + 1, i, out, h1, h2, h3 => by
    unfold cooperageref5_put.l0
    by_cases hi : i < l.length
    · rw [if_pos (by omega), if_neg (by simp), if_pos (by omega), rd_at l i hi, List.drop_eq_getElem_cons hi, less_before]
      have hb : (ltB p l[i].f0 = true) = (bytesBefore p.toList l[i].f0.toList = true) := by
        unfold ltB
        rw [ByteArray.toList_eq, ByteArray.toList_eq]
      by_cases hlt : ltB p l[i].f0 = true
      · rw [if_pos (hb ▸ hlt), if_pos (by omega)]
        show (if (out ++ [_]).length < 3518437208883 then _ else _) = _
        rw [if_pos (by simp; omega), w64s i (by omega), put_done l p s t hl k (i + 1) _ (by omega) (by omega) (by simp; omega)]
        rw [insF_lt (f := ⟨p, s, t⟩) hlt, List.append_assoc, List.append_assoc]
        rfl
      · rw [if_neg (hb ▸ hlt), if_pos (by omega), w64s i (by omega), put_l0 l p s t hl k (i + 1) _ (by omega) (by omega) (by simp; omega)]
        rw [insF_ge (f := ⟨p, s, t⟩) hlt, List.append_assoc]
        rfl
    · rw [if_neg (by omega), if_neg (by simp), if_pos (by omega), List.drop_eq_nil_of_le (by omega)]
      simp [insF]
theorem dropF_length (l : List Fl) (q : ByteArray) : (dropF l q).length ≤ l.length := List.length_filter_le _ _
theorem put_f (l : List Fl) (p s : ByteArray) (t : Int) (hl : l.length ≤ 1000000) : cooperageref5_put.f (l.length + 1) l p s t = some (putF l ⟨p, s, t⟩) := by
  unfold cooperageref5_put.f
  rw [drop_f l p hl _ (by omega)]
  have h := dropF_length l p
  have := put_l0 (dropF l p) p s t (by omega) (l.length + 1) 0 [] (by omega) (by omega) (by simp)
  have h2 : cooperageref5_put.l0 (l.length + 1) (dropF l p) [] false 0 p s t = some (insF ⟨p, s, t⟩ (dropF l p)) := by simpa using this
  exact h2
/-- What the reference calls blocked. -/
def blockR (l : List Fl) (q : ByteArray) : Bool := l.any fun f => wayR f.f0 q || wayR q f.f0
theorem blocked_l0 (l : List Fl) (q : ByteArray) (hl : l.length ≤ 1000000) : ∀ (k i : Nat), i ≤ l.length → l.length < k + i → cooperageref5_blocked.l0 k l q i = some (blockR (l.drop i) q)
  | 0, i, h1, h2 => absurd h2 (by omega)
  | k + 1, i, h1, h2 => by
    unfold cooperageref5_blocked.l0
    by_cases hi : i < l.length
    · rw [if_pos (by omega), if_pos (by omega), rd_at l i hi, List.drop_eq_getElem_cons hi, w64s i (by omega), blocked_l0 l q hl k (i + 1) (by omega) (by omega)]
      unfold cooperageref5_way.f blockR
      rw [List.any_cons]
      cases h3 : wayR l[i].f0 q
      · cases h4 : wayR q l[i].f0 <;> simp
      · simp
    · rw [if_neg (by omega), List.drop_eq_nil_of_le (by omega)]
      rfl
theorem blocked_f (l : List Fl) (q : ByteArray) (hl : l.length ≤ 1000000) : cooperageref5_blocked.f (l.length + 1) l q = some (blockR l q) := by
  have := blocked_l0 l q hl (l.length + 1) 0 (by omega) (by omega)
  unfold cooperageref5_blocked.f
  simpa using this
theorem used_l0 (l : List Fl) (hl : l.length ≤ 1000000) (hu : usedF l ≤ 10000000000000000) : ∀ (k i : Nat), i ≤ l.length → l.length < k + i → cooperageref5_used.l0 k l ((usedF (l.take i) : Nat) : Int) i = some ((usedF l : Nat) : Int)
  | 0, i, h1, h2 => absurd h2 (by omega)
  | k + 1, i, h1, h2 => by
    unfold cooperageref5_used.l0
    by_cases hi : i < l.length
    · have e1 : usedF (l.take (i + 1)) = usedF (l.take i) + l[i].f1.size := by
        unfold usedF
        rw [List.take_succ_eq_append_getElem hi, List.map_append, List.sum_append]
        simp
      have e2 : usedF (l.take (i + 1)) ≤ usedF l := by
        have : l = l.take (i + 1) ++ l.drop (i + 1) := (List.take_append_drop _ _).symm
        conv => rhs; rw [this]
        unfold usedF
        rw [List.map_append, List.sum_append]
        omega
      have e3 : wrap64 ((usedF (l.take i) : Int) + (l[i].f1.size : Int)) = (usedF (l.take (i + 1)) : Int) := by
        rw [w64n _ (by omega) (by omega), e1]
        omega
      simp only [rd_at l i hi, w64s i (by omega), e3, used_l0 l hl hu k (i + 1) (by omega) (by omega)]
      rw [if_pos (by omega), if_pos (by omega)]
    · have : i = l.length := by omega
      subst this
      rw [if_neg (by omega), List.take_length]
theorem used_f (l : List Fl) (hl : l.length ≤ 1000000) (hu : usedF l ≤ 10000000000000000) : cooperageref5_used.f (l.length + 1) l = some ((usedF l : Nat) : Int) := by
  have := used_l0 l hl hu (l.length + 1) 0 (by omega) (by omega)
  unfold cooperageref5_used.f
  simpa [usedF] using this
end Go.Proofs.YtajiidkmijeidaaDoor.Fr
/- The reference's tree in memory; its callees on rows. -/
namespace Go.Proofs.YtajiidkmijeidaaDoor.Fr
open Go.RowKit Go.Proofs.YtajiidkmijeidaaDoor.F Go.Proofs.YtajiidkmijeidaaDoorW.PrintWords
set_option linter.unusedVariables false
set_option linter.unusedSimpArgs false
def kC : Kd Cg := Kd.iso (Kd.pair (Kd.int .i64) (Kd.pair Kd.string (Kd.pair Kd.string (Kd.int .i64)))) (fun x : Cg => (x.f0, x.f1, x.f2, x.f3))
theorem kC_open {w : World} {x : Cg} {cs : List Value} (h : kC.K w x cs) : cs = [.int .i64 x.f0, .string x.f1, .string x.f2, .int .i64 x.f3] := by
  obtain ⟨_, _, rfl, rfl, ⟨_, _, rfl, rfl, ⟨_, _, rfl, rfl, rfl⟩⟩⟩ := h
  exact rfl
def cgCells (x : Cg) : List Value := [.int .i64 x.f0, .string x.f1, .string x.f2, .int .i64 x.f3]
theorem kC_mk (w : World) (x : Cg) : kC.K w x (cgCells x) := ⟨[.int .i64 x.f0], [.string x.f1, .string x.f2, .int .i64 x.f3], rfl, rfl, ⟨[.string x.f1], [.string x.f2, .int .i64 x.f3], rfl, rfl, ⟨[.string x.f2], [.int .i64 x.f3], rfl, rfl, rfl⟩⟩⟩
theorem kC_mkM (w : World) (base : Nat) (ok : Nat → Prop) (x : Cg) : kC.M w base ok x (cgCells x) := ⟨[.int .i64 x.f0], [.string x.f1, .string x.f2, .int .i64 x.f3], rfl, rfl, ⟨[.string x.f1], [.string x.f2, .int .i64 x.f3], rfl, rfl, ⟨[.string x.f2], [.int .i64 x.f3], rfl, rfl, rfl⟩⟩⟩
/-- A row of files that is only read; of changes. -/
abbrev VF (w : World) (B : Nat → Prop) (v : Value) (l : List Fl) : Prop := Kd.V k90 90 w 0 B v l
abbrev VC (w : World) (B : Nat → Prop) (v : Value) (l : List Cg) : Prop := Kd.V kC 95 w 0 B v l
/-- Block m is the reference's tree, whose rows are among B. -/
structure RfAt (w : World) (m : Nat) (T : TS) (B : Nat → Prop) (vl vs vc : Value) : Prop where
  at_ : w.heap[m]? = some (.cells #[.int .i64 T.room, .int .i64 T.clock, vl, vs, vc] 88 (0, 0))
  now : VF w B vl T.l
  last : VF w B vs T.last
  row : VC w B vc T.ch
  nil : T.ch = [] → vc = .slice none 0 0
  free : ∀ k, B k → k < w.heap.size ∧ k ≠ m
def Rf (w : World) (m : Nat) (T : TS) (B : Nat → Prop) : Prop := ∃ vl vs vc, RfAt w m T B vl vs vc
section
variable {w w' : World} {m : Nat} {T : TS} {B S : Nat → Prop} {vl vs vc : Value}
theorem RfAt.lt (h : RfAt w m T B vl vs vc) : m < w.heap.size := (Array.getElem?_eq_some_iff.1 h.at_).1
theorem RfAt.c0 (h : RfAt w m T B vl vs vc) : w.cell? ⟨m, 0, none⟩ = some (.int .i64 T.room) := by simp [World.cell?, h.at_]
theorem RfAt.c1 (h : RfAt w m T B vl vs vc) : w.cell? ⟨m, 1, none⟩ = some (.int .i64 T.clock) := by simp [World.cell?, h.at_]
theorem RfAt.c2 (h : RfAt w m T B vl vs vc) : w.cell? ⟨m, 2, none⟩ = some vl := by simp [World.cell?, h.at_]
theorem RfAt.c3 (h : RfAt w m T B vl vs vc) : w.cell? ⟨m, 3, none⟩ = some vs := by simp [World.cell?, h.at_]
theorem RfAt.c4 (h : RfAt w m T B vl vs vc) : w.cell? ⟨m, 4, none⟩ = some vc := by simp [World.cell?, h.at_]
theorem RfAt.fz (h : RfAt w m T B vl vs vc) (k : Nat) : w.frozen? ⟨m, k, none⟩ = false := by simp [World.frozen?, h.at_]
theorem RfAt.chg (h : RfAt w m T B vl vs vc) (hc : Chg S w w') (hm : ¬ S m) (hs : ∀ k, B k → ¬ S k) : RfAt w' m T B vl vs vc where
  at_ := (hc.block m h.lt hm).trans h.at_
  now := Kd.V_step h.now fun k hk hl => hc.block k hl (hs k hk)
  last := Kd.V_step h.last fun k hk hl => hc.block k hl (hs k hk)
  row := Kd.V_step h.row fun k hk hl => hc.block k hl (hs k hk)
  nil := h.nil
  free := fun k hk => ⟨Nat.lt_of_lt_of_le (h.free k hk).1 hc.size, (h.free k hk).2⟩
theorem Rf.chg (h : Rf w m T B) (hc : Chg S w w') (hm : ¬ S m) (hs : ∀ k, B k → ¬ S k) : Rf w' m T B := by
  obtain ⟨vl, vs, vc, h⟩ := h
  exact ⟨vl, vs, vc, h.chg hc hm hs⟩
theorem RfAt.below (h : RfAt w m T B vl vs vc) (hb : Below w.heap.size w w') : RfAt w' m T B vl vs vc := h.chg (Chg.of_below hb fun _ => False) (fun e => e) fun _ _ e => e
theorem Rf.below (h : Rf w m T B) (hb : Below w.heap.size w w') : Rf w' m T B := h.chg (Chg.of_below hb fun _ => False) (fun e => e) fun _ _ e => e
theorem Rf.lt (h : Rf w m T B) : m < w.heap.size := by
  obtain ⟨vl, vs, vc, h⟩ := h
  exact h.lt
end
/-- How a call that changes the reference's tree ends. -/
def RfEnd (w : World) (m : Nat) (B : Nat → Prop) (T' : TS) (w' : World) : Prop := ∃ B', Rf w' m T' B' ∧ Chg (fun k => k = m) w w' ∧ ∀ k, B' k → B k ∨ w.heap.size ≤ k
theorem drawn_below {w w' : World} (h : Drawn0 w w') : Below w.heap.size w w' := by
  obtain ⟨n, rfl⟩ := h.out
  exact pw_below_drewN (Below.refl _ _) n
/-! ### callees -/
section
variable {w : World} {B : Nat → Prop} {v : Value} {l : List Fl}
theorem rfind_call (h : VF w B v l) (hl : l.length ≤ 1000000) (q : ByteArray) : Calls Tryd.prog 50 #[v, .string q] w fun e w' => e = .returned (.int .i64 (findI l q)) ∧ Drawn0 w w' := by
  obtain ⟨A, c, rfl⟩ := Kd.V_slice h
  obtain ⟨_, hc, hC⟩ := Kd.V_reads' h
  exact cooperageref5_Find.calls _ A c l q _ w hC hc (Find_f l q hl)
theorem rdrop_call (h : VF w B v l) (hl : l.length ≤ 1000000) (q : ByteArray) : Calls Tryd.prog 55 #[v, .string q] w fun e w' => ∃ v', e = .returned v' ∧ VF w' (fun k => w.heap.size ≤ k ∧ k < w'.heap.size) v' (dropF l q) ∧ Below w.heap.size w w' := by
  obtain ⟨A, c, rfl⟩ := Kd.V_slice h
  obtain ⟨_, hc, hC⟩ := Kd.V_reads' h
  refine (cooperageref5_drop.calls _ A c l q _ w hC hc (drop_f l q hl _ (Nat.lt_succ_self _))).mono ?_
  rintro e w' ⟨v', rfl, hr, hb⟩
  exact ⟨v', rfl, Kd.V_mono (Kd.R_V (Kd.R_bound hr)) fun k hk => ⟨hk.2.1, hk.2.2.1⟩, hb⟩
theorem rput_call (h : VF w B v l) (hl : l.length ≤ 1000000) (p s : ByteArray) (t : Int) : Calls Tryd.prog 67 #[v, .agg #[.string p, .string s, .int .i64 t]] w fun e w' => ∃ v', e = .returned v' ∧ VF w' (fun k => w.heap.size ≤ k ∧ k < w'.heap.size) v' (putF l ⟨p, s, t⟩) ∧ Below w.heap.size w w' := by
  obtain ⟨A, c, rfl⟩ := Kd.V_slice h
  obtain ⟨_, hc, hC⟩ := Kd.V_reads' h
  refine (cooperageref5_put.calls _ A c l p s t _ w hC hc (put_f l p s t hl)).mono ?_
  rintro e w' ⟨v', rfl, hr, hb⟩
  exact ⟨v', rfl, Kd.V_mono (Kd.R_V (Kd.R_bound hr)) fun k hk => ⟨hk.2.1, hk.2.2.1⟩, hb⟩
theorem rblocked_call (h : VF w B v l) (hl : l.length ≤ 1000000) (q : ByteArray) : Calls Tryd.prog 54 #[v, .string q] w fun e w' => e = .returned (.bool (blockR l q)) ∧ Drawn0 w w' := by
  obtain ⟨A, c, rfl⟩ := Kd.V_slice h
  obtain ⟨_, hc, hC⟩ := Kd.V_reads' h
  exact cooperageref5_blocked.calls _ A c l q _ w hC hc (blocked_f l q hl)
theorem rused_call (h : VF w B v l) (hl : l.length ≤ 1000000) (hu : usedF l ≤ 10000000000000000) : Calls Tryd.prog 64 #[v] w fun e w' => e = .returned (.int .i64 (usedF l)) ∧ Drawn0 w w' := by
  obtain ⟨A, c, rfl⟩ := Kd.V_slice h
  obtain ⟨_, hc, hC⟩ := Kd.V_reads' h
  exact cooperageref5_used.calls _ A c l _ w hC hc (used_f l hl hu)
/-- The cells of a file in a row. -/
theorem VF_at (h : VF w B v l) {i : Nat} (hi : i < l.length) : ∃ ad c, v = .slice (some ad) l.length c ∧ l.length ≤ c ∧ w.cell? (ad.add (i * 3)) = some (.string l[i].f0) ∧ w.cell? ⟨(ad.add (i * 3)).block, (ad.add (i * 3)).off + 1, none⟩ = some (.string l[i].f1) ∧ w.cell? ⟨(ad.add (i * 3)).block, (ad.add (i * 3)).off + 2, none⟩ = some (.int .i64 l[i].f2) := by
  obtain ⟨A, c, rfl⟩ := Kd.V_slice h
  obtain ⟨_, hc, hC⟩ := Kd.V_reads' h
  have := at_T90 hC (i : Int) (by omega) (by omega)
  rw [rd_at l i hi, Int.toNat_natCast] at this
  obtain ⟨ad, rfl, h1, h2, h3⟩ := this
  exact ⟨ad, c, rfl, hc, h1, h2, h3⟩
end
end Go.Proofs.YtajiidkmijeidaaDoor.Fr
/- The reference's after. -/
namespace Go.Proofs.YtajiidkmijeidaaDoor.Fr
open Go.RowKit Go.Proofs.YtajiidkmijeidaaDoor.F Go.Proofs.YtajiidkmijeidaaDoorW.PrintWords
set_option linter.unusedVariables false
set_option linter.unusedSimpArgs false
/-- How after ends. -/
def AfterEnd (w : World) (B : Nat → Prop) (r : List Fl) (e : Ending) (w' : World) : Prop :=
  ∃ v', e = .returned v' ∧ VF w' (fun k => B k ∨ (w.heap.size ≤ k ∧ k < w'.heap.size)) v' r ∧ Below w.heap.size w w'
theorem after_new {w W w' : World} {B : Nat → Prop} {r : List Fl} {v' : Value} (hb : Below w.heap.size w W) (h : VF w' (fun k => W.heap.size ≤ k ∧ k < w'.heap.size) v' r) (hb2 : Below W.heap.size W w') : AfterEnd w B r (.returned v') w' :=
  ⟨v', rfl, Kd.V_mono h fun k hk => .inr ⟨Nat.le_trans hb.size hk.1, hk.2⟩, hb.trans (hb2.mono hb.size)⟩
theorem cell_lt {w : World} {a : Addr} {u : Value} (h : w.cell? a = some u) : a.block < w.heap.size := by
  unfold World.cell? at h
  cases e : w.heap[a.block]? with
  | none => rw [e] at h; cases h
  | some o => exact (Array.getElem?_eq_some_iff.1 e).1
set_option maxHeartbeats 4000000 in
set_option maxRecDepth 100000 in
theorem rafter_none (w : World) (B : Nat → Prop) (v : Value) (l : List Fl) (h : VF w B v l) (hl : l.length ≤ 100000) (ck : Int) (cp cs : ByteArray) (ct : Int) (hk : KindOK ⟨ck, cp, cs, ct⟩) (hs : cs.size ≤ 1000000000) (hf : findF l cp = none) :
    Calls Tryd.prog 56 #[v, .agg #[.int .i64 ck, .string cp, .string cs, .int .i64 ct]] w (AfterEnd w B (afterF l ⟨ck, cp, cs, ct⟩)) := by
  have HF := Lib.hid (findI_none hf)
  have HL := Lib.hid (Nat.le_trans hl (by decide : 100000 ≤ 1000000))
  have HV := Lib.hid h
  have HT : Hid (textF l cp = ⟨#[]⟩) := by unfold Hid textF; rw [hf]
  have HA : Hid (¬ ck = 1 → ¬ ck = 2 → ¬ ck = 3 → afterF l ⟨ck, cp, cs, ct⟩ = l) := by
    intro h1 h2 h3
    unfold afterF
    simp only [h1, h2, h3, if_false, hf]
  have hsz : (⟨#[]⟩ : ByteArray).size + cs.size ≤ maxLen := by
    show 0 + cs.size ≤ 9223372036854775807
    omega
  have hcat : (⟨#[]⟩ : ByteArray) ++ cs = cs := by
    apply ByteArray.ext
    simp
  have HE1 : Hid (afterF l ⟨1, cp, cs, ct⟩ = putF l ⟨cp, cs, ct⟩) := rfl
  have HE2 : Hid (afterF l ⟨2, cp, cs, ct⟩ = putF l ⟨cp, cs, ct⟩) := by
    show putF l ⟨cp, textF l cp ++ cs, ct⟩ = _
    rw [HT.out, hcat]
  have HE3 : Hid (afterF l ⟨3, cp, cs, ct⟩ = dropF l cp) := rfl
  clear h hf hl
  go_enter Tryd.func56, Tryd.ntmps56
  go_upto_region 2 with (first
    | (go_at_call 50; refine (rfind_call (Kd.V_alloc HV.out _) HL.out _).mono ?_; rintro e w1 ⟨rfl, hd⟩; rw [HF.out]; have HB := Lib.hid (((newBelow w (.cells #[.int .i64 ck, .string cp, .string cs, .int .i64 ct] 95))).trans ((drawn_below hd).mono (by rw [World.size_alloc]; omega))); have hbx := ((drawn_below hd).block w.heap.size (by rw [World.size_alloc]; omega)).trans (World.alloc_heap_new w _); have b0 : w1.cell? ⟨w.heap.size, 0, none⟩ = some (.int .i64 ck) := (by simp [World.cell?, hbx]); have b1 : w1.cell? ⟨w.heap.size, 1, none⟩ = some (.string cp) := (by simp [World.cell?, hbx]); have b2 : w1.cell? ⟨w.heap.size, 2, none⟩ = some (.string cs) := (by simp [World.cell?, hbx]); have b3 : w1.cell? ⟨w.heap.size, 3, none⟩ = some (.int .i64 ct) := (by simp [World.cell?, hbx]); clear hbx hd))
  have HV1 : Hid (VF w1 B v l) := Kd.V_below HV.out HB.out
  rcases hk with e | e | e | e
  · obtain rfl : ck = 1 := e
    go_wp2_with (first
      | (go_at_call 67; refine (rput_call HV1.out HL.out _ _ _).mono ?_; rintro e w2 ⟨v', rfl, hv2, hb2⟩; have HX := Lib.hid (after_new (B := B) HB.out hv2 hb2); clear hv2 hb2))
    go_ret
    rw [HE1.out]
    exact HX.out
  · obtain rfl : ck = 2 := e
    go_wp2_with (first
      | (go_at_call 67; refine (rput_call HV1.out HL.out _ _ _).mono ?_; rintro e w2 ⟨v', rfl, hv2, hb2⟩; have HX := Lib.hid (after_new (B := B) HB.out hv2 hb2); clear hv2 hb2))
    go_ret
    rw [HE2.out]
    exact HX.out
  · obtain rfl : ck = 3 := e
    go_wp2_with (first
      | (go_at_call 55; refine (rdrop_call HV1.out HL.out _).mono ?_; rintro e w2 ⟨v', rfl, hv2, hb2⟩; have HX := Lib.hid (after_new (B := B) HB.out hv2 hb2); clear hv2 hb2))
    go_ret
    rw [HE3.out]
    exact HX.out
  · obtain rfl : ck = 4 := e
    go_wp2_with fail
    go_ret
    rw [HA.out (by decide) (by decide) (by decide)]
    show AfterEnd w B l (.returned v) w1
    exact ⟨_, rfl, Kd.V_mono HV1.out fun k hk => .inl hk, HB.out⟩
set_option maxHeartbeats 4000000 in
set_option maxRecDepth 100000 in
theorem rafter_some (w : World) (B : Nat → Prop) (v : Value) (l : List Fl) (h : VF w B v l) (hl : l.length ≤ 100000) (ck : Int) (cp cs : ByteArray) (ct : Int) (hk : KindOK ⟨ck, cp, cs, ct⟩) (hs : cs.size ≤ 1000000000) (f : Fl) (hf : findF l cp = some f) (hfs : f.f1.size ≤ 1000000000000) :
    Calls Tryd.prog 56 #[v, .agg #[.int .i64 ck, .string cp, .string cs, .int .i64 ct]] w (AfterEnd w B (afterF l ⟨ck, cp, cs, ct⟩)) := by
  obtain ⟨i, hi, hfi, hli⟩ := findI_some hf
  have HF := Lib.hid hfi
  have HLI := Lib.hid hli
  have HL := Lib.hid (Nat.le_trans hl (by decide : 100000 ≤ 1000000))
  have HV := Lib.hid h
  have HT : Hid (textF l cp = f.f1) := by unfold Hid textF; rw [hf]
  have hsz : f.f1.size + cs.size ≤ maxLen := by
    show f.f1.size + cs.size ≤ 9223372036854775807
    omega
  have HE1 : Hid (afterF l ⟨1, cp, cs, ct⟩ = putF l ⟨cp, cs, ct⟩) := rfl
  have HE2 : Hid (afterF l ⟨2, cp, cs, ct⟩ = putF l ⟨cp, f.f1 ++ cs, ct⟩) := by
    show putF l ⟨cp, textF l cp ++ cs, ct⟩ = _
    rw [HT.out]
  have HE3 : Hid (afterF l ⟨3, cp, cs, ct⟩ = dropF l cp) := rfl
  have HE4 : Hid (afterF l ⟨4, cp, cs, ct⟩ = putF (dropF l cp) ⟨cs, f.f1, f.f2⟩) := by
    show (match findF l cp with | none => l | some f => putF (dropF l cp) ⟨cs, f.f1, f.f2⟩) = _
    rw [hf]
  clear h hf hl hfi hli
  go_enter Tryd.func56, Tryd.ntmps56
  go_upto_region 2 with (first
    | (go_at_call 50; refine (rfind_call (Kd.V_alloc HV.out _) HL.out _).mono ?_; rintro e w1 ⟨rfl, hd⟩; rw [HF.out]; have HB := Lib.hid (((newBelow w (.cells #[.int .i64 ck, .string cp, .string cs, .int .i64 ct] 95))).trans ((drawn_below hd).mono (by rw [World.size_alloc]; omega))); have hbx := ((drawn_below hd).block w.heap.size (by rw [World.size_alloc]; omega)).trans (World.alloc_heap_new w _); have b0 : w1.cell? ⟨w.heap.size, 0, none⟩ = some (.int .i64 ck) := (by simp [World.cell?, hbx]); have b1 : w1.cell? ⟨w.heap.size, 1, none⟩ = some (.string cp) := (by simp [World.cell?, hbx]); have b2 : w1.cell? ⟨w.heap.size, 2, none⟩ = some (.string cs) := (by simp [World.cell?, hbx]); have b3 : w1.cell? ⟨w.heap.size, 3, none⟩ = some (.int .i64 ct) := (by simp [World.cell?, hbx]); clear hbx hd))
  have HV1 : Hid (VF w1 B v l) := Kd.V_below HV.out HB.out
  obtain ⟨ad, cc, e, hlc, q0, q1, q2⟩ := VF_at HV1.out hi
  rw [HLI.out] at q0 q1 q2
  subst e
  rcases hk with e | e | e | e
  · obtain rfl : ck = 1 := e
    go_wp2_with (first
      | (go_at_call 67; refine (rput_call HV1.out HL.out _ _ _).mono ?_; rintro e w2 ⟨v', rfl, hv2, hb2⟩; have HX := Lib.hid (after_new (B := B) HB.out hv2 hb2); clear hv2 hb2))
    go_ret
    rw [HE1.out]
    exact HX.out
  · obtain rfl : ck = 2 := e
    go_wp2_with (first
      | (go_at_call 67; refine (rput_call HV1.out HL.out _ _ _).mono ?_; rintro e w2 ⟨v', rfl, hv2, hb2⟩; have HX := Lib.hid (after_new (B := B) HB.out hv2 hb2); clear hv2 hb2))
    go_ret
    rw [HE2.out]
    exact HX.out
  · obtain rfl : ck = 3 := e
    go_wp2_with (first
      | (go_at_call 55; refine (rdrop_call HV1.out HL.out _).mono ?_; rintro e w2 ⟨v', rfl, hv2, hb2⟩; have HX := Lib.hid (after_new (B := B) HB.out hv2 hb2); clear hv2 hb2))
    go_ret
    rw [HE3.out]
    exact HX.out
  · obtain rfl : ck = 4 := e
    have hadb := cell_lt q0
    have hwb := cell_lt b1
    have HB1 : Hid (Below w1.heap.size w1 w1.drew) := (Below.refl _ w1).drew
    have HS : Hid (∀ W, Below w1.heap.size w1 W → (W.cell? ⟨w.heap.size, 1, none⟩ = some (.string cp) ∧ W.cell? ⟨w.heap.size, 2, none⟩ = some (.string cs) ∧ W.cell? ⟨(ad.add (i * 3)).block, (ad.add (i * 3)).off + 1, none⟩ = some (.string f.f1) ∧ W.cell? ⟨(ad.add (i * 3)).block, (ad.add (i * 3)).off + 2, none⟩ = some (.int .i64 f.f2)) ∧ Hid (Below w1.heap.size w1 W)) := fun W hW =>
      ⟨⟨(hW.cell (p := ⟨w.heap.size, 1, none⟩) hwb).trans b1, (hW.cell (p := ⟨w.heap.size, 2, none⟩) hwb).trans b2, (hW.cell (p := ⟨(ad.add (i * 3)).block, (ad.add (i * 3)).off + 1, none⟩) hadb).trans q1, (hW.cell (p := ⟨(ad.add (i * 3)).block, (ad.add (i * 3)).off + 2, none⟩) hadb).trans q2⟩, hW⟩
    have HL2 : Hid ((dropF l cp).length ≤ 1000000) := Nat.le_trans (dropF_length l cp) HL.out
    go_wp2_with fail
    first | (go_region_held3 (fun W => (W.cell? ⟨w.heap.size, 1, none⟩ = some (.string cp) ∧ W.cell? ⟨w.heap.size, 2, none⟩ = some (.string cs) ∧ W.cell? ⟨(ad.add (i * 3)).block, (ad.add (i * 3)).off + 1, none⟩ = some (.string f.f1) ∧ W.cell? ⟨(ad.add (i * 3)).block, (ad.add (i * 3)).off + 2, none⟩ = some (.int .i64 f.f2)) ∧ Hid (Below w1.heap.size w1 W)) (first | exact HS.out _ HB3.out | exact HS.out _ HB2.out | exact HS.out _ HB1.out) (first
      | (go_at_call 55; refine (rdrop_call (Kd.V_drew HV1.out) HL.out _).mono ?_; rintro e w2 ⟨v', rfl, hv2, hb2⟩; have HV2 := Lib.hid hv2; have HB2 := Lib.hid (HB1.out.trans hb2); clear hv2 hb2)
      | (go_at_call 67; refine (rput_call HV2.out HL2.out _ _ _).mono ?_; rintro e w3 ⟨v'', rfl, hv3, hb3⟩; have HX := Lib.hid (after_new (B := B) (HB.out.trans (HB2.out.mono HB.out.size)) hv3 hb3); have HB3 := Lib.hid (HB2.out.trans (hb3.mono HB2.out.size)); clear hv3 hb3))) | fail
    all_goals
      go_wp2_with fail
      go_ret
      rw [HE4.out]
      exact HX.out
theorem rafter_call (w : World) (B : Nat → Prop) (v : Value) (l : List Fl) (h : VF w B v l) (hl : l.length ≤ 100000) (hfs : ∀ f ∈ l, f.f1.size ≤ 1000000000000) (c : Cg) (hc : CgOK c) :
    Calls Tryd.prog 56 #[v, .agg (cgCells c).toArray] w (AfterEnd w B (afterF l c)) := by
  obtain ⟨ck, cp, cs, ct⟩ := c
  cases hf : findF l cp with
  | none => exact rafter_none w B v l h hl ck cp cs ct hc.kind hc.text hf
  | some f => exact rafter_some w B v l h hl ck cp cs ct hc.kind hc.text f hf (hfs f (mem_of_find hf))
end Go.Proofs.YtajiidkmijeidaaDoor.Fr
/- The reference's change. -/
namespace Go.Proofs.YtajiidkmijeidaaDoor.Fr
open Go.RowKit Go.Proofs.YtajiidkmijeidaaDoor.F Go.Proofs.YtajiidkmijeidaaDoorW.PrintWords
set_option linter.unusedVariables false
set_option linter.unusedSimpArgs false
theorem cgCells_at (ch : List Cg) (k : Nat) (hk : k < ch.length) (j : Nat) (hj : j < 4) : (ch.flatMap cgCells)[k * 4 + j]? = (cgCells ch[k])[j]? := by
  induction ch generalizing k with
  | nil => cases hk
  | cons c cs ih =>
    rw [List.flatMap_cons]
    have h4 : (cgCells c).length = 4 := rfl
    cases k with
    | zero => rw [List.getElem?_append_left (by omega)]; simp
    | succ k =>
      rw [List.getElem?_append_right (by omega), h4, show (k + 1) * 4 + j - 4 = k * 4 + j by omega, ih k (by simpa using hk)]
      simp
theorem cgCells_len (ch : List Cg) : (ch.flatMap cgCells).length = ch.length * 4 := by
  induction ch with
  | nil => rfl
  | cons c cs ih =>
    rw [List.flatMap_cons, List.length_append, ih, List.length_cons]
    have h4 : (cgCells c).length = 4 := rfl
    omega
theorem cgCells_one {ch : List Cg} {u : Value} (hu : u ∈ ch.flatMap cgCells) : u.oneCell' = true := by
  rw [List.mem_flatMap] at hu
  obtain ⟨c, _, hc⟩ := hu
  unfold cgCells at hc
  simp only [List.mem_cons, List.not_mem_nil, or_false] at hc
  rcases hc with rfl | rfl | rfl | rfl <;> rfl
theorem reps_cg {R : Cg → List Value → Prop} (hR : ∀ c, R c (cgCells c)) (l : List Cg) : Reps R 4 l (l.flatMap cgCells) := by
  refine ⟨cgCells_len l, fun j p hj => ?_⟩
  obtain ⟨hjl, rfl⟩ := List.getElem?_eq_some_iff.1 hj
  have : ((l.flatMap cgCells).drop (j * 4)).take 4 = cgCells l[j] := by
    apply List.ext_getElem?
    intro i
    rw [List.getElem?_take]
    by_cases hi : i < 4
    · rw [if_pos hi, List.getElem?_drop, cgCells_at l j hjl i hi]
    · rw [if_neg hi]
      exact (List.getElem?_eq_none (by show 4 ≤ i; omega)).symm
  rw [this]
  exact hR _
theorem VC_of_own {w : World} {base : Nat} {v : Value} {l : List Cg} (h : w.ownsRow base 95 4 v l.length (l.flatMap cgCells)) : VC w (fun k => base ≤ k ∧ k < w.heap.size) v l :=
  Kd.R_V (base := base) ⟨fun k hk => h.lt k hk, _, h, reps_cg (fun c => kC_mkM _ _ _ c) l⟩
theorem VC_at {w : World} {B : Nat → Prop} {v : Value} {l : List Cg} (h : VC w B v l) (h0 : 0 < l.length) :
    ∃ ad c, v = .slice (some ad) l.length c ∧ l.length ≤ c ∧ ∀ (j : Nat) u, (l.flatMap cgCells)[j]? = some u → w.cell? (ad.add j) = some u := by
  obtain ⟨A, c, rfl⟩ := Kd.V_slice h
  obtain ⟨_, hc, hC⟩ := Kd.V_reads' h
  obtain ⟨ad, rfl, hall⟩ := hC.2.2 h0
  refine ⟨ad, c, rfl, hc, fun j u hu => ?_⟩
  have hj : j < l.length * 4 := by
    have := (List.getElem?_eq_some_iff.1 hu).1
    rw [cgCells_len] at this
    exact this
  have hk : j / 4 < l.length := by omega
  obtain ⟨c', _, hK, hcell⟩ := hall (j / 4) _ (List.getElem?_eq_getElem hk)
  obtain rfl := kC_open hK
  have e1 : j = j / 4 * 4 + j % 4 := by omega
  rw [e1, cgCells_at l _ hk _ (Nat.mod_lt _ (by decide))] at hu
  rw [e1]
  exact hcell (j % 4) u hu
theorem infoCg : (Tryd.prog.info? 95).map (fun i => (i.zero, i.size, i.bytes)) = some (some (.agg #[.int .i64 0, .string ⟨#[]⟩, .string ⟨#[]⟩, .int .i64 0]), 4, 48) := by kernel_rfl
/-- In the midst of change: the files are new, the changes not yet. -/
structure ChMid (w : World) (m : Nat) (T : TS) (B : Nat → Prop) (L : List Fl) (vs vc : Value) (c : Cg) (wc : World) (u : Value) : Prop where
  at_ : wc.heap[m]? = some (.cells #[.int .i64 T.room, .int .i64 T.clock, u, vs, vc] 88 (0, 0))
  now : VF wc (fun k => B k ∨ (w.heap.size ≤ k ∧ k < wc.heap.size)) u L
  chg : Chg (fun k => k = m) w wc
  box : wc.heap[w.heap.size]? = some (.cells #[.int .i64 c.f0, .string c.f1, .string c.f2, .int .i64 c.f3] 95 (0, 0))
theorem ch_mid {w w1 : World} {m : Nat} {T : TS} {B : Nat → Prop} {L : List Fl} {vl vs vc u : Value} {c : Cg} (h : RfAt w m T B vl vs vc) (hb : Below w.heap.size w w1) (hv : VF w1 (fun k => B k ∨ (w.heap.size ≤ k ∧ k < w1.heap.size)) u L)
    (hbx : w1.heap[w.heap.size]? = some (.cells #[.int .i64 c.f0, .string c.f1, .string c.f2, .int .i64 c.f3] 95 (0, 0))) : ChMid w m T B L vs vc c (w1.setCell ⟨m, 2, none⟩ u) u := by
  have hlt := h.lt
  have hat1 := (hb.block m hlt).trans h.at_
  refine ⟨?_, ?_, ?_, ?_⟩
  · rw [heap_setCell_same w1 m 2 _ _ u hat1]
    simp
  · refine Kd.V_mono (Kd.V_far hv (fun k hk => ?_) u) fun k hk => hk.imp id fun hk => ⟨hk.1, by simpa using hk.2⟩
    rcases hk with hk | hk
    · exact (h.free k hk).2
    · exact fun e => by have := hk.1; simp only at e; omega
  · exact ((Chg.refl (fun k => k = m) w).below hb).setCell (p := ⟨m, 2, none⟩) (fun _ => rfl) _
  · rw [Below.heap_setCell w1 ⟨m, 2, none⟩ u w.heap.size (fun e => by simp only at e; omega)]
    exact hbx
theorem ChMid.far {w wc : World} {m : Nat} {T : TS} {B : Nat → Prop} {L : List Fl} {vs vc u : Value} {c : Cg} (hfree : ∀ k, B k → k < w.heap.size ∧ k ≠ m) (hlt : m < w.heap.size) (h : ChMid w m T B L vs vc c wc u) :
    ChMid w m { T with clock := T.clock + 1 } B L vs vc c (wc.setCell ⟨m, 1, none⟩ (.int .i64 (T.clock + 1))) u := by
  refine ⟨?_, ?_, ?_, ?_⟩
  · rw [heap_setCell_same wc m 1 _ _ _ h.at_]
    simp
  · refine Kd.V_mono (Kd.V_far h.now (fun k hk => ?_) _) fun k hk => hk.imp id fun hk => ⟨hk.1, by simpa using hk.2⟩
    rcases hk with hk | hk
    · exact (hfree k hk).2
    · exact fun e => by have := hk.1; simp only at e; omega
  · exact h.chg.setCell (p := ⟨m, 1, none⟩) (fun _ => rfl) _
  · rw [Below.heap_setCell wc ⟨m, 1, none⟩ _ w.heap.size (fun e => by simp only at e; omega)]
    exact h.box
theorem ChMid.lt {w wc : World} {m : Nat} {T : TS} {B : Nat → Prop} {L : List Fl} {vs vc u : Value} {c : Cg} (h : ChMid w m T B L vs vc c wc u) : m < wc.heap.size ∧ w.heap.size < wc.heap.size :=
  ⟨(Array.getElem?_eq_some_iff.1 h.at_).1, (Array.getElem?_eq_some_iff.1 h.box).1⟩
theorem ChMid.below {w wc wd : World} {m : Nat} {T : TS} {B : Nat → Prop} {L : List Fl} {vs vc u : Value} {c : Cg} (h : ChMid w m T B L vs vc c wc u) (hb : Below wc.heap.size wc wd) : ChMid w m T B L vs vc c wd u :=
  ⟨(hb.block m h.lt.1).trans h.at_, Kd.V_mono (Kd.V_below h.now hb) fun k hk => hk.imp id fun hk => ⟨hk.1, Nat.lt_of_lt_of_le hk.2 hb.size⟩, h.chg.below hb, (hb.block _ h.lt.2).trans h.box⟩
theorem ch_end {w wE : World} {m : Nat} {T T1 : TS} {B : Nat → Prop} {L : List Fl} {vl vs vc u v5 : Value} {c : Cg} {base : Nat} (h : RfAt w m T B vl vs vc) (h3 : ChMid w m T1 B L vs vc c wE u) (hbase : w.heap.size ≤ base) (hlast : T1.last = T.last)
    (hown : wE.ownsRow base 95 4 v5 (T1.ch ++ [c]).length ((T1.ch ++ [c]).flatMap cgCells)) : RfEnd w m B { T1 with l := L, ch := T1.ch ++ [c] } (wE.setCell ⟨m, 4, none⟩ v5) := by
  have hlt := h.lt
  have hC := h3.chg.setCell (p := ⟨m, 4, none⟩) (fun _ => rfl) v5
  refine ⟨fun k => (B k ∨ w.heap.size ≤ k) ∧ k < wE.heap.size ∧ k ≠ m, ⟨u, vs, v5, ?_⟩, hC, fun k hk => hk.1⟩
  exact {
    at_ := by
      rw [heap_setCell_same wE m 4 _ _ _ h3.at_]
      simp
    now := by
      refine Kd.V_mono (Kd.V_bound (Kd.V_far h3.now (fun k hk => ?_) _)) fun k hk => ?_
      · rcases hk with hk | hk
        · exact (h.free k hk).2
        · exact fun e => by have := hk.1; simp only at e; omega
      · have h2 : k < wE.heap.size := by simpa using hk.2
        rcases hk.1 with hk | hk
        · exact ⟨.inl hk, h2, (h.free k hk).2⟩
        · exact ⟨.inr hk.1, h2, by have := hk.1; omega⟩
    last := by
      show VF _ _ vs T1.last
      rw [hlast]
      refine Kd.V_mono (Kd.V_step h.last fun k hk hl => hC.block k hl (h.free k hk).2) fun k hk => ⟨.inl hk, Nat.lt_of_lt_of_le (h.free k hk).1 h3.chg.size, (h.free k hk).2⟩
    row := by
      refine Kd.V_mono (Kd.V_far (VC_of_own hown) (fun k hk => ?_) _) fun k hk => ⟨.inr (Nat.le_trans hbase hk.1), hk.2, ?_⟩
      · exact fun e => by have := hk.1; simp only at e; omega
      · have := hk.1
        omega
    nil := fun e => by simp at e
    free := fun k hk => ⟨by simpa using hk.2.1, hk.2.2⟩ }
section
variable {m : Nat} {T : TS} {B : Nat → Prop}
set_option maxHeartbeats 4000000 in
set_option maxRecDepth 100000 in
theorem rchange_call (w : World) (hT : Rf w m T B) (c : Cg) (hc : CgOK c) (hl : T.l.length ≤ 100000) (hfs : ∀ f ∈ T.l, f.f1.size ≤ 1000000000000) (hck : 0 ≤ T.clock ∧ T.clock ≤ 1000000000000) (hch : T.ch.length ≤ 1000000) :
    Calls Tryd.prog 52 #[.pointer (some ⟨m, 0, none⟩), .agg (cgCells c).toArray] w fun e w' => e = .returned (.tuple #[]) ∧ RfEnd w m B (doneT T c) w' := by
  obtain ⟨vl, vs, vc, h⟩ := hT
  have HT := Lib.hid h
  have HC := Lib.hid hc
  have HFS := Lib.hid hfs
  have c2 := h.c2
  have hlt := h.lt
  clear h hc hfs
  obtain ⟨ck, cp, cs, ct⟩ := c
  unfold cgCells
  go_enter Tryd.func52, Tryd.ntmps52
  have HB0 : Hid (Below w.heap.size w ((w.alloc (.cells #[.int .i64 ck, .string cp, .string cs, .int .i64 ct] 95)).drew)) := (newBelow w _).drew
  have HW : Hid (∀ w1 v', VF w1 (fun k => B k ∨ (((w.alloc (.cells #[.int .i64 ck, .string cp, .string cs, .int .i64 ct] 95)).drew).heap.size ≤ k ∧ k < w1.heap.size)) v' (afterF T.l ⟨ck, cp, cs, ct⟩) → VF w1 (fun k => B k ∨ (w.heap.size ≤ k ∧ k < w1.heap.size)) v' (afterF T.l ⟨ck, cp, cs, ct⟩)) :=
    fun w1 v' h => Kd.V_mono h fun k hk => hk.imp id fun hk => ⟨Nat.le_trans HB0.out.size hk.1, hk.2⟩
  go_upto_region 1 with (fail)
  go_cut [13] (fun v13 wc => v13 = .pointer (some ⟨m, 2, none⟩) ∧ Hid (∃ A1 k1, ChMid w m T B (afterF T.l ⟨ck, cp, cs, ct⟩) vs vc ⟨ck, cp, cs, ct⟩ wc (.slice A1 (afterF T.l ⟨ck, cp, cs, ct⟩).length k1)))
  case first =>
    go_region_with (first
      | (go_at_call 56; refine (rafter_call _ B _ T.l (Kd.V_below HT.out.now HB0.out) hl HFS.out ⟨ck, cp, cs, ct⟩ HC.out).mono ?_; rintro e w1 ⟨v1, rfl, hv1, hb1⟩; obtain ⟨A1, k1, rfl⟩ := Kd.V_slice hv1; have hb2 := HB0.out.trans (hb1.mono HB0.out.size); have hat1 := (hb2.block m hlt).trans HT.out.at_; have d2 : w1.cell? ⟨m, 2, none⟩ = some vl := (by simp [World.cell?, hat1]); have g2 : w1.frozen? ⟨m, 2, none⟩ = false := (by simp [World.frozen?, hat1]); have HM := Lib.hid (ch_mid (c := ⟨ck, cp, cs, ct⟩) HT.out hb2 (HW.out _ _ hv1) ((hb1.block w.heap.size (by show w.heap.size < (w.alloc _).heap.size; rw [World.size_alloc]; omega)).trans (World.alloc_heap_new w _))); clear hv1 hb1 hb2 hat1))
    all_goals
      go_wp2_with fail
      go_meet
      exact ⟨rfl, _, _, HM.out⟩
  case rest =>
    obtain ⟨rfl, hM⟩ := hcut
    obtain ⟨A1, k1, hM⟩ := hM.out
    have HM := Lib.hid hM
    have m1 : wc.cell? ⟨m, 1, none⟩ = some (.int .i64 T.clock) := by simp [World.cell?, hM.at_]
    have f1 : wc.frozen? ⟨m, 1, none⟩ = false := by simp [World.frozen?, hM.at_]
    have HM3 := Lib.hid (ChMid.far HT.out.free hlt hM)
    clear hM
    go_upto_region 3 with (fail)
    generalize wc.setCell ⟨m, 1, none⟩ (.int .i64 (T.clock + 1)) = W3 at HM3
    clear m1 f1
    have m4 : W3.cell? ⟨m, 4, none⟩ = some vc := by simp [World.cell?, HM3.out.at_]
    have hmw := HM3.out.lt.1
    obtain ⟨i0, hi, hz0, hz1, hz2⟩ := info_parts infoCg
    go_cut [4] (fun v4 wd => ∃ g cap, v4 = .slice (some ⟨g, 0, none⟩) T.ch.length cap ∧ Hid (wd.ownsRow W3.heap.size 95 4 (.slice (some ⟨g, 0, none⟩) T.ch.length cap) T.ch.length (T.ch.flatMap cgCells) ∧ Below W3.heap.size W3 wd))
    case first =>
      have hO : Hid (World.ownsRow (W3.alloc (.cells #[] 95)) W3.heap.size 95 4 (.slice (some ⟨W3.heap.size, 0, none⟩) 0 0) 0 []) := ⟨rfl, .inr ⟨W3.heap.size, 0, #[], rfl, Nat.le_refl _, World.alloc_heap_new W3 _, Nat.le_refl _, by unfold maxLen; omega, rfl, rfl⟩⟩
      by_cases h0 : T.ch = []
      · obtain rfl := HT.out.nil h0
        go_wp2_with fail
        go_meet
        refine ⟨W3.heap.size, 0, by rw [h0]; rfl, ?_⟩
        rw [h0]
        exact ⟨hO.out, newBelow W3 _⟩
      · have hpos : 0 < T.ch.length := List.length_pos_iff.2 h0
        obtain ⟨ad, cc, e, hcc, hcells⟩ := VC_at (Kd.V_step HT.out.row fun k hk hl => HM3.out.chg.block k hl (HT.out.free k hk).2) hpos
        have HCE := Lib.hid hcells
        have H63 : Hid (0 + T.ch.length ≤ maxLen) := by unfold Hid maxLen; omega
        have HBB : Hid ((0 + T.ch.length) * 48 ≤ 140737488355328) := by unfold Hid; omega
        have hlen := Lib.hid (cgCells_len T.ch)
        have hone : Hid (∀ u ∈ T.ch.flatMap cgCells, u.oneCell' = true) := fun u hu => cgCells_one hu
        have hnw : Hid (∀ (j : Nat) u, (T.ch.flatMap cgCells)[j]? = some u → (W3.alloc (.cells #[] 95)).cell? (ad.add j) = some u) := fun j u hu => by
          have h1 := HCE.out j u hu
          rw [← h1]
          exact World.cell?_of_block (Below.heap_alloc W3 _ _ (cell_lt h1))
        clear hcells h0
        subst e
        go_wp2_with (first
          | (at_builtin; refine wpList_append_lies _ rfl _ _ 86 rfl W3.heap.size 95 i0 _ 4 48 Tryd.underlying86 hi hz0 hz1 hz2 rfl (by decide) (.slice (some ⟨W3.heap.size, 0, none⟩) 0 0) 0 [] rfl hO.out ad T.ch.length cc (T.ch.flatMap cgCells) rfl hlen.out hnw.out hone.out hpos H63.out HBB.out (by rw [World.size_alloc]; exact Nat.le_succ _) _ rfl ?_; intro g cap w4 h1 h2 h3 h4; have HX := Lib.hid h1; have HG := Lib.hid h2; clear h1 h2 h3 h4))
        go_meet
        refine ⟨g, cap, ?_, ?_, ?_⟩
        · simp
        · have := HX.out
          rw [Nat.zero_add, List.nil_append] at this
          exact this
        · exact (newBelow W3 _).grown HG.out (by rw [World.size_alloc]; exact Nat.le_succ _) fun k hk => by cases hk; exact Nat.le_refl _
    case rest =>
      obtain ⟨g, cap, rfl, hOB⟩ := hcut
      have HOWN := Lib.hid hOB.out.1
      have HBD := Lib.hid hOB.out.2
      have HMD := Lib.hid (HM3.out.below hOB.out.2)
      have hM := HM3.out.below hOB.out.2
      have b0 : wc.cell? ⟨w.heap.size, 0, none⟩ = some (.int .i64 ck) := by simp [World.cell?, hM.box]
      have b1 : wc.cell? ⟨w.heap.size, 1, none⟩ = some (.string cp) := by simp [World.cell?, hM.box]
      have b2 : wc.cell? ⟨w.heap.size, 2, none⟩ = some (.string cs) := by simp [World.cell?, hM.box]
      have b3 : wc.cell? ⟨w.heap.size, 3, none⟩ = some (.int .i64 ct) := by simp [World.cell?, hM.box]
      have hwd := hM.lt.1
      have hww := hM.lt.2
      have hg3 : W3.heap.size ≤ g := by
        rcases hOB.out.1.2 with ⟨e, _⟩ | ⟨g', cap', cur', e, hle, _⟩
        · cases e
        · cases e
          exact hle
      have hg3' : g < wc.heap.size := (hOB.out.1.lt g rfl).2
      clear hOB hM
      have H63 : Hid (T.ch.length + 1 ≤ maxLen) := by unfold Hid maxLen; omega
      have HBB : Hid ((T.ch.length + 1) * 48 ≤ 140737488355328) := by unfold Hid; omega
      have hone : Hid (∀ u ∈ cgCells ⟨ck, cp, cs, ct⟩, u.oneCell' = true) := fun u hu => cgCells_one (ch := [⟨ck, cp, cs, ct⟩]) (by simpa using hu)
      have hnw : Hid (∀ (j : Nat) u, (cgCells ⟨ck, cp, cs, ct⟩)[j]? = some u → (wc.alloc (.cells #[.int .i64 ck, .string cp, .string cs, .int .i64 ct] 95)).cell? ((⟨wc.heap.size, 0, none⟩ : Addr).add j) = some u) := World.news_of_block (World.alloc_heap_new wc _)
      have HEnd : Hid (∀ g2 cap2 wE, wE.ownsRow W3.heap.size 95 4 (.slice (some ⟨g2, 0, none⟩) (T.ch.length + 1) cap2) (T.ch.length + 1) (T.ch.flatMap cgCells ++ cgCells ⟨ck, cp, cs, ct⟩) → (wc.alloc (.cells #[.int .i64 ck, .string cp, .string cs, .int .i64 ct] 95)).grownBy wE (some g) →
          (wE.frozen? ⟨m, 4, none⟩ = false ∧ wE.cell? ⟨m, 4, none⟩ = some vc) ∧ RfEnd w m B (doneT T ⟨ck, cp, cs, ct⟩) (wE.setCell ⟨m, 4, none⟩ (.slice (some ⟨g2, 0, none⟩) (T.ch.length + 1) cap2))) := by
        intro g2 cap2 wE h1 h2
        have hB : Below W3.heap.size W3 wE := (HBD.out.trans ((newBelow wc _).mono HBD.out.size)).grown h2 (by rw [World.size_alloc]; exact Nat.le_succ_of_le HBD.out.size) fun k hk => by cases hk; exact hg3
        have hME := HM3.out.below hB
        refine ⟨⟨by simp [World.frozen?, hME.at_], by simp [World.cell?, hME.at_]⟩, ?_⟩
        refine ch_end (T1 := { T with clock := T.clock + 1 }) HT.out hME HM3.out.chg.size rfl ?_
        have e1 : (T.ch ++ [(⟨ck, cp, cs, ct⟩ : Cg)]).length = T.ch.length + 1 := by simp
        have e2 : (T.ch ++ [(⟨ck, cp, cs, ct⟩ : Cg)]).flatMap cgCells = T.ch.flatMap cgCells ++ cgCells ⟨ck, cp, cs, ct⟩ := by simp
        show wE.ownsRow _ _ _ _ (T.ch ++ [(⟨ck, cp, cs, ct⟩ : Cg)]).length ((T.ch ++ [(⟨ck, cp, cs, ct⟩ : Cg)]).flatMap cgCells)
        rw [e1, e2]
        exact h1
      go_wp2_with (first
        | (at_builtin; refine wpList_append_lies _ rfl _ _ 86 rfl W3.heap.size 95 i0 _ 4 48 Tryd.underlying86 hi hz0 hz1 hz2 rfl (by decide) (.slice (some ⟨g, 0, none⟩) T.ch.length cap) T.ch.length (T.ch.flatMap cgCells) rfl (HOWN.out.alloc _) ⟨wc.heap.size, 0, none⟩ 1 1 (cgCells ⟨ck, cp, cs, ct⟩) rfl rfl hnw.out hone.out (by decide) H63.out HBB.out (by rw [World.size_alloc]; exact Nat.le_succ_of_le HBD.out.size) _ rfl ?_; intro g2 cap2 wE h1 h2 h3 h4; obtain ⟨⟨fE, cE⟩, hE⟩ := HEnd.out g2 cap2 wE h1 h2; have HX := Lib.hid hE; clear h1 h2 h3 h4 hE))
      go_end0
      exact ⟨rfl, HX.out⟩
end
end Go.Proofs.YtajiidkmijeidaaDoor.Fr
/- The reference's Path is the program's. -/
namespace Go.Proofs.YtajiidkmijeidaaDoor.Fr
open Go.RowKit Go.Proofs.YtajiidkmijeidaaDoor.F Go.Proofs.YtajiidkmijeidaaDoorW.PrintWords
set_option linter.unusedVariables false
set_option linter.unusedSimpArgs false
/-- A list of bytes, cut at each byte c. -/
def splG (c : UInt8) (cur : List UInt8) : List UInt8 → List (List UInt8)
  | [] => [cur.reverse]
  | b :: t => if b = c then cur.reverse :: splG c [] t else splG c (b :: cur) t
theorem splG_app (c : UInt8) (b : List UInt8) : ∀ a cur : List UInt8, splG c cur (a ++ c :: b) = splG c cur a ++ splG c [] b := by
  intro a
  induction a with
  | nil => intro cur; simp [splG]
  | cons x t ih =>
    intro cur
    simp only [List.cons_append, splG]
    split
    · rw [ih]; rfl
    · exact ih _
theorem splG_len (c : UInt8) : ∀ a cur : List UInt8, (splG c cur a).length = a.count c + 1 := by
  intro a
  induction a with
  | nil => intro cur; rfl
  | cons x t ih =>
    intro cur
    simp only [splG]
    split
    · next h => subst h; rw [List.length_cons, ih, List.count_cons_self]
    · next h => rw [ih, List.count_cons_of_ne (by simpa using h)]
theorem splG_none (c : UInt8) : ∀ a cur : List UInt8, (∀ x ∈ a, x ≠ c) → splG c cur a = [cur.reverse ++ a] := by
  intro a
  induction a with
  | nil => intro cur _; simp [splG]
  | cons x t ih =>
    intro cur h
    rw [splG, if_neg (h x (by simp)), ih _ (fun y hy => h y (by simp [hy]))]
    simp
theorem splG_cur (c : UInt8) : ∀ a cur : List UInt8, ∃ h r, splG c [] a = h :: r ∧ splG c cur a = (cur.reverse ++ h) :: r := by
  intro a
  induction a with
  | nil => intro cur; exact ⟨[], [], rfl, by simp [splG]⟩
  | cons x t ih =>
    intro cur
    simp only [splG]
    split
    · exact ⟨[], splG c [] t, rfl, by simp⟩
    · obtain ⟨h, r, e1, e2⟩ := ih [x]
      obtain ⟨h', r', e1', e2'⟩ := ih (x :: cur)
      rw [e1] at e1'
      injection e1' with q1 q2
      subst q1 q2
      exact ⟨_, _, e2, by rw [e2']; simp⟩
theorem splitK_G (c : UInt8) : ∀ l : List UInt8, Lib.splitK [c] 0 (Lib.count l [c]) l = splG c [] l := by
  intro l
  induction l with
  | nil => rw [Lib.count_miss (by simp [Lib.index])]; rfl
  | cons b t ih =>
    by_cases h : b = c
    · subst h
      have hix : Lib.index (b :: t) [b] = ((0 : Nat) : Int) := by rw [Lib.index]; simp [List.isPrefixOf]
      rw [Lib.count_cons_eq, Nat.add_comm, Lib.splitK, hix]
      simp only [splG, if_true]
      rw [if_neg (by decide)]
      simpa using ih
    · rw [Lib.count_cons_ne b c t h, splG, if_neg h]
      obtain ⟨h1, r1, e1, e2⟩ := splG_cur c t [b]
      rw [e2]
      have hp : ([c] : List UInt8).isPrefixOf (b :: t) = false := by simp [List.isPrefixOf, Ne.symm h]
      have hix : Lib.index (b :: t) [c] = if Lib.index t [c] == -1 then -1 else Lib.index t [c] + 1 := by rw [Lib.index, hp]; simp
      rw [e1] at ih
      by_cases hm : Lib.index t [c] = -1
      · rw [Lib.count_miss hm] at ih ⊢
        simp only [Lib.splitK] at ih ⊢
        injection ih with q1 q2
        subst q1 q2
        simp
      · have hge := Lib.index_ge t [c]
        obtain ⟨j, hj⟩ : ∃ j : Nat, Lib.index t [c] = j := ⟨(Lib.index t [c]).toNat, by omega⟩
        have hix' : Lib.index (b :: t) [c] = ((j + 1 : Nat) : Int) := by rw [hix, if_neg (fun e => hm (beq_iff_eq.1 e)), hj]; omega
        rw [Lib.count_hit (by simp) hj, Nat.add_comm, Lib.splitK] at ih ⊢
        rw [hj, if_neg (by simp)] at ih
        rw [hix', if_neg (by simp; omega)]
        injection ih with q1 q2
        simp only [Int.toNat_natCast, Nat.add_zero, List.length_cons, List.length_nil, Nat.zero_add] at q1 q2 ⊢
        rw [show j + 1 + 1 = (j + 1) + 1 from rfl, List.take_succ_cons, List.drop_succ_cons, q1, q2]
        simp
/-- From some measure of steps on. -/
def Ev (p : Nat → Prop) : Prop := ∃ k0, ∀ k, k0 ≤ k → p k
theorem Ev.of {p : Nat → Prop} (h : ∀ k, p k) : Ev p := ⟨0, fun k _ => h k⟩
theorem Ev.and {p q : Nat → Prop} : Ev p → Ev q → Ev fun k => p k ∧ q k := fun ⟨a, ha⟩ ⟨b, hb⟩ => ⟨max a b, fun k hk => ⟨ha k (by omega), hb k (by omega)⟩⟩
theorem Ev.mp {p q : Nat → Prop} (h : Ev p) (hi : ∀ k, p k → q k) : Ev q := let ⟨a, ha⟩ := h; ⟨a, fun k hk => hi k (ha k hk)⟩
theorem Ev.up {p : Nat → Prop} (h : Ev fun k => p (k + 1)) : Ev p := by
  obtain ⟨a, ha⟩ := h
  refine ⟨a + 1, fun k hk => ?_⟩
  obtain ⟨j, rfl⟩ : ∃ j, k = j + 1 := ⟨k - 1, by omega⟩
  exact ha j (by omega)
theorem Ev.get {p : Nat → Prop} (h : Ev p) : ∃ k, p k := let ⟨a, ha⟩ := h; ⟨a, ha a (Nat.le_refl _)⟩

theorem tl (s : ByteArray) : s.toList = s.data.toList := ByteArray.toList_eq s
theorem len_data (s : ByteArray) : s.data.toList.length = s.size := by rw [Array.length_toList]; rfl
theorem bt_nat (s : ByteArray) (i : Nat) (h : i < s.data.toList.length) : bt s (i : Int) = ((s.data.toList[i]).toNat : Int) := by
  have h' : i < s.data.size := by simpa using h
  unfold bt
  rw [dif_pos (by simpa using h')]
  simp [ByteArray.getElem_eq_getElem_data]

theorem data_app2 (s t : ByteArray) : (s ++ t).data.toList = s.data.toList ++ t.data.toList := by
  simp [ByteArray.data_append, Array.toList_append]
def badL (p : List UInt8) : Bool := p.isEmpty || p == [46] || p == [46, 46]
def pathL (l : List UInt8) : Bool := (l.all fun c => plainI c.toNat) && (splG 47 [] l).all (fun p => !badL p) && decide ((l.length : Int) ≤ 100) && decide (((splG 47 [] l).length : Int) ≤ 8)
theorem parts_eq (s : ByteArray) : (partsB s).map (·.data.toList) = splG 47 [] s.data.toList := by
  unfold partsB
  rw [Lib.splitB_data]
  exact splitK_G 47 _
theorem pathV_eq (s : ByteArray) : pathV s = pathL s.data.toList := by
  unfold pathV pathL
  have e1 : (partsB s).all (fun p => !badPart p) = (splG 47 [] s.data.toList).all (fun p => !badL p) := by
    rw [← parts_eq, List.all_map]
    congr 1
    funext p
    simp only [badPart, badL, Function.comp_apply, ByteArray.toList_eq]
  have e2 : (partsB s).length = (splG 47 [] s.data.toList).length := by rw [← parts_eq, List.length_map]
  have e3 : s.data.toList.length = s.size := by rw [Array.length_toList]; rfl
  rw [e1, e2, e3]
theorem rplain_f : ∀ n : Fin 256, cooperageref1_plain.f ((n.val : Nat) : Int) = some (plainI ((n.val : Nat) : Int)) := by decide +kernel
theorem plain_at (s : ByteArray) (i : Nat) (h : i < s.data.toList.length) : cooperageref1_plain.f (bt s (i : Int)) = some (plainI (s.data.toList[i]).toNat) := by
  rw [bt_nat s i h]
  exact rplain_f ⟨(s.data.toList[i]).toNat, UInt8.toNat_lt _⟩
theorem drop_at {l : List UInt8} {i : Nat} (h : i < l.length) : l.drop i = l[i] :: l.drop (i + 1) := List.drop_eq_getElem_cons h
theorem ext_one (s : ByteArray) (i : Nat) (h : i < s.data.toList.length) : (s.extract i (i + 1)).data.toList = [s.data.toList[i]] := by
  rw [Lib.extract_data, List.drop_eq_getElem_cons h, show i + 1 - i = 1 by omega]
  rfl
theorem w64z {i : Nat} (h : i ≤ 100000000000) : (wrap64 ((i : Int) + 1)).toNat = i + 1 := by rw [w64s i h]; omega
theorem bt47 {s : ByteArray} {i : Nat} (h : i < s.data.toList.length) : bt s (i : Int) = 47 ↔ s.data.toList[i] = 47 := by
  rw [bt_nat s i h]
  constructor
  · intro e
    exact UInt8.toNat_inj.1 (by have : (s.data.toList[i]).toNat = 47 := by omega
                                rw [this]; rfl)
  · intro e
    rw [e]
    rfl
theorem badL_f (p : ByteArray) : badL p.data.toList = (p.toList == [] || p.toList == [46] || p.toList == [46, 46]) := by
  rw [tl]
  unfold badL
  cases p.data.toList <;> rfl
theorem refpath_loop (s : ByteArray) (hs : s.size ≤ 100000) : ∀ (n i : Nat) (P : Nat) (part : ByteArray), i + n = s.size → part.size ≤ i → P ≤ i →
    Ev fun k => cooperageref1_Path.l0 k s (P : Int) part (i : Int) = some (((s.data.toList.drop i).all fun c => plainI c.toNat) && (splG 47 part.data.toList.reverse (s.data.toList.drop i)).all (fun p => !badL p) && decide (((P + (splG 47 part.data.toList.reverse (s.data.toList.drop i)).length : Nat) : Int) ≤ 8)) := by
  have hl := len_data s
  intro n
  induction n with
  | zero =>
    intro i P part hi hp hP
    have hd : s.data.toList.drop i = [] := List.drop_eq_nil_of_le (by omega)
    rw [hd]
    simp only [splG, List.all_nil, List.all_cons, List.reverse_reverse, Bool.and_true, Bool.true_and, List.length_singleton]
    have hstep : ∀ k, cooperageref1_Path.l0 (k + 1 + 1 + 1) s (P : Int) part (i : Int) = if part.toList = ([] : List UInt8) then (some false) else (if part.toList = ([46] : List UInt8) then (some false) else (if part.toList = ([46, 46] : List UInt8) then (some false) else (cooperageref1_Path.l0 k s (wrap64 ((P : Int) + 1)) (⟨#[]⟩ : ByteArray) (wrap64 ((i : Int) + 1))))) := by
      intro k
      simp only [cooperageref1_Path.l0, cooperageref1_Path.j2, cooperageref1_Path.j3]
      rw [if_pos (by omega), if_neg (by omega), if_neg (by decide), if_neg (by omega), if_neg (by decide)]
    refine Ev.up (Ev.up (Ev.up (Ev.up (Ev.of fun k => ?_))))
    rw [hstep, tl, w64s i (by omega), w64s P (by omega)]
    by_cases h1 : part.data.toList = []
    · rw [if_pos h1, h1]; rfl
    · by_cases h2 : part.data.toList = [46]
      · rw [if_neg h1, if_pos h2, h2]; rfl
      · by_cases h3 : part.data.toList = [46, 46]
        · rw [if_neg h1, if_neg h2, if_pos h3, h3]; rfl
        · have hb : badL part.data.toList = false := by
            unfold badL
            rw [Bool.or_eq_false_iff, Bool.or_eq_false_iff]
            exact ⟨⟨by simpa using h1, by simpa using h2⟩, by simpa using h3⟩
          rw [if_neg h1, if_neg h2, if_neg h3, hb]
          simp only [cooperageref1_Path.l0]
          rw [if_neg (by omega)]
          rfl
  | succ n ih =>
    intro i P part hi hp hP
    have hlt : i < s.data.toList.length := by omega
    have hpl := plain_at s i hlt
    rw [drop_at hlt]
    by_cases hc : plainI (s.data.toList[i]).toNat = true
    · by_cases h47 : s.data.toList[i] = 47
      · have hb47 : bt s (i : Int) = 47 := (bt47 hlt).2 h47
        have hstep : ∀ k, cooperageref1_Path.l0 (k + 1 + 1 + 1) s (P : Int) part (i : Int) = if part.toList = ([] : List UInt8) then (some false) else (if part.toList = ([46] : List UInt8) then (some false) else (if part.toList = ([46, 46] : List UInt8) then (some false) else (cooperageref1_Path.l0 k s (wrap64 ((P : Int) + 1)) (⟨#[]⟩ : ByteArray) (wrap64 ((i : Int) + 1))))) := by
          intro k
          simp only [cooperageref1_Path.l0, cooperageref1_Path.j2, cooperageref1_Path.j3]
          rw [if_pos (by omega), if_pos (by omega), if_pos (by omega), hpl, Option.bind_some, hc, if_neg (by decide), if_pos (by omega), if_pos (by omega), hb47, if_neg (by decide)]
        simp only [splG, h47, if_true, List.reverse_reverse, List.all_cons, List.length_cons]
        have ih' := ih (i + 1) (P + 1) (⟨#[]⟩ : ByteArray) (by omega) (by show 0 ≤ _; omega) (by omega)
        refine Ev.up (Ev.up (Ev.up (ih'.mp fun k hk => ?_)))
        rw [hstep, tl, w64s i (by omega), w64s P (by omega), hk]
        have hp47 : plainI ((47 : UInt8).toNat : Int) = true := by decide
        rw [hp47]
        have hdat : ((⟨#[]⟩ : ByteArray).data.toList.reverse : List UInt8) = [] := rfl
        rw [hdat, show P + 1 + (splG 47 [] (s.data.toList.drop (i + 1))).length = P + ((splG 47 [] (s.data.toList.drop (i + 1))).length + 1) by omega]
        by_cases h1 : part.data.toList = []
        · rw [if_pos h1, h1]
          simp [badL]
        · by_cases h2 : part.data.toList = [46]
          · rw [if_neg h1, if_pos h2, h2]
            simp [badL]
          · by_cases h3 : part.data.toList = [46, 46]
            · rw [if_neg h1, if_neg h2, if_pos h3, h3]
              simp [badL]
            · have hb : badL part.data.toList = false := by
                unfold badL
                rw [Bool.or_eq_false_iff, Bool.or_eq_false_iff]
                exact ⟨⟨by simpa using h1, by simpa using h2⟩, by simpa using h3⟩
              rw [if_neg h1, if_neg h2, if_neg h3, hb]
              simp
      · have hb47 : ¬ bt s (i : Int) = 47 := fun e => h47 ((bt47 hlt).1 e)
        have hne : (bt s (i : Int) != 47) = true := by simpa using hb47
        have hw := w64s i (by omega : i ≤ 100000000000)
        have hz : (s.extract (i : Int).toNat (wrap64 ((i : Int) + 1)).toNat).size = 1 := by
          rw [w64z (by omega), Int.toNat_natCast, ByteArray.size_extract]
          omega
        have hpe : (part ++ s.extract (i : Int).toNat (wrap64 ((i : Int) + 1)).toNat).data.toList = part.data.toList ++ [s.data.toList[i]] := by
          rw [data_app2, w64z (by omega), Int.toNat_natCast, ext_one s i hlt]
        have ih' := ih (i + 1) P (part ++ s.extract (i : Int).toNat (wrap64 ((i : Int) + 1)).toNat) (by omega) (by rw [ByteArray.size_append, hz]; omega) (by omega)
        refine Ev.up (Ev.up (Ev.up (ih'.mp fun k hk => ?_)))
        simp only [cooperageref1_Path.l0, cooperageref1_Path.j2, cooperageref1_Path.j3]
        rw [if_pos (by omega), if_pos (by omega), if_pos (by omega), hpl, Option.bind_some, hc, if_neg (by decide), if_pos (by omega), if_pos (by omega), hne, if_pos rfl, if_pos (by omega), if_pos (by rw [hw]; omega), if_pos (by rw [hw]; omega),
          if_pos (by rw [hz]; omega)]
        rw [hw] at hk ⊢
        rw [hk, hw] at *
        rw [hpe, List.reverse_append]
        simp only [splG, if_neg h47, List.all_cons, hc, Bool.true_and, List.reverse_cons, List.reverse_nil, List.nil_append, List.cons_append]
    · have hc' : plainI (s.data.toList[i]).toNat = false := by simpa using hc
      refine Ev.up (Ev.up (Ev.of fun k => ?_))
      simp only [cooperageref1_Path.l0, cooperageref1_Path.j2]
      rw [if_pos (by omega), if_pos (by omega), if_pos (by omega), hpl, Option.bind_some, hc', if_pos (by decide), List.all_cons, hc']
      rfl
theorem refpath_f (s : ByteArray) (hs : s.size ≤ 100000) : Ev fun k => cooperageref1_Path.f k s = some (pathV s) := by
  have hl := len_data s
  rw [pathV_eq]
  have hj1 : Ev fun k => cooperageref1_Path.j0 k s true = some false := by
    refine Ev.up (Ev.of fun k => ?_)
    simp only [cooperageref1_Path.j0]
    rw [if_pos trivial]
  by_cases h1 : s.size < 1
  · refine hj1.mp fun k hk => ?_
    unfold cooperageref1_Path.f
    rw [if_pos (by omega), hk]
    have : s.data.toList = [] := List.eq_nil_of_length_eq_zero (by omega)
    rw [this]
    rfl
  · by_cases h2 : s.size ≤ 100
    · have := refpath_loop s hs s.size 0 0 (⟨#[]⟩ : ByteArray) (by omega) (by show 0 ≤ 0; omega) (by omega)
      refine (Ev.up (p := fun k => cooperageref1_Path.j0 k s false = some (pathL s.data.toList)) (this.mp fun k hk => ?_)).mp fun k hk => ?_
      · simp only [cooperageref1_Path.j0]
        rw [if_neg (by decide)]
        refine hk.trans ?_
        have hdat : ((⟨#[]⟩ : ByteArray).data.toList.reverse : List UInt8) = [] := rfl
        rw [hdat, List.drop_zero, Nat.zero_add]
        unfold pathL
        rw [show decide ((s.data.toList.length : Int) ≤ 100) = true from decide_eq_true (by omega), Bool.and_true]
      · unfold cooperageref1_Path.f
        rw [if_neg (by omega), show decide ((s.size : Int) > 100) = false from decide_eq_false (by omega)]
        exact hk
    · refine hj1.mp fun k hk => ?_
      unfold cooperageref1_Path.f
      rw [if_neg (by omega), show decide ((s.size : Int) > 100) = true from decide_eq_true (by omega), hk]
      unfold pathL
      rw [show decide ((s.data.toList.length : Int) ≤ 100) = false from decide_eq_false (by omega)]
      simp
theorem rpath_call (s : ByteArray) (hs : s.size ≤ 100000) (w : World) : Calls Tryd.prog 53 #[.string s] w fun e w' => e = .returned (.bool (pathV s)) ∧ Drawn0 w w' := by
  obtain ⟨k, hk⟩ := (refpath_f s hs).get
  exact cooperageref1_Path.calls k s _ w hk
end Go.Proofs.YtajiidkmijeidaaDoor.Fr
/- Rows of files, plain: what putting and dropping does. -/
namespace Go.Proofs.YtajiidkmijeidaaDoor.Fr
open Go.RowKit Go.Proofs.YtajiidkmijeidaaDoor.F Go.Proofs.YtajiidkmijeidaaDoorW.PrintWords
set_option linter.unusedVariables false
set_option linter.unusedSimpArgs false
theorem lt_before : ∀ (a b : List UInt8), a < b → bytesBefore a b = true
  | [], [], h => absurd h (List.lt_irrefl _)
  | [], _ :: _, _ => rfl
  | _ :: _, [], h => by cases h
  | x :: xs, y :: ys, h => by
    rw [List.cons_lt_cons_iff] at h
    simp only [bytesBefore, Bool.or_eq_true, Bool.and_eq_true, decide_eq_true_eq, beq_iff_eq]
    rcases h with h | ⟨h, h2⟩
    · exact .inl h
    · exact .inr ⟨h, lt_before xs ys h2⟩
theorem ltB_iff {a b : ByteArray} : ltB a b = true ↔ a.data.toList < b.data.toList := ⟨before_lt _ _, lt_before _ _⟩
theorem ltB_trans {a b c : ByteArray} (h1 : ltB a b = true) (h2 : ltB b c = true) : ltB a c = true := ltB_iff.2 (List.lt_trans (ltB_iff.1 h1) (ltB_iff.1 h2))
theorem ltB_irrefl (a : ByteArray) : ¬ ltB a a = true := fun h => List.lt_irrefl _ (ltB_iff.1 h)
theorem ltB_total {a b : ByteArray} (h1 : ¬ ltB a b = true) (h2 : a.data.toList ≠ b.data.toList) : ltB b a = true := by
  rw [ltB_iff]
  have h3 : ¬ a.data.toList < b.data.toList := fun h => h1 (ltB_iff.2 h)
  have h4 : b.data.toList ≤ a.data.toList := List.not_lt.1 h3
  rcases List.le_iff_lt_or_eq.1 h4 with h5 | h5
  · exact h5
  · exact absurd h5.symm h2
theorem ba_eq {a b : ByteArray} (h : a.data.toList = b.data.toList) : a = b := by
  obtain ⟨⟨a⟩⟩ := a
  obtain ⟨⟨b⟩⟩ := b
  simp only at h
  rw [h]
theorem beq_ba {a b : ByteArray} : (a.data.toList == b.data.toList) = true ↔ a = b := by
  rw [beq_iff_eq]
  exact ⟨ba_eq, fun h => by rw [h]⟩
theorem mem_ins {f x : Fl} {l : List Fl} : x ∈ insF f l ↔ x = f ∨ x ∈ l := by
  induction l with
  | nil => simp [insF]
  | cons g r ih =>
    by_cases h : ltB f.f0 g.f0 = true
    · rw [insF_lt h]; simp
    · rw [insF_ge h, List.mem_cons, ih, List.mem_cons]
      constructor
      · rintro (h | h | h)
        · exact .inr (.inl h)
        · exact .inl h
        · exact .inr (.inr h)
      · rintro (h | h | h)
        · exact .inr (.inl h)
        · exact .inl h
        · exact .inr (.inr h)
theorem mem_drop {x : Fl} {l : List Fl} {q : ByteArray} : x ∈ dropF l q ↔ x ∈ l ∧ x.f0 ≠ q := by
  unfold dropF
  rw [List.mem_filter]
  constructor
  · rintro ⟨h1, h2⟩
    refine ⟨h1, fun e => ?_⟩
    rw [e] at h2
    simp at h2
  · rintro ⟨h1, h2⟩
    refine ⟨h1, ?_⟩
    cases e : (x.f0.data.toList == q.data.toList) with
    | false => rfl
    | true => exact absurd (beq_ba.1 e) h2
theorem mem_put {f x : Fl} {l : List Fl} : x ∈ putF l f ↔ x = f ∨ (x ∈ l ∧ x.f0 ≠ f.f0) := by
  unfold putF
  rw [mem_ins, mem_drop]
theorem len_ins (f : Fl) (l : List Fl) : (insF f l).length = l.length + 1 := by
  induction l with
  | nil => rfl
  | cons g r ih =>
    by_cases h : ltB f.f0 g.f0 = true
    · rw [insF_lt h]; rfl
    · rw [insF_ge h, List.length_cons, ih, List.length_cons]
theorem used_cons (f : Fl) (l : List Fl) : usedF (f :: l) = f.f1.size + usedF l := by unfold usedF; rw [List.map_cons, List.sum_cons]
theorem used_ins (f : Fl) (l : List Fl) : usedF (insF f l) = usedF l + f.f1.size := by
  induction l with
  | nil => rw [show insF f [] = [f] from rfl, used_cons]; omega
  | cons g r ih =>
    by_cases h : ltB f.f0 g.f0 = true
    · rw [insF_lt h, used_cons]; omega
    · rw [insF_ge h, used_cons, used_cons, ih]; omega
/-! ### sorted rows -/
theorem srt_cons {f : Fl} {l : List Fl} : Srt (f :: l) ↔ (∀ g ∈ l, ltB f.f0 g.f0 = true) ∧ Srt l := List.pairwise_cons
theorem srt_drop {l : List Fl} (h : Srt l) (q : ByteArray) : Srt (dropF l q) := List.Pairwise.sublist List.filter_sublist h
theorem srt_ins {f : Fl} {l : List Fl} (h : Srt l) (hn : ∀ g ∈ l, g.f0 ≠ f.f0) : Srt (insF f l) := by
  induction l with
  | nil => exact List.pairwise_singleton _ _
  | cons g r ih =>
    obtain ⟨h1, h2⟩ := srt_cons.1 h
    by_cases hl : ltB f.f0 g.f0 = true
    · rw [insF_lt hl]
      exact srt_cons.2 ⟨fun x hx => by
        rcases List.mem_cons.1 hx with rfl | hx
        · exact hl
        · exact ltB_trans hl (h1 x hx), h⟩
    · rw [insF_ge hl]
      refine srt_cons.2 ⟨fun x hx => ?_, ih h2 fun x hx => hn x (List.mem_cons_of_mem _ hx)⟩
      rcases mem_ins.1 hx with rfl | hx
      · exact ltB_total hl fun e => hn g (List.mem_cons_self ..) (ba_eq e).symm
      · exact h1 x hx
theorem srt_put {l : List Fl} (h : Srt l) (f : Fl) : Srt (putF l f) := srt_ins (srt_drop h f.f0) fun g hg => (mem_drop.1 hg).2
theorem srt_after {l : List Fl} (h : Srt l) (c : Cg) : Srt (afterF l c) := by
  unfold afterF
  split
  · exact srt_put h _
  · split
    · exact srt_put h _
    · split
      · exact srt_drop h _
      · split
        · exact h
        · exact srt_put (srt_drop h _) _
theorem find_some_iff {l : List Fl} (h : Srt l) {q : ByteArray} {f : Fl} : findF l q = some f ↔ f ∈ l ∧ f.f0 = q := by
  constructor
  · intro e
    refine ⟨mem_of_find e, ?_⟩
    unfold findF at e
    have := List.find?_some e
    exact beq_ba.1 this
  · rintro ⟨h1, rfl⟩
    exact find_of_srt h h1
theorem find_none_iff {l : List Fl} {q : ByteArray} : findF l q = none ↔ ∀ f ∈ l, f.f0 ≠ q := by
  unfold findF
  rw [List.find?_eq_none]
  constructor
  · intro h f hf e
    exact h f hf (beq_ba.2 e)
  · intro h f hf e
    exact h f hf (beq_ba.1 e)
theorem find_put {l : List Fl} (h : Srt l) (f : Fl) : findF (putF l f) f.f0 = some f := (find_some_iff (srt_put h f)).2 ⟨mem_put.2 (.inl rfl), rfl⟩
theorem find_put_ne {l : List Fl} (h : Srt l) (f : Fl) {q : ByteArray} (hq : q ≠ f.f0) : findF (putF l f) q = findF l q := by
  cases e : findF l q with
  | none =>
    rw [find_none_iff] at e ⊢
    intro g hg
    rcases mem_put.1 hg with rfl | hg
    · exact fun e => hq e.symm
    · exact e g hg.1
  | some g =>
    rw [find_some_iff h] at e
    rw [find_some_iff (srt_put h f)]
    exact ⟨mem_put.2 (.inr ⟨e.1, by rw [e.2]; exact hq⟩), e.2⟩
theorem find_drop (l : List Fl) (q : ByteArray) : findF (dropF l q) q = none := find_none_iff.2 fun f hf => (mem_drop.1 hf).2
theorem find_drop_ne {l : List Fl} (h : Srt l) {q p : ByteArray} (hq : p ≠ q) : findF (dropF l q) p = findF l p := by
  cases e : findF l p with
  | none =>
    rw [find_none_iff] at e ⊢
    exact fun g hg => e g (mem_drop.1 hg).1
  | some g =>
    rw [find_some_iff h] at e
    rw [find_some_iff (srt_drop h q)]
    exact ⟨mem_drop.2 ⟨e.1, by rw [e.2]; exact hq⟩, e.2⟩
theorem drop_none {l : List Fl} {q : ByteArray} (h : findF l q = none) : dropF l q = l := by
  unfold dropF
  rw [List.filter_eq_self]
  intro f hf
  have := find_none_iff.1 h f hf
  cases e : (f.f0.data.toList == q.data.toList) with
  | false => rfl
  | true => exact absurd (beq_ba.1 e) this
theorem drop_some {l : List Fl} (h : Srt l) {q : ByteArray} {f : Fl} (hf : findF l q = some f) : usedF (dropF l q) + f.f1.size = usedF l ∧ (dropF l q).length + 1 = l.length := by
  induction l with
  | nil => cases hf
  | cons g r ih =>
    obtain ⟨h1, h2⟩ := srt_cons.1 h
    by_cases e : g.f0 = q
    · have hg : g = f := by
        have := (find_some_iff h).1 hf
        have h3 : findF (g :: r) q = some g := (find_some_iff h).2 ⟨List.mem_cons_self .., e⟩
        rw [h3] at hf
        exact Option.some.inj hf
      subst hg
      have hr : findF r q = none := find_none_iff.2 fun x hx e2 => by
        have := h1 x hx
        rw [e, e2] at this
        exact ltB_irrefl _ this
      have : dropF (g :: r) q = r := by
        show List.filter _ (g :: r) = r
        rw [List.filter_cons_of_neg (by simp [e])]
        exact drop_none hr
      rw [this, used_cons, List.length_cons]
      omega
    · have hb : (g.f0.data.toList == q.data.toList) = false := by
        cases e2 : (g.f0.data.toList == q.data.toList) with
        | false => rfl
        | true => exact absurd (beq_ba.1 e2) e
      have : dropF (g :: r) q = g :: dropF r q := by
        show List.filter _ (g :: r) = g :: List.filter _ r
        rw [List.filter_cons_of_pos (by rw [hb]; rfl)]
      have hf' : findF r q = some f := by
        unfold findF at hf ⊢
        rw [List.find?_cons, hb] at hf
        exact hf
      obtain ⟨e3, e4⟩ := ih h2 hf'
      rw [this, used_cons, used_cons, List.length_cons, List.length_cons]
      omega
theorem put_used {l : List Fl} (h : Srt l) (f : Fl) : usedF (putF l f) + (textF l f.f0).size = usedF l + f.f1.size ∧ (putF l f).length = (if (findF l f.f0).isSome = true then l.length else l.length + 1) := by
  unfold putF textF
  rw [used_ins, len_ins]
  cases e : findF l f.f0 with
  | none =>
    rw [drop_none e]
    exact ⟨by show _ + 0 = _; omega, rfl⟩
  | some g =>
    obtain ⟨h1, h2⟩ := drop_some h e
    refine ⟨by show _ + g.f1.size = _; omega, ?_⟩
    simp only [Option.isSome_some, if_true]
    omega
/-! ### ways -/
theorem way_list (x y : List UInt8) : (decide (x.length < y.length) && (y.take x.length == x) && (y[x.length]? == some 47)) = (x ++ [47]).isPrefixOf y := by
  rw [Bool.eq_iff_iff, List.isPrefixOf_iff_prefix]
  simp only [Bool.and_eq_true, decide_eq_true_eq, beq_iff_eq]
  constructor
  · rintro ⟨⟨h1, h2⟩, h3⟩
    refine ⟨y.drop (x.length + 1), ?_⟩
    have h4 : y[x.length]'h1 = 47 := by
      rw [List.getElem?_eq_getElem h1] at h3
      exact Option.some.inj h3
    have h5 := List.take_append_drop x.length y
    rw [h2, List.drop_eq_getElem_cons h1, h4] at h5
    rw [List.append_assoc]
    exact h5
  · rintro ⟨t, rfl⟩
    refine ⟨⟨?_, ?_⟩, ?_⟩
    · simp
    · rw [List.append_assoc, List.take_append_of_le_length (Nat.le_refl _), List.take_length]
    · rw [List.append_assoc, List.getElem?_append_right (Nat.le_refl _)]
      simp
theorem way_eq (a b : ByteArray) : wayR a b = wayF a b := by
  unfold wayR wayF
  have hl : a.data.toList.length = a.size := by rw [Array.length_toList]; rfl
  have hl2 : b.data.toList.length = b.size := by rw [Array.length_toList]; rfl
  rw [← hl, ← hl2]
  exact way_list _ _
theorem pathV_ne {a : ByteArray} (h : pathV a = true) : a ≠ ⟨#[]⟩ := by
  rintro rfl
  rw [pathV_eq] at h
  exact absurd h (by decide)
/-- The files' paths are paths. -/
def Pth (l : List Fl) : Prop := ∀ f ∈ l, pathV f.f0 = true
theorem block_eq {l : List Fl} (h : Pth l) (q : ByteArray) : blockT l q ⟨#[]⟩ = blockR l q := by
  unfold blockT blockR
  rw [Bool.eq_iff_iff, List.any_eq_true, List.any_eq_true]
  have : ∀ f ∈ l, testB q ⟨#[]⟩ f = (wayR f.f0 q || wayR q f.f0) := by
    intro f hf
    unfold testB
    rw [way_eq, way_eq]
    have : sameB f.f0 ⟨#[]⟩ = false := by
      cases e : sameB f.f0 ⟨#[]⟩ with
      | false => rfl
      | true => exact absurd (beq_ba.1 e) (pathV_ne (h f hf))
    rw [this]
    rfl
  constructor
  · rintro ⟨f, h1, h2⟩
    exact ⟨f, h1, by rw [← this f h1]; exact h2⟩
  · rintro ⟨f, h1, h2⟩
    exact ⟨f, h1, by rw [this f h1]; exact h2⟩
theorem block_but {l : List Fl} (a b : ByteArray) : blockT l b a = blockR (dropF l a) b := by
  unfold blockT blockR
  rw [Bool.eq_iff_iff, List.any_eq_true, List.any_eq_true]
  constructor
  · rintro ⟨f, h1, h2⟩
    unfold testB at h2
    rw [Bool.and_eq_true, Bool.not_eq_true'] at h2
    refine ⟨f, mem_drop.2 ⟨h1, fun e => ?_⟩, by rw [way_eq, way_eq]; exact h2.2⟩
    have : sameB f.f0 a = true := beq_ba.2 e
    rw [this] at h2
    cases h2.1
  · rintro ⟨f, h1, h2⟩
    obtain ⟨h3, h4⟩ := mem_drop.1 h1
    refine ⟨f, h3, ?_⟩
    unfold testB
    have : sameB f.f0 a = false := by
      cases e : sameB f.f0 a with
      | false => rfl
      | true => exact absurd (beq_ba.1 e) h4
    rw [this, ← way_eq, ← way_eq]
    exact h2
/-! ### a write -/
theorem write_after (T : TS) (stays : Bool) (q s : ByteArray) : ∃ t, afterF T.l (writeC T stays q s) = putF T.l ⟨q, t, T.clock + 1⟩ ∧ t.size = sizeT T stays q s := by
  cases stays with
  | false => exact ⟨s, rfl, rfl⟩
  | true =>
    refine ⟨textF T.l q ++ s, rfl, ?_⟩
    unfold sizeT hadT
    rw [if_pos rfl, ByteArray.size_append]
    omega
theorem full_eq {T : TS} (h : Srt T.l) (stays : Bool) (q s : ByteArray) : fullT T stays q s = (decide (T.room < (usedF (afterF T.l (writeC T stays q s)) : Int)) || decide (200 < (afterF T.l (writeC T stays q s)).length)) := by
  obtain ⟨t, e1, e2⟩ := write_after T stays q s
  obtain ⟨h1, h2⟩ := put_used h ⟨q, t, T.clock + 1⟩
  rw [e1, h2]
  unfold fullT manyT
  have h3 : (usedF T.l : Int) - hadT T q + sizeT T stays q s = (usedF (putF T.l ⟨q, t, T.clock + 1⟩) : Int) := by
    unfold hadT
    simp only at h1
    omega
  rw [h3]
end Go.Proofs.YtajiidkmijeidaaDoor.Fr
/- The reference's Used, Read, Sync, Remove, Rename, New. -/
namespace Go.Proofs.YtajiidkmijeidaaDoor.Fr
open Go.RowKit Go.Proofs.YtajiidkmijeidaaDoor.F Go.Proofs.YtajiidkmijeidaaDoorW.PrintWords
set_option linter.unusedVariables false
set_option linter.unusedSimpArgs false
section
variable {m : Nat} {T : TS} {B : Nat → Prop}
theorem RfEnd.same {w w' : World} (h : Rf w m T B) (hb : Below w.heap.size w w') : RfEnd w m B T w' := ⟨B, h.below hb, Chg.of_below hb _, fun _ hk => .inl hk⟩
theorem RfEnd.left {w w1 w' : World} {T' : TS} (hb : Below w.heap.size w w1) (h : RfEnd w1 m B T' w') : RfEnd w m B T' w' := by
  obtain ⟨B', h1, h2, h3⟩ := h
  exact ⟨B', h1, (Chg.of_below hb _).trans h2 fun _ _ e => e, fun k hk => (h3 k hk).imp id fun e => Nat.le_trans hb.size e⟩
set_option maxHeartbeats 1000000 in
set_option maxRecDepth 100000 in
theorem rUsed_call (w : World) (hT : Rf w m T B) (hl : T.l.length ≤ 100000) (hu : usedF T.l ≤ 10000000000000000) :
    Calls Tryd.prog 49 #[.pointer (some ⟨m, 0, none⟩)] w fun e w' => e = .returned (.int .i64 (usedF T.l)) ∧ Below w.heap.size w w' := by
  obtain ⟨vl, vs, vc, h⟩ := hT
  have HT := Lib.hid h
  have HL := Lib.hid (Nat.le_trans hl (by decide : 100000 ≤ 1000000))
  have HU := Lib.hid hu
  have c2 := h.c2
  clear h hu
  go_enter Tryd.func49, Tryd.ntmps49
  go_wp2_with (first
    | (go_at_call 64; refine (rused_call HT.out.now HL.out HU.out).mono ?_; rintro e w1 ⟨rfl, hd⟩; have HB := Lib.hid (drawn_below hd); clear hd))
  go_ret
  exact ⟨rfl, HB.out⟩
set_option maxHeartbeats 1000000 in
set_option maxRecDepth 100000 in
theorem rRead_call (w : World) (hT : Rf w m T B) (hl : T.l.length ≤ 100000) (q : ByteArray) :
    Calls Tryd.prog 31 #[.pointer (some ⟨m, 0, none⟩), .string q] w fun e w' => e = .returned (.tuple #[.string (readT T q).1, .int .i64 (readT T q).2]) ∧ Below w.heap.size w w' := by
  obtain ⟨vl, vs, vc, h⟩ := hT
  have HT := Lib.hid h
  have HL := Lib.hid (Nat.le_trans hl (by decide : 100000 ≤ 1000000))
  have hlt := h.lt
  have c2 := h.c2
  clear h hl
  cases hf : findF T.l q with
  | none =>
    have HF := Lib.hid (findI_none hf)
    have HR : Hid (readT T q = (⟨#[]⟩, 4)) := by unfold readT; rw [Hid, hf]
    clear hf
    rw [HR.out]
    go_enter Tryd.func31, Tryd.ntmps31
    go_wp2_with (first
      | (go_at_call 50; refine (rfind_call HT.out.now HL.out _).mono ?_; rintro e w1 ⟨rfl, hd⟩; rw [HF.out]; have HB := Lib.hid (drawn_below hd); clear hd))
    go_ret2
    exact ⟨rfl, HB.out⟩
  | some f =>
    obtain ⟨i, hi, hfi, hli⟩ := findI_some hf
    have HF := Lib.hid hfi
    have HLI := Lib.hid hli
    have HR : Hid (readT T q = (f.f1, 0)) := by unfold readT; rw [Hid, hf]
    clear hf hfi hli
    rw [HR.out]
    go_enter Tryd.func31, Tryd.ntmps31
    go_upto_region 2 with (first
      | (go_at_call 50; refine (rfind_call HT.out.now HL.out _).mono ?_; rintro e w1 ⟨rfl, hd⟩; rw [HF.out]; have HB := Lib.hid (drawn_below hd); clear hd))
    have c2' := (HT.out.below HB.out).c2
    obtain ⟨ad, cc, e, hlc, q0, q1, q2⟩ := VF_at (HT.out.below HB.out).now hi
    rw [HLI.out] at q0 q1 q2
    subst e
    go_wp2_with fail
    go_ret2
    exact ⟨rfl, HB.out⟩
/-! ### Sync -/
theorem rsync_end {w : World} {vl vs vc : Value} (h : RfAt w m T B vl vs vc) : RfEnd w m B (syncT T) ((w.setCell ⟨m, 3, none⟩ vl).setCell ⟨m, 4, none⟩ (.slice none 0 0)) := by
  have hC : Chg (fun k => k = m) w ((w.setCell ⟨m, 3, none⟩ vl).setCell ⟨m, 4, none⟩ (.slice none 0 0)) := ((Chg.refl (fun k => k = m) w).setCell (p := ⟨m, 3, none⟩) (fun _ => rfl) _).setCell (p := ⟨m, 4, none⟩) (fun _ => rfl) _
  have h3 := heap_setCell_same w m 3 _ _ vl h.at_
  have h4 := heap_setCell_same _ m 4 _ _ (.slice none 0 0) h3
  refine ⟨B, ⟨vl, vl, .slice none 0 0, ?_⟩, hC, fun k hk => .inl hk⟩
  exact {
    at_ := by rw [h4]; simp [syncT]
    now := Kd.V_step h.now fun k hk hl => hC.block k hl (h.free k hk).2
    last := Kd.V_step h.now fun k hk hl => hC.block k hl (h.free k hk).2
    row := Kd.V_nil _ _ _ _ _
    nil := fun _ => rfl
    free := fun k hk => ⟨Nat.lt_of_lt_of_le (h.free k hk).1 hC.size, (h.free k hk).2⟩ }
set_option maxHeartbeats 1000000 in
set_option maxRecDepth 100000 in
theorem rSync_call (w : World) (hT : Rf w m T B) : Calls Tryd.prog 38 #[.pointer (some ⟨m, 0, none⟩)] w fun e w' => e = .returned (.tuple #[]) ∧ RfEnd w m B (syncT T) w' := by
  obtain ⟨vl, vs, vc, h⟩ := hT
  have HE := Lib.hid (rsync_end h)
  have hlt := h.lt
  have c2 := h.c2
  have c3 := h.c3
  have c4 := h.c4
  have g3 := h.fz 3
  have g4 := h.fz 4
  obtain ⟨A1, k1, rfl⟩ := Kd.V_slice h.now
  clear h
  go_enter Tryd.func38, Tryd.ntmps38
  go_wp2_with fail
  go_end0
  exact ⟨rfl, HE.out⟩
set_option maxHeartbeats 1000000 in
set_option maxRecDepth 100000 in
theorem rRemove_call (w : World) (hT : Rf w m T B) (hO : TOK T) (q : ByteArray) (hq : q.size ≤ 100000) :
    Calls Tryd.prog 36 #[.pointer (some ⟨m, 0, none⟩), .string q] w fun e w' => e = .returned (.int .i64 (removeE T q)) ∧ RfEnd w m B (removeT T q) w' := by
  have HX := Lib.hid hT
  obtain ⟨vl, vs, vc, h⟩ := hT
  have HT := Lib.hid h
  have HO := Lib.hid hO
  have HL := Lib.hid (Nat.le_trans hO.many (by decide : 100000 ≤ 1000000))
  have c2 := h.c2
  clear h hO
  cases hf : findF T.l q with
  | none =>
    have HF := Lib.hid (findI_none hf)
    have HE1 : Hid (removeE T q = 4) := by unfold removeE; rw [Hid, hf]; rfl
    have HE2 : Hid (removeT T q = T) := by unfold removeT; rw [Hid, HE1.out]; rfl
    clear hf
    rw [HE1.out, HE2.out]
    go_enter Tryd.func36, Tryd.ntmps36
    go_wp2_with (first
      | (go_at_call 50; refine (rfind_call HT.out.now HL.out _).mono ?_; rintro e w1 ⟨rfl, hd⟩; rw [HF.out]; have HB := Lib.hid (drawn_below hd); clear hd))
    go_ret
    exact ⟨rfl, RfEnd.same HX.out HB.out⟩
  | some f =>
    obtain ⟨i, hi, hfi, hli⟩ := findI_some hf
    have HF := Lib.hid hfi
    have HE1 : Hid (removeE T q = 0) := by unfold removeE; rw [Hid, hf]; rfl
    have HE2 : Hid (removeT T q = doneT T ⟨3, q, ⟨#[]⟩, 0⟩) := by unfold removeT; rw [Hid, HE1.out]; rfl
    have HD : Hid (∀ W, Rf W m T B → Calls Tryd.prog 52 #[.pointer (some ⟨m, 0, none⟩), .agg #[.int .i64 3, .string q, .string ⟨#[]⟩, .int .i64 0]] W fun e w' => e = .returned (.tuple #[]) ∧ RfEnd W m B (doneT T ⟨3, q, ⟨#[]⟩, 0⟩) w') := fun W hW =>
      rchange_call W hW ⟨3, q, ⟨#[]⟩, 0⟩ ⟨.inr (.inr (.inl rfl)), hq, Nat.zero_le _, fun e => absurd e (show ¬ ((3 : Int) = 4) by decide)⟩ HO.out.many (fun f hf => Nat.le_trans (HO.out.texts f hf) (by decide)) HO.out.clock HO.out.chs
    clear hf hfi hli
    rw [HE1.out, HE2.out]
    go_enter Tryd.func36, Tryd.ntmps36
    go_wp2_with (first
      | (go_at_call 50; refine (rfind_call HT.out.now HL.out _).mono ?_; rintro e w1 ⟨rfl, hd⟩; rw [HF.out]; have HB := Lib.hid (drawn_below hd); clear hd)
      | (go_at_call 52; refine (HD.out _ (HX.out.below HB.out)).mono ?_; rintro e w4 ⟨rfl, he4⟩; have HE4 := Lib.hid he4; clear he4))
    go_ret
    exact ⟨rfl, HE4.out.left HB.out⟩
end
end Go.Proofs.YtajiidkmijeidaaDoor.Fr
/- The reference's Rename. -/
namespace Go.Proofs.YtajiidkmijeidaaDoor.Fr
open Go.RowKit Go.Proofs.YtajiidkmijeidaaDoor.F Go.Proofs.YtajiidkmijeidaaDoorW.PrintWords
set_option linter.unusedVariables false
set_option linter.unusedSimpArgs false
section
variable {m : Nat} {T : TS} {B : Nat → Prop}
set_option maxHeartbeats 4000000 in
set_option maxRecDepth 100000 in
theorem rRename_call (w : World) (hT : Rf w m T B) (hO : TOK T) (q r : ByteArray) (hq : q.size ≤ 100000) (hr : r.size ≤ 100000) :
    Calls Tryd.prog 37 #[.pointer (some ⟨m, 0, none⟩), .string q, .string r] w fun e w' => e = .returned (.int .i64 (renameE T q r)) ∧ RfEnd w m B (renameT T q r) w' := by
  have HX := Lib.hid hT
  have HO := Lib.hid hO
  have HL := Lib.hid (Nat.le_trans hO.many (by decide : 100000 ≤ 1000000))
  have HL2 : Hid ((dropF T.l q).length ≤ 1000000) := Nat.le_trans (dropF_length T.l q) HL.out
  obtain ⟨vl, vs, vc, h⟩ := hT
  have HT := Lib.hid h
  have hlt := h.lt
  have c2 := h.c2
  clear h hO
  cases hf : findF T.l q with
  | none =>
    have HF := Lib.hid (findI_none hf)
    have h1 : Hid (renameE T q r = 4) := by unfold renameE; rw [Hid, hf]; rfl
    have h2 : Hid (renameT T q r = T) := by unfold renameT; rw [Hid, hf]; exact if_neg (by simp)
    clear hf
    rw [h1.out, h2.out]
    go_enter Tryd.func37, Tryd.ntmps37
    go_wp2_with (first
      | (go_at_call 50; refine (rfind_call HT.out.now HL.out _).mono ?_; rintro e w1 ⟨rfl, hd⟩; rw [HF.out]; have HB1 := Lib.hid (drawn_below hd); clear hd))
    go_ret
    exact ⟨rfl, RfEnd.same HX.out HB1.out⟩
  | some f =>
    obtain ⟨i, hi, hfi, hli⟩ := findI_some hf
    have HF := Lib.hid hfi
    clear hfi hli
    cases hp : pathV r with
    | false =>
      have h1 : Hid (renameE T q r = 1) := by unfold renameE; rw [Hid, hf, hp]; rfl
      have h2 : Hid (renameT T q r = T) := by unfold renameT; rw [Hid, hp]; exact if_neg (by simp)
      have HP := Lib.hid hp
      clear hf hp
      rw [h1.out, h2.out]
      go_enter Tryd.func37, Tryd.ntmps37
      go_wp2_with (first
        | (go_at_call 50; refine (rfind_call HT.out.now HL.out _).mono ?_; rintro e w1 ⟨rfl, hd⟩; rw [HF.out]; have HB1 := Lib.hid (drawn_below hd); clear hd)
        | (go_at_call 53; refine (rpath_call r hr _).mono ?_; rintro e w2 ⟨rfl, hd⟩; rw [HP.out]; have HB2 := Lib.hid (HB1.out.trans ((drawn_below hd).mono HB1.out.size)); have c2b := (HB2.out.cell (p := ⟨m, 2, none⟩) hlt).trans c2; clear hd))
      go_ret
      exact ⟨rfl, RfEnd.same HX.out HB2.out⟩
    | true =>
      have HP := Lib.hid hp
      have hse : (q.toList == r.toList) = sameB q r := by unfold sameB; rw [ByteArray.toList_eq, ByteArray.toList_eq]
      cases hs : sameB q r with
      | true =>
        have h1 : Hid (renameE T q r = 0) := by unfold renameE; rw [Hid, hf, hp, hs]; rfl
        have h2 : Hid (renameT T q r = T) := by unfold renameT; rw [Hid, hs]; exact if_neg (by simp)
        rw [hs] at hse
        clear hf hp hs
        rw [h1.out, h2.out]
        go_enter Tryd.func37, Tryd.ntmps37
        go_wp2_with (first
          | (go_at_call 50; refine (rfind_call HT.out.now HL.out _).mono ?_; rintro e w1 ⟨rfl, hd⟩; rw [HF.out]; have HB1 := Lib.hid (drawn_below hd); clear hd)
          | (go_at_call 53; refine (rpath_call r hr _).mono ?_; rintro e w2 ⟨rfl, hd⟩; rw [HP.out]; have HB2 := Lib.hid (HB1.out.trans ((drawn_below hd).mono HB1.out.size)); have c2b := (HB2.out.cell (p := ⟨m, 2, none⟩) hlt).trans c2; clear hd))
        go_ret
        exact ⟨rfl, RfEnd.same HX.out HB2.out⟩
      | false =>
        cases hb : blockT T.l r q with
        | true =>
          have h1 : Hid (renameE T q r = 5) := by unfold renameE; rw [Hid, hf, hp, hs, hb]; rfl
          have h2 : Hid (renameT T q r = T) := by unfold renameT; rw [Hid, hb]; exact if_neg (by simp)
          rw [block_but] at hb
          have H3 := Lib.hid hb
          rw [hs] at hse
          clear hf hp hs hb
          rw [h1.out, h2.out]
          go_enter Tryd.func37, Tryd.ntmps37
          go_wp2_with (first
            | (go_at_call 50; refine (rfind_call HT.out.now HL.out _).mono ?_; rintro e w1 ⟨rfl, hd⟩; rw [HF.out]; have HB1 := Lib.hid (drawn_below hd); clear hd)
            | (go_at_call 53; refine (rpath_call r hr _).mono ?_; rintro e w2 ⟨rfl, hd⟩; rw [HP.out]; have HB2 := Lib.hid (HB1.out.trans ((drawn_below hd).mono HB1.out.size)); have c2b := (HB2.out.cell (p := ⟨m, 2, none⟩) hlt).trans c2; clear hd)
            | (go_at_call 55; refine (rdrop_call (HT.out.below HB2.out).now HL.out _).mono ?_; rintro e w3 ⟨v3, rfl, hv3, hb3⟩; have HV3 := Lib.hid hv3; have HB3 := Lib.hid (HB2.out.trans (hb3.mono HB2.out.size)); clear hv3 hb3)
            | (go_at_call 54; refine (rblocked_call HV3.out HL2.out _).mono ?_; rintro e w4 ⟨rfl, hd⟩; rw [H3.out]; have HB4 := Lib.hid (HB3.out.trans ((drawn_below hd).mono HB3.out.size)); clear hd))
          go_ret
          exact ⟨rfl, RfEnd.same HX.out HB4.out⟩
        | false =>
          have h1 : Hid (renameE T q r = 0) := by unfold renameE; rw [Hid, hf, hp, hs, hb]; rfl
          have h2 : Hid (renameT T q r = doneT T ⟨4, q, r, 0⟩) := by unfold renameT; rw [Hid, hf, hp, hs, hb]; exact if_pos ⟨rfl, rfl, rfl, rfl⟩
          rw [block_but] at hb
          have H3 := Lib.hid hb
          have HD : Hid (∀ W, Rf W m T B → Calls Tryd.prog 52 #[.pointer (some ⟨m, 0, none⟩), .agg #[.int .i64 4, .string q, .string r, .int .i64 0]] W fun e w' => e = .returned (.tuple #[]) ∧ RfEnd W m B (doneT T ⟨4, q, r, 0⟩) w') := fun W hW =>
            rchange_call W hW ⟨4, q, r, 0⟩ ⟨.inr (.inr (.inr rfl)), hq, Nat.le_trans hr (by decide), fun _ => hr⟩ HO.out.many (fun f hf => Nat.le_trans (HO.out.texts f hf) (by decide)) HO.out.clock HO.out.chs
          rw [hs] at hse
          clear hf hp hs hb
          rw [h1.out, h2.out]
          go_enter Tryd.func37, Tryd.ntmps37
          go_wp2_with (first
            | (go_at_call 50; refine (rfind_call HT.out.now HL.out _).mono ?_; rintro e w1 ⟨rfl, hd⟩; rw [HF.out]; have HB1 := Lib.hid (drawn_below hd); clear hd)
            | (go_at_call 53; refine (rpath_call r hr _).mono ?_; rintro e w2 ⟨rfl, hd⟩; rw [HP.out]; have HB2 := Lib.hid (HB1.out.trans ((drawn_below hd).mono HB1.out.size)); have c2b := (HB2.out.cell (p := ⟨m, 2, none⟩) hlt).trans c2; clear hd)
            | (go_at_call 55; refine (rdrop_call (HT.out.below HB2.out).now HL.out _).mono ?_; rintro e w3 ⟨v3, rfl, hv3, hb3⟩; have HV3 := Lib.hid hv3; have HB3 := Lib.hid (HB2.out.trans (hb3.mono HB2.out.size)); clear hv3 hb3)
            | (go_at_call 54; refine (rblocked_call HV3.out HL2.out _).mono ?_; rintro e w4 ⟨rfl, hd⟩; rw [H3.out]; have HB4 := Lib.hid (HB3.out.trans ((drawn_below hd).mono HB3.out.size)); clear hd)
            | (go_at_call 52; refine (HD.out _ (HX.out.below HB4.out)).mono ?_; rintro e w5 ⟨rfl, he5⟩; have HE5 := Lib.hid he5; clear he5))
          go_ret
          exact ⟨rfl, HE5.out.left HB4.out⟩
end
end Go.Proofs.YtajiidkmijeidaaDoor.Fr
/- The reference's write. -/
namespace Go.Proofs.YtajiidkmijeidaaDoor.Fr
open Go.RowKit Go.Proofs.YtajiidkmijeidaaDoor.F Go.Proofs.YtajiidkmijeidaaDoorW.PrintWords
set_option linter.unusedVariables false
set_option linter.unusedSimpArgs false
/-- Behind the reckoning of the new row: where the walk stands. -/
structure WrMid (w w2 : World) (B : Nat → Prop) (L : List Fl) (c : Cg) (v : Value) (wc : World) : Prop where
  row : VF wc (fun k => B k ∨ (w2.heap.size ≤ k ∧ k < wc.heap.size)) v L
  box : wc.heap[w2.heap.size]? = some (.cells #[.int .i64 c.f0, .string c.f1, .string c.f2, .int .i64 c.f3] 95 (0, 0))
  below : Below w.heap.size w wc
theorem WrMid.step {w w2 : World} {B : Nat → Prop} {L : List Fl} {c : Cg} {v : Value} {wc wd : World} (h : WrMid w w2 B L c v wc) (hb : Below wc.heap.size wc wd) : WrMid w w2 B L c v wd :=
  ⟨Kd.V_mono (Kd.V_below h.row hb) fun k hk => hk.imp id fun hk => ⟨hk.1, Nat.lt_of_lt_of_le hk.2 hb.size⟩, (hb.block _ (Array.getElem?_eq_some_iff.1 h.box).1).trans h.box, h.below.trans (hb.mono h.below.size)⟩
section
variable {m : Nat} {T : TS} {B : Nat → Prop}
set_option maxHeartbeats 4000000 in
set_option maxRecDepth 100000 in
theorem rwr_1 (w : World) (hT : Rf w m T B) (hO : TOK T) (hS : Srt T.l) (hP : Pth T.l) (stays : Bool) (q s : ByteArray) (hq : q.size ≤ 100000) (hs : s.size ≤ 1000000000) (kd : Int) (hkd : kd = if stays = true then 2 else 1) (h1 : pathV q = false) :
    Calls Tryd.prog 51 #[.pointer (some ⟨m, 0, none⟩), .int .i64 kd, .string q, .string s] w fun e w' => e = .returned (.int .i64 1) ∧ Below w.heap.size w w' := by
  have HP := Lib.hid h1
  clear h1 hkd
  go_enter Tryd.func51, Tryd.ntmps51
  go_wp2_with (first
    | (go_at_call 53; refine (rpath_call q hq _).mono ?_; rintro e w2 ⟨rfl, hd⟩; rw [HP.out]; have HB2 := Lib.hid (drawn_below hd); clear hd))
  go_ret
  exact ⟨rfl, HB2.out⟩
set_option maxHeartbeats 4000000 in
set_option maxRecDepth 100000 in
theorem rwr_3 (w : World) (hT : Rf w m T B) (hO : TOK T) (hS : Srt T.l) (hP : Pth T.l) (stays : Bool) (q s : ByteArray) (hq : q.size ≤ 100000) (hs : s.size ≤ 1000000000) (kd : Int) (hkd : kd = if stays = true then 2 else 1) (h1 : pathV q = true) (h2 : 16777216 < sizeT T stays q s) :
    Calls Tryd.prog 51 #[.pointer (some ⟨m, 0, none⟩), .int .i64 kd, .string q, .string s] w fun e w' => e = .returned (.int .i64 3) ∧ Below w.heap.size w w' := by
  have HX := Lib.hid hT
  have HO := Lib.hid hO
  have HP := Lib.hid h1
  have HL := Lib.hid (Nat.le_trans hO.many (by decide : 100000 ≤ 1000000))
  have hroom := hO.room
  have hclock := hO.clock
  have hc : CgOK ⟨kd, q, s, T.clock + 1⟩ := ⟨by cases stays <;> subst hkd <;> first | exact .inl rfl | exact .inr (.inl rfl), hq, hs, fun e => by cases stays <;> subst hkd <;> simp at e⟩
  have HC := Lib.hid hc
  obtain ⟨t, ht, hts⟩ := write_after T stays q s
  have hcw : writeC T stays q s = ⟨kd, q, s, T.clock + 1⟩ := by unfold writeC; rw [← hkd]
  rw [hcw] at ht
  have hhad : hadT T q ≤ 1000000000 := by
    unfold hadT textF
    cases e : findF T.l q with
    | none => exact Nat.zero_le _
    | some f => exact hO.texts f (mem_of_find e)
  have htz : t.size ≤ 2000000000 := by
    rw [hts]
    unfold sizeT
    cases stays
    · exact Nat.le_trans hs (by decide)
    · show s.size + hadT T q ≤ _
      omega
  obtain ⟨hu1, hu2⟩ := put_used hS ⟨q, t, T.clock + 1⟩
  have hfind := find_put hS ⟨q, t, T.clock + 1⟩
  have hfull := full_eq hS stays q s
  rw [hcw, ht] at hfull
  have HT' := Lib.hid ht
  obtain ⟨L', hL'⟩ : ∃ L', L' = putF T.l ⟨q, t, T.clock + 1⟩ := ⟨_, rfl⟩
  rw [← hL'] at hu1 hu2 hfind hfull ht
  have HLe := Lib.hid ht
  have HLw : Hid (afterF T.l (writeC T stays q s) = L') := by rw [Hid, hcw]; exact ht
  have hlen' : L'.length ≤ 1000000 := by have := hO.many; split at hu2 <;> omega
  have husd : usedF L' ≤ 10000000000000000 := by have := hO.used; have h2 : (⟨q, t, T.clock + 1⟩ : Fl).f1.size = t.size := rfl; omega
  have HL' := Lib.hid hlen'
  have HU' := Lib.hid husd
  obtain ⟨i, hi, hfi, hli⟩ := findI_some hfind
  have HF := Lib.hid hfi
  have HLI := Lib.hid hli
  obtain ⟨vl, vs, vc, h⟩ := hT
  have HT := Lib.hid h
  have hlt := h.lt
  have c1 := h.c1
  have c2 := h.c2
  have hblk := Lib.hid (block_eq hP q)
  clear h hO hS hP h1 hkd hc hcw hL' hu1 hu2 hfind ht hfi hli husd hlen'
  have D3 : decide ((16777216 : Int) < (t.size : Int)) = true := decide_eq_true (by omega)
  go_enter Tryd.func51, Tryd.ntmps51
  go_upto_region 4 with (first
    | (go_at_call 53; refine (rpath_call q hq _).mono ?_; rintro e w2 ⟨rfl, hd⟩; rw [HP.out]; have HB2 := Lib.hid (drawn_below hd); clear hd))
  have c1b := (HB2.out.cell (p := ⟨m, 1, none⟩) hlt).trans c1
  have hlt2 := Nat.lt_of_lt_of_le hlt HB2.out.size
  have c2b := (HB2.out.cell (p := ⟨m, 2, none⟩) hlt).trans c2
  have HB0 : Hid (Below w2.heap.size w2 ((w2.alloc (.cells #[.int .i64 kd, .string q, .string s, .int .i64 (T.clock + 1)] 95)).drew)) := (newBelow w2 _).drew
  have HW : Hid (∀ wx v', VF wx (fun k => B k ∨ (((w2.alloc (.cells #[.int .i64 kd, .string q, .string s, .int .i64 (T.clock + 1)] 95)).drew).heap.size ≤ k ∧ k < wx.heap.size)) v' L' → VF wx (fun k => B k ∨ (w2.heap.size ≤ k ∧ k < wx.heap.size)) v' L') :=
    fun wx v' h => Kd.V_mono h fun k hk => hk.imp id fun hk => ⟨Nat.le_trans HB0.out.size hk.1, hk.2⟩
  go_upto_region 5 with (fail)
  go_cut [11] (fun v11 wc => ∃ A1 k1, v11 = .slice A1 L'.length k1 ∧ Hid (L'.length ≤ k1 ∧ WrMid w w2 B L' ⟨kd, q, s, T.clock + 1⟩ (.slice A1 L'.length k1) wc))
  case first =>
    go_region_with (first
      | (go_at_call 56; refine (rafter_call _ B _ T.l (Kd.V_below HT.out.now (HB2.out.trans (HB0.out.mono HB2.out.size))) HO.out.many (fun f hf => Nat.le_trans (HO.out.texts f hf) (by decide)) ⟨kd, q, s, T.clock + 1⟩ HC.out).mono ?_; rw [HLe.out]; rintro e w3 ⟨v3, rfl, hv3, hb3⟩; obtain ⟨A1, k1, rfl⟩ := Kd.V_slice hv3; have HM : Hid (WrMid w w2 B L' ⟨kd, q, s, T.clock + 1⟩ (.slice A1 L'.length k1) w3) := ⟨HW.out _ _ hv3, (hb3.block w2.heap.size (by show w2.heap.size < (w2.alloc _).heap.size; rw [World.size_alloc]; omega)).trans (World.alloc_heap_new w2 _), HB2.out.trans ((HB0.out.trans (hb3.mono HB0.out.size)).mono HB2.out.size)⟩; have HK1 := Lib.hid (Kd.V_reads' hv3).2.1; clear hv3 hb3))
    all_goals
      go_wp2_with fail
      go_meet
      exact ⟨_, _, rfl, HK1.out, HM.out⟩
  case rest =>
    obtain ⟨A1, k1, rfl, hM0⟩ := hcut
    have HM := Lib.hid hM0.out.2
    clear hM0
    go_upto_region 7 with (first
      | (go_at_call 50; refine (rfind_call HM.out.row HL'.out _).mono ?_; rintro e w4 ⟨rfl, hd⟩; rw [HF.out]; have HM4 := Lib.hid (HM.out.step (drawn_below hd)); clear hd))
    obtain ⟨ad, cc, e, hlc, q0, q1, q2⟩ := VF_at HM4.out.row hi
    rw [HLI.out] at q0 q1 q2
    cases e
    have c2d := (HM4.out.below.cell (p := ⟨m, 2, none⟩) hlt).trans c2
    have hlt4 := Nat.lt_of_lt_of_le hlt HM4.out.below.size
    go_wp2_with fail
    go_ret
    exact ⟨rfl, HM4.out.below⟩
set_option maxHeartbeats 4000000 in
set_option maxRecDepth 100000 in
theorem rwr_5 (w : World) (hT : Rf w m T B) (hO : TOK T) (hS : Srt T.l) (hP : Pth T.l) (stays : Bool) (q s : ByteArray) (hq : q.size ≤ 100000) (hs : s.size ≤ 1000000000) (kd : Int) (hkd : kd = if stays = true then 2 else 1) (h1 : pathV q = true) (h2 : ¬ 16777216 < sizeT T stays q s) (h3 : blockT T.l q ⟨#[]⟩ = true) :
    Calls Tryd.prog 51 #[.pointer (some ⟨m, 0, none⟩), .int .i64 kd, .string q, .string s] w fun e w' => e = .returned (.int .i64 5) ∧ Below w.heap.size w w' := by
  have HX := Lib.hid hT
  have HO := Lib.hid hO
  have HP := Lib.hid h1
  have HL := Lib.hid (Nat.le_trans hO.many (by decide : 100000 ≤ 1000000))
  have hroom := hO.room
  have hclock := hO.clock
  have hc : CgOK ⟨kd, q, s, T.clock + 1⟩ := ⟨by cases stays <;> subst hkd <;> first | exact .inl rfl | exact .inr (.inl rfl), hq, hs, fun e => by cases stays <;> subst hkd <;> simp at e⟩
  have HC := Lib.hid hc
  obtain ⟨t, ht, hts⟩ := write_after T stays q s
  have hcw : writeC T stays q s = ⟨kd, q, s, T.clock + 1⟩ := by unfold writeC; rw [← hkd]
  rw [hcw] at ht
  have hhad : hadT T q ≤ 1000000000 := by
    unfold hadT textF
    cases e : findF T.l q with
    | none => exact Nat.zero_le _
    | some f => exact hO.texts f (mem_of_find e)
  have htz : t.size ≤ 2000000000 := by
    rw [hts]
    unfold sizeT
    cases stays
    · exact Nat.le_trans hs (by decide)
    · show s.size + hadT T q ≤ _
      omega
  obtain ⟨hu1, hu2⟩ := put_used hS ⟨q, t, T.clock + 1⟩
  have hfind := find_put hS ⟨q, t, T.clock + 1⟩
  have hfull := full_eq hS stays q s
  rw [hcw, ht] at hfull
  have HT' := Lib.hid ht
  obtain ⟨L', hL'⟩ : ∃ L', L' = putF T.l ⟨q, t, T.clock + 1⟩ := ⟨_, rfl⟩
  rw [← hL'] at hu1 hu2 hfind hfull ht
  have HLe := Lib.hid ht
  have HLw : Hid (afterF T.l (writeC T stays q s) = L') := by rw [Hid, hcw]; exact ht
  have hlen' : L'.length ≤ 1000000 := by have := hO.many; split at hu2 <;> omega
  have husd : usedF L' ≤ 10000000000000000 := by have := hO.used; have h2 : (⟨q, t, T.clock + 1⟩ : Fl).f1.size = t.size := rfl; omega
  have HL' := Lib.hid hlen'
  have HU' := Lib.hid husd
  obtain ⟨i, hi, hfi, hli⟩ := findI_some hfind
  have HF := Lib.hid hfi
  have HLI := Lib.hid hli
  obtain ⟨vl, vs, vc, h⟩ := hT
  have HT := Lib.hid h
  have hlt := h.lt
  have c1 := h.c1
  have c2 := h.c2
  have hblk := Lib.hid (block_eq hP q)
  clear h hO hS hP h1 hkd hc hcw hL' hu1 hu2 hfind ht hfi hli husd hlen'
  have D3 : decide ((16777216 : Int) < (t.size : Int)) = false := decide_eq_false (by omega)
  have H3 : Hid (blockR T.l q = true) := by rw [Hid, ← hblk.out]; exact h3
  clear h3
  go_enter Tryd.func51, Tryd.ntmps51
  go_upto_region 4 with (first
    | (go_at_call 53; refine (rpath_call q hq _).mono ?_; rintro e w2 ⟨rfl, hd⟩; rw [HP.out]; have HB2 := Lib.hid (drawn_below hd); clear hd))
  have c1b := (HB2.out.cell (p := ⟨m, 1, none⟩) hlt).trans c1
  have hlt2 := Nat.lt_of_lt_of_le hlt HB2.out.size
  have c2b := (HB2.out.cell (p := ⟨m, 2, none⟩) hlt).trans c2
  have HB0 : Hid (Below w2.heap.size w2 ((w2.alloc (.cells #[.int .i64 kd, .string q, .string s, .int .i64 (T.clock + 1)] 95)).drew)) := (newBelow w2 _).drew
  have HW : Hid (∀ wx v', VF wx (fun k => B k ∨ (((w2.alloc (.cells #[.int .i64 kd, .string q, .string s, .int .i64 (T.clock + 1)] 95)).drew).heap.size ≤ k ∧ k < wx.heap.size)) v' L' → VF wx (fun k => B k ∨ (w2.heap.size ≤ k ∧ k < wx.heap.size)) v' L') :=
    fun wx v' h => Kd.V_mono h fun k hk => hk.imp id fun hk => ⟨Nat.le_trans HB0.out.size hk.1, hk.2⟩
  go_upto_region 5 with (fail)
  go_cut [11] (fun v11 wc => ∃ A1 k1, v11 = .slice A1 L'.length k1 ∧ Hid (L'.length ≤ k1 ∧ WrMid w w2 B L' ⟨kd, q, s, T.clock + 1⟩ (.slice A1 L'.length k1) wc))
  case first =>
    go_region_with (first
      | (go_at_call 56; refine (rafter_call _ B _ T.l (Kd.V_below HT.out.now (HB2.out.trans (HB0.out.mono HB2.out.size))) HO.out.many (fun f hf => Nat.le_trans (HO.out.texts f hf) (by decide)) ⟨kd, q, s, T.clock + 1⟩ HC.out).mono ?_; rw [HLe.out]; rintro e w3 ⟨v3, rfl, hv3, hb3⟩; obtain ⟨A1, k1, rfl⟩ := Kd.V_slice hv3; have HM : Hid (WrMid w w2 B L' ⟨kd, q, s, T.clock + 1⟩ (.slice A1 L'.length k1) w3) := ⟨HW.out _ _ hv3, (hb3.block w2.heap.size (by show w2.heap.size < (w2.alloc _).heap.size; rw [World.size_alloc]; omega)).trans (World.alloc_heap_new w2 _), HB2.out.trans ((HB0.out.trans (hb3.mono HB0.out.size)).mono HB2.out.size)⟩; have HK1 := Lib.hid (Kd.V_reads' hv3).2.1; clear hv3 hb3))
    all_goals
      go_wp2_with fail
      go_meet
      exact ⟨_, _, rfl, HK1.out, HM.out⟩
  case rest =>
    obtain ⟨A1, k1, rfl, hM0⟩ := hcut
    have HM := Lib.hid hM0.out.2
    clear hM0
    go_upto_region 7 with (first
      | (go_at_call 50; refine (rfind_call HM.out.row HL'.out _).mono ?_; rintro e w4 ⟨rfl, hd⟩; rw [HF.out]; have HM4 := Lib.hid (HM.out.step (drawn_below hd)); clear hd))
    obtain ⟨ad, cc, e, hlc, q0, q1, q2⟩ := VF_at HM4.out.row hi
    rw [HLI.out] at q0 q1 q2
    cases e
    have c2d := (HM4.out.below.cell (p := ⟨m, 2, none⟩) hlt).trans c2
    have hlt4 := Nat.lt_of_lt_of_le hlt HM4.out.below.size
    go_wp2_with (first
      | (go_at_call 54; refine (rblocked_call (HT.out.below HM4.out.below).now HL.out _).mono ?_; rintro e w5 ⟨rfl, hd⟩; rw [H3.out]; have HM5 := Lib.hid (HM4.out.step (drawn_below hd)); clear hd))
    go_ret
    exact ⟨rfl, HM5.out.below⟩
set_option maxHeartbeats 4000000 in
set_option maxRecDepth 100000 in
theorem rwr_6 (w : World) (hT : Rf w m T B) (hO : TOK T) (hS : Srt T.l) (hP : Pth T.l) (stays : Bool) (q s : ByteArray) (hq : q.size ≤ 100000) (hs : s.size ≤ 1000000000) (kd : Int) (hkd : kd = if stays = true then 2 else 1) (h1 : pathV q = true) (h2 : ¬ 16777216 < sizeT T stays q s) (h3 : blockT T.l q ⟨#[]⟩ = false) (h4 : decide (T.room < (usedF (afterF T.l (writeC T stays q s)) : Int)) = true) :
    Calls Tryd.prog 51 #[.pointer (some ⟨m, 0, none⟩), .int .i64 kd, .string q, .string s] w fun e w' => e = .returned (.int .i64 6) ∧ Below w.heap.size w w' := by
  have HX := Lib.hid hT
  have HO := Lib.hid hO
  have HP := Lib.hid h1
  have HL := Lib.hid (Nat.le_trans hO.many (by decide : 100000 ≤ 1000000))
  have hroom := hO.room
  have hclock := hO.clock
  have hc : CgOK ⟨kd, q, s, T.clock + 1⟩ := ⟨by cases stays <;> subst hkd <;> first | exact .inl rfl | exact .inr (.inl rfl), hq, hs, fun e => by cases stays <;> subst hkd <;> simp at e⟩
  have HC := Lib.hid hc
  obtain ⟨t, ht, hts⟩ := write_after T stays q s
  have hcw : writeC T stays q s = ⟨kd, q, s, T.clock + 1⟩ := by unfold writeC; rw [← hkd]
  rw [hcw] at ht
  have hhad : hadT T q ≤ 1000000000 := by
    unfold hadT textF
    cases e : findF T.l q with
    | none => exact Nat.zero_le _
    | some f => exact hO.texts f (mem_of_find e)
  have htz : t.size ≤ 2000000000 := by
    rw [hts]
    unfold sizeT
    cases stays
    · exact Nat.le_trans hs (by decide)
    · show s.size + hadT T q ≤ _
      omega
  obtain ⟨hu1, hu2⟩ := put_used hS ⟨q, t, T.clock + 1⟩
  have hfind := find_put hS ⟨q, t, T.clock + 1⟩
  have hfull := full_eq hS stays q s
  rw [hcw, ht] at hfull
  have HT' := Lib.hid ht
  obtain ⟨L', hL'⟩ : ∃ L', L' = putF T.l ⟨q, t, T.clock + 1⟩ := ⟨_, rfl⟩
  rw [← hL'] at hu1 hu2 hfind hfull ht
  have HLe := Lib.hid ht
  have HLw : Hid (afterF T.l (writeC T stays q s) = L') := by rw [Hid, hcw]; exact ht
  have hlen' : L'.length ≤ 1000000 := by have := hO.many; split at hu2 <;> omega
  have husd : usedF L' ≤ 10000000000000000 := by have := hO.used; have h2 : (⟨q, t, T.clock + 1⟩ : Fl).f1.size = t.size := rfl; omega
  have HL' := Lib.hid hlen'
  have HU' := Lib.hid husd
  obtain ⟨i, hi, hfi, hli⟩ := findI_some hfind
  have HF := Lib.hid hfi
  have HLI := Lib.hid hli
  obtain ⟨vl, vs, vc, h⟩ := hT
  have HT := Lib.hid h
  have hlt := h.lt
  have c1 := h.c1
  have c2 := h.c2
  have hblk := Lib.hid (block_eq hP q)
  clear h hO hS hP h1 hkd hc hcw hL' hu1 hu2 hfind ht hfi hli husd hlen'
  rw [show afterF T.l (writeC T stays q s) = L' from HLw.out] at h4
  have D3 : decide ((16777216 : Int) < (t.size : Int)) = false := decide_eq_false (by omega)
  have H3 : Hid (blockR T.l q = false) := by rw [Hid, ← hblk.out]; exact h3
  clear h3
  have D1 : decide (T.room < (usedF L' : Int)) = true := h4
  clear h4
  go_enter Tryd.func51, Tryd.ntmps51
  go_upto_region 4 with (first
    | (go_at_call 53; refine (rpath_call q hq _).mono ?_; rintro e w2 ⟨rfl, hd⟩; rw [HP.out]; have HB2 := Lib.hid (drawn_below hd); clear hd))
  have c1b := (HB2.out.cell (p := ⟨m, 1, none⟩) hlt).trans c1
  have hlt2 := Nat.lt_of_lt_of_le hlt HB2.out.size
  have c2b := (HB2.out.cell (p := ⟨m, 2, none⟩) hlt).trans c2
  have HB0 : Hid (Below w2.heap.size w2 ((w2.alloc (.cells #[.int .i64 kd, .string q, .string s, .int .i64 (T.clock + 1)] 95)).drew)) := (newBelow w2 _).drew
  have HW : Hid (∀ wx v', VF wx (fun k => B k ∨ (((w2.alloc (.cells #[.int .i64 kd, .string q, .string s, .int .i64 (T.clock + 1)] 95)).drew).heap.size ≤ k ∧ k < wx.heap.size)) v' L' → VF wx (fun k => B k ∨ (w2.heap.size ≤ k ∧ k < wx.heap.size)) v' L') :=
    fun wx v' h => Kd.V_mono h fun k hk => hk.imp id fun hk => ⟨Nat.le_trans HB0.out.size hk.1, hk.2⟩
  go_upto_region 5 with (fail)
  go_cut [11] (fun v11 wc => ∃ A1 k1, v11 = .slice A1 L'.length k1 ∧ Hid (L'.length ≤ k1 ∧ WrMid w w2 B L' ⟨kd, q, s, T.clock + 1⟩ (.slice A1 L'.length k1) wc))
  case first =>
    go_region_with (first
      | (go_at_call 56; refine (rafter_call _ B _ T.l (Kd.V_below HT.out.now (HB2.out.trans (HB0.out.mono HB2.out.size))) HO.out.many (fun f hf => Nat.le_trans (HO.out.texts f hf) (by decide)) ⟨kd, q, s, T.clock + 1⟩ HC.out).mono ?_; rw [HLe.out]; rintro e w3 ⟨v3, rfl, hv3, hb3⟩; obtain ⟨A1, k1, rfl⟩ := Kd.V_slice hv3; have HM : Hid (WrMid w w2 B L' ⟨kd, q, s, T.clock + 1⟩ (.slice A1 L'.length k1) w3) := ⟨HW.out _ _ hv3, (hb3.block w2.heap.size (by show w2.heap.size < (w2.alloc _).heap.size; rw [World.size_alloc]; omega)).trans (World.alloc_heap_new w2 _), HB2.out.trans ((HB0.out.trans (hb3.mono HB0.out.size)).mono HB2.out.size)⟩; have HK1 := Lib.hid (Kd.V_reads' hv3).2.1; clear hv3 hb3))
    all_goals
      go_wp2_with fail
      go_meet
      exact ⟨_, _, rfl, HK1.out, HM.out⟩
  case rest =>
    obtain ⟨A1, k1, rfl, hM0⟩ := hcut
    have HM := Lib.hid hM0.out.2
    clear hM0
    go_upto_region 7 with (first
      | (go_at_call 50; refine (rfind_call HM.out.row HL'.out _).mono ?_; rintro e w4 ⟨rfl, hd⟩; rw [HF.out]; have HM4 := Lib.hid (HM.out.step (drawn_below hd)); clear hd))
    obtain ⟨ad, cc, e, hlc, q0, q1, q2⟩ := VF_at HM4.out.row hi
    rw [HLI.out] at q0 q1 q2
    cases e
    have c2d := (HM4.out.below.cell (p := ⟨m, 2, none⟩) hlt).trans c2
    have hlt4 := Nat.lt_of_lt_of_le hlt HM4.out.below.size
    go_upto_region 11 with (first
      | (go_at_call 54; refine (rblocked_call (HT.out.below HM4.out.below).now HL.out _).mono ?_; rintro e w5 ⟨rfl, hd⟩; rw [H3.out]; have HM5 := Lib.hid (HM4.out.step (drawn_below hd)); clear hd))
    have c05 := (HM5.out.below.cell (p := ⟨m, 0, none⟩) hlt).trans (HT.out.c0)
    have hlt5 := Nat.lt_of_lt_of_le hlt HM5.out.below.size
    go_cut [59] (fun v59 wc => v59 = .bool true ∧ Hid (WrMid w w2 B L' ⟨kd, q, s, T.clock + 1⟩ (.slice (some ad) L'.length k1) wc))
    case first =>
      have HM5d := Lib.hid (HM5.out.step (Below.refl _ _).drew)
      have c05d := (HM5d.out.below.cell (p := ⟨m, 0, none⟩) hlt).trans (HT.out.c0)
      first | (go_region_with (first | (go_at_call 64; refine (rused_call HM5d.out.row HL'.out HU'.out).mono ?_; rintro e w6 ⟨rfl, hd⟩; have HM6 := Lib.hid (HM5d.out.step (drawn_below hd)); have c06 := (HM6.out.below.cell (p := ⟨m, 0, none⟩) hlt).trans (HT.out.c0); clear hd))) | fail
      all_goals
        go_wp2_with fail
        go_meet
        exact ⟨rfl, HM6⟩
    case rest =>
      obtain ⟨rfl, HMc⟩ := hcut
      go_wp2_with fail
      go_ret
      exact ⟨rfl, HMc.out.below⟩
set_option maxHeartbeats 4000000 in
set_option maxRecDepth 100000 in
theorem rwr_7 (w : World) (hT : Rf w m T B) (hO : TOK T) (hS : Srt T.l) (hP : Pth T.l) (stays : Bool) (q s : ByteArray) (hq : q.size ≤ 100000) (hs : s.size ≤ 1000000000) (kd : Int) (hkd : kd = if stays = true then 2 else 1) (h1 : pathV q = true) (h2 : ¬ 16777216 < sizeT T stays q s) (h3 : blockT T.l q ⟨#[]⟩ = false) (h4 : decide (T.room < (usedF (afterF T.l (writeC T stays q s)) : Int)) = false) (h5 : decide ((200 : Int) < ((afterF T.l (writeC T stays q s)).length : Int)) = true) :
    Calls Tryd.prog 51 #[.pointer (some ⟨m, 0, none⟩), .int .i64 kd, .string q, .string s] w fun e w' => e = .returned (.int .i64 6) ∧ Below w.heap.size w w' := by
  have HX := Lib.hid hT
  have HO := Lib.hid hO
  have HP := Lib.hid h1
  have HL := Lib.hid (Nat.le_trans hO.many (by decide : 100000 ≤ 1000000))
  have hroom := hO.room
  have hclock := hO.clock
  have hc : CgOK ⟨kd, q, s, T.clock + 1⟩ := ⟨by cases stays <;> subst hkd <;> first | exact .inl rfl | exact .inr (.inl rfl), hq, hs, fun e => by cases stays <;> subst hkd <;> simp at e⟩
  have HC := Lib.hid hc
  obtain ⟨t, ht, hts⟩ := write_after T stays q s
  have hcw : writeC T stays q s = ⟨kd, q, s, T.clock + 1⟩ := by unfold writeC; rw [← hkd]
  rw [hcw] at ht
  have hhad : hadT T q ≤ 1000000000 := by
    unfold hadT textF
    cases e : findF T.l q with
    | none => exact Nat.zero_le _
    | some f => exact hO.texts f (mem_of_find e)
  have htz : t.size ≤ 2000000000 := by
    rw [hts]
    unfold sizeT
    cases stays
    · exact Nat.le_trans hs (by decide)
    · show s.size + hadT T q ≤ _
      omega
  obtain ⟨hu1, hu2⟩ := put_used hS ⟨q, t, T.clock + 1⟩
  have hfind := find_put hS ⟨q, t, T.clock + 1⟩
  have hfull := full_eq hS stays q s
  rw [hcw, ht] at hfull
  have HT' := Lib.hid ht
  obtain ⟨L', hL'⟩ : ∃ L', L' = putF T.l ⟨q, t, T.clock + 1⟩ := ⟨_, rfl⟩
  rw [← hL'] at hu1 hu2 hfind hfull ht
  have HLe := Lib.hid ht
  have HLw : Hid (afterF T.l (writeC T stays q s) = L') := by rw [Hid, hcw]; exact ht
  have hlen' : L'.length ≤ 1000000 := by have := hO.many; split at hu2 <;> omega
  have husd : usedF L' ≤ 10000000000000000 := by have := hO.used; have h2 : (⟨q, t, T.clock + 1⟩ : Fl).f1.size = t.size := rfl; omega
  have HL' := Lib.hid hlen'
  have HU' := Lib.hid husd
  obtain ⟨i, hi, hfi, hli⟩ := findI_some hfind
  have HF := Lib.hid hfi
  have HLI := Lib.hid hli
  obtain ⟨vl, vs, vc, h⟩ := hT
  have HT := Lib.hid h
  have hlt := h.lt
  have c1 := h.c1
  have c2 := h.c2
  have hblk := Lib.hid (block_eq hP q)
  clear h hO hS hP h1 hkd hc hcw hL' hu1 hu2 hfind ht hfi hli husd hlen'
  rw [show afterF T.l (writeC T stays q s) = L' from HLw.out] at h4 h5
  have D3 : decide ((16777216 : Int) < (t.size : Int)) = false := decide_eq_false (by omega)
  have H3 : Hid (blockR T.l q = false) := by rw [Hid, ← hblk.out]; exact h3
  clear h3
  have D1 : decide (T.room < (usedF L' : Int)) = false := h4
  have D2 : decide ((200 : Int) < (L'.length : Int)) = true := h5
  clear h4 h5
  go_enter Tryd.func51, Tryd.ntmps51
  go_upto_region 4 with (first
    | (go_at_call 53; refine (rpath_call q hq _).mono ?_; rintro e w2 ⟨rfl, hd⟩; rw [HP.out]; have HB2 := Lib.hid (drawn_below hd); clear hd))
  have c1b := (HB2.out.cell (p := ⟨m, 1, none⟩) hlt).trans c1
  have hlt2 := Nat.lt_of_lt_of_le hlt HB2.out.size
  have c2b := (HB2.out.cell (p := ⟨m, 2, none⟩) hlt).trans c2
  have HB0 : Hid (Below w2.heap.size w2 ((w2.alloc (.cells #[.int .i64 kd, .string q, .string s, .int .i64 (T.clock + 1)] 95)).drew)) := (newBelow w2 _).drew
  have HW : Hid (∀ wx v', VF wx (fun k => B k ∨ (((w2.alloc (.cells #[.int .i64 kd, .string q, .string s, .int .i64 (T.clock + 1)] 95)).drew).heap.size ≤ k ∧ k < wx.heap.size)) v' L' → VF wx (fun k => B k ∨ (w2.heap.size ≤ k ∧ k < wx.heap.size)) v' L') :=
    fun wx v' h => Kd.V_mono h fun k hk => hk.imp id fun hk => ⟨Nat.le_trans HB0.out.size hk.1, hk.2⟩
  go_upto_region 5 with (fail)
  go_cut [11] (fun v11 wc => ∃ A1 k1, v11 = .slice A1 L'.length k1 ∧ Hid (L'.length ≤ k1 ∧ WrMid w w2 B L' ⟨kd, q, s, T.clock + 1⟩ (.slice A1 L'.length k1) wc))
  case first =>
    go_region_with (first
      | (go_at_call 56; refine (rafter_call _ B _ T.l (Kd.V_below HT.out.now (HB2.out.trans (HB0.out.mono HB2.out.size))) HO.out.many (fun f hf => Nat.le_trans (HO.out.texts f hf) (by decide)) ⟨kd, q, s, T.clock + 1⟩ HC.out).mono ?_; rw [HLe.out]; rintro e w3 ⟨v3, rfl, hv3, hb3⟩; obtain ⟨A1, k1, rfl⟩ := Kd.V_slice hv3; have HM : Hid (WrMid w w2 B L' ⟨kd, q, s, T.clock + 1⟩ (.slice A1 L'.length k1) w3) := ⟨HW.out _ _ hv3, (hb3.block w2.heap.size (by show w2.heap.size < (w2.alloc _).heap.size; rw [World.size_alloc]; omega)).trans (World.alloc_heap_new w2 _), HB2.out.trans ((HB0.out.trans (hb3.mono HB0.out.size)).mono HB2.out.size)⟩; have HK1 := Lib.hid (Kd.V_reads' hv3).2.1; clear hv3 hb3))
    all_goals
      go_wp2_with fail
      go_meet
      exact ⟨_, _, rfl, HK1.out, HM.out⟩
  case rest =>
    obtain ⟨A1, k1, rfl, hM0⟩ := hcut
    have HM := Lib.hid hM0.out.2
    clear hM0
    go_upto_region 7 with (first
      | (go_at_call 50; refine (rfind_call HM.out.row HL'.out _).mono ?_; rintro e w4 ⟨rfl, hd⟩; rw [HF.out]; have HM4 := Lib.hid (HM.out.step (drawn_below hd)); clear hd))
    obtain ⟨ad, cc, e, hlc, q0, q1, q2⟩ := VF_at HM4.out.row hi
    rw [HLI.out] at q0 q1 q2
    cases e
    have c2d := (HM4.out.below.cell (p := ⟨m, 2, none⟩) hlt).trans c2
    have hlt4 := Nat.lt_of_lt_of_le hlt HM4.out.below.size
    go_upto_region 11 with (first
      | (go_at_call 54; refine (rblocked_call (HT.out.below HM4.out.below).now HL.out _).mono ?_; rintro e w5 ⟨rfl, hd⟩; rw [H3.out]; have HM5 := Lib.hid (HM4.out.step (drawn_below hd)); clear hd))
    have c05 := (HM5.out.below.cell (p := ⟨m, 0, none⟩) hlt).trans (HT.out.c0)
    have hlt5 := Nat.lt_of_lt_of_le hlt HM5.out.below.size
    go_cut [59] (fun v59 wc => v59 = .bool true ∧ Hid (WrMid w w2 B L' ⟨kd, q, s, T.clock + 1⟩ (.slice (some ad) L'.length k1) wc))
    case first =>
      have HM5d := Lib.hid (HM5.out.step (Below.refl _ _).drew)
      have c05d := (HM5d.out.below.cell (p := ⟨m, 0, none⟩) hlt).trans (HT.out.c0)
      first | (go_region_held3 (fun w' => w'.cell? ⟨m, 0, none⟩ = some (.int .i64 T.room) ∧ Hid (WrMid w w2 B L' ⟨kd, q, s, T.clock + 1⟩ (.slice (some ad) L'.length k1) w')) (first | exact ⟨c05d, HM5d⟩ | exact ⟨c06, HM6⟩) (first | (go_at_call 64; refine (rused_call HM5d.out.row HL'.out HU'.out).mono ?_; rintro e w6 ⟨rfl, hd⟩; have HM6 := Lib.hid (HM5d.out.step (drawn_below hd)); have c06 := (HM6.out.below.cell (p := ⟨m, 0, none⟩) hlt).trans (HT.out.c0); clear hd))) | fail
      all_goals
        go_wp2_with fail
        go_meet
        exact ⟨rfl, HM6⟩
    case rest =>
      obtain ⟨rfl, HMc⟩ := hcut
      go_wp2_with fail
      go_ret
      exact ⟨rfl, HMc.out.below⟩
set_option maxHeartbeats 4000000 in
set_option maxRecDepth 100000 in
theorem rwr_0 (w : World) (hT : Rf w m T B) (hO : TOK T) (hS : Srt T.l) (hP : Pth T.l) (stays : Bool) (q s : ByteArray) (hq : q.size ≤ 100000) (hs : s.size ≤ 1000000000) (kd : Int) (hkd : kd = if stays = true then 2 else 1) (h1 : pathV q = true) (h2 : ¬ 16777216 < sizeT T stays q s) (h3 : blockT T.l q ⟨#[]⟩ = false) (h4 : decide (T.room < (usedF (afterF T.l (writeC T stays q s)) : Int)) = false) (h5 : decide ((200 : Int) < ((afterF T.l (writeC T stays q s)).length : Int)) = false) :
    Calls Tryd.prog 51 #[.pointer (some ⟨m, 0, none⟩), .int .i64 kd, .string q, .string s] w fun e w' => e = .returned (.int .i64 0) ∧ RfEnd w m B (doneT T ⟨kd, q, s, T.clock + 1⟩) w' := by
  have HX := Lib.hid hT
  have HO := Lib.hid hO
  have HP := Lib.hid h1
  have HL := Lib.hid (Nat.le_trans hO.many (by decide : 100000 ≤ 1000000))
  have hroom := hO.room
  have hclock := hO.clock
  have hc : CgOK ⟨kd, q, s, T.clock + 1⟩ := ⟨by cases stays <;> subst hkd <;> first | exact .inl rfl | exact .inr (.inl rfl), hq, hs, fun e => by cases stays <;> subst hkd <;> simp at e⟩
  have HC := Lib.hid hc
  obtain ⟨t, ht, hts⟩ := write_after T stays q s
  have hcw : writeC T stays q s = ⟨kd, q, s, T.clock + 1⟩ := by unfold writeC; rw [← hkd]
  rw [hcw] at ht
  have hhad : hadT T q ≤ 1000000000 := by
    unfold hadT textF
    cases e : findF T.l q with
    | none => exact Nat.zero_le _
    | some f => exact hO.texts f (mem_of_find e)
  have htz : t.size ≤ 2000000000 := by
    rw [hts]
    unfold sizeT
    cases stays
    · exact Nat.le_trans hs (by decide)
    · show s.size + hadT T q ≤ _
      omega
  obtain ⟨hu1, hu2⟩ := put_used hS ⟨q, t, T.clock + 1⟩
  have hfind := find_put hS ⟨q, t, T.clock + 1⟩
  have hfull := full_eq hS stays q s
  rw [hcw, ht] at hfull
  have HT' := Lib.hid ht
  obtain ⟨L', hL'⟩ : ∃ L', L' = putF T.l ⟨q, t, T.clock + 1⟩ := ⟨_, rfl⟩
  rw [← hL'] at hu1 hu2 hfind hfull ht
  have HLe := Lib.hid ht
  have HLw : Hid (afterF T.l (writeC T stays q s) = L') := by rw [Hid, hcw]; exact ht
  have hlen' : L'.length ≤ 1000000 := by have := hO.many; split at hu2 <;> omega
  have husd : usedF L' ≤ 10000000000000000 := by have := hO.used; have h2 : (⟨q, t, T.clock + 1⟩ : Fl).f1.size = t.size := rfl; omega
  have HL' := Lib.hid hlen'
  have HU' := Lib.hid husd
  obtain ⟨i, hi, hfi, hli⟩ := findI_some hfind
  have HF := Lib.hid hfi
  have HLI := Lib.hid hli
  obtain ⟨vl, vs, vc, h⟩ := hT
  have HT := Lib.hid h
  have hlt := h.lt
  have c1 := h.c1
  have c2 := h.c2
  have hblk := Lib.hid (block_eq hP q)
  clear h hO hS hP h1 hkd hc hcw hL' hu1 hu2 hfind ht hfi hli husd hlen'
  rw [show afterF T.l (writeC T stays q s) = L' from HLw.out] at h4 h5
  have D3 : decide ((16777216 : Int) < (t.size : Int)) = false := decide_eq_false (by omega)
  have H3 : Hid (blockR T.l q = false) := by rw [Hid, ← hblk.out]; exact h3
  clear h3
  have D1 : decide (T.room < (usedF L' : Int)) = false := h4
  have D2 : decide ((200 : Int) < (L'.length : Int)) = false := h5
  clear h4 h5
  go_enter Tryd.func51, Tryd.ntmps51
  go_upto_region 4 with (first
    | (go_at_call 53; refine (rpath_call q hq _).mono ?_; rintro e w2 ⟨rfl, hd⟩; rw [HP.out]; have HB2 := Lib.hid (drawn_below hd); clear hd))
  have c1b := (HB2.out.cell (p := ⟨m, 1, none⟩) hlt).trans c1
  have hlt2 := Nat.lt_of_lt_of_le hlt HB2.out.size
  have c2b := (HB2.out.cell (p := ⟨m, 2, none⟩) hlt).trans c2
  have HB0 : Hid (Below w2.heap.size w2 ((w2.alloc (.cells #[.int .i64 kd, .string q, .string s, .int .i64 (T.clock + 1)] 95)).drew)) := (newBelow w2 _).drew
  have HW : Hid (∀ wx v', VF wx (fun k => B k ∨ (((w2.alloc (.cells #[.int .i64 kd, .string q, .string s, .int .i64 (T.clock + 1)] 95)).drew).heap.size ≤ k ∧ k < wx.heap.size)) v' L' → VF wx (fun k => B k ∨ (w2.heap.size ≤ k ∧ k < wx.heap.size)) v' L') :=
    fun wx v' h => Kd.V_mono h fun k hk => hk.imp id fun hk => ⟨Nat.le_trans HB0.out.size hk.1, hk.2⟩
  go_upto_region 5 with (fail)
  go_cut [11] (fun v11 wc => ∃ A1 k1, v11 = .slice A1 L'.length k1 ∧ Hid (L'.length ≤ k1 ∧ WrMid w w2 B L' ⟨kd, q, s, T.clock + 1⟩ (.slice A1 L'.length k1) wc))
  case first =>
    go_region_with (first
      | (go_at_call 56; refine (rafter_call _ B _ T.l (Kd.V_below HT.out.now (HB2.out.trans (HB0.out.mono HB2.out.size))) HO.out.many (fun f hf => Nat.le_trans (HO.out.texts f hf) (by decide)) ⟨kd, q, s, T.clock + 1⟩ HC.out).mono ?_; rw [HLe.out]; rintro e w3 ⟨v3, rfl, hv3, hb3⟩; obtain ⟨A1, k1, rfl⟩ := Kd.V_slice hv3; have HM : Hid (WrMid w w2 B L' ⟨kd, q, s, T.clock + 1⟩ (.slice A1 L'.length k1) w3) := ⟨HW.out _ _ hv3, (hb3.block w2.heap.size (by show w2.heap.size < (w2.alloc _).heap.size; rw [World.size_alloc]; omega)).trans (World.alloc_heap_new w2 _), HB2.out.trans ((HB0.out.trans (hb3.mono HB0.out.size)).mono HB2.out.size)⟩; have HK1 := Lib.hid (Kd.V_reads' hv3).2.1; clear hv3 hb3))
    all_goals
      go_wp2_with fail
      go_meet
      exact ⟨_, _, rfl, HK1.out, HM.out⟩
  case rest =>
    obtain ⟨A1, k1, rfl, hM0⟩ := hcut
    have HM := Lib.hid hM0.out.2
    clear hM0
    go_upto_region 7 with (first
      | (go_at_call 50; refine (rfind_call HM.out.row HL'.out _).mono ?_; rintro e w4 ⟨rfl, hd⟩; rw [HF.out]; have HM4 := Lib.hid (HM.out.step (drawn_below hd)); clear hd))
    obtain ⟨ad, cc, e, hlc, q0, q1, q2⟩ := VF_at HM4.out.row hi
    rw [HLI.out] at q0 q1 q2
    cases e
    have c2d := (HM4.out.below.cell (p := ⟨m, 2, none⟩) hlt).trans c2
    have hlt4 := Nat.lt_of_lt_of_le hlt HM4.out.below.size
    go_upto_region 11 with (first
      | (go_at_call 54; refine (rblocked_call (HT.out.below HM4.out.below).now HL.out _).mono ?_; rintro e w5 ⟨rfl, hd⟩; rw [H3.out]; have HM5 := Lib.hid (HM4.out.step (drawn_below hd)); clear hd))
    have c05 := (HM5.out.below.cell (p := ⟨m, 0, none⟩) hlt).trans (HT.out.c0)
    have hlt5 := Nat.lt_of_lt_of_le hlt HM5.out.below.size
    go_cut [59] (fun v59 wc => v59 = .bool false ∧ Hid (WrMid w w2 B L' ⟨kd, q, s, T.clock + 1⟩ (.slice (some ad) L'.length k1) wc))
    case first =>
      have HM5d := Lib.hid (HM5.out.step (Below.refl _ _).drew)
      have c05d := (HM5d.out.below.cell (p := ⟨m, 0, none⟩) hlt).trans (HT.out.c0)
      first | (go_region_held3 (fun w' => w'.cell? ⟨m, 0, none⟩ = some (.int .i64 T.room) ∧ Hid (WrMid w w2 B L' ⟨kd, q, s, T.clock + 1⟩ (.slice (some ad) L'.length k1) w')) (first | exact ⟨c05d, HM5d⟩ | exact ⟨c06, HM6⟩) (first | (go_at_call 64; refine (rused_call HM5d.out.row HL'.out HU'.out).mono ?_; rintro e w6 ⟨rfl, hd⟩; have HM6 := Lib.hid (HM5d.out.step (drawn_below hd)); have c06 := (HM6.out.below.cell (p := ⟨m, 0, none⟩) hlt).trans (HT.out.c0); clear hd))) | fail
      all_goals
        go_wp2_with fail
        go_meet
        exact ⟨rfl, HM6⟩
    case rest =>
      obtain ⟨rfl, HMc⟩ := hcut
      have b0 : wc.cell? ⟨w2.heap.size, 0, none⟩ = some (.int .i64 kd) := by simp [World.cell?, HMc.out.box]
      have b1 : wc.cell? ⟨w2.heap.size, 1, none⟩ = some (.string q) := by simp [World.cell?, HMc.out.box]
      have b2 : wc.cell? ⟨w2.heap.size, 2, none⟩ = some (.string s) := by simp [World.cell?, HMc.out.box]
      have b3 : wc.cell? ⟨w2.heap.size, 3, none⟩ = some (.int .i64 (T.clock + 1)) := by simp [World.cell?, HMc.out.box]
      have HD : Hid (∀ W, Rf W m T B → Calls Tryd.prog 52 #[.pointer (some ⟨m, 0, none⟩), .agg #[.int .i64 kd, .string q, .string s, .int .i64 (T.clock + 1)]] W fun e w' => e = .returned (.tuple #[]) ∧ RfEnd W m B (doneT T ⟨kd, q, s, T.clock + 1⟩) w') := fun W hW =>
        rchange_call W hW ⟨kd, q, s, T.clock + 1⟩ HC.out HO.out.many (fun f hf => Nat.le_trans (HO.out.texts f hf) (by decide)) HO.out.clock HO.out.chs
      go_wp2_with (first
        | (go_at_call 52; refine (HD.out _ (HX.out.below HMc.out.below)).mono ?_; rintro e w7 ⟨rfl, he⟩; have HE := Lib.hid he; clear he))
      go_ret
      exact ⟨rfl, HE.out.left HMc.out.below⟩
end
end Go.Proofs.YtajiidkmijeidaaDoor.Fr
/- The reference's Write, Append, New. -/
namespace Go.Proofs.YtajiidkmijeidaaDoor.Fr
open Go.RowKit Go.Proofs.YtajiidkmijeidaaDoor.F Go.Proofs.YtajiidkmijeidaaDoorW.PrintWords
set_option linter.unusedVariables false
set_option linter.unusedSimpArgs false
section
variable {m : Nat} {T : TS} {B : Nat → Prop}
theorem rwrite_call (w : World) (hT : Rf w m T B) (hO : TOK T) (hS : Srt T.l) (hP : Pth T.l) (stays : Bool) (q s : ByteArray) (hq : q.size ≤ 100000) (hs : s.size ≤ 1000000000) (kd : Int) (hkd : kd = if stays = true then 2 else 1) :
    Calls Tryd.prog 51 #[.pointer (some ⟨m, 0, none⟩), .int .i64 kd, .string q, .string s] w fun e w' => e = .returned (.int .i64 (writeE T stays q s)) ∧ RfEnd w m B (writeT T stays q s) w' := by
  have hne : ∀ n : Int, n ≠ 0 → writeE T stays q s = n → (∀ (e : Ending) (w' : World), (e = .returned (.int .i64 n) ∧ Below w.heap.size w w') → e = .returned (.int .i64 (writeE T stays q s)) ∧ RfEnd w m B (writeT T stays q s) w') := by
    rintro n hn he e w' ⟨rfl, hb⟩
    rw [he]
    refine ⟨rfl, ?_⟩
    unfold writeT
    rw [if_neg (by rw [he]; exact hn)]
    exact RfEnd.same hT hb
  cases h1 : pathV q with
  | false => exact (rwr_1 w hT hO hS hP stays q s hq hs kd hkd h1).mono (hne 1 (by decide) (by unfold writeE; rw [h1]; rfl))
  | true =>
    by_cases h2 : 16777216 < sizeT T stays q s
    · exact (rwr_3 w hT hO hS hP stays q s hq hs kd hkd h1 h2).mono (hne 3 (by decide) (by unfold writeE; rw [h1]; exact if_pos h2))
    · cases h3 : blockT T.l q ⟨#[]⟩ with
      | true => exact (rwr_5 w hT hO hS hP stays q s hq hs kd hkd h1 h2 h3).mono (hne 5 (by decide) (by unfold writeE; rw [h1, h3]; exact (if_neg h2).trans rfl))
      | false =>
        have hf := full_eq hS stays q s
        cases h4 : decide (T.room < (usedF (afterF T.l (writeC T stays q s)) : Int)) with
        | true =>
          rw [h4] at hf
          exact (rwr_6 w hT hO hS hP stays q s hq hs kd hkd h1 h2 h3 h4).mono (hne 6 (by decide) (by unfold writeE; rw [h1, h3, hf]; exact (if_neg h2).trans rfl))
        | false =>
          cases h5 : decide ((200 : Int) < ((afterF T.l (writeC T stays q s)).length : Int)) with
          | true =>
            have h5' : decide (200 < (afterF T.l (writeC T stays q s)).length) = true := by rw [decide_eq_true_eq] at h5 ⊢; omega
            rw [h4, h5'] at hf
            exact (rwr_7 w hT hO hS hP stays q s hq hs kd hkd h1 h2 h3 h4 h5).mono (hne 6 (by decide) (by unfold writeE; rw [h1, h3, hf]; exact (if_neg h2).trans rfl))
          | false =>
            have h5' : decide (200 < (afterF T.l (writeC T stays q s)).length) = false := by rw [decide_eq_false_iff_not] at h5 ⊢; omega
            rw [h4, h5'] at hf
            have he : writeE T stays q s = 0 := by unfold writeE; rw [h1, h3, hf]; exact (if_neg h2).trans rfl
            have ht : writeT T stays q s = doneT T ⟨kd, q, s, T.clock + 1⟩ := by
              unfold writeT
              rw [if_pos he]
              unfold writeC
              rw [← hkd]
            rw [he, ht]
            exact rwr_0 w hT hO hS hP stays q s hq hs kd hkd h1 h2 h3 h4 h5
set_option maxHeartbeats 1000000 in
set_option maxRecDepth 100000 in
theorem rWrite_call (w : World) (hT : Rf w m T B) (hO : TOK T) (hS : Srt T.l) (hP : Pth T.l) (q s : ByteArray) (hq : q.size ≤ 100000) (hs : s.size ≤ 1000000000) :
    Calls Tryd.prog 34 #[.pointer (some ⟨m, 0, none⟩), .string q, .string s] w fun e w' => e = .returned (.int .i64 (writeE T false q s)) ∧ RfEnd w m B (writeT T false q s) w' := by
  have H := Lib.hid (rwrite_call w hT hO hS hP false q s hq hs 1 rfl)
  clear hT hO hS hP
  go_enter Tryd.func34, Tryd.ntmps34
  go_wp2_with (first | (go_at_call 51; refine H.out.mono ?_; rintro e w' ⟨rfl, h⟩; have HE := Lib.hid h; clear h))
  go_ret
  exact ⟨rfl, HE.out⟩
set_option maxHeartbeats 1000000 in
set_option maxRecDepth 100000 in
theorem rAppend_call (w : World) (hT : Rf w m T B) (hO : TOK T) (hS : Srt T.l) (hP : Pth T.l) (q s : ByteArray) (hq : q.size ≤ 100000) (hs : s.size ≤ 1000000000) :
    Calls Tryd.prog 35 #[.pointer (some ⟨m, 0, none⟩), .string q, .string s] w fun e w' => e = .returned (.int .i64 (writeE T true q s)) ∧ RfEnd w m B (writeT T true q s) w' := by
  have H := Lib.hid (rwrite_call w hT hO hS hP true q s hq hs 2 rfl)
  clear hT hO hS hP
  go_enter Tryd.func35, Tryd.ntmps35
  go_wp2_with (first | (go_at_call 51; refine H.out.mono ?_; rintro e w' ⟨rfl, h⟩; have HE := Lib.hid h; clear h))
  go_ret
  exact ⟨rfl, HE.out⟩
end
/-! ### New -/
def RNewEnd (w : World) (T : TS) (e : Ending) (w' : World) : Prop :=
  ∃ m B, e = .returned (.tuple #[.pointer (some ⟨m, 0, none⟩), .int .i64 0]) ∧ Rf w' m T B ∧ Below w.heap.size w w' ∧ w.heap.size ≤ m ∧ ∀ k, B k → w.heap.size ≤ k
theorem rnew_end (w : World) (room : Int) : RNewEnd w (newT room) (.returned (.tuple #[.pointer (some ⟨w.heap.size, 0, none⟩), .int .i64 0])) (w.alloc (.cells #[.int .i64 room, .int .i64 0, .slice none 0 0, .slice none 0 0, .slice none 0 0] 88)) :=
  ⟨w.heap.size, fun _ => False, rfl, ⟨.slice none 0 0, .slice none 0 0, .slice none 0 0, {
    at_ := World.alloc_heap_new w _
    now := Kd.V_nil _ _ _ _ _
    last := Kd.V_nil _ _ _ _ _
    row := Kd.V_nil _ _ _ _ _
    nil := fun _ => rfl
    free := fun k hk => hk.elim }⟩, newBelow w _, Nat.le_refl _, fun k hk => hk.elim⟩
set_option maxHeartbeats 1000000 in
set_option maxRecDepth 100000 in
theorem rNew_call (w : World) (room : Int) (h1 : 1 ≤ room) (h2 : room ≤ 1073741824) : Calls Tryd.prog 33 #[.int .i64 room] w (RNewEnd w (newT room)) := by
  have H := Lib.hid (rnew_end w room)
  have d1 : decide (room < 1) = false := decide_eq_false (by omega)
  have d2 : decide (1073741824 < room) = false := decide_eq_false (by omega)
  go_enter Tryd.func33, Tryd.ntmps33
  go_wp2
  go_ret2
  exact H.out
set_option maxHeartbeats 1000000 in
set_option maxRecDepth 100000 in
theorem rNew_none (w : World) (room : Int) (h : room < 1 ∨ 1073741824 < room) : Calls Tryd.prog 33 #[.int .i64 room] w fun e w' => e = .returned (.tuple #[.pointer none, .int .i64 1]) ∧ w = w' := by
  rcases h with h | h
  · have hd : decide (room < 1) = true := decide_eq_true h
    go_enter Tryd.func33, Tryd.ntmps33
    go_wp2
    go_ret2
    exact ⟨rfl, rfl⟩
  · have hd : decide (room < 1) = false := decide_eq_false (by omega)
    have hd2 : decide (1073741824 < room) = true := decide_eq_true h
    go_enter Tryd.func33, Tryd.ntmps33
    go_wp2
    go_ret2
    exact ⟨rfl, rfl⟩
end Go.Proofs.YtajiidkmijeidaaDoor.Fr
/- The reference's Crash. -/
namespace Go.Proofs.YtajiidkmijeidaaDoor.Fr
open Go.RowKit Go.Proofs.YtajiidkmijeidaaDoor.F Go.Proofs.YtajiidkmijeidaaDoorW.PrintWords
set_option linter.unusedVariables false
set_option linter.unusedSimpArgs false
theorem VC_get {w : World} {B : Nat → Prop} {v : Value} {l : List Cg} (h : VC w B v l) {i : Nat} (hi : i < l.length) :
    ∃ ad c, v = .slice (some ad) l.length c ∧ l.length ≤ c ∧ w.cell? (ad.add (i * 4)) = some (.int .i64 l[i].f0) ∧ w.cell? ⟨(ad.add (i * 4)).block, (ad.add (i * 4)).off + 1, none⟩ = some (.string l[i].f1) ∧ w.cell? ⟨(ad.add (i * 4)).block, (ad.add (i * 4)).off + 2, none⟩ = some (.string l[i].f2) ∧ w.cell? ⟨(ad.add (i * 4)).block, (ad.add (i * 4)).off + 3, none⟩ = some (.int .i64 l[i].f3) := by
  obtain ⟨ad, c, e, hc, hcell⟩ := VC_at h (by omega)
  have hc4 : ∀ j u, j < 4 → (cgCells l[i])[j]? = some u → w.cell? (ad.add (i * 4 + j)) = some u := fun j u hj hu => hcell _ _ (by rw [cgCells_at l i hi j hj]; exact hu)
  exact ⟨ad, c, e, hc, hc4 0 _ (by decide) rfl, by rw [← add_field _ _ 1 (by omega)]; exact hc4 1 _ (by decide) rfl, by rw [← add_field _ _ 2 (by omega)]; exact hc4 2 _ (by decide) rfl, by rw [← add_field _ _ 3 (by omega)]; exact hc4 3 _ (by decide) rfl⟩
theorem rcrash_end {w W : World} {m : Nat} {T : TS} {B : Nat → Prop} {L' : List Fl} {vl vs vc u : Value} (h : RfAt w m T B vl vs vc) (hb : Below w.heap.size w W) (hv : VF W (fun q => B q ∨ (w.heap.size ≤ q ∧ q < W.heap.size)) u L') :
    RfEnd w m B (syncT { T with l := L' }) (((W.setCell ⟨m, 2, none⟩ u).setCell ⟨m, 3, none⟩ u).setCell ⟨m, 4, none⟩ (.slice none 0 0)) := by
  have hlt := h.lt
  have hat := (hb.block m hlt).trans h.at_
  have h2 := heap_setCell_same W m 2 _ _ u hat
  have h3 := heap_setCell_same _ m 3 _ _ u h2
  have h4 := heap_setCell_same _ m 4 _ _ (.slice none 0 0) h3
  have hCW : Chg (fun k => k = m) W (((W.setCell ⟨m, 2, none⟩ u).setCell ⟨m, 3, none⟩ u).setCell ⟨m, 4, none⟩ (.slice none 0 0)) := (((Chg.refl (fun k => k = m) W).setCell (p := ⟨m, 2, none⟩) (fun _ => rfl) _).setCell (p := ⟨m, 3, none⟩) (fun _ => rfl) _).setCell (p := ⟨m, 4, none⟩) (fun _ => rfl) _
  have hne : ∀ q, (B q ∨ (w.heap.size ≤ q ∧ q < W.heap.size)) → q < W.heap.size ∧ q ≠ m := by
    rintro q (hq | hq)
    · exact ⟨Nat.lt_of_lt_of_le (h.free q hq).1 hb.size, (h.free q hq).2⟩
    · exact ⟨hq.2, by have := hq.1; omega⟩
  have hv' : VF (((W.setCell ⟨m, 2, none⟩ u).setCell ⟨m, 3, none⟩ u).setCell ⟨m, 4, none⟩ (.slice none 0 0)) (fun q => B q ∨ (w.heap.size ≤ q ∧ q < W.heap.size)) u L' := Kd.V_step hv fun k hk hl => hCW.block k hl (hne k hk).2
  refine ⟨fun q => B q ∨ (w.heap.size ≤ q ∧ q < W.heap.size), ⟨u, u, .slice none 0 0, ?_⟩, (Chg.of_below hb _).trans hCW fun _ _ e => e, fun k hk => hk.imp id fun e => e.1⟩
  exact {
    at_ := by rw [h4]; simp [syncT]
    now := hv'
    last := hv'
    row := Kd.V_nil _ _ _ _ _
    nil := fun _ => rfl
    free := fun k hk => ⟨Nat.lt_of_lt_of_le (hne k hk).1 hCW.size, (hne k hk).2⟩ }
section
variable {m : Nat} {T : TS} {B : Nat → Prop}
set_option maxHeartbeats 4000000 in
set_option maxRecDepth 100000 in
theorem rCrash_call (w : World) (hT : Rf w m T B) (many part : Int) (hn : T.ch.length ≤ 1000000) (hcs : ∀ c ∈ T.ch, CgOK c)
    (hL : ∀ k, k ≤ T.ch.length → (foldF T.last (T.ch.take k)).length ≤ 100000 ∧ ∀ f ∈ foldF T.last (T.ch.take k), f.f1.size ≤ 1000000000000) :
    Calls Tryd.prog 39 #[.pointer (some ⟨m, 0, none⟩), .int .i64 many, .int .i64 part] w fun e w' => e = .returned (.tuple #[]) ∧ RfEnd w m B (crashT T many part) w' := by
  obtain ⟨vl, vs, vc, h⟩ := hT
  obtain ⟨av, cv, rfl⟩ := Kd.V_slice h.row
  have hcap := (Kd.V_reads' h.row).2.1
  have HT := Lib.hid h
  have HL := Lib.hid hL
  have HCS := Lib.hid hcs
  have c3 := h.c3
  have c4 := h.c4
  have hlt := h.lt
  clear h hL hcs
  obtain ⟨K, hK⟩ : ∃ K, K = keptN many T.ch.length := ⟨_, rfl⟩
  have hKn : K ≤ T.ch.length := by rw [hK]; unfold keptN; omega
  have hKI : (max 0 (min many (T.ch.length : Int)) : Int) = K := by rw [hK]; unfold keptN; omega
  have HK := Lib.hid hK
  clear hK
  have HEnd : Hid (∀ W v7 L', Below w.heap.size w W → VF W (fun q => B q ∨ (w.heap.size ≤ q ∧ q < W.heap.size)) v7 L' → RfEnd w m B (syncT { T with l := L' }) (((W.setCell ⟨m, 2, none⟩ v7).setCell ⟨m, 3, none⟩ v7).setCell ⟨m, 4, none⟩ (.slice none 0 0))) := fun W v7 L' h1 h2 => rcrash_end HT.out h1 h2
  go_enter Tryd.func39, Tryd.ntmps39
  go_wp2_with fail
  go_loopw [7, 8] (fun v7 i wr => ∃ (k : Nat), k ≤ K ∧ i = .int .i64 k ∧ Hid (VF wr (fun q => B q ∨ (w.heap.size ≤ q ∧ q < wr.heap.size)) v7 (foldF T.last (T.ch.take k))) ∧ Hid (Below w.heap.size w wr))
    (fun v7 i _ => K - (intOf i).toNat)
  case atStart => exact ⟨0, Nat.zero_le _, rfl, Kd.V_mono HT.out.last fun k hk => .inl hk, Below.refl _ _⟩
  case round =>
    obtain ⟨k, hk, rfl, HV, HB⟩ := hrel
    have hat := (HB.out.block m hlt).trans HT.out.at_
    have d4 : wr.cell? ⟨m, 4, none⟩ = some (.slice av T.ch.length cv) := by simp [World.cell?, hat]
    have g2 : wr.frozen? ⟨m, 2, none⟩ = false := by simp [World.frozen?, hat]
    have g3 : wr.frozen? ⟨m, 3, none⟩ = false := by simp [World.frozen?, hat]
    have g4 : wr.frozen? ⟨m, 4, none⟩ = false := by simp [World.frozen?, hat]
    have d2 : wr.cell? ⟨m, 2, none⟩ = some vl := by simp [World.cell?, hat]
    have d3 : wr.cell? ⟨m, 3, none⟩ = some vs := by simp [World.cell?, hat]
    have hmw := Nat.lt_of_lt_of_le hlt HB.out.size
    have hrow : VC wr B (.slice av T.ch.length cv) T.ch := (HT.out.below HB.out).row
    clear hat
    by_cases hlk : k < K
    · have hkn : k < T.ch.length := by omega
      obtain ⟨ad, cc, e, hcc, q0, q1, q2, q3⟩ := VC_get hrow hkn
      have hst := Lib.hid (foldF_succ T.last T.ch k hkn)
      have hok := Lib.hid (HCS.out _ (List.getElem_mem hkn))
      have hlk' := Lib.hid (HL.out k (by omega))
      have HW : Hid (∀ wx v' r, VF wx (fun q => (B q ∨ (w.heap.size ≤ q ∧ q < wr.heap.size)) ∨ (wr.heap.size ≤ q ∧ q < wx.heap.size)) v' r → wr.heap.size ≤ wx.heap.size → VF wx (fun q => B q ∨ (w.heap.size ≤ q ∧ q < wx.heap.size)) v' r) := fun wx v' r h hs => Kd.V_mono h fun q hq => by
        have := HB.out.size
        rcases hq with (hq | hq) | hq
        · exact .inl hq
        · exact .inr ⟨hq.1, by omega⟩
        · exact .inr ⟨by omega, hq.2⟩
      clear hrow
      cases e
      generalize T.ch[k] = c at q0 q1 q2 q3 hst hok
      obtain ⟨ck, cq, cs, ct⟩ := c
      go_wp2_with (first
        | (go_at_call 56; refine (rafter_call _ _ _ _ HV.out hlk'.out.1 hlk'.out.2 ⟨ck, cq, cs, ct⟩ hok.out).mono ?_; rintro e w3 ⟨v3, rfl, hv3, hb3⟩; have HV3 := Lib.hid (HW.out _ _ _ hv3 hb3.size); have HB3 := Lib.hid (HB.out.trans (hb3.mono HB.out.size)); clear hv3 hb3))
      go_roundw
      case rel => exact ⟨k + 1, by omega, by go_num, by rw [hst.out]; exact HV3.out, HB3.out⟩
      case measure => simp [intOf]; omega
    · have hkK : k = K := by omega
      subst hkK
      by_cases hl2 : k < T.ch.length
      · obtain ⟨ad, cc, e, hcc, q0, q1, q2, q3⟩ := VC_get hrow hl2
        have hok := Lib.hid (HCS.out _ (List.getElem_mem hl2))
        have hlk' := Lib.hid (HL.out k (by omega))
        have HCR : Hid (crashL T many part = if T.ch[k].f0 ≤ 2 ∧ 1 ≤ part then afterF (foldF T.last (T.ch.take k)) (cutC T.ch[k] part) else foldF T.last (T.ch.take k)) := by
          unfold Hid crashL
          simp only [← HK.out, List.getElem?_eq_getElem hl2]
        clear hrow
        cases e
        generalize T.ch[k] = c at q0 q1 q2 q3 hok HCR
        obtain ⟨ck, cq, cs, ct⟩ := c
        by_cases hkd : ck ≤ 2
        · by_cases hp1 : 1 ≤ part
          · have hcr : Hid (crashL T many part = afterF (foldF T.last (T.ch.take k)) (cutC ⟨ck, cq, cs, ct⟩ part)) := by
              rw [Hid, HCR.out, if_pos ⟨hkd, hp1⟩]
            obtain ⟨N, hN⟩ : ∃ N : Nat, min part (cs.size : Int) = N := ⟨(min part (cs.size : Int)).toNat, by omega⟩
            have hNs : N ≤ cs.size := by omega
            have hcut : Hid (cutC ⟨ck, cq, cs, ct⟩ part = ⟨ck, cq, cs.extract 0 N, ct⟩) := by
              unfold Hid cutC
              rw [cutS_pos (by omega)]
              simp only [hN, Int.toNat_natCast]
            have hok2 : Hid (CgOK ⟨ck, cq, cs.extract 0 N, ct⟩) := by
              have h0 := hok.out
              refine ⟨h0.kind, h0.path, ?_, fun e => ?_⟩
              · have h2 : cs.size ≤ 1000000000 := h0.text
                show (cs.extract 0 N).size ≤ _
                rw [ByteArray.size_extract]
                omega
              · have : ck = 4 := e
                omega
            have HW : Hid (∀ W0 wx v' r, Below wr.heap.size wr W0 → VF wx (fun q => (B q ∨ (w.heap.size ≤ q ∧ q < wr.heap.size)) ∨ (W0.heap.size ≤ q ∧ q < wx.heap.size)) v' r → W0.heap.size ≤ wx.heap.size → VF wx (fun q => B q ∨ (w.heap.size ≤ q ∧ q < wx.heap.size)) v' r) := fun W0 wx v' r h0 h hs => Kd.V_mono h fun q hq => by
              have := HB.out.size
              have := h0.size
              rcases hq with (hq | hq) | hq
              · exact .inl hq
              · exact .inr ⟨hq.1, by omega⟩
              · exact .inr ⟨by omega, hq.2⟩
            have HFE : Hid (∀ wx, Below w.heap.size w wx → (wx.frozen? ⟨m, 2, none⟩ = false ∧ wx.frozen? ⟨m, 3, none⟩ = false ∧ wx.frozen? ⟨m, 4, none⟩ = false) ∧ wx.cell? ⟨m, 2, none⟩ = some vl ∧ wx.cell? ⟨m, 3, none⟩ = some vs ∧ wx.cell? ⟨m, 4, none⟩ = some (.slice (some ad) T.ch.length cv)) := fun wx hx => by
              have hat := (hx.block m hlt).trans HT.out.at_
              exact ⟨⟨by simp [World.frozen?, hat], by simp [World.frozen?, hat], by simp [World.frozen?, hat]⟩, by simp [World.cell?, hat], by simp [World.cell?, hat], by simp [World.cell?, hat]⟩
            have hlc := hlk'.out.1
            have HB0 : Hid (Below wr.heap.size wr (wr.alloc (.cells #[.int .i64 ck, .string cq, .string (cs.extract 0 N), .int .i64 ct] 95))) := newBelow wr _
            go_wp2_with (first
              | (go_at_call 56; refine (rafter_call _ _ _ _ (Kd.V_alloc HV.out _) hlk'.out.1 hlk'.out.2 ⟨ck, cq, cs.extract 0 N, ct⟩ hok2.out).mono ?_; rintro e w3 ⟨v3, rfl, hv3, hb3⟩; obtain ⟨A7, k7, rfl⟩ := Kd.V_slice hv3; have HB3 := Lib.hid (HB.out.trans ((HB0.out.trans (hb3.mono HB0.out.size)).mono HB.out.size)); have HX := Lib.hid (HEnd.out w3 _ _ HB3.out (HW.out _ _ _ _ HB0.out hv3 hb3.size)); obtain ⟨⟨x2, x3, x4⟩, y2, y3, y4⟩ := HFE.out w3 HB3.out; have hm3 := Nat.lt_of_lt_of_le hlt HB3.out.size; clear hv3 hb3))
            go_end0
            refine ⟨rfl, ?_⟩
            unfold crashT
            rw [hcr.out, hcut.out]
            exact HX.out
          · have hcr : Hid (crashL T many part = foldF T.last (T.ch.take k)) := by
              rw [Hid, HCR.out, if_neg (fun e => hp1 e.2)]
            obtain ⟨A7, k7, rfl⟩ := Kd.V_slice HV.out
            have HX := Lib.hid (HEnd.out wr _ _ HB.out HV.out)
            go_wp2_with fail
            go_end0
            refine ⟨rfl, ?_⟩
            unfold crashT
            rw [hcr.out]
            exact HX.out
        · have hcr : Hid (crashL T many part = foldF T.last (T.ch.take k)) := by
            rw [Hid, HCR.out, if_neg (fun e => hkd e.1)]
          obtain ⟨A7, k7, rfl⟩ := Kd.V_slice HV.out
          have HX := Lib.hid (HEnd.out wr _ _ HB.out HV.out)
          go_wp2_with fail
          go_end0
          refine ⟨rfl, ?_⟩
          unfold crashT
          rw [hcr.out]
          exact HX.out
      · have hcr : Hid (crashL T many part = foldF T.last (T.ch.take k)) := by
          unfold Hid crashL
          simp only [← HK.out, List.getElem?_eq_none (Nat.le_of_not_lt hl2)]
        obtain ⟨A7, k7, rfl⟩ := Kd.V_slice HV.out
        have HX := Lib.hid (HEnd.out wr _ _ HB.out HV.out)
        clear hrow
        go_wp2_with fail
        go_end0
        refine ⟨rfl, ?_⟩
        unfold crashT
        rw [hcr.out]
        exact HX.out
end
end Go.Proofs.YtajiidkmijeidaaDoor.Fr
