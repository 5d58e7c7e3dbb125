import Derived.Test.YtjaghgelmlcplaaP0
import Derived.Test.YtjaghgelmlcplaaWay
import Derived.Maps.Own
import Derived.Maps.OwnOps
import Derived.Maps.Views
import Derived.Maps.OwnSet
import Derived.Lib.Hide
import Derived.Outline
import Derived.Lib.OwnBridge
import Derived.Lib.RowBridge
import Derived.Test.YtjaghgelmlcplaaShelf
namespace Go.Proofs.Ytjaghgelmlcplaa.Hand
open Go.RowKit Go.Maps Go.Proofs.YtjaghgelmlcplaaW.PrintWords Go.Proofs.YtjaghgelmlcplaaW.PrintLast Go.Proofs.YtjaghgelmlcplaaW.PrintMore Go.Proofs.Ytjaghgelmlcplaa.P Go.Proofs.Ytjaghgelmlcplaa.Way
set_option linter.unusedVariables false
set_option linter.unusedSimpArgs false

theorem lawK : Keyed Try.prog 3 := int_keyed Try.underlying3
theorem zeroE (w : World) : (zeroValue 3).run Try.prog w = .ok (.int .i64 0) w := by kernel_rfl
def es (l : List S43) : List (Int × Int) := l.map fun e => (e.f0, e.f1)
theorem es_len (l : List S43) : (es l).length = l.length := List.length_map _
def Wf (l : List S43) : Prop := ∀ e ∈ l, (Lit.int .i64 e.f0).wf = true ∧ (Lit.int .i64 e.f1).wf = true
/-- The map reads as: 1 at each that was seen, 0 elsewhere. -/
def Seen (D : DataW Unit) (sn : List Int) : Prop := ∀ x, (Lit.int .i64 x).wf = true → D.atKey (.int .i64 x) (.lit (.int .i64 0)) = .lit (.int .i64 (if x ∈ sn then 1 else 0))
/-- The queue behind its first one. -/
theorem q_head {w : World} {base : Nat} {ok : Nat → Prop} {A : Option Addr} {n c : Nat} {x : Int} {q : List Int} (h : Kd.Q (Kd.int .i64) 3 w base ok (.slice A n c) (x :: q)) :
    ∃ ad, A = some ad ∧ w.cell? ad = some (.int .i64 x) := by
  obtain ⟨hn, _, hr⟩ := Kd.Q_reads' h
  obtain ⟨ad, cs, rfl, hl, hk, hc⟩ := Kd.C_get hr 0 0 (by omega) (by simp <;> omega)
  have hk' : cs = [.int .i64 x] := hk
  subst hk'
  exact ⟨ad, rfl, by simpa [Addr.add] using hc 0 _ rfl⟩

theorem seen_yes {D : DataW Unit} {sn : List Int} {y c : Int} (h : Seen D sn) (hw : (Lit.int .i64 y).wf = true) (hy : y ∈ sn) (hat : D.atKey (.int .i64 y) (.lit (.int .i64 0)) = .lit (.int .i64 c)) : c = 1 := by
  have := h y hw
  rw [hat, if_pos hy] at this
  simpa using this
theorem seen_no {D : DataW Unit} {sn : List Int} {y c : Int} (h : Seen D sn) (hw : (Lit.int .i64 y).wf = true) (hy : y ∉ sn) (hat : D.atKey (.int .i64 y) (.lit (.int .i64 0)) = .lit (.int .i64 c)) : c = 0 := by
  have := h y hw
  rw [hat, if_neg hy] at this
  simpa using this
theorem Seen.put {D : DataW Unit} {sn : List Int} {y : Int} (h : Seen D sn) (hD : IsMap D) (hw : (Lit.int .i64 y).wf = true) : Seen (D.put (.int .i64 y) (.lit (.int .i64 1))) (y :: sn) := by
  intro x hx
  by_cases e : x = y
  · subst e
    rw [atKey_put_same hD (show WideAt.IsKeyLit (.int .i64 x) from trivial), if_pos List.mem_cons_self]
  · rw [atKey_put_other (fun h => e (by injection h)), h x hx]
    by_cases hm : x ∈ sn
    · rw [if_pos hm, if_pos (List.mem_cons_of_mem _ hm)]
    · rw [if_neg hm, if_neg (fun h' => by
        rcases List.mem_cons.1 h' with h' | h'
        · exact e h'
        · exact hm h')]
theorem get_of {l : List (Int × Int)} {k : Nat} {e : Int × Int} (hk : k < l.length) (h : l[k]? = some e) : l[k] = e := by
  rw [List.getElem?_eq_getElem hk] at h
  exact Option.some.inj h

set_option maxHeartbeats 2000000 in
theorem reaches_walk (A0 : Option Addr) (c0 : Nat) (l0 : List S43) (a1 a2 : Int) (w : World) (hr0 : Kd.C k43 w A0 l0.length l0) (hc0 : l0.length ≤ c0) (hwf : Wf l0) (hlen : l0.length ≤ 1000) :
    Calls Try.prog 10 #[.slice A0 l0.length c0, .int .i64 a1, .int .i64 a2] w fun e w' => (∃ b : Bool, e = .returned (.bool b) ∧ (b = true ↔ Leads (es l0) a1 a2)) ∧ Below w.heap.size w w' := by
  obtain ⟨i0, hi0, hz0, hz1, hz2⟩ := info_parts info3
  have hmm := @run_makeMap Try.prog
  have HR := Lib.hid hr0
  have HWf := Lib.hid hwf
  clear hr0 hwf
  go_enter Try.func10, Try.ntmps10
  go_wp2
  go_loopg [8] (l0.length + 2) (fun g v8 wr => ∃ (q sn : List Int) (D : DataW Unit), Hid (q.length + unseen (es l0) sn < g) ∧ Hid (g ≤ l0.length + 2) ∧ Hid (Inv (es l0) a1 a2 q sn) ∧ Hid (Seen D sn) ∧ Hid (sn.length + unseen (es l0) sn ≤ l0.length) ∧
      Hid (wr.ownsMap Try.prog 3 (plainElem Try.prog 3) w.heap.size sn.length D) ∧ Hid (Kd.Q (Kd.int .i64) 3 wr w.heap.size (fun k => k ≠ w.heap.size) v8 q) ∧ Hid (Below w.heap.size w wr) ∧ Hid (w.heap.size < wr.heap.size))
  case atStart =>
    refine ⟨[a1], [], .map [], ?_, Nat.le_refl _, Inv.start _ _ _, fun x hx => rfl, ?_, ?_, ?_, ?_, ?_⟩
    · have := unseen_le (es l0) []; rw [es_len] at this; simp [Hid]; omega
    · have := unseen_le (es l0) []; rw [es_len] at this; simp [Hid]; omega
    · exact (World.ownsMap_made _ _ _ _).alloc _
    · refine Kd.Q_of_R ⟨fun k hk => ?_, [.int .i64 a1], ?_, ?_⟩
      · simp [Value.ownBlock] at hk; omega
      · have h2 := World.ownsRow_lit (base := w.heap.size) (e := 3) (size := 1) (w.alloc (.map #[] 0)) #[.int .i64 a1] 1 (by simp) (by decide) (by simp)
        rw [World.size_alloc] at h2
        exact h2
      · exact Reps.one (show Kd.M (Kd.int .i64) _ _ _ a1 [.int .i64 a1] from rfl) (Reps.none _ _)
    · exact ((Below.refl _ _).alloc (Nat.le_refl _) _).alloc (by simp) _
    · simp [Hid]; omega
  case round =>
    obtain ⟨q, sn, D, hm, hg, hI, hS, hsl, hM, hQ, hB, hz⟩ := hrel
    obtain ⟨A, c, hv, hqc, hqr⟩ := Kd.Q_reads hQ.out
    subst hv
    clear hqr
    cases q with
    | nil =>
      go_wp2
      go_ret
      exact ⟨⟨false, rfl, by simpa using hI.out.none⟩, hB.out⟩
    | cons at_ q =>
      obtain ⟨ad, rfl, hcell⟩ := q_head hQ.out
      have hqc' : q.length + 1 ≤ c := by simpa using hqc
      have hQ2 := Kd.Q_drop hQ.out (k := 1) (by simp)
      simp only [List.drop_succ_cons, List.drop_zero, List.length_cons, Nat.add_sub_cancel] at hQ2
      have hcut := fun W => cut_from (P := Try.prog) 33 3 .i64 Try.underlying33 hi0 1 hz1 (some ad) (q.length + 1) c 1 (by omega) (by omega) W
      simp only [Int.toNat_one, Nat.add_sub_cancel] at hcut
      have e1 : (Kd.int IntKind.i64).sz = 1 := rfl
      rw [e1] at hQ2
      generalize hv8 : (Value.slice (if c = 1 then some ad else Option.map (fun x => x.add (1 * 1)) (some ad)) q.length (c - 1)) = v8 at hcut hQ2
      clear hv8 e1
      have HQ2 := Lib.hid hQ2
      clear hQ2 hQ hqc
      have hI' := Lib.hid (hI.out.enter)
      clear hI
      have hm' : Hid (q.length + unseen (es l0) sn < gk - 1) := by have := hm.out; simp only [List.length_cons] at this; show _ < _; omega
      have hl9 : (l0.length : Int) ≤ 1000 := by omega
      go_wp2
      simp only [List.length_cons]
      obtain ⟨wo, rfl⟩ : ∃ wo : World, wo = wr := ⟨_, rfl⟩
      go_loopw [8, 25] (fun v8 v25 wr => ∃ (k : Nat) (q sn : List Int) (D : DataW Unit), v25 = .int .i64 (k : Int) ∧ k ≤ l0.length ∧ Hid (q.length + unseen (es l0) sn < gk - 1) ∧ Hid (InvI (es l0) a1 a2 at_ k q sn) ∧ Hid (Seen D sn) ∧ Hid (sn.length + unseen (es l0) sn ≤ l0.length) ∧
          Hid (wr.ownsMap Try.prog 3 (plainElem Try.prog 3) w.heap.size sn.length D) ∧ Hid (Kd.Q (Kd.int .i64) 3 wr w.heap.size (fun k => k ≠ w.heap.size) v8 q) ∧ Hid (Below w.heap.size w wr) ∧ Hid (w.heap.size < wr.heap.size))
        (fun _ i _ => l0.length - (intOf i).toNat)
      case atStart => exact ⟨0, q, sn, D, rfl, Nat.zero_le _, hm', hI', hS, hsl, hM, HQ2, hB, hz⟩
      case round =>
        clear hm' hI' hS hsl hM HQ2 hB hz hcell hcut hm hqc'
        obtain ⟨k, q, sn, D, rfl, hk, hm, hI, hS, hsl, hM, hQ, hB, hz⟩ := hrel
        by_cases hlt : k < l0.length
        · have hle : k < (es l0).length := by simpa [es] using hlt
          obtain ⟨ad0, e0, hx0, hx1⟩ := at_T43 HR.out k (by omega) (by omega)
          have hy0 := (hB.out.cell (World.block_lt_of_cell? w _ hx0)).trans hx0
          have hy1 := (hB.out.cell (World.block_lt_of_cell? w _ hx1)).trans hx1
          have hrd : Hid (rd_T43 l0 k = l0[k]) := by simp [Hid, rd_T43, List.getD_eq_getElem?_getD, List.getElem?_eq_getElem hlt]
          subst e0
          clear hx0 hx1
          have hwe := HWf.out l0[k] (List.getElem_mem hlt)
          have hee : Hid ((es l0)[k]? = some (l0[k].f0, l0[k].f1)) := by simp [Hid, es, hlt]
          rw [hrd.out, Int.toNat_natCast] at hy0 hy1
          generalize l0[k].f0 = x at hy0 hwe hee
          generalize l0[k].f1 = y at hy1 hwe hee
          obtain ⟨hwx, hwy⟩ := hwe
          have HWy := Lib.hid hwy
          clear hwx hwy
          have hB1 : Below w.heap.size w (wr.alloc (.cells #[.int .i64 x, .int .i64 y] 43)) := hB.out.alloc (Nat.le_of_lt hz.out) _
          have hM1 := hM.out.alloc (.cells #[.int .i64 x, .int .i64 y] 43)
          have hQ1 := Kd.Q_alloc hQ.out (.cells #[.int .i64 x, .int .i64 y] 43)
          have hz1' : w.heap.size < (wr.alloc (.cells #[.int .i64 x, .int .i64 y] 43)).heap.size := by have := hz.out; simp; omega
          have HB1 := Lib.hid hB1
          have HM1 := Lib.hid hM1
          have HQ1 := Lib.hid hQ1
          have HZ1 := Lib.hid hz1'
          clear hB1 hM1 hQ1 hz1'
          by_cases hxa : x = at_
          · subst hxa
            have hne : (x != x) = false := by simp
            obtain ⟨cc, hrun, hat, hwc⟩ := HM1.out.lookup_int lawK (t := 50) Try.underlying50 Try.underlying3 (zeroE _) (keyOf_int_mk Try.underlying3 HWy.out)
            by_cases hys : y ∈ sn
            · obtain rfl : cc = 1 := seen_yes hS.out HWy.out hys hat
              have Hys := Lib.hid hys
              clear hat hys hwc
              go_wp2
              go_roundw
              case rel => exact ⟨k + 1, q, sn, D, by go_num, by omega, hm, Lib.hid (hI.out.skip hle (.inr (by rw [get_of hle hee.out]; exact Hys.out))), hS, hsl, HM1, HQ1, HB1, HZ1⟩
              case measure => simp [intOf]; omega
            · obtain rfl : cc = 0 := seen_no hS.out HWy.out hys hat
              have Hys : Hid (y ∉ sn) := hys
              clear hat hys hwc
              by_cases hya : y = a2
              · subst hya
                have hyy : (y == y) = true := by simp
                go_wp2
                go_ret
                exact ⟨⟨true, rfl, by simp; exact hI.out.found hle (by rw [get_of hle hee.out]) (by rw [get_of hle hee.out])⟩, HB1.out⟩
              · have hyy : (y == a2) = false := by simpa using hya
                have Hya : Hid (y ≠ a2) := hya
                clear hya
                obtain ⟨w2, hrun2, hM2, hg2⟩ := HM1.out.update lawK (t := 50) Try.underlying50 (by have := hsl.out; unfold maxLen; omega) (keyOf_int_mk Try.underlying3 HWy.out) (plainElem_int (a := 1) Try.underlying3 (by decide))
                have hun := unseen_push hle (by rw [get_of hle hee.out]; exact Hys.out)
                rw [get_of hle hee.out] at hun
                have Hun : Hid (unseen (es l0) (y :: sn) + 1 ≤ unseen (es l0) sn) := hun
                clear hun
                have hS2 := Lib.hid (hS.out.put HM1.out.isMap HWy.out)
                have hQ2 := Kd.Q_grown HQ1.out hg2 (fun k hk e => hk (Option.some.inj e))
                have hB2 := HB1.out.grown hg2 (Nat.le_of_lt HZ1.out) (fun k e => by cases e; exact Nat.le_refl _)
                have hc2 : w2.cell? ⟨wr.heap.size, 1, none⟩ = some (.int .i64 y) := by
                  rw [hg2.cell_far _ (by simp) (by have := hz.out; intro e; simp at e; omega)]
                  simp
                have HM2 := Lib.hid hM2
                have HQ2 := Lib.hid hQ2
                have HB2 := Lib.hid hB2
                have HG2 := Lib.hid hg2
                have hlq : Hid ((q.length + 1) * 8 ≤ 140737488355328) := by have := hm.out; have := hg.out; show _ ≤ _; omega
                have HZ2 : Hid (w.heap.size < w2.heap.size) := Nat.lt_of_lt_of_le HZ1.out hg2.size
                clear hM2 hQ2 hB2 hg2
                go_wp2_with (at_builtin; go_loud (refine Kd.Q_append (Kd.int .i64) (w0 := w) (W := w2) w.heap.size rfl (.tmp 32) (.tmp 35) 33 3 (.int .i64 0) 8 rfl Try.underlying33 info3 rfl (by decide) (by decide) u8 q y [.int .i64 y] (fun k => k ≠ w.heap.size) (fun _ => False) rfl rfl rfl (fun _ h => h.elim) (fun k hk e => by have := HZ2.out; omega) HQ2.out HB2.out (by have := HB2.out.size; omega) hlq.out ?_); intro v3 w3 hQ3 hB3 hg3 hat3)
                have hne8 : some w.heap.size ≠ u8.ownBlock := fun e => (HQ2.out.1 _ e.symm) rfl
                have HM3 := Lib.hid (HM2.out.kept hg3 hne8)
                have HQ3 := Lib.hid hQ3
                have HB3 := Lib.hid hB3
                have HZ3 : Hid (w.heap.size < w3.heap.size) := Nat.lt_of_lt_of_le HZ2.out hg3.size
                clear hQ3 hB3 hg3 hat3 hne8
                go_wp2
                go_roundw
                case rel =>
                  have hp := hI.out.push hle (by rw [get_of hle hee.out]) (by rw [get_of hle hee.out]; exact Hya.out)
                  rw [get_of hle hee.out] at hp
                  refine ⟨k + 1, q ++ [y], y :: sn, _, by go_num, by omega, ?_, Lib.hid hp, hS2, ?_, HM3, HQ3, HB3, HZ3⟩
                  · have h1 := hm.out; have h2 := Hun.out; simp only [List.length_append, List.length_singleton]; show _ < _; omega
                  · have h1 := hsl.out; have h2 := Hun.out; simp only [List.length_cons]; show _ ≤ _; omega
                case measure => simp [intOf]; omega
          · have hne : (x != at_) = true := by simpa using hxa
            go_wp2
            go_roundw
            case rel => exact ⟨k + 1, q, sn, D, by go_num, by omega, hm, Lib.hid (hI.out.skip hle (.inl (by rw [get_of hle hee.out]; exact hxa))), hS, hsl, HM1, HQ1, HB1, HZ1⟩
            case measure => simp [intOf]; omega
        · have hk' : k = l0.length := by omega
          have hfin : Hid (Inv (es l0) a1 a2 q sn) := by
            have := hI.out
            rw [hk', show l0.length = (es l0).length by simp [es]] at this
            exact this.leave
          clear hk'
          go_wp2
          go_roundg (gk - 1)
          case rel => exact ⟨q, sn, D, hm, by have := hg.out; show _ ≤ _; omega, hfin, hS, hsl, hM, hQ, hB, hz⟩
          case measure => have := hm.out; omega
theorem heap_grow (w : World) (os : Array Obj) (k : Nat) (h : k < w.heap.size) : (Go.Sort.grow w os).heap[k]? = w.heap[k]? := by
  simp [Go.Sort.grow, Array.getElem?_append, h]
theorem below_grow {B : Nat} {w0 w : World} (h : Below B w0 w) (hB : B ≤ w.heap.size) (os : Array Obj) : Below B w0 (Go.Sort.grow w os) :=
  h.trans ⟨rfl, rfl, rfl, by simp [Go.Sort.grow], fun k hk => heap_grow w os k (by omega)⟩
theorem own_grow {w : World} {base : Nat} {e : TypeId} {size n : Nat} {v : Value} {xs : List Value} (h : w.ownsRow base e size v n xs) (os : Array Obj) : (Go.Sort.grow w os).ownsRow base e size v n xs :=
  own_move h (fun k hk => heap_grow w os k (own_lt h k hk))
theorem size_putRow {α : Type} [Inhabited α] (enc : α → Value) (w : World) (q g : Nat) (d : Array α) : (Go.Sort.putRow enc (Go.Sort.ahead w q) g 0 d).heap.size = w.heap.size := by
  simp [Go.Sort.putRow, Go.Sort.mapBlock, Go.Sort.ahead]
/-- A row of whole numbers, as the print tells it. -/
theorem R_ints {w : World} {base : Nat} {v : Value} {xs : List Int} (h : w.ownsRow base 3 1 v xs.length (xs.map (Value.int .i64))) : Kd.R (Kd.int .i64) 3 w base (fun _ => True) v xs := by
  refine ⟨fun _ _ => trivial, xs.map (Value.int .i64), h, by simp [Kd.int, Kd.scalar], fun j p hj => ?_⟩
  show ((xs.map (Value.int .i64)).drop (j * 1)).take 1 = [.int .i64 p]
  rw [Nat.mul_one]
  obtain ⟨hl, rfl⟩ := List.getElem?_eq_some_iff.1 hj
  rw [List.drop_eq_getElem_cons (by simpa using hl)]
  simp
open Classical in
/-- Of the first k edges, those whose beginning reaches itself: the beginnings. -/
noncomputable def picked (l : List S43) (k : Nat) : List Int := ((l.take k).filter fun e => decide (Leads (es l) e.f0 e.f0)).map (·.f0)
noncomputable def rings (l : List S43) : List Int := Lib.compact ((picked l l.length).mergeSort fun x y => decide (x ≤ y))
theorem picked_len (l : List S43) (k : Nat) : (picked l k).length ≤ k := by
  unfold picked
  rw [List.length_map]
  exact Nat.le_trans (List.length_filter_le _ _) (by rw [List.length_take]; exact Nat.min_le_left _ _)
theorem picked_yes {l : List S43} {k : Nat} (hk : k < l.length) (h : Leads (es l) l[k].f0 l[k].f0) : picked l (k + 1) = picked l k ++ [l[k].f0] := by
  unfold picked
  rw [List.take_succ_eq_append_getElem hk, List.filter_append, List.map_append]
  simp [h]
theorem picked_no {l : List S43} {k : Nat} (hk : k < l.length) (h : ¬ Leads (es l) l[k].f0 l[k].f0) : picked l (k + 1) = picked l k := by
  unfold picked
  rw [List.take_succ_eq_append_getElem hk, List.filter_append, List.map_append]
  simp [h]
theorem sort_row (g cap : Nat) (zs : List Int) (w : World) (base : Nat) (h : w.ownsRow base 3 1 (.slice (some ⟨g, 0, none⟩) zs.length cap) zs.length (zs.map (Value.int .i64))) (hb : base ≤ g) (hl : zs.length ≤ 1000) :
    Calls Try.prog 20 #[.slice (some ⟨g, 0, none⟩) zs.length cap] w fun e w' => e = .returned (.tuple #[]) ∧ w'.ownsRow base 3 1 (.slice (some ⟨g, 0, none⟩) zs.length cap) zs.length ((zs.mergeSort fun x y => decide (x ≤ y)).map (Value.int .i64)) ∧ Below base w w' := by
  obtain ⟨g', cap', hv, _, hlt, _, _, _, hH⟩ := Lib.holds_of_ownsRow h (by simp)
  injection hv with hv1 _ _
  injection hv1 with hv1
  injection hv1 with hg' _ _
  subst hg'
  refine (Try.slices_Sort_int g 0 cap zs w hH hlt (by omega)).mono ?_
  rintro e w' ⟨rfl, n, os, rfl⟩
  have hs : (zs.mergeSort fun x y => decide (x ≤ y)).length = zs.length := List.length_mergeSort _
  have h2 := Lib.ownsRow_putRow (q := n) (k := zs.length) (ys := zs.mergeSort fun x y => decide (x ≤ y)) h hs (Nat.le_refl _)
  rw [← hs, List.take_length, hs] at h2
  have hz := own_lt h g (by simp [Value.ownBlock])
  exact ⟨rfl, own_grow h2 os, below_grow (Lib.below_putRow (Below.refl base w) hb) (by rw [size_putRow]; omega) os⟩
theorem compact_row (g cap : Nat) (zs : List Int) (w : World) (base : Nat) (h : w.ownsRow base 3 1 (.slice (some ⟨g, 0, none⟩) zs.length cap) zs.length (zs.map (Value.int .i64))) (hb : base ≤ g) (hl : zs.length ≤ 1000) (hc : zs.length ≤ cap) :
    Calls Try.prog 21 #[.slice (some ⟨g, 0, none⟩) zs.length cap] w fun e w' => ∃ v, e = .returned v ∧ w'.ownsRow base 3 1 v (Lib.compact zs).length ((Lib.compact zs).map (Value.int .i64)) ∧ Below base w w' := by
  obtain ⟨g', cap', hv, _, hlt, _, _, _, hH⟩ := Lib.holds_of_ownsRow h (by simp)
  injection hv with hv1 _ _
  injection hv1 with hv1
  injection hv1 with hg' _ _
  subst hg'
  refine (Try.slices_Compact_int g 0 cap zs w hH (by omega) hc).mono ?_
  rintro e w' ⟨rfl, q, rfl⟩
  have hk := Lib.compact_length_le zs
  have hys : (Lib.compact zs ++ List.replicate (zs.length - (Lib.compact zs).length) 0).length = zs.length := by rw [List.length_append, List.length_replicate]; omega
  have h2 := Lib.ownsRow_putRow (q := q) (k := (Lib.compact zs).length) (ys := Lib.compact zs ++ List.replicate (zs.length - (Lib.compact zs).length) 0) h hys hk
  rw [List.take_left] at h2
  exact ⟨_, rfl, h2, Lib.below_putRow (Below.refl base w) hb⟩
set_option maxHeartbeats 1000000 in
theorem rings_walk (A0 : Option Addr) (c0 : Nat) (l0 : List S43) (w : World) (hr0 : Kd.C k43 w A0 l0.length l0) (hc0 : l0.length ≤ c0) (hwf : Wf l0) (hlen : l0.length ≤ 1000) :
    Calls Try.prog 13 #[.slice A0 l0.length c0] w fun e w' => ∃ v0_ : Value, e = .returned v0_ ∧ Kd.R (Kd.int .i64) 3 w' w.heap.size (fun _ => True) v0_ (rings l0) ∧ Below w.heap.size w w' := by
  have HR := Lib.hid hr0
  have HWf := Lib.hid hwf
  clear hr0 hwf
  go_enter Try.func13, Try.ntmps13
  go_wp2
  go_loopw [3, 8] (fun v3 i wr => ∃ (k : Nat), i = .int .i64 (k : Int) ∧ k ≤ l0.length ∧ Hid (Kd.R (Kd.int .i64) 3 wr w.heap.size (fun _ => True) v3 (picked l0 k)) ∧ Hid (Below w.heap.size w wr))
    (fun _ i _ => l0.length - (intOf i).toNat)
  case atStart => exact ⟨0, rfl, Nat.zero_le _, by simp only [picked, List.take_zero, List.filter_nil, List.map_nil]; exact Kd.R_nil _ _ _ _ _, Below.refl _ _⟩
  case round =>
    obtain ⟨k, rfl, hk, hR, hB⟩ := hrel
    have hl9 : (l0.length : Int) ≤ 1000 := by omega
    by_cases hlt : k < l0.length
    · obtain ⟨ad0, e0, hx0, hx1⟩ := at_T43 HR.out k (by omega) (by omega)
      have hy0 := (hB.out.cell (World.block_lt_of_cell? w _ hx0)).trans hx0
      have hy1 := (hB.out.cell (World.block_lt_of_cell? w _ hx1)).trans hx1
      have hrd : Hid (rd_T43 l0 k = l0[k]) := by simp [Hid, rd_T43, List.getD_eq_getElem?_getD, List.getElem?_eq_getElem hlt]
      subst e0
      clear hx0 hx1
      rw [hrd.out, Int.toNat_natCast] at hy0 hy1
      obtain ⟨x, hx⟩ : ∃ x, Hid (l0[k].f0 = x) := ⟨_, Lib.hid rfl⟩
      obtain ⟨y, hy⟩ : ∃ y, Hid (l0[k].f1 = y) := ⟨_, Lib.hid rfl⟩
      rw [hx.out] at hy0
      rw [hy.out] at hy1
      have hB1 : Hid (Below w.heap.size w (wr.alloc (.cells #[.int .i64 x, .int .i64 y] 43))) := hB.out.alloc hB.out.size _
      have hR1 : Hid (Kd.R (Kd.int .i64) 3 (wr.alloc (.cells #[.int .i64 x, .int .i64 y] 43)) w.heap.size (fun _ => True) u3 (picked l0 k)) := Kd.R_alloc hR.out _
      have hq : Hid (Kd.C k43 (wr.alloc (.cells #[.int .i64 x, .int .i64 y] 43)) (some ad0) l0.length l0) := Kd.C_below HR.out hB1.out
      go_wp2_with fail
      refine (reaches_walk _ _ l0 x x _ hq.out hc0 HWf.out hlen).mono ?_
      rintro e w1 ⟨⟨b, rfl, hb⟩, hb1⟩
      have hc2 : w1.cell? ⟨wr.heap.size, 0, none⟩ = some (.int .i64 x) := by
        rw [hb1.cell (p := ⟨wr.heap.size, 0, none⟩) (by simp)]
        simp
      have HB2 : Hid (Below w.heap.size w w1) := hB1.out.trans (hb1.mono hB1.out.size)
      have HR2 : Hid (Kd.R (Kd.int .i64) 3 w1 w.heap.size (fun _ => True) u3 (picked l0 k)) := Kd.R_below hR1.out hb1
      have Hb := Lib.hid hb
      clear hb hb1 hq hy0 hy1 hB1 hR1
      have hlp : Hid ((picked l0 k).length + 1 ≤ 1001) := by have := picked_len l0 k; show _ ≤ _; omega
      cases b with
      | true =>
        have hp : Hid (picked l0 (k + 1) = picked l0 k ++ [x]) := by
          have h := picked_yes hlt (by rw [hx.out]; exact Hb.out.1 rfl)
          rw [hx.out] at h
          exact h
        go_wp2_with (at_builtin; refine Kd.R_append (Kd.int .i64) (w0 := w) (W := w1) w.heap.size rfl (.tmp 18) (.tmp 21) 33 3 (.int .i64 0) 8 rfl Try.underlying33 info3 rfl (by decide) (by decide) u3 (picked l0 k) x [.int .i64 x] (fun _ => True) (fun _ => False) rfl rfl rfl (fun _ h => h.elim) (fun _ _ => trivial) HR2.out HB2.out HB2.out.size (by have := hlp.out; omega) ?_; intro v3 w3 hR3 hB3 hg3 hat3)
        have HR3 := Lib.hid hR3
        have HB3 := Lib.hid hB3
        clear hR3 hB3 hg3 hat3
        go_wp2
        go_roundw
        case rel => exact ⟨k + 1, by go_num, by omega, by rw [hp.out]; exact HR3, HB3⟩
        case measure => simp [intOf]; omega
      | false =>
        have hp : Hid (picked l0 (k + 1) = picked l0 k) := picked_no hlt (by rw [hx.out]; exact fun h => Bool.false_ne_true (Hb.out.2 h))
        go_wp2
        go_roundw
        case rel => exact ⟨k + 1, by go_num, by omega, by rw [hp.out]; exact HR2, HB2⟩
        case measure => simp [intOf]; omega
    · have hk' : k = l0.length := by omega
      rw [hk'] at hR
      clear hk'
      have hown := Kd.own_of_R hR.out
      have hpl := picked_len l0 l0.length
      have hri : Hid (Lib.compact ((picked l0 l0.length).mergeSort fun x y => decide (x ≤ y)) = rings l0) := Lib.hid rfl
      generalize picked l0 l0.length = zs at hown hpl hri
      rcases hown.2 with ⟨hv, h0⟩ | ⟨g, cap, cur, hv, hb, hh, hnc, hcm, hcs, ht⟩
      · have hz0 : zs = [] := List.eq_nil_of_length_eq_zero h0
        have hr0 : Hid (rings l0 = []) := by
          rw [← hri.out, hz0]
          show Lib.compact (List.mergeSort [] _) = []
          rw [List.mergeSort_nil]
          exact List.eq_nil_of_length_eq_zero (Nat.le_zero.1 (Lib.compact_length_le ([] : List Int)))
        subst hv
        clear hown hpl hri h0 hz0 hR
        go_wp2_with (first | (go_at_call 20; refine (Try.slices_Sort_int_none _ _ _).mono ?_; rintro e w1 ⟨rfl, rfl⟩) | (go_at_call 21; refine (Try.slices_Compact_int_empty _ _ _).mono ?_; rintro e w1 ⟨rfl, rfl⟩))
        go_ret
        exact ⟨_, rfl, by rw [hr0.out]; exact Kd.R_nil _ _ _ _ _, hB.out⟩
      · subst hv
        have Hown := Lib.hid hown
        have hl1 : zs.length ≤ 1000 := by omega
        clear hown hR hh hcm hcs ht
        go_wp2_with fail
        refine (sort_row g cap zs wr w.heap.size Hown.out hb hl1).mono ?_
        rintro e w1 ⟨rfl, hown1, hb1⟩
        have Hown1 := Lib.hid hown1
        have HB1 : Hid (Below w.heap.size w w1) := hB.out.trans hb1
        clear hown1 hb1
        have hlm : (zs.mergeSort fun x y => decide (x ≤ y)).length = zs.length := List.length_mergeSort _
        have hc := compact_row g cap (zs.mergeSort fun x y => decide (x ≤ y)) w1 w.heap.size (by rw [hlm]; exact Hown1.out) hb (by omega) (by omega)
        rw [hlm] at hc
        have HC := Lib.hid hc
        clear hc hlm
        go_wp2_with fail
        refine HC.out.mono ?_
        rintro e w2 ⟨v, rfl, hown2, hb2⟩
        go_wp2
        go_ret
        exact ⟨_, rfl, by rw [← hri.out]; exact R_ints hown2, HB1.out.trans hb2⟩
end Go.Proofs.Ytjaghgelmlcplaa.Hand
