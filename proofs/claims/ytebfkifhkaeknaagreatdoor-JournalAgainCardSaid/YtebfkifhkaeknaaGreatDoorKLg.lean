import Derived.Test.YtebfkifhkaeknaaGreatDoorQC
import Derived.Laws.AppendOwnNone
import Derived.Test.YtebfkifhkaeknaaGreatDoorWGuard
import Derived.Test.YtebfkifhkaeknaaGreatDoorKMr
/- JournalAgain, plain; rows made of others. -/
namespace Go.Proofs.YtebfkifhkaeknaaGreatDoor.Fr
open Go.RowKit Go.Proofs.YtebfkifhkaeknaaGreatDoor.F Go.Proofs.YtebfkifhkaeknaaGreatDoorW.PrintWords
open Go.Proofs.YtebfkifhkaeknaaGreatDoor.Hand (putV takeV scanV)
open Go.Proofs.YtebfkifhkaeknaaGreatDoor.PureL (cat cat_app cat_behind cat_size)
set_option linter.unusedVariables false
set_option linter.unusedSimpArgs false
theorem Jn.add {R : Nat} {N : List ByteArray} {n u : Nat} {T : TS} (hN : NS N) (h : Jn R N n u T) {q : ByteArray} (hq : q ∈ N) (hb : besN q ∈ N) {l : List ByteArray} (hl : (putV l).2 = 0) {b : Nat} (hs : (putV l).1.size ≤ b) (hu : u + b ≤ R) :
    addE T q l = 0 ∧ Jn R N (n + 1) (u + b) (addT T q l) ∧ textF (addT T q l).l q = textF T.l q ++ (putV l).1 ∧ ∀ p, p ≠ q → findF (addT T q l).l p = findF T.l p := by
  obtain ⟨a1, a2, a3, a4, a5⟩ := h.append hN (q := q) (s := (putV l).1) hq (by omega)
  have e1 : addE T q l = 0 := by
    unfold addE
    rw [hN.path _ hb, if_neg (by decide), if_pos hl, a1]
  have e2 : addT T q l = writeT T true q (putV l).1 := by
    unfold addT
    rw [hN.path _ hb, if_neg (by decide), if_pos hl]
  rw [e2]
  exact ⟨e1, a2.mono (Nat.le_refl _) (by omega), a3, fun p hp => (a4 p hp).2⟩
theorem J1.add_any {R : Nat} {N : List ByteArray} {q : ByteArray} {n u : Nat} {T : TS} {xs ys : List (List ByteArray)} (hN : NS N) (h : J1 R N q n u T xs ys) (hq : q ∈ N) (hb : besN q ∈ N) (l : List ByteArray) (hu : u + 13000 ≤ R) :
    ∃ ys', J1 R N q (n + 1) (u + 13000) (addT T q l) xs ys' := by
  by_cases hl : (putV l).2 = 0
  · exact ⟨_, (h.add hN hq hb hl (lineL_le hl) hu).2⟩
  · rw [(add_bad (hN.path _ hb) hl).2]
    exact ⟨ys, h.mono (Nat.le_succ _) (Nat.le_add_right _ _)⟩
/-- All that JournalAgain asks. -/
structure AgOK (n : Nat) (T T1 T2 T3 T4 : TS) (x : List (List ByteArray)) (s : ByteArray) : Prop where
  i0 : Inv n T
  i1 : Inv n T1
  i2 : Inv n T2
  i3 : Inv n T3
  i4 : Inv n T4
  r1 : T1.room ≤ 2000000
  r2 : T2.room ≤ 2000000
  e1 : openE T1 logB = 0
  l1 : openL T1 logB = x
  e2 : openE T2 logB = 0
  l2 : openL T2 logB = x
  rd : (readT T3 logB).1 = s
  an : anewE T3 logB x = 0
  rd4 : (readT T4 logB).1 = s
  nil : x.length < 1 → s.size = 0
  all : AllOK x
  many : x.length ≤ 100000000
  len : ∀ y ∈ x, y.length ≤ 40
  add : ∀ one, (putV one).2 = 0 → addE T4 logB one = 0 ∧ readL (addT T4 logB one) logB = x ++ [one] ∧ readW (addT T4 logB one) logB = true ∧ Inv (n + 1) (addT T4 logB one) ∧ (addT T4 logB one).room ≤ 2000000
theorem again_law {n u : Nat} {T : TS} {ys : List (List ByteArray)} (h : J1 1048576 logN logB n u T [] ys) (hu : u ≤ 260000) (tail : ByteArray) (ht : tail.size ≤ 200) :
    ∃ x s, AgOK (n + 20) T (writeT T true logB tail) (openT (writeT T true logB tail) logB) (openT (openT (writeT T true logB tail) logB) logB) (anewT (openT (openT (writeT T true logB tail) logB) logB) logB x) x s := by
  obtain ⟨a1, a2, a3, a4, -⟩ := h.jl.jn.append ns_log (q := logB) (s := tail) log_mem (by omega)
  obtain ⟨r, hd⟩ := scan_dec (textF (writeT T true logB tail).l logB)
  generalize (scanV (textF (writeT T true logB tail).l logB)).1 = x at hd
  generalize writeT T true logB tail = T1 at a2 a3 a4 hd ⊢
  obtain ⟨b1, b2, b3, b3', b4, b5, b6, b7, b8⟩ := open_dec ns_log a2 log_mem lgn_mem lgn_ne hd (fun _ => by omega)
  have hcs : (cat x e0).size ≤ u + tail.size := by
    have h1 := hd.size
    have h2 := had_le T1.l logB
    have h3 := a2.used
    omega
  have hx := hd.ok
  clear hd b3'
  generalize openT T1 logB = T2 at b3 b4 b5 b6 b7 b8 ⊢
  have hd2 : Dec (textF T2.l logB) x e0 := by rw [b4]; exact dec_cat hx
  obtain ⟨c1, c2, c3', c3, c4, c5, c6, c7, c8⟩ := open_dec ns_log b3 log_mem lgn_mem lgn_ne hd2 (fun e => absurd rfl e)
  have c3 := c3 rfl
  generalize openT T2 logB = T3 at c3 c4 c5 c6 c7 c8 ⊢
  obtain ⟨d1, d2, d3, d4, d5, d6, d7⟩ := anew_ok ns_log c3 log_mem lgn_mem lgn_ne hx (b := u + tail.size) hcs (by omega)
  refine ⟨x, cat x e0, ?_⟩
  generalize anewT T3 logB x = T4 at d2 d3 d4 d5 d6 d7 ⊢
  have hls := lines_len hx
  have hxl : x.length ≤ 10000000 := by
    have h0 : ∀ xs : List (List ByteArray), Lines xs → 9 * xs.length ≤ (cat xs e0).size := by
      intro xs
      induction xs with
      | nil => intro _; exact Nat.zero_le _
      | cons y t ih =>
        intro hl
        have h1 := ih fun z hz => hl z (List.mem_cons_of_mem _ hz)
        have h2 := hl y (List.mem_cons_self ..)
        have h3 := PureL.putV_size h2
        have h4 := PureL.line_len y
        show _ ≤ ((putV y).1 ++ cat t e0).size
        rw [ByteArray.size_append, List.length_cons]
        omega
    have := h0 x hx
    omega
  refine ⟨h.inv.mono (by omega), a2.inv.mono (by omega), b3.inv.mono (by omega), c3.inv.mono (by omega), d2.inv.mono (by omega), (by rw [a2.room]; decide), (by rw [b3.room]; decide), b1, b2, c1, c2, (by rw [read_text, c4]), d1, (by rw [read_text, d3]), fun hn => ?_, ⟨fun l hl y hy => Nat.le_trans (word_le (hx l hl) y hy) (by decide), fun k hk => ?_, hxl⟩, by omega, hls, fun one ho => ?_⟩
  · have : x = [] := List.length_eq_zero_iff.1 (by omega)
    rw [this]
    rfl
  · have h2 : Lines (x.take k) := fun l hl => hx l (List.mem_of_mem_take hl)
    rw [putAll_ok h2]
    have e : x = x.take k ++ x.drop k := (List.take_append_drop k _).symm
    have h6 : (cat x e0).size = (cat (x.take k) e0).size + (cat (x.drop k) e0).size := by
      conv => lhs; rw [e, cat_app]
      exact cat_size _ _
    show (cat _ e0).size ≤ _
    omega
  · obtain ⟨f1, f2, f3, -⟩ := d2.add ns_log log_mem lgn_mem ho (lineL_le ho) (by omega)
    rw [d3, ← cat_snoc] at f3
    have hxo : Lines (x ++ [one]) := fun l hl => (List.mem_append.1 hl).elim (hx l) fun hl => by rw [List.mem_singleton.1 hl]; exact ho
    obtain ⟨g1, g2⟩ := read_cat hxo f3
    exact ⟨f1, g1, g2, f2.inv.mono (by omega), by rw [f2.room]; decide⟩
theorem tiny_lit {W : World} {A : Option Addr} {c : Nat} {l : List ByteArray} (h : Kd.C Kd.string W A l.length l) (hc : l.length ≤ c) :
    Calls Tryz.prog 9 #[.slice (some ⟨W.heap.size, 0, none⟩) 1 1] (W.alloc (.cells #[.slice A l.length c] 33)) fun e w' => ∃ b, e = .returned (.bool b) ∧ (b = true → TinyP l) ∧ Below W.heap.size W w' := by
  have h2 := C_lit2 W h hc
  refine (tiny_call (a := [l]) h2 (Nat.le_refl 1)).mono ?_
  rintro e w' ⟨b, rfl, ht, hb⟩
  exact ⟨b, rfl, fun hb => (ht hb).2 l (List.mem_singleton.2 rfl), (newBelow W _).trans (hb.mono (by rw [World.size_alloc]; omega))⟩
theorem own_empty (W : World) : (W.alloc (.cells #[] 33)).ownsRow W.heap.size 33 1 (.slice (some ⟨W.heap.size, 0, none⟩) 0 0) 0 [] := ⟨rfl, .inr ⟨W.heap.size, 0, #[], rfl, Nat.le_refl _, World.alloc_heap_new W _, Nat.le_refl _, by unfold maxLen; omega, rfl, rfl⟩⟩
/-- The cells of a row that is read. -/
def RowCells (W : World) (g : Nat) (xs : List (List ByteArray)) (cs : List Value) : Prop :=
  cs.length = xs.length ∧ (∀ (j : Nat) u, cs[j]? = some u → W.cell? ((⟨g, 0, none⟩ : Addr).add j) = some u) ∧ (∀ u ∈ cs, u.oneCell' = true) ∧ ∀ (j : Nat) (x : List ByteArray), xs[j]? = some x → ∃ A' c', cs[j]? = some (.slice A' x.length c') ∧ x.length ≤ c' ∧ Kd.C Kd.string W A' x.length x
theorem S_cells {W : World} {b : Nat} {ok : Nat → Prop} {A : Option Addr} {n c : Nat} {xs : List (List ByteArray)} (h : Kd.S kLL 33 W b ok (.slice A n c) xs) : (A = none ∧ c = 0 ∧ xs = []) ∨ ∃ g cs, A = some ⟨g, 0, none⟩ ∧ RowCells W g xs cs := by
  obtain ⟨-, cs, hrow, hrep⟩ := Kd.S_R h
  have hl : cs.length = xs.length := by have := hrep.1; rw [this]; exact Nat.mul_one _
  rcases hrow.2 with ⟨e, e2⟩ | ⟨g, cap, cur, e, _⟩
  · cases e
    exact .inl ⟨rfl, rfl, List.length_eq_zero_iff.1 e2⟩
  · cases e
    have hel : ∀ (j : Nat) (x : List ByteArray), xs[j]? = some x → ∃ A' c', cs[j]? = some (.slice A' x.length c') ∧ x.length ≤ c' ∧ Kd.C Kd.string W A' x.length x := fun j x hj => by
      obtain ⟨v, hv, hr⟩ := hrep.2 j x hj
      obtain ⟨A', c', rfl, h1, h2⟩ := Kd.R_reads hr
      refine ⟨A', c', ?_, h1, h2⟩
      have hjl : j < cs.length := by rw [hl]; exact (List.getElem?_eq_some_iff.1 hj).1
      have h0 : j * kLL.sz = j := Nat.mul_one j
      rw [h0, List.drop_eq_getElem_cons hjl] at hv
      have hv : [cs[j]] = [Value.slice A' x.length c'] := hv
      rw [List.getElem?_eq_getElem hjl]
      exact congrArg some (List.cons.inj hv).1
    refine .inr ⟨g, cs, rfl, hl, fun j u hu => ?_, fun u hu => ?_, hel⟩
    · have hj : j < xs.length := by rw [← hl]; exact (List.getElem?_eq_some_iff.1 hu).1
      have := hrow.cellAt j (by show j < xs.length * 1; omega)
      rw [hu] at this
      rw [add_plain]
      simpa using this
    · obtain ⟨j, hj, rfl⟩ := List.getElem_of_mem hu
      obtain ⟨A', c', e, -, -⟩ := hel j _ (List.getElem?_eq_getElem (by rw [← hl]; exact hj))
      rw [List.getElem?_eq_getElem hj] at e
      rw [Option.some.inj e]
      rfl
theorem row_reads {W : World} {base : Nat} {v : Value} {zs : List (List ByteArray)} {cells : List Value} (hrow : W.ownsRow base 33 1 v zs.length cells) (hlen : cells.length = zs.length)
    (hel : ∀ (j : Nat) (x : List ByteArray), zs[j]? = some x → ∃ A c, cells[j]? = some (Value.slice A x.length c) ∧ x.length ≤ c ∧ Kd.C Kd.string W A x.length x) : ∃ A c, v = .slice A zs.length c ∧ zs.length ≤ c ∧ Kd.C kLL W A zs.length zs := by
  have hR : OwnRow (kLL.K W) 33 1 W base v zs := by
    refine ⟨cells, hrow, by rw [hlen, Nat.mul_one], fun j x hj => ?_⟩
    obtain ⟨A, c, h1, h2, h3⟩ := hel j x hj
    refine ⟨A, c, ?_, h2, h3⟩
    rw [Nat.mul_one]
    obtain ⟨hlt, hget⟩ := List.getElem?_eq_some_iff.1 h1
    rw [List.drop_eq_getElem_cons hlt, hget]
    rfl
  obtain ⟨A, c, h1, h2, h3⟩ := hR.reads
  exact ⟨A, c, h1, h2, h3⟩
theorem cell_old {W W' : World} {a : Addr} {v : Value} (h : W.cell? a = some v) (hb : Below W.heap.size W W') : W'.cell? a = some v := (hb.cell (cell_lt h)).trans h
theorem again_b1 {w2 w8 : World} (h2 : (w2.alloc (.cells #[] 33)).grownBy w8 (Value.slice (some ⟨w2.heap.size, 0, none⟩) 0 0).ownBlock) : Below w2.heap.size w2 w8 :=
  (newBelow w2 _).grown h2 (by rw [World.size_alloc]; omega) fun k hk => by
    have hk : w2.heap.size = k := by simpa [Value.ownBlock] using hk
    omega
theorem again_v1 {w2 : World} {v8 : Value} (h4 : v8.ownBlock = (Value.slice (some ⟨w2.heap.size, 0, none⟩) 0 0).ownBlock ∨ v8.ownBlock = some (w2.alloc (.cells #[] 33)).heap.size) : ∀ k, v8.ownBlock = some k → w2.heap.size ≤ k := fun k hk => by
  rcases h4 with h4 | h4
  · rw [h4] at hk
    have hk : w2.heap.size = k := by simpa [Value.ownBlock] using hk
    omega
  · rw [h4, World.size_alloc] at hk
    have hk : w2.heap.size + 1 = k := by simpa using hk
    omega
theorem own_alloc {W : World} {base n : Nat} {v : Value} {xs : List Value} (h : W.ownsRow base 33 1 v n xs) (o : Obj) : (W.alloc o).ownsRow base 33 1 v n xs := pw_own_below h (newBelow W o)
theorem again_b2 {w2 w8 w9 : World} {u v8 : Value} (hB : Below w2.heap.size w2 w8) (hv : ∀ k, v8.ownBlock = some k → w2.heap.size ≤ k) (h2 : (w8.alloc (.cells #[u] 33)).grownBy w9 v8.ownBlock) : Below w2.heap.size w2 w9 :=
  (hB.alloc hB.size _).grown h2 (by rw [World.size_alloc]; have := hB.size; omega) hv
theorem again_row0 {w2 w9 : World} {base : Nat} {v9 : Value} {x z : List (List ByteArray)} {one : List ByteArray} {cells : List Value} {C : Option Addr} {d : Nat} (hz : x ++ [one] = z) (hlen : cells.length = x.length)
    (hel : ∀ (j : Nat) (y : List ByteArray), x[j]? = some y → ∃ A' c', cells[j]? = some (Value.slice A' y.length c') ∧ y.length ≤ c' ∧ Kd.C Kd.string w2 A' y.length y) (hC : Kd.C Kd.string w2 C one.length one) (hd : one.length ≤ d)
    (hB : Below w2.heap.size w2 w9) (h1 : w9.ownsRow base 33 1 v9 (x.length + 1) (cells ++ [.slice C one.length d])) : ∃ A c, v9 = .slice A z.length c ∧ z.length ≤ c ∧ Kd.C kLL w9 A z.length z := by
  subst hz
  refine row_reads (base := base) (cells := cells ++ [.slice C one.length d]) ?_ ?_ ?_
  · rw [List.length_append]
    exact h1
  · rw [List.length_append, List.length_append, hlen]
    rfl
  · intro j y hy
    by_cases hj : j < x.length
    · rw [List.getElem?_append_left hj] at hy
      obtain ⟨A', c', e1, e2, e3⟩ := hel j y hy
      exact ⟨A', c', by rw [List.getElem?_append_left (by rw [hlen]; exact hj)]; exact e1, e2, Kd.C_below e3 hB⟩
    · have hjx : j = x.length := by
        have := (List.getElem?_eq_some_iff.1 hy).1
        rw [List.length_append, List.length_singleton] at this
        omega
      subst hjx
      rw [List.getElem?_append_right (Nat.le_refl _), Nat.sub_self] at hy
      have hy : one = y := by simpa using hy
      subst hy
      exact ⟨C, d, by rw [List.getElem?_append_right (by rw [hlen]; exact Nat.le_refl _), hlen, Nat.sub_self]; rfl, hd, Kd.C_below hC hB⟩
theorem again_row {w2 w9 : World} {base gx : Nat} {v9 : Value} {x z : List (List ByteArray)} {one : List ByteArray} {csx : List Value} {C : Option Addr} {d : Nat} (hz : x ++ [one] = z) (hcx : RowCells w2 gx x csx) (hC : Kd.C Kd.string w2 C one.length one) (hd : one.length ≤ d)
    (hB : Below w2.heap.size w2 w9) (h1 : w9.ownsRow base 33 1 v9 (0 + x.length + 1) (([] ++ csx) ++ [.slice C one.length d])) : ∃ A c, v9 = .slice A z.length c ∧ z.length ≤ c ∧ Kd.C kLL w9 A z.length z := by
  rw [Nat.zero_add, List.nil_append] at h1
  exact again_row0 hz hcx.1 hcx.2.2.2 hC hd hB h1
end Go.Proofs.YtebfkifhkaeknaaGreatDoor.Fr
