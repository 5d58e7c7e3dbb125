import Derived.Test.YtgdanenhbjfhaaaGreatDoorQ34
/- Several texts of this session in one: the walks of the functions that the laws reach, and what they tell. -/
/- Journals that are added to, synced, opened, plain. -/
namespace Go.Proofs.YtgdanenhbjfhaaaGreatDoor.Fr
open Go.RowKit Go.Proofs.YtgdanenhbjfhaaaGreatDoor.F Go.Proofs.YtgdanenhbjfhaaaGreatDoorW.PrintWords
open Go.Proofs.YtgdanenhbjfhaaaGreatDoor.Hand (putV takeV scanV)
open Go.Proofs.YtgdanenhbjfhaaaGreatDoor.PureL (cat cat_app cat_behind cat_size)
set_option linter.unusedVariables false
set_option linter.unusedSimpArgs false
/-- X: what the journals had at the last sync; ys: what was added since. -/
structure Jl (R : Nat) (N : List ByteArray) (n u : Nat) (T : TS) (X : ByteArray → List (List ByteArray)) (ys : List (ByteArray × List ByteArray)) : Prop where
  jn : Jn R N n u T
  last : ∀ q, textF T.last q = cat (X q) e0
  srt : Srt T.last
  xl : ∀ q, Lines (X q)
  ch : ChOf ys T.ch
  yl : ∀ y ∈ ys, (putV y.2).2 = 0
section
variable {R : Nat} {N : List ByteArray} {n u : Nat} {T : TS} {X : ByteArray → List (List ByteArray)} {ys : List (ByteArray × List ByteArray)}
theorem jl_new {R : Nat} (h1 : 1 ≤ R) (h2 : R ≤ 2000000) (N : List ByteArray) : Jl R N 0 0 (newT R) (fun _ => []) [] := ⟨jn_new h1 h2 N, fun q => rfl, List.Pairwise.nil, fun q l hl => (by cases hl), rfl, fun y hy => (by cases hy)⟩
theorem Jl.mono {n' u' : Nat} (h : Jl R N n u T X ys) (h1 : n ≤ n') (h2 : u ≤ u') : Jl R N n' u' T X ys := { h with jn := h.jn.mono h1 h2 }
theorem Jl.lines (h : Jl R N n u T X ys) (q : ByteArray) : Lines (X q ++ sel q ys) := fun l hl => (List.mem_append.1 hl).elim (h.xl q l) (sel_lines h.yl l)
theorem Jl.now (h : Jl R N n u T X ys) (q : ByteArray) : textF T.l q = cat (X q ++ sel q ys) e0 := by
  rw [← h.jn.inv.fold]
  exact fold_text q ys _ _ (X q) h.srt h.ch (h.last q)
theorem Jl.add (hN : NS N) (h : Jl R N n u T X ys) {q : ByteArray} (hq : q ∈ N) (hb : besN q ∈ N) {l : List ByteArray} (hl : (putV l).2 = 0) {b : Nat} (hs : (putV l).1.size ≤ b) (hu : u + b ≤ R) :
    addE T q l = 0 ∧ Jl R N (n + 1) (u + b) (addT T q l) X (ys ++ [(q, l)]) ∧ (addT T q l).last = T.last := by
  obtain ⟨a1, a2, a3, a4, a5⟩ := h.jn.append hN (q := q) (s := (putV l).1) hq (by omega)
  have e1 : addE T q l = 0 := by
    unfold addE
    rw [hN.path _ hb, if_neg (by decide), if_pos hl, a1]
  have e2 : addT T q l = writeT T true q (putV l).1 := by
    unfold addT
    rw [hN.path _ hb, if_neg (by decide), if_pos hl]
  rw [e2]
  refine ⟨e1, ⟨a2.mono (Nat.le_refl _) (by omega), ?_, ?_, h.xl, ?_, ?_⟩, ?_⟩
  · rw [a5]
    exact h.last
  · rw [a5]
    exact h.srt
  · rw [a5]
    exact h.ch.snoc q l _
  · intro y hy
    rcases List.mem_append.1 hy with hy | hy
    · exact h.yl y hy
    · rw [List.mem_singleton.1 hy]
      exact hl
  · rw [a5]
    rfl
theorem Jl.sync (h : Jl R N n u T X ys) : Jl R N n u (syncT T) (fun q => X q ++ sel q ys) [] :=
  ⟨h.jn.sync, fun q => h.now q, h.jn.inv.good.srt, h.lines, rfl, fun y hy => (by cases hy)⟩
/-- Bytes of changes that add. -/
def bytesY (ys : List (ByteArray × List ByteArray)) : Nat := (ys.map fun y => (putV y.2).1.size).sum
theorem after_used {l : List Fl} (hs : Srt l) {c : Cg} (hc : c.f0 = 2) : usedF (afterF l c) = usedF l + c.f2.size := by
  have e : afterF l c = putF l ⟨c.f1, textF l c.f1 ++ c.f2, c.f3⟩ := by
    unfold afterF
    rw [if_neg (by omega), if_pos hc]
  have := (put_used hs ⟨c.f1, textF l c.f1 ++ c.f2, c.f3⟩).1
  rw [e]
  rw [ByteArray.size_append] at this
  have e2 : textF l ({ f0 := c.f1, f1 := textF l c.f1 ++ c.f2, f2 := c.f3 } : Fl).f0 = textF l c.f1 := rfl
  rw [e2] at this
  omega
theorem after_names {l : List Fl} {c : Cg} (hc : c.f0 = 2) {f : Fl} (hf : f ∈ afterF l c) : f.f0 = c.f1 ∨ ∃ g ∈ l, g.f0 = f.f0 := by
  have e : afterF l c = putF l ⟨c.f1, textF l c.f1 ++ c.f2, c.f3⟩ := by
    unfold afterF
    rw [if_neg (by omega), if_pos hc]
  rw [e] at hf
  rcases mem_put.1 hf with rfl | hf
  · exact .inl rfl
  · exact .inr ⟨f, hf.1, rfl⟩
theorem after_has {l : List Fl} {c : Cg} (hc : c.f0 = 2) {N : List ByteArray} (h : ∀ f ∈ afterF l c, f.f0 ∈ N) : c.f1 ∈ N ∧ ∀ f ∈ l, f.f0 ∈ N := by
  have e : afterF l c = putF l ⟨c.f1, textF l c.f1 ++ c.f2, c.f3⟩ := by
    unfold afterF
    rw [if_neg (by omega), if_pos hc]
  rw [e] at h
  have h1 := h _ (mem_put.2 (.inl rfl))
  refine ⟨h1, fun f hf => ?_⟩
  by_cases e2 : f.f0 = c.f1
  · rw [e2]; exact h1
  · exact h f (mem_put.2 (.inr ⟨hf, e2⟩))
theorem fold_used : ∀ (ys : List (ByteArray × List ByteArray)) (cs : List Cg) (l : List Fl), Srt l → ChOf ys cs → usedF (foldF l cs) = usedF l + bytesY ys := by
  intro ys
  induction ys with
  | nil =>
    intro cs l hs h
    have : cs = [] := List.length_eq_zero_iff.1 h.len
    subst this
    rfl
  | cons y r ih =>
    intro cs l hs h
    obtain ⟨c, cr, rfl, h0, h1, h2, h3⟩ := h.cons
    show usedF (foldF (afterF l c) cr) = _
    rw [ih cr _ (srt_after hs c) h3, after_used hs h0, h2]
    unfold bytesY
    rw [List.map_cons, List.sum_cons]
    omega
theorem fold_names : ∀ (ys : List (ByteArray × List ByteArray)) (cs : List Cg) (l : List Fl) (N : List ByteArray), ChOf ys cs → (∀ f ∈ foldF l cs, f.f0 ∈ N) → (∀ f ∈ l, f.f0 ∈ N) ∧ ∀ c ∈ cs, c.f1 ∈ N := by
  intro ys
  induction ys with
  | nil =>
    intro cs l N h hn
    have : cs = [] := List.length_eq_zero_iff.1 h.len
    subst this
    exact ⟨hn, fun c hc => (by cases hc)⟩
  | cons y r ih =>
    intro cs l N h hn
    obtain ⟨c, cr, rfl, h0, h1, h2, h3⟩ := h.cons
    have h4 := ih cr _ N h3 hn
    have h5 := after_has h0 h4.1
    refine ⟨h5.2, fun d hd => ?_⟩
    rcases List.mem_cons.1 hd with rfl | hd
    · exact h5.1
    · exact h4.2 d hd
theorem fold_in : ∀ (ys : List (ByteArray × List ByteArray)) (cs : List Cg) (l : List Fl) (N : List ByteArray), ChOf ys cs → (∀ f ∈ l, f.f0 ∈ N) → (∀ c ∈ cs, c.f1 ∈ N) → ∀ f ∈ foldF l cs, f.f0 ∈ N := by
  intro ys
  induction ys with
  | nil =>
    intro cs l N h hn _
    have : cs = [] := List.length_eq_zero_iff.1 h.len
    subst this
    exact hn
  | cons y r ih =>
    intro cs l N h hn hcs
    obtain ⟨c, cr, rfl, h0, h1, h2, h3⟩ := h.cons
    refine ih cr _ N h3 (fun f hf => ?_) fun d hd => hcs d (List.mem_cons_of_mem _ hd)
    rcases after_names h0 hf with e | ⟨g, hg, e⟩
    · rw [e]; exact hcs c (List.mem_cons_self ..)
    · rw [← e]; exact hn g hg
theorem bytesY_app (a b : List (ByteArray × List ByteArray)) : bytesY (a ++ b) = bytesY a + bytesY b := by
  unfold bytesY
  rw [List.map_append, List.sum_append]
theorem bytesY_take (ys : List (ByteArray × List ByteArray)) (k : Nat) : bytesY (ys.take k) ≤ bytesY ys := by
  have := bytesY_app (ys.take k) (ys.drop k)
  rw [List.take_append_drop] at this
  omega
theorem cutS_size {s : ByteArray} {part : Int} (hp : 1 ≤ part) : (cutS s part).size ≤ s.size := by
  unfold cutS
  rw [if_neg (by omega), ByteArray.size_extract]
  omega
/-- Behind a crash. -/
theorem Jl.crash (h : Jl R N n u T X ys) (many part : Int) :
    Jn R N n u (crashT T many part) ∧ (crashT T many part).ch = [] ∧ ∃ j, keptN many ys.length ≤ j ∧ j ≤ ys.length ∧ (j = keptN many ys.length ∨ ∃ h : keptN many ys.length < ys.length, ((putV ys[keptN many ys.length].2).1.size : Int) ≤ part) ∧ ∀ q, ∃ r, Dec (textF (crashT T many part).l q) (X q ++ sel q (ys.take j)) r := by
  obtain ⟨j, h1, h2, h4, h3⟩ := crash_dec h.srt h.ch h.yl many part
  refine ⟨⟨inv_crash h.jn.inv many part, h.jn.room, h.jn.rle, ?_, ?_⟩, rfl, j, h1, h2, h4, fun q => h3 q (X q) (h.last q) (h.xl q)⟩
  · have hn : ∀ f ∈ foldF T.last T.ch, f.f0 ∈ N := by rw [h.jn.inv.fold]; exact h.jn.names
    obtain ⟨n1, n2⟩ := fold_names ys T.ch T.last N h.ch hn
    show ∀ f ∈ crashL T many part, f.f0 ∈ N
    unfold crashL
    generalize keptN many T.ch.length = k
    have n3 := fold_in _ _ _ N (h.ch.take k) n1 fun c hc => n2 c (List.mem_of_mem_take hc)
    simp only
    cases e : T.ch[k]? with
    | none => exact n3
    | some c =>
      simp only
      split
      next hc =>
        intro f hf
        have hc2 : (cutC c part).f0 = 2 := by
          obtain ⟨hlt, hget⟩ := List.getElem?_eq_some_iff.1 e
          obtain ⟨c', e1, c0, -⟩ := h.ch.at (k := k) (by rw [← h.ch.len]; exact hlt)
          rw [e] at e1
          cases e1
          exact c0
        rcases after_names hc2 hf with e2 | ⟨g, hg, e2⟩
        · rw [e2]
          exact n2 c (List.mem_of_getElem? e)
        · rw [← e2]
          exact n3 g hg
      next => exact n3
  · have hu := h.jn.used
    rw [← h.jn.inv.fold, fold_used ys _ _ h.srt h.ch] at hu
    show usedF (crashL T many part) ≤ u
    unfold crashL
    generalize keptN many T.ch.length = k
    have n3 := fold_used _ _ _ h.srt (h.ch.take k)
    have n4 := bytesY_take ys k
    simp only
    cases e : T.ch[k]? with
    | none => simp only; omega
    | some c =>
      simp only
      split
      next hc =>
        obtain ⟨hlt, hget⟩ := List.getElem?_eq_some_iff.1 e
        have hky : k < ys.length := by rw [← h.ch.len]; exact hlt
        obtain ⟨c', e1, c0, c1, c2⟩ := h.ch.at hky
        rw [e] at e1
        cases e1
        have hc2 : (cutC c part).f0 = 2 := c0
        rw [after_used (fold_srt _ _ h.srt) hc2, n3]
        have hs : (cutC c part).f2.size ≤ (putV ys[k].2).1.size := by rw [← c2]; exact cutS_size hc.2
        have n5 := bytesY_take ys (k + 1)
        rw [List.take_succ_eq_append_getElem hky, bytesY_app] at n5
        have e3 : bytesY [ys[k]] = (putV ys[k].2).1.size := by
          unfold bytesY
          rw [List.map_singleton, List.sum_singleton]
        omega
      next => omega
/-- Opened: the lines, and nothing behind. -/
theorem open_dec (hN : NS N) (h : Jn R N n u T) {q : ByteArray} (hq : q ∈ N) (hb : besN q ∈ N) (hne : besN q ≠ q) {xs : List (List ByteArray)} {r : ByteArray} (hd : Dec (textF T.l q) xs r) (hu : r.size ≠ 0 → u + u ≤ R) :
    openE T q = 0 ∧ openL T q = xs ∧ Jn R N (n + 4) (u + u) (openT T q) ∧ (r.size = 0 → Jn R N (n + 4) u (openT T q)) ∧ textF (openT T q).l q = cat xs e0 ∧ findF (openT T q).l (besN q) = none ∧
      (∀ p, p ≠ q → p ≠ besN q → findF (openT T q).l p = findF T.l p) ∧ (openT T q).ch = [] ∧ (openT T q).last = (openT T q).l := by
  obtain ⟨r1, r2, r3⟩ := h.remove (besN q)
  have ht : textF (removeT T (besN q)).l q = textF T.l q := text_find (r2 q (fun e => hne e.symm))
  have hd2 := hd
  rw [← ht] at hd2
  have hrl : readL (removeT T (besN q)) q = xs := by
    unfold readL
    rw [read_text, hd2.scan]
  have hrw : readW (removeT T (besN q)) q = decide (r.size = 0) := by
    unfold readW
    rw [read_text]
    exact hd2.whole
  have hpb := hN.path _ hb
  have hE : openE T q = if r.size = 0 then 0 else anewE (removeT T (besN q)) q xs := by
    unfold openE
    rw [hpb, if_neg (by decide), hrl, hrw]
    by_cases hr : r.size = 0
    · rw [if_pos hr, if_pos (decide_eq_true hr)]
    · rw [if_neg hr, if_neg (by rw [decide_eq_false hr]; decide)]
  have hT : openT T q = if r.size = 0 then syncT (removeT T (besN q)) else anewT (removeT T (besN q)) q xs := by
    unfold openT
    rw [hpb, if_neg (by decide), hrl, hrw]
    by_cases hr : r.size = 0
    · rw [if_pos hr, if_pos (decide_eq_true hr)]
    · rw [if_neg hr, if_neg (by rw [decide_eq_false hr]; decide)]
  by_cases hr : r.size = 0
  · rw [if_pos hr] at hE hT
    have hL : openL T q = xs := by unfold openL; rw [if_pos hE, hrl]
    rw [hT]
    refine ⟨hE, hL, (r1.sync).mono (by omega) (by omega), fun _ => (r1.sync).mono (by omega) (Nat.le_refl u), ?_, r3, fun p hp hp2 => r2 p hp2, rfl, rfl⟩
    show textF (removeT T (besN q)).l q = _
    rw [ht, hd.eq, size_e0 hr]
  · rw [if_neg hr] at hE hT
    have hu := hu hr
    have hcs : (cat xs e0).size ≤ u := by
      have h1 := hd.size
      have h2 := had_le T.l q
      have h3 := h.used
      omega
    obtain ⟨a1, a2, a3, a4, a5, a6, a7, -⟩ := r1.anew1 hN (s := cat xs e0) hq hb hne (by omega)
    have hE2 : anewE (removeT T (besN q)) q xs = 0 := by
      unfold anewE
      rw [hpb, if_neg (by decide), putAll_ok hd.ok, if_pos rfl]
      exact a1
    have hT2 : anewT (removeT T (besN q)) q xs = anew1T (removeT T (besN q)) q (cat xs e0) := by
      unfold anewT
      rw [hpb, if_neg (by decide), putAll_ok hd.ok, if_pos rfl]
    rw [hE2] at hE
    rw [hT2] at hT
    have hL : openL T q = xs := by unfold openL; rw [if_pos hE, hrl]
    rw [hT]
    exact ⟨hE, hL, a2.mono (by omega) (by omega), fun e => absurd e hr, a3, a4, fun p hp hp2 => (a5 p hp hp2).trans (r2 p hp2), a6, a7⟩
theorem Jl.of (h : Jn R N n u T) (hc : T.ch = []) (hl : T.last = T.l) (hx : ∀ q, textF T.l q = cat (X q) e0) (hxl : ∀ q, Lines (X q)) : Jl R N n u T X [] :=
  ⟨h, fun q => by rw [hl]; exact hx q, by rw [hl]; exact h.inv.good.srt, hxl, by rw [hc]; rfl, fun y hy => (by cases hy)⟩
end
end Go.Proofs.YtgdanenhbjfhaaaGreatDoor.Fr
/- journal's calls: Beside, put, Read. -/
namespace Go.Proofs.YtgdanenhbjfhaaaGreatDoor.Fr
open Go.RowKit Go.Proofs.YtgdanenhbjfhaaaGreatDoor.F Go.Proofs.YtgdanenhbjfhaaaGreatDoorW.PrintWords
open Go.Proofs.YtgdanenhbjfhaaaGreatDoor.Hand (putV takeV scanV)
open Go.Proofs.YtgdanenhbjfhaaaGreatDoor.PureL (cat cat_app cat_behind cat_size)
set_option linter.unusedVariables false
set_option linter.unusedSimpArgs false
abbrev kLL : Kd (List ByteArray) := Kd.slice 9 Kd.string
theorem at_LL {w : World} {A : Option Addr} {xs : List (List ByteArray)} (h : Kd.C kLL w A xs.length xs) {i : Nat} (hi : i < xs.length) :
    ∃ ad A' c', A = some ad ∧ w.cell? (ad.add i) = some (.slice A' (xs[i]).length c') ∧ (xs[i]).length ≤ c' ∧ Kd.C Kd.string w A' (xs[i]).length xs[i] := by
  obtain ⟨ad, c, e, _, ⟨A', c', hcs, hl, hr⟩, hc⟩ := Kd.C_get h [] (i : Int) (by omega) (by omega)
  have e1 : xs.getD (i : Int).toNat [] = xs[i] := by
    rw [Int.toNat_natCast, List.getD_eq_getElem?_getD, List.getElem?_eq_getElem hi, Option.getD_some]
  rw [e1] at hcs hl hr
  subst hcs
  have := hc 0 _ rfl
  have h0 : (i : Int).toNat * kLL.sz + 0 = i := by rw [Int.toNat_natCast]; exact Nat.mul_one i
  rw [h0] at this
  exact ⟨ad, A', c', e, this, hl, hr⟩
theorem put_code (l : List ByteArray) : (putV l).2 = 0 ∨ (putV l).2 = 1 ∨ (putV l).2 = 3 := by
  unfold putV
  split
  · exact .inr (.inl rfl)
  · split
    · exact .inr (.inr rfl)
    · split
      · exact .inr (.inr rfl)
      · exact .inl rfl
theorem beside_call (q : ByteArray) (hq : q.size ≤ 100000) (W : World) : Calls Tryz.prog 25 #[.string q] W fun e w' => e = .returned (.string (besN q)) ∧ W = w' := by
  go_enter Tryz.func25, Tryz.ntmps25
  go_wp2
  go_ret
  exact ⟨rfl, rfl⟩
theorem putAll_stop : ∀ (all : List (List ByteArray)) (k : Nat) (hk : k < all.length) (acc : ByteArray), Lines (all.take k) → (putV all[k]).2 ≠ 0 → putAllA acc all = (e0, (putV all[k]).2) := by
  intro all
  induction all with
  | nil => intro k hk; exact absurd hk (Nat.not_lt_zero _)
  | cons x r ih =>
    intro k hk acc hl hx
    cases k with
    | zero => rw [putAllA, if_neg (show ¬ (putV x).2 = 0 from hx)]; rfl
    | succ k =>
      rw [putAllA, if_pos (hl x (by simp))]
      exact ih k (by simpa using hk) _ (fun y hy => hl y (by simp [hy])) hx
theorem putAllA_code : ∀ (all : List (List ByteArray)) (acc : ByteArray), (putAllA acc all).2 = 0 ∨ (putAllA acc all).2 = 1 ∨ (putAllA acc all).2 = 3 := by
  intro all
  induction all with
  | nil => intro acc; exact .inl rfl
  | cons x r ih =>
    intro acc
    rw [putAllA]
    split
    · exact ih _
    · exact put_code x
theorem lines_take_succ {all : List (List ByteArray)} {k : Nat} (hk : k < all.length) (h : Lines (all.take k)) (hx : (putV all[k]).2 = 0) : Lines (all.take (k + 1)) := by
  rw [List.take_succ_eq_append_getElem hk]
  intro l hl
  rcases List.mem_append.1 hl with hl | hl
  · exact h l hl
  · rw [List.mem_singleton.1 hl]; exact hx
set_option maxHeartbeats 8000000 in
set_option maxRecDepth 100000 in
theorem putAll_walk (A : Option Addr) (c : Nat) (all : List (List ByteArray)) (w : World) (hG : Hand2.Glob w) (hC : Kd.C kLL w A all.length all) (hx : ∀ l ∈ all, ∀ x ∈ l, x.size ≤ 100000)
    (hB : ∀ k, k ≤ all.length → (putAll (all.take k)).1.size ≤ 90000000) (hn : all.length ≤ 10000000) :
    Calls Tryz.prog 35 #[.slice A all.length c, .func (.func 30) #[] #[]] w fun e w' => e = .returned (.tuple #[.string (putAll all).1, .int .i64 (putAll all).2]) ∧ Below w.heap.size w w' := by
  have HG := Lib.hid hG
  have HC := Lib.hid hC
  have HX := Lib.hid hx
  have HB := Lib.hid hB
  clear hG hC hx hB
  go_enter Tryz.func35, Tryz.ntmps35
  go_wp2
  obtain ⟨w0, hw0⟩ : ∃ w0, w.alloc (Obj.cells #[Value.pointer none, Value.slice none 0 0] 101) = w0 := ⟨_, rfl⟩
  have hs0 : w0.heap.size = w.heap.size + 1 := by rw [← hw0]; simp
  have hB0 : Hid (Below w.heap.size w w0) := by
    rw [Hid, ← hw0]
    exact (Below.refl _ _).alloc (Nat.le_refl _) _
  have hbl0 : Hid (Hand.Bld w.heap.size (w.heap.size + 1) [] w0) := by
    refine ⟨by omega, by rw [hs0]; omega, _, _, .inl rfl, ?_, World.ownsRowF_nil _ _ _ _⟩
    rw [← hw0]
    exact World.alloc_heap_new w _
  rw [hw0]
  clear hw0
  go_loopw [13] (fun i wr => ∃ k : Nat, k ≤ all.length ∧ i = .int .i64 k ∧ Hid (Hand.Bld w.heap.size (w.heap.size + 1) (Lib.byteCells (cat (all.take k) e0).data.toList) wr) ∧ Hid (Hand.Apart w.heap.size (w.heap.size + 1) w0 wr) ∧ Hid (Lines (all.take k)))
    (fun i _ => all.length - (intOf i).toNat)
  case atStart => exact ⟨0, Nat.zero_le _, rfl, hbl0, Hand.Apart.refl _ _ _, fun l hl => (by cases hl)⟩
  case round =>
    obtain ⟨k, hk, rfl, hbl, hA, HL⟩ := hrel
    have hlen : Hid ((cat (all.take k) e0).data.toList.length ≤ 90000000) := by
      have := HB.out k hk
      rw [putAll_ok HL.out] at this
      rw [Hid, Array.length_toList]
      exact this
    have HT := Lib.hid (hB0.out.trans (hA.out.below (by omega)))
    by_cases hlt : k < all.length
    · obtain ⟨ad, A', c', rfl, hc1, hc2, hC'⟩ := at_LL (Kd.C_below HC.out HT.out) hlt
      have HC' := Lib.hid hC'
      have HX' := Lib.hid (HX.out _ (List.getElem_mem hlt))
      have HST := Lib.hid (putAll_stop all k hlt ⟨#[]⟩ HL.out)
      have HNX := Lib.hid (lines_take_succ hlt HL.out)
      have HTK : Hid (all.take (k + 1) = all.take k ++ [all[k]]) := List.take_succ_eq_append_getElem hlt
      have hcode := put_code all[k]
      have hln := lineL_le (l := all[k])
      clear hC'
      generalize all[k] = x at hc1 hc2 HC' HX' HST HNX HTK hcode hln
      have HP := Lib.hid (Hand.put_walk A' c' x wr (HG.out.below HT.out) HC'.out hc2 HX'.out)
      obtain ⟨s, er, hp⟩ : ∃ s er, Hid (putV x = (s, er)) := ⟨_, _, Lib.hid rfl⟩
      rw [hp.out] at hcode HP HST HNX hln
      simp only [Hand.pOut] at HP
      simp only at hcode hln
      have hsx := World.block_lt_of_cell? _ _ hc1
      rcases hcode with rfl | rfl | rfl
      · have hs : s.size ≤ 13000 := hln rfl
        have hwl : Hid ((Lib.byteCells (cat (all.take k) e0).data.toList).length + s.size ≤ 100000000) := by
          have := hlen.out
          rw [Hid, Lib.byteCells_length]
          omega
        go_wp2_with (first | (go_at_call 30; refine HP.out.mono ?_; rintro e W1 ⟨rfl, hb1⟩; have HL1 := Lib.hid (Hand.bld_below hbl.out hb1); have HA1 := Lib.hid (hA.out.trans (Hand.apart_of_below hb1 hbl.out.2.1)); clear hb1) | (go_at_call 56; refine (Hand.writeString w.heap.size (w.heap.size + 1) _ _ _ HL1.out hwl.out).mono ?_; rintro e W2 ⟨rfl, hb2, hA2⟩; have HL2 := Lib.hid hb2; have HA2 := Lib.hid (HA1.out.trans hA2); clear hb2 hA2))
        go_roundw
        case rel =>
          refine ⟨k + 1, by omega, by go_num, ?_, HA2, HNX.out (by first | rfl | exact trivial)⟩
          have := HL2.out
          rw [Lib.strCells_eq, ← Lib.byteCells_append] at this
          rw [Hid, HTK.out, cat_snoc, hp.out]
          have e : (cat (all.take k) e0 ++ s).data.toList = (cat (all.take k) e0).data.toList ++ s.data.toList := by simp [ByteArray.data_append, Array.toList_append]
          rw [e]
          exact this
        case measure => simp [intOf]; omega
      all_goals
        have HE : Hid (putAll all = (e0, _)) := HST.out (by simp)
        go_wp2_with (first | (go_at_call 30; refine HP.out.mono ?_; rintro e W1 ⟨rfl, hb1⟩; have HA1 := Lib.hid (HT.out.trans (hb1.mono HT.out.size)); clear hb1))
        go_ret2
        exact ⟨by rw [HE.out]; rfl, HA1.out⟩
    · have hkn : k = all.length := by omega
      subst hkn
      have htk : all.take all.length = all := List.take_length
      rw [htk] at hbl hlen HL
      clear htk
      have HS := Lib.hid (Hand.bstring2 w.heap.size (cat all e0).data.toList wr hbl.out)
      have HE : Hid (putAll all = (cat all e0, 0)) := putAll_ok HL.out
      have e1 : (⟨(cat all e0).data.toList.toArray⟩ : ByteArray) = cat all e0 := ba_eq rfl
      rw [e1] at HS
      clear e1
      go_wp2_with (first | (go_at_call 60; refine HS.out.mono ?_; rintro e W1 ⟨rfl, hb1, hA1⟩; have HA1 := Lib.hid (hB0.out.trans ((hA.out.trans hA1).below (Nat.lt_succ_self _))); clear hb1 hA1))
      go_ret2
      exact ⟨by rw [HE.out]; rfl, HA1.out⟩
/-- Read. -/
def RdEnd (w : World) (l : List (List ByteArray)) (b : Bool) (e : Ending) (w' : World) : Prop := ∃ v, e = .returned (.tuple #[v, .bool b]) ∧ Kd.S kLL 37 w' w.heap.size (fun _ => True) v l ∧ Below w.heap.size w w'
set_option maxHeartbeats 4000000 in
set_option maxRecDepth 100000 in
theorem Sts.jRead {K : Nat → Prop} {L : List (Nat × TS)} {m p i n : Nat} {T Tm : TS} {W : World} (h : Sts K L m Tm W) (hi : L[i]? = some (p, T)) (hG : Hand2.Glob W) (hI : Inv n T) (hr : T.room ≤ 2000000) (q : ByteArray) (hq : q.size ≤ 100000) :
    Calls Tryz.prog 22 #[.pointer (some ⟨p, 0, none⟩), .string q] W (RdEnd W (readL T q) (readW T q)) := by
  have HS := Lib.hid h
  have HG := Lib.hid hG
  have hsz : (readT T q).1.size ≤ 2000000 := by
    have h1 := read_used T q
    have h2 := hI.good.used
    omega
  have HR := Lib.hid (h.Read hi q hq)
  have hw : (((scanV (readT T q).1).2 == (((readT T q).1.size : Nat) : Int)) : Bool) = readW T q := rfl
  have hl : (scanV (readT T q).1).1 = readL T q := rfl
  have HSC := Lib.hid (Hand.scan_walk (readT T q).1 hsz W hG)
  rw [hl] at HSC
  generalize readT T q = r at HR hw hl hsz HSC
  obtain ⟨s, er⟩ := r
  simp only at HR hw hl hsz HSC
  generalize (scanV s).2 = z at hw HSC
  generalize readL T q = ls at HSC
  have HW := Lib.hid hw
  clear h hG hw hl
  go_enter Tryz.func22, Tryz.ntmps22
  go_wp2_with (first
    | (go_at_call 45; refine HR.out.mono ?_; rintro e w1 ⟨rfl, rfl⟩)
    | (go_at_call 46; refine HSC.out.mono ?_; rintro e w2 ⟨v, rfl, hv, hb⟩; have HV := Lib.hid hv; have HB := Lib.hid hb; clear hv hb))
  go_ret2
  exact ⟨v, by rw [HW.out]; rfl, HV.out, HB.out⟩
end Go.Proofs.YtgdanenhbjfhaaaGreatDoor.Fr
