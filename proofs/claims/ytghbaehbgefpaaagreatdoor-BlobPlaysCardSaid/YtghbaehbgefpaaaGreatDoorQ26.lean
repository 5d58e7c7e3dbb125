import Derived.Test.YtghbaehbgefpaaaGreatDoorQ25
import Derived.Deep.Onto
import Derived.Test.YtghbaehbgefpaaaGreatDoorQ06
/- Several texts of this session in one: the walks of the functions that the laws reach, and what they tell. -/
set_option linter.unusedVariables false
set_option linter.unusedSimpArgs false
namespace Go.Proofs.YtghbaehbgefpaaaGreatDoor.Fr
open Go.RowKit Go.Proofs.YtghbaehbgefpaaaGreatDoor.F Go.Maps
def cutC (c : Cg) (part : Int) : Cg := { c with f2 := cutS c.f2 part }
theorem do_part (c : Cg) (hc : CgOK c) (hk : c.f0 = 1 ∨ c.f0 = 2) (part : Int) (hpart : part ≤ 9223372036854775807) (b : Nat) (L : List Fl) (φ : Phi) (w : World) (hF : FilesOK w φ) (hI : Img w φ b L) (hb : φ b = none) (hL : L.length ≤ 100000) (hfs : ∀ f ∈ L, f.f1.size ≤ 1000000000000) :
    Calls Tryz.prog 33 #[cgV c, .map (some b), .int .i64 part] w (DoEnd φ b (afterF L (cutC c part)) w) := by
  obtain ⟨k, p, s, tm⟩ := c
  have h1 : p.size ≤ 100000 := hc.path
  have h2 : s.size ≤ 1000000000 := hc.text
  rcases hk with e | e
  · obtain rfl : k = 1 := e
    exact do_written p s tm part b L φ w hF hI hb hL h1 h2 hpart
  · obtain rfl : k = 2 := e
    have e1 : afterF L (cutC ⟨2, p, s, tm⟩ part) = putF L ⟨p, textF L p ++ cutS s part, tm⟩ := rfl
    rw [e1]
    cases hf : findF L p with
    | none =>
      have := do_app_none p s tm part b L φ w hF hI hb hL h1 h2 hpart hf
      have e2 : textF L p = ⟨#[]⟩ := by unfold textF; rw [hf]
      have e3 : (⟨#[]⟩ : ByteArray) ++ cutS s part = cutS s part := by
        apply ByteArray.ext
        simp
      rw [e2, e3]
      exact this
    | some f =>
      have := do_app_some p s tm part b L φ w hF hI hb hL h1 h2 hpart f hf (hfs f (mem_of_find hf))
      have e2 : textF L p = f.f1 := by unfold textF; rw [hf]
      rw [e2]
      exact this
def foldF (l : List Fl) (cs : List Cg) : List Fl := cs.foldl afterF l
theorem foldF_succ (l : List Fl) (cs : List Cg) (k : Nat) (h : k < cs.length) : foldF l (cs.take (k + 1)) = afterF (foldF l (cs.take k)) cs[k] := by
  unfold foldF
  rw [List.take_succ_eq_append_getElem h, List.foldl_append]
  rfl
def keptN (many : Int) (n : Nat) : Nat := (max 0 (min many (n : Int))).toNat
def crashL (T : TS) (many part : Int) : List Fl :=
  let k := keptN many T.ch.length
  let l := foldF T.last (T.ch.take k)
  match T.ch[k]? with
  | none => l
  | some c => if c.f0 ≤ 2 ∧ 1 ≤ part then afterF l (cutC c part) else l
def crashT (T : TS) (many part : Int) : TS := syncT { T with l := crashL T many part }
theorem TrAt.did {w W1 W2 : World} {φ φ' : Phi} {p bn bl : Nat} {T : TS} {A : Nat → Prop} {v : Value} {L' : List Fl} (h : TrAt w φ p T A bn bl v) (hB : Below w.heap.size w W1) (hE : Ext W1 φ φ') (hF : FilesOK W2 φ') (hI : Img W2 φ' bn L') (hC : Chg (fun k => k = bn) W1 W2) :
    TrAt W2 φ' p { T with l := L' } A bn bl v ∧ Ext w φ φ' ∧ Chg (fun k => k = bn) w W2 := by
  have hC2 : Chg (fun k => k = bn) w W2 := (Chg.of_below hB _).trans hC fun _ _ e => e
  have hE2 : Ext w φ φ' := ⟨hE.keeps, fun k e => (hE.new k e).imp id fun h => Nat.le_trans hB.size h⟩
  refine ⟨?_, hE2, hC2⟩
  exact {
    files := hF
    at_ := (hC2.block p h.lt h.p_ne.1).trans h.at_
    now := hI
    last := (h.last.chg hC2 (fun e => h.ne e.symm)).ext hE.keeps
    row := ownsRow_block h.row fun k hk => hC2.block k (h.free k (h.ar k hk)).1 (h.row_ne hk).2.1
    ne := h.ne
    ap := h.ap
    an := h.an
    al := h.al
    ar := h.ar
    free := fun k hk => by
      obtain ⟨h1, h2⟩ := h.free k hk
      refine ⟨Nat.lt_of_lt_of_le h1 hC2.size, ?_⟩
      cases e : φ' k with
      | none => rfl
      | some f =>
        rcases hE2.new k (by rw [e]; simp) with h3 | h3
        · exact absurd h2 h3
        · omega }
theorem crash_start {w w1 : World} {φ : Phi} {p bn bl : Nat} {T : TS} {A : Nat → Prop} {v : Value} (h : TrAt w φ p T A bn bl v) (hI : Img w1 φ w.heap.size T.last) (hB : Below w.heap.size w w1) :
    TrAt (w1.setCell ⟨p, 2, none⟩ (.map (some w.heap.size))) φ p { T with l := T.last } (fun k => A k ∨ k = w.heap.size) w.heap.size bl v ∧ Chg (fun k => k = p) w (w1.setCell ⟨p, 2, none⟩ (.map (some w.heap.size))) := by
  have hat1 : w1.heap[p]? = some (.cells #[.int .i64 T.room, .int .i64 T.clock, .map (some bn), .map (some bl), v] 76 (0, 0)) := (hB.block p h.lt).trans h.at_
  have hat2 := heap_setCell_same w1 p 2 _ _ (.map (some w.heap.size)) hat1
  have hC : Chg (fun k => k = p) w (w1.setCell ⟨p, 2, none⟩ (.map (some w.heap.size))) :=
    ((Chg.refl (fun k => k = p) w).below hB).setCell (p := ⟨p, 2, none⟩) (fun _ => rfl) _
  have hC1 : Chg (fun k => k = p) w1 (w1.setCell ⟨p, 2, none⟩ (.map (some w.heap.size))) := (Chg.refl (fun k => k = p) w1).setCell (p := ⟨p, 2, none⟩) (fun _ => rfl) _
  have hplt := h.lt
  have hN := hI.lt
  refine ⟨?_, hC⟩
  exact {
    files := h.files.chg hC fun q hq e => hq (by rw [e]; exact (h.free p h.ap).2)
    at_ := by rw [hat2]; simp
    now := hI.chg hC1 fun e => by omega
    last := h.last.chg hC fun e => h.p_ne.2 e.symm
    row := ownsRow_block h.row fun k hk => hC.block k (h.free k (h.ar k hk)).1 (h.row_ne hk).1
    ne := by have := h.last.lt; omega
    ap := .inl h.ap
    an := .inr rfl
    al := .inl h.al
    ar := fun k hk => .inl (h.ar k hk)
    free := fun k hk => by
      rcases hk with hk | rfl
      · obtain ⟨h1, h2⟩ := h.free k hk
        exact ⟨Nat.lt_of_lt_of_le h1 hC.size, h2⟩
      · refine ⟨Nat.lt_of_lt_of_le hN hC1.size, ?_⟩
        cases e : φ w.heap.size with
        | none => rfl
        | some f =>
          have := h.files.lt (q := w.heap.size) (by rw [e]; simp)
          omega }
theorem TrEnd.behind {w W w' : World} {φ φ' : Phi} {p : Nat} {T' : TS} {A A' : Nat → Prop} (hE : Ext w φ φ') (hC : Chg A w W) (hA : ∀ k, A' k → A k ∨ w.heap.size ≤ k) (h : TrEnd W φ' p A' T' w') : TrEnd w φ p A T' w' := by
  obtain ⟨φ2, A2, h1, h2, h3, h4⟩ := h
  refine ⟨φ2, A2, h1, hE.trans h2 hC.size, hC.trans h3 fun k hk e => (hA k e).elim id fun e => by omega, fun k hk => ?_⟩
  rcases h4 k hk with e | e
  · exact hA k e
  · exact .inr (Nat.le_trans hC.size e)
theorem chCells_at (ch : List Cg) (k : Nat) (hk : k < ch.length) (j : Nat) (hj : j < 4) : (ch.flatMap chCells)[k * 4 + j]? = (chCells ch[k])[j]? := by
  induction ch generalizing k with
  | nil => cases hk
  | cons c cs ih =>
    rw [List.flatMap_cons]
    have h4 : (chCells c).length = 4 := rfl
    cases k with
    | zero => rw [List.getElem?_append_left (by omega)]; simp
    | succ k =>
      rw [List.getElem?_append_right (by omega), h4, show (k + 1) * 4 + j - 4 = k * 4 + j by omega, ih k (by simpa using hk)]
      simp
theorem TrAt.change {w : World} {φ : Phi} {p bn bl : Nat} {T : TS} {A : Nat → Prop} {av : Option Addr} {n cv : Nat} (h : TrAt w φ p T A bn bl (.slice av n cv)) (k : Nat) (hk : k < T.ch.length) :
    ∃ g, av = some ⟨g, 0, none⟩ ∧ g < w.heap.size ∧ w.cell? ⟨g, k * 4, none⟩ = some (.int .i64 (T.ch[k].f0 - 1)) ∧ w.cell? ⟨g, k * 4 + 1, none⟩ = some (.string T.ch[k].f1) ∧ w.cell? ⟨g, k * 4 + 2, none⟩ = some (.string T.ch[k].f2) ∧ w.cell? ⟨g, k * 4 + 3, none⟩ = some (.int .i64 T.ch[k].f3) := by
  have hr := h.row
  rcases h.row.2 with ⟨e1, e2⟩ | ⟨g, cap, cur, e1, e2, e3, e4⟩
  · omega
  · cases e1
    have hc : ∀ j, j < 4 → w.cell? ⟨g, k * 4 + j, none⟩ = (chCells T.ch[k])[j]? := by
      intro j hj
      rw [← chCells_at T.ch k hk j hj]
      exact hr.cellAt _ (by omega)
    exact ⟨g, rfl, (Array.getElem?_eq_some_iff.1 e3).1, hc 0 (by omega), hc 1 (by omega), hc 2 (by omega), hc 3 (by omega)⟩
section
variable {φ : Phi} {p : Nat} {T : TS} {A : Nat → Prop}
set_option maxHeartbeats 4000000 in
set_option maxRecDepth 100000 in
theorem crash_call (w : World) (hT : Tr w φ p T A) (many part : Int) (hn : T.ch.length ≤ 1000000) (hpart : part ≤ 9223372036854775807) (hcs : ∀ c ∈ T.ch, CgOK c)
    (hL : ∀ k, k ≤ T.ch.length → (foldF T.last (T.ch.take k)).length ≤ 100000 ∧ ∀ f ∈ foldF T.last (T.ch.take k), f.f1.size ≤ 1000000000000) :
    Calls Tryz.prog 17 #[.pointer (some ⟨p, 0, none⟩), .int .i64 many, .int .i64 part] w fun e w' => e = .returned (.tuple #[]) ∧ TrEnd w φ p A (crashT T many part) w' := by
  obtain ⟨bn, bl, v, h⟩ := hT
  obtain ⟨av, cv, rfl⟩ := h.slice
  have hcap : T.ch.length ≤ cv := by
    rcases h.row.2 with ⟨e1, e2⟩ | ⟨g, cap, cur, e1, _, _, e2, _⟩
    · omega
    · cases e1
      exact e2
  have HT := Lib.hid h
  have HL := Lib.hid hL
  have HCS := Lib.hid hcs
  have c3 := h.c3
  have c4 := h.c4
  have hlt := h.lt
  have hl := h.last
  clear h hL hcs
  obtain ⟨K, hK⟩ : ∃ K, K = keptN many T.ch.length := ⟨_, rfl⟩
  have hKn : K ≤ T.ch.length := by rw [hK]; unfold keptN; omega
  have hKI : (max 0 (min many (T.ch.length : Int)) : Int) = K := by rw [hK]; unfold keptN; omega
  have HK := Lib.hid hK
  have hKc : K ≤ cv := Nat.le_trans hKn hcap
  have hav : Option.map (fun x : Addr => x.add 0) av = av := by cases av <;> rfl
  clear hK
  go_enter Tryz.func17, Tryz.ntmps17
  go_upto_region 2 with (first
    | (go_at_call 32; refine (clone_img hl).mono ?_; rintro e w1 ⟨rfl, hI, hB, hs⟩; have hat1 := (hB.block p hlt).trans HT.out.at_; have d2 : w1.cell? ⟨p, 2, none⟩ = some (.map (some bn)) := (by simp [World.cell?, hat1]); have g2 : w1.frozen? ⟨p, 2, none⟩ = false := (by simp [World.frozen?, hat1]); have HE := Lib.hid (crash_start HT.out hI hB); clear hI hB hs hat1))
  generalize w1.setCell ⟨p, 2, none⟩ (.map (some w.heap.size)) = W1 at HE
  clear c3 c4 d2 g2 hl
  have HT1 := Lib.hid HE.out.1
  have HC1 := Lib.hid HE.out.2
  have c4 := HE.out.1.c4
  clear HE
  have HAp := Lib.hid HT.out.ap
  have hwl : p < w.heap.size := hlt
  go_wp2_with fail
  go_loopw [31] (fun i wr => ∃ (k : Nat), k ≤ K ∧ i = .int .i64 k ∧ Hid (∃ φ', TrAt wr φ' p { T with l := foldF T.last (T.ch.take k) } (fun q => A q ∨ q = w.heap.size) w.heap.size bl (.slice av T.ch.length cv) ∧ Ext w φ φ' ∧ Chg A w wr))
    (fun i _ => K - (intOf i).toNat)
  case atStart => exact ⟨0, Nat.zero_le _, rfl, φ, HT1.out, Ext.refl _ _, HC1.out.mono fun k _ e => e ▸ HAp.out⟩
  case round =>
    obtain ⟨k, hk, rfl, hall⟩ := hrel
    obtain ⟨φ', h2, hE2, hC2⟩ := hall.out
    have H2 := Lib.hid h2
    have HE2 := Lib.hid hE2
    have HC2 := Lib.hid hC2
    clear hall hE2 hC2
    by_cases hlk : k < K
    · have hkn : k < T.ch.length := by omega
      obtain ⟨g, e, hgw, q0, q1, q2, q3⟩ := h2.change k hkn
      have d2 := h2.c2
      have hpw := h2.lt
      clear h2
      have hst := Lib.hid (foldF_succ T.last T.ch k hkn)
      have hok := Lib.hid (HCS.out _ (List.getElem_mem hkn))
      have hlk' := Lib.hid (HL.out k (by omega))
      have HB0 := Lib.hid (H2.out.free w.heap.size (.inr rfl)).2
      subst e
      generalize T.ch[k] = c at q0 q1 q2 q3 hst hok
      obtain ⟨ck, cq, cs, ct⟩ := c
      go_wp2_with fail
      go_region_with (first
        | (go_at_call 33; refine (do_call ⟨ck, cq, cs, ct⟩ hok.out w.heap.size (foldF T.last (T.ch.take k)) φ' _ (H2.out.files.below (newBelow _ _).drew) (H2.out.now.below (newBelow _ _).drew) HB0.out hlk'.out.1 hlk'.out.2).mono ?_; rintro e w3 ⟨rfl, φ3, hE3, hF3, hI3, hC3⟩; have HM := Lib.hid (H2.out.did (newBelow _ _).drew hE3 hF3 hI3 hC3); clear hE3 hF3 hI3 hC3))
      all_goals
        go_wp2_with fail
        go_roundw
        case rel =>
          refine ⟨k + 1, by omega, by go_num, φ3, ?_, HE2.out.trans HM.out.2.1 HC2.out.size, HC2.out.trans HM.out.2.2 fun i hi e => by omega⟩
          rw [hst.out]
          exact HM.out.1
        case measure => simp [intOf]; omega
    · have hkK : k = K := by omega
      subst hkK
      have hA1 : Hid (∀ q, (A q ∨ q = w.heap.size) → A q ∨ w.heap.size ≤ q) := fun q hq => hq.imp id fun e => by omega
      have c4' := h2.c4
      have d2 := h2.c2
      by_cases hl2 : k < T.ch.length
      · obtain ⟨g, e, hgw, q0, q1, q2, q3⟩ := h2.change k hl2
        have hok := Lib.hid (HCS.out _ (List.getElem_mem hl2))
        have hlk' := Lib.hid (HL.out k (by omega))
        have HB0 := Lib.hid (H2.out.free w.heap.size (.inr rfl)).2
        have HCR : Hid (crashL T many part = if T.ch[k].f0 ≤ 2 ∧ 1 ≤ part then afterF (foldF T.last (T.ch.take k)) (cutC T.ch[k] part) else foldF T.last (T.ch.take k)) := by
          unfold Hid crashL
          simp only [← HK.out, List.getElem?_eq_getElem hl2]
        clear h2
        subst e
        generalize T.ch[k] = c at q0 q1 q2 q3 hok HCR
        obtain ⟨ck, cq, cs, ct⟩ := c
        have hk14 : 1 ≤ ck ∧ ck ≤ 4 := by
          rcases hok.out.kind with e | e | e | e <;> (simp only at e; omega)
        by_cases hkd : ck ≤ 2
        · by_cases hp1 : 1 ≤ part
          · have hcr : Hid (crashL T many part = afterF (foldF T.last (T.ch.take k)) (cutC ⟨ck, cq, cs, ct⟩ part)) := by
              rw [Hid, HCR.out, if_pos ⟨hkd, hp1⟩]
            have hk12 : Hid (ck = 1 ∨ ck = 2) := by unfold Hid; omega
            have HPA := Lib.hid hpart
            go_wp2_with fail
            go_region_with (first
              | (go_at_call 33; refine (do_part ⟨ck, cq, cs, ct⟩ hok.out hk12.out part HPA.out w.heap.size (foldF T.last (T.ch.take k)) φ' _ (H2.out.files.below (Below.refl _ _).drew) (H2.out.now.below (Below.refl _ _).drew) HB0.out hlk'.out.1 hlk'.out.2).mono ?_; rintro e w3 ⟨rfl, φ3, hE3, hF3, hI3, hC3⟩; have HM := Lib.hid (H2.out.did (Below.refl _ _).drew hE3 hF3 hI3 hC3); clear hE3 hF3 hI3 hC3))
            all_goals
              go_wp2_with (first
                | (go_at_call 16; refine (sync_call _ ⟨_, _, _, HM.out.1⟩).mono ?_; rintro e w' ⟨rfl, hse⟩; have HX := Lib.hid hse; clear hse))
              go_end0
              refine ⟨rfl, ?_⟩
              unfold crashT
              rw [hcr.out]
              exact TrEnd.behind (HE2.out.trans HM.out.2.1 HC2.out.size) (HC2.out.trans HM.out.2.2 fun i hi e => by omega) hA1.out HX.out
          · have hcr : Hid (crashL T many part = foldF T.last (T.ch.take k)) := by
              rw [Hid, HCR.out, if_neg (fun e => hp1 e.2)]
            go_wp2_with (first
              | (go_at_call 16; refine (sync_call _ ⟨_, _, _, H2.out⟩).mono ?_; rintro e w' ⟨rfl, hse⟩; have HX := Lib.hid hse; clear hse))
            go_end0
            refine ⟨rfl, ?_⟩
            unfold crashT
            rw [hcr.out]
            exact TrEnd.behind HE2.out HC2.out hA1.out HX.out
        · have hcr : Hid (crashL T many part = foldF T.last (T.ch.take k)) := by
            rw [Hid, HCR.out, if_neg (fun e => hkd e.1)]
          go_wp2_with (first
            | (go_at_call 16; refine (sync_call _ ⟨_, _, _, H2.out⟩).mono ?_; rintro e w' ⟨rfl, hse⟩; have HX := Lib.hid hse; clear hse))
          go_end0
          refine ⟨rfl, ?_⟩
          unfold crashT
          rw [hcr.out]
          exact TrEnd.behind HE2.out HC2.out hA1.out HX.out
      · have hcr : Hid (crashL T many part = foldF T.last (T.ch.take k)) := by
          unfold Hid crashL
          simp only [← HK.out, List.getElem?_eq_none (Nat.le_of_not_lt hl2)]
        clear h2
        go_wp2_with (first
          | (go_at_call 16; refine (sync_call _ ⟨_, _, _, H2.out⟩).mono ?_; rintro e w' ⟨rfl, hse⟩; have HX := Lib.hid hse; clear hse))
        go_end0
        refine ⟨rfl, ?_⟩
        unfold crashT
        rw [hcr.out]
        exact TrEnd.behind HE2.out HC2.out hA1.out HX.out
end
end Go.Proofs.YtghbaehbgefpaaaGreatDoor.Fr
namespace Go.Proofs.YtghbaehbgefpaaaGreatDoor.Fr
open Go.RowKit Go.Proofs.YtghbaehbgefpaaaGreatDoor.F Go.Maps Go.Sort
theorem before_lt : ∀ (a b : List UInt8), bytesBefore a b = true → a < b
  | [], [], h => by simp [bytesBefore] at h
  | [], _ :: _, _ => List.nil_lt_cons _ _
  | _ :: _, [], h => by simp [bytesBefore] at h
  | x :: xs, y :: ys, h => by
    simp only [bytesBefore, Bool.or_eq_true, Bool.and_eq_true, decide_eq_true_eq, beq_iff_eq] at h
    rw [List.cons_lt_cons_iff]
    rcases h with h | ⟨h, h2⟩
    · exact .inl h
    · exact .inr ⟨h, before_lt xs ys h2⟩
def Srt (l : List Fl) : Prop := l.Pairwise fun f g => ltB f.f0 g.f0 = true
theorem find_of_srt {l : List Fl} (h : Srt l) {f : Fl} (hf : f ∈ l) : findF l f.f0 = some f := by
  induction l with
  | nil => cases hf
  | cons g r ih =>
    unfold findF
    rw [List.find?_cons]
    unfold Srt at h
    rw [List.pairwise_cons] at h
    rcases List.mem_cons.1 hf with rfl | hr
    · simp
    · have h1 := h.1 f hr
      have hne : (g.f0.data.toList == f.f0.data.toList) = false := by
        rw [beq_eq_false_iff_ne]
        intro e
        unfold ltB at h1
        rw [e] at h1
        exact List.lt_irrefl _ (before_lt _ _ h1)
      rw [hne]
      exact ih h.2 hr
theorem keys_sorted {l : List Fl} (h : Srt l) : (l.map fun f => f.f0.data.toList).mergeSort leB = l.map fun f => f.f0.data.toList := by
  apply List.mergeSort_of_pairwise
  rw [List.pairwise_map]
  refine List.Pairwise.imp ?_ h
  intro a b hab
  simp only [leB, decide_eq_true_eq]
  exact List.le_of_lt (before_lt _ _ hab)
def flCells (f : Fl) : List Value := [.string f.f0, .string f.f1]
theorem infoFl : (Tryz.prog.info? 95).map (fun i => (i.zero, i.size, i.bytes)) = some (some (.agg #[.string ⟨#[]⟩, .string ⟨#[]⟩]), 2, 32) := by kernel_rfl
theorem sorted_files {w : World} {φ : Phi} {b : Nat} {l : List Fl} (h : Img w φ b l) (hs : Srt l) (hn : l.length ≤ 100000) :
    Calls Tryz.prog 60 #[.func (.func 90) #[] #[.pointer (some ⟨w.heap.size, 0, none⟩)]] (w.alloc (.cells #[.map (some b)] 71)) fun e w' =>
      ∃ av cv, e = .returned (.slice av l.length cv) ∧ w'.ownsRow 0 9 1 (.slice av l.length cv) l.length (l.map fun f => .string f.f0) ∧ Below w.heap.size w w' := by
  have hb := newBelow w (.cells #[.map (some b)] 71)
  refine (sorted_call w.heap.size b l.length (fdat l) (elemR φ) _ (by show (match (w.alloc (.cells #[.map (some b)] 71)).heap[w.heap.size]? with | some (Obj.cells c _ _) => c[0]? | _ => none) = _; rw [World.alloc_heap_new]; rfl) (by rw [World.size_alloc]; omega) (h.below hb) (by rw [fdat_size]; omega)).mono ?_
  rintro e w' ⟨v, ss, rfl, hp, hr, _, hb2⟩
  have hk : strKeys (fdat l) = l.map fun f => f.f0.data.toList := by
    show (l.map fent).map _ = _
    rw [List.map_map]
    rfl
  rw [hk] at hp
  have hlen : ss.length = l.length := by rw [hp.length_eq, List.length_map]
  rw [show (ss.mergeSort fun x y => decide (x ≤ y)) = ss.mergeSort leB from rfl, mergeSort_of_perm hp, keys_sorted hs, hlen, List.map_map] at hr
  have hm : l.map (encStr ∘ fun f => f.f0.data.toList) = l.map fun f => .string f.f0 := by
    apply List.map_congr_left
    intro f _
    simp [encStr]
  rw [hm] at hr
  have hB : Below w.heap.size w w' := hb.trans (hb2.mono (by rw [World.size_alloc]; omega))
  rcases hr.2 with ⟨rfl, h5⟩ | ⟨g', cap', cur', rfl, e2, e3⟩
  · exact ⟨none, 0, by rw [h5], ⟨hr.1, .inl ⟨by rw [h5], h5⟩⟩, hB⟩
  · exact ⟨_, _, rfl, ⟨hr.1, .inr ⟨g', cap', cur', rfl, Nat.zero_le _, e3⟩⟩, hB⟩
section
variable {φ : Phi} {p : Nat} {T : TS} {A : Nat → Prop}
set_option maxHeartbeats 4000000 in
set_option maxRecDepth 100000 in
theorem all_call (w : World) (hT : Tr w φ p T A) (hs : Srt T.l) (hn : T.l.length ≤ 100000) (hps : ∀ f ∈ T.l, f.f0.size ≤ 100000) : Calls Tryz.prog 36 #[.pointer (some ⟨p, 0, none⟩)] w fun e w' =>
    ∃ v, e = .returned v ∧ w'.ownsRow w.heap.size 95 2 v T.l.length (T.l.flatMap flCells) ∧ Below w.heap.size w w' := by
  obtain ⟨bn, bl, v, h⟩ := hT
  have HT := Lib.hid h
  have HS := Lib.hid hs
  have HPS := Lib.hid hps
  have c2 := h.c2
  have hlt := h.lt
  have HSO := Lib.hid (sorted_files h.now hs hn)
  clear h hs hps
  go_enter Tryz.func36, Tryz.ntmps36
  go_wp2_with (first
    | (go_at_call 61; refine (keys_call bn w).mono ?_; rintro e w1 ⟨rfl, rfl⟩)
    | (go_at_call 60; refine HSO.out.mono ?_; rintro e w1 ⟨av, cv, rfl, hr, hb⟩; have HR := Lib.hid hr; have HB := Lib.hid hb; clear hr hb))
  have hsz := HB.out.size
  obtain ⟨i0, hi, hz0, hz1, hz2⟩ := info_parts infoFl
  go_loopw [3, 13] (fun v3 i wr => ∃ (k : Nat), k ≤ T.l.length ∧ i = .int .i64 k ∧ Hid (wr.ownsRow w1.heap.size 95 2 v3 k ((T.l.take k).flatMap flCells)) ∧ Hid (Below w1.heap.size w1 wr))
    (fun v3 i _ => T.l.length - (intOf i).toNat)
  case atStart => exact ⟨0, Nat.zero_le _, rfl, ⟨rfl, .inl ⟨rfl, rfl⟩⟩, Below.refl _ _⟩
  case round =>
    obtain ⟨k, hk, rfl, HO, HB1⟩ := hrel
    by_cases hlk : k < T.l.length
    · have hBw : Hid (Below w.heap.size w wr) := HB.out.trans (HB1.out.mono hsz)
      have d2 := (hBw.out.cell (p := ⟨p, 2, none⟩) hlt).trans c2
      have hkey : ∃ g, av = some ⟨g, 0, none⟩ ∧ wr.cell? ⟨g, k, none⟩ = some (.string T.l[k].f0) := by
        have hR := HR.out
        rcases hR.2 with ⟨e1, e2⟩ | ⟨g, cap, cur, e1, e2, e3, e4⟩
        · omega
        · cases e1
          have h1 := hR.cellAt k (by omega)
          rw [List.getElem?_map, List.getElem?_eq_getElem hlk] at h1
          refine ⟨g, rfl, ?_⟩
          rw [HB1.out.cell (p := ⟨g, k, none⟩) (Array.getElem?_eq_some_iff.1 e3).1, h1]
          rfl
      obtain ⟨g, rfl, hc⟩ := hkey
      have hmem : Hid (T.l[k] ∈ T.l) := List.getElem_mem hlk
      have hst : Hid ((T.l.take (k + 1)).flatMap flCells = (T.l.take k).flatMap flCells ++ flCells T.l[k]) := by
        rw [Hid, List.take_succ_eq_append_getElem hlk, List.flatMap_append]
        simp
      generalize T.l[k] = f at hc hmem hst
      have hfind := Lib.hid (find_of_srt HS.out hmem.out)
      have hfp := HPS.out f hmem.out
      have himg : Hid (Img wr φ bn T.l) := HT.out.now.below hBw.out
      have hfiles : Hid (FilesOK wr φ) := HT.out.files.below hBw.out
      have H63 : Hid (k + 1 ≤ maxLen) := by unfold Hid maxLen; omega
      have HBB : Hid ((k + 1) * 32 ≤ 140737488355328) := by unfold Hid; omega
      have HSW := Lib.hid HB1.out.size
      have hone : Hid (∀ u ∈ flCells f, u.oneCell' = true) := by
        intro u hu
        simp only [flCells, List.mem_cons, List.not_mem_nil, or_false] at hu
        rcases hu with rfl | rfl <;> rfl
      have hnw : Hid (∀ (j : Nat) u, (flCells f)[j]? = some u → (wr.alloc (.cells #[.string f.f0, .string f.f1] 95)).cell? ((⟨wr.heap.size, 0, none⟩ : Addr).add j) = some u) := World.news_of_block (World.alloc_heap_new wr _)
      go_wp2_with (first
        | (at_lookup; refine wpList_look_some _ rfl _ _ rfl bn f.f0 rfl himg.out rfl hfp _ hfind.out ?_; intro qb hqb; have hq0 := hfiles.out.cell0 hqb; clear hqb)
        | (at_builtin; refine wpList_append_own_at _ rfl _ _ 82 rfl w1.heap.size 95 i0 _ 2 32 Tryz.underlying82 hi hz0 hz1 hz2 rfl (by decide) _ k _ rfl (HO.out.alloc _) ⟨wr.heap.size, 0, none⟩ 1 1 (flCells f) rfl rfl hnw.out hone.out H63.out HBB.out (by rw [World.size_alloc]; exact Nat.le_succ_of_le HSW.out) ?_; intro v' w' h1 h2 h3 h4; have HX := Lib.hid h1; have HG := Lib.hid h2; clear h1 h2 h3 h4))
      go_roundw
      case rel =>
        refine ⟨k + 1, by omega, by go_num, by rw [hst.out]; exact HX.out, ?_⟩
        exact (HB1.out.alloc HSW.out _).grown HG.out (by rw [World.size_alloc]; exact Nat.le_succ_of_le HSW.out) fun b hb => (HO.out.lt b hb).1
      case measure => simp [intOf]; omega
    · have hkk : k = T.l.length := by omega
      subst hkk
      have hEnd : Hid (wr.ownsRow w.heap.size 95 2 u3 T.l.length (T.l.flatMap flCells)) := by
        have := HO.out
        rw [List.take_length] at this
        exact World.ownsRow.mono this hsz
      have hBw : Hid (Below w.heap.size w wr) := HB.out.trans (HB1.out.mono hsz)
      go_wp2_with fail
      go_ret
      exact ⟨_, rfl, hEnd.out, hBw.out⟩
end
end Go.Proofs.YtghbaehbgefpaaaGreatDoor.Fr
namespace Go.Proofs.YtghbaehbgefpaaaGreatDoor.Fr
open Go.RowKit Go.Proofs.YtghbaehbgefpaaaGreatDoor.F Go.Proofs.YtghbaehbgefpaaaGreatDoorW.PrintWords
theorem w64s (i : Nat) (h : i ≤ 100000000000) : wrap64 ((i : Int) + 1) = ((i + 1 : Nat) : Int) := by unfold wrap64; omega
theorem w64n (i : Int) (h0 : -100000000000000000 ≤ i) (h : i ≤ 100000000000000000) : wrap64 i = i := by unfold wrap64; omega
theorem rd_at (l : List Fl) (i : Nat) (h : i < l.length) : rd_T89 l (i : Int) = l[i] := by
  unfold rd_T89
  rw [Int.toNat_natCast, List.getD_eq_getElem?_getD, List.getElem?_eq_getElem h]
  rfl
def isP (q : ByteArray) (f : Fl) : Bool := f.f0.data.toList == q.data.toList
def findI (l : List Fl) (q : ByteArray) : Int := match l.findIdx? (isP q) with | some i => (i : Int) | none => -1
theorem Find_l0 (l : List Fl) (q : ByteArray) (hl : l.length ≤ 1000000) : ∀ (k i : Nat), i ≤ l.length → l.length < k + i → cooperageref5_Find.l0 k l q i = some (match (l.drop i).findIdx? (isP q) with | some j => ((i + j : Nat) : Int) | none => -1)
  | 0, i, h1, h2 => absurd h2 (by omega)
  | k + 1, i, h1, h2 => by
    unfold cooperageref5_Find.l0
    by_cases hi : i < l.length
    · rw [if_pos (by omega), if_pos (by omega), rd_at l i hi, List.drop_eq_getElem_cons hi, List.findIdx?_cons]
      by_cases hp : isP q l[i] = true
      · have hp' : l[i].f0.toList = q.toList := by
          unfold isP at hp
          rw [ByteArray.toList_eq, ByteArray.toList_eq]
          exact beq_iff_eq.1 hp
        rw [if_pos hp', if_pos hp]
        simp
      · have hp' : ¬ l[i].f0.toList = q.toList := by
          intro e
          apply hp
          unfold isP
          rw [ByteArray.toList_eq, ByteArray.toList_eq] at e
          exact beq_iff_eq.2 e
        rw [if_neg hp', if_neg hp, w64s i (by omega), Find_l0 l q hl k (i + 1) (by omega) (by omega)]
        cases (l.drop (i + 1)).findIdx? (isP q) with
        | none => rfl
        | some j =>
          simp only [Option.map_some]
          have e : ((i + 1 + j : Nat) : Int) = ((i + (j + 1) : Nat) : Int) := by congr 1; omega
          exact congrArg some e
    · rw [if_neg (by omega)]
      rw [List.drop_eq_nil_of_le (by omega)]
      rfl
theorem Find_f (l : List Fl) (q : ByteArray) (hl : l.length ≤ 1000000) : cooperageref5_Find.f (l.length + 1) l q = some (findI l q) := by
  have := Find_l0 l q hl (l.length + 1) 0 (by omega) (by omega)
  unfold cooperageref5_Find.f findI
  rw [show (0 : Int) = ((0 : Nat) : Int) from rfl, this, List.drop_zero]
  cases l.findIdx? (isP q) <;> simp
theorem findI_none {l : List Fl} {q : ByteArray} (h : findF l q = none) : findI l q = -1 := by
  unfold findI
  have : l.findIdx? (isP q) = none := by
    rw [List.findIdx?_eq_none_iff]
    intro x hx
    unfold findF at h
    rw [List.find?_eq_none] at h
    simpa [isP] using h x hx
  rw [this]
theorem findI_some {l : List Fl} {q : ByteArray} {f : Fl} (h : findF l q = some f) : ∃ i, ∃ hi : i < l.length, findI l q = (i : Int) ∧ l[i] = f := by
  have h1 : l.findIdx? (isP q) ≠ none := by
    intro e
    rw [List.findIdx?_eq_none_iff] at e
    have := e f (List.mem_of_find?_eq_some h)
    have h2 := List.find?_some h
    unfold isP at this
    rw [h2] at this
    cases this
  cases e : l.findIdx? (isP q) with
  | none => exact absurd e h1
  | some i =>
    have e' := e
    rw [List.findIdx?_eq_some_iff_getElem] at e
    obtain ⟨hi, hp, hlt⟩ := e
    refine ⟨i, hi, ?_, ?_⟩
    · unfold findI
      rw [e']
    · unfold findF at h
      have : l.find? (isP q) = some l[i] := by
        rw [List.find?_eq_some_iff_getElem]
        exact ⟨hp, i, hi, rfl, fun j hj => by simpa using hlt j hj⟩
      have h3 : l.find? (isP q) = some f := h
      rw [this] at h3
      exact Option.some.inj h3
theorem drop_l0 (l : List Fl) (q : ByteArray) (hl : l.length ≤ 1000000) : ∀ (k i : Nat) (out : List Fl), i ≤ l.length → l.length < k + i → out.length ≤ i → cooperageref5_drop.l0 k l q out i = some (out ++ dropF (l.drop i) q)
  | 0, i, out, h1, h2, h3 => absurd h2 (by omega)
  | k + 1, i, out, h1, h2, h3 => by
    unfold cooperageref5_drop.l0
    by_cases hi : i < l.length
    · rw [if_pos (by omega), if_pos (by omega), rd_at l i hi, List.drop_eq_getElem_cons hi]
      by_cases hp : l[i].f0.toList = q.toList
      · rw [if_pos hp, w64s i (by omega), drop_l0 l q hl k (i + 1) out (by omega) (by omega) (by omega)]
        unfold dropF
        rw [List.filter_cons_of_neg]
        rw [ByteArray.toList_eq, ByteArray.toList_eq] at hp
        simp [hp]
      · rw [if_neg hp, if_pos (by omega), w64s i (by omega), drop_l0 l q hl k (i + 1) _ (by omega) (by omega) (by simp; omega)]
        unfold dropF
        rw [List.filter_cons_of_pos]
        · rw [List.append_assoc]
          rfl
        · rw [ByteArray.toList_eq, ByteArray.toList_eq] at hp
          simp only [Bool.not_eq_true', beq_eq_false_iff_ne]
          exact hp
    · rw [if_neg (by omega), List.drop_eq_nil_of_le (by omega)]
      simp [dropF]
theorem drop_f (l : List Fl) (q : ByteArray) (hl : l.length ≤ 1000000) (k : Nat) (hk : l.length < k) : cooperageref5_drop.f k l q = some (dropF l q) := by
  unfold cooperageref5_drop.f
  have := drop_l0 l q hl k 0 [] (by omega) (by omega) (by simp)
  simpa using this
theorem less_before : ∀ (a b : List UInt8), Op.bytesLess a b = bytesBefore a b
  | [], [] => rfl
  | [], _ :: _ => rfl
  | _ :: _, [] => rfl
  | x :: xs, y :: ys => by
    unfold Op.bytesLess bytesBefore
    rw [less_before xs ys]
theorem put_done (l : List Fl) (p s : ByteArray) (t : Int) (hl : l.length ≤ 1000000) : ∀ (k i : Nat) (out : List Fl), i ≤ l.length → l.length < k + i → out.length ≤ i + 1 → cooperageref5_put.l0 k l out true i p s t = some (out ++ l.drop i)
  | 0, i, out, h1, h2, h3 => absurd h2 (by omega)
  | k + 1, i, out, h1, h2, h3 => by
    unfold cooperageref5_put.l0
    by_cases hi : i < l.length
    · rw [if_pos (by omega), if_pos rfl, if_pos (by omega), if_pos (by omega), rd_at l i hi, w64s i (by omega), put_done l p s t hl k (i + 1) _ (by omega) (by omega) (by simp; omega), List.drop_eq_getElem_cons hi, List.append_assoc]
      rfl
    · rw [if_neg (by omega), if_pos rfl, List.drop_eq_nil_of_le (by omega)]
      simp
theorem insF_lt {f g : Fl} {r : List Fl} (h : ltB f.f0 g.f0 = true) : insF f (g :: r) = f :: g :: r := if_pos h
theorem insF_ge {f g : Fl} {r : List Fl} (h : ¬ ltB f.f0 g.f0 = true) : insF f (g :: r) = g :: insF f r := if_neg h
theorem put_l0 (l : List Fl) (p s : ByteArray) (t : Int) (hl : l.length ≤ 1000000) : ∀ (k i : Nat) (out : List Fl), i ≤ l.length → l.length < k + i → out.length ≤ i → cooperageref5_put.l0 k l out false i p s t = some (out ++ insF ⟨p, s, t⟩ (l.drop i))
  | 0, i, out, h1, h2, h3 => absurd h2 (by omega)
  | k + 1, i, out, h1, h2, h3 => by
    unfold cooperageref5_put.l0
    by_cases hi : i < l.length
    · rw [if_pos (by omega), if_neg (by simp), if_pos (by omega), rd_at l i hi, List.drop_eq_getElem_cons hi, less_before]
      have hb : (ltB p l[i].f0 = true) = (bytesBefore p.toList l[i].f0.toList = true) := by
        unfold ltB
        rw [ByteArray.toList_eq, ByteArray.toList_eq]
      by_cases hlt : ltB p l[i].f0 = true
      · rw [if_pos (hb ▸ hlt), if_pos (by omega)]
        show (if (out ++ [_]).length < 3518437208883 then _ else _) = _
        rw [if_pos (by simp; omega), w64s i (by omega), put_done l p s t hl k (i + 1) _ (by omega) (by omega) (by simp; omega)]
        rw [insF_lt (f := ⟨p, s, t⟩) hlt, List.append_assoc, List.append_assoc]
        rfl
      · rw [if_neg (hb ▸ hlt), if_pos (by omega), w64s i (by omega), put_l0 l p s t hl k (i + 1) _ (by omega) (by omega) (by simp; omega)]
        rw [insF_ge (f := ⟨p, s, t⟩) hlt, List.append_assoc]
        rfl
    · rw [if_neg (by omega), if_neg (by simp), if_pos (by omega), List.drop_eq_nil_of_le (by omega)]
      simp [insF]
theorem dropF_length (l : List Fl) (q : ByteArray) : (dropF l q).length ≤ l.length := List.length_filter_le _ _
theorem put_f (l : List Fl) (p s : ByteArray) (t : Int) (hl : l.length ≤ 1000000) : cooperageref5_put.f (l.length + 1) l p s t = some (putF l ⟨p, s, t⟩) := by
  unfold cooperageref5_put.f
  rw [drop_f l p hl _ (by omega)]
  have h := dropF_length l p
  have := put_l0 (dropF l p) p s t (by omega) (l.length + 1) 0 [] (by omega) (by omega) (by simp)
  have h2 : cooperageref5_put.l0 (l.length + 1) (dropF l p) [] false 0 p s t = some (insF ⟨p, s, t⟩ (dropF l p)) := by simpa using this
  exact h2
def blockR (l : List Fl) (q : ByteArray) : Bool := l.any fun f => wayR f.f0 q || wayR q f.f0
theorem blocked_l0 (l : List Fl) (q : ByteArray) (hl : l.length ≤ 1000000) : ∀ (k i : Nat), i ≤ l.length → l.length < k + i → cooperageref5_blocked.l0 k l q i = some (blockR (l.drop i) q)
  | 0, i, h1, h2 => absurd h2 (by omega)
  | k + 1, i, h1, h2 => by
    unfold cooperageref5_blocked.l0
    by_cases hi : i < l.length
    · rw [if_pos (by omega), if_pos (by omega), rd_at l i hi, List.drop_eq_getElem_cons hi, w64s i (by omega), blocked_l0 l q hl k (i + 1) (by omega) (by omega)]
      unfold cooperageref5_way.f blockR
      rw [List.any_cons]
      cases h3 : wayR l[i].f0 q
      · cases h4 : wayR q l[i].f0 <;> simp
      · simp
    · rw [if_neg (by omega), List.drop_eq_nil_of_le (by omega)]
      rfl
theorem blocked_f (l : List Fl) (q : ByteArray) (hl : l.length ≤ 1000000) : cooperageref5_blocked.f (l.length + 1) l q = some (blockR l q) := by
  have := blocked_l0 l q hl (l.length + 1) 0 (by omega) (by omega)
  unfold cooperageref5_blocked.f
  simpa using this
theorem used_l0 (l : List Fl) (hl : l.length ≤ 1000000) (hu : usedF l ≤ 10000000000000000) : ∀ (k i : Nat), i ≤ l.length → l.length < k + i → cooperageref5_used.l0 k l ((usedF (l.take i) : Nat) : Int) i = some ((usedF l : Nat) : Int)
  | 0, i, h1, h2 => absurd h2 (by omega)
  | k + 1, i, h1, h2 => by
    unfold cooperageref5_used.l0
    by_cases hi : i < l.length
    · have e1 : usedF (l.take (i + 1)) = usedF (l.take i) + l[i].f1.size := by
        unfold usedF
        rw [List.take_succ_eq_append_getElem hi, List.map_append, List.sum_append]
        simp
      have e2 : usedF (l.take (i + 1)) ≤ usedF l := by
        have : l = l.take (i + 1) ++ l.drop (i + 1) := (List.take_append_drop _ _).symm
        conv => rhs; rw [this]
        unfold usedF
        rw [List.map_append, List.sum_append]
        omega
      have e3 : wrap64 ((usedF (l.take i) : Int) + (l[i].f1.size : Int)) = (usedF (l.take (i + 1)) : Int) := by
        rw [w64n _ (by omega) (by omega), e1]
        omega
      simp only [rd_at l i hi, w64s i (by omega), e3, used_l0 l hl hu k (i + 1) (by omega) (by omega)]
      rw [if_pos (by omega), if_pos (by omega)]
    · have : i = l.length := by omega
      subst this
      rw [if_neg (by omega), List.take_length]
theorem used_f (l : List Fl) (hl : l.length ≤ 1000000) (hu : usedF l ≤ 10000000000000000) : cooperageref5_used.f (l.length + 1) l = some ((usedF l : Nat) : Int) := by
  have := used_l0 l hl hu (l.length + 1) 0 (by omega) (by omega)
  unfold cooperageref5_used.f
  simpa [usedF] using this
end Go.Proofs.YtghbaehbgefpaaaGreatDoor.Fr
