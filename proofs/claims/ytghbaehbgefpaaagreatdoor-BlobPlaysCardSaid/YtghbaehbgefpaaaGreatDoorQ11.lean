import Derived.Test.YtghbaehbgefpaaaGreatDoorQ10
import Derived.Deep.AppendLies
import Derived.Deep.RegionWith
import Derived.Deep.RegionLaw
import Derived.Deep.Cut
import Derived.Deep.CutRange
import Derived.Deep.DeepCutAuto
import Derived.Test.YtghbaehbgefpaaaGreatDoorQ08
import Derived.Test.YtghbaehbgefpaaaGreatDoorQ09
/- Several texts of this session in one: the walks of the functions that the laws reach, and what they tell. -/
set_option linter.unusedVariables false
set_option linter.unusedSimpArgs false
namespace Go.Proofs.YtghbaehbgefpaaaGreatDoor.Fr
open Go.RowKit Go.Proofs.YtghbaehbgefpaaaGreatDoor.F Go.Maps
def KindOK (c : Cg) : Prop := c.f0 = 1 ∨ c.f0 = 2 ∨ c.f0 = 3 ∨ c.f0 = 4
structure CgOK (c : Cg) : Prop where
  kind : KindOK c
  path : c.f1.size ≤ 100000
  text : c.f2.size ≤ 1000000000
  dest : c.f0 = 4 → c.f2.size ≤ 100000
theorem do_call (c : Cg) (hc : CgOK c) (b : Nat) (L : List Fl) (φ : Phi) (w : World) (hF : FilesOK w φ) (hI : Img w φ b L) (hb : φ b = none) (hL : L.length ≤ 100000) (hfs : ∀ f ∈ L, f.f1.size ≤ 1000000000000) :
    Calls Tryz.prog 33 #[cgV c, .map (some b), .int .i64 (-1)] w (DoEnd φ b (afterF L c) w) := by
  obtain ⟨k, p, s, tm⟩ := c
  have h1 : p.size ≤ 100000 := hc.path
  have h2 : s.size ≤ 1000000000 := hc.text
  have hcs : cutS s (-1) = s := cutS_neg (by decide)
  rcases hc.kind with e | e | e | e
  · obtain rfl : k = 1 := e
    have := do_written p s tm (-1) b L φ w hF hI hb hL h1 h2 (by decide)
    rw [hcs] at this
    exact this
  · obtain rfl : k = 2 := e
    have e1 : afterF L ⟨2, p, s, tm⟩ = putF L ⟨p, textF L p ++ s, tm⟩ := rfl
    rw [e1]
    cases hf : findF L p with
    | none =>
      have := do_app_none p s tm (-1) b L φ w hF hI hb hL h1 h2 (by decide) hf
      rw [hcs] at this
      have e2 : textF L p = ⟨#[]⟩ := by unfold textF; rw [hf]
      have e3 : (⟨#[]⟩ : ByteArray) ++ s = s := by
        apply ByteArray.ext
        simp
      rw [e2, e3]
      exact this
    | some f =>
      have := do_app_some p s tm (-1) b L φ w hF hI hb hL h1 h2 (by decide) f hf (hfs f (mem_of_find hf))
      rw [hcs] at this
      have e2 : textF L p = f.f1 := by unfold textF; rw [hf]
      rw [e2]
      exact this
  · obtain rfl : k = 3 := e
    have e1 : afterF L ⟨3, p, s, tm⟩ = dropF L p := rfl
    rw [e1]
    cases hf : findF L p with
    | none =>
      have e2 : dropF L p = L := by
        unfold dropF
        rw [List.filter_eq_self]
        intro f hm
        unfold findF at hf
        rw [List.find?_eq_none] at hf
        simpa using hf f hm
      rw [e2]
      exact do_none p s tm b L φ w hF hI hb hL h1 3 (.inl rfl) hf
    | some f => exact do_removed p s tm b L φ w hF hI hb hL h1 f hf
  · obtain rfl : k = 4 := e
    have e1 : afterF L ⟨4, p, s, tm⟩ = match findF L p with | none => L | some f => putF (dropF L p) ⟨s, f.f1, f.f2⟩ := rfl
    rw [e1]
    cases hf : findF L p with
    | none => exact do_none p s tm b L φ w hF hI hb hL h1 4 (.inr rfl) hf
    | some f => exact do_renamed p s tm b L φ w hF hI hb hL h1 f hf (hc.dest rfl)
def doneT (T : TS) (c : Cg) : TS := { T with clock := T.clock + 1, l := afterF T.l c, ch := T.ch ++ [c] }
def TrEnd (w : World) (φ : Phi) (p : Nat) (A : Nat → Prop) (T' : TS) (w' : World) : Prop :=
  ∃ φ' A', Tr w' φ' p T' A' ∧ Ext w φ φ' ∧ Chg A w w' ∧ ∀ k, A' k → A k ∨ w.heap.size ≤ k
section
variable {φ : Phi} {p : Nat} {T : TS} {A : Nat → Prop}
theorem infoC : (Tryz.prog.info? 78).map (fun i => (i.zero, i.size, i.bytes)) = some (some (.agg #[.int .i64 0, .string ⟨#[]⟩, .string ⟨#[]⟩, .int .i64 0]), 4, 48) := by kernel_rfl
def DoneMid (w : World) (φ : Phi) (p : Nat) (T : TS) (A : Nat → Prop) (bn bl : Nat) (v : Value) (c : Cg) (wc : World) : Prop :=
  ∃ φ', Ext w φ φ' ∧ TrAt wc φ' p { T with clock := T.clock + 1, l := afterF T.l c } A bn bl v ∧ Chg A w wc ∧ wc.heap[w.heap.size]? = some (.cells #[.int .i64 (c.f0 - 1), .string c.f1, .string c.f2, .int .i64 c.f3] 78 (0, 0))
theorem done_mid {w w3 : World} {bn bl : Nat} {v : Value} {c : Cg} {φ' : Phi} (h : TrAt w φ p T A bn bl v)
    (hE : Ext (((w.setCell ⟨p, 1, none⟩ (.int .i64 (T.clock + 1))).alloc (.cells #[.int .i64 (c.f0 - 1), .string c.f1, .string c.f2, .int .i64 c.f3] 78)).drew) φ φ') (hF : FilesOK w3 φ') (hI : Img w3 φ' bn (afterF T.l c))
    (hC : Chg (fun k => k = bn) (((w.setCell ⟨p, 1, none⟩ (.int .i64 (T.clock + 1))).alloc (.cells #[.int .i64 (c.f0 - 1), .string c.f1, .string c.f2, .int .i64 c.f3] 78)).drew) w3) : DoneMid w φ p T A bn bl v c w3 := by
  obtain ⟨W1, hW1⟩ : ∃ W1, W1 = (((w.setCell ⟨p, 1, none⟩ (.int .i64 (T.clock + 1))).alloc (.cells #[.int .i64 (c.f0 - 1), .string c.f1, .string c.f2, .int .i64 c.f3] 78)).drew) := ⟨_, rfl⟩
  rw [← hW1] at hE hC
  have hsz : W1.heap.size = w.heap.size + 1 := by
    rw [hW1]
    show ((w.setCell _ _).alloc _).heap.size = _
    rw [World.size_alloc]
    simp
  have hC1 : Chg (fun k => k = p) w W1 := by
    rw [hW1]
    exact (((Chg.refl (fun k => k = p) w).setCell (p := ⟨p, 1, none⟩) (fun _ => rfl) _).alloc _).drew
  have hnew : W1.heap[w.heap.size]? = some (.cells #[.int .i64 (c.f0 - 1), .string c.f1, .string c.f2, .int .i64 c.f3] 78 (0, 0)) := by
    rw [hW1]
    show ((w.setCell _ _).alloc _).heap[w.heap.size]? = _
    have := World.alloc_heap_new (w.setCell ⟨p, 1, none⟩ (.int .i64 (T.clock + 1))) (.cells #[.int .i64 (c.f0 - 1), .string c.f1, .string c.f2, .int .i64 c.f3] 78)
    rwa [show (w.setCell ⟨p, 1, none⟩ (.int .i64 (T.clock + 1))).heap.size = w.heap.size by simp] at this
  have hat1 : W1.heap[p]? = some (.cells #[.int .i64 T.room, .int .i64 (T.clock + 1), .map (some bn), .map (some bl), v] 76 (0, 0)) := by
    rw [hW1]
    show ((w.setCell _ _).alloc _).heap[p]? = _
    rw [Below.heap_alloc _ _ _ (by simpa using h.lt), heap_setCell_same w p 1 _ _ _ h.at_]
    simp
  have hcall : Chg A w w3 := (hC1.mono fun k _ e => e ▸ h.ap).trans hC fun k _ e => e ▸ h.an
  have hrow : ∀ k, v.ownBlock = some k → w3.heap[k]? = w.heap[k]? := by
    intro k hk
    obtain ⟨n1, n2, n3⟩ := h.row_ne hk
    have hkl := (h.free k (h.ar k hk)).1
    exact (hC.block k (by omega) n2).trans (hC1.block k hkl n1)
  refine ⟨φ', ⟨hE.keeps, fun k e => (hE.new k e).imp id fun h => by omega⟩, ?_, hcall, ?_⟩
  · exact {
      files := hF
      at_ := (hC.block p (by have := h.lt; omega) h.p_ne.1).trans hat1
      now := hI
      last := ((h.last.chg hC1 (fun e => h.p_ne.2 e.symm)).chg hC (fun e => h.ne e.symm)).ext hE.keeps
      row := ownsRow_block h.row hrow
      ne := h.ne
      ap := h.ap
      an := h.an
      al := h.al
      ar := h.ar
      free := fun k hk => by
        obtain ⟨h1, h2⟩ := h.free k hk
        refine ⟨Nat.lt_of_lt_of_le h1 hcall.size, ?_⟩
        cases e : φ' k with
        | none => rfl
        | some f =>
          rcases hE.new k (by rw [e]; simp) with h3 | h3
          · exact absurd h2 h3
          · omega }
  · exact (hC.block _ (by omega) (by have := h.now.lt; omega)).trans hnew
theorem done_end {w wc w4 : World} {φ' : Phi} {T1 : TS} {bn bl g cap : Nat} {v : Value} {c : Cg} {o : Obj} (hE : Ext w φ φ') (h : TrAt wc φ' p T1 A bn bl v) (hC : Chg A w wc)
    (hown : w4.ownsRow 0 78 4 (.slice (some ⟨g, 0, none⟩) (T1.ch.length + 1) cap) (T1.ch.length + 1) (T1.ch.flatMap chCells ++ chCells c)) (hgrow : World.grownBy (wc.alloc o).drew w4 v.ownBlock) (hloc : v.ownBlock = some g ∨ g = wc.heap.size + 1) :
    TrEnd w φ p A { T1 with ch := T1.ch ++ [c] } (w4.setCell ⟨p, 4, none⟩ (.slice (some ⟨g, 0, none⟩) (T1.ch.length + 1) cap)) := by
  have hsz : (wc.alloc o).drew.heap.size = wc.heap.size + 1 := World.size_alloc wc o
  have hblk : ∀ k, k < wc.heap.size → v.ownBlock ≠ some k → w4.heap[k]? = wc.heap[k]? := fun k hk hn => (hgrow.block k (by omega) (fun e => hn e.symm)).trans (Below.heap_alloc wc o k hk)
  have hp4 : w4.heap[p]? = wc.heap[p]? := hblk p h.lt fun e => (h.row_ne e).1 rfl
  have hgp : g ≠ p := by
    rcases hloc with e | e
    · exact (h.row_ne e).1
    · have := h.lt
      omega
  have hC4 : Chg (fun k => v.ownBlock = some k) wc w4 := ((Chg.refl _ wc).alloc o).drew.grown hgrow fun k e _ => e
  have hC5 : Chg (fun k => v.ownBlock = some k ∨ k = p) wc (w4.setCell ⟨p, 4, none⟩ (.slice (some ⟨g, 0, none⟩) (T1.ch.length + 1) cap)) :=
    (hC4.mono fun k _ e => .inl e).setCell (p := ⟨p, 4, none⟩) (fun _ => .inr rfl) _
  have hS : ∀ q, φ' q ≠ none → ¬ (v.ownBlock = some q ∨ q = p) := by
    rintro q hq (e | rfl)
    · exact hq (h.free q (h.ar q e)).2
    · exact hq (h.free q h.ap).2
  have hnb : ∀ b, b ≠ p → v.ownBlock ≠ some b → ¬ (v.ownBlock = some b ∨ b = p) := fun b h1 h2 h3 => h3.elim h2 h1
  refine ⟨φ', fun k => A k ∨ k = g, ⟨bn, bl, .slice (some ⟨g, 0, none⟩) (T1.ch.length + 1) cap, ?_⟩, hE, hC.trans hC5 (fun k _ e => e.elim (fun e => h.ar k e) fun e => e ▸ h.ap), ?_⟩
  · exact {
      files := h.files.chg hC5 hS
      at_ := by
        rw [heap_setCell_same w4 p 4 _ _ _ (hp4.trans h.at_)]
        simp
      now := h.now.chg hC5 (hnb bn (fun e => h.p_ne.1 e.symm) fun e => (h.row_ne e).2.1 rfl)
      last := h.last.chg hC5 (hnb bl (fun e => h.p_ne.2 e.symm) fun e => (h.row_ne e).2.2 rfl)
      row := by
        have h1 : (T1.ch ++ [c]).length = T1.ch.length + 1 := by simp
        have h2 : (T1.ch ++ [c]).flatMap chCells = T1.ch.flatMap chCells ++ chCells c := by simp
        show World.ownsRow _ 0 _ 4 _ (T1.ch ++ [c]).length _
        rw [h1, h2]
        refine ownsRow_block hown fun k hk => ?_
        have : g = k := by simpa [Value.ownBlock] using hk
        subst this
        exact Below.heap_setCell w4 ⟨p, 4, none⟩ _ g hgp
      ne := h.ne
      ap := .inl h.ap
      an := .inl h.an
      al := .inl h.al
      ar := fun k hk => by
        have : g = k := by simpa [Value.ownBlock] using hk
        exact .inr this.symm
      free := by
        intro k hk
        have hg4 : g < w4.heap.size := by
          rcases hown.2 with ⟨e, _⟩ | ⟨g', cap', cur, e, _, hh, _⟩
          · cases e
          · have : g = g' := by
              simp at e
              exact e.1
            subst this
            exact (Array.getElem?_eq_some_iff.1 hh).1
        rcases hk with hk | rfl
        · obtain ⟨h1, h2⟩ := h.free k hk
          exact ⟨Nat.lt_of_lt_of_le h1 hC5.size, h2⟩
        · refine ⟨by simpa using hg4, ?_⟩
          rcases hloc with e | e
          · exact (h.free k (h.ar k e)).2
          · cases e' : φ' k with
            | none => rfl
            | some f =>
              have := h.files.lt (q := k) (by rw [e']; simp)
              omega }
  · rintro k (hk | rfl)
    · exact .inl hk
    · rcases hloc with e | e
      · exact .inl (h.ar k e)
      · exact .inr (by have := hC.size; omega)
set_option maxHeartbeats 4000000 in
set_option maxRecDepth 100000 in
theorem done_call (w : World) (hT : Tr w φ p T A) (c : Cg) (hc : CgOK c) (hL : T.l.length ≤ 100000) (hfs : ∀ f ∈ T.l, f.f1.size ≤ 1000000000000) (hck : 0 ≤ T.clock ∧ T.clock ≤ 1000000000000) (hch : T.ch.length ≤ 1000000) :
    Calls Tryz.prog 80 #[.pointer (some ⟨p, 0, none⟩), cgV c] w fun e w' => e = .returned (.int .i64 0) ∧ TrEnd w φ p A (doneT T c) w' := by
  obtain ⟨bn, bl, v, h⟩ := hT
  have HT := Lib.hid h
  have HC := Lib.hid hc
  have HS := Lib.hid hfs
  have c1 := h.c1
  have c2 := h.c2
  have f1 : w.frozen? ⟨p, 1, none⟩ = false := by simp [World.frozen?, h.at_]
  have hlt := h.lt
  clear h hc hfs
  obtain ⟨k, q, s, tm⟩ := c
  unfold cgV
  go_enter Tryz.func80, Tryz.ntmps80
  go_wp2_with fail
  have HFI : Hid (∀ W, Chg (fun k => k = p) w W → FilesOK W φ ∧ Img W φ bn T.l) := fun W hW => ⟨HT.out.files.chg hW fun q hq e => hq (by rw [e]; exact (HT.out.free p HT.out.ap).2), HT.out.now.chg hW fun e => HT.out.p_ne.1 e.symm⟩
  have HB := Lib.hid (HT.out.free bn HT.out.an).2
  have HCH : Hid (∀ u o, Chg (fun k => k = p) w (((w.setCell ⟨p, 1, none⟩ u).alloc o).drew)) := fun u o => (((Chg.refl (fun k => k = p) w).setCell (p := ⟨p, 1, none⟩) (fun _ => rfl) u).alloc o).drew
  go_upto_region 2 with (fail)
  go_cut [4] (fun v4 wc => v4 = .int .i64 0 ∧ Hid (DoneMid w φ p T A bn bl v ⟨k, q, s, tm⟩ wc))
  case first =>
    go_region_with (first | (go_at_call 33; refine (do_call ⟨k, q, s, tm⟩ HC.out bn T.l φ _ (HFI.out _ (HCH.out _ _)).1 (HFI.out _ (HCH.out _ _)).2 HB.out hL HS.out).mono ?_; rintro e w3 ⟨rfl, φ', hE3, hF3, hI3, hC3⟩; have HM := Lib.hid (done_mid (c := ⟨k, q, s, tm⟩) HT.out hE3 hF3 hI3 hC3); clear hE3 hF3 hI3 hC3))
    all_goals
      go_wp2_with fail
      go_meet
      exact ⟨rfl, HM⟩
  case rest =>
    obtain ⟨rfl, hM⟩ := hcut
    obtain ⟨φ', hE, h3, hC, hbx⟩ := hM.out
    have H3 := Lib.hid h3
    have HE := Lib.hid hE
    have HCH := Lib.hid hC
    have hp3 := h3.lt
    have c4 := h3.c4
    have f4 : wc.frozen? ⟨p, 4, none⟩ = false := by simp [World.frozen?, h3.at_]
    have b0 : wc.cell? ⟨w.heap.size, 0, none⟩ = some (.int .i64 (k - 1)) := by simp [World.cell?, hbx]
    have b1 : wc.cell? ⟨w.heap.size, 1, none⟩ = some (.string q) := by simp [World.cell?, hbx]
    have b2 : wc.cell? ⟨w.heap.size, 2, none⟩ = some (.string s) := by simp [World.cell?, hbx]
    have b3 : wc.cell? ⟨w.heap.size, 3, none⟩ = some (.int .i64 tm) := by simp [World.cell?, hbx]
    clear h3 hE hC hbx hM
    obtain ⟨i0, hi, hz0, hz1, hz2⟩ := info_parts infoC
    have hO : Hid (World.ownsRow ((wc.alloc (.cells #[.int .i64 (k - 1), .string q, .string s, .int .i64 tm] 78)).drew) 0 78 4 v T.ch.length (T.ch.flatMap chCells)) := (H3.out.row.alloc _).drew
    have hnw : Hid (∀ (j : Nat) u, [Value.int .i64 (k - 1), .string q, .string s, .int .i64 tm][j]? = some u → ((wc.alloc (.cells #[.int .i64 (k - 1), .string q, .string s, .int .i64 tm] 78)).drew).cell? ((⟨wc.heap.size, 0, none⟩ : Addr).add j) = some u) := World.news_of_block (World.alloc_heap_new wc _)
    have hbx4 : Hid (∀ w4, World.grownBy ((wc.alloc (.cells #[.int .i64 (k - 1), .string q, .string s, .int .i64 tm] 78)).drew) w4 v.ownBlock → w4.cell? ⟨p, 4, none⟩ = some v ∧ w4.frozen? ⟨p, 4, none⟩ = false) := by
      intro w4 hg
      have e : w4.heap[p]? = wc.heap[p]? := (hg.block p (by show p < (wc.alloc _).heap.size; rw [World.size_alloc]; have := H3.out.lt; omega) fun e => (H3.out.row_ne e.symm).1 rfl).trans (Below.heap_alloc wc _ p H3.out.lt)
      rw [H3.out.at_] at e
      exact ⟨by simp [World.cell?, e], by simp [World.frozen?, e]⟩
    have hone : Hid (∀ u ∈ [Value.int .i64 (k - 1), .string q, .string s, .int .i64 tm], u.oneCell' = true) := by
      intro u hu
      simp only [List.mem_cons, List.not_mem_nil, or_false] at hu
      rcases hu with rfl | rfl | rfl | rfl <;> rfl
    have hsz1 : Hid ((wc.alloc (.cells #[.int .i64 (k - 1), .string q, .string s, .int .i64 tm] 78)).drew.heap.size = wc.heap.size + 1) := World.size_alloc _ _
    go_wp2_with fail
    go_region_law (first
      | (refine step_append_lies _ rfl (.tmp 22) (.tmp 24) 74 rfl 0 78 i0 _ 4 48 Tryz.underlying74 hi hz0 hz1 hz2 rfl (by decide) v T.ch.length (T.ch.flatMap chCells) (by simp [Act.eval, Act.put]) hO.out ⟨wc.heap.size, 0, none⟩ 1 1 [.int .i64 (k - 1), .string q, .string s, .int .i64 tm] (by simp [Act.eval, Act.put]) rfl hnw.out hone.out (by decide) (by unfold maxLen; omega) (by omega) (Nat.zero_le _) (wc.heap.size + 1) hsz1.out ?_; intro g cap w4 hown4 hgrow4 hloc4 hg4; obtain ⟨cp, fp⟩ := hbx4.out w4 hgrow4; have HE4 := Lib.hid (done_end (c := ⟨k, q, s, tm⟩) HE.out H3.out HCH.out hown4 hgrow4 hloc4); clear hown4 hgrow4 hloc4))
    all_goals
      go_wp2
      go_ret
      exact ⟨rfl, HE4.out⟩
end
structure Glob (w : World) : Prop where
  lt : 0 < w.heap.size
  cell : ∃ m, w.cell? ⟨0, 0, none⟩ = some (.int .i64 m)
theorem Glob.below {w w' : World} (h : Glob w) (hb : Below w.heap.size w w') : Glob w' :=
  ⟨Nat.lt_of_lt_of_le h.lt hb.size, by obtain ⟨m, hm⟩ := h.cell; exact ⟨m, (hb.cell (p := ⟨0, 0, none⟩) h.lt).trans hm⟩⟩
theorem path_call (s : ByteArray) (hs : s.size ≤ 100000) (w : World) (hG : Glob w) : Calls Tryz.prog 42 #[.string s] w fun e w' => e = .returned (.bool (pathV s)) ∧ Below w.heap.size w w' := by
  obtain ⟨m, hm⟩ := hG.cell
  exact path_walk s hs m w hG.lt hm
def hadT (T : TS) (q : ByteArray) : Nat := (textF T.l q).size
def sizeT (T : TS) (stays : Bool) (q s : ByteArray) : Nat := if stays = true then s.size + hadT T q else s.size
def manyT (T : TS) (q : ByteArray) : Nat := if (findF T.l q).isSome = true then T.l.length else T.l.length + 1
def fullT (T : TS) (stays : Bool) (q s : ByteArray) : Bool := decide (T.room < (usedF T.l : Int) - hadT T q + sizeT T stays q s) || decide (200 < manyT T q)
def writeE (T : TS) (stays : Bool) (q s : ByteArray) : Int :=
  if pathV q = false then 1 else if 16777216 < sizeT T stays q s then 3 else if blockT T.l q ⟨#[]⟩ = true then 5 else if fullT T stays q s = true then 6 else 0
def writeC (T : TS) (stays : Bool) (q s : ByteArray) : Cg := ⟨if stays = true then 2 else 1, q, s, T.clock + 1⟩
def writeT (T : TS) (stays : Bool) (q s : ByteArray) : TS := if writeE T stays q s = 0 then doneT T (writeC T stays q s) else T
section
variable {w w1 w' : World} {φ : Phi} {p : Nat} {T T' : TS} {A : Nat → Prop}
theorem TrEnd.same (h : Tr w φ p T A) (hb : Below w.heap.size w w') : TrEnd w φ p A T w' := ⟨φ, A, h.below hb, Ext.refl _ _, Chg.of_below hb _, fun _ hk => .inl hk⟩
theorem TrEnd.left (hb : Below w.heap.size w w1) (h : TrEnd w1 φ p A T' w') : TrEnd w φ p A T' w' := by
  obtain ⟨φ', A', h1, h2, h3, h4⟩ := h
  exact ⟨φ', A', h1, ⟨h2.keeps, fun q hq => (h2.new q hq).imp id fun e => Nat.le_trans hb.size e⟩, (Chg.of_below hb _).trans h3 fun _ _ e => e, fun k hk => (h4 k hk).imp id fun e => Nat.le_trans hb.size e⟩
structure TOK (T : TS) : Prop where
  room : 0 ≤ T.room ∧ T.room ≤ 1000000000000
  clock : 0 ≤ T.clock ∧ T.clock ≤ 1000000000000
  many : T.l.length ≤ 100000
  texts : ∀ f ∈ T.l, f.f1.size ≤ 1000000000
  paths : ∀ f ∈ T.l, f.f0.size ≤ 100000
  used : usedF T.l ≤ 1000000000000000
  chs : T.ch.length ≤ 1000000
end
end Go.Proofs.YtghbaehbgefpaaaGreatDoor.Fr
namespace Go.Proofs.YtghbaehbgefpaaaGreatDoor.Hand2
open Go.RowKit Go.Proofs.YtghbaehbgefpaaaGreatDoorW.PrintWords
structure Glob (w : World) : Prop where
  g : Fr.Glob w
  e0 : ∃ t p, w.cell? ⟨6, 0, none⟩ = some (.iface t p)
  bru : w.cell? ⟨5, 15, none⟩ = some (.int .u8 4)
  big : 7 < w.heap.size
theorem Glob.below {w w' : World} (h : Glob w) (hb : Below w.heap.size w w') : Glob w' where
  g := h.g.below hb
  e0 := by obtain ⟨t, p, e⟩ := h.e0; exact ⟨t, p, (hb.cell (p := ⟨6, 0, none⟩) (Hand.cell_lt' e)).trans e⟩
  bru := (hb.cell (p := ⟨5, 15, none⟩) (Hand.cell_lt' h.bru)).trans h.bru
  big := Nat.lt_of_lt_of_le h.big hb.size
def text_Unquote.f (a0 : ByteArray) : Option (ByteArray × Int) := if a0.size ≤ 100000 then some (Hand.unqP (Hand.unqV a0)) else none
theorem text_Unquote.calls (a0 : ByteArray) (r1 : ByteArray) (r2 : Int) (w : World) (hG : Glob w) (h : text_Unquote.f a0 = some (r1, r2)) :
    Calls Tryz.prog 136 #[.string a0] w fun e w' => e = .returned (.tuple #[.string r1, .int .i64 r2]) ∧ Below w.heap.size w w' := by
  unfold text_Unquote.f at h
  split at h
  next hs =>
    injection h with h
    obtain ⟨t0, p0, e0⟩ := hG.e0
    obtain ⟨m, hm⟩ := hG.g.cell
    have := Hand.unquote_walk a0 hs m w hG.big hm t0 p0 e0
    rw [h] at this
    exact this
  next => exact absurd h (by simp)
end Go.Proofs.YtghbaehbgefpaaaGreatDoor.Hand2
