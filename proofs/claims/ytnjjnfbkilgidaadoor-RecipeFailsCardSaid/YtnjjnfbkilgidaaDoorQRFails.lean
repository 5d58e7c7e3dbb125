import Derived.Test.YtnjjnfbkilgidaaDoorQPFails
import Derived.Test.YtnjjnfbkilgidaaDoorQD
/- RecipeFails: walked. -/
namespace Go.Proofs.YtnjjnfbkilgidaaDoor.Fr
open Go.RowKit Go.Proofs.YtnjjnfbkilgidaaDoor.F Go.Proofs.YtnjjnfbkilgidaaDoorW.PrintWords Go.Maps
open Go.Proofs.YtnjjnfbkilgidaaDoor.Pure (l1B l2B l3B l4B l5B nsB shortB smallB)
set_option linter.unusedVariables false
set_option linter.unusedSimpArgs false
theorem below_own {W w' : World} {base n : Nat} {e : TypeId} {v : Value} {xs : List Value} (h : W.ownsRow base e 1 v n xs) (hg : W.grownBy w' v.ownBlock) (hb : base ≤ W.heap.size) : Below base W w' :=
  ⟨hg.os, hg.tape, hg.output, hg.size, fun k hk => hg.block k (by omega) (fun e2 => by
    rcases h.2 with ⟨rfl, _⟩ | ⟨g, cap, cur, rfl, hbg, _⟩
    · cases e2
    · have : k = g := Option.some.inj e2
      omega)⟩
theorem newOwn0 (W : World) : (W.alloc (.cells #[] 9)).ownsRow W.heap.size 9 1 (.slice (some ⟨W.heap.size, 0, none⟩) 0 0) 0 [] :=
  ⟨rfl, .inr ⟨_, 0, #[], rfl, Nat.le_refl _, World.alloc_heap_new _ _, Nat.le_refl _, Nat.zero_le _, rfl, rfl⟩⟩
theorem news_of (W : World) (xs : List Value) : ∀ j u, xs[j]? = some u → (W.alloc (.cells xs.toArray 9)).cell? ((⟨W.heap.size, 0, none⟩ : Addr).add j) = some u := World.news_of_block (World.alloc_heap_new W _)
/-- A row that holds l, as it was handed in, at any later world. -/
theorem cells_of {W : World} {ad : Addr} {l : List ByteArray} (h : Kd.C Kd.string W (some ad) l.length l) : ∀ j u, (l.map Value.string)[j]? = some u → W.cell? (ad.add j) = some u := fun j u hj => by
  rw [List.getElem?_map] at hj
  obtain ⟨y, hy, rfl⟩ := Option.map_eq_some_iff.1 hj
  obtain ⟨hk, rfl⟩ := List.getElem?_eq_some_iff.1 hy
  obtain ⟨ad', e, hc⟩ := strs_at h hk
  obtain rfl : ad = ad' := by injection e
  exact hc
theorem C_none {W : World} {l : List ByteArray} (h : Kd.C Kd.string W none l.length l) : l = [] := by
  cases l with
  | nil => rfl
  | cons a r => obtain ⟨ad, e, _⟩ := strs_at h (k := 0) (by simp); cases e
theorem path_loop (ins : List Fi) : (∃ i, ∃ h : i < ins.length, ins[i].f0.toList = nsB.toList) ∨ ∀ f ∈ ins, f.f0.toList ≠ nsB.toList := by
  by_cases h : ∃ i, ∃ h : i < ins.length, ins[i].f0.toList = nsB.toList
  · exact .inl h
  · refine .inr fun f hf e => h ?_
    obtain ⟨i, hi, rfl⟩ := List.getElem_of_mem hf
    exact ⟨i, hi, e⟩
set_option maxHeartbeats 8000000 in
set_option maxRecDepth 100000 in
theorem R_RecipeFails {W : World} (hG : Glob W) (A0 : Option Addr) (c0 : Nat) (l : List ByteArray) (h0 : Kd.C Kd.string W A0 l.length l) (hc0 : l.length ≤ c0) (A1 : Option Addr) (c1 : Nat) (ins : List Fi) (h1 : Fls W A1 c1 ins) :
    Calls Tryd.prog 5 #[.slice A0 l.length c0, .slice A1 ins.length c1] W fun e w' => e = .returned (.bool true) ∧ Below W.heap.size W w' := by
  obtain ⟨ks, hks⟩ := (Pure.short_f l).get
  obtain ⟨km, hkm⟩ := (Pure.small_f ins).get
  have HG := Lib.hid hG
  have HL := Lib.hid h0
  have HI := Lib.hid h1.1
  have HC0 := Lib.hid hc0
  have HC1 := Lib.hid h1.2
  have HK1 := Lib.hid hks
  have HK2 := Lib.hid hkm
  have HSB : Hid (shortB l = true → l.length ≤ 30 ∧ ∀ x ∈ l, x.size ≤ 5000) := Pure.shortB_get
  have HMB : Hid (smallB ins = true → ins.length ≤ 12 ∧ ∀ x ∈ ins, x.f1.size ≤ 5000 ∧ x.f0.size ≤ 120) := Pure.smallB_get
  generalize shortB l = sb at HK1 HSB
  generalize smallB ins = mb at HK2 HMB
  clear hG h0 h1 hc0 hks hkm
  go_enter Tryd.func5, Tryd.ntmps5
  go_upto_region 4 with (first
    | (go_at_call 8; refine (K.cooperagelaw15_shown.calls true _ HG.out Pure.shown_f).mono ?_; rintro e w1 ⟨rfl, hb⟩; have HB1 := Lib.hid hb; clear hb)
    | (go_at_call 9; refine (K.cooperagelaw15_short.calls ks _ _ l sb _ (Kd.C_below HL.out HB1.out) HC0.out HK1.out).mono ?_; rintro e w2 ⟨rfl, hd⟩; have HB2 := Lib.hid (HB1.out.trans (hd.below.mono HB1.out.size)); clear hd)
    | (go_at_call 10; refine (K.cooperagelaw15_small.calls km _ _ ins mb _ (Kd.C_below HI.out HB2.out) HC1.out HK2.out).mono ?_; rintro e w3 ⟨rfl, hd⟩; have HB3 := Lib.hid (HB2.out.trans (hd.below.mono HB2.out.size)); clear hd))
  obtain ⟨out_, hout⟩ : ∃ o : Bool, o = !(sb && mb && decide (l.length ≤ 20)) := ⟨_, rfl⟩
  have HO := Lib.hid hout
  clear hout
  go_cut [40] (fun v wc => v = .bool out_ ∧ wc = w3)
  case first =>
    cases sb with
    | false => 
      have HO2 : Hid (out_ = true) := by rw [Hid, HO.out]; rfl
      go_wp2_with fail
      go_meet
      exact ⟨by rw [HO2.out], rfl⟩
    | true =>
      cases mb with
      | false =>
        have HO2 : Hid (out_ = true) := by rw [Hid, HO.out]; rfl
        go_wp2_with fail
        go_meet
        exact ⟨by rw [HO2.out], rfl⟩
      | true =>
        have HO2 : Hid (out_ = decide ((20 : Int) < (l.length : Int))) := by
          rw [Hid, HO.out]
          by_cases h : l.length ≤ 20
          · rw [decide_eq_true h, decide_eq_false (by omega)]; rfl
          · rw [decide_eq_false h, decide_eq_true (by omega)]; rfl
        go_wp2_with fail
        go_meet
        exact ⟨by rw [HO2.out], rfl⟩
  case rest =>
    obtain ⟨rfl, e2⟩ := hcut
    rw [e2]
    clear e2
    cases out_ with
    | true =>
      go_wp2_with fail
      go_ret
      exact ⟨rfl, HB3.out⟩
    | false =>
      have hb3 : sb = true ∧ mb = true ∧ l.length ≤ 20 := by
        have := HO.out.symm
        simpa [and_assoc] using this
      obtain ⟨hl30, hl5⟩ := HSB.out hb3.1
      obtain ⟨hi12, hi5⟩ := HMB.out hb3.2.1
      have hl20 := hb3.2.2
      have HL5 := Lib.hid hl5
      have HI5 := Lib.hid hi5
      have HRUN : Hid (∀ (W' : World), Below W.heap.size W W' → ∀ (A : Option Addr) (c : Nat) (l' : List ByteArray) (fu : Int), Kd.C Kd.string W' A l'.length l' → l'.length ≤ c → l'.length ≤ 100 → (∀ x ∈ l', x.size ≤ 8000) → Calls Tryd.prog 11 #[.slice A l'.length c, .slice A1 ins.length c1, .string ⟨#[116]⟩, .int .i64 fu] W' fun e w' => e = .returned (.tuple #[.string (runV l' ins ⟨#[116]⟩ fu).1, .bool (runV l' ins ⟨#[116]⟩ fu).2.1, .int .i64 (runV l' ins ⟨#[116]⟩ fu).2.2]) ∧ Below W'.heap.size W' w') := fun W' hb A c l' fu hC hc hn hs =>
        (run_walk A c l' A1 c1 ins ⟨#[116]⟩ fu W' (HG.out.below hb) hC hc (Kd.C_below HI.out hb) HC1.out hn hs (by omega) (fun f hf => Nat.le_trans (hi5 f hf).1 (by decide)) (by decide)).mono fun e w' ⟨⟨r, hr, he⟩, hb2⟩ => ⟨by rw [he, hr], hb2⟩
      clear hl5 hi5 hb3 hl30 HSB HMB HK1 HK2 HO
      go_upto_region 7 with fail
      have HP := Lib.hid (path_loop ins)
      go_loopw [8] (fun i wr => ∃ k : Nat, k ≤ ins.length ∧ i = .int .i64 k ∧ wr = w3 ∧ Hid (∀ j (h : j < ins.length), j < k → ins[j].f0.toList ≠ nsB.toList)) (fun i _ => ins.length - (intOf i).toNat)
      case atStart => refine ⟨0, Nat.zero_le _, rfl, ?_, fun j h h2 => absurd h2 (Nat.not_lt_zero _)⟩; first | trivial | rfl
      case round =>
        obtain ⟨k, hk, rfl, e2, HJ⟩ := hrel
        subst e2
        by_cases hlk : k < ins.length
        · have hltz : (k : Int) < (ins.length : Int) := by omega
          obtain ⟨ad, e, hat⟩ := files_at HI.out hlk
          subst e
          have f0 := (hat.below HB3.out).e0
          by_cases hq : ins[k].f0.toList = nsB.toList
          · have hq1 : (ins[k].f0.toList == [110, 111, 110, 101, 47, 115, 117, 99, 104]) = true := beq_iff_eq.2 (by rw [hq, ByteArray.toList_eq]; rfl)
            generalize ins[k] = x at f0 hq1
            clear hat hq
            go_wp2_with fail
            go_ret
            exact ⟨rfl, HB3.out⟩
          · have hq1 : (ins[k].f0.toList == [110, 111, 110, 101, 47, 115, 117, 99, 104]) = false := beq_eq_false_iff_ne.2 (fun e => hq (by rw [e, ByteArray.toList_eq]; rfl))
            have HJ2 : Hid (∀ j (h : j < ins.length), j < k + 1 → ins[j].f0.toList ≠ nsB.toList) := fun j h h2 => by
              by_cases e : j = k
              · subst e; exact hq
              · exact HJ.out j h (by omega)
            generalize ins[k] = x at f0 hq1
            clear hat hq HJ
            go_wp2_with fail
            go_roundw
            case rel => refine ⟨k + 1, hlk, by go_num, ?_, HJ2.out⟩; first | trivial | rfl
            case measure => simp [intOf]; omega
        · obtain rfl : k = ins.length := by omega
          have hltz : ¬ (ins.length : Int) < (ins.length : Int) := by omega
          have hns : ∀ f ∈ ins, f.f0.toList ≠ nsB.toList := fun f hf => by
            obtain ⟨i, hi, rfl⟩ := List.getElem_of_mem hf
            exact HJ.out i hi hi
          have HPL := Lib.hid (Pure.fails_plain l ins hns ⟨#[116]⟩ rfl)
          clear hns HJ HP
          obtain ⟨i0, hi, hz0, hz1, hz2⟩ := info_parts Hand.Tryd.infoStr
          have HR0 := Lib.hid (HRUN.out _ HB3.out A0 c0 l 9000 (Kd.C_below HL.out HB3.out) HC0.out (by omega) (fun x hx => Nat.le_trans (HL5.out x hx) (by decide)))
          obtain ⟨R0, hR0⟩ : ∃ r, r = runV l ins ⟨#[116]⟩ 9000 := ⟨_, rfl⟩
          have HRz := Lib.hid hR0
          rw [← hR0] at HR0 HPL
          clear hR0
          go_upto_region 12 with (go_at_call 11; refine HR0.out.mono ?_; rintro e wA ⟨rfl, hb⟩; have HBA0 := Lib.hid (HB3.out.trans (hb.mono HB3.out.size)); clear hb)
          clear HR0
          obtain ⟨R1, hR1⟩ : ∃ r, r = runV (l ++ [l1B, l2B, l3B]) ins ⟨#[116]⟩ 9003 := ⟨_, rfl⟩
          have HR1 := Lib.hid hR1
          clear hR1
          go_upto_region 12 with fail
          go_cut [12, 13, 14] (fun a b c wc => a = .string R1.1 ∧ b = .bool R1.2.1 ∧ c = .int .i64 R1.2.2 ∧ Hid (Below W.heap.size W wc))
          case first =>
            have HLEN : Hid ((l ++ [l1B, l2B, l3B]).length = l.length + 3) := List.length_append
            have HRR : Hid (∀ (W' : World), Below W.heap.size W W' → ∀ (A : Option Addr) (c k : Nat), k = l.length + 3 → Kd.C Kd.string W' A (l ++ [l1B, l2B, l3B]).length (l ++ [l1B, l2B, l3B]) → (l ++ [l1B, l2B, l3B]).length ≤ c → Calls Tryd.prog 11 #[.slice A k c, .slice A1 ins.length c1, .string ⟨#[116]⟩, .int .i64 9003] W' fun e w' => e = .returned (.tuple #[.string R1.1, .bool R1.2.1, .int .i64 R1.2.2]) ∧ Below W'.heap.size W' w') := fun W' hb A c k ek hC hc => by
              subst ek
              rw [HR1.out, ← HLEN.out]
              exact HRUN.out W' hb A c _ 9003 hC hc (by rw [HLEN.out]; omega) (fun x hx => by
                rcases List.mem_append.1 hx with hx | hx
                · exact Nat.le_trans (HL5.out x hx) (by decide)
                · have : ∀ y ∈ ([l1B, l2B, l3B] : List ByteArray), y.size ≤ 8000 := by decide
                  exact this x hx)
            have H63b : Hid (l.length + 3 ≤ maxLen) := by unfold Hid maxLen; omega
            have HBYb : Hid ((l.length + 3) * 16 ≤ 140737488355328) := by unfold Hid; omega
            have HONE3 : Hid (∀ u ∈ ([.string ⟨#[45, 102, 97, 105, 108]⟩, .string ⟨#[64, 45, 114, 109, 32, 110, 111, 110, 101, 47, 115, 117, 99, 104]⟩, .string ⟨#[45, 99, 111, 112, 121, 32, 110, 111, 110, 101, 47, 115, 117, 99, 104, 32, 116]⟩] : List Value), u.oneCell' = true) := fun u hu => by
              simp only [List.mem_cons, List.not_mem_nil, or_false] at hu
              rcases hu with rfl | rfl | rfl <;> rfl
            have HAPP : Hid (∀ (w2 : World) (v2 : Value), w2.ownsRow wA.heap.size 9 1 v2 (l.length + 3) (l.map Value.string ++ [.string ⟨#[45, 102, 97, 105, 108]⟩, .string ⟨#[64, 45, 114, 109, 32, 110, 111, 110, 101, 47, 115, 117, 99, 104]⟩, .string ⟨#[45, 99, 111, 112, 121, 32, 110, 111, 110, 101, 47, 115, 117, 99, 104, 32, 116]⟩]) → ∃ A2 c2, v2 = .slice A2 (l.length + 3) c2 ∧ (l ++ [l1B, l2B, l3B]).length ≤ c2 ∧ Kd.C Kd.string w2 A2 (l ++ [l1B, l2B, l3B]).length (l ++ [l1B, l2B, l3B])) := fun w2 v2 h => by
              rw [← HLEN.out] at h
              obtain ⟨A2, c2, e, h5, h6⟩ := R_own (xs := l ++ [l1B, l2B, l3B]) (by rw [List.map_append]; exact h)
              exact ⟨A2, c2, by rw [e, HLEN.out], h5, h6⟩
            cases hA : A0 with
            | none =>
              rw [hA] at HL
              have hl := C_none HL.out
              have hln : l.length = 0 := by rw [hl]; rfl
              have HHL := Lib.hid hl
              subst hA
              have HNW : Hid (∀ j u, ([.string ⟨#[45, 102, 97, 105, 108]⟩, .string ⟨#[64, 45, 114, 109, 32, 110, 111, 110, 101, 47, 115, 117, 99, 104]⟩, .string ⟨#[45, 99, 111, 112, 121, 32, 110, 111, 110, 101, 47, 115, 117, 99, 104, 32, 116]⟩] : List Value)[j]? = some u → ((wA.alloc (.cells #[] 9)).alloc (.cells #[.string ⟨#[45, 102, 97, 105, 108]⟩, .string ⟨#[64, 45, 114, 109, 32, 110, 111, 110, 101, 47, 115, 117, 99, 104]⟩, .string ⟨#[45, 99, 111, 112, 121, 32, 110, 111, 110, 101, 47, 115, 117, 99, 104, 32, 116]⟩] 9)).cell? ((⟨wA.heap.size + 1, 0, none⟩ : Addr).add j) = some u) := by
                have hz := news_of (wA.alloc (.cells #[] 9)) [.string ⟨#[45, 102, 97, 105, 108]⟩, .string ⟨#[64, 45, 114, 109, 32, 110, 111, 110, 101, 47, 115, 117, 99, 104]⟩, .string ⟨#[45, 99, 111, 112, 121, 32, 110, 111, 110, 101, 47, 115, 117, 99, 104, 32, 116]⟩]
                rw [World.size_alloc] at hz
                exact hz
              have HRW := Lib.hid ((newOwn0 wA).alloc (.cells ([.string ⟨#[45, 102, 97, 105, 108]⟩, .string ⟨#[64, 45, 114, 109, 32, 110, 111, 110, 101, 47, 115, 117, 99, 104]⟩, .string ⟨#[45, 99, 111, 112, 121, 32, 110, 111, 110, 101, 47, 115, 117, 99, 104, 32, 116]⟩] : List Value).toArray 9))
              have HBA : Hid (wA.heap.size ≤ ((wA.alloc (.cells #[] 9)).alloc (.cells #[.string ⟨#[45, 102, 97, 105, 108]⟩, .string ⟨#[64, 45, 114, 109, 32, 110, 111, 110, 101, 47, 115, 117, 99, 104]⟩, .string ⟨#[45, 99, 111, 112, 121, 32, 110, 111, 110, 101, 47, 115, 117, 99, 104, 32, 116]⟩] 9)).heap.size) := by rw [Hid, World.size_alloc, World.size_alloc]; omega
              have HBa : Hid (Below wA.heap.size wA ((wA.alloc (.cells #[] 9)).alloc (.cells #[.string ⟨#[45, 102, 97, 105, 108]⟩, .string ⟨#[64, 45, 114, 109, 32, 110, 111, 110, 101, 47, 115, 117, 99, 104]⟩, .string ⟨#[45, 99, 111, 112, 121, 32, 110, 111, 110, 101, 47, 115, 117, 99, 104, 32, 116]⟩] 9))) := ((Below.refl _ _).alloc (Nat.le_refl _) _).alloc (by rw [World.size_alloc]; omega) _
              have HE0 : Hid (∀ (w2 : World) (v2 : Value), w2.ownsRow wA.heap.size 9 1 v2 (0 + 3) ([] ++ [.string ⟨#[45, 102, 97, 105, 108]⟩, .string ⟨#[64, 45, 114, 109, 32, 110, 111, 110, 101, 47, 115, 117, 99, 104]⟩, .string ⟨#[45, 99, 111, 112, 121, 32, 110, 111, 110, 101, 47, 115, 117, 99, 104, 32, 116]⟩]) → ∃ A2 c2, v2 = .slice A2 (l.length + 3) c2 ∧ (l ++ [l1B, l2B, l3B]).length ≤ c2 ∧ Kd.C Kd.string w2 A2 (l ++ [l1B, l2B, l3B]).length (l ++ [l1B, l2B, l3B])) := fun w2 v2 h => HAPP.out w2 v2 (by rw [HHL.out]; exact h)
              have H63c : Hid (0 + 3 ≤ maxLen) := by unfold Hid maxLen; omega
              clear hl
              go_wp2_with (first
                | (at_builtin; refine wpList_append_own_at _ rfl _ _ 22 rfl wA.heap.size 9 i0 _ 1 16 Tryd.underlying22 hi hz0 hz1 hz2 rfl (by decide) (.slice (some ⟨wA.heap.size, 0, none⟩) 0 0) 0 [] rfl HRW.out ⟨wA.heap.size + 1, 0, none⟩ 3 3 [.string ⟨#[45, 102, 97, 105, 108]⟩, .string ⟨#[64, 45, 114, 109, 32, 110, 111, 110, 101, 47, 115, 117, 99, 104]⟩, .string ⟨#[45, 99, 111, 112, 121, 32, 110, 111, 110, 101, 47, 115, 117, 99, 104, 32, 116]⟩] rfl rfl HNW.out HONE3.out H63c.out (by decide) HBA.out ?_; intro v2 w2 h1 h2 h3 h4; obtain ⟨A2, c2, rfl, hc2, hC2⟩ := HE0.out _ _ h1; have HB2 := Lib.hid (HBa.out.trans (below_own HRW.out h2 HBA.out)); have HC2 := Lib.hid hC2; have HCC2 := Lib.hid hc2; clear h1 h2 h3 h4 hC2 hc2)
                | (go_at_call 11; refine (HRR.out _ (HBA0.out.trans (HB2.out.mono HBA0.out.size)) _ _ _ ?ek HC2.out HCC2.out).mono ?_; (case ek => first | rfl | omega | (rw [HHL.out]; rfl)); rintro e wz ⟨rfl, hb⟩; have HBz := Lib.hid ((HBA0.out.trans (HB2.out.mono HBA0.out.size)).trans (hb.mono (HBA0.out.trans (HB2.out.mono HBA0.out.size)).size)); clear hb))
              rw [show Value.slice none 0 c0 = Value.slice none l.length c0 by rw [hln]]
              go_meet
              exact ⟨rfl, rfl, rfl, HBz.out⟩
            | some ad =>
              rw [hA] at HL
              subst hA
              have HN1 : Hid (∀ j u, (l.map Value.string)[j]? = some u → (wA.alloc (.cells #[] 9)).cell? (ad.add j) = some u) := cells_of (Kd.C_below HL.out (HBA0.out.alloc HBA0.out.size _))
              have HNL : Hid ((l.map Value.string).length = l.length * 1) := by rw [Hid, List.length_map, Nat.mul_one]
              have HONE : Hid (∀ u ∈ l.map Value.string, u.oneCell' = true) := fun u hu => by
                obtain ⟨y, _, rfl⟩ := List.mem_map.1 hu
                rfl
              have HO0 := Lib.hid (newOwn0 wA)
              have H63a : Hid (0 + l.length ≤ maxLen) := by unfold Hid maxLen; omega
              have HBYa : Hid ((0 + l.length) * 16 ≤ 140737488355328) := by unfold Hid; omega
              have HBA : Hid (wA.heap.size ≤ (wA.alloc (.cells #[] 9)).heap.size) := by rw [Hid, World.size_alloc]; omega
              have HFS : Hid (∀ (w1 : World) (v1 : Value), w1.ownsRow wA.heap.size 9 1 v1 (0 + l.length) ([] ++ l.map Value.string) → (wA.alloc (.cells #[] 9)).grownBy w1 (Value.slice (some ⟨wA.heap.size, 0, none⟩) 0 0).ownBlock → w1.ownsRow wA.heap.size 9 1 v1 l.length (l.map Value.string) ∧ Below wA.heap.size wA w1) := fun w1 v1 h1 h2 => by
                rw [Nat.zero_add] at h1
                exact ⟨h1, ((Below.refl _ _).alloc (Nat.le_refl _) _).trans (below_own HO0.out h2 HBA.out)⟩
              go_wp2_with (first
                | (at_builtin; refine wpList_append_own_at _ rfl _ _ 22 rfl wA.heap.size 9 i0 _ 1 16 Tryd.underlying22 hi hz0 hz1 hz2 rfl (by decide) (.slice (some ⟨wA.heap.size, 0, none⟩) 0 0) 0 [] rfl HO0.out ad l.length c0 (l.map Value.string) rfl HNL.out HN1.out HONE.out H63a.out HBYa.out HBA.out ?_; intro v1 w1 h1 h2 h3 h4; obtain ⟨hr1, hb1⟩ := HFS.out _ _ h1 h2; have HR1 := Lib.hid hr1; have HB1w := Lib.hid hb1; have HRW := Lib.hid (hr1.alloc (.cells ([.string ⟨#[45, 102, 97, 105, 108]⟩, .string ⟨#[64, 45, 114, 109, 32, 110, 111, 110, 101, 47, 115, 117, 99, 104]⟩, .string ⟨#[45, 99, 111, 112, 121, 32, 110, 111, 110, 101, 47, 115, 117, 99, 104, 32, 116]⟩] : List Value).toArray 9)); have HNW := Lib.hid (news_of w1 [.string ⟨#[45, 102, 97, 105, 108]⟩, .string ⟨#[64, 45, 114, 109, 32, 110, 111, 110, 101, 47, 115, 117, 99, 104]⟩, .string ⟨#[45, 99, 111, 112, 121, 32, 110, 111, 110, 101, 47, 115, 117, 99, 104, 32, 116]⟩]); have HBb : Hid (wA.heap.size ≤ (w1.alloc (.cells #[.string ⟨#[45, 102, 97, 105, 108]⟩, .string ⟨#[64, 45, 114, 109, 32, 110, 111, 110, 101, 47, 115, 117, 99, 104]⟩, .string ⟨#[45, 99, 111, 112, 121, 32, 110, 111, 110, 101, 47, 115, 117, 99, 104, 32, 116]⟩] 9)).heap.size) := (by rw [Hid, World.size_alloc]; exact Nat.le_succ_of_le hb1.size); have HBc : Hid (Below wA.heap.size wA (w1.alloc (.cells #[.string ⟨#[45, 102, 97, 105, 108]⟩, .string ⟨#[64, 45, 114, 109, 32, 110, 111, 110, 101, 47, 115, 117, 99, 104]⟩, .string ⟨#[45, 99, 111, 112, 121, 32, 110, 111, 110, 101, 47, 115, 117, 99, 104, 32, 116]⟩] 9))) := hb1.alloc hb1.size _; clear h1 h2 h3 h4 hr1 hb1)
                | (at_builtin; refine wpList_append_own_at _ rfl _ _ 22 rfl wA.heap.size 9 i0 _ 1 16 Tryd.underlying22 hi hz0 hz1 hz2 rfl (by decide) v1 l.length (l.map Value.string) rfl HRW.out ⟨w1.heap.size, 0, none⟩ 3 3 [.string ⟨#[45, 102, 97, 105, 108]⟩, .string ⟨#[64, 45, 114, 109, 32, 110, 111, 110, 101, 47, 115, 117, 99, 104]⟩, .string ⟨#[45, 99, 111, 112, 121, 32, 110, 111, 110, 101, 47, 115, 117, 99, 104, 32, 116]⟩] rfl rfl HNW.out HONE3.out H63b.out HBYb.out HBb.out ?_; intro v2 w2 h1 h2 h3 h4; obtain ⟨A2, c2, rfl, hc2, hC2⟩ := HAPP.out _ _ h1; have HB2 := Lib.hid (HBc.out.trans (below_own HRW.out h2 HBb.out)); have HC2 := Lib.hid hC2; have HCC2 := Lib.hid hc2; clear h1 h2 h3 h4 hC2 hc2)
                | (go_at_call 11; refine (HRR.out _ (HBA0.out.trans (HB2.out.mono HBA0.out.size)) _ _ _ ?ek HC2.out HCC2.out).mono ?_; (case ek => first | rfl | omega); rintro e wz ⟨rfl, hb⟩; have HBz := Lib.hid ((HBA0.out.trans (HB2.out.mono HBA0.out.size)).trans (hb.mono (HBA0.out.trans (HB2.out.mono HBA0.out.size)).size)); clear hb))
              go_meet
              exact ⟨rfl, rfl, rfl, HBz.out⟩
          case rest =>
            obtain ⟨rfl, rfl, rfl, HBR1⟩ := hcut
            obtain ⟨wR1, e9⟩ : ∃ w9, w9 = wc := ⟨_, rfl⟩
            rw [← e9] at HBR1 ⊢
            clear e9
            obtain ⟨R2, hR2⟩ : ∃ r, r = runV (l ++ [l4B]) ins ⟨#[116]⟩ 9001 := ⟨_, rfl⟩
            have HR2 := Lib.hid hR2
            clear hR2
            go_upto_region 13 with fail
            go_cut [15, 16, 17] (fun a b c wc => a = .string R2.1 ∧ b = .bool R2.2.1 ∧ c = .int .i64 R2.2.2 ∧ Hid (Below W.heap.size W wc))
            case first =>
              have HLEN : Hid ((l ++ [l4B]).length = l.length + 1) := List.length_append
              have HRR : Hid (∀ (W' : World), Below W.heap.size W W' → ∀ (A : Option Addr) (c k : Nat), k = l.length + 1 → Kd.C Kd.string W' A (l ++ [l4B]).length (l ++ [l4B]) → (l ++ [l4B]).length ≤ c → Calls Tryd.prog 11 #[.slice A k c, .slice A1 ins.length c1, .string ⟨#[116]⟩, .int .i64 9001] W' fun e w' => e = .returned (.tuple #[.string R2.1, .bool R2.2.1, .int .i64 R2.2.2]) ∧ Below W'.heap.size W' w') := fun W' hb A c k ek hC hc => by
                subst ek
                rw [HR2.out, ← HLEN.out]
                exact HRUN.out W' hb A c _ 9001 hC hc (by rw [HLEN.out]; omega) (fun x hx => by
                  rcases List.mem_append.1 hx with hx | hx
                  · exact Nat.le_trans (HL5.out x hx) (by decide)
                  · have : ∀ y ∈ ([l4B] : List ByteArray), y.size ≤ 8000 := by decide
                    exact this x hx)
              have H63b : Hid (l.length + 1 ≤ maxLen) := by unfold Hid maxLen; omega
              have HBYb : Hid ((l.length + 1) * 16 ≤ 140737488355328) := by unfold Hid; omega
              have HONE3 : Hid (∀ u ∈ ([.string ⟨#[102, 97, 105, 108]⟩] : List Value), u.oneCell' = true) := fun u hu => by
                simp only [List.mem_cons, List.not_mem_nil, or_false] at hu
                rcases hu with rfl <;> rfl
              have HAPP : Hid (∀ (w2 : World) (v2 : Value), w2.ownsRow wR1.heap.size 9 1 v2 (l.length + 1) (l.map Value.string ++ [.string ⟨#[102, 97, 105, 108]⟩]) → ∃ A2 c2, v2 = .slice A2 (l.length + 1) c2 ∧ (l ++ [l4B]).length ≤ c2 ∧ Kd.C Kd.string w2 A2 (l ++ [l4B]).length (l ++ [l4B])) := fun w2 v2 h => by
                rw [← HLEN.out] at h
                obtain ⟨A2, c2, e, h5, h6⟩ := R_own (xs := l ++ [l4B]) (by rw [List.map_append]; exact h)
                exact ⟨A2, c2, by rw [e, HLEN.out], h5, h6⟩
              cases hA : A0 with
              | none =>
                rw [hA] at HL
                have hl := C_none HL.out
                have hln : l.length = 0 := by rw [hl]; rfl
                have HHL := Lib.hid hl
                subst hA
                have HNW : Hid (∀ j u, ([.string ⟨#[102, 97, 105, 108]⟩] : List Value)[j]? = some u → ((wR1.alloc (.cells #[] 9)).alloc (.cells #[.string ⟨#[102, 97, 105, 108]⟩] 9)).cell? ((⟨wR1.heap.size + 1, 0, none⟩ : Addr).add j) = some u) := by
                  have hz := news_of (wR1.alloc (.cells #[] 9)) [.string ⟨#[102, 97, 105, 108]⟩]
                  rw [World.size_alloc] at hz
                  exact hz
                have HRW := Lib.hid ((newOwn0 wR1).alloc (.cells ([.string ⟨#[102, 97, 105, 108]⟩] : List Value).toArray 9))
                have HBA : Hid (wR1.heap.size ≤ ((wR1.alloc (.cells #[] 9)).alloc (.cells #[.string ⟨#[102, 97, 105, 108]⟩] 9)).heap.size) := by rw [Hid, World.size_alloc, World.size_alloc]; omega
                have HBa : Hid (Below wR1.heap.size wR1 ((wR1.alloc (.cells #[] 9)).alloc (.cells #[.string ⟨#[102, 97, 105, 108]⟩] 9))) := ((Below.refl _ _).alloc (Nat.le_refl _) _).alloc (by rw [World.size_alloc]; omega) _
                have HE0 : Hid (∀ (w2 : World) (v2 : Value), w2.ownsRow wR1.heap.size 9 1 v2 (0 + 1) ([] ++ [.string ⟨#[102, 97, 105, 108]⟩]) → ∃ A2 c2, v2 = .slice A2 (l.length + 1) c2 ∧ (l ++ [l4B]).length ≤ c2 ∧ Kd.C Kd.string w2 A2 (l ++ [l4B]).length (l ++ [l4B])) := fun w2 v2 h => HAPP.out w2 v2 (by rw [HHL.out]; exact h)
                have H63c : Hid (0 + 1 ≤ maxLen) := by unfold Hid maxLen; omega
                clear hl
                go_wp2_with (first
                  | (at_builtin; refine wpList_append_own_at _ rfl _ _ 22 rfl wR1.heap.size 9 i0 _ 1 16 Tryd.underlying22 hi hz0 hz1 hz2 rfl (by decide) (.slice (some ⟨wR1.heap.size, 0, none⟩) 0 0) 0 [] rfl HRW.out ⟨wR1.heap.size + 1, 0, none⟩ 1 1 [.string ⟨#[102, 97, 105, 108]⟩] rfl rfl HNW.out HONE3.out H63c.out (by decide) HBA.out ?_; intro v2 w2 h1 h2 h3 h4; obtain ⟨A2, c2, rfl, hc2, hC2⟩ := HE0.out _ _ h1; have HB2 := Lib.hid (HBa.out.trans (below_own HRW.out h2 HBA.out)); have HC2 := Lib.hid hC2; have HCC2 := Lib.hid hc2; clear h1 h2 h3 h4 hC2 hc2)
                  | (go_at_call 11; refine (HRR.out _ (HBR1.out.trans (HB2.out.mono HBR1.out.size)) _ _ _ ?ek HC2.out HCC2.out).mono ?_; (case ek => first | rfl | omega | (rw [HHL.out]; rfl)); rintro e wz ⟨rfl, hb⟩; have HBz := Lib.hid ((HBR1.out.trans (HB2.out.mono HBR1.out.size)).trans (hb.mono (HBR1.out.trans (HB2.out.mono HBR1.out.size)).size)); clear hb))
                rw [show Value.slice none 0 c0 = Value.slice none l.length c0 by rw [hln]]
                go_meet
                exact ⟨rfl, rfl, rfl, HBz.out⟩
              | some ad =>
                rw [hA] at HL
                subst hA
                have HN1 : Hid (∀ j u, (l.map Value.string)[j]? = some u → (wR1.alloc (.cells #[] 9)).cell? (ad.add j) = some u) := cells_of (Kd.C_below HL.out (HBR1.out.alloc HBR1.out.size _))
                have HNL : Hid ((l.map Value.string).length = l.length * 1) := by rw [Hid, List.length_map, Nat.mul_one]
                have HONE : Hid (∀ u ∈ l.map Value.string, u.oneCell' = true) := fun u hu => by
                  obtain ⟨y, _, rfl⟩ := List.mem_map.1 hu
                  rfl
                have HO0 := Lib.hid (newOwn0 wR1)
                have H63a : Hid (0 + l.length ≤ maxLen) := by unfold Hid maxLen; omega
                have HBYa : Hid ((0 + l.length) * 16 ≤ 140737488355328) := by unfold Hid; omega
                have HBA : Hid (wR1.heap.size ≤ (wR1.alloc (.cells #[] 9)).heap.size) := by rw [Hid, World.size_alloc]; omega
                have HFS : Hid (∀ (w1 : World) (v1 : Value), w1.ownsRow wR1.heap.size 9 1 v1 (0 + l.length) ([] ++ l.map Value.string) → (wR1.alloc (.cells #[] 9)).grownBy w1 (Value.slice (some ⟨wR1.heap.size, 0, none⟩) 0 0).ownBlock → w1.ownsRow wR1.heap.size 9 1 v1 l.length (l.map Value.string) ∧ Below wR1.heap.size wR1 w1) := fun w1 v1 h1 h2 => by
                  rw [Nat.zero_add] at h1
                  exact ⟨h1, ((Below.refl _ _).alloc (Nat.le_refl _) _).trans (below_own HO0.out h2 HBA.out)⟩
                go_wp2_with (first
                  | (at_builtin; refine wpList_append_own_at _ rfl _ _ 22 rfl wR1.heap.size 9 i0 _ 1 16 Tryd.underlying22 hi hz0 hz1 hz2 rfl (by decide) (.slice (some ⟨wR1.heap.size, 0, none⟩) 0 0) 0 [] rfl HO0.out ad l.length c0 (l.map Value.string) rfl HNL.out HN1.out HONE.out H63a.out HBYa.out HBA.out ?_; intro v1 w1 h1 h2 h3 h4; obtain ⟨hr1, hb1⟩ := HFS.out _ _ h1 h2; have HR1 := Lib.hid hr1; have HB1w := Lib.hid hb1; have HRW := Lib.hid (hr1.alloc (.cells ([.string ⟨#[102, 97, 105, 108]⟩] : List Value).toArray 9)); have HNW := Lib.hid (news_of w1 [.string ⟨#[102, 97, 105, 108]⟩]); have HBb : Hid (wR1.heap.size ≤ (w1.alloc (.cells #[.string ⟨#[102, 97, 105, 108]⟩] 9)).heap.size) := (by rw [Hid, World.size_alloc]; exact Nat.le_succ_of_le hb1.size); have HBc : Hid (Below wR1.heap.size wR1 (w1.alloc (.cells #[.string ⟨#[102, 97, 105, 108]⟩] 9))) := hb1.alloc hb1.size _; clear h1 h2 h3 h4 hr1 hb1)
                  | (at_builtin; refine wpList_append_own_at _ rfl _ _ 22 rfl wR1.heap.size 9 i0 _ 1 16 Tryd.underlying22 hi hz0 hz1 hz2 rfl (by decide) v1 l.length (l.map Value.string) rfl HRW.out ⟨w1.heap.size, 0, none⟩ 1 1 [.string ⟨#[102, 97, 105, 108]⟩] rfl rfl HNW.out HONE3.out H63b.out HBYb.out HBb.out ?_; intro v2 w2 h1 h2 h3 h4; obtain ⟨A2, c2, rfl, hc2, hC2⟩ := HAPP.out _ _ h1; have HB2 := Lib.hid (HBc.out.trans (below_own HRW.out h2 HBb.out)); have HC2 := Lib.hid hC2; have HCC2 := Lib.hid hc2; clear h1 h2 h3 h4 hC2 hc2)
                  | (go_at_call 11; refine (HRR.out _ (HBR1.out.trans (HB2.out.mono HBR1.out.size)) _ _ _ ?ek HC2.out HCC2.out).mono ?_; (case ek => first | rfl | omega); rintro e wz ⟨rfl, hb⟩; have HBz := Lib.hid ((HBR1.out.trans (HB2.out.mono HBR1.out.size)).trans (hb.mono (HBR1.out.trans (HB2.out.mono HBR1.out.size)).size)); clear hb))
                go_meet
                exact ⟨rfl, rfl, rfl, HBz.out⟩
            case rest =>
              obtain ⟨rfl, rfl, rfl, HBR2⟩ := hcut
              obtain ⟨wR2, e9⟩ : ∃ w9, w9 = wc := ⟨_, rfl⟩
              rw [← e9] at HBR2 ⊢
              clear e9
              obtain ⟨R3, hR3⟩ : ∃ r, r = runV (l ++ [l5B]) ins ⟨#[116]⟩ 9001 := ⟨_, rfl⟩
              have HR3 := Lib.hid hR3
              clear hR3
              go_upto_region 14 with fail
              go_cut [18, 19, 20] (fun a b c wc => a = .string R3.1 ∧ b = .bool R3.2.1 ∧ c = .int .i64 R3.2.2 ∧ Hid (Below W.heap.size W wc))
              case first =>
                have HLEN : Hid ((l ++ [l5B]).length = l.length + 1) := List.length_append
                have HRR : Hid (∀ (W' : World), Below W.heap.size W W' → ∀ (A : Option Addr) (c k : Nat), k = l.length + 1 → Kd.C Kd.string W' A (l ++ [l5B]).length (l ++ [l5B]) → (l ++ [l5B]).length ≤ c → Calls Tryd.prog 11 #[.slice A k c, .slice A1 ins.length c1, .string ⟨#[116]⟩, .int .i64 9001] W' fun e w' => e = .returned (.tuple #[.string R3.1, .bool R3.2.1, .int .i64 R3.2.2]) ∧ Below W'.heap.size W' w') := fun W' hb A c k ek hC hc => by
                  subst ek
                  rw [HR3.out, ← HLEN.out]
                  exact HRUN.out W' hb A c _ 9001 hC hc (by rw [HLEN.out]; omega) (fun x hx => by
                    rcases List.mem_append.1 hx with hx | hx
                    · exact Nat.le_trans (HL5.out x hx) (by decide)
                    · have : ∀ y ∈ ([l5B] : List ByteArray), y.size ≤ 8000 := by decide
                      exact this x hx)
                have H63b : Hid (l.length + 1 ≤ maxLen) := by unfold Hid maxLen; omega
                have HBYb : Hid ((l.length + 1) * 16 ≤ 140737488355328) := by unfold Hid; omega
                have HONE3 : Hid (∀ u ∈ ([.string ⟨#[110, 111, 116, 104, 105, 110, 103, 32, 116]⟩] : List Value), u.oneCell' = true) := fun u hu => by
                  simp only [List.mem_cons, List.not_mem_nil, or_false] at hu
                  rcases hu with rfl <;> rfl
                have HAPP : Hid (∀ (w2 : World) (v2 : Value), w2.ownsRow wR2.heap.size 9 1 v2 (l.length + 1) (l.map Value.string ++ [.string ⟨#[110, 111, 116, 104, 105, 110, 103, 32, 116]⟩]) → ∃ A2 c2, v2 = .slice A2 (l.length + 1) c2 ∧ (l ++ [l5B]).length ≤ c2 ∧ Kd.C Kd.string w2 A2 (l ++ [l5B]).length (l ++ [l5B])) := fun w2 v2 h => by
                  rw [← HLEN.out] at h
                  obtain ⟨A2, c2, e, h5, h6⟩ := R_own (xs := l ++ [l5B]) (by rw [List.map_append]; exact h)
                  exact ⟨A2, c2, by rw [e, HLEN.out], h5, h6⟩
                cases hA : A0 with
                | none =>
                  rw [hA] at HL
                  have hl := C_none HL.out
                  have hln : l.length = 0 := by rw [hl]; rfl
                  have HHL := Lib.hid hl
                  subst hA
                  have HNW : Hid (∀ j u, ([.string ⟨#[110, 111, 116, 104, 105, 110, 103, 32, 116]⟩] : List Value)[j]? = some u → ((wR2.alloc (.cells #[] 9)).alloc (.cells #[.string ⟨#[110, 111, 116, 104, 105, 110, 103, 32, 116]⟩] 9)).cell? ((⟨wR2.heap.size + 1, 0, none⟩ : Addr).add j) = some u) := by
                    have hz := news_of (wR2.alloc (.cells #[] 9)) [.string ⟨#[110, 111, 116, 104, 105, 110, 103, 32, 116]⟩]
                    rw [World.size_alloc] at hz
                    exact hz
                  have HRW := Lib.hid ((newOwn0 wR2).alloc (.cells ([.string ⟨#[110, 111, 116, 104, 105, 110, 103, 32, 116]⟩] : List Value).toArray 9))
                  have HBA : Hid (wR2.heap.size ≤ ((wR2.alloc (.cells #[] 9)).alloc (.cells #[.string ⟨#[110, 111, 116, 104, 105, 110, 103, 32, 116]⟩] 9)).heap.size) := by rw [Hid, World.size_alloc, World.size_alloc]; omega
                  have HBa : Hid (Below wR2.heap.size wR2 ((wR2.alloc (.cells #[] 9)).alloc (.cells #[.string ⟨#[110, 111, 116, 104, 105, 110, 103, 32, 116]⟩] 9))) := ((Below.refl _ _).alloc (Nat.le_refl _) _).alloc (by rw [World.size_alloc]; omega) _
                  have HE0 : Hid (∀ (w2 : World) (v2 : Value), w2.ownsRow wR2.heap.size 9 1 v2 (0 + 1) ([] ++ [.string ⟨#[110, 111, 116, 104, 105, 110, 103, 32, 116]⟩]) → ∃ A2 c2, v2 = .slice A2 (l.length + 1) c2 ∧ (l ++ [l5B]).length ≤ c2 ∧ Kd.C Kd.string w2 A2 (l ++ [l5B]).length (l ++ [l5B])) := fun w2 v2 h => HAPP.out w2 v2 (by rw [HHL.out]; exact h)
                  have H63c : Hid (0 + 1 ≤ maxLen) := by unfold Hid maxLen; omega
                  clear hl
                  go_wp2_with (first
                    | (at_builtin; refine wpList_append_own_at _ rfl _ _ 22 rfl wR2.heap.size 9 i0 _ 1 16 Tryd.underlying22 hi hz0 hz1 hz2 rfl (by decide) (.slice (some ⟨wR2.heap.size, 0, none⟩) 0 0) 0 [] rfl HRW.out ⟨wR2.heap.size + 1, 0, none⟩ 1 1 [.string ⟨#[110, 111, 116, 104, 105, 110, 103, 32, 116]⟩] rfl rfl HNW.out HONE3.out H63c.out (by decide) HBA.out ?_; intro v2 w2 h1 h2 h3 h4; obtain ⟨A2, c2, rfl, hc2, hC2⟩ := HE0.out _ _ h1; have HB2 := Lib.hid (HBa.out.trans (below_own HRW.out h2 HBA.out)); have HC2 := Lib.hid hC2; have HCC2 := Lib.hid hc2; clear h1 h2 h3 h4 hC2 hc2)
                    | (go_at_call 11; refine (HRR.out _ (HBR2.out.trans (HB2.out.mono HBR2.out.size)) _ _ _ ?ek HC2.out HCC2.out).mono ?_; (case ek => first | rfl | omega | (rw [HHL.out]; rfl)); rintro e wz ⟨rfl, hb⟩; have HBz := Lib.hid ((HBR2.out.trans (HB2.out.mono HBR2.out.size)).trans (hb.mono (HBR2.out.trans (HB2.out.mono HBR2.out.size)).size)); clear hb))
                  rw [show Value.slice none 0 c0 = Value.slice none l.length c0 by rw [hln]]
                  go_meet
                  exact ⟨rfl, rfl, rfl, HBz.out⟩
                | some ad =>
                  rw [hA] at HL
                  subst hA
                  have HN1 : Hid (∀ j u, (l.map Value.string)[j]? = some u → (wR2.alloc (.cells #[] 9)).cell? (ad.add j) = some u) := cells_of (Kd.C_below HL.out (HBR2.out.alloc HBR2.out.size _))
                  have HNL : Hid ((l.map Value.string).length = l.length * 1) := by rw [Hid, List.length_map, Nat.mul_one]
                  have HONE : Hid (∀ u ∈ l.map Value.string, u.oneCell' = true) := fun u hu => by
                    obtain ⟨y, _, rfl⟩ := List.mem_map.1 hu
                    rfl
                  have HO0 := Lib.hid (newOwn0 wR2)
                  have H63a : Hid (0 + l.length ≤ maxLen) := by unfold Hid maxLen; omega
                  have HBYa : Hid ((0 + l.length) * 16 ≤ 140737488355328) := by unfold Hid; omega
                  have HBA : Hid (wR2.heap.size ≤ (wR2.alloc (.cells #[] 9)).heap.size) := by rw [Hid, World.size_alloc]; omega
                  have HFS : Hid (∀ (w1 : World) (v1 : Value), w1.ownsRow wR2.heap.size 9 1 v1 (0 + l.length) ([] ++ l.map Value.string) → (wR2.alloc (.cells #[] 9)).grownBy w1 (Value.slice (some ⟨wR2.heap.size, 0, none⟩) 0 0).ownBlock → w1.ownsRow wR2.heap.size 9 1 v1 l.length (l.map Value.string) ∧ Below wR2.heap.size wR2 w1) := fun w1 v1 h1 h2 => by
                    rw [Nat.zero_add] at h1
                    exact ⟨h1, ((Below.refl _ _).alloc (Nat.le_refl _) _).trans (below_own HO0.out h2 HBA.out)⟩
                  go_wp2_with (first
                    | (at_builtin; refine wpList_append_own_at _ rfl _ _ 22 rfl wR2.heap.size 9 i0 _ 1 16 Tryd.underlying22 hi hz0 hz1 hz2 rfl (by decide) (.slice (some ⟨wR2.heap.size, 0, none⟩) 0 0) 0 [] rfl HO0.out ad l.length c0 (l.map Value.string) rfl HNL.out HN1.out HONE.out H63a.out HBYa.out HBA.out ?_; intro v1 w1 h1 h2 h3 h4; obtain ⟨hr1, hb1⟩ := HFS.out _ _ h1 h2; have HR1 := Lib.hid hr1; have HB1w := Lib.hid hb1; have HRW := Lib.hid (hr1.alloc (.cells ([.string ⟨#[110, 111, 116, 104, 105, 110, 103, 32, 116]⟩] : List Value).toArray 9)); have HNW := Lib.hid (news_of w1 [.string ⟨#[110, 111, 116, 104, 105, 110, 103, 32, 116]⟩]); have HBb : Hid (wR2.heap.size ≤ (w1.alloc (.cells #[.string ⟨#[110, 111, 116, 104, 105, 110, 103, 32, 116]⟩] 9)).heap.size) := (by rw [Hid, World.size_alloc]; exact Nat.le_succ_of_le hb1.size); have HBc : Hid (Below wR2.heap.size wR2 (w1.alloc (.cells #[.string ⟨#[110, 111, 116, 104, 105, 110, 103, 32, 116]⟩] 9))) := hb1.alloc hb1.size _; clear h1 h2 h3 h4 hr1 hb1)
                    | (at_builtin; refine wpList_append_own_at _ rfl _ _ 22 rfl wR2.heap.size 9 i0 _ 1 16 Tryd.underlying22 hi hz0 hz1 hz2 rfl (by decide) v1 l.length (l.map Value.string) rfl HRW.out ⟨w1.heap.size, 0, none⟩ 1 1 [.string ⟨#[110, 111, 116, 104, 105, 110, 103, 32, 116]⟩] rfl rfl HNW.out HONE3.out H63b.out HBYb.out HBb.out ?_; intro v2 w2 h1 h2 h3 h4; obtain ⟨A2, c2, rfl, hc2, hC2⟩ := HAPP.out _ _ h1; have HB2 := Lib.hid (HBc.out.trans (below_own HRW.out h2 HBb.out)); have HC2 := Lib.hid hC2; have HCC2 := Lib.hid hc2; clear h1 h2 h3 h4 hC2 hc2)
                    | (go_at_call 11; refine (HRR.out _ (HBR2.out.trans (HB2.out.mono HBR2.out.size)) _ _ _ ?ek HC2.out HCC2.out).mono ?_; (case ek => first | rfl | omega); rintro e wz ⟨rfl, hb⟩; have HBz := Lib.hid ((HBR2.out.trans (HB2.out.mono HBR2.out.size)).trans (hb.mono (HBR2.out.trans (HB2.out.mono HBR2.out.size)).size)); clear hb))
                  go_meet
                  exact ⟨rfl, rfl, rfl, HBz.out⟩
              case rest =>
                obtain ⟨rfl, rfl, rfl, HBR3⟩ := hcut
                obtain ⟨wR3, e9⟩ : ∃ w9, w9 = wc := ⟨_, rfl⟩
                rw [← e9] at HBR3 ⊢
                clear e9
                rw [← HR1.out, ← HR2.out, ← HR3.out] at HPL
                clear HR1 HR2 HR3 HRz HRUN HL5 HI5
                obtain ⟨a, x, e⟩ := R0
                obtain ⟨b, y, f⟩ := R1
                obtain ⟨b2, z, g⟩ := R2
                obtain ⟨b3, u, h⟩ := R3
                rcases HPL.out with hp | ⟨hp1, hp2, hp3, hp4, hp5, hp6⟩ | ⟨hp1, hp2, hp3, hp4⟩
                · have he : e = 12 := hp
                  subst he
                  clear hp HPL
                  go_wp2_with fail
                  all_goals
                    go_ret
                    exact ⟨by first | rfl | simp, HBR3.out⟩
                · have hp2' : x = false := hp2
                  have hp3' : a = ⟨#[]⟩ := hp3
                  have he0 : e ≠ 0 := hp1
                  obtain ⟨rfl, rfl, rfl⟩ : b = a ∧ y = x ∧ f = e := by injection hp4 with e1 e2; injection e2 with e2 e3; exact ⟨e1, e2, e3⟩
                  obtain ⟨rfl, rfl, rfl⟩ : b2 = b ∧ z = y ∧ g = f := by injection hp5 with e1 e2; injection e2 with e2 e3; exact ⟨e1, e2, e3⟩
                  obtain ⟨rfl, rfl, rfl⟩ : b3 = b2 ∧ u = z ∧ h = g := by injection hp6 with e1 e2; injection e2 with e2 e3; exact ⟨e1, e2, e3⟩
                  subst hp2' hp3'
                  have hne : (h == 0) = false := beq_eq_false_iff_ne.2 he0
                  have hne2 : (h != 0) = true := bne_iff_ne.2 he0
                  clear hp1 hp2 hp3 hp4 hp5 hp6 HPL
                  go_wp2_with fail
                  all_goals
                    go_ret
                    exact ⟨by first | rfl | simp, HBR3.out⟩
                · have he0 : e = 0 := hp1
                  obtain ⟨rfl, rfl, rfl⟩ : b = a ∧ y = x ∧ f = e := by injection hp2 with e1 e2; injection e2 with e2 e3; exact ⟨e1, e2, e3⟩
                  obtain ⟨rfl, rfl, rfl⟩ : b2 = nilB ∧ z = false ∧ g = 11 := by injection hp3 with e1 e2; injection e2 with e2 e3; exact ⟨e1, e2, e3⟩
                  obtain ⟨rfl, rfl, rfl⟩ : b3 = nilB ∧ u = false ∧ h = 2 := by injection hp4 with e1 e2; injection e2 with e2 e3; exact ⟨e1, e2, e3⟩
                  subst he0
                  clear hp1 hp2 hp3 hp4 HPL
                  cases y with
                  | true =>
                    go_wp2_with fail
                    go_ret
                    exact ⟨rfl, HBR3.out⟩
                  | false =>
                    go_wp2_with fail
                    go_ret
                    exact ⟨rfl, HBR3.out⟩
end Go.Proofs.YtnjjnfbkilgidaaDoor.Fr
