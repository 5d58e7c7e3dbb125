import Derived.Test.YtghbaehbgefpaaaGreatDoorQ11
import Derived.IntWalk
import Derived.Deep.RegionHeld3
/- Several texts of this session in one: the walks of the functions that the laws reach, and what they tell. -/
set_option linter.unusedVariables false
set_option linter.unusedSimpArgs false
namespace Go.Proofs.YtghbaehbgefpaaaGreatDoor.Fr
open Go.RowKit Go.Proofs.YtghbaehbgefpaaaGreatDoor.F Go.Maps
section
variable {w : World} {φ : Phi} {p : Nat} {T : TS} {A : Nat → Prop} {q s : ByteArray}
set_option maxHeartbeats 4000000 in
set_option maxRecDepth 100000 in
theorem wr_n_true_e1 (hT : Tr w φ p T A) (hG : Glob w) (hO : TOK T) (hq : q.size ≤ 100000) (hs : s.size ≤ 1000000000) (hf : findF T.l q = none) (hp : pathV q = false) :
    Calls Tryz.prog 74 #[.pointer (some ⟨p, 0, none⟩), .string q, .string s, .bool true] w fun e w' => e = .returned (.int .i64 1) ∧ Below w.heap.size w w' := by
  have HX := Lib.hid hT
  have HG := Lib.hid hG
  have HO := Lib.hid hO
  have hroom := hO.room
  have hclock := hO.clock
  have hmany := hO.many
  have hused := hO.used
  have HN := Lib.hid hf
  have HP := Lib.hid hp
  obtain ⟨bn, bl, v, h⟩ := hT
  have HT := Lib.hid h
  have c2 := h.c2
  have c0 := h.c0
  have c1 := h.c1
  have hlt := h.lt
  have hlen := fun ty => h.now.len ty
  clear h hO hG hf hp
  go_enter Tryz.func74, Tryz.ntmps74
  go_wp2_with (first
    | (at_lookup; refine wpList_look_none _ rfl _ _ rfl bn q rfl HT.out.now rfl hq HN.out ?_)
    | (go_at_call 42; refine (path_call q hq _ HG.out).mono ?_; rintro e w1 ⟨rfl, hb1⟩; rw [HP.out]; have HB1 := Lib.hid hb1; clear hb1))
  go_ret
  exact ⟨rfl, HB1.out⟩
set_option maxHeartbeats 4000000 in
set_option maxRecDepth 100000 in
theorem wr_n_true_e3 (hT : Tr w φ p T A) (hG : Glob w) (hO : TOK T) (hq : q.size ≤ 100000) (hs : s.size ≤ 1000000000) (hf : findF T.l q = none) (hp : pathV q = true) (h2 : 16777216 < s.size) :
    Calls Tryz.prog 74 #[.pointer (some ⟨p, 0, none⟩), .string q, .string s, .bool true] w fun e w' => e = .returned (.int .i64 3) ∧ Below w.heap.size w w' := by
  have HX := Lib.hid hT
  have HG := Lib.hid hG
  have HO := Lib.hid hO
  have hroom := hO.room
  have hclock := hO.clock
  have hmany := hO.many
  have hused := hO.used
  have HN := Lib.hid hf
  have HP := Lib.hid hp
  obtain ⟨bn, bl, v, h⟩ := hT
  have HT := Lib.hid h
  have c2 := h.c2
  have c0 := h.c0
  have c1 := h.c1
  have hlt := h.lt
  have hlen := fun ty => h.now.len ty
  clear h hO hG hf hp
  go_enter Tryz.func74, Tryz.ntmps74
  go_wp2_with (first
    | (at_lookup; refine wpList_look_none _ rfl _ _ rfl bn q rfl HT.out.now rfl hq HN.out ?_)
    | (go_at_call 42; refine (path_call q hq _ HG.out).mono ?_; rintro e w1 ⟨rfl, hb1⟩; rw [HP.out]; have HB1 := Lib.hid hb1; clear hb1))
  go_ret
  exact ⟨rfl, HB1.out⟩
set_option maxHeartbeats 4000000 in
set_option maxRecDepth 100000 in
theorem wr_n_true_e5 (hT : Tr w φ p T A) (hG : Glob w) (hO : TOK T) (hq : q.size ≤ 100000) (hs : s.size ≤ 1000000000) (hf : findF T.l q = none) (hp : pathV q = true) (h2 : s.size ≤ 16777216) (h3 : blockT T.l q ⟨#[]⟩ = true) :
    Calls Tryz.prog 74 #[.pointer (some ⟨p, 0, none⟩), .string q, .string s, .bool true] w fun e w' => e = .returned (.int .i64 5) ∧ Below w.heap.size w w' := by
  have HX := Lib.hid hT
  have HG := Lib.hid hG
  have HO := Lib.hid hO
  have hroom := hO.room
  have hclock := hO.clock
  have hmany := hO.many
  have hused := hO.used
  have HN := Lib.hid hf
  have HP := Lib.hid hp
  obtain ⟨bn, bl, v, h⟩ := hT
  have HT := Lib.hid h
  have c2 := h.c2
  have c0 := h.c0
  have c1 := h.c1
  have hlt := h.lt
  have hlen := fun ty => h.now.len ty
  clear h hO hG hf hp
  have H3 := Lib.hid h3
  clear h3
  go_enter Tryz.func74, Tryz.ntmps74
  go_wp2_with (first
    | (at_lookup; refine wpList_look_none _ rfl _ _ rfl bn q rfl HT.out.now rfl hq HN.out ?_)
    | (go_at_call 42; refine (path_call q hq _ HG.out).mono ?_; rintro e w1 ⟨rfl, hb1⟩; rw [HP.out]; have HB1 := Lib.hid hb1; clear hb1)
    | (go_at_call 83; refine (blocked_call _ (HX.out.below HB1.out) q ⟨#[]⟩ hq HO.out.paths).mono ?_; rintro e w2 ⟨rfl, hb2⟩; rw [H3.out]; have HB2 := Lib.hid (HB1.out.trans (hb2.mono HB1.out.size)); clear hb2))
  go_ret
  exact ⟨rfl, HB2.out⟩
set_option maxHeartbeats 4000000 in
set_option maxRecDepth 100000 in
theorem wr_n_true_e6 (hT : Tr w φ p T A) (hG : Glob w) (hO : TOK T) (hq : q.size ≤ 100000) (hs : s.size ≤ 1000000000) (hf : findF T.l q = none) (hp : pathV q = true) (h2 : s.size ≤ 16777216) (h3 : blockT T.l q ⟨#[]⟩ = false) (h4 : T.room < (usedF T.l : Int) - 0 + ((s.size : Nat) : Int)) :
    Calls Tryz.prog 74 #[.pointer (some ⟨p, 0, none⟩), .string q, .string s, .bool true] w fun e w' => e = .returned (.int .i64 6) ∧ Below w.heap.size w w' := by
  have HX := Lib.hid hT
  have HG := Lib.hid hG
  have HO := Lib.hid hO
  have hroom := hO.room
  have hclock := hO.clock
  have hmany := hO.many
  have hused := hO.used
  have HN := Lib.hid hf
  have HP := Lib.hid hp
  obtain ⟨bn, bl, v, h⟩ := hT
  have HT := Lib.hid h
  have c2 := h.c2
  have c0 := h.c0
  have c1 := h.c1
  have hlt := h.lt
  have hlen := fun ty => h.now.len ty
  clear h hO hG hf hp
  have H3 := Lib.hid h3
  clear h3
  go_enter Tryz.func74, Tryz.ntmps74
  go_upto_region 16 with (first
    | (at_lookup; refine wpList_look_none _ rfl _ _ rfl bn q rfl HT.out.now rfl hq HN.out ?_)
    | (go_at_call 42; refine (path_call q hq _ HG.out).mono ?_; rintro e w1 ⟨rfl, hb1⟩; rw [HP.out]; have HB1 := Lib.hid hb1; clear hb1)
    | (go_at_call 83; refine (blocked_call _ (HX.out.below HB1.out) q ⟨#[]⟩ hq HO.out.paths).mono ?_; rintro e w2 ⟨rfl, hb2⟩; rw [H3.out]; have HB2 := Lib.hid (HB1.out.trans (hb2.mono HB1.out.size)); clear hb2))
  have c02 := (HB2.out.cell (p := ⟨p, 0, none⟩) hlt).trans c0
  have c12 := (HB2.out.cell (p := ⟨p, 1, none⟩) hlt).trans c1
  have E1 : IntKind.i64.wrap (usedF T.l : Int) = (usedF T.l : Int) := IntWalk.i64_in _ (by omega)
  have E2 : IntKind.i64.wrap ((usedF T.l : Int) + (s.size : Int)) = (usedF T.l : Int) + (s.size : Int) := IntWalk.i64_in _ (by omega)
  have D1 : decide (T.room < (usedF T.l : Int) + (s.size : Int)) = true := decide_eq_true (by omega)
  clear h4
  go_cut [58] (fun v58 wc => v58 = .bool true ∧ Hid (Below w.heap.size w wc))
  case first =>
    first | (go_region_with (first | (go_at_call 37; refine (used_call _ (HX.out.below HB2.out.drew) hused).mono ?_; rintro e w3 ⟨rfl, hb3⟩; have c03 := (hb3.cell (p := ⟨p, 0, none⟩) (Nat.lt_of_lt_of_le hlt HB2.out.size)).trans c02; have HB3 := Lib.hid (HB2.out.drew.trans (hb3.mono HB2.out.size)); clear hb3))) | fail
    all_goals
      go_wp2_with fail
      go_meet
      exact ⟨rfl, HB3⟩
  case rest =>
    obtain ⟨rfl, HBc⟩ := hcut
    go_wp2_with fail
    go_ret
    exact ⟨rfl, HBc.out⟩
set_option maxHeartbeats 4000000 in
set_option maxRecDepth 100000 in
theorem wr_n_true_e7 (hT : Tr w φ p T A) (hG : Glob w) (hO : TOK T) (hq : q.size ≤ 100000) (hs : s.size ≤ 1000000000) (hf : findF T.l q = none) (hp : pathV q = true) (h2 : s.size ≤ 16777216) (h3 : blockT T.l q ⟨#[]⟩ = false) (h4 : ¬ T.room < (usedF T.l : Int) - 0 + ((s.size : Nat) : Int)) (h5 : 200 < T.l.length + 1) :
    Calls Tryz.prog 74 #[.pointer (some ⟨p, 0, none⟩), .string q, .string s, .bool true] w fun e w' => e = .returned (.int .i64 6) ∧ Below w.heap.size w w' := by
  have HX := Lib.hid hT
  have HG := Lib.hid hG
  have HO := Lib.hid hO
  have hroom := hO.room
  have hclock := hO.clock
  have hmany := hO.many
  have hused := hO.used
  have HN := Lib.hid hf
  have HP := Lib.hid hp
  obtain ⟨bn, bl, v, h⟩ := hT
  have HT := Lib.hid h
  have c2 := h.c2
  have c0 := h.c0
  have c1 := h.c1
  have hlt := h.lt
  have hlen := fun ty => h.now.len ty
  clear h hO hG hf hp
  have H3 := Lib.hid h3
  clear h3
  go_enter Tryz.func74, Tryz.ntmps74
  go_upto_region 16 with (first
    | (at_lookup; refine wpList_look_none _ rfl _ _ rfl bn q rfl HT.out.now rfl hq HN.out ?_)
    | (go_at_call 42; refine (path_call q hq _ HG.out).mono ?_; rintro e w1 ⟨rfl, hb1⟩; rw [HP.out]; have HB1 := Lib.hid hb1; clear hb1)
    | (go_at_call 83; refine (blocked_call _ (HX.out.below HB1.out) q ⟨#[]⟩ hq HO.out.paths).mono ?_; rintro e w2 ⟨rfl, hb2⟩; rw [H3.out]; have HB2 := Lib.hid (HB1.out.trans (hb2.mono HB1.out.size)); clear hb2))
  have c02 := (HB2.out.cell (p := ⟨p, 0, none⟩) hlt).trans c0
  have c12 := (HB2.out.cell (p := ⟨p, 1, none⟩) hlt).trans c1
  have E1 : IntKind.i64.wrap (usedF T.l : Int) = (usedF T.l : Int) := IntWalk.i64_in _ (by omega)
  have E2 : IntKind.i64.wrap ((usedF T.l : Int) + (s.size : Int)) = (usedF T.l : Int) + (s.size : Int) := IntWalk.i64_in _ (by omega)
  have D1 : decide (T.room < (usedF T.l : Int) + (s.size : Int)) = false := decide_eq_false (by omega)
  have D2 : decide ((200 : Int) < (T.l.length : Int) + 1) = true := decide_eq_true (by omega)
  clear h4 h5
  go_cut [58] (fun v58 wc => v58 = .bool true ∧ Hid (Below w.heap.size w wc))
  case first =>
    first | (go_region_held3 (fun w' => w'.cell? ⟨p, 0, none⟩ = some (.int .i64 T.room) ∧ Hid (Below w.heap.size w w')) (first | exact ⟨c02, HB2.out.drew⟩ | exact ⟨c03, HB3⟩) (first | (go_at_call 37; refine (used_call _ (HX.out.below HB2.out.drew) hused).mono ?_; rintro e w3 ⟨rfl, hb3⟩; have c03 := (hb3.cell (p := ⟨p, 0, none⟩) (Nat.lt_of_lt_of_le hlt HB2.out.size)).trans c02; have HB3 := Lib.hid (HB2.out.drew.trans (hb3.mono HB2.out.size)); clear hb3))) | fail
    all_goals
      go_wp2_with fail
      go_meet
      exact ⟨rfl, HB3⟩
  case rest =>
    obtain ⟨rfl, HBc⟩ := hcut
    go_wp2_with fail
    go_ret
    exact ⟨rfl, HBc.out⟩
set_option maxHeartbeats 4000000 in
set_option maxRecDepth 100000 in
theorem wr_n_true_ok (hT : Tr w φ p T A) (hG : Glob w) (hO : TOK T) (hq : q.size ≤ 100000) (hs : s.size ≤ 1000000000) (hf : findF T.l q = none) (hp : pathV q = true) (h2 : s.size ≤ 16777216) (h3 : blockT T.l q ⟨#[]⟩ = false) (h4 : ¬ T.room < (usedF T.l : Int) - 0 + ((s.size : Nat) : Int)) (h5 : T.l.length + 1 ≤ 200) :
    Calls Tryz.prog 74 #[.pointer (some ⟨p, 0, none⟩), .string q, .string s, .bool true] w fun e w' => e = .returned (.int .i64 0) ∧ TrEnd w φ p A (doneT T ⟨2, q, s, T.clock + 1⟩) w' := by
  have HX := Lib.hid hT
  have HG := Lib.hid hG
  have HO := Lib.hid hO
  have hroom := hO.room
  have hclock := hO.clock
  have hmany := hO.many
  have hused := hO.used
  have HN := Lib.hid hf
  have HP := Lib.hid hp
  obtain ⟨bn, bl, v, h⟩ := hT
  have HT := Lib.hid h
  have c2 := h.c2
  have c0 := h.c0
  have c1 := h.c1
  have hlt := h.lt
  have hlen := fun ty => h.now.len ty
  clear h hO hG hf hp
  have H3 := Lib.hid h3
  clear h3
  go_enter Tryz.func74, Tryz.ntmps74
  go_upto_region 16 with (first
    | (at_lookup; refine wpList_look_none _ rfl _ _ rfl bn q rfl HT.out.now rfl hq HN.out ?_)
    | (go_at_call 42; refine (path_call q hq _ HG.out).mono ?_; rintro e w1 ⟨rfl, hb1⟩; rw [HP.out]; have HB1 := Lib.hid hb1; clear hb1)
    | (go_at_call 83; refine (blocked_call _ (HX.out.below HB1.out) q ⟨#[]⟩ hq HO.out.paths).mono ?_; rintro e w2 ⟨rfl, hb2⟩; rw [H3.out]; have HB2 := Lib.hid (HB1.out.trans (hb2.mono HB1.out.size)); clear hb2))
  have c02 := (HB2.out.cell (p := ⟨p, 0, none⟩) hlt).trans c0
  have c12 := (HB2.out.cell (p := ⟨p, 1, none⟩) hlt).trans c1
  have E1 : IntKind.i64.wrap (usedF T.l : Int) = (usedF T.l : Int) := IntWalk.i64_in _ (by omega)
  have E2 : IntKind.i64.wrap ((usedF T.l : Int) + (s.size : Int)) = (usedF T.l : Int) + (s.size : Int) := IntWalk.i64_in _ (by omega)
  have D1 : decide (T.room < (usedF T.l : Int) + (s.size : Int)) = false := decide_eq_false (by omega)
  have D2 : decide ((200 : Int) < (T.l.length : Int) + 1) = false := decide_eq_false (by omega)
  clear h4 h5
  go_cut [58] (fun v58 wc => v58 = .bool false ∧ Hid (Below w.heap.size w wc))
  case first =>
    first | (go_region_held3 (fun w' => w'.cell? ⟨p, 0, none⟩ = some (.int .i64 T.room) ∧ Hid (Below w.heap.size w w')) (first | exact ⟨c02, HB2.out.drew⟩ | exact ⟨c03, HB3⟩) (first | (go_at_call 37; refine (used_call _ (HX.out.below HB2.out.drew) hused).mono ?_; rintro e w3 ⟨rfl, hb3⟩; have c03 := (hb3.cell (p := ⟨p, 0, none⟩) (Nat.lt_of_lt_of_le hlt HB2.out.size)).trans c02; have HB3 := Lib.hid (HB2.out.drew.trans (hb3.mono HB2.out.size)); clear hb3))) | fail
    all_goals
      go_wp2_with fail
      go_meet
      exact ⟨rfl, HB3⟩
  case rest =>
    obtain ⟨rfl, HBc⟩ := hcut
    have cc1 := (HBc.out.cell (p := ⟨p, 1, none⟩) hlt).trans c1
    have HD : Hid (∀ W, Tr W φ p T A → Calls Tryz.prog 80 #[.pointer (some ⟨p, 0, none⟩), .agg #[.int .i64 1, .string q, .string s, .int .i64 (T.clock + 1)]] W fun e w' => e = .returned (.int .i64 0) ∧ TrEnd W φ p A (doneT T ⟨2, q, s, T.clock + 1⟩) w') := fun W hW =>
      done_call W hW ⟨2, q, s, T.clock + 1⟩ ⟨.inr (.inl rfl), hq, hs, fun e => absurd e (show ¬ ((2 : Int) = 4) by decide)⟩ HO.out.many (fun f hf => Nat.le_trans (HO.out.texts f hf) (by decide)) HO.out.clock HO.out.chs
    go_wp2_with (first
      | (go_at_call 80; refine (HD.out _ (HX.out.below HBc.out)).mono ?_; rintro e w4 ⟨rfl, he4⟩; have HE4 := Lib.hid he4; clear he4))
    go_ret
    exact ⟨rfl, HE4.out.left HBc.out⟩
set_option maxHeartbeats 4000000 in
set_option maxRecDepth 100000 in
theorem wr_n_false_e1 (hT : Tr w φ p T A) (hG : Glob w) (hO : TOK T) (hq : q.size ≤ 100000) (hs : s.size ≤ 1000000000) (hf : findF T.l q = none) (hp : pathV q = false) :
    Calls Tryz.prog 74 #[.pointer (some ⟨p, 0, none⟩), .string q, .string s, .bool false] w fun e w' => e = .returned (.int .i64 1) ∧ Below w.heap.size w w' := by
  have HX := Lib.hid hT
  have HG := Lib.hid hG
  have HO := Lib.hid hO
  have hroom := hO.room
  have hclock := hO.clock
  have hmany := hO.many
  have hused := hO.used
  have HN := Lib.hid hf
  have HP := Lib.hid hp
  obtain ⟨bn, bl, v, h⟩ := hT
  have HT := Lib.hid h
  have c2 := h.c2
  have c0 := h.c0
  have c1 := h.c1
  have hlt := h.lt
  have hlen := fun ty => h.now.len ty
  clear h hO hG hf hp
  go_enter Tryz.func74, Tryz.ntmps74
  go_wp2_with (first
    | (at_lookup; refine wpList_look_none _ rfl _ _ rfl bn q rfl HT.out.now rfl hq HN.out ?_)
    | (go_at_call 42; refine (path_call q hq _ HG.out).mono ?_; rintro e w1 ⟨rfl, hb1⟩; rw [HP.out]; have HB1 := Lib.hid hb1; clear hb1))
  go_ret
  exact ⟨rfl, HB1.out⟩
set_option maxHeartbeats 4000000 in
set_option maxRecDepth 100000 in
theorem wr_n_false_e3 (hT : Tr w φ p T A) (hG : Glob w) (hO : TOK T) (hq : q.size ≤ 100000) (hs : s.size ≤ 1000000000) (hf : findF T.l q = none) (hp : pathV q = true) (h2 : 16777216 < s.size) :
    Calls Tryz.prog 74 #[.pointer (some ⟨p, 0, none⟩), .string q, .string s, .bool false] w fun e w' => e = .returned (.int .i64 3) ∧ Below w.heap.size w w' := by
  have HX := Lib.hid hT
  have HG := Lib.hid hG
  have HO := Lib.hid hO
  have hroom := hO.room
  have hclock := hO.clock
  have hmany := hO.many
  have hused := hO.used
  have HN := Lib.hid hf
  have HP := Lib.hid hp
  obtain ⟨bn, bl, v, h⟩ := hT
  have HT := Lib.hid h
  have c2 := h.c2
  have c0 := h.c0
  have c1 := h.c1
  have hlt := h.lt
  have hlen := fun ty => h.now.len ty
  clear h hO hG hf hp
  go_enter Tryz.func74, Tryz.ntmps74
  go_wp2_with (first
    | (at_lookup; refine wpList_look_none _ rfl _ _ rfl bn q rfl HT.out.now rfl hq HN.out ?_)
    | (go_at_call 42; refine (path_call q hq _ HG.out).mono ?_; rintro e w1 ⟨rfl, hb1⟩; rw [HP.out]; have HB1 := Lib.hid hb1; clear hb1))
  go_ret
  exact ⟨rfl, HB1.out⟩
set_option maxHeartbeats 4000000 in
set_option maxRecDepth 100000 in
theorem wr_n_false_e5 (hT : Tr w φ p T A) (hG : Glob w) (hO : TOK T) (hq : q.size ≤ 100000) (hs : s.size ≤ 1000000000) (hf : findF T.l q = none) (hp : pathV q = true) (h2 : s.size ≤ 16777216) (h3 : blockT T.l q ⟨#[]⟩ = true) :
    Calls Tryz.prog 74 #[.pointer (some ⟨p, 0, none⟩), .string q, .string s, .bool false] w fun e w' => e = .returned (.int .i64 5) ∧ Below w.heap.size w w' := by
  have HX := Lib.hid hT
  have HG := Lib.hid hG
  have HO := Lib.hid hO
  have hroom := hO.room
  have hclock := hO.clock
  have hmany := hO.many
  have hused := hO.used
  have HN := Lib.hid hf
  have HP := Lib.hid hp
  obtain ⟨bn, bl, v, h⟩ := hT
  have HT := Lib.hid h
  have c2 := h.c2
  have c0 := h.c0
  have c1 := h.c1
  have hlt := h.lt
  have hlen := fun ty => h.now.len ty
  clear h hO hG hf hp
  have H3 := Lib.hid h3
  clear h3
  go_enter Tryz.func74, Tryz.ntmps74
  go_wp2_with (first
    | (at_lookup; refine wpList_look_none _ rfl _ _ rfl bn q rfl HT.out.now rfl hq HN.out ?_)
    | (go_at_call 42; refine (path_call q hq _ HG.out).mono ?_; rintro e w1 ⟨rfl, hb1⟩; rw [HP.out]; have HB1 := Lib.hid hb1; clear hb1)
    | (go_at_call 83; refine (blocked_call _ (HX.out.below HB1.out) q ⟨#[]⟩ hq HO.out.paths).mono ?_; rintro e w2 ⟨rfl, hb2⟩; rw [H3.out]; have HB2 := Lib.hid (HB1.out.trans (hb2.mono HB1.out.size)); clear hb2))
  go_ret
  exact ⟨rfl, HB2.out⟩
set_option maxHeartbeats 4000000 in
set_option maxRecDepth 100000 in
theorem wr_n_false_e6 (hT : Tr w φ p T A) (hG : Glob w) (hO : TOK T) (hq : q.size ≤ 100000) (hs : s.size ≤ 1000000000) (hf : findF T.l q = none) (hp : pathV q = true) (h2 : s.size ≤ 16777216) (h3 : blockT T.l q ⟨#[]⟩ = false) (h4 : T.room < (usedF T.l : Int) - 0 + ((s.size : Nat) : Int)) :
    Calls Tryz.prog 74 #[.pointer (some ⟨p, 0, none⟩), .string q, .string s, .bool false] w fun e w' => e = .returned (.int .i64 6) ∧ Below w.heap.size w w' := by
  have HX := Lib.hid hT
  have HG := Lib.hid hG
  have HO := Lib.hid hO
  have hroom := hO.room
  have hclock := hO.clock
  have hmany := hO.many
  have hused := hO.used
  have HN := Lib.hid hf
  have HP := Lib.hid hp
  obtain ⟨bn, bl, v, h⟩ := hT
  have HT := Lib.hid h
  have c2 := h.c2
  have c0 := h.c0
  have c1 := h.c1
  have hlt := h.lt
  have hlen := fun ty => h.now.len ty
  clear h hO hG hf hp
  have H3 := Lib.hid h3
  clear h3
  go_enter Tryz.func74, Tryz.ntmps74
  go_upto_region 16 with (first
    | (at_lookup; refine wpList_look_none _ rfl _ _ rfl bn q rfl HT.out.now rfl hq HN.out ?_)
    | (go_at_call 42; refine (path_call q hq _ HG.out).mono ?_; rintro e w1 ⟨rfl, hb1⟩; rw [HP.out]; have HB1 := Lib.hid hb1; clear hb1)
    | (go_at_call 83; refine (blocked_call _ (HX.out.below HB1.out) q ⟨#[]⟩ hq HO.out.paths).mono ?_; rintro e w2 ⟨rfl, hb2⟩; rw [H3.out]; have HB2 := Lib.hid (HB1.out.trans (hb2.mono HB1.out.size)); clear hb2))
  have c02 := (HB2.out.cell (p := ⟨p, 0, none⟩) hlt).trans c0
  have c12 := (HB2.out.cell (p := ⟨p, 1, none⟩) hlt).trans c1
  have E1 : IntKind.i64.wrap (usedF T.l : Int) = (usedF T.l : Int) := IntWalk.i64_in _ (by omega)
  have E2 : IntKind.i64.wrap ((usedF T.l : Int) + (s.size : Int)) = (usedF T.l : Int) + (s.size : Int) := IntWalk.i64_in _ (by omega)
  have D1 : decide (T.room < (usedF T.l : Int) + (s.size : Int)) = true := decide_eq_true (by omega)
  clear h4
  go_cut [58] (fun v58 wc => v58 = .bool true ∧ Hid (Below w.heap.size w wc))
  case first =>
    first | (go_region_with (first | (go_at_call 37; refine (used_call _ (HX.out.below HB2.out.drew) hused).mono ?_; rintro e w3 ⟨rfl, hb3⟩; have c03 := (hb3.cell (p := ⟨p, 0, none⟩) (Nat.lt_of_lt_of_le hlt HB2.out.size)).trans c02; have HB3 := Lib.hid (HB2.out.drew.trans (hb3.mono HB2.out.size)); clear hb3))) | fail
    all_goals
      go_wp2_with fail
      go_meet
      exact ⟨rfl, HB3⟩
  case rest =>
    obtain ⟨rfl, HBc⟩ := hcut
    go_wp2_with fail
    go_ret
    exact ⟨rfl, HBc.out⟩
set_option maxHeartbeats 4000000 in
set_option maxRecDepth 100000 in
theorem wr_n_false_e7 (hT : Tr w φ p T A) (hG : Glob w) (hO : TOK T) (hq : q.size ≤ 100000) (hs : s.size ≤ 1000000000) (hf : findF T.l q = none) (hp : pathV q = true) (h2 : s.size ≤ 16777216) (h3 : blockT T.l q ⟨#[]⟩ = false) (h4 : ¬ T.room < (usedF T.l : Int) - 0 + ((s.size : Nat) : Int)) (h5 : 200 < T.l.length + 1) :
    Calls Tryz.prog 74 #[.pointer (some ⟨p, 0, none⟩), .string q, .string s, .bool false] w fun e w' => e = .returned (.int .i64 6) ∧ Below w.heap.size w w' := by
  have HX := Lib.hid hT
  have HG := Lib.hid hG
  have HO := Lib.hid hO
  have hroom := hO.room
  have hclock := hO.clock
  have hmany := hO.many
  have hused := hO.used
  have HN := Lib.hid hf
  have HP := Lib.hid hp
  obtain ⟨bn, bl, v, h⟩ := hT
  have HT := Lib.hid h
  have c2 := h.c2
  have c0 := h.c0
  have c1 := h.c1
  have hlt := h.lt
  have hlen := fun ty => h.now.len ty
  clear h hO hG hf hp
  have H3 := Lib.hid h3
  clear h3
  go_enter Tryz.func74, Tryz.ntmps74
  go_upto_region 16 with (first
    | (at_lookup; refine wpList_look_none _ rfl _ _ rfl bn q rfl HT.out.now rfl hq HN.out ?_)
    | (go_at_call 42; refine (path_call q hq _ HG.out).mono ?_; rintro e w1 ⟨rfl, hb1⟩; rw [HP.out]; have HB1 := Lib.hid hb1; clear hb1)
    | (go_at_call 83; refine (blocked_call _ (HX.out.below HB1.out) q ⟨#[]⟩ hq HO.out.paths).mono ?_; rintro e w2 ⟨rfl, hb2⟩; rw [H3.out]; have HB2 := Lib.hid (HB1.out.trans (hb2.mono HB1.out.size)); clear hb2))
  have c02 := (HB2.out.cell (p := ⟨p, 0, none⟩) hlt).trans c0
  have c12 := (HB2.out.cell (p := ⟨p, 1, none⟩) hlt).trans c1
  have E1 : IntKind.i64.wrap (usedF T.l : Int) = (usedF T.l : Int) := IntWalk.i64_in _ (by omega)
  have E2 : IntKind.i64.wrap ((usedF T.l : Int) + (s.size : Int)) = (usedF T.l : Int) + (s.size : Int) := IntWalk.i64_in _ (by omega)
  have D1 : decide (T.room < (usedF T.l : Int) + (s.size : Int)) = false := decide_eq_false (by omega)
  have D2 : decide ((200 : Int) < (T.l.length : Int) + 1) = true := decide_eq_true (by omega)
  clear h4 h5
  go_cut [58] (fun v58 wc => v58 = .bool true ∧ Hid (Below w.heap.size w wc))
  case first =>
    first | (go_region_held3 (fun w' => w'.cell? ⟨p, 0, none⟩ = some (.int .i64 T.room) ∧ Hid (Below w.heap.size w w')) (first | exact ⟨c02, HB2.out.drew⟩ | exact ⟨c03, HB3⟩) (first | (go_at_call 37; refine (used_call _ (HX.out.below HB2.out.drew) hused).mono ?_; rintro e w3 ⟨rfl, hb3⟩; have c03 := (hb3.cell (p := ⟨p, 0, none⟩) (Nat.lt_of_lt_of_le hlt HB2.out.size)).trans c02; have HB3 := Lib.hid (HB2.out.drew.trans (hb3.mono HB2.out.size)); clear hb3))) | fail
    all_goals
      go_wp2_with fail
      go_meet
      exact ⟨rfl, HB3⟩
  case rest =>
    obtain ⟨rfl, HBc⟩ := hcut
    go_wp2_with fail
    go_ret
    exact ⟨rfl, HBc.out⟩
set_option maxHeartbeats 4000000 in
set_option maxRecDepth 100000 in
theorem wr_n_false_ok (hT : Tr w φ p T A) (hG : Glob w) (hO : TOK T) (hq : q.size ≤ 100000) (hs : s.size ≤ 1000000000) (hf : findF T.l q = none) (hp : pathV q = true) (h2 : s.size ≤ 16777216) (h3 : blockT T.l q ⟨#[]⟩ = false) (h4 : ¬ T.room < (usedF T.l : Int) - 0 + ((s.size : Nat) : Int)) (h5 : T.l.length + 1 ≤ 200) :
    Calls Tryz.prog 74 #[.pointer (some ⟨p, 0, none⟩), .string q, .string s, .bool false] w fun e w' => e = .returned (.int .i64 0) ∧ TrEnd w φ p A (doneT T ⟨1, q, s, T.clock + 1⟩) w' := by
  have HX := Lib.hid hT
  have HG := Lib.hid hG
  have HO := Lib.hid hO
  have hroom := hO.room
  have hclock := hO.clock
  have hmany := hO.many
  have hused := hO.used
  have HN := Lib.hid hf
  have HP := Lib.hid hp
  obtain ⟨bn, bl, v, h⟩ := hT
  have HT := Lib.hid h
  have c2 := h.c2
  have c0 := h.c0
  have c1 := h.c1
  have hlt := h.lt
  have hlen := fun ty => h.now.len ty
  clear h hO hG hf hp
  have H3 := Lib.hid h3
  clear h3
  go_enter Tryz.func74, Tryz.ntmps74
  go_upto_region 16 with (first
    | (at_lookup; refine wpList_look_none _ rfl _ _ rfl bn q rfl HT.out.now rfl hq HN.out ?_)
    | (go_at_call 42; refine (path_call q hq _ HG.out).mono ?_; rintro e w1 ⟨rfl, hb1⟩; rw [HP.out]; have HB1 := Lib.hid hb1; clear hb1)
    | (go_at_call 83; refine (blocked_call _ (HX.out.below HB1.out) q ⟨#[]⟩ hq HO.out.paths).mono ?_; rintro e w2 ⟨rfl, hb2⟩; rw [H3.out]; have HB2 := Lib.hid (HB1.out.trans (hb2.mono HB1.out.size)); clear hb2))
  have c02 := (HB2.out.cell (p := ⟨p, 0, none⟩) hlt).trans c0
  have c12 := (HB2.out.cell (p := ⟨p, 1, none⟩) hlt).trans c1
  have E1 : IntKind.i64.wrap (usedF T.l : Int) = (usedF T.l : Int) := IntWalk.i64_in _ (by omega)
  have E2 : IntKind.i64.wrap ((usedF T.l : Int) + (s.size : Int)) = (usedF T.l : Int) + (s.size : Int) := IntWalk.i64_in _ (by omega)
  have D1 : decide (T.room < (usedF T.l : Int) + (s.size : Int)) = false := decide_eq_false (by omega)
  have D2 : decide ((200 : Int) < (T.l.length : Int) + 1) = false := decide_eq_false (by omega)
  clear h4 h5
  go_cut [58] (fun v58 wc => v58 = .bool false ∧ Hid (Below w.heap.size w wc))
  case first =>
    first | (go_region_held3 (fun w' => w'.cell? ⟨p, 0, none⟩ = some (.int .i64 T.room) ∧ Hid (Below w.heap.size w w')) (first | exact ⟨c02, HB2.out.drew⟩ | exact ⟨c03, HB3⟩) (first | (go_at_call 37; refine (used_call _ (HX.out.below HB2.out.drew) hused).mono ?_; rintro e w3 ⟨rfl, hb3⟩; have c03 := (hb3.cell (p := ⟨p, 0, none⟩) (Nat.lt_of_lt_of_le hlt HB2.out.size)).trans c02; have HB3 := Lib.hid (HB2.out.drew.trans (hb3.mono HB2.out.size)); clear hb3))) | fail
    all_goals
      go_wp2_with fail
      go_meet
      exact ⟨rfl, HB3⟩
  case rest =>
    obtain ⟨rfl, HBc⟩ := hcut
    have cc1 := (HBc.out.cell (p := ⟨p, 1, none⟩) hlt).trans c1
    have HD : Hid (∀ W, Tr W φ p T A → Calls Tryz.prog 80 #[.pointer (some ⟨p, 0, none⟩), .agg #[.int .i64 0, .string q, .string s, .int .i64 (T.clock + 1)]] W fun e w' => e = .returned (.int .i64 0) ∧ TrEnd W φ p A (doneT T ⟨1, q, s, T.clock + 1⟩) w') := fun W hW =>
      done_call W hW ⟨1, q, s, T.clock + 1⟩ ⟨.inl rfl, hq, hs, fun e => absurd e (show ¬ ((1 : Int) = 4) by decide)⟩ HO.out.many (fun f hf => Nat.le_trans (HO.out.texts f hf) (by decide)) HO.out.clock HO.out.chs
    go_wp2_with (first
      | (go_at_call 80; refine (HD.out _ (HX.out.below HBc.out)).mono ?_; rintro e w4 ⟨rfl, he4⟩; have HE4 := Lib.hid he4; clear he4))
    go_ret
    exact ⟨rfl, HE4.out.left HBc.out⟩
set_option maxHeartbeats 4000000 in
set_option maxRecDepth 100000 in
theorem wr_s_true_e1 (hT : Tr w φ p T A) (hG : Glob w) (hO : TOK T) (hq : q.size ≤ 100000) (hs : s.size ≤ 1000000000) (f : Fl) (hf : findF T.l q = some f) (hf1 : f.f1.size ≤ 1000000000) (hp : pathV q = false) :
    Calls Tryz.prog 74 #[.pointer (some ⟨p, 0, none⟩), .string q, .string s, .bool true] w fun e w' => e = .returned (.int .i64 1) ∧ Below w.heap.size w w' := by
  have HX := Lib.hid hT
  have HG := Lib.hid hG
  have HO := Lib.hid hO
  have hroom := hO.room
  have hclock := hO.clock
  have hmany := hO.many
  have hused := hO.used
  have HN := Lib.hid hf
  have HP := Lib.hid hp
  obtain ⟨bn, bl, v, h⟩ := hT
  have HT := Lib.hid h
  have c2 := h.c2
  have c0 := h.c0
  have c1 := h.c1
  have hlt := h.lt
  have hlen := fun ty => h.now.len ty
  clear h hO hG hf hp
  go_enter Tryz.func74, Tryz.ntmps74
  go_wp2_with (first
    | (at_lookup; refine wpList_look_some _ rfl _ _ rfl bn q rfl HT.out.now rfl hq _ HN.out ?_; intro qb hqb; have hq0 := HT.out.files.cell0 hqb; clear hqb)
    | (go_at_call 42; refine (path_call q hq _ HG.out).mono ?_; rintro e w1 ⟨rfl, hb1⟩; rw [HP.out]; have HB1 := Lib.hid hb1; clear hb1))
  go_ret
  exact ⟨rfl, HB1.out⟩
set_option maxHeartbeats 4000000 in
set_option maxRecDepth 100000 in
theorem wr_s_true_e3 (hT : Tr w φ p T A) (hG : Glob w) (hO : TOK T) (hq : q.size ≤ 100000) (hs : s.size ≤ 1000000000) (f : Fl) (hf : findF T.l q = some f) (hf1 : f.f1.size ≤ 1000000000) (hp : pathV q = true) (h2 : 16777216 < s.size + f.f1.size) :
    Calls Tryz.prog 74 #[.pointer (some ⟨p, 0, none⟩), .string q, .string s, .bool true] w fun e w' => e = .returned (.int .i64 3) ∧ Below w.heap.size w w' := by
  have HX := Lib.hid hT
  have HG := Lib.hid hG
  have HO := Lib.hid hO
  have hroom := hO.room
  have hclock := hO.clock
  have hmany := hO.many
  have hused := hO.used
  have HN := Lib.hid hf
  have HP := Lib.hid hp
  obtain ⟨bn, bl, v, h⟩ := hT
  have HT := Lib.hid h
  have c2 := h.c2
  have c0 := h.c0
  have c1 := h.c1
  have hlt := h.lt
  have hlen := fun ty => h.now.len ty
  clear h hO hG hf hp
  go_enter Tryz.func74, Tryz.ntmps74
  go_wp2_with (first
    | (at_lookup; refine wpList_look_some _ rfl _ _ rfl bn q rfl HT.out.now rfl hq _ HN.out ?_; intro qb hqb; have hq0 := HT.out.files.cell0 hqb; clear hqb)
    | (go_at_call 42; refine (path_call q hq _ HG.out).mono ?_; rintro e w1 ⟨rfl, hb1⟩; rw [HP.out]; have HB1 := Lib.hid hb1; clear hb1))
  go_ret
  exact ⟨rfl, HB1.out⟩
set_option maxHeartbeats 4000000 in
set_option maxRecDepth 100000 in
theorem wr_s_true_e5 (hT : Tr w φ p T A) (hG : Glob w) (hO : TOK T) (hq : q.size ≤ 100000) (hs : s.size ≤ 1000000000) (f : Fl) (hf : findF T.l q = some f) (hf1 : f.f1.size ≤ 1000000000) (hp : pathV q = true) (h2 : s.size + f.f1.size ≤ 16777216) (h3 : blockT T.l q ⟨#[]⟩ = true) :
    Calls Tryz.prog 74 #[.pointer (some ⟨p, 0, none⟩), .string q, .string s, .bool true] w fun e w' => e = .returned (.int .i64 5) ∧ Below w.heap.size w w' := by
  have HX := Lib.hid hT
  have HG := Lib.hid hG
  have HO := Lib.hid hO
  have hroom := hO.room
  have hclock := hO.clock
  have hmany := hO.many
  have hused := hO.used
  have HN := Lib.hid hf
  have HP := Lib.hid hp
  obtain ⟨bn, bl, v, h⟩ := hT
  have HT := Lib.hid h
  have c2 := h.c2
  have c0 := h.c0
  have c1 := h.c1
  have hlt := h.lt
  have hlen := fun ty => h.now.len ty
  clear h hO hG hf hp
  have H3 := Lib.hid h3
  clear h3
  go_enter Tryz.func74, Tryz.ntmps74
  go_wp2_with (first
    | (at_lookup; refine wpList_look_some _ rfl _ _ rfl bn q rfl HT.out.now rfl hq _ HN.out ?_; intro qb hqb; have hq0 := HT.out.files.cell0 hqb; clear hqb)
    | (go_at_call 42; refine (path_call q hq _ HG.out).mono ?_; rintro e w1 ⟨rfl, hb1⟩; rw [HP.out]; have HB1 := Lib.hid hb1; clear hb1)
    | (go_at_call 83; refine (blocked_call _ (HX.out.below HB1.out) q ⟨#[]⟩ hq HO.out.paths).mono ?_; rintro e w2 ⟨rfl, hb2⟩; rw [H3.out]; have HB2 := Lib.hid (HB1.out.trans (hb2.mono HB1.out.size)); clear hb2))
  go_ret
  exact ⟨rfl, HB2.out⟩
set_option maxHeartbeats 4000000 in
set_option maxRecDepth 100000 in
theorem wr_s_true_e6 (hT : Tr w φ p T A) (hG : Glob w) (hO : TOK T) (hq : q.size ≤ 100000) (hs : s.size ≤ 1000000000) (f : Fl) (hf : findF T.l q = some f) (hf1 : f.f1.size ≤ 1000000000) (hp : pathV q = true) (h2 : s.size + f.f1.size ≤ 16777216) (h3 : blockT T.l q ⟨#[]⟩ = false) (h4 : T.room < (usedF T.l : Int) - (f.f1.size : Int) + ((s.size + f.f1.size : Nat) : Int)) :
    Calls Tryz.prog 74 #[.pointer (some ⟨p, 0, none⟩), .string q, .string s, .bool true] w fun e w' => e = .returned (.int .i64 6) ∧ Below w.heap.size w w' := by
  have HX := Lib.hid hT
  have HG := Lib.hid hG
  have HO := Lib.hid hO
  have hroom := hO.room
  have hclock := hO.clock
  have hmany := hO.many
  have hused := hO.used
  have HN := Lib.hid hf
  have HP := Lib.hid hp
  obtain ⟨bn, bl, v, h⟩ := hT
  have HT := Lib.hid h
  have c2 := h.c2
  have c0 := h.c0
  have c1 := h.c1
  have hlt := h.lt
  have hlen := fun ty => h.now.len ty
  clear h hO hG hf hp
  have H3 := Lib.hid h3
  clear h3
  go_enter Tryz.func74, Tryz.ntmps74
  go_upto_region 16 with (first
    | (at_lookup; refine wpList_look_some _ rfl _ _ rfl bn q rfl HT.out.now rfl hq _ HN.out ?_; intro qb hqb; have hq0 := HT.out.files.cell0 hqb; clear hqb)
    | (go_at_call 42; refine (path_call q hq _ HG.out).mono ?_; rintro e w1 ⟨rfl, hb1⟩; rw [HP.out]; have HB1 := Lib.hid hb1; clear hb1)
    | (go_at_call 83; refine (blocked_call _ (HX.out.below HB1.out) q ⟨#[]⟩ hq HO.out.paths).mono ?_; rintro e w2 ⟨rfl, hb2⟩; rw [H3.out]; have HB2 := Lib.hid (HB1.out.trans (hb2.mono HB1.out.size)); clear hb2))
  have c02 := (HB2.out.cell (p := ⟨p, 0, none⟩) hlt).trans c0
  have c12 := (HB2.out.cell (p := ⟨p, 1, none⟩) hlt).trans c1
  have E1 : IntKind.i64.wrap ((usedF T.l : Int) - (f.f1.size : Int)) = ((usedF T.l : Int) - (f.f1.size : Int)) := IntWalk.i64_in _ (by omega)
  have E2 : IntKind.i64.wrap (((usedF T.l : Int) - (f.f1.size : Int)) + ((s.size : Int) + (f.f1.size : Int))) = ((usedF T.l : Int) - (f.f1.size : Int)) + ((s.size : Int) + (f.f1.size : Int)) := IntWalk.i64_in _ (by omega)
  have D1 : decide (T.room < ((usedF T.l : Int) - (f.f1.size : Int)) + ((s.size : Int) + (f.f1.size : Int))) = true := decide_eq_true (by omega)
  clear h4
  go_cut [58] (fun v58 wc => v58 = .bool true ∧ Hid (Below w.heap.size w wc))
  case first =>
    first | (go_region_with (first | (go_at_call 37; refine (used_call _ (HX.out.below HB2.out.drew) hused).mono ?_; rintro e w3 ⟨rfl, hb3⟩; have c03 := (hb3.cell (p := ⟨p, 0, none⟩) (Nat.lt_of_lt_of_le hlt HB2.out.size)).trans c02; have HB3 := Lib.hid (HB2.out.drew.trans (hb3.mono HB2.out.size)); clear hb3))) | fail
    all_goals
      go_wp2_with fail
      go_meet
      exact ⟨rfl, HB3⟩
  case rest =>
    obtain ⟨rfl, HBc⟩ := hcut
    go_wp2_with fail
    go_ret
    exact ⟨rfl, HBc.out⟩
set_option maxHeartbeats 4000000 in
set_option maxRecDepth 100000 in
theorem wr_s_true_e7 (hT : Tr w φ p T A) (hG : Glob w) (hO : TOK T) (hq : q.size ≤ 100000) (hs : s.size ≤ 1000000000) (f : Fl) (hf : findF T.l q = some f) (hf1 : f.f1.size ≤ 1000000000) (hp : pathV q = true) (h2 : s.size + f.f1.size ≤ 16777216) (h3 : blockT T.l q ⟨#[]⟩ = false) (h4 : ¬ T.room < (usedF T.l : Int) - (f.f1.size : Int) + ((s.size + f.f1.size : Nat) : Int)) (h5 : 200 < T.l.length) :
    Calls Tryz.prog 74 #[.pointer (some ⟨p, 0, none⟩), .string q, .string s, .bool true] w fun e w' => e = .returned (.int .i64 6) ∧ Below w.heap.size w w' := by
  have HX := Lib.hid hT
  have HG := Lib.hid hG
  have HO := Lib.hid hO
  have hroom := hO.room
  have hclock := hO.clock
  have hmany := hO.many
  have hused := hO.used
  have HN := Lib.hid hf
  have HP := Lib.hid hp
  obtain ⟨bn, bl, v, h⟩ := hT
  have HT := Lib.hid h
  have c2 := h.c2
  have c0 := h.c0
  have c1 := h.c1
  have hlt := h.lt
  have hlen := fun ty => h.now.len ty
  clear h hO hG hf hp
  have H3 := Lib.hid h3
  clear h3
  go_enter Tryz.func74, Tryz.ntmps74
  go_upto_region 16 with (first
    | (at_lookup; refine wpList_look_some _ rfl _ _ rfl bn q rfl HT.out.now rfl hq _ HN.out ?_; intro qb hqb; have hq0 := HT.out.files.cell0 hqb; clear hqb)
    | (go_at_call 42; refine (path_call q hq _ HG.out).mono ?_; rintro e w1 ⟨rfl, hb1⟩; rw [HP.out]; have HB1 := Lib.hid hb1; clear hb1)
    | (go_at_call 83; refine (blocked_call _ (HX.out.below HB1.out) q ⟨#[]⟩ hq HO.out.paths).mono ?_; rintro e w2 ⟨rfl, hb2⟩; rw [H3.out]; have HB2 := Lib.hid (HB1.out.trans (hb2.mono HB1.out.size)); clear hb2))
  have c02 := (HB2.out.cell (p := ⟨p, 0, none⟩) hlt).trans c0
  have c12 := (HB2.out.cell (p := ⟨p, 1, none⟩) hlt).trans c1
  have E1 : IntKind.i64.wrap ((usedF T.l : Int) - (f.f1.size : Int)) = ((usedF T.l : Int) - (f.f1.size : Int)) := IntWalk.i64_in _ (by omega)
  have E2 : IntKind.i64.wrap (((usedF T.l : Int) - (f.f1.size : Int)) + ((s.size : Int) + (f.f1.size : Int))) = ((usedF T.l : Int) - (f.f1.size : Int)) + ((s.size : Int) + (f.f1.size : Int)) := IntWalk.i64_in _ (by omega)
  have D1 : decide (T.room < ((usedF T.l : Int) - (f.f1.size : Int)) + ((s.size : Int) + (f.f1.size : Int))) = false := decide_eq_false (by omega)
  have D2 : decide ((200 : Int) < (T.l.length : Int)) = true := decide_eq_true (by omega)
  clear h4 h5
  go_cut [58] (fun v58 wc => v58 = .bool true ∧ Hid (Below w.heap.size w wc))
  case first =>
    first | (go_region_held3 (fun w' => w'.cell? ⟨p, 0, none⟩ = some (.int .i64 T.room) ∧ Hid (Below w.heap.size w w')) (first | exact ⟨c02, HB2.out.drew⟩ | exact ⟨c03, HB3⟩) (first | (go_at_call 37; refine (used_call _ (HX.out.below HB2.out.drew) hused).mono ?_; rintro e w3 ⟨rfl, hb3⟩; have c03 := (hb3.cell (p := ⟨p, 0, none⟩) (Nat.lt_of_lt_of_le hlt HB2.out.size)).trans c02; have HB3 := Lib.hid (HB2.out.drew.trans (hb3.mono HB2.out.size)); clear hb3))) | fail
    all_goals
      go_wp2_with fail
      go_meet
      exact ⟨rfl, HB3⟩
  case rest =>
    obtain ⟨rfl, HBc⟩ := hcut
    go_wp2_with fail
    go_ret
    exact ⟨rfl, HBc.out⟩
set_option maxHeartbeats 4000000 in
set_option maxRecDepth 100000 in
theorem wr_s_true_ok (hT : Tr w φ p T A) (hG : Glob w) (hO : TOK T) (hq : q.size ≤ 100000) (hs : s.size ≤ 1000000000) (f : Fl) (hf : findF T.l q = some f) (hf1 : f.f1.size ≤ 1000000000) (hp : pathV q = true) (h2 : s.size + f.f1.size ≤ 16777216) (h3 : blockT T.l q ⟨#[]⟩ = false) (h4 : ¬ T.room < (usedF T.l : Int) - (f.f1.size : Int) + ((s.size + f.f1.size : Nat) : Int)) (h5 : T.l.length ≤ 200) :
    Calls Tryz.prog 74 #[.pointer (some ⟨p, 0, none⟩), .string q, .string s, .bool true] w fun e w' => e = .returned (.int .i64 0) ∧ TrEnd w φ p A (doneT T ⟨2, q, s, T.clock + 1⟩) w' := by
  have HX := Lib.hid hT
  have HG := Lib.hid hG
  have HO := Lib.hid hO
  have hroom := hO.room
  have hclock := hO.clock
  have hmany := hO.many
  have hused := hO.used
  have HN := Lib.hid hf
  have HP := Lib.hid hp
  obtain ⟨bn, bl, v, h⟩ := hT
  have HT := Lib.hid h
  have c2 := h.c2
  have c0 := h.c0
  have c1 := h.c1
  have hlt := h.lt
  have hlen := fun ty => h.now.len ty
  clear h hO hG hf hp
  have H3 := Lib.hid h3
  clear h3
  go_enter Tryz.func74, Tryz.ntmps74
  go_upto_region 16 with (first
    | (at_lookup; refine wpList_look_some _ rfl _ _ rfl bn q rfl HT.out.now rfl hq _ HN.out ?_; intro qb hqb; have hq0 := HT.out.files.cell0 hqb; clear hqb)
    | (go_at_call 42; refine (path_call q hq _ HG.out).mono ?_; rintro e w1 ⟨rfl, hb1⟩; rw [HP.out]; have HB1 := Lib.hid hb1; clear hb1)
    | (go_at_call 83; refine (blocked_call _ (HX.out.below HB1.out) q ⟨#[]⟩ hq HO.out.paths).mono ?_; rintro e w2 ⟨rfl, hb2⟩; rw [H3.out]; have HB2 := Lib.hid (HB1.out.trans (hb2.mono HB1.out.size)); clear hb2))
  have c02 := (HB2.out.cell (p := ⟨p, 0, none⟩) hlt).trans c0
  have c12 := (HB2.out.cell (p := ⟨p, 1, none⟩) hlt).trans c1
  have E1 : IntKind.i64.wrap ((usedF T.l : Int) - (f.f1.size : Int)) = ((usedF T.l : Int) - (f.f1.size : Int)) := IntWalk.i64_in _ (by omega)
  have E2 : IntKind.i64.wrap (((usedF T.l : Int) - (f.f1.size : Int)) + ((s.size : Int) + (f.f1.size : Int))) = ((usedF T.l : Int) - (f.f1.size : Int)) + ((s.size : Int) + (f.f1.size : Int)) := IntWalk.i64_in _ (by omega)
  have D1 : decide (T.room < ((usedF T.l : Int) - (f.f1.size : Int)) + ((s.size : Int) + (f.f1.size : Int))) = false := decide_eq_false (by omega)
  have D2 : decide ((200 : Int) < (T.l.length : Int)) = false := decide_eq_false (by omega)
  clear h4 h5
  go_cut [58] (fun v58 wc => v58 = .bool false ∧ Hid (Below w.heap.size w wc))
  case first =>
    first | (go_region_held3 (fun w' => w'.cell? ⟨p, 0, none⟩ = some (.int .i64 T.room) ∧ Hid (Below w.heap.size w w')) (first | exact ⟨c02, HB2.out.drew⟩ | exact ⟨c03, HB3⟩) (first | (go_at_call 37; refine (used_call _ (HX.out.below HB2.out.drew) hused).mono ?_; rintro e w3 ⟨rfl, hb3⟩; have c03 := (hb3.cell (p := ⟨p, 0, none⟩) (Nat.lt_of_lt_of_le hlt HB2.out.size)).trans c02; have HB3 := Lib.hid (HB2.out.drew.trans (hb3.mono HB2.out.size)); clear hb3))) | fail
    all_goals
      go_wp2_with fail
      go_meet
      exact ⟨rfl, HB3⟩
  case rest =>
    obtain ⟨rfl, HBc⟩ := hcut
    have cc1 := (HBc.out.cell (p := ⟨p, 1, none⟩) hlt).trans c1
    have HD : Hid (∀ W, Tr W φ p T A → Calls Tryz.prog 80 #[.pointer (some ⟨p, 0, none⟩), .agg #[.int .i64 1, .string q, .string s, .int .i64 (T.clock + 1)]] W fun e w' => e = .returned (.int .i64 0) ∧ TrEnd W φ p A (doneT T ⟨2, q, s, T.clock + 1⟩) w') := fun W hW =>
      done_call W hW ⟨2, q, s, T.clock + 1⟩ ⟨.inr (.inl rfl), hq, hs, fun e => absurd e (show ¬ ((2 : Int) = 4) by decide)⟩ HO.out.many (fun f hf => Nat.le_trans (HO.out.texts f hf) (by decide)) HO.out.clock HO.out.chs
    go_wp2_with (first
      | (go_at_call 80; refine (HD.out _ (HX.out.below HBc.out)).mono ?_; rintro e w4 ⟨rfl, he4⟩; have HE4 := Lib.hid he4; clear he4))
    go_ret
    exact ⟨rfl, HE4.out.left HBc.out⟩
set_option maxHeartbeats 4000000 in
set_option maxRecDepth 100000 in
theorem wr_s_false_e1 (hT : Tr w φ p T A) (hG : Glob w) (hO : TOK T) (hq : q.size ≤ 100000) (hs : s.size ≤ 1000000000) (f : Fl) (hf : findF T.l q = some f) (hf1 : f.f1.size ≤ 1000000000) (hp : pathV q = false) :
    Calls Tryz.prog 74 #[.pointer (some ⟨p, 0, none⟩), .string q, .string s, .bool false] w fun e w' => e = .returned (.int .i64 1) ∧ Below w.heap.size w w' := by
  have HX := Lib.hid hT
  have HG := Lib.hid hG
  have HO := Lib.hid hO
  have hroom := hO.room
  have hclock := hO.clock
  have hmany := hO.many
  have hused := hO.used
  have HN := Lib.hid hf
  have HP := Lib.hid hp
  obtain ⟨bn, bl, v, h⟩ := hT
  have HT := Lib.hid h
  have c2 := h.c2
  have c0 := h.c0
  have c1 := h.c1
  have hlt := h.lt
  have hlen := fun ty => h.now.len ty
  clear h hO hG hf hp
  go_enter Tryz.func74, Tryz.ntmps74
  go_wp2_with (first
    | (at_lookup; refine wpList_look_some _ rfl _ _ rfl bn q rfl HT.out.now rfl hq _ HN.out ?_; intro qb hqb; have hq0 := HT.out.files.cell0 hqb; clear hqb)
    | (go_at_call 42; refine (path_call q hq _ HG.out).mono ?_; rintro e w1 ⟨rfl, hb1⟩; rw [HP.out]; have HB1 := Lib.hid hb1; clear hb1))
  go_ret
  exact ⟨rfl, HB1.out⟩
set_option maxHeartbeats 4000000 in
set_option maxRecDepth 100000 in
theorem wr_s_false_e3 (hT : Tr w φ p T A) (hG : Glob w) (hO : TOK T) (hq : q.size ≤ 100000) (hs : s.size ≤ 1000000000) (f : Fl) (hf : findF T.l q = some f) (hf1 : f.f1.size ≤ 1000000000) (hp : pathV q = true) (h2 : 16777216 < s.size) :
    Calls Tryz.prog 74 #[.pointer (some ⟨p, 0, none⟩), .string q, .string s, .bool false] w fun e w' => e = .returned (.int .i64 3) ∧ Below w.heap.size w w' := by
  have HX := Lib.hid hT
  have HG := Lib.hid hG
  have HO := Lib.hid hO
  have hroom := hO.room
  have hclock := hO.clock
  have hmany := hO.many
  have hused := hO.used
  have HN := Lib.hid hf
  have HP := Lib.hid hp
  obtain ⟨bn, bl, v, h⟩ := hT
  have HT := Lib.hid h
  have c2 := h.c2
  have c0 := h.c0
  have c1 := h.c1
  have hlt := h.lt
  have hlen := fun ty => h.now.len ty
  clear h hO hG hf hp
  go_enter Tryz.func74, Tryz.ntmps74
  go_wp2_with (first
    | (at_lookup; refine wpList_look_some _ rfl _ _ rfl bn q rfl HT.out.now rfl hq _ HN.out ?_; intro qb hqb; have hq0 := HT.out.files.cell0 hqb; clear hqb)
    | (go_at_call 42; refine (path_call q hq _ HG.out).mono ?_; rintro e w1 ⟨rfl, hb1⟩; rw [HP.out]; have HB1 := Lib.hid hb1; clear hb1))
  go_ret
  exact ⟨rfl, HB1.out⟩
set_option maxHeartbeats 4000000 in
set_option maxRecDepth 100000 in
theorem wr_s_false_e5 (hT : Tr w φ p T A) (hG : Glob w) (hO : TOK T) (hq : q.size ≤ 100000) (hs : s.size ≤ 1000000000) (f : Fl) (hf : findF T.l q = some f) (hf1 : f.f1.size ≤ 1000000000) (hp : pathV q = true) (h2 : s.size ≤ 16777216) (h3 : blockT T.l q ⟨#[]⟩ = true) :
    Calls Tryz.prog 74 #[.pointer (some ⟨p, 0, none⟩), .string q, .string s, .bool false] w fun e w' => e = .returned (.int .i64 5) ∧ Below w.heap.size w w' := by
  have HX := Lib.hid hT
  have HG := Lib.hid hG
  have HO := Lib.hid hO
  have hroom := hO.room
  have hclock := hO.clock
  have hmany := hO.many
  have hused := hO.used
  have HN := Lib.hid hf
  have HP := Lib.hid hp
  obtain ⟨bn, bl, v, h⟩ := hT
  have HT := Lib.hid h
  have c2 := h.c2
  have c0 := h.c0
  have c1 := h.c1
  have hlt := h.lt
  have hlen := fun ty => h.now.len ty
  clear h hO hG hf hp
  have H3 := Lib.hid h3
  clear h3
  go_enter Tryz.func74, Tryz.ntmps74
  go_wp2_with (first
    | (at_lookup; refine wpList_look_some _ rfl _ _ rfl bn q rfl HT.out.now rfl hq _ HN.out ?_; intro qb hqb; have hq0 := HT.out.files.cell0 hqb; clear hqb)
    | (go_at_call 42; refine (path_call q hq _ HG.out).mono ?_; rintro e w1 ⟨rfl, hb1⟩; rw [HP.out]; have HB1 := Lib.hid hb1; clear hb1)
    | (go_at_call 83; refine (blocked_call _ (HX.out.below HB1.out) q ⟨#[]⟩ hq HO.out.paths).mono ?_; rintro e w2 ⟨rfl, hb2⟩; rw [H3.out]; have HB2 := Lib.hid (HB1.out.trans (hb2.mono HB1.out.size)); clear hb2))
  go_ret
  exact ⟨rfl, HB2.out⟩
set_option maxHeartbeats 4000000 in
set_option maxRecDepth 100000 in
theorem wr_s_false_e6 (hT : Tr w φ p T A) (hG : Glob w) (hO : TOK T) (hq : q.size ≤ 100000) (hs : s.size ≤ 1000000000) (f : Fl) (hf : findF T.l q = some f) (hf1 : f.f1.size ≤ 1000000000) (hp : pathV q = true) (h2 : s.size ≤ 16777216) (h3 : blockT T.l q ⟨#[]⟩ = false) (h4 : T.room < (usedF T.l : Int) - (f.f1.size : Int) + ((s.size : Nat) : Int)) :
    Calls Tryz.prog 74 #[.pointer (some ⟨p, 0, none⟩), .string q, .string s, .bool false] w fun e w' => e = .returned (.int .i64 6) ∧ Below w.heap.size w w' := by
  have HX := Lib.hid hT
  have HG := Lib.hid hG
  have HO := Lib.hid hO
  have hroom := hO.room
  have hclock := hO.clock
  have hmany := hO.many
  have hused := hO.used
  have HN := Lib.hid hf
  have HP := Lib.hid hp
  obtain ⟨bn, bl, v, h⟩ := hT
  have HT := Lib.hid h
  have c2 := h.c2
  have c0 := h.c0
  have c1 := h.c1
  have hlt := h.lt
  have hlen := fun ty => h.now.len ty
  clear h hO hG hf hp
  have H3 := Lib.hid h3
  clear h3
  go_enter Tryz.func74, Tryz.ntmps74
  go_upto_region 16 with (first
    | (at_lookup; refine wpList_look_some _ rfl _ _ rfl bn q rfl HT.out.now rfl hq _ HN.out ?_; intro qb hqb; have hq0 := HT.out.files.cell0 hqb; clear hqb)
    | (go_at_call 42; refine (path_call q hq _ HG.out).mono ?_; rintro e w1 ⟨rfl, hb1⟩; rw [HP.out]; have HB1 := Lib.hid hb1; clear hb1)
    | (go_at_call 83; refine (blocked_call _ (HX.out.below HB1.out) q ⟨#[]⟩ hq HO.out.paths).mono ?_; rintro e w2 ⟨rfl, hb2⟩; rw [H3.out]; have HB2 := Lib.hid (HB1.out.trans (hb2.mono HB1.out.size)); clear hb2))
  have c02 := (HB2.out.cell (p := ⟨p, 0, none⟩) hlt).trans c0
  have c12 := (HB2.out.cell (p := ⟨p, 1, none⟩) hlt).trans c1
  have E1 : IntKind.i64.wrap ((usedF T.l : Int) - (f.f1.size : Int)) = ((usedF T.l : Int) - (f.f1.size : Int)) := IntWalk.i64_in _ (by omega)
  have E2 : IntKind.i64.wrap (((usedF T.l : Int) - (f.f1.size : Int)) + (s.size : Int)) = ((usedF T.l : Int) - (f.f1.size : Int)) + (s.size : Int) := IntWalk.i64_in _ (by omega)
  have D1 : decide (T.room < ((usedF T.l : Int) - (f.f1.size : Int)) + (s.size : Int)) = true := decide_eq_true (by omega)
  clear h4
  go_cut [58] (fun v58 wc => v58 = .bool true ∧ Hid (Below w.heap.size w wc))
  case first =>
    first | (go_region_with (first | (go_at_call 37; refine (used_call _ (HX.out.below HB2.out.drew) hused).mono ?_; rintro e w3 ⟨rfl, hb3⟩; have c03 := (hb3.cell (p := ⟨p, 0, none⟩) (Nat.lt_of_lt_of_le hlt HB2.out.size)).trans c02; have HB3 := Lib.hid (HB2.out.drew.trans (hb3.mono HB2.out.size)); clear hb3))) | fail
    all_goals
      go_wp2_with fail
      go_meet
      exact ⟨rfl, HB3⟩
  case rest =>
    obtain ⟨rfl, HBc⟩ := hcut
    go_wp2_with fail
    go_ret
    exact ⟨rfl, HBc.out⟩
set_option maxHeartbeats 4000000 in
set_option maxRecDepth 100000 in
theorem wr_s_false_e7 (hT : Tr w φ p T A) (hG : Glob w) (hO : TOK T) (hq : q.size ≤ 100000) (hs : s.size ≤ 1000000000) (f : Fl) (hf : findF T.l q = some f) (hf1 : f.f1.size ≤ 1000000000) (hp : pathV q = true) (h2 : s.size ≤ 16777216) (h3 : blockT T.l q ⟨#[]⟩ = false) (h4 : ¬ T.room < (usedF T.l : Int) - (f.f1.size : Int) + ((s.size : Nat) : Int)) (h5 : 200 < T.l.length) :
    Calls Tryz.prog 74 #[.pointer (some ⟨p, 0, none⟩), .string q, .string s, .bool false] w fun e w' => e = .returned (.int .i64 6) ∧ Below w.heap.size w w' := by
  have HX := Lib.hid hT
  have HG := Lib.hid hG
  have HO := Lib.hid hO
  have hroom := hO.room
  have hclock := hO.clock
  have hmany := hO.many
  have hused := hO.used
  have HN := Lib.hid hf
  have HP := Lib.hid hp
  obtain ⟨bn, bl, v, h⟩ := hT
  have HT := Lib.hid h
  have c2 := h.c2
  have c0 := h.c0
  have c1 := h.c1
  have hlt := h.lt
  have hlen := fun ty => h.now.len ty
  clear h hO hG hf hp
  have H3 := Lib.hid h3
  clear h3
  go_enter Tryz.func74, Tryz.ntmps74
  go_upto_region 16 with (first
    | (at_lookup; refine wpList_look_some _ rfl _ _ rfl bn q rfl HT.out.now rfl hq _ HN.out ?_; intro qb hqb; have hq0 := HT.out.files.cell0 hqb; clear hqb)
    | (go_at_call 42; refine (path_call q hq _ HG.out).mono ?_; rintro e w1 ⟨rfl, hb1⟩; rw [HP.out]; have HB1 := Lib.hid hb1; clear hb1)
    | (go_at_call 83; refine (blocked_call _ (HX.out.below HB1.out) q ⟨#[]⟩ hq HO.out.paths).mono ?_; rintro e w2 ⟨rfl, hb2⟩; rw [H3.out]; have HB2 := Lib.hid (HB1.out.trans (hb2.mono HB1.out.size)); clear hb2))
  have c02 := (HB2.out.cell (p := ⟨p, 0, none⟩) hlt).trans c0
  have c12 := (HB2.out.cell (p := ⟨p, 1, none⟩) hlt).trans c1
  have E1 : IntKind.i64.wrap ((usedF T.l : Int) - (f.f1.size : Int)) = ((usedF T.l : Int) - (f.f1.size : Int)) := IntWalk.i64_in _ (by omega)
  have E2 : IntKind.i64.wrap (((usedF T.l : Int) - (f.f1.size : Int)) + (s.size : Int)) = ((usedF T.l : Int) - (f.f1.size : Int)) + (s.size : Int) := IntWalk.i64_in _ (by omega)
  have D1 : decide (T.room < ((usedF T.l : Int) - (f.f1.size : Int)) + (s.size : Int)) = false := decide_eq_false (by omega)
  have D2 : decide ((200 : Int) < (T.l.length : Int)) = true := decide_eq_true (by omega)
  clear h4 h5
  go_cut [58] (fun v58 wc => v58 = .bool true ∧ Hid (Below w.heap.size w wc))
  case first =>
    first | (go_region_held3 (fun w' => w'.cell? ⟨p, 0, none⟩ = some (.int .i64 T.room) ∧ Hid (Below w.heap.size w w')) (first | exact ⟨c02, HB2.out.drew⟩ | exact ⟨c03, HB3⟩) (first | (go_at_call 37; refine (used_call _ (HX.out.below HB2.out.drew) hused).mono ?_; rintro e w3 ⟨rfl, hb3⟩; have c03 := (hb3.cell (p := ⟨p, 0, none⟩) (Nat.lt_of_lt_of_le hlt HB2.out.size)).trans c02; have HB3 := Lib.hid (HB2.out.drew.trans (hb3.mono HB2.out.size)); clear hb3))) | fail
    all_goals
      go_wp2_with fail
      go_meet
      exact ⟨rfl, HB3⟩
  case rest =>
    obtain ⟨rfl, HBc⟩ := hcut
    go_wp2_with fail
    go_ret
    exact ⟨rfl, HBc.out⟩
set_option maxHeartbeats 4000000 in
set_option maxRecDepth 100000 in
theorem wr_s_false_ok (hT : Tr w φ p T A) (hG : Glob w) (hO : TOK T) (hq : q.size ≤ 100000) (hs : s.size ≤ 1000000000) (f : Fl) (hf : findF T.l q = some f) (hf1 : f.f1.size ≤ 1000000000) (hp : pathV q = true) (h2 : s.size ≤ 16777216) (h3 : blockT T.l q ⟨#[]⟩ = false) (h4 : ¬ T.room < (usedF T.l : Int) - (f.f1.size : Int) + ((s.size : Nat) : Int)) (h5 : T.l.length ≤ 200) :
    Calls Tryz.prog 74 #[.pointer (some ⟨p, 0, none⟩), .string q, .string s, .bool false] w fun e w' => e = .returned (.int .i64 0) ∧ TrEnd w φ p A (doneT T ⟨1, q, s, T.clock + 1⟩) w' := by
  have HX := Lib.hid hT
  have HG := Lib.hid hG
  have HO := Lib.hid hO
  have hroom := hO.room
  have hclock := hO.clock
  have hmany := hO.many
  have hused := hO.used
  have HN := Lib.hid hf
  have HP := Lib.hid hp
  obtain ⟨bn, bl, v, h⟩ := hT
  have HT := Lib.hid h
  have c2 := h.c2
  have c0 := h.c0
  have c1 := h.c1
  have hlt := h.lt
  have hlen := fun ty => h.now.len ty
  clear h hO hG hf hp
  have H3 := Lib.hid h3
  clear h3
  go_enter Tryz.func74, Tryz.ntmps74
  go_upto_region 16 with (first
    | (at_lookup; refine wpList_look_some _ rfl _ _ rfl bn q rfl HT.out.now rfl hq _ HN.out ?_; intro qb hqb; have hq0 := HT.out.files.cell0 hqb; clear hqb)
    | (go_at_call 42; refine (path_call q hq _ HG.out).mono ?_; rintro e w1 ⟨rfl, hb1⟩; rw [HP.out]; have HB1 := Lib.hid hb1; clear hb1)
    | (go_at_call 83; refine (blocked_call _ (HX.out.below HB1.out) q ⟨#[]⟩ hq HO.out.paths).mono ?_; rintro e w2 ⟨rfl, hb2⟩; rw [H3.out]; have HB2 := Lib.hid (HB1.out.trans (hb2.mono HB1.out.size)); clear hb2))
  have c02 := (HB2.out.cell (p := ⟨p, 0, none⟩) hlt).trans c0
  have c12 := (HB2.out.cell (p := ⟨p, 1, none⟩) hlt).trans c1
  have E1 : IntKind.i64.wrap ((usedF T.l : Int) - (f.f1.size : Int)) = ((usedF T.l : Int) - (f.f1.size : Int)) := IntWalk.i64_in _ (by omega)
  have E2 : IntKind.i64.wrap (((usedF T.l : Int) - (f.f1.size : Int)) + (s.size : Int)) = ((usedF T.l : Int) - (f.f1.size : Int)) + (s.size : Int) := IntWalk.i64_in _ (by omega)
  have D1 : decide (T.room < ((usedF T.l : Int) - (f.f1.size : Int)) + (s.size : Int)) = false := decide_eq_false (by omega)
  have D2 : decide ((200 : Int) < (T.l.length : Int)) = false := decide_eq_false (by omega)
  clear h4 h5
  go_cut [58] (fun v58 wc => v58 = .bool false ∧ Hid (Below w.heap.size w wc))
  case first =>
    first | (go_region_held3 (fun w' => w'.cell? ⟨p, 0, none⟩ = some (.int .i64 T.room) ∧ Hid (Below w.heap.size w w')) (first | exact ⟨c02, HB2.out.drew⟩ | exact ⟨c03, HB3⟩) (first | (go_at_call 37; refine (used_call _ (HX.out.below HB2.out.drew) hused).mono ?_; rintro e w3 ⟨rfl, hb3⟩; have c03 := (hb3.cell (p := ⟨p, 0, none⟩) (Nat.lt_of_lt_of_le hlt HB2.out.size)).trans c02; have HB3 := Lib.hid (HB2.out.drew.trans (hb3.mono HB2.out.size)); clear hb3))) | fail
    all_goals
      go_wp2_with fail
      go_meet
      exact ⟨rfl, HB3⟩
  case rest =>
    obtain ⟨rfl, HBc⟩ := hcut
    have cc1 := (HBc.out.cell (p := ⟨p, 1, none⟩) hlt).trans c1
    have HD : Hid (∀ W, Tr W φ p T A → Calls Tryz.prog 80 #[.pointer (some ⟨p, 0, none⟩), .agg #[.int .i64 0, .string q, .string s, .int .i64 (T.clock + 1)]] W fun e w' => e = .returned (.int .i64 0) ∧ TrEnd W φ p A (doneT T ⟨1, q, s, T.clock + 1⟩) w') := fun W hW =>
      done_call W hW ⟨1, q, s, T.clock + 1⟩ ⟨.inl rfl, hq, hs, fun e => absurd e (show ¬ ((1 : Int) = 4) by decide)⟩ HO.out.many (fun f hf => Nat.le_trans (HO.out.texts f hf) (by decide)) HO.out.clock HO.out.chs
    go_wp2_with (first
      | (go_at_call 80; refine (HD.out _ (HX.out.below HBc.out)).mono ?_; rintro e w4 ⟨rfl, he4⟩; have HE4 := Lib.hid he4; clear he4))
    go_ret
    exact ⟨rfl, HE4.out.left HBc.out⟩
end
end Go.Proofs.YtghbaehbgefpaaaGreatDoor.Fr
