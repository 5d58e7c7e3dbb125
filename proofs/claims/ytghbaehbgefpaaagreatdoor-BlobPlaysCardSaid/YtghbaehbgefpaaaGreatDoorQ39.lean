import Derived.Test.YtghbaehbgefpaaaGreatDoorQ35
import Derived.Test.YtghbaehbgefpaaaGreatDoorQ36
import Derived.Test.YtghbaehbgefpaaaGreatDoorQ38
/- Several texts of this session in one: the walks of the functions that the laws reach, and what they tell. -/
set_option linter.unusedVariables false
set_option linter.unusedSimpArgs false
namespace Go.Proofs.YtghbaehbgefpaaaGreatDoor.Fr
open Go.RowKit Go.Proofs.YtghbaehbgefpaaaGreatDoor.F Go.Proofs.YtghbaehbgefpaaaGreatDoorW.PrintWords Go.Maps
open Go.Proofs.YtghbaehbgefpaaaGreatDoor.Hand (putV takeV scanV)
structure TW (w : World) (K : Nat → Prop) (m p : Nat) (T Tm : TS) (V : List Vw) (s r : Nat) (nm : ByteArray) (l l2 : List ByteArray) (W : World) : Prop where
  law : Law w K m [(p, T)] Tm V W
  two : ∃ v b D v2, StB (fun k => K k ∨ RsF r v2 k) [(p, T)] m Tm W s p nm l v b D ∧ RsAt W r m nm l2 v2 ∧ ∀ k, RsF r v2 k → ¬ K k
section
variable {w W W' : World} {K : Nat → Prop} {m s r p n : Nat} {T Tm : TS} {V : List Vw} {nm : ByteArray} {l l2 : List ByteArray}
theorem TW.below (h : TW w K m p T Tm V s r nm l l2 W) (hb : Below W.heap.size W W') : TW w K m p T Tm V s r nm l l2 W' := by
  obtain ⟨v, b, D, v2, h1, h2, h3⟩ := h.two
  exact ⟨h.law.below hb, v, b, D, v2, h1.below hb, h2.kept fun k hk => hb.block k (h2.lt k hk), h3⟩
theorem TW.bel (h : TW w K m p T Tm V s r nm l l2 W) : Below w.heap.size w W := h.law.bel
theorem TW.Id (h : TW w K m p T Tm V s r nm l l2 W) (hI : Inv n T) (hn : n ≤ 1000000) (hq : nm.size ≤ 99000) (t : ByteArray) (ht : t.size ≤ 100000) (hl : l.length ≤ 1000000) :
    Calls Tryz.prog 11 #[.pointer (some ⟨s, 0, none⟩), .string t] W fun e W' => e = .returned (.tuple #[.int .i64 (idN T nm l t), .int .i64 (idE T nm l t)]) ∧ TW w K m p (idT T nm l t) Tm V s r nm (idL T nm l t) l2 W' := by
  obtain ⟨v, b, D, v2, h1, h2, h3⟩ := h.two
  refine (StS.Id ⟨v, b, D, h1⟩ (i := 0) rfl (h.law.gk.more fun k hk => .inl hk) hI hn hq t ht hl).mono ?_
  rintro e W' ⟨rfl, hs, hk⟩
  refine ⟨rfl, h.law.step (hs.sts.drop fun k hk => .inl hk) (hk.mono fun k hk => .inl hk), ?_⟩
  obtain ⟨v', b', D', h1'⟩ := hs
  exact ⟨v', b', D', v2, h1', h2.kept fun k hk2 => hk.block (.inr hk2) (h2.lt k hk2), h3⟩
theorem TW.rId (h : TW w K m p T Tm V s r nm l l2 W) (hI : Inv n Tm) (hn : n ≤ 1000000) (hq : nm.size ≤ 99000) (t : ByteArray) (ht : t.size ≤ 100000) (hl : l2.length ≤ 1000000) :
    Calls Tryz.prog 21 #[.pointer (some ⟨r, 0, none⟩), .string t] W fun e W' => e = .returned (.tuple #[.int .i64 (idN Tm nm l2 t), .int .i64 (idE Tm nm l2 t)]) ∧ TW w K m p T (idT Tm nm l2 t) V s r nm l (idL Tm nm l2 t) W' := by
  obtain ⟨v, b, D, v2, h1, h2, h3⟩ := h.two
  have hR : RsS (fun k => K k ∨ BsF s v b k) [(p, T)] m Tm r nm l2 W := ⟨v2, h1.sts.drop (fun k hk => by
    rcases hk with (hk | hk) | hk
    · exact .inl (.inl hk)
    · exact .inr hk
    · exact .inl (.inr hk)), h2, fun k hk e => e.elim (h3 k hk) fun e => h1.off k e (.inr hk)⟩
  refine (hR.Id hI hn hq t ht hl).mono ?_
  rintro e W' ⟨rfl, hs, hk⟩
  refine ⟨rfl, h.law.step (hs.sts.drop fun k hk => .inl hk) (hk.mono fun k hk => .inl hk), ?_⟩
  obtain ⟨v2', g⟩ := hs
  refine ⟨v, b, D, v2', ⟨g.sts.drop fun k hk => ?_, h1.at_.kept fun k hk2 => hk.block (.inr hk2) (h1.at_.lt k hk2), fun k hk e => ?_⟩, g.at_, fun k hk e => g.off k hk (.inl e)⟩
  · rcases hk with (hk | hk) | hk
    · exact .inl (.inl hk)
    · exact .inr hk
    · exact .inl (.inr hk)
  · rcases e with e | e
    · exact h1.off k hk (.inl e)
    · exact g.off k e (.inr hk)
theorem TW.ats (h : TW w K m p T Tm V s r nm l l2 W) : ∃ v b D v2, BsAt W s p nm l v b D ∧ RsAt W r m nm l2 v2 := by
  obtain ⟨v, b, D, v2, h1, h2, h3⟩ := h.two
  exact ⟨v, b, D, v2, h1.at_, h2⟩
theorem TW.Text (h : TW w K m p T Tm V s r nm l l2 W) (hl : l.length ≤ 1000000) (i : Int) :
    Calls Tryz.prog 12 #[.pointer (some ⟨s, 0, none⟩), .int .i64 i] W fun e W' => e = .returned (.tuple #[.string (textN l i).1, .bool (textN l i).2]) ∧ TW w K m p T Tm V s r nm l l2 W' := by
  obtain ⟨v, b, D, v2, h1, h2⟩ := h.ats
  exact (text_call h1 hl i).mono fun e W' ⟨g1, g2⟩ => ⟨g1, h.below g2⟩
theorem TW.rText (h : TW w K m p T Tm V s r nm l l2 W) (hl : l2.length ≤ 1000000) (i : Int) :
    Calls Tryz.prog 25 #[.pointer (some ⟨r, 0, none⟩), .int .i64 i] W fun e W' => e = .returned (.tuple #[.string (textN l2 i).1, .bool (textN l2 i).2]) ∧ TW w K m p T Tm V s r nm l l2 W' := by
  obtain ⟨v, b, D, v2, h1, h2⟩ := h.ats
  exact (rb_text h2 hl i).mono fun e W' ⟨g1, g2⟩ => ⟨g1, h.below g2⟩
def TOp (w : World) (K : Nat → Prop) (m p : Nat) (T Tm : TS) (V : List Vw) (s : Nat) (nm : ByteArray) (l l2 : List ByteArray) (er : Int) (e : Ending) (W' : World) : Prop :=
  (er = 0 ∧ ∃ r, e = .returned (.tuple #[.pointer (some ⟨r, 0, none⟩), .int .i64 0]) ∧ TW w K m p T Tm V s r nm l l2 W') ∨ (er ≠ 0 ∧ e = .returned (.tuple #[.pointer none, .int .i64 er]) ∧ Law w K m [(p, T)] Tm V W')
theorem Law.bOpen2 (h : Law w K m [(p, T)] Tm V W) (hI : Inv n T) (hn : n + 8 ≤ 1000000) (hr : T.room ≤ 90000) (hq : nm.size ≤ 99000) :
    Calls Tryz.prog 10 #[.pointer (some ⟨p, 0, none⟩), .string nm] W fun e W' =>
      (bOpE T nm = 0 ∧ ∃ s, e = .returned (.tuple #[.pointer (some ⟨s, 0, none⟩), .int .i64 0]) ∧ LS w K m [(p, bOpT T nm)] Tm V s p nm (keptL [] (openL T nm)) W') ∨ (bOpE T nm ≠ 0 ∧ e = .returned (.tuple #[.pointer none, .int .i64 (bOpE T nm)]) ∧ Law w K m [(p, bOpT T nm)] Tm V W') := by
  refine (h.sts.bOpen2 (i := 0) rfl h.gk hI hn (by omega) nm hq).mono ?_
  rintro e W' (⟨h0, s, rfl, hs, hk⟩ | ⟨h0, rfl, hs, hk⟩)
  · exact .inl ⟨h0, s, rfl, LS.to h hs hk⟩
  · exact .inr ⟨h0, rfl, h.step hs hk⟩
theorem LS.rOpen (h : LS w K m [(p, T)] Tm V s p nm l W) (hI : Inv n Tm) (hn : n + 8 ≤ 1000000) (hr : Tm.room ≤ 90000) (hq : nm.size ≤ 99000) :
    Calls Tryz.prog 19 #[.pointer (some ⟨m, 0, none⟩), .string nm] W (TOp w K m p T (bOpT Tm nm) V s nm l (keptL [] (openL Tm nm)) (bOpE Tm nm)) := by
  obtain ⟨v, b, D, h1⟩ := h.st
  refine (h1.sts.rbOpen hI hn hr nm hq).mono ?_
  rintro e W' (⟨h0, r, rfl, hs, hk⟩ | ⟨h0, rfl, hs, hk⟩)
  · refine .inl ⟨h0, r, rfl, h.law.step (hs.sts.drop fun k hk => .inl hk) (hk.mono fun k hk => .inl hk), ?_⟩
    obtain ⟨v2', g⟩ := hs
    refine ⟨v, b, D, v2', ⟨g.sts.drop fun k hk => ?_, h1.at_.kept fun k hk2 => hk.block (.inr hk2) (h1.at_.lt k hk2), fun k hk e => ?_⟩, g.at_, fun k hk e => g.off k hk (.inl e)⟩
    · rcases hk with (hk | hk) | hk
      · exact .inl (.inl hk)
      · exact .inr hk
      · exact .inl (.inr hk)
    · rcases e with e | e
      · exact h1.off k hk e
      · exact g.off k e (.inr hk)
  · exact .inr ⟨h0, rfl, h.law.step (hs.drop fun k hk => .inl hk) (hk.mono fun k hk => .inl hk)⟩
theorem Law.rOpen (h : Law w K m [(p, T)] Tm V W) (hI : Inv n Tm) (hn : n + 8 ≤ 1000000) (hr : Tm.room ≤ 90000) (hq : nm.size ≤ 99000) :
    Calls Tryz.prog 19 #[.pointer (some ⟨m, 0, none⟩), .string nm] W fun e W' => (bOpE Tm nm = 0 ∧ ∃ r, e = .returned (.tuple #[.pointer (some ⟨r, 0, none⟩), .int .i64 0]) ∧ Law w K m [(p, T)] (bOpT Tm nm) V W') ∨ (bOpE Tm nm ≠ 0 ∧ e = .returned (.tuple #[.pointer none, .int .i64 (bOpE Tm nm)]) ∧ Law w K m [(p, T)] (bOpT Tm nm) V W') := by
  refine (h.sts.rbOpen hI hn hr nm hq).mono ?_
  rintro e W' (⟨h0, r, rfl, hs, hk⟩ | ⟨h0, rfl, hs, hk⟩)
  · exact .inl ⟨h0, r, rfl, h.step hs.sts hk⟩
  · exact .inr ⟨h0, rfl, h.step hs hk⟩
theorem TW.box1 (h : TW w K m p T Tm V s r nm l l2 W) (o : Obj) : TW w (fun k => K k ∨ k = W.heap.size) m p T Tm ((fun W' => W'.heap[W.heap.size]? = some o) :: V) s r nm l l2 (W.alloc o) := by
  obtain ⟨v, b, D, v2, h1, h2, h3⟩ := h.two
  have hb := newBelow W o
  refine ⟨h.law.box1 o, v, b, D, v2, ⟨h1.sts.kept hb fun k hk => ?_, h1.at_.kept fun k hk => hb.block k (h1.at_.lt k hk), fun k hk e => ?_⟩, h2.kept fun k hk => hb.block k (h2.lt k hk), fun k hk e => ?_⟩
  · rcases hk with ((hk | hk) | hk) | hk
    · exact .inl (.inl (.inl hk))
    · exact .inr ⟨Nat.le_of_eq hk.symm, by rw [hk, World.size_alloc]; exact Nat.lt_succ_self _⟩
    · exact .inl (.inl (.inr hk))
    · exact .inl (.inr hk)
  · rcases e with (e | e) | e
    · exact h1.off k hk (.inl e)
    · have := h1.at_.lt k hk
      omega
    · exact h1.off k hk (.inr e)
  · rcases e with e | e
    · exact h3 k hk e
    · have := h2.lt k hk
      omega
theorem TW.drop {K0 : Nat → Prop} {V0 : List Vw} {L0 : List (Nat × TS)} {T0 : TS} {W0 : World} (h : TW w K m p T Tm V s r nm l l2 W) (h0 : Law w K0 m L0 T0 V0 W0) (hK : ∀ k, K0 k → K k) (hV : ∀ x ∈ V0, x ∈ V) : TW w K0 m p T Tm V0 s r nm l l2 W := by
  obtain ⟨v, b, D, v2, h1, h2, h3⟩ := h.two
  refine ⟨h.law.drop h0 hK hV, v, b, D, v2, ⟨h1.sts.drop fun k hk => ?_, h1.at_, fun k hk e => h1.off k hk (e.imp (hK k) id)⟩, h2, fun k hk e => h3 k hk (hK k e)⟩
  rcases hk with (hk | hk) | hk
  · exact .inl (.inl (hK k hk))
  · exact .inl (.inr hk)
  · exact .inr hk
def dbB : ByteArray := ⟨#[100, 47, 98]⟩
theorem inv_bOp (hI : Inv n T) (q : ByteArray) (hr : T.room ≤ 60000) : Inv (n + 7) (bOpT T q) ∧ (bOpT T q).room = T.room := by
  have h1 := inv_open hI q (by omega)
  have hm : ((openL T q).take (keptL [] (openL T q)).length).length ≤ 70000 := by
    rw [List.length_take]
    have := openL_many hI (by omega) q
    have h9 : (openL T q).length ≤ 60001 := by
      unfold openL
      split
      · have h1 := readL_many (inv_remove hI (besN q)) q
        rw [remove_room] at h1
        omega
      · exact Nat.zero_le _
    omega
  unfold bOpT
  split
  · split
    · exact ⟨inv_anew h1 q _ hm, by rw [anew_room, open_room]⟩
    · exact ⟨h1.mono (by omega), open_room _ _⟩
  · exact ⟨h1.mono (by omega), open_room _ _⟩
theorem inv_idT (hI : Inv n T) (q : ByteArray) (l : List ByteArray) (t : ByteArray) : Inv (n + 1) (idT T q l t) ∧ (idT T q l t).room = T.room := by
  unfold idT
  split
  · exact ⟨hI.mono (by omega), rfl⟩
  · exact ⟨inv_add hI q _, add_room _ _ _⟩
theorem kept_many (hI : Inv n T) (hr : T.room ≤ 60000) (q : ByteArray) : (keptL [] (openL T q)).length ≤ 60001 := by
  have h0 := (keptL_take (openL T q)).1
  have h9 : (openL T q).length ≤ 60001 := by
    unfold openL
    split
    · have h1 := readL_many (inv_remove hI (besN q)) q
      rw [remove_room] at h1
      omega
    · exact Nat.zero_le _
  omega
end
abbrev Ac7 := S53
def Small7 (a : Ac7) : Prop := a.f3.size ≤ 4500 ∧ a.f4.length ≤ 45 ∧ ∀ x ∈ a.f4, x.size ≤ 60
theorem w64i7 {x : Int} (h0 : -9223372036854775808 ≤ x) (h1 : x ≤ 9223372036854775807) : wrap64 x = x := by unfold wrap64; omega
theorem w64k7 (i : Nat) (h : i ≤ 100000000000) : wrap64 ((i : Int) + 1) = ((i + 1 : Nat) : Int) := by rw [w64i7 (by omega) (by omega)]; omega
theorem rdS7 {l : List ByteArray} {i : Nat} (h : i < l.length) : rdOf ByteArray.empty l (i : Int) = l[i] := by
  unfold rdOf
  rw [Int.toNat_natCast, List.getD_eq_getElem?_getD, List.getElem?_eq_getElem h, Option.getD_some]
theorem rdA7 {l : List Ac7} {i : Nat} (h : i < l.length) : rd_T53 l (i : Int) = l[i] := by
  unfold rd_T53
  rw [Int.toNat_natCast, List.getD_eq_getElem?_getD, List.getElem?_eq_getElem h, Option.getD_some]
theorem small7_l1 (l : List Ac7) (hl : l.length ≤ 40) (i : Nat) (hi : i < l.length) (h45 : l[i].f4.length ≤ 45) (K : ∃ b, (∃ k0, ∀ k, k0 ≤ k → cooperagelaw7_small.l0 k l ((i + 1 : Nat) : Int) = some b) ∧ (b = true → ∀ a ∈ l.drop (i + 1), Small7 a)) :
    ∀ (n j : Nat), j + n = l[i].f4.length → ∃ b, (∃ k0, ∀ k, k0 ≤ k → cooperagelaw7_small.l1 k l (i : Int) (j : Int) = some b) ∧ (b = true → (∀ x ∈ l[i].f4.drop j, x.size ≤ 60) ∧ ∀ a ∈ l.drop (i + 1), Small7 a) := by
  have hr := rdA7 hi
  intro n
  induction n with
  | zero =>
    intro j hj
    obtain ⟨b, ⟨k0, hb⟩, hp⟩ := K
    refine ⟨b, ⟨k0 + 1, fun k hk => ?_⟩, fun h => ⟨fun x hx => ?_, hp h⟩⟩
    · obtain ⟨k, rfl⟩ : ∃ j, k = j + 1 := ⟨k - 1, by omega⟩
      unfold cooperagelaw7_small.l1
      rw [if_pos (by omega), if_pos (by omega), hr, if_neg (by omega), w64k7 i (by omega)]
      exact hb k (by omega)
    · rw [List.drop_eq_nil_of_le (by omega)] at hx
      exact absurd hx (by simp)
  | succ n ih =>
    intro j hj
    have hlt : j < l[i].f4.length := by omega
    have hr2 := rdS7 hlt
    by_cases h60 : l[i].f4[j].size ≤ 60
    · obtain ⟨b, ⟨k0, hb⟩, hp⟩ := ih (j + 1) (by omega)
      refine ⟨b, ⟨k0 + 1, fun k hk => ?_⟩, fun h => ⟨fun x hx => ?_, (hp h).2⟩⟩
      · obtain ⟨k, rfl⟩ : ∃ j, k = j + 1 := ⟨k - 1, by omega⟩
        unfold cooperagelaw7_small.l1
        rw [if_pos (by omega), if_pos (by omega), hr, if_pos (by omega), if_pos (by omega), hr2, if_neg (by omega), w64k7 j (by omega)]
        exact hb k (by omega)
      · rw [List.drop_eq_getElem_cons hlt] at hx
        rcases List.mem_cons.1 hx with e | e
        · subst e
          exact h60
        · exact (hp h).1 x e
    · refine ⟨false, ⟨1, fun k hk => ?_⟩, fun h => by cases h⟩
      obtain ⟨k, rfl⟩ : ∃ j, k = j + 1 := ⟨k - 1, by omega⟩
      unfold cooperagelaw7_small.l1
      rw [if_pos (by omega), if_pos (by omega), hr, if_pos (by omega), if_pos (by omega), hr2, if_pos (by omega)]
theorem small7_l0 (l : List Ac7) (hl : l.length ≤ 40) : ∀ (n i : Nat), i + n = l.length → ∃ b, (∃ k0, ∀ k, k0 ≤ k → cooperagelaw7_small.l0 k l (i : Int) = some b) ∧ (b = true → ∀ a ∈ l.drop i, Small7 a) := by
  intro n
  induction n with
  | zero =>
    intro i hi
    refine ⟨true, ⟨1, fun k hk => ?_⟩, fun _ a ha => ?_⟩
    · obtain ⟨k, rfl⟩ : ∃ j, k = j + 1 := ⟨k - 1, by omega⟩
      unfold cooperagelaw7_small.l0
      rw [if_neg (by omega)]
    · rw [List.drop_eq_nil_of_le (by omega)] at ha
      exact absurd ha (by simp)
  | succ n ih =>
    intro i hi
    have hlt : i < l.length := by omega
    have hr := rdA7 hlt
    by_cases h3 : 4500 < l[i].f3.size
    · refine ⟨false, ⟨2, fun k hk => ?_⟩, fun e => by cases e⟩
      obtain ⟨k, rfl⟩ : ∃ j, k = j + 2 := ⟨k - 2, by omega⟩
      unfold cooperagelaw7_small.l0
      rw [if_pos (by omega), if_pos (by omega), hr, if_pos (by omega)]
      unfold cooperagelaw7_small.j1
      rw [if_pos rfl]
    · by_cases h4 : 45 < l[i].f4.length
      · refine ⟨false, ⟨2, fun k hk => ?_⟩, fun e => by cases e⟩
        obtain ⟨k, rfl⟩ : ∃ j, k = j + 2 := ⟨k - 2, by omega⟩
        unfold cooperagelaw7_small.l0
        rw [if_pos (by omega), if_pos (by omega), hr, if_neg (by omega), decide_eq_true (by omega)]
        unfold cooperagelaw7_small.j1
        rw [if_pos rfl]
      · obtain ⟨b, ⟨k0, hb⟩, hp⟩ := small7_l1 l hl i hlt (by omega) (ih (i + 1) (by omega)) l[i].f4.length 0 (by omega)
        refine ⟨b, ⟨k0 + 2, fun k hk => ?_⟩, fun e a ha => ?_⟩
        · obtain ⟨k, rfl⟩ : ∃ j, k = j + 2 := ⟨k - 2, by omega⟩
          unfold cooperagelaw7_small.l0
          rw [if_pos (by omega), if_pos (by omega), hr, if_neg (by omega), decide_eq_false (by omega)]
          unfold cooperagelaw7_small.j1
          rw [if_neg (by decide)]
          exact hb k (by omega)
        · rw [List.drop_eq_getElem_cons hlt] at ha
          rcases List.mem_cons.1 ha with e2 | e2
          · subst e2
            exact ⟨by omega, by omega, (hp e).1⟩
          · exact (hp e).2 a e2
theorem small7_f (l : List Ac7) : ∃ b k, cooperagelaw7_small.f k l = some b ∧ (b = true → l.length ≤ 40 ∧ ∀ a ∈ l, Small7 a) := by
  by_cases h : l.length ≤ 40
  · obtain ⟨b, ⟨k0, hb⟩, hp⟩ := small7_l0 l h l.length 0 (by omega)
    refine ⟨b, k0, ?_, fun hb => ⟨h, hp hb⟩⟩
    unfold cooperagelaw7_small.f
    rw [if_neg (by omega)]
    exact hb k0 (Nat.le_refl _)
  · refine ⟨false, 0, ?_, fun h => by cases h⟩
    unfold cooperagelaw7_small.f
    rw [if_pos (by omega)]
def Small7End (l : List Ac7) (W : World) (e : Ending) (w' : World) : Prop := ∃ b, e = .returned (.bool b) ∧ (b = true → l.length ≤ 40 ∧ ∀ a ∈ l, Small7 a) ∧ Below W.heap.size W w'
theorem small7_call {W : World} {A : Option Addr} {c : Nat} {l : List Ac7} (ha : Kd.C k53 W A l.length l) (hc : l.length ≤ c) :
    Calls Tryz.prog 18 #[.slice A l.length c] W (Small7End l W) := by
  obtain ⟨b, k, hk, hb⟩ := small7_f l
  exact (cooperagelaw7_small.calls k A c l _ W ha hc hk).mono fun e w' h => ⟨b, h.1, hb, h.2.below⟩
def ABox7 (b : Nat) (a : Ac7) (A4 : Option Addr) (c4 : Nat) (W : World) : Prop := W.heap[b]? = some (.cells #[.int .i64 a.f0, .int .i64 a.f1, .int .i64 a.f2, .string a.f3, .slice A4 a.f4.length c4] 53)
theorem ABox7.cells {W : World} {b : Nat} {a : Ac7} {A4 : Option Addr} {c4 : Nat} (h : ABox7 b a A4 c4 W) :
    W.cell? ⟨b, 0, none⟩ = some (.int .i64 a.f0) ∧ W.cell? ⟨b, 1, none⟩ = some (.int .i64 a.f1) ∧ W.cell? ⟨b, 2, none⟩ = some (.int .i64 a.f2) ∧ W.cell? ⟨b, 3, none⟩ = some (.string a.f3) ∧ W.cell? ⟨b, 4, none⟩ = some (.slice A4 a.f4.length c4) := by
  have h : W.heap[b]? = _ := h
  refine ⟨?_, ?_, ?_, ?_, ?_⟩ <;> simp [World.cell?, h]
structure Acs7 (w : World) (A : Option Addr) (c : Nat) (l : List Ac7) : Prop where
  C : Kd.C k53 w A l.length l
  cap : l.length ≤ c
  wf : ∀ a ∈ l, (-9223372036854775808 ≤ a.f0 ∧ a.f0 ≤ 9223372036854775807) ∧ a.f2 ≤ 9223372036854775807
structure A7At (W : World) (x : Addr) (a : Ac7) (A4 : Option Addr) (c4 : Nat) : Prop where
  e0 : W.cell? x = some (.int .i64 a.f0)
  e1 : W.cell? ⟨x.block, x.off + 1, none⟩ = some (.int .i64 a.f1)
  e2 : W.cell? ⟨x.block, x.off + 2, none⟩ = some (.int .i64 a.f2)
  e3 : W.cell? ⟨x.block, x.off + 3, none⟩ = some (.string a.f3)
  e4 : W.cell? ⟨x.block, x.off + 4, none⟩ = some (.slice A4 a.f4.length c4)
theorem Acs7.at {w : World} {A : Option Addr} {c : Nat} {l : List Ac7} (h : Acs7 w A c l) {k : Nat} (hk : k < l.length) : ∃ ad A4 c4, A = some ad ∧ A7At w (ad.add (k * 5)) l[k] A4 c4 ∧ l[k].f4.length ≤ c4 ∧ Kd.C Kd.string w A4 l[k].f4.length l[k].f4 := by
  obtain ⟨ad, A4, c4, e, h0, h1, h2, h3, h4, h6, h7⟩ := at_T53 h.C (k : Int) (by omega) (by omega)
  rw [rdA7 hk, Int.toNat_natCast] at h0 h1 h2 h3 h4
  rw [rdA7 hk] at h6 h7
  exact ⟨ad, A4, c4, e, ⟨h0, h1, h2, h3, h4⟩, h6, h7⟩
theorem A7At.below {W W' : World} {x : Addr} {a : Ac7} {A4 : Option Addr} {c4 B : Nat} (h : A7At W x a A4 c4) (hb : Below W.heap.size W W') : A7At W' x a A4 c4 :=
  ⟨(hb.cell (cell_lt h.e0)).trans h.e0, (hb.cell (p := ⟨x.block, x.off + 1, none⟩) (cell_lt h.e1)).trans h.e1, (hb.cell (p := ⟨x.block, x.off + 2, none⟩) (cell_lt h.e2)).trans h.e2, (hb.cell (p := ⟨x.block, x.off + 3, none⟩) (cell_lt h.e3)).trans h.e3, (hb.cell (p := ⟨x.block, x.off + 4, none⟩) (cell_lt h.e4)).trans h.e4⟩
section
variable {w W W' : World} {K : Nat → Prop} {m s r p n : Nat} {T Tm : TS} {V : List Vw} {nm : ByteArray} {l l2 : List ByteArray} {er : Int} {sv mv : Value}
def Op1 (w : World) (K : Nat → Prop) (m p : Nat) (T Tm : TS) (V : List Vw) (nm : ByteArray) (l : List ByteArray) (er : Int) (sv : Value) (W : World) : Prop :=
  (er = 0 ∧ ∃ s, sv = .pointer (some ⟨s, 0, none⟩) ∧ LS w K m [(p, T)] Tm V s p nm l W) ∨ (er ≠ 0 ∧ sv = .pointer none ∧ Law w K m [(p, T)] Tm V W)
def Op2 (w : World) (K : Nat → Prop) (m p : Nat) (T : TS) (V : List Vw) (nm : ByteArray) (l : List ByteArray) (er : Int) (sv mv : Value) (W : World) : Prop :=
  (er = 0 ∧ ∃ s r, sv = .pointer (some ⟨s, 0, none⟩) ∧ mv = .pointer (some ⟨r, 0, none⟩) ∧ TW w K m p T T V s r nm l l W) ∨ (er ≠ 0 ∧ sv = .pointer none ∧ mv = .pointer none ∧ Law w K m [(p, T)] T V W)
theorem Op1.law (h : Op1 w K m p T Tm V nm l er sv W) : Law w K m [(p, T)] Tm V W := by
  rcases h with ⟨_, s, _, h⟩ | ⟨_, _, h⟩
  · exact h.law
  · exact h
theorem Op2.drop {K0 : Nat → Prop} {V0 : List Vw} {L0 : List (Nat × TS)} {T0 : TS} {W0 : World} (h : Op2 w K m p T V nm l er sv mv W) (h0 : Law w K0 m L0 T0 V0 W0) (hK : ∀ k, K0 k → K k) (hV : ∀ x ∈ V0, x ∈ V) : Op2 w K0 m p T V0 nm l er sv mv W := by
  rcases h with ⟨he, s, r, e1, e2, h⟩ | ⟨he, e1, e2, h⟩
  · exact .inl ⟨he, s, r, e1, e2, h.drop h0 hK hV⟩
  · exact .inr ⟨he, e1, e2, h.drop h0 hK hV⟩
theorem Law.open1 (h : Law w K m [(p, T)] Tm V W) (hI : Inv n T) (hn : n + 8 ≤ 1000000) (hr : T.room ≤ 90000) (hq : nm.size ≤ 99000) :
    Calls Tryz.prog 10 #[.pointer (some ⟨p, 0, none⟩), .string nm] W fun e W' => ∃ sv, e = .returned (.tuple #[sv, .int .i64 (bOpE T nm)]) ∧ Op1 w K m p (bOpT T nm) Tm V nm (keptL [] (openL T nm)) (bOpE T nm) sv W' := by
  refine (h.bOpen2 hI hn hr hq).mono ?_
  rintro e W' (⟨h0, s, rfl, hl⟩ | ⟨h0, rfl, hl⟩)
  · exact ⟨_, by rw [h0], .inl ⟨h0, s, rfl, hl⟩⟩
  · exact ⟨_, rfl, .inr ⟨h0, rfl, hl⟩⟩
theorem Op1.open2 (h : Op1 w K m p (bOpT T nm) T V nm (keptL [] (openL T nm)) (bOpE T nm) sv W) (hI : Inv n T) (hn : n + 8 ≤ 1000000) (hr : T.room ≤ 90000) (hq : nm.size ≤ 99000) :
    Calls Tryz.prog 19 #[.pointer (some ⟨m, 0, none⟩), .string nm] W fun e W' => ∃ mv, e = .returned (.tuple #[mv, .int .i64 (bOpE T nm)]) ∧ Op2 w K m p (bOpT T nm) V nm (keptL [] (openL T nm)) (bOpE T nm) sv mv W' := by
  rcases h with ⟨he, s, rfl, h⟩ | ⟨he, rfl, h⟩
  · refine (h.rOpen hI hn hr hq).mono ?_
    rintro e W' (⟨h0, r, rfl, hl⟩ | ⟨h0, rfl, hl⟩)
    · exact ⟨_, by rw [h0], .inl ⟨h0, s, r, rfl, rfl, hl⟩⟩
    · exact absurd he h0
  · refine (h.rOpen hI hn hr hq).mono ?_
    rintro e W' (⟨h0, r, rfl, hl⟩ | ⟨h0, rfl, hl⟩)
    · exact absurd h0 he
    · exact ⟨_, rfl, .inr ⟨h0, rfl, rfl, hl⟩⟩
end
end Go.Proofs.YtghbaehbgefpaaaGreatDoor.Fr
