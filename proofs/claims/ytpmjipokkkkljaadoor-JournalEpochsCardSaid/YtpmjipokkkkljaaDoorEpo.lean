/-
  The law JournalEpochs returns true.
-/
import Derived.Test.YtpmjipokkkkljaaDoorRet
namespace Go.Proofs.YtpmjipokkkkljaaDoor
set_option linter.all false
set_option linter.unusedVariables false
set_option linter.unusedSimpArgs false
open Go.RowKit Go.Proofs.YtpmjipokkkkljaaDoorW.PrintWords Go.Proofs.YtpmjipokkkkljaaDoorW.PrintLast Go.Proofs.YtpmjipokkkkljaaDoorW.PrintMore

theorem big_ne {a b : Nat} (ha : a ≤ 2) (hb : b ≤ 2) (h : a ≠ b) : bigS (a : Int) 8 ≠ bigS (b : Int) 8 := by
  intro h2
  have := congrArg (fun b => b.data.toList) h2
  revert this
  match a, ha, b, hb, h with
  | 0, _, 1, _, _ => decide +kernel
  | 0, _, 2, _, _ => decide +kernel
  | 1, _, 0, _, _ => decide +kernel
  | 1, _, 2, _, _ => decide +kernel
  | 2, _, 0, _, _ => decide +kernel
  | 2, _, 1, _, _ => decide +kernel
  | 0, _, 0, _, h => exact absurd rfl h
  | 1, _, 1, _, h => exact absurd rfl h
  | 2, _, 2, _, h => exact absurd rfl h
/-- The two blocks of the law's own: the region, the three lists. -/
def Own2 (w wr : World) (m g9 gl : Nat) (va vb : Value) (F : Nat → Prop) : Prop :=
  Blk wr g9 #[.int .i64 0, .int .i64 m] 24 ∧ Blk wr gl #[va, vb, va] 22 ∧ (∀ k, k = g9 ∨ k = gl → ¬ F k ∧ w.heap.size ≤ k)
theorem Own2.upd {w wr w' : World} {m g9 gl : Nat} {va vb : Value} {F F' S : Nat → Prop} (h : Own2 w wr m g9 gl va vb F) (hu : Upd S wr w') (hS : ∀ k, S k → F k) (hF : ∀ k, F' k → F k ∨ wr.heap.size ≤ k) : Own2 w w' m g9 gl va vb F' := by
  obtain ⟨h1, h2, h3⟩ := h
  refine ⟨h1.upd hu (fun h => (h3 g9 (.inl rfl)).1 (hS _ h)), h2.upd hu (fun h => (h3 gl (.inr rfl)).1 (hS _ h)), fun k hk => ⟨fun h => (hF k h).elim (h3 k hk).1 (fun h => ?_), (h3 k hk).2⟩⟩
  have a := h1.lt; have b := h2.lt
  rcases hk with rfl | rfl <;> omega
def EpoRel (w : World) (b m g9 gl : Nat) (va vb : Value) (v47 : Value) (wr : World) : Prop :=
  ∃ (i : Nat) (d : DK) (FD : Nat → Prop), v47 = .int .i64 i ∧ i ≤ 3 ∧ d.dur.length = m ∧ IsDisk wr FD b d ∧ DOk d ∧ (∀ e' : Nat, i ≤ e' → e' ≤ 2 → ∀ q, Bad d e' q) ∧ (∀ k, FD k → w.heap.size ≤ k) ∧ Own2 w wr m g9 gl va vb FD ∧ Below w.heap.size w wr
/-- What holds within an epoch: the journal stands on its disk, the wanted records are its own; later epochs read nothing. -/
structure EpoIn (w wr : World) (b jb m i g9 gl : Nat) (va vb : Value) (d : DK) (J : JD) (FD FJ S : Nat → Prop) (v14 : Value) : Prop where
  nums : J.first = 0 ∧ J.count = m ∧ J.epoch = i ∧ d.dur.length = m
  live : Live wr FD FJ b jb d J
  want : Kd.string.R 9 wr 0 S v14 J.recs
  own : ∀ k, S k → w.heap.size ≤ k ∧ ¬ FD k ∧ ¬ FJ k ∧ k < wr.heap.size
  fd : ∀ k, FD k → w.heap.size ≤ k
  fj : ∀ k, FJ k → w.heap.size ≤ k
  bad : ∀ e' : Nat, i < e' → e' ≤ 2 → ∀ q, Bad d e' q
  two : Own2 w wr m g9 gl va vb (fun k => FD k ∨ FJ k ∨ S k)
  below : Below w.heap.size w wr
namespace EpoIn
variable {w wr w' w7 w10 : World} {b jb m i g9 gl : Nat} {va vb v14 v1 : Value} {d : DK} {J : JD} {FD FJ S FD7 FJ7 : Nat → Prop}
theorem step (h : EpoIn w wr b jb m i g9 gl va vb d J FD FJ S v14) (hb : Below wr.heap.size wr w') : EpoIn w w' b jb m i g9 gl va vb d J FD FJ S v14 :=
  ⟨h.nums, h.live.below hb, Kd.R_below h.want hb, fun k hk => by obtain ⟨a, b, c, e⟩ := h.own k hk; exact ⟨a, b, c, Nat.lt_of_lt_of_le e hb.size⟩, h.fd, h.fj, h.bad,
    h.two.upd (Upd.of_below hb (fun _ => False)) (fun _ h => h.elim) (fun _ h => .inl h), h.below.trans (hb.mono h.below.size)⟩
theorem room (h : EpoIn w wr b jb m i g9 gl va vb d J FD FJ S v14) : 0 ≤ J.next ∧ J.next ≤ m := ⟨h.live.ok.next, by have := h.live.ok.room; rw [h.nums.2.1] at this; exact this⟩
theorem cells (h : EpoIn w wr b jb m i g9 gl va vb d J FD FJ S v14) : wr.cell? ⟨g9, 0, none⟩ = some (.int .i64 0) ∧ wr.cell? ⟨g9, 1, none⟩ = some (.int .i64 m) := ⟨h.two.1.cell 0 _ rfl, h.two.1.cell 1 _ rfl⟩
theorem recs (h : EpoIn w wr b jb m i g9 gl va vb d J FD FJ S v14) (hm : m ≤ 12) : J.recs.length ≤ 12 := by have := h.live.ok.recs_le; have := h.room; omega
/-- An append that has room, and then the wanted records with it. -/
theorem app (h : EpoIn w wr b jb m i g9 gl va vb d J FD FJ S v14) (y : ByteArray) (hi : i ≤ 2) (hfit : (needN y.size : Int) ≤ m - J.next) (a1 : ∀ k, FD7 k → FD k ∨ wr.heap.size ≤ k) (a2 : ∀ k, FJ7 k → FJ k ∨ wr.heap.size ≤ k)
    (hl : Live w7 FD7 FJ7 b jb (appD d J y) (appJ J y)) (hu : Upd (fun k => FD k ∨ FJ k) wr w7)
    (ho : Kd.string.R 9 w10 0 (fun k => S k ∨ w7.heap.size ≤ k) v1 (J.recs ++ [y])) (hg : w7.grownBy w10 v14.ownBlock) :
    EpoIn w w10 b jb m i g9 gl va vb (appD d J y) (appJ J y) FD7 FJ7 (fun k => (S k ∨ w7.heap.size ≤ k) ∧ k < w10.heap.size) v1 := by
  have hown : ∀ k, v14.ownBlock = some k → S k := h.want.1
  have hu10 : Upd S w7 w10 := (Upd.refl S w7).grown hg (fun k hk => .inl (hown k hk))
  have hD7 : ∀ k, FD7 k → k < w7.heap.size := by obtain ⟨_, _, _, _, _, _, _, _, _, _, _, h⟩ := hl.disk; exact h
  have hJ7 : ∀ k, FJ7 k → k < w7.heap.size := by obtain ⟨_, _, _, _, h⟩ := hl.jour; exact h
  have hSn : ∀ k, S k → ¬ FD7 k ∧ ¬ FJ7 k := fun k hk => by
    obtain ⟨s1, s2, s3, s4⟩ := h.own k hk
    exact ⟨fun h => (a1 k h).elim s2 (fun h => by omega), fun h => (a2 k h).elim s3 (fun h => by omega)⟩
  have hwr := h.below.size
  have h7 := hu.size
  have hrm := h.room
  refine ⟨⟨h.nums.1, h.nums.2.1, h.nums.2.2.1, by rw [appD_len]; exact h.nums.2.2.2⟩, hl.upd hu10 hSn, R_fit ho, fun k hk => ?_, fun k hk => (a1 k hk).elim (h.fd k) (fun h => by omega), fun k hk => (a2 k hk).elim (h.fj k) (fun h => by omega),
    fun e' he1 he2 q => bad_app h.live.dok.pend (by have := h.nums.1; omega) (by have := h.nums; omega) (by rw [h.nums.2.2.1]; exact big_ne hi he2 (by omega)) (h.bad e' he1 he2 q), ?_, ?_⟩
  · rcases hk.1 with h1 | h1
    · exact ⟨(h.own k h1).1, (hSn k h1).1, (hSn k h1).2, hk.2⟩
    · exact ⟨by omega, fun h2 => by have := hD7 k h2; omega, fun h2 => by have := hJ7 k h2; omega, hk.2⟩
  · refine (h.two.upd (F' := fun k => FD7 k ∨ FJ7 k ∨ S k) hu (fun k h => h.elim .inl (fun h => .inr (.inl h))) (fun k hk => ?_)).upd hu10 (fun k hk => .inr (.inr hk)) (fun k hk => ?_)
    · rcases hk with h1 | h1 | h1
      · exact (a1 k h1).imp .inl id
      · exact (a2 k h1).imp (fun h => .inr (.inl h)) id
      · exact .inl (.inr (.inr h1))
    · rcases hk with h1 | h1 | h1
      · exact .inl (.inl h1)
      · exact .inl (.inr (.inl h1))
      · exact h1.1.imp (fun h => .inr (.inr h)) id
  · exact (h.below.trans (hu.below hwr (fun k h1 => h1.elim (h.fd k) (h.fj k)))).trans (hu10.below (Nat.le_trans hwr h7) (fun k hk => (h.own k hk).1))
end EpoIn
def EpoRel2 (w : World) (b jb m i g9 gl : Nat) (va vb : Value) (X : List ByteArray) (v14 v73 : Value) (wr : World) : Prop :=
  ∃ (r : Nat) (d : DK) (J : JD) (FD FJ S : Nat → Prop), v73 = .int .i64 r ∧ r ≤ X.length ∧ EpoIn w wr b jb m i g9 gl va vb d J FD FJ S v14
set_option maxHeartbeats 4000000 in
set_option maxRecDepth 100000 in
theorem epochs_any (n : Nat) (hn : n ≤ 255) (w : World) (A : Option Addr) (l : List ByteArray) (c : Nat) (hl : Strs w w.heap.size A l c) (A2 : Option Addr) (more : List ByteArray) (c2 : Nat) (hm : Strs w w.heap.size A2 more c2) :
    Calls Tryd.prog 5 #[.int .u8 n, .slice A l.length c, .slice A2 more.length c2] w fun e w' => e = .returned (.bool true) ∧ Below w.heap.size w w' := by
  have c1 : IntKind.i64.wrap (n : Int) = n := IntWalk.i64_in _ ⟨by omega, by omega⟩
  have HM := Lib.hid hm
  obtain ⟨m, hm⟩ : ∃ m : Nat, (m : Int) = 1 + (n : Int) % 12 := ⟨1 + n % 12, by omega⟩
  have hm1 : 1 ≤ m ∧ m ≤ 12 := by omega
  have HP : Hid (∀ W, Calls Tryd.prog 10 #[.int .i64 (1 + (n : Int) % 12)] W fun e w' => ∃ b FD A0 m0 c0 A1 m1 c1, e = .returned (.tuple #[.pointer (some ⟨b, 0, none⟩), .agg #[.slice A0 m0 c0, .slice A1 m1 c1]]) ∧
    IsDisk w' FD b (dk0 m) ∧ (∀ k, FD k → W.heap.size ≤ k) ∧ Below W.heap.size W w') := Lib.hid (fun W => by rw [← hm]; exact pages_ok W m hm1.1 (by omega))
  have HM1 := Lib.hid hm1
  have HL := Lib.hid hl
  clear hm hm1 hn hl
  go_enter Tryd.func5, Tryd.ntmps5
  go_wp2_with (go_at_call 9; refine (awake_ok _).mono ?_; rintro e w1 ⟨rfl, hb⟩; have HB1 := Lib.hid hb; clear hb)
  refine (few_any l A c w1 (HL.out.cells _ HB1.out) HL.out.cap HL.out.len HL.out.small).mono ?_
  rintro e2 w2 ⟨r, rfl, hd, hfew⟩
  have HB2 := Lib.hid (HB1.out.trans ((Upd.of_drawn hd (fun _ => False)).below HB1.out.size (fun _ h => h.elim)))
  clear hd HB1
  cases r with
  | false =>
    clear hfew
    go_wp2
    go_ret
    exact ⟨rfl, HB2.out⟩
  | true =>
    obtain ⟨h16, hs6⟩ := hfew rfl
    have H16 := Lib.hid (And.intro h16 hs6)
    clear hfew h16 hs6
    go_wp2_with (fail)
    refine (few_any more A2 c2 w2 (HM.out.cells _ HB2.out) HM.out.cap HM.out.len HM.out.small).mono ?_
    rintro e3 w3 ⟨r, rfl, hd, hfew⟩
    have HB3 := Lib.hid (HB2.out.trans ((Upd.of_drawn hd (fun _ => False)).below HB2.out.size (fun _ h => h.elim)))
    clear hd HB2
    cases r with
    | false =>
      clear hfew
      go_wp2
      go_ret
      exact ⟨rfl, HB3.out⟩
    | true =>
      obtain ⟨h16, hs6⟩ := hfew rfl
      have H17 := Lib.hid (And.intro h16 hs6)
      clear hfew h16 hs6
      go_wp2_with (go_at_call 10; with_reducible refine (HP.out _).mono ?_; rintro e4 w4 ⟨b, FD, A0, m0, k0, A1, m1, k1, rfl, hd, hF, hb⟩; have HD := Lib.hid hd; have HF := Lib.hid hF; have HB4 := Lib.hid hb; clear hd hF hb)
      have HD5 := Lib.hid (HD.out.alloc (.cells #[.slice A0 m0 k0, .slice A1 m1 k1] 29))
      have HB5 : Hid (Below w.heap.size w (w4.alloc (.cells #[.slice A0 m0 k0, .slice A1 m1 k1] 29))) := Lib.hid (((HB3.out.trans (HB4.out.mono HB3.out.size))).alloc (Nat.le_trans HB3.out.size HB4.out.size) _)
      have HF5 : Hid (∀ k, FD k → w.heap.size ≤ k) := Lib.hid (fun k hk => Nat.le_trans HB3.out.size (HF.out k hk))
      clear HD HB4 HF HB3
      generalize (w4.alloc (.cells #[.slice A0 m0 k0, .slice A1 m1 k1] 29)) = w5 at *
      generalize w4.heap.size = q4 at *
      have HPG := Lib.hid (fun W FD d (h : IsDisk W FD b d) => pagesN W FD b d h)
      refine (HPG.out _ _ _ HD5.out).mono ?_
      rintro e6 w6 ⟨rfl, rfl⟩
      rw [dk0_len]
      have HO : Hid (∀ (i : Nat), i ≤ 2 → ∀ W FD d J, IsDisk W FD b d → DOk d → JOk d J → J.dsk = b → J.first = 0 → J.count = m → J.epoch = i → Calls Tryd.prog 18 #[.pointer (some ⟨b, 0, none⟩), .agg #[.int .i64 0, .int .i64 m], .int .i64 i] W fun e' w' => ∃ jb FJ, e' = .returned (.tuple #[.pointer (some ⟨jb, 0, none⟩), .int .i64 0]) ∧ (∀ k, FJ k → W.heap.size ≤ k) ∧
        Live w' FD FJ b jb d J ∧ Below W.heap.size W w') := Lib.hid (fun i hi W FD d J h1 h2 h3 h4 h5 h6 h7 => live_open h1 h2 (by have := HM1.out; omega) (by omega) (by omega) h3 h4 h5 h6 h7)
      have HDN := Lib.hid (dk0_ok m (by have := HM1.out; omega))
      go_wp2
      have HW7 : Hid (Below w.heap.size w ((w5.alloc (.cells #[.int .i64 0, .int .i64 m] 24)).alloc (.cells #[.slice A l.length c, .slice A2 more.length c2, .slice A l.length c] 22))) :=
        Lib.hid ((HB5.out.alloc HB5.out.size _).alloc (by have := HB5.out.size; simp; omega) _)
      have HD7 := Lib.hid ((HD5.out.alloc (.cells #[.int .i64 0, .int .i64 m] 24)).alloc (.cells #[.slice A l.length c, .slice A2 more.length c2, .slice A l.length c] 22))
      have HOW : Hid (Own2 w ((w5.alloc (.cells #[.int .i64 0, .int .i64 m] 24)).alloc (.cells #[.slice A l.length c, .slice A2 more.length c2, .slice A l.length c] 22)) m w5.heap.size (w5.heap.size + 1) (.slice A l.length c) (.slice A2 more.length c2) FD) := by
        have hF : ∀ k, FD k → k < w5.heap.size := by obtain ⟨_, _, _, _, _, _, _, _, _, _, _, h⟩ := HD5.out; exact h
        have h0 := HB5.out.size
        refine Lib.hid ⟨(Blk.new w5 _ _).alloc _, ?_, fun k hk => ⟨fun h => ?_, ?_⟩⟩
        · have := Blk.new (w5.alloc (.cells #[.int .i64 0, .int .i64 m] 24)) #[.slice A l.length c, .slice A2 more.length c2, .slice A l.length c] 22
          rw [World.size_alloc] at this
          exact this
        · have := hF k h
          rcases hk with rfl | rfl <;> omega
        · rcases hk with rfl | rfl <;> omega
      generalize w5.heap.size + 1 = gl at *
      generalize w5.heap.size = g9 at *
      generalize ((w5.alloc (.cells #[.int .i64 0, .int .i64 m] 24)).alloc (.cells #[.slice A l.length c, .slice A2 more.length c2, .slice A l.length c] 22)) = w7 at *
      clear HB5 HD5
      go_loopw [47] (fun v47 wr => EpoRel w b m g9 gl (.slice A l.length c) (.slice A2 more.length c2) v47 wr) (fun v47 _ => 3 - (intOf v47).toNat)
      case atStart =>
        exact ⟨0, dk0 m, FD, rfl, by omega, dk0_len m, HD7.out, HDN.out, fun e' _ _ q => dk0_bad m e' q, HF5.out, HOW.out, HW7.out⟩
      case round =>
        obtain ⟨i, d, FD', rfl, hi, hlen, hd, hdok, hbad, hFD, how, hbw⟩ := hrel
        have HI := Lib.hid (And.intro hi hlen); have HD8 := Lib.hid (And.intro hd (And.intro hdok hbad)); have HFD := Lib.hid hFD; have HOW8 := Lib.hid how; have HBW := Lib.hid hbw
        clear hi hlen hd hdok hbad hFD how hbw HOW HD7 HW7 HF5 HDN
        by_cases hlt : i < 3
        · have q1 : decide ((i : Int) < 3) = true := decide_eq_true (by omega)
          obtain ⟨AX, X, cX, hX, hXs, hcell⟩ : ∃ AX X cX, Strs w w.heap.size AX X cX ∧ (X.length ≤ 16 ∧ ∀ s ∈ X, s.size ≤ 6000) ∧ wr.cell? ⟨gl, i, none⟩ = some (.slice AX X.length cX) := by
            obtain ⟨_, h2, _⟩ := HOW8.out
            match i, hlt with
            | 0, _ => exact ⟨A, l, c, HL.out, H16.out, h2.cell 0 _ rfl⟩
            | 1, _ => exact ⟨A2, more, c2, HM.out, H17.out, h2.cell 1 _ rfl⟩
            | 2, _ => exact ⟨A, l, c, HL.out, H16.out, h2.cell 2 _ rfl⟩
          have HX := Lib.hid (And.intro hX hXs)
          have HLT := Lib.hid hlt
          clear hX hXs hlt
          have g0 : wr.cell? ⟨g9, 0, none⟩ = some (.int .i64 0) := HOW8.out.1.cell 0 _ rfl
          have g1 : wr.cell? ⟨g9, 1, none⟩ = some (.int .i64 m) := HOW8.out.1.cell 1 _ rfl
          have i3 : (i : Int) < 3 := by have := HLT.out; omega
          have HJ0 : Hid (JOk d ⟨b, 0, m, i, [], 0, chain0 i⟩) := Lib.hid (JOk.new HD8.out.2.1.pend (by decide) (by have := HM1.out; omega) (by have := HI.out.2; omega) (fun q _ _ => HD8.out.2.2 i (Nat.le_refl _) (by have := HLT.out; omega) q))
          have HOi := Lib.hid (HO.out i (by have := HLT.out; omega))
          go_wp2_with (first
            | (go_at_call 18; with_reducible refine (HOi.out _ _ _ _ HD8.out.1 HD8.out.2.1 HJ0.out rfl rfl rfl rfl).mono ?_; rintro e6 w6 ⟨jb, FJ, rfl, hFJ, hL, hb⟩; have HLV := Lib.hid hL; have HFJ := Lib.hid hFJ; have HB6 := Lib.hid hb; clear hL hFJ hb))
          refine (records_any w6 FJ jb ⟨b, 0, m, i, [], 0, chain0 i⟩ HLV.out.jour (by show ([] : List ByteArray).length ≤ _; decide)).mono ?_
          rintro e9 w9 ⟨v9, rfl, hr, hb9⟩
          obtain ⟨A13, c13, rfl, _, _⟩ := Kd.R_reads hr
          have HLV9 : Hid (Live w9 FD' FJ b jb d ⟨b, 0, m, i, [], 0, chain0 i⟩) := Lib.hid (HLV.out.below hb9)
          have HUB : Hid (Below wr.heap.size wr w9) := Lib.hid (HB6.out.trans (hb9.mono HB6.out.size))
          have HBW9 : Hid (Below w.heap.size w w9) := Lib.hid (HBW.out.trans (HUB.out.mono HBW.out.size))
          have HFJ9 : Hid (∀ k, FJ k → w.heap.size ≤ k) := Lib.hid (fun k hk => Nat.le_trans HBW.out.size (HFJ.out k hk))
          have HOW9 : Hid (Own2 w w9 m g9 gl (.slice A l.length c) (.slice A2 more.length c2) (fun k => FD' k ∨ FJ k ∨ False)) := Lib.hid (HOW8.out.upd (S := fun _ => False) (Upd.of_below HUB.out _) (fun _ h => h.elim) (fun k hk => hk.elim .inl (fun h => h.elim (fun h => .inr (HFJ.out k h)) (fun h => h.elim))))
          have HBN : Hid (∀ e' : Nat, i < e' → e' ≤ 2 → ∀ q, Bad d e' q) := Lib.hid (fun e' h => HD8.out.2.2 e' (by omega))
          clear hr hb9 HLV HUB HB6 HBW HOW8 HFJ HD8 HOi HJ0 hcell g0 g1 i3
          go_wp2
          go_loopw [14, 73] (fun v14 v73 wr => EpoRel2 w b jb m i g9 gl (.slice A l.length c) (.slice A2 more.length c2) X v14 v73 wr) (fun _ v73 _ => X.length - (intOf v73).toNat)
          case atStart =>
            exact ⟨0, d, ⟨b, 0, m, i, [], 0, chain0 i⟩, FD', FJ, fun _ => False, rfl, Nat.zero_le _, ⟨⟨rfl, rfl, rfl, HI.out.2⟩, HLV9.out, Kd.R_nil _ _ _ _ _, fun _ h => h.elim, HFD.out, HFJ9.out, HBN.out, HOW9.out, HBW9.out⟩⟩
          case round =>
            obtain ⟨r, d, J, FD2, FJ2, S, rfl, hr, hin⟩ := hrel
            have HIN := Lib.hid hin; have HR2 := Lib.hid hr
            clear hr hin HLV9 HBW9 HFJ9 HOW9 HBN HFD
            by_cases hlt : r < X.length
            · obtain ⟨ad, y, e1, hy, hcy⟩ := at_Str (HX.out.1.cells _ HIN.out.below) r (by omega) (by exact_mod_cast hlt)
              have q1 : decide ((r : Int) < (X.length : Int)) = true := by simpa using hlt
              have HY : Hid (y.size ≤ 6000) := Lib.hid (HX.out.2.2 y (by rw [Int.toNat_natCast] at hy; exact List.mem_of_getElem? hy))
              have HLR := Lib.hid hlt
              rw [Int.toNat_natCast] at hcy
              clear hlt hy
              subst e1
              have HRL : Hid ((J.recs.length + 1) * 16 ≤ 140737488355328) := Lib.hid (by have := HIN.out.recs HM1.out.2; omega)
              have HRK : Hid (∀ W F jj J', J'.recs.length ≤ 1000000 → IsJ W F jj J' → Calls Tryd.prog 22 #[.pointer (some ⟨jj, 0, none⟩)] W fun e w' => ∃ v, e = .returned v ∧ Kd.string.R 9 w' 0 (fun k => W.heap.size ≤ k) v J'.recs ∧ Below W.heap.size W w') := Lib.hid (fun W F jj J' h0 h => records_any W F jj J' h h0)
              have HOi : Hid (∀ W FD d J, IsDisk W FD b d → DOk d → JOk d J → J.dsk = b → J.first = 0 → J.count = m → J.epoch = i → Calls Tryd.prog 18 #[.pointer (some ⟨b, 0, none⟩), .agg #[.int .i64 0, .int .i64 m], .int .i64 i] W fun e' w' => ∃ jb FJ, e' = .returned (.tuple #[.pointer (some ⟨jb, 0, none⟩), .int .i64 0]) ∧ (∀ k, FJ k → W.heap.size ≤ k) ∧
                Live w' FD FJ b jb d J ∧ Below W.heap.size W w') := Lib.hid (HO.out i (by have := HLT.out; omega))
              by_cases hfit : (needN y.size : Int) ≤ m - J.next
              · have HFIT := Lib.hid hfit
                clear hfit
                have HAP := Lib.hid (live_append y HIN.out.live (by have := HY.out; omega) (by rw [HIN.out.nums.2.1]; exact HFIT.out))
                go_wp2_with (first
                  | (go_at_call 19; with_reducible refine HAP.out.mono ?_; rintro e7 w7 ⟨rfl, FD7, FJ7, a1, a2, hl7, hu7⟩; have HX7 := Lib.hid (And.intro a1 (And.intro a2 (And.intro hl7 hu7))); have HR7 : Hid (Kd.string.R 9 w7 0 (fun k => S k ∨ w7.heap.size ≤ k) u14 J.recs) := Lib.hid (Kd.R_mono (Kd.R_step HIN.out.want (fun k hk hl => hu7.block k hl (fun h => h.elim (HIN.out.own k hk).2.1 (HIN.out.own k hk).2.2.1))) (fun k hk => .inl hk)); clear a1 a2 hl7 hu7)
                  | (at_builtin; go_loud (refine app_list (X := w7) Kd.string rfl (.tmp 81) (.tmp 83) 22 9 (.string ⟨#[]⟩) 16 rfl Tryd.underlying22 Pr.info9 rfl (by decide) (by omega) u14 J.recs y [.string y] (fun k => S k ∨ w7.heap.size ≤ k) (by rfl) _ (by rfl) (by simp) rfl (fun k hk => .inr hk) HR7.out HRL.out ?_); intro v1 w10 ho hbel hg hat; have HN := Lib.hid (HIN.out.app y (by have := HLT.out; omega) HFIT.out HX7.out.1 HX7.out.2.1 HX7.out.2.2.1 HX7.out.2.2.2 ho hg); have g0 := HN.out.cells.1; have g1 := HN.out.cells.2; clear ho hbel hg hat)
                  | (go_at_call 18; with_reducible refine (HOi.out _ _ _ _ HN.out.live.disk HN.out.live.dok HN.out.live.ok HN.out.live.dsk HN.out.nums.1 HN.out.nums.2.1 HN.out.nums.2.2.1).mono ?_; rintro e11 w11 ⟨jk, FK, rfl, _, hL, hb⟩; have HK := Lib.hid (And.intro hL.jour hb); clear hL hb)
                  | (go_at_call 22; with_reducible refine (HRK.out _ _ _ _ (Nat.le_trans (HN.out.recs HM1.out.2) (by decide)) HK.out.1).mono ?_; rintro e12 w12 ⟨v12, rfl, hr12, hb12⟩; have HB12 := Lib.hid (HK.out.2.trans (hb12.mono HK.out.2.size)); have HE := Lib.hid (equal_same hr12 (Kd.R_below HN.out.want HB12.out)); clear hr12 hb12)
                  | (go_at_call 21; with_reducible refine HE.out.mono ?_; rintro e13 w13 ⟨rfl, hq⟩; have HQ := Lib.hid (HB12.out.trans ((Upd.of_drawn hq (fun _ => False)).below HB12.out.size (fun _ h => h.elim))); clear hq))
                have hr1 : wrap64 ((r : Int) + 1) = ((r + 1 : Nat) : Int) := by have := HLR.out; have := HX.out.2.1; unfold wrap64; omega
                rw [hr1]
                exact ⟨⟨r + 1, _, _, _, _, _, rfl, HLR.out, HN.out.step HQ.out⟩, ret_measure HLR.out⟩
              · have HFIT := Lib.hid hfit
                clear hfit
                have HAP := Lib.hid (live_full y HIN.out.live (by have := HY.out; omega) (by rw [HIN.out.nums.2.1]; have := HFIT.out; omega))
                go_wp2_with (first
                  | (go_at_call 19; with_reducible refine HAP.out.mono ?_; rintro e7 w7 ⟨rfl, hq⟩; have HN := Lib.hid (HIN.out.step (Upd.of_drawn hq (fun _ => False)).below_all); have g0 := HN.out.cells.1; have g1 := HN.out.cells.2; clear hq)
                  | (go_at_call 18; with_reducible refine (HOi.out _ _ _ _ HN.out.live.disk HN.out.live.dok HN.out.live.ok HN.out.live.dsk HN.out.nums.1 HN.out.nums.2.1 HN.out.nums.2.2.1).mono ?_; rintro e11 w11 ⟨jk, FK, rfl, _, hL, hb⟩; have HK := Lib.hid (And.intro hL.jour hb); clear hL hb)
                  | (go_at_call 22; with_reducible refine (HRK.out _ _ _ _ (Nat.le_trans (HN.out.recs HM1.out.2) (by decide)) HK.out.1).mono ?_; rintro e12 w12 ⟨v12, rfl, hr12, hb12⟩; have HB12 := Lib.hid (HK.out.2.trans (hb12.mono HK.out.2.size)); have HE := Lib.hid (equal_same hr12 (Kd.R_below HN.out.want HB12.out)); clear hr12 hb12)
                  | (go_at_call 21; with_reducible refine HE.out.mono ?_; rintro e13 w13 ⟨rfl, hq⟩; have HQ := Lib.hid (HB12.out.trans ((Upd.of_drawn hq (fun _ => False)).below HB12.out.size (fun _ h => h.elim))); clear hq))
                have hr1 : wrap64 ((r : Int) + 1) = ((r + 1 : Nat) : Int) := by have := HLR.out; have := HX.out.2.1; unfold wrap64; omega
                rw [hr1]
                exact ⟨⟨r + 1, _, _, _, _, _, rfl, HLR.out, HN.out.step HQ.out⟩, ret_measure HLR.out⟩
            · have q1 : decide ((r : Int) < (X.length : Int)) = false := by simpa using hlt
              have q1' : decide (r < X.length) = false := by simpa using hlt
              clear hlt
              go_wp2
              have hi1 : wrap64 ((i : Int) + 1) = ((i + 1 : Nat) : Int) := by have := HLT.out; unfold wrap64; omega
              rw [hi1]
              refine ⟨⟨i + 1, d, FD2, rfl, HLT.out, HIN.out.nums.2.2.2, HIN.out.live.disk, HIN.out.live.dok, fun e' h1 h2 => HIN.out.bad e' h1 h2, HIN.out.fd, HIN.out.two.upd (Upd.refl (fun _ => False) wr) (fun _ h => h.elim) (fun k hk => .inl (.inl hk)), HIN.out.below⟩, ?_⟩
              exact ret_measure (n := 3) HLT.out
        · have q1 : decide ((i : Int) < 3) = false := decide_eq_false (by omega)
          go_wp2
          go_ret
          exact ⟨rfl, HBW.out⟩
end Go.Proofs.YtpmjipokkkkljaaDoor
