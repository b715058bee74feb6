/-
  Part of the proof of cd_card: the lemmas of Reads that it uses.
-/
import Derived.Test.YtpmjipokkkkljaaDoorQStart
import Derived.Test.YtpmjipokkkkljaaDoorQRet
import Derived.Test.YtpmjipokkkkljaaDoorQPr2
import Derived.Test.YtpmjipokkkkljaaDoorQPr10
namespace Go.Proofs.YtpmjipokkkkljaaDoor
set_option linter.all false
set_option linter.unusedVariables false
set_option linter.unusedSimpArgs false
open Go.RowKit Go.Proofs.YtpmjipokkkkljaaDoorW.PrintWords Go.Proofs.YtpmjipokkkkljaaDoorW.PrintLast Go.Proofs.YtpmjipokkkkljaaDoorW.PrintMore Go.Proofs.YtpmjipokkkkljaaDoor.Pr
set_option maxHeartbeats 2000000 in
set_option maxRecDepth 100000 in
theorem pages_r (w : World) (n : Nat) (h0 : 1 ≤ n) (h1 : n ≤ 4096) : Calls Tryd.prog 10 #[.int .i64 n] w fun e w' => ∃ b FD v0 v1 P0 P1, e = .returned (.tuple #[.pointer (some ⟨b, 0, none⟩), .agg #[v0, v1]]) ∧
    IsDisk w' FD b (dk0 n) ∧ (∀ k, FD k → w.heap.size ≤ k) ∧ Kd.R Kd.string 9 w' w.heap.size P0 v0 (List.replicate n ⟨#[]⟩) ∧ Kd.R k80 80 w' w.heap.size P1 v1 [] ∧ (∀ k, P0 k ∨ P1 k → w.heap.size ≤ k ∧ ¬ FD k ∧ k < w'.heap.size) ∧ Below w.heap.size w w' := by
  have HN : Hid (∀ W, Calls Tryd.prog 31 #[.int .i64 n] W fun e w' => ∃ A0 c0 A1 c1, e = .returned (.tuple #[.agg #[.slice A0 n c0, .slice A1 0 c1], .int .i64 0]) ∧ Kd.R Kd.string 9 w' W.heap.size (fun _ => True) (.slice A0 n c0) (List.replicate n ⟨#[]⟩) ∧ Kd.R k80 80 w' W.heap.size (fun _ => True) (.slice A1 0 c1) [] ∧ Below W.heap.size W w') := Lib.hid (fun W => by
    refine (modcertref50_New.calls n (List.replicate n ⟨#[]⟩) [] 0 W ?_).mono ?_
    · unfold modcertref50_New.f
      rw [if_neg (by omega), if_neg (by omega), if_pos (by omega), if_pos (by omega), Int.toNat_natCast]
    · rintro e w' ⟨v0, v1, rfl, h0, h1, hb⟩
      obtain ⟨A0, c0, rfl, _, _⟩ := Kd.R_reads h0
      obtain ⟨A1, c1, rfl, _, _⟩ := Kd.R_reads h1
      rw [List.length_replicate] at h0 ⊢
      exact ⟨A0, c0, A1, c1, rfl, h0, h1, hb⟩)
  go_enter Tryd.func10, Tryd.ntmps10
  go_wp2_with (first
    | (go_at_call 29; refine (new_ok _ n (by omega) (by omega)).mono ?_; rintro e w1 ⟨b, FD, rfl, hd, hFD, hb1⟩; have HD := Lib.hid hd; have HFD := Lib.hid hFD; have HB1 := Lib.hid hb1; clear hd hFD hb1)
    | (go_at_call 31; refine (HN.out _).mono ?_; rintro e w2 ⟨A0, k0, A1, k1, rfl, hr0, hr1, hb2⟩; have HR0 := Lib.hid hr0; have HR1 := Lib.hid hr1; have HB2 := Lib.hid hb2; clear hr0 hr1 hb2))
  have bR : Blk w2 w.heap.size #[.slice none 0 0, .slice none 0 0] 29 := (HB2.out.block _ (by have := HB1.out.size; simp at this; omega)).trans ((HB1.out.block _ (by simp)).trans (Blk.new w _ _))
  have hs2 : w.heap.size < w2.heap.size := bR.lt
  have bR3 : Blk (w2.alloc (.cells #[.slice A0 n k0, .slice A1 0 k1] 29)) w.heap.size #[.slice none 0 0, .slice none 0 0] 29 := bR.alloc _
  have bN3 : Blk (w2.alloc (.cells #[.slice A0 n k0, .slice A1 0 k1] 29)) w2.heap.size #[.slice A0 n k0, .slice A1 0 k1] 29 := Blk.new _ _ _
  have HB3 : Hid (Below w.heap.size w (w2.alloc (.cells #[.slice A0 n k0, .slice A1 0 k1] 29)) ∧ w.heap.size < w1.heap.size ∧ Below w1.heap.size w1 (w2.alloc (.cells #[.slice A0 n k0, .slice A1 0 k1] 29)) ∧ Below w2.heap.size w2 (w2.alloc (.cells #[.slice A0 n k0, .slice A1 0 k1] 29)) ∧ w1.heap.size ≤ w2.heap.size) := by
    have e1 := ((Below.refl w.heap.size w).alloc (Nat.le_refl _) (.cells #[.slice none 0 0, .slice none 0 0] 29))
    have z1 := HB1.out.size
    have z2 := HB2.out.size
    simp only [World.size_alloc] at z1
    have e2 := HB1.out.mono (B' := w.heap.size) (by simp)
    exact Lib.hid ⟨((e1.trans e2).trans (HB2.out.mono (by omega))).alloc (by omega) _, by omega, HB2.out.alloc (by omega) _, (Below.refl _ _).alloc (Nat.le_refl _) _, HB2.out.size⟩
  generalize (w2.alloc (.cells #[.slice A0 n k0, .slice A1 0 k1] 29)) = w3 at *
  have d0 : w3.cell? ⟨w2.heap.size, 0, none⟩ = some (.slice A0 n k0) := bN3.cell 0 _ rfl
  have d1 : w3.cell? ⟨w2.heap.size, 1, none⟩ = some (.slice A1 0 k1) := bN3.cell 1 _ rfl
  have f0 := bR3.frozen 0
  have f1 := bR3.frozen 1
  have g0 : w3.cell? ⟨w.heap.size, 0, none⟩ = some (.slice none 0 0) := bR3.cell 0 _ rfl
  have g1 : w3.cell? ⟨w.heap.size, 1, none⟩ = some (.slice none 0 0) := bR3.cell 1 _ rfl
  have BR3 := Lib.hid bR3
  clear bR bR3 bN3 HB2 HN
  go_region_with (fail)
  go_wp2
  have hb : ((w3.setCell ⟨w.heap.size, 0, none⟩ (.slice A0 n k0)).setCell ⟨w.heap.size, 1, none⟩ (.slice A1 0 k1)).drew.heap[w.heap.size]? = some (.cells #[.slice A0 n k0, .slice A1 0 k1] 29 (0, 0)) := (BR3.out.set 0 (.slice A0 n k0)).set 1 (.slice A1 0 k1)
  refine bodyPost_ret (results_tc rfl _ _ w.heap.size 29 #[.slice A0 n k0, .slice A1 0 k1] (0, 0) _ rfl hb Tryd.underlying29 rfl (by kernel_rfl)) rfl ?_
  have hu : Upd (fun k => k = w.heap.size) w1 ((w3.setCell ⟨w.heap.size, 0, none⟩ (.slice A0 n k0)).setCell ⟨w.heap.size, 1, none⟩ (.slice A1 0 k1)).drew := (((Upd.of_below HB3.out.2.2.1 (fun k => k = w.heap.size)).setCell (p := ⟨w.heap.size, 0, none⟩) (.inl rfl) _).setCell (p := ⟨w.heap.size, 1, none⟩) (.inl rfl) _).drew
  have hF : ∀ k, FD k → w.heap.size + 1 ≤ k := fun k hk => by have := HFD.out k hk; simpa using this
  have hlt : ∀ k, FD k → k < w1.heap.size := by obtain ⟨_, _, _, _, _, _, _, _, _, _, _, h⟩ := HD.out; exact h
  have hu2 : Upd (fun k => k = w.heap.size) w2 ((w3.setCell ⟨w.heap.size, 0, none⟩ (.slice A0 n k0)).setCell ⟨w.heap.size, 1, none⟩ (.slice A1 0 k1)).drew := (((Upd.of_below HB3.out.2.2.2.1 (fun k => k = w.heap.size)).setCell (p := ⟨w.heap.size, 0, none⟩) (.inl rfl) _).setCell (p := ⟨w.heap.size, 1, none⟩) (.inl rfl) _).drew
  have h01 := HB3.out.2.1
  have h12 := HB3.out.2.2.2.2
  have r0 : Kd.R Kd.string 9 ((w3.setCell ⟨w.heap.size, 0, none⟩ (.slice A0 n k0)).setCell ⟨w.heap.size, 1, none⟩ (.slice A1 0 k1)).drew w.heap.size (fun k => w1.heap.size ≤ k ∧ k < w2.heap.size) (.slice A0 n k0) (List.replicate n ⟨#[]⟩) :=
    Kd.R_lower (Kd.R_step (Kd.R_mono (Kd.R_bound HR0.out) (fun k hk => ⟨hk.2.1, hk.2.2.1⟩)) (fun k hk hl => hu2.block k hl (fun h => by omega))) (Nat.le_of_lt h01)
  have r1 : Kd.R k80 80 ((w3.setCell ⟨w.heap.size, 0, none⟩ (.slice A0 n k0)).setCell ⟨w.heap.size, 1, none⟩ (.slice A1 0 k1)).drew w.heap.size (fun k => w1.heap.size ≤ k ∧ k < w2.heap.size) (.slice A1 0 k1) [] :=
    Kd.R_lower (Kd.R_step (Kd.R_mono (Kd.R_bound HR1.out) (fun k hk => ⟨hk.2.1, hk.2.2.1⟩)) (fun k hk hl => hu2.block k hl (fun h => by omega))) (Nat.le_of_lt h01)
  refine ⟨b, FD, .slice A0 n k0, .slice A1 0 k1, _, _, rfl, HD.out.upd hu (fun k hk h => by have := hF k hk; omega), fun k hk => by have := hF k hk; omega, r0, r1, fun k hk => ?_, ?_⟩
  · have hk : w1.heap.size ≤ k ∧ k < w2.heap.size := hk.elim id id
    exact ⟨by omega, fun h => by have := hlt k h; omega, Nat.lt_of_lt_of_le hk.2 hu2.size⟩
  · exact ((((Upd.of_below HB3.out.1 (fun _ => False)).setCell (p := ⟨w.heap.size, 0, none⟩) (.inr (Nat.le_refl _)) _).setCell (p := ⟨w.heap.size, 1, none⟩) (.inr (Nat.le_refl _)) _).drew).below_all
abbrev kRW := k80
/-- The program's disk and the reference's, side by side. -/
structure RdI (w wr : World) (b g5 g10 n : Nat) (first cnt : Int) (i : Nat) (d : DK) (FD P0 P1 : Nat → Prop) (v0 v1 : Value) : Prop where
  disk : IsDisk wr FD b d
  dur : d.dur = List.replicate n ⟨#[]⟩
  len : d.pend.length ≤ i
  sz : ∀ x ∈ d.pend, x.data.size = 512
  on : d.on = false
  recd : d.recd = []
  r0 : Kd.R Kd.string 9 wr w.heap.size P0 v0 d.dur
  r1 : Kd.R kRW 80 wr w.heap.size P1 v1 (rws d.pend)
  k10 : Blk wr g10 #[v0, v1] 29
  k5 : Blk wr g5 #[.int .i64 first, .int .i64 cnt] 24
  own : ∀ k, P0 k ∨ P1 k → w.heap.size ≤ k ∧ ¬ FD k ∧ k < wr.heap.size ∧ k ≠ g10 ∧ k ≠ g5
  fd : ∀ k, FD k → w.heap.size ≤ k ∧ k ≠ g10 ∧ k ≠ g5
  gs : g5 ≠ g10 ∧ w.heap.size ≤ g5 ∧ w.heap.size ≤ g10
  below : Below w.heap.size w wr
namespace RdI
variable {w wr w7 w8 : World} {b g5 g10 n i : Nat} {first cnt : Int} {d : DK} {FD P0 P1 F7 : Nat → Prop} {v0 v1 u0 u1 : Value}
theorem mid (h : RdI w wr b g5 g10 n first cnt i d FD P0 P1 v0 v1) (hu : Upd FD wr w7) : Below w.heap.size w w7 ∧ Kd.R Kd.string 9 w7 w.heap.size P0 v0 d.dur ∧ Kd.R kRW 80 w7 w.heap.size P1 v1 (rws d.pend) ∧
    Blk w7 g10 #[v0, v1] 29 ∧ Blk w7 g5 #[.int .i64 first, .int .i64 cnt] 24 :=
  ⟨h.below.trans (hu.below h.below.size (fun k hk => (h.fd k hk).1)), Kd.R_step h.r0 (fun k hk hl => hu.block k hl (h.own k (.inl hk)).2.1), Kd.R_step h.r1 (fun k hk hl => hu.block k hl (h.own k (.inr hk)).2.1), h.k10.upd hu (fun hf => (h.fd _ hf).2.1 rfl), h.k5.upd hu (fun hf => (h.fd _ hf).2.2 rfl)⟩
theorem more (h : RdI w wr b g5 g10 n first cnt i d FD P0 P1 v0 v1) : RdI w wr b g5 g10 n first cnt (i + 1) d FD P0 P1 v0 v1 := { h with len := Nat.le_succ_of_le h.len }
theorem write_eq (h : RdI w wr b g5 g10 n first cnt i d FD P0 P1 v0 v1) (p : Int) (s : ByteArray) : d.write p s = { d with pend := d.pend ++ [⟨p, s⟩] } := by
  unfold DK.write DK.record
  rw [if_neg (by show ¬ (d.on = true); rw [h.on]; decide)]
theorem write (h : RdI w wr b g5 g10 n first cnt i d FD P0 P1 v0 v1) (s : ByteArray) (hs : s.size = 512) (hF : ∀ k, F7 k → FD k ∨ wr.heap.size ≤ k) (hd : IsDisk w7 F7 b (d.write i s)) (hu : Upd FD wr w7)
    (q0 : Kd.R Kd.string 9 w8 w.heap.size (fun k => (P0 k ∨ P1 k) ∨ w7.heap.size ≤ k) u0 d.dur) (q1 : Kd.R kRW 80 w8 w.heap.size (fun k => (P0 k ∨ P1 k) ∨ w7.heap.size ≤ k) u1 (rws d.pend ++ [⟨i, s⟩]))
    (hb : Below w.heap.size w w8) (hk : Kept w7 w8 (fun k => P0 k ∨ P1 k)) :
    ∃ P0' P1', RdI w ((w8.setCell ⟨g10, 0, none⟩ u0).setCell ⟨g10, 1, none⟩ u1) b g5 g10 n first cnt (i + 1) (d.write i s) F7 P0' P1' u0 u1 := by
  obtain ⟨m1, m2, m3, m4, m5⟩ := h.mid hu
  have hu8 : Upd (fun k => P0 k ∨ P1 k) w7 w8 := ⟨hb.os.trans m1.os.symm, hb.tape.trans m1.tape.symm, hb.output.trans m1.output.symm, hk.1, fun k hl hn => hk.2 k hl hn⟩
  have hu9 : Upd (fun k => k = g10) w8 ((w8.setCell ⟨g10, 0, none⟩ u0).setCell ⟨g10, 1, none⟩ u1) := ((Upd.refl (fun k => k = g10) w8).setCell (p := ⟨g10, 0, none⟩) (.inl rfl) u0).setCell (p := ⟨g10, 1, none⟩) (.inl rfl) u1
  have e := h.write_eq i s
  have s7 := hu.size
  have s8 := hu8.size
  have s9 := hu9.size
  have l7 : ∀ k, F7 k → k < w7.heap.size := by obtain ⟨_, _, _, _, _, _, _, _, _, _, _, h⟩ := hd; exact h
  have l10 := h.k10.lt
  have l5 := h.k5.lt
  have f7 : ∀ k, F7 k → w.heap.size ≤ k ∧ k ≠ g10 ∧ k ≠ g5 := fun k hk => (hF k hk).elim (h.fd k) (fun hk2 => ⟨Nat.le_trans h.below.size hk2, by omega, by omega⟩)
  have n7 : ∀ k, P0 k ∨ P1 k → ¬ F7 k := fun k hk hf => (hF k hf).elim (h.own k hk).2.1 (fun h2 => by have := (h.own k hk).2.2.1; omega)
  have d8 : IsDisk w8 F7 b (d.write i s) := hd.upd hu8 (fun k hk hp => n7 k hp hk)
  have d9 := d8.upd hu9 (fun k hk hp => (f7 k hk).2.1 hp)
  have ho : ∀ k, ((P0 k ∨ P1 k) ∨ w7.heap.size ≤ k) ∧ k < w8.heap.size → w.heap.size ≤ k ∧ ¬ F7 k ∧ k < ((w8.setCell ⟨g10, 0, none⟩ u0).setCell ⟨g10, 1, none⟩ u1).heap.size ∧ k ≠ g10 ∧ k ≠ g5 := fun k hk => by
    rcases hk.1 with h1 | h1
    · obtain ⟨a1, a2, a3, a4, a5⟩ := h.own k h1
      exact ⟨a1, n7 k h1, by omega, a4, a5⟩
    · have := h.below.size
      exact ⟨by omega, fun hf => by have := l7 k hf; omega, by omega, by omega, by omega⟩
  have k10 : Blk ((w8.setCell ⟨g10, 0, none⟩ u0).setCell ⟨g10, 1, none⟩ u1) g10 #[u0, u1] 29 := by
    have h8 := m4.upd hu8 (fun hp => (h.own _ hp).2.2.2.1 rfl)
    have h9 := (h8.set 0 u0).set 1 u1
    simp only [List.setIfInBounds_toArray, List.set_cons_zero, List.set_cons_succ] at h9
    exact h9
  refine ⟨_, _, ⟨d9, by rw [e]; exact h.dur, by rw [e]; simp; exact h.len, by rw [e]; intro x hx; rcases List.mem_append.1 hx with h1 | h1; exact h.sz x h1; rw [List.mem_singleton.1 h1]; exact hs, by rw [e]; exact h.on, by rw [e]; exact h.recd,
    ?_, ?_, k10, (m5.upd hu8 (fun hp => (h.own _ hp).2.2.2.2 rfl)).upd hu9 (fun hp => h.gs.1 hp), fun k hk => ho k (hk.elim id id), f7, h.gs, hb.trans (hu9.below hb.size (fun k hk => by rw [hk]; exact h.gs.2.2))⟩⟩
  · rw [e]
    exact Kd.R_step (R_fit q0) (fun k hk hl => hu9.block k hl (fun he => (ho k hk).2.2.2.1 he))
  · rw [e]
    have : rws (d.pend ++ [⟨i, s⟩]) = rws d.pend ++ [⟨i, s⟩] := by simp [rws]
    rw [this]
    exact Kd.R_step (R_fit q1) (fun k hk hl => hu9.block k hl (fun he => (ho k hk).2.2.2.1 he))
end RdI
theorem write50_f (dur : List ByteArray) (ws : List RW) (i : Nat) (y : ByteArray) (hi : i < dur.length) (hs : y.size = 512) (hl : ws.length ≤ 1000) : modcertref50_Write.f 2 dur ws i y = some (dur, ws ++ [⟨i, y⟩], 0) := by
  unfold modcertref50_Write.f
  rw [if_neg (by omega), modcertref50_Write.j0, if_neg (by rw [decide_eq_true_eq]; omega), if_pos (by omega)]
  simp only [Option.bind_some]
  rw [if_pos (by simp; omega), if_pos (by simp; omega)]
  rfl
theorem at_all {w : World} {B : Nat} {A : Option Addr} {l : List ByteArray} {c : Nat} (h : Strs w B A l c) (i : Nat) (hi : i < l.length) :
    ∃ ad y, A = some ad ∧ y ∈ l ∧ ∀ W, Below B w W → W.cell? (ad.add i) = some (.string y) := by
  obtain ⟨ad, y, e1, hy, hc⟩ := at_Str (h.cells w (Below.refl _ _)) i (by omega) (by exact_mod_cast hi)
  rw [Int.toNat_natCast] at hy
  refine ⟨ad, y, e1, List.mem_of_getElem? hy, fun W hb => ?_⟩
  obtain ⟨ad2, y2, e2, hy2, hc2⟩ := at_Str (h.cells W hb) i (by omega) (by exact_mod_cast hi)
  rw [Int.toNat_natCast] at hy2 hc2
  rw [hy] at hy2
  injection hy2 with hy2
  rw [e1] at e2
  injection e2 with e2
  rw [e2, hy2]
  exact hc2
def RdRel (w : World) (b g5 g10 n : Nat) (first cnt : Int) (v36 : Value) (wr : World) : Prop :=
  ∃ (i : Nat) (d : DK) (FD P0 P1 : Nat → Prop) (v0 v1 : Value), v36 = .int .i64 i ∧ i ≤ n ∧ RdI w wr b g5 g10 n first cnt i d FD P0 P1 v0 v1
theorem need_f (x : Int) : ∃ r, journal_Need.f x = some r ∧ modcertref51_Need.f x = some r := by
  have e : modcertref51_Need.f x = journal_Need.f x := rfl
  rw [e]
  unfold journal_Need.f
  split
  · exact ⟨_, rfl, rfl⟩
  · split
    · exact ⟨_, rfl, rfl⟩
    · exact ⟨_, rfl, rfl⟩
set_option maxHeartbeats 4000000 in
set_option maxRecDepth 100000 in
theorem reads_any (w : World) (A : Option Addr) (l : List ByteArray) (c : Nat) (hl : Strs w w.heap.size A l c) (first cnt epoch len : Int) (hc : -9223372036854775808 ≤ cnt ∧ cnt ≤ 9223372036854775807) :
    Calls Tryd.prog 3 #[.slice A l.length c, .agg #[.int .i64 first, .int .i64 cnt], .int .i64 epoch, .int .i64 len] w fun e w' => e = .returned (.bool true) ∧ Below w.heap.size w w' := by
  have HL := Lib.hid hl
  have HC := Lib.hid hc
  clear hl hc
  go_enter Tryd.func3, Tryd.ntmps3
  go_wp2_with (fail)
  have HW0 : Hid (Below w.heap.size w (w.alloc (.cells #[.int .i64 first, .int .i64 cnt] 24))) := Lib.hid ((Below.refl _ _).alloc (Nat.le_refl _) _)
  have HG5 := Lib.hid (Blk.new w #[.int .i64 first, .int .i64 cnt] 24)
  generalize (w.alloc (.cells #[.int .i64 first, .int .i64 cnt] 24)) = w0 at *
  refine (awake_ok w0).mono ?_
  rintro e1 w1 ⟨rfl, hb1⟩
  have HB1 := Lib.hid (HW0.out.trans (hb1.mono HW0.out.size))
  have HG51 := Lib.hid (HG5.out.upd (Upd.of_below hb1 (fun _ => False)) (fun h => h))
  clear hb1 HW0 HG5
  by_cases h1 : l.length < 1
  · have q1 : decide ((l.length : Int) < 1) = true := decide_eq_true (by omega)
    go_wp2
    go_ret
    exact ⟨rfl, HB1.out⟩
  · have q1 : decide ((l.length : Int) < 1) = false := decide_eq_false (by omega)
    by_cases h12 : 12 < l.length
    · have q2 : decide (12 < (l.length : Int)) = true := decide_eq_true (by omega)
      go_wp2
      go_ret
      exact ⟨rfl, HB1.out⟩
    · have q2 : decide (12 < (l.length : Int)) = false := decide_eq_false (by omega)
      have HN := Lib.hid (show 1 ≤ l.length ∧ l.length ≤ 12 by omega)
      have HP : Hid (∀ W, Calls Tryd.prog 10 #[.int .i64 l.length] W fun e w' => ∃ b FD v0 v1 P0 P1, e = .returned (.tuple #[.pointer (some ⟨b, 0, none⟩), .agg #[v0, v1]]) ∧
        IsDisk w' FD b (dk0 l.length) ∧ (∀ k, FD k → W.heap.size ≤ k) ∧ Kd.R Kd.string 9 w' W.heap.size P0 v0 (List.replicate l.length ⟨#[]⟩) ∧ Kd.R kRW 80 w' W.heap.size P1 v1 [] ∧ (∀ k, P0 k ∨ P1 k → W.heap.size ≤ k ∧ ¬ FD k ∧ k < w'.heap.size) ∧ Below W.heap.size W w') := Lib.hid (fun W => pages_r W l.length HN.out.1 (by have := HN.out.2; omega))
      clear h1 h12
      go_wp2_with (go_at_call 10; with_reducible refine (HP.out _).mono ?_; rintro e4 w4 ⟨b, FD, v0, v1, P0, P1, rfl, hd, hF, hr0, hr1, hP, hb⟩; obtain ⟨A0, k0, rfl, _, _⟩ := Kd.R_reads hr0; obtain ⟨A1, k1, rfl, _, _⟩ := Kd.R_reads hr1; rw [List.length_replicate] at *; rw [List.length_nil] at *; have HX := Lib.hid (And.intro hd (And.intro hF (And.intro hr0 (And.intro hr1 (And.intro hP hb))))); clear hd hF hr0 hr1 hP hb)
      have HI0 : Hid (RdI w (w4.alloc (.cells #[.slice A0 l.length k0, .slice A1 0 k1] 29)) b w.heap.size w4.heap.size l.length first cnt 0 (dk0 l.length) FD P0 P1 (.slice A0 l.length k0) (.slice A1 0 k1)) := by
        obtain ⟨hd, hF, hr0, hr1, hP, hb⟩ := HX.out
        have s1 := HB1.out.size
        have s14 := hb.size
        have l5 := HG51.out.lt
        have lF : ∀ k, FD k → k < w4.heap.size := by obtain ⟨_, _, _, _, _, _, _, _, _, _, _, h⟩ := hd; exact h
        have hb5 : Below w4.heap.size w4 (w4.alloc (.cells #[.slice A0 l.length k0, .slice A1 0 k1] 29)) := (Below.refl _ _).alloc (Nat.le_refl _) _
        refine Lib.hid ⟨hd.alloc _, rfl, Nat.le_refl _, by simp [dk0], rfl, rfl, Kd.R_lower (Kd.R_below hr0 hb5) s1, Kd.R_lower (Kd.R_below hr1 hb5) s1, Blk.new _ _ _, (HG51.out.upd (Upd.of_below hb (fun _ => False)) (fun h => h)).alloc _, fun k hk => ?_, fun k hk => ?_, ⟨by omega, Nat.le_refl _, by omega⟩, (HB1.out.trans (hb.mono s1)).trans (hb5.mono (by omega))⟩
        · obtain ⟨a1, a2, a3⟩ := hP k hk
          exact ⟨by omega, a2, Nat.lt_of_lt_of_le a3 hb5.size, by omega, by omega⟩
        · have := hF k hk; have := lF k hk
          exact ⟨by omega, by omega, by omega⟩
      clear HX HB1 HG51 HP
      go_loopw [36] (fun v36 wr => RdRel w b w.heap.size w4.heap.size l.length first cnt v36 wr) (fun v36 _ => l.length - (intOf v36).toNat)
      case atStart => exact ⟨0, _, _, _, _, _, _, rfl, Nat.zero_le _, HI0.out⟩
      case round =>
        clear HI0
        generalize hg10 : w4.heap.size = g10 at *
        clear hg10
        obtain ⟨i, d, FD2, Q0, Q1, u0, u1, rfl, hi, hri⟩ := hrel
        have HI := Lib.hid hi
        have HR := Lib.hid hri
        clear hi hri
        by_cases hlt : i < l.length
        · obtain ⟨ad, y, e1, hy, hat⟩ := at_all HL.out i hlt
          subst e1
          have q3 : decide ((i : Int) < (l.length : Int)) = true := decide_eq_true (by omega)
          have q3' : decide (i < l.length) = true := decide_eq_true hlt
          have i3 : (i : Int) < (l.length : Int) := by omega
          have hcy := hat wr HR.out.below
          have HLT := Lib.hid hlt
          have hi1 : Hid (wrap64 ((i : Int) + 1) = ((i + 1 : Nat) : Int)) := Lib.hid (by have := HN.out; unfold wrap64; omega)
          have hdl : d.dur.length = l.length := by rw [HR.out.dur]; simp
          clear hlt hat
          by_cases h512 : y.size = 512
          · have HS := Lib.hid h512
            have HWO := Lib.hid (write_ok wr FD2 b d i y HR.out.disk (by omega) (by rw [hdl]; have := HLT.out; omega) h512 (by have := HR.out.len; have := HI.out; have := HN.out; omega) (by rw [HR.out.recd]; decide))
            have hwf : modcertref50_Write.f 2 d.dur (rws d.pend) i y = some (d.dur, rws d.pend ++ [⟨i, y⟩], 0) := write50_f d.dur (rws d.pend) i y (by rw [hdl]; exact HLT.out) h512 (by simp [rws]; have := HR.out.len; have := HI.out; have := HN.out; omega)
            have HRW := Lib.hid hwf
            clear h512 hwf hdl
            go_wp2_with (fail)
            refine HWO.out.mono ?_
            rintro e7 w7 ⟨rfl, F7, hF7, hd7, hu7⟩
            obtain ⟨m1, m2, m3, m4, m5⟩ := HR.out.mid hu7
            have HX7 := Lib.hid (And.intro hF7 (And.intro hd7 hu7))
            have HM := Lib.hid (And.intro m1 (And.intro m2 m3))
            have m40 : w7.cell? ⟨g10, 0, none⟩ = some u0 := m4.cell 0 _ rfl
            have m41 : w7.cell? ⟨g10, 1, none⟩ = some u1 := m4.cell 1 _ rfl
            have HM4 := Lib.hid m4
            clear hF7 hd7 hu7 m1 m2 m3 m4 m5
            go_wp2_with (fail)
            refine (modcertref50_Write.calls 2 Q0 u0 d.dur Q1 u1 (rws d.pend) i y _ _ _ w w7 HM.out.1 HM.out.2.1 HM.out.2.2 HRW.out).mono ?_
            rintro e8 w8 ⟨x0, x1, rfl, p0, p1, pb, pk⟩
            obtain ⟨B0, e0, rfl, _, _⟩ := Kd.R_reads p0
            obtain ⟨B1, e9, rfl, _, _⟩ := Kd.R_reads p1
            generalize d.dur.length = z0 at *
            generalize (rws d.pend ++ [(⟨i, y⟩ : RW)]).length = z1 at *
            have HX8 := Lib.hid (And.intro p0 (And.intro p1 (And.intro pb pk)))
            have hb8 : Blk w8 g10 #[u0, u1] 29 := (pk.2 _ HM4.out.lt (fun hq => (HR.out.own _ hq).2.2.2.1 rfl)).trans HM4.out
            have n40 : w8.cell? ⟨g10, 0, none⟩ = some u0 := hb8.cell 0 _ rfl
            have n41 : w8.cell? ⟨g10, 1, none⟩ = some u1 := hb8.cell 1 _ rfl
            have f40 := hb8.frozen 0
            have f41 := hb8.frozen 1
            clear p0 p1 pb pk hb8
            go_wp2_with (fail)
            obtain ⟨p0, p1, pb, pk⟩ := HX8.out
            obtain ⟨hF7, hd7, hu7⟩ := HX7.out
            obtain ⟨P0', P1', hri⟩ := HR.out.write y HS.out hF7 hd7 hu7 p0 p1 pb pk
            rw [hi1.out]
            exact ⟨⟨i + 1, _, _, _, _, _, _, rfl, HLT.out, hri⟩, ret_measure HLT.out⟩
          · have HWO := Lib.hid (write_size wr FD2 b d i y HR.out.disk (by omega) (by rw [hdl]; have := HLT.out; omega) h512)
            clear h512 hdl
            go_wp2_with (fail)
            refine HWO.out.mono ?_
            rintro e7 w7 ⟨rfl, rfl⟩
            go_wp2_with (fail)
            rw [hi1.out]
            exact ⟨⟨i + 1, _, _, _, _, _, _, rfl, HLT.out, HR.out.more⟩, ret_measure HLT.out⟩
        · have q3 : decide ((i : Int) < (l.length : Int)) = false := decide_eq_false (by omega)
          have q3' : decide (i < l.length) = false := decide_eq_false hlt
          clear hlt
          have m0 : wr.cell? ⟨g10, 0, none⟩ = some u0 := HR.out.k10.cell 0 _ rfl
          have m1 : wr.cell? ⟨g10, 1, none⟩ = some u1 := HR.out.k10.cell 1 _ rfl
          have m2 : wr.cell? ⟨w.heap.size, 0, none⟩ = some (.int .i64 first) := HR.out.k5.cell 0 _ rfl
          have m3 : wr.cell? ⟨w.heap.size, 1, none⟩ = some (.int .i64 cnt) := HR.out.k5.cell 1 _ rfl
          obtain ⟨D0, f0, hv0, hf0, hC0⟩ := Kd.R_reads HR.out.r0
          obtain ⟨D1, f1, hv1, hf1, hC1⟩ := Kd.R_reads HR.out.r1
          subst hv0 hv1
          have hdl : d.dur.length = l.length := by rw [HR.out.dur]; simp
          have HST : Hid (Calls Tryd.prog 13 #[.pointer (some ⟨b, 0, none⟩), .agg #[.slice D0 d.dur.length f0, .slice D1 (rws d.pend).length f1], .agg #[.int .i64 first, .int .i64 cnt], .int .i64 epoch] wr fun e w' => ∃ jv x1 x2 x3 x4 x5 A6 n6 c6, e = .returned (.tuple #[jv, .agg (kCells x1 x2 x3 x4 x5 (.slice A6 n6 c6)), .bool true]) ∧ Below wr.heap.size wr w') := by
            by_cases hv : 0 ≤ first ∧ 1 ≤ cnt ∧ first + cnt ≤ d.dur.length ∧ 0 ≤ epoch ∧ epoch < 4611686018427387904
            · obtain ⟨v1, v2, v3, v4, v5⟩ := hv
              obtain ⟨cn, rfl⟩ := Int.eq_ofNat_of_zero_le (show 0 ≤ cnt by omega)
              refine Lib.hid ((start_ok wr b d FD2 undef undef first cn epoch HR.out.disk D0 D1 f0 f1 hC0 hf0 hC1 hf1 v1 (by omega) v3 v4 v5 (by rw [hdl]; have := HN.out; omega) (by have := HR.out.len; have := HI.out; have := HN.out; omega) (fun x hx => ?_) HR.out.sz).mono ?_)
              · rw [HR.out.dur] at hx
                rw [List.eq_of_mem_replicate hx]
                exact Nat.zero_le _
              · rintro e w' ⟨jb, vk, FJ, SK, rfl, _, hr, _, _, hb⟩
                obtain ⟨A6, c6, rfl, _, _⟩ := Kd.R_reads hr
                exact ⟨_, _, _, _, _, _, _, _, _, rfl, hb⟩
            · refine Lib.hid ((start_bad wr b d FD2 undef undef first cnt epoch HR.out.disk D0 D1 f0 f1 hC0 hf0 hC1 hf1 hv HC.out (by rw [hdl]; have := HN.out; omega)).mono ?_)
              rintro e w' ⟨vk, A6, c6, rfl, rfl, hb⟩
              exact ⟨_, _, _, _, _, _, _, _, _, rfl, hb⟩
          clear hf0 hC0 hf1 hC1 hdl
          obtain ⟨nv, hn1, hn2⟩ := need_f len
          have HN1 := Lib.hid (fun W => journal_Need.calls len nv W hn1)
          have HN2 := Lib.hid (fun W => modcertref51_Need.calls len nv W hn2)
          clear hn1 hn2
          go_wp2_with (fail)
          refine HST.out.mono ?_
          rintro e9 w9 ⟨jv, x1, x2, x3, x4, x5, A6, n6, c6, rfl, hb9⟩
          have HB9 := Lib.hid (HR.out.below.trans (hb9.mono HR.out.below.size))
          unfold kCells
          clear hb9 m0 m1 m2 m3 HST
          go_wp2_with (first
            | (go_at_call 14; with_reducible refine (HN1.out _).mono ?_; rintro e10 w10 ⟨rfl, hb10⟩; have HB10 := Lib.hid hb10; clear hb10)
            | (go_at_call 15; with_reducible refine (HN2.out _).mono ?_; rintro e11 w11 ⟨rfl, hb11⟩; have HB11 := Lib.hid hb11; clear hb11))
          go_ret
          have h9 := HB9.out.size
          have hA := HB9.out.alloc h9 (.cells #[.int .i64 x1, .int .i64 x2, .int .i64 x3, .int .i64 x4, .string x5, .slice A6 n6 c6] 38)
          exact ⟨rfl, (hA.trans (HB10.out.mono hA.size)).trans (HB11.out.mono (Nat.le_trans hA.size HB10.out.size))⟩
end Go.Proofs.YtpmjipokkkkljaaDoor
