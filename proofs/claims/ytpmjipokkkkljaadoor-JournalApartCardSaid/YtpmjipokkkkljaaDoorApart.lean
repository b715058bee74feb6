/-
  The law JournalApart returns true.
-/
import Derived.Test.YtpmjipokkkkljaaDoorRet
namespace Go.Proofs.YtpmjipokkkkljaaDoor
set_option linter.all false
set_option linter.unusedVariables false
set_option linter.unusedSimpArgs false
open Go.RowKit Go.Proofs.YtpmjipokkkkljaaDoorW.PrintWords Go.Proofs.YtpmjipokkkkljaaDoorW.PrintLast Go.Proofs.YtpmjipokkkkljaaDoorW.PrintMore

/-- What image shows of a page. -/
def imgP (d : DK) (i : Nat) : ByteArray := if (d.read i).2 = 0 then (d.read i).1 else ⟨#[33]⟩
def imgL (d : DK) : List ByteArray := (List.range d.dur.length).map (imgP d)
theorem imgL_len (d : DK) : (imgL d).length = d.dur.length := by simp [imgL]
theorem imgL_succ (d : DK) (i : Nat) (hi : i < d.dur.length) : (imgL d).take (i + 1) = (imgL d).take i ++ [imgP d i] := by
  rw [List.take_succ]
  congr 1
  simp [imgL, hi]
def ImgRel (w : World) (FD : Nat → Prop) (b : Nat) (d : DK) (v3 v9 : Value) (wr : World) : Prop :=
  ∃ i : Nat, v9 = .int .i64 i ∧ i ≤ d.dur.length ∧ Kd.string.R 9 wr 0 (fun k => w.heap.size ≤ k) v3 ((imgL d).take i) ∧ IsDisk wr FD b d ∧ Below w.heap.size w wr
set_option maxHeartbeats 1000000 in
set_option maxRecDepth 100000 in
theorem image_any (w : World) (FD : Nat → Prop) (b : Nat) (d : DK) (hd : IsDisk w FD b d) (hn : d.dur.length ≤ 1000000) :
    Calls Tryd.prog 24 #[.pointer (some ⟨b, 0, none⟩)] w fun e w' => ∃ v, e = .returned v ∧ Kd.string.R 9 w' 0 (fun k => w.heap.size ≤ k) v (imgL d) ∧ Below w.heap.size w w' := by
  have HD := Lib.hid hd
  have HN := Lib.hid hn
  clear hd hn
  have HPG := Lib.hid (fun W FD d (h : IsDisk W FD b d) => pagesN W FD b d h)
  have HRD := Lib.hid (fun W FD p (h : IsDisk W FD b d) => read_any W FD b d p h)
  have hF : Hid (∀ k, FD k → k < w.heap.size) := Lib.hid (by obtain ⟨_, _, _, _, _, _, _, _, _, _, _, h⟩ := HD.out; exact h)
  go_enter Tryd.func24, Tryd.ntmps24
  go_wp2_with (go_at_call 17; with_reducible refine (HPG.out _ _ _ HD.out).mono ?_; rintro e7 w7 ⟨rfl, rfl⟩)
  go_loopw [3, 9] (fun v3 v9 wr => ImgRel w FD b d v3 v9 wr) (fun _ v9 _ => d.dur.length - (intOf v9).toNat)
  case atStart => exact ⟨0, rfl, Nat.zero_le _, Kd.R_nil _ _ _ _ _, HD.out, Below.refl _ _⟩
  case round =>
    obtain ⟨i, rfl, hi, hR, hd, hb⟩ := hrel
    have HR := Lib.hid hR; have HDr := Lib.hid hd; have HB := Lib.hid hb; have HI := Lib.hid hi
    clear hR hd hb hi
    by_cases hlt : i < d.dur.length
    · have q1 : decide ((i : Int) < (d.dur.length : Int)) = true := decide_eq_true (by omega)
      have q1' : decide (i < d.dur.length) = true := decide_eq_true hlt
      have HLT := Lib.hid hlt
      clear hlt
      have HRL : Hid ((((imgL d).take i).length + 1) * 16 ≤ 140737488355328) := Lib.hid (by have := HN.out; have := HLT.out; rw [List.length_take]; omega)
      by_cases hr : (d.read i).2 = 0
      · have q2 : ((d.read i).2 != 0) = false := by rw [hr]; rfl
        have HP : Hid (imgP d i = (d.read i).1) := Lib.hid (by unfold imgP; rw [if_pos hr])
        clear hr
        go_wp2_with (first
          | (go_at_call 43; with_reducible refine (HRD.out _ _ _ HDr.out).mono ?_; rintro e8 w8 ⟨rfl, rfl⟩)
          | (at_builtin; go_loud (refine app_list (X := wr) Kd.string rfl (.tmp 20) (.tmp 22) 22 9 (.string ⟨#[]⟩) 16 rfl Tryd.underlying22 Pr.info9 rfl (by decide) (by omega) u3 ((imgL d).take i) (d.read i).1 [.string (d.read i).1] (fun k => w.heap.size ≤ k) (by rfl) _ (by rfl) (by simp) rfl (fun k hk => Nat.le_trans HB.out.size hk) HR.out HRL.out ?_); intro v1 w10 ho hbel hg hat; have HX10 := Lib.hid (And.intro ho (And.intro hbel (And.intro hg hat))); clear ho hbel hg hat))
        obtain ⟨ho, hbel, hg, hat⟩ := HX10.out
        have hi1 : wrap64 ((i : Int) + 1) = ((i + 1 : Nat) : Int) := by have := HLT.out; have := HN.out; unfold wrap64; omega
        rw [hi1]
        refine ⟨⟨i + 1, rfl, HLT.out, ?_, ?_, ?_⟩, ret_measure HLT.out⟩
        · rw [imgL_succ d i HLT.out, HP.out]; exact ho
        · exact HDr.out.upd (Upd.app (S := fun k => w.heap.size ≤ k) (Upd.refl _ _) hg (fun k hk => .inl (HR.out.1 k hk))) (fun k hk h => by have := hF.out k hk; omega)
        · exact (Upd.app (S := fun k => w.heap.size ≤ k) (Upd.of_below (HB.out.mono (Nat.le_refl _)) _) hg (fun k hk => .inl (HR.out.1 k hk))).below (Nat.le_refl _) (fun k hk => hk)
      · have q2 : ((d.read i).2 != 0) = true := by simpa using hr
        have HP : Hid (imgP d i = ⟨#[33]⟩) := Lib.hid (by unfold imgP; rw [if_neg hr])
        clear hr
        go_wp2_with (first
          | (go_at_call 43; with_reducible refine (HRD.out _ _ _ HDr.out).mono ?_; rintro e8 w8 ⟨rfl, rfl⟩)
          | (at_builtin; go_loud (refine app_list (X := wr) Kd.string rfl (.tmp 20) (.tmp 22) 22 9 (.string ⟨#[]⟩) 16 rfl Tryd.underlying22 Pr.info9 rfl (by decide) (by omega) u3 ((imgL d).take i) ⟨#[33]⟩ [.string ⟨#[33]⟩] (fun k => w.heap.size ≤ k) (by rfl) _ (by rfl) (by simp) rfl (fun k hk => Nat.le_trans HB.out.size hk) HR.out HRL.out ?_); intro v1 w10 ho hbel hg hat; have HX10 := Lib.hid (And.intro ho (And.intro hbel (And.intro hg hat))); clear ho hbel hg hat))
        obtain ⟨ho, hbel, hg, hat⟩ := HX10.out
        have hi1 : wrap64 ((i : Int) + 1) = ((i + 1 : Nat) : Int) := by have := HLT.out; have := HN.out; unfold wrap64; omega
        rw [hi1]
        refine ⟨⟨i + 1, rfl, HLT.out, ?_, ?_, ?_⟩, ret_measure HLT.out⟩
        · rw [imgL_succ d i HLT.out, HP.out]; exact ho
        · exact HDr.out.upd (Upd.app (S := fun k => w.heap.size ≤ k) (Upd.refl _ _) hg (fun k hk => .inl (HR.out.1 k hk))) (fun k hk h => by have := hF.out k hk; omega)
        · exact (Upd.app (S := fun k => w.heap.size ≤ k) (Upd.of_below (HB.out.mono (Nat.le_refl _)) _) hg (fun k hk => .inl (HR.out.1 k hk))).below (Nat.le_refl _) (fun k hk => hk)
    · have q1 : decide ((i : Int) < (d.dur.length : Int)) = false := decide_eq_false (by omega)
      have q1' : decide (i < d.dur.length) = false := decide_eq_false hlt
      have HLT := Lib.hid hlt
      clear hlt
      go_wp2
      go_ret
      refine ⟨_, rfl, ?_, HB.out⟩
      have := HR.out
      rwa [List.take_of_length_le (by rw [imgL_len]; have := HLT.out; omega)] at this

/-- Two journals on one disk, and what each wants. -/
structure Duo (w wr : World) (b x y : Nat) (d : DK) (X Y : JD) (FD FX FY SP SQ : Nat → Prop) (vp vq : Value) : Prop where
  lx : Live wr FD FX b x d X
  ly : Live wr FD FY b y d Y
  xy : ∀ k, FX k → ¬ FY k
  wp : Kd.string.R 9 wr 0 SP vp X.recs
  wq : Kd.string.R 9 wr 0 SQ vq Y.recs
  sp : ∀ k, SP k → w.heap.size ≤ k ∧ ¬ FD k ∧ ¬ FX k ∧ ¬ FY k ∧ ¬ SQ k ∧ k < wr.heap.size
  sq : ∀ k, SQ k → w.heap.size ≤ k ∧ ¬ FD k ∧ ¬ FX k ∧ ¬ FY k ∧ k < wr.heap.size
  fd : ∀ k, FD k → w.heap.size ≤ k
  fx : ∀ k, FX k → w.heap.size ≤ k
  fy : ∀ k, FY k → w.heap.size ≤ k
  apart : X.first + X.count ≤ Y.first ∨ Y.first + Y.count ≤ X.first
  blank : ∀ q, ¬ (X.first ≤ q ∧ q < X.first + X.count) → ¬ (Y.first ≤ q ∧ q < Y.first + Y.count) → d.read q = (dk0 d.dur.length).read q
  below : Below w.heap.size w wr
namespace Duo
variable {w wr w' w7 w10 : World} {b x y : Nat} {vp vq v1 : Value} {d : DK} {X Y : JD} {FD FX FY SP SQ FD7 FX7 : Nat → Prop}
theorem swap (h : Duo w wr b x y d X Y FD FX FY SP SQ vp vq) : Duo w wr b y x d Y X FD FY FX SQ SP vq vp :=
  ⟨h.ly, h.lx, fun k a b => h.xy k b a, h.wq, h.wp, fun k hk => by obtain ⟨a, b, c, e, f⟩ := h.sq k hk; exact ⟨a, b, e, c, fun h2 => (h.sp k h2).2.2.2.2.1 hk, f⟩, fun k hk => by obtain ⟨a, b, c, e, _, f⟩ := h.sp k hk; exact ⟨a, b, e, c, f⟩,
    h.fd, h.fy, h.fx, h.apart.symm, fun q a b => h.blank q b a, h.below⟩
theorem step (h : Duo w wr b x y d X Y FD FX FY SP SQ vp vq) (hb : Below wr.heap.size wr w') : Duo w w' b x y d X Y FD FX FY SP SQ vp vq :=
  ⟨h.lx.below hb, h.ly.below hb, h.xy, Kd.R_below h.wp hb, Kd.R_below h.wq hb, fun k hk => by obtain ⟨a, b, c, e, f, g⟩ := h.sp k hk; exact ⟨a, b, c, e, f, Nat.lt_of_lt_of_le g hb.size⟩,
    fun k hk => by obtain ⟨a, b, c, e, g⟩ := h.sq k hk; exact ⟨a, b, c, e, Nat.lt_of_lt_of_le g hb.size⟩, h.fd, h.fx, h.fy, h.apart, h.blank, h.below.trans (hb.mono h.below.size)⟩
theorem app (h : Duo w wr b x y d X Y FD FX FY SP SQ vp vq) (s : ByteArray) (hfit : (needN s.size : Int) ≤ X.count - X.next) (a1 : ∀ k, FD7 k → FD k ∨ wr.heap.size ≤ k) (a2 : ∀ k, FX7 k → FX k ∨ wr.heap.size ≤ k)
    (hl : Live w7 FD7 FX7 b x (appD d X s) (appJ X s)) (hu : Upd (fun k => FD k ∨ FX k) wr w7)
    (ho : Kd.string.R 9 w10 0 (fun k => SP k ∨ w7.heap.size ≤ k) v1 (X.recs ++ [s])) (hg : w7.grownBy w10 vp.ownBlock) :
    Duo w w10 b x y (appD d X s) (appJ X s) Y FD7 FX7 FY (fun k => (SP k ∨ w7.heap.size ≤ k) ∧ k < w10.heap.size) SQ v1 vq := by
  have hown : ∀ k, vp.ownBlock = some k → SP k := h.wp.1
  have hu10 : Upd SP w7 w10 := (Upd.refl SP w7).grown hg (fun k hk => .inl (hown k hk))
  have hwr := h.below.size
  have h7 := hu.size
  have h10 := hu10.size
  have hD7 : ∀ k, FD7 k → k < w7.heap.size := by obtain ⟨_, _, _, _, _, _, _, _, _, _, _, h⟩ := hl.disk; exact h
  have hX7 : ∀ k, FX7 k → k < w7.heap.size := by obtain ⟨_, _, _, _, h⟩ := hl.jour; exact h
  have hY : ∀ k, FY k → k < wr.heap.size := by obtain ⟨_, _, _, _, h⟩ := h.ly.jour; exact h
  have hSn : ∀ k, SP k → ¬ FD7 k ∧ ¬ FX7 k := fun k hk => by
    obtain ⟨s1, s2, s3, s4, s5, s6⟩ := h.sp k hk
    exact ⟨fun h => (a1 k h).elim s2 (fun h => by omega), fun h => (a2 k h).elim s3 (fun h => by omega)⟩
  have hn := h.lx.ok.next; have hr := h.lx.ok.room; have hfi := h.lx.ok.fits; have h0 := h.lx.ok.first
  have hread := fun q => appD_read (s := s) h.lx.ok.pend (by omega : 0 ≤ X.first + X.next) (by omega) q
  have hYn : ∀ k, FY k → ¬ FD7 k ∧ ¬ FX7 k := fun k hk => ⟨fun h1 => (a1 k h1).elim (fun h2 => h.ly.dis k h2 hk) (fun h2 => by have := hY k hk; omega), fun h1 => (a2 k h1).elim (fun h2 => h.xy k h2 hk) (fun h2 => by have := hY k hk; omega)⟩
  have hSQ10 : Upd (fun k => FD k ∨ FX k ∨ SP k) wr w10 := (hu.mono (fun k hk => hk.imp id .inl)).trans (hu10) (fun k hk => .inl (.inr (.inr hk)))
  obtain ⟨rv, j1, j2, j3, j4⟩ := h.ly.jour
  have hYm : ∀ k, FY k → ¬ (FD k ∨ FX k ∨ SP k) := fun k hk hs => hs.elim (fun h2 => h.ly.dis k h2 hk) (fun hs => hs.elim (fun h2 => h.xy k h2 hk) (fun h2 => (h.sp k h2).2.2.2.1 hk))
  have hIY : IsJ w10 FY y Y := ⟨rv, j1.upd hSQ10 (hYm _ j2), j2, Kd.R_step j3 (fun k hk hl => hSQ10.block k hl (hYm k hk)), fun k hk => Nat.lt_of_lt_of_le (j4 k hk) hSQ10.size⟩
  have hLX : Live w10 FD7 FX7 b x (appD d X s) (appJ X s) := hl.upd hu10 hSn
  have hYok : JOk (appD d X s) Y := h.ly.ok.frame hl.ok.pend (appD_len d X s) (fun q hq1 hq2 => by rw [hread, if_neg (by have := h.apart; omega)])
  refine ⟨hLX, ⟨hLX.disk, hIY, hYok, hLX.dok, h.ly.dsk, fun k hk hk2 => (hYn k hk2).1 hk⟩, fun k hk hk2 => (hYn k hk2).2 hk, R_fit ho, Kd.R_step h.wq (fun k hk hl => hSQ10.block k hl (fun hs => ?_)), fun k hk => ?_, fun k hk => ?_,
    fun k hk => (a1 k hk).elim (h.fd k) (fun h => by omega), fun k hk => (a2 k hk).elim (h.fx k) (fun h => by omega), h.fy, h.apart, fun q hq1 hq2 => ?_, ?_⟩
  · obtain ⟨_, q2, q3, _, _⟩ := h.sq k hk
    exact hs.elim q2 (fun hs => hs.elim q3 (fun h2 => (h.sp k h2).2.2.2.2.1 hk))
  · rcases hk.1 with h1 | h1
    · obtain ⟨s1, s2, s3, s4, s5, s6⟩ := h.sp k h1
      exact ⟨s1, (hSn k h1).1, (hSn k h1).2, s4, s5, hk.2⟩
    · exact ⟨by omega, fun h2 => by have := hD7 k h2; omega, fun h2 => by have := hX7 k h2; omega, fun h2 => by have := hY k h2; omega, fun h2 => by have := (h.sq k h2).2.2.2.2; omega, hk.2⟩
  · obtain ⟨q1, q2, q3, q4, q5⟩ := h.sq k hk
    exact ⟨q1, fun h2 => (a1 k h2).elim q2 (fun h => by omega), fun h2 => (a2 k h2).elim q3 (fun h => by omega), q4, by omega⟩
  · have hq1 : ¬ (X.first ≤ q ∧ q < X.first + X.count) := hq1
    rw [hread, if_neg (by omega), appD_len]
    exact h.blank q hq1 hq2
  · exact h.below.trans (hSQ10.below hwr (fun k hk => hk.elim (h.fd k) (fun hk => hk.elim (h.fx k) (fun hk => (h.sp k hk).1))))
end Duo
theorem Strs.at {w : World} {B : Nat} {A : Option Addr} {l : List ByteArray} {c : Nat} (h : Strs w B A l c) (i : Nat) (hi : i < l.length) :
    ∃ ad y, A = some ad ∧ y ∈ l ∧ ∀ W, Below B w W → W.cell? (ad.add i) = some (.string y) := by
  obtain ⟨ad, y, e1, hy, hc⟩ := at_Str (h.cells w (Below.refl _ _)) i (by omega) (by exact_mod_cast hi)
  rw [Int.toNat_natCast] at hy
  refine ⟨ad, y, e1, List.mem_of_getElem? hy, fun W hb => ?_⟩
  obtain ⟨ad2, y2, e2, hy2, hc2⟩ := at_Str (h.cells W hb) i (by omega) (by exact_mod_cast hi)
  rw [Int.toNat_natCast] at hy2 hc2
  rw [hy] at hy2
  injection hy2 with hy2
  rw [e1] at e2
  injection e2 with e2
  rw [e2, hy2]
  exact hc2
def DuoRel (w : World) (b x y a bb m : Nat) (v17 v18 v84 : Value) (wr : World) : Prop :=
  ∃ (i : Nat) (d : DK) (X Y : JD) (FD FX FY SP SQ : Nat → Prop), v84 = .int .i64 i ∧ i ≤ m ∧ (X.first = 0 ∧ X.count = a ∧ X.epoch = 1) ∧ (Y.first = a + 1 ∧ Y.count = bb ∧ Y.epoch = 1) ∧ d.dur.length = a + bb + 2 ∧ Duo w wr b x y d X Y FD FX FY SP SQ v17 v18
def DuoMid (w : World) (b x y a bb : Nat) (v18 v17 : Value) (wr : World) : Prop :=
  ∃ (d : DK) (X Y : JD) (FD FX FY SP SQ : Nat → Prop), (X.first = 0 ∧ X.count = a ∧ X.epoch = 1) ∧ (Y.first = a + 1 ∧ Y.count = bb ∧ Y.epoch = 1) ∧ d.dur.length = a + bb + 2 ∧ Duo w wr b x y d X Y FD FX FY SP SQ v17 v18
theorem dk0_read (n : Nat) (q : Int) (h0 : 0 ≤ q) (h1 : q < n) : (dk0 n).read q = (⟨#[]⟩, 0) := by
  rw [read_synced rfl]
  unfold readD
  rw [dk0_len, if_pos ⟨h0, h1⟩]
  have : ((dk0 n).dur[q.toNat]?).getD (⟨#[]⟩ : ByteArray) = (⟨#[]⟩ : ByteArray) := by
    unfold dk0
    rw [List.getElem?_replicate]
    split <;> rfl
  rw [this]
  have e : (({ data := #[] } : ByteArray).toList == [33]) = false := by decide +kernel
  rw [e]; rfl
set_option maxHeartbeats 4000000 in
set_option maxRecDepth 100000 in
theorem apart_any (n1 n2 : Nat) (hn1 : n1 ≤ 255) (hn2 : n2 ≤ 255) (w : World) (A : Option Addr) (l : List ByteArray) (c : Nat) (hl : Strs w w.heap.size A l c) (A2 : Option Addr) (more : List ByteArray) (c2 : Nat) (hm : Strs w w.heap.size A2 more c2) :
    Calls Tryd.prog 6 #[.int .u8 n1, .int .u8 n2, .slice A l.length c, .slice A2 more.length c2] w fun e w' => e = .returned (.bool true) ∧ Below w.heap.size w w' := by
  have c1 : IntKind.i64.wrap (n1 : Int) = n1 := IntWalk.i64_in _ ⟨by omega, by omega⟩
  have c3 : IntKind.i64.wrap (n2 : Int) = n2 := IntWalk.i64_in _ ⟨by omega, by omega⟩
  have HM := Lib.hid hm
  obtain ⟨a, ha⟩ : ∃ a : Nat, (a : Int) = 1 + (n1 : Int) % 6 := ⟨1 + n1 % 6, by omega⟩
  obtain ⟨bb, hbb⟩ : ∃ bb : Nat, (bb : Int) = 1 + (n2 : Int) % 6 := ⟨1 + n2 % 6, by omega⟩
  have hm1 : (1 ≤ a ∧ a ≤ 6) ∧ (1 ≤ bb ∧ bb ≤ 6) := by omega
  have HP : Hid (∀ W, Calls Tryd.prog 10 #[.int .i64 (1 + (n1 : Int) % 6 + (1 + (n2 : Int) % 6) + 2)] W fun e w' => ∃ b FD A0 m0 c0 A1 m1 c1, e = .returned (.tuple #[.pointer (some ⟨b, 0, none⟩), .agg #[.slice A0 m0 c0, .slice A1 m1 c1]]) ∧
    IsDisk w' FD b (dk0 (a + bb + 2)) ∧ (∀ k, FD k → W.heap.size ≤ k) ∧ Below W.heap.size W w') := Lib.hid (fun W => by rw [← ha, ← hbb, show (a : Int) + bb + 2 = ((a + bb + 2 : Nat) : Int) by push_cast; omega]; exact pages_ok W (a + bb + 2) (by omega) (by omega))
  have HM1 := Lib.hid hm1
  have HA := Lib.hid (And.intro ha hbb)
  have HL := Lib.hid hl
  clear hm ha hbb hm1 hl hn1 hn2
  go_enter Tryd.func6, Tryd.ntmps6
  go_wp2_with (go_at_call 9; refine (awake_ok _).mono ?_; rintro e w1 ⟨rfl, hb⟩; have HB1 := Lib.hid hb; clear hb)
  refine (few_any l A c w1 (HL.out.cells _ HB1.out) HL.out.cap HL.out.len HL.out.small).mono ?_
  rintro e2 w2 ⟨r, rfl, hd, hfew⟩
  have HB2 := Lib.hid (HB1.out.trans ((Upd.of_drawn hd (fun _ => False)).below HB1.out.size (fun _ h => h.elim)))
  clear hd HB1
  cases r with
  | false =>
    clear hfew
    go_wp2
    go_ret
    exact ⟨rfl, HB2.out⟩
  | true =>
    obtain ⟨h16, hs6⟩ := hfew rfl
    have H16 := Lib.hid (And.intro h16 hs6)
    clear hfew h16 hs6
    go_wp2_with (fail)
    refine (few_any more A2 c2 w2 (HM.out.cells _ HB2.out) HM.out.cap HM.out.len HM.out.small).mono ?_
    rintro e3 w3 ⟨r, rfl, hd, hfew⟩
    have HB3 := Lib.hid (HB2.out.trans ((Upd.of_drawn hd (fun _ => False)).below HB2.out.size (fun _ h => h.elim)))
    clear hd HB2
    cases r with
    | false =>
      clear hfew
      go_wp2
      go_ret
      exact ⟨rfl, HB3.out⟩
    | true =>
      obtain ⟨h16, hs6⟩ := hfew rfl
      have H17 := Lib.hid (And.intro h16 hs6)
      clear hfew h16 hs6
      go_wp2_with (go_at_call 10; with_reducible refine (HP.out _).mono ?_; rintro e4 w4 ⟨b, FD, A0, m0, k0, A1, m1, k1, rfl, hd, hF, hb⟩; have HD := Lib.hid hd; have HF := Lib.hid hF; have HB4 := Lib.hid hb; clear hd hF hb)
      rw [← HA.out.1, ← HA.out.2]
      have HD5 := Lib.hid (HD.out.alloc (.cells #[.slice A0 m0 k0, .slice A1 m1 k1] 29))
      have HB5 : Hid (Below w.heap.size w (w4.alloc (.cells #[.slice A0 m0 k0, .slice A1 m1 k1] 29))) := Lib.hid (((HB3.out.trans (HB4.out.mono HB3.out.size))).alloc (Nat.le_trans HB3.out.size HB4.out.size) _)
      have HF5 : Hid (∀ k, FD k → w.heap.size ≤ k) := Lib.hid (fun k hk => Nat.le_trans HB3.out.size (HF.out k hk))
      clear HD HB4 HF HB3 HP
      generalize (w4.alloc (.cells #[.slice A0 m0 k0, .slice A1 m1 k1] 29)) = w5 at *
      generalize w4.heap.size = q4 at *
      have HDN := Lib.hid (dk0_ok (a + bb + 2) (by have := HM1.out; omega))
      have HJX : Hid (JOk (dk0 (a + bb + 2)) ⟨b, 0, a, 1, [], 0, chain0 1⟩) := Lib.hid (JOk.new rfl (by decide) (by have := HM1.out; omega) (by rw [dk0_len]; omega) (fun q _ _ => dk0_bad _ 1 q))
      have HJY : Hid (JOk (dk0 (a + bb + 2)) ⟨b, a + 1, bb, 1, [], 0, chain0 1⟩) := Lib.hid (JOk.new rfl (by omega) (by have := HM1.out; omega) (by rw [dk0_len]; omega) (fun q _ _ => dk0_bad _ 1 q))
      have HOX : Hid (∀ W FD d J, IsDisk W FD b d → DOk d → JOk d J → J.dsk = b → J.first = 0 → J.count = a → J.epoch = 1 → Calls Tryd.prog 18 #[.pointer (some ⟨b, 0, none⟩), .agg #[.int .i64 0, .int .i64 a], .int .i64 1] W fun e' w' => ∃ jb FJ, e' = .returned (.tuple #[.pointer (some ⟨jb, 0, none⟩), .int .i64 0]) ∧ (∀ k, FJ k → W.heap.size ≤ k) ∧
        Live w' FD FJ b jb d J ∧ Below W.heap.size W w') := Lib.hid (fun W FD d J h1 h2 h3 h4 h5 h6 h7 => live_open h1 h2 (by have := HM1.out; omega) (by omega) (by omega) h3 h4 h5 h6 h7)
      have HOY : Hid (∀ W FD d J, IsDisk W FD b d → DOk d → JOk d J → J.dsk = b → J.first = a + 1 → J.count = bb → J.epoch = 1 → Calls Tryd.prog 18 #[.pointer (some ⟨b, 0, none⟩), .agg #[.int .i64 ((a : Int) + 1), .int .i64 bb], .int .i64 1] W fun e' w' => ∃ jb FJ, e' = .returned (.tuple #[.pointer (some ⟨jb, 0, none⟩), .int .i64 0]) ∧ (∀ k, FJ k → W.heap.size ≤ k) ∧
        Live w' FD FJ b jb d J ∧ Below W.heap.size W w') := Lib.hid (fun W FD d J h1 h2 h3 h4 h5 h6 h7 => live_open h1 h2 (by have := HM1.out; omega) (by omega) (by omega) h3 h4 h5 h6 h7)
      have e1 : IntKind.i64.wrap ((a : Int) + 1) = (a : Int) + 1 := IntWalk.i64_in _ ⟨by omega, by have := HM1.out; omega⟩
      refine (HOX.out _ _ _ _ HD5.out HDN.out HJX.out rfl rfl rfl rfl).mono ?_
      rintro e6 w6 ⟨x, FX, rfl, hFX, hLX, hb6⟩
      have HLX := Lib.hid hLX; have HFX := Lib.hid hFX; have HB6 := Lib.hid hb6
      clear hLX hFX hb6
      go_wp2_with (fail)
      refine (HOY.out _ _ _ _ HLX.out.disk HDN.out HJY.out rfl rfl rfl rfl).mono ?_
      rintro e7 w7 ⟨y, FY, rfl, hFY, hLY, hb7⟩
      have HDUO : Hid (Duo w w7 b x y (dk0 (a + bb + 2)) ⟨b, 0, a, 1, [], 0, chain0 1⟩ ⟨b, a + 1, bb, 1, [], 0, chain0 1⟩ FD FX FY (fun _ => False) (fun _ => False) (.slice none 0 0) (.slice none 0 0)) := by
        have hX : ∀ k, FX k → k < w6.heap.size := by obtain ⟨_, _, _, _, h⟩ := HLX.out.jour; exact h
        have s5 := HB5.out.size; have s6 := HB6.out.size
        exact Lib.hid ⟨HLX.out.below hb7, hLY, fun k h1 h2 => by have := hX k h1; have := hFY k h2; omega, Kd.R_nil _ _ _ _ _, Kd.R_nil _ _ _ _ _, fun _ h => h.elim, fun _ h => h.elim, HF5.out, fun k hk => by have := HFX.out k hk; omega, fun k hk => by have := hFY k hk; omega,
          .inl (by show (0 : Int) + a ≤ a + 1; omega), fun q _ _ => by rw [dk0_len], (HB5.out.trans (HB6.out.mono s5)).trans (hb7.mono (Nat.le_trans s5 s6))⟩
      clear HLX HFX HB6 hFY hLY hb7 HB5 HD5 HF5 HJX HJY HDN
      go_wp2
      obtain ⟨N, hN, hNl⟩ : ∃ N : Nat, max (l.length : Int) (more.length : Int) = N ∧ N ≤ 16 := ⟨max l.length more.length, by omega, by have := H16.out.1; have := H17.out.1; omega⟩
      rw [hN]
      have HN := Lib.hid (And.intro hN hNl)
      clear hN hNl
      go_loopw [17, 18, 84] (fun v17 v18 v84 wr => DuoRel w b x y a bb N v17 v18 v84 wr) (fun _ _ v84 _ => N - (intOf v84).toNat)
      case atStart =>
        exact ⟨0, _, _, _, _, _, _, _, _, rfl, Nat.zero_le _, ⟨rfl, rfl, rfl⟩, ⟨rfl, rfl, rfl⟩, dk0_len _, HDUO.out⟩
      case round =>
        obtain ⟨i, d, X, Y, FD', FX', FY', SP, SQ, rfl, hi, hX, hY, hlen, hduo⟩ := hrel
        have HI := Lib.hid hi; have HXN := Lib.hid hX; have HYN := Lib.hid hY; have HLEN := Lib.hid hlen; have HD := Lib.hid hduo
        clear hi hX hY hlen hduo HDUO
        by_cases hlt : i < N
        · have q1 : decide ((i : Int) < (N : Int)) = true := decide_eq_true (by omega)
          have q1' : decide (i < N) = true := decide_eq_true hlt
          have HLT := Lib.hid hlt
          clear hlt
          -- ARMS
          by_cases hlt1 : i < l.length
          · obtain ⟨ad1, y1, e1, hy1, hat1⟩ := HL.out.at i hlt1
            have hcy1 := hat1 _ HD.out.below
            have HAT1 := Lib.hid hat1
            have q1 : decide ((i : Int) < (l.length : Int)) = true := decide_eq_true (by omega)
            have q1' : decide (i < l.length) = true := decide_eq_true hlt1
            have hgt1 : (i : Int) < (l.length : Int) := by omega
            have HY1 : Hid (y1.size ≤ 6000) := Lib.hid (H16.out.2 y1 hy1)
            clear hlt1 hy1 hat1
            subst e1
            by_cases hfit1 : (needN y1.size : Int) ≤ X.count - X.next
            · have HFIT1 := Lib.hid hfit1
              clear hfit1
              have HRL1 : Hid ((X.recs.length + 1) * 16 ≤ 140737488355328) := Lib.hid (by have h1 := HD.out.lx.ok.recs_le; have h2 := HD.out.lx.ok.room; have h3 := HM1.out; have h4 := HXN.out.2.1; omega)
              have HAP1 := Lib.hid (live_append y1 HD.out.lx (by have := HY1.out; omega) HFIT1.out)
              go_upto_region 19 with (first
                | (go_at_call 19; with_reducible refine HAP1.out.mono ?_; rintro e7 wa1 ⟨rfl, FD1, FJ1, a1, a2, hl7, hu7⟩; have HX1 := Lib.hid (And.intro a1 (And.intro a2 (And.intro hl7 hu7))); have HR1 : Hid (Kd.string.R 9 wa1 0 (fun k => SP k ∨ wa1.heap.size ≤ k) u17 X.recs) := Lib.hid (Kd.R_mono (Kd.R_step HD.out.wp (fun k hk hl => hu7.block k hl (fun h => h.elim (HD.out.sp k hk).2.1 (HD.out.sp k hk).2.2.1))) (fun k hk => .inl hk)); have hcy1 := HAT1.out wa1 (HD.out.below.trans (hu7.below HD.out.below.size (fun k h => h.elim (HD.out.fd k) (HD.out.fx k)))); clear a1 a2 hl7 hu7)
                | (at_builtin; go_loud (refine app_list (X := wa1) Kd.string rfl (.tmp 100) (.tmp 105) 22 9 (.string ⟨#[]⟩) 16 rfl Tryd.underlying22 Pr.info9 rfl (by decide) (by omega) u17 X.recs y1 [.string y1] (fun k => SP k ∨ wa1.heap.size ≤ k) (by rfl) _ (by rfl) (by simp) rfl (fun k hk => .inr hk) HR1.out HRL1.out ?_); intro va1 wb1 ho hbel hg hat; have HG1 := Lib.hid (And.intro ho hg); clear ho hbel hg hat))
              have HE1 := Lib.hid (HD.out.app y1 HFIT1.out HX1.out.1 HX1.out.2.1 HX1.out.2.2.1 HX1.out.2.2.2 HG1.out.1 HG1.out.2)
              by_cases hlt2 : i < more.length
              · obtain ⟨ad2, y2, e2, hy2, hat2⟩ := HM.out.at i hlt2
                have hcy2 := hat2 _ HE1.out.below
                have HAT2 := Lib.hid hat2
                have q2 : decide ((i : Int) < (more.length : Int)) = true := decide_eq_true (by omega)
                have q2' : decide (i < more.length) = true := decide_eq_true hlt2
                have hgt2 : (i : Int) < (more.length : Int) := by omega
                have HY2 : Hid (y2.size ≤ 6000) := Lib.hid (H17.out.2 y2 hy2)
                clear hlt2 hy2 hat2
                subst e2
                by_cases hfit2 : (needN y2.size : Int) ≤ Y.count - Y.next
                · have HFIT2 := Lib.hid hfit2
                  clear hfit2
                  have HRL2 : Hid ((Y.recs.length + 1) * 16 ≤ 140737488355328) := Lib.hid (by have h1 := HE1.out.ly.ok.recs_le; have h2 := HE1.out.ly.ok.room; have h3 := HM1.out; have h4 := HYN.out.2.1; omega)
                  have HAP2 := Lib.hid (live_append y2 HE1.out.ly (by have := HY2.out; omega) HFIT2.out)
                  go_wp2_with (first
                    | (go_at_call 19; with_reducible refine HAP2.out.mono ?_; rintro e7 wa2 ⟨rfl, FD2, FJ2, a1, a2, hl7, hu7⟩; have HX2 := Lib.hid (And.intro a1 (And.intro a2 (And.intro hl7 hu7))); have HR2 : Hid (Kd.string.R 9 wa2 0 (fun k => SQ k ∨ wa2.heap.size ≤ k) u18 Y.recs) := Lib.hid (Kd.R_mono (Kd.R_step HE1.out.wq (fun k hk hl => hu7.block k hl (fun h => h.elim (HE1.out.sq k hk).2.1 (HE1.out.sq k hk).2.2.2.1))) (fun k hk => .inl hk)); have hcy2 := HAT2.out wa2 (HE1.out.below.trans (hu7.below HE1.out.below.size (fun k h => h.elim (HE1.out.fd k) (HE1.out.fy k)))); clear a1 a2 hl7 hu7)
                    | (at_builtin; go_loud (refine app_list (X := wa2) Kd.string rfl (.tmp 120) (.tmp 125) 22 9 (.string ⟨#[]⟩) 16 rfl Tryd.underlying22 Pr.info9 rfl (by decide) (by omega) u18 Y.recs y2 [.string y2] (fun k => SQ k ∨ wa2.heap.size ≤ k) (by rfl) _ (by rfl) (by simp) rfl (fun k hk => .inr hk) HR2.out HRL2.out ?_); intro va2 wb2 ho hbel hg hat; have HG2 := Lib.hid (And.intro ho hg); clear ho hbel hg hat))
                  have HE2 := Lib.hid ((HE1.out.swap.app y2 HFIT2.out HX2.out.1 HX2.out.2.1 HX2.out.2.2.1 HX2.out.2.2.2 HG2.out.1 HG2.out.2).swap)
                  have hi1 : wrap64 ((i : Int) + 1) = ((i + 1 : Nat) : Int) := by have := HLT.out; have := HN.out.2; unfold wrap64; omega
                  rw [hi1]
                  exact ⟨⟨i + 1, _, _, _, _, _, _, _, _, rfl, HLT.out, by exact HXN.out, by exact HYN.out, by exact (appD_len _ _ _).trans ((appD_len _ _ _).trans HLEN.out), HE2.out⟩, ret_measure HLT.out⟩

                · have HFIT2 := Lib.hid hfit2
                  clear hfit2
                  have HAP2 := Lib.hid (live_full y2 HE1.out.ly (by have := HY2.out; omega) (by have := HFIT2.out; omega))
                  go_wp2_with (go_at_call 19; with_reducible refine HAP2.out.mono ?_; rintro e7 wa2 ⟨rfl, hq⟩; have HE2 := Lib.hid (HE1.out.step (Upd.of_drawn hq (fun _ => False)).below_all); clear hq)
                  have hi1 : wrap64 ((i : Int) + 1) = ((i + 1 : Nat) : Int) := by have := HLT.out; have := HN.out.2; unfold wrap64; omega
                  rw [hi1]
                  exact ⟨⟨i + 1, _, _, _, _, _, _, _, _, rfl, HLT.out, by exact HXN.out, by exact HYN.out, by exact ((appD_len _ _ _).trans HLEN.out), HE2.out⟩, ret_measure HLT.out⟩

              · have q2 : decide ((i : Int) < (more.length : Int)) = false := decide_eq_false (by omega)
                have q2' : decide (i < more.length) = false := decide_eq_false hlt2
                clear hlt2
                go_wp2
                have hi1 : wrap64 ((i : Int) + 1) = ((i + 1 : Nat) : Int) := by have := HLT.out; have := HN.out.2; unfold wrap64; omega
                rw [hi1]
                exact ⟨⟨i + 1, _, _, _, _, _, _, _, _, rfl, HLT.out, by exact HXN.out, by exact HYN.out, by exact ((appD_len _ _ _).trans HLEN.out), HE1.out⟩, ret_measure HLT.out⟩

            · have HFIT1 := Lib.hid hfit1
              clear hfit1
              have HAP1 := Lib.hid (live_full y1 HD.out.lx (by have := HY1.out; omega) (by have := HFIT1.out; omega))
              go_upto_region 19 with (go_at_call 19; with_reducible refine HAP1.out.mono ?_; rintro e7 wa1 ⟨rfl, hq⟩; have HE1 := Lib.hid (HD.out.step (Upd.of_drawn hq (fun _ => False)).below_all); clear hq)
              by_cases hlt2 : i < more.length
              · obtain ⟨ad2, y2, e2, hy2, hat2⟩ := HM.out.at i hlt2
                have hcy2 := hat2 _ HE1.out.below
                have HAT2 := Lib.hid hat2
                have q2 : decide ((i : Int) < (more.length : Int)) = true := decide_eq_true (by omega)
                have q2' : decide (i < more.length) = true := decide_eq_true hlt2
                have hgt2 : (i : Int) < (more.length : Int) := by omega
                have HY2 : Hid (y2.size ≤ 6000) := Lib.hid (H17.out.2 y2 hy2)
                clear hlt2 hy2 hat2
                subst e2
                by_cases hfit2 : (needN y2.size : Int) ≤ Y.count - Y.next
                · have HFIT2 := Lib.hid hfit2
                  clear hfit2
                  have HRL2 : Hid ((Y.recs.length + 1) * 16 ≤ 140737488355328) := Lib.hid (by have h1 := HE1.out.ly.ok.recs_le; have h2 := HE1.out.ly.ok.room; have h3 := HM1.out; have h4 := HYN.out.2.1; omega)
                  have HAP2 := Lib.hid (live_append y2 HE1.out.ly (by have := HY2.out; omega) HFIT2.out)
                  go_wp2_with (first
                    | (go_at_call 19; with_reducible refine HAP2.out.mono ?_; rintro e7 wa2 ⟨rfl, FD2, FJ2, a1, a2, hl7, hu7⟩; have HX2 := Lib.hid (And.intro a1 (And.intro a2 (And.intro hl7 hu7))); have HR2 : Hid (Kd.string.R 9 wa2 0 (fun k => SQ k ∨ wa2.heap.size ≤ k) u18 Y.recs) := Lib.hid (Kd.R_mono (Kd.R_step HE1.out.wq (fun k hk hl => hu7.block k hl (fun h => h.elim (HE1.out.sq k hk).2.1 (HE1.out.sq k hk).2.2.2.1))) (fun k hk => .inl hk)); have hcy2 := HAT2.out wa2 (HE1.out.below.trans (hu7.below HE1.out.below.size (fun k h => h.elim (HE1.out.fd k) (HE1.out.fy k)))); clear a1 a2 hl7 hu7)
                    | (at_builtin; go_loud (refine app_list (X := wa2) Kd.string rfl (.tmp 120) (.tmp 125) 22 9 (.string ⟨#[]⟩) 16 rfl Tryd.underlying22 Pr.info9 rfl (by decide) (by omega) u18 Y.recs y2 [.string y2] (fun k => SQ k ∨ wa2.heap.size ≤ k) (by rfl) _ (by rfl) (by simp) rfl (fun k hk => .inr hk) HR2.out HRL2.out ?_); intro va2 wb2 ho hbel hg hat; have HG2 := Lib.hid (And.intro ho hg); clear ho hbel hg hat))
                  have HE2 := Lib.hid ((HE1.out.swap.app y2 HFIT2.out HX2.out.1 HX2.out.2.1 HX2.out.2.2.1 HX2.out.2.2.2 HG2.out.1 HG2.out.2).swap)
                  have hi1 : wrap64 ((i : Int) + 1) = ((i + 1 : Nat) : Int) := by have := HLT.out; have := HN.out.2; unfold wrap64; omega
                  rw [hi1]
                  exact ⟨⟨i + 1, _, _, _, _, _, _, _, _, rfl, HLT.out, by exact HXN.out, by exact HYN.out, by exact (appD_len _ _ _).trans HLEN.out, HE2.out⟩, ret_measure HLT.out⟩

                · have HFIT2 := Lib.hid hfit2
                  clear hfit2
                  have HAP2 := Lib.hid (live_full y2 HE1.out.ly (by have := HY2.out; omega) (by have := HFIT2.out; omega))
                  go_wp2_with (go_at_call 19; with_reducible refine HAP2.out.mono ?_; rintro e7 wa2 ⟨rfl, hq⟩; have HE2 := Lib.hid (HE1.out.step (Upd.of_drawn hq (fun _ => False)).below_all); clear hq)
                  have hi1 : wrap64 ((i : Int) + 1) = ((i + 1 : Nat) : Int) := by have := HLT.out; have := HN.out.2; unfold wrap64; omega
                  rw [hi1]
                  exact ⟨⟨i + 1, _, _, _, _, _, _, _, _, rfl, HLT.out, by exact HXN.out, by exact HYN.out, by exact HLEN.out, HE2.out⟩, ret_measure HLT.out⟩

              · have q2 : decide ((i : Int) < (more.length : Int)) = false := decide_eq_false (by omega)
                have q2' : decide (i < more.length) = false := decide_eq_false hlt2
                clear hlt2
                go_wp2
                have hi1 : wrap64 ((i : Int) + 1) = ((i + 1 : Nat) : Int) := by have := HLT.out; have := HN.out.2; unfold wrap64; omega
                rw [hi1]
                exact ⟨⟨i + 1, _, _, _, _, _, _, _, _, rfl, HLT.out, by exact HXN.out, by exact HYN.out, by exact HLEN.out, HE1.out⟩, ret_measure HLT.out⟩

          · have q1 : decide ((i : Int) < (l.length : Int)) = false := decide_eq_false (by omega)
            have q1' : decide (i < l.length) = false := decide_eq_false hlt1
            clear hlt1
            go_upto_region 19 with (fail)
            have HE1 := HD
            by_cases hlt2 : i < more.length
            · obtain ⟨ad2, y2, e2, hy2, hat2⟩ := HM.out.at i hlt2
              have hcy2 := hat2 _ HE1.out.below
              have HAT2 := Lib.hid hat2
              have q2 : decide ((i : Int) < (more.length : Int)) = true := decide_eq_true (by omega)
              have q2' : decide (i < more.length) = true := decide_eq_true hlt2
              have hgt2 : (i : Int) < (more.length : Int) := by omega
              have HY2 : Hid (y2.size ≤ 6000) := Lib.hid (H17.out.2 y2 hy2)
              clear hlt2 hy2 hat2
              subst e2
              by_cases hfit2 : (needN y2.size : Int) ≤ Y.count - Y.next
              · have HFIT2 := Lib.hid hfit2
                clear hfit2
                have HRL2 : Hid ((Y.recs.length + 1) * 16 ≤ 140737488355328) := Lib.hid (by have h1 := HE1.out.ly.ok.recs_le; have h2 := HE1.out.ly.ok.room; have h3 := HM1.out; have h4 := HYN.out.2.1; omega)
                have HAP2 := Lib.hid (live_append y2 HE1.out.ly (by have := HY2.out; omega) HFIT2.out)
                go_wp2_with (first
                  | (go_at_call 19; with_reducible refine HAP2.out.mono ?_; rintro e7 wa2 ⟨rfl, FD2, FJ2, a1, a2, hl7, hu7⟩; have HX2 := Lib.hid (And.intro a1 (And.intro a2 (And.intro hl7 hu7))); have HR2 : Hid (Kd.string.R 9 wa2 0 (fun k => SQ k ∨ wa2.heap.size ≤ k) u18 Y.recs) := Lib.hid (Kd.R_mono (Kd.R_step HE1.out.wq (fun k hk hl => hu7.block k hl (fun h => h.elim (HE1.out.sq k hk).2.1 (HE1.out.sq k hk).2.2.2.1))) (fun k hk => .inl hk)); have hcy2 := HAT2.out wa2 (HE1.out.below.trans (hu7.below HE1.out.below.size (fun k h => h.elim (HE1.out.fd k) (HE1.out.fy k)))); clear a1 a2 hl7 hu7)
                  | (at_builtin; go_loud (refine app_list (X := wa2) Kd.string rfl (.tmp 120) (.tmp 125) 22 9 (.string ⟨#[]⟩) 16 rfl Tryd.underlying22 Pr.info9 rfl (by decide) (by omega) u18 Y.recs y2 [.string y2] (fun k => SQ k ∨ wa2.heap.size ≤ k) (by rfl) _ (by rfl) (by simp) rfl (fun k hk => .inr hk) HR2.out HRL2.out ?_); intro va2 wb2 ho hbel hg hat; have HG2 := Lib.hid (And.intro ho hg); clear ho hbel hg hat))
                have HE2 := Lib.hid ((HE1.out.swap.app y2 HFIT2.out HX2.out.1 HX2.out.2.1 HX2.out.2.2.1 HX2.out.2.2.2 HG2.out.1 HG2.out.2).swap)
                have hi1 : wrap64 ((i : Int) + 1) = ((i + 1 : Nat) : Int) := by have := HLT.out; have := HN.out.2; unfold wrap64; omega
                rw [hi1]
                exact ⟨⟨i + 1, _, _, _, _, _, _, _, _, rfl, HLT.out, by exact HXN.out, by exact HYN.out, by exact (appD_len _ _ _).trans HLEN.out, HE2.out⟩, ret_measure HLT.out⟩

              · have HFIT2 := Lib.hid hfit2
                clear hfit2
                have HAP2 := Lib.hid (live_full y2 HE1.out.ly (by have := HY2.out; omega) (by have := HFIT2.out; omega))
                go_wp2_with (go_at_call 19; with_reducible refine HAP2.out.mono ?_; rintro e7 wa2 ⟨rfl, hq⟩; have HE2 := Lib.hid (HE1.out.step (Upd.of_drawn hq (fun _ => False)).below_all); clear hq)
                have hi1 : wrap64 ((i : Int) + 1) = ((i + 1 : Nat) : Int) := by have := HLT.out; have := HN.out.2; unfold wrap64; omega
                rw [hi1]
                exact ⟨⟨i + 1, _, _, _, _, _, _, _, _, rfl, HLT.out, by exact HXN.out, by exact HYN.out, by exact HLEN.out, HE2.out⟩, ret_measure HLT.out⟩

            · have q2 : decide ((i : Int) < (more.length : Int)) = false := decide_eq_false (by omega)
              have q2' : decide (i < more.length) = false := decide_eq_false hlt2
              clear hlt2
              go_wp2
              have hi1 : wrap64 ((i : Int) + 1) = ((i + 1 : Nat) : Int) := by have := HLT.out; have := HN.out.2; unfold wrap64; omega
              rw [hi1]
              exact ⟨⟨i + 1, _, _, _, _, _, _, _, _, rfl, HLT.out, by exact HXN.out, by exact HYN.out, by exact HLEN.out, HE1.out⟩, ret_measure HLT.out⟩

          -- END ARMS
        · have q1 : decide ((i : Int) < (N : Int)) = false := decide_eq_false (by omega)
          have q1' : decide (i < N) = false := decide_eq_false hlt
          clear hlt
          have HIM : Hid (∀ W, IsDisk W FD' b d → Calls Tryd.prog 24 #[.pointer (some ⟨b, 0, none⟩)] W fun e w' => ∃ v, e = .returned v ∧ Kd.string.R 9 w' 0 (fun k => W.heap.size ≤ k) v (imgL d) ∧ Below W.heap.size W w') := Lib.hid (fun W h => image_any W FD' b d h (by have := HLEN.out; have := HM1.out; omega))
          go_wp2_with (fail)
          refine (HIM.out _ HD.out.lx.disk).mono ?_
          rintro e8 w8 ⟨v8, rfl, hr8, hb8⟩
          have HD8 := Lib.hid (HD.out.step hb8)
          obtain ⟨A8, c8, rfl, _, hC8⟩ := Kd.R_reads hr8
          have himg : ∀ k : Nat, (k = a ∨ k = a + bb + 1) → imgP d k = ⟨#[]⟩ := fun k hk => by
            have hb := HD8.out.blank (k : Int) (by have := HXN.out; have := HM1.out; omega) (by have := HYN.out; have := HM1.out; omega)
            rw [dk0_read _ _ (by omega) (by have := HLEN.out; have := HM1.out; omega)] at hb
            unfold imgP
            rw [hb]; rfl
          have hcell : ∀ k : Nat, (k = a ∨ k = a + bb + 1) → ∃ ad, A8 = some ad ∧ w8.cell? (ad.add k) = some (.string ⟨#[]⟩) := fun k hk => by
            have hk2 : k < d.dur.length := by have := HLEN.out; omega
            obtain ⟨ad, y, e1, hy, hc⟩ := at_Str hC8 k (by omega) (by rw [imgL_len]; omega)
            rw [Int.toNat_natCast] at hy hc
            have : (imgL d)[k]? = some (imgP d k) := by simp [imgL, hk2]
            rw [this, himg k hk] at hy
            injection hy with hy
            exact ⟨ad, e1, by rw [hy]; exact hc⟩
          obtain ⟨ad, rfl, hc1⟩ := hcell a (.inl rfl)
          obtain ⟨ad2, e2, hc2⟩ := hcell (a + bb + 1) (.inr rfl)
          injection e2 with e2
          subst e2
          have himl : (imgL d).length = a + bb + 2 := by rw [imgL_len]; exact HLEN.out
          rw [himl]
          have i1 : (a : Int) < (a + bb + 2 : Nat) := by omega
          have i2 : (a : Int) + bb + 1 < (a + bb + 2 : Nat) := by omega
          have e3 : IntKind.i64.wrap ((a : Int) + bb) = (a : Int) + bb := IntWalk.i64_in _ ⟨by omega, by have := HM1.out; omega⟩
          have e4 : IntKind.i64.wrap ((a : Int) + bb + 1) = (a : Int) + bb + 1 := IntWalk.i64_in _ ⟨by omega, by have := HM1.out; omega⟩
          have e5 : ((a : Int) + bb + 1).toNat = a + bb + 1 := by omega
          have hc2 : w8.cell? ⟨ad.block, ad.off + (a + bb + 1), none⟩ = some (.string ⟨#[]⟩) := hc2
          clear himg hcell hr8 hb8 hC8 himl
          go_wp2_with (fail)
          refine (HOX.out _ _ _ _ HD8.out.lx.disk HD8.out.lx.dok HD8.out.lx.ok HD8.out.lx.dsk HXN.out.1 HXN.out.2.1 HXN.out.2.2).mono ?_
          rintro e9 w9 ⟨x9, FX9, rfl, _, hL9, hb9⟩
          have HJX := Lib.hid hL9.jour
          have HD9 := Lib.hid (HD8.out.step hb9)
          clear hL9 hb9 HD8 hc1 hc2 i1 i2 e3 e4 e5
          go_wp2_with (fail)
          refine (HOY.out _ _ _ _ HD9.out.ly.disk HD9.out.ly.dok HD9.out.ly.ok HD9.out.ly.dsk HYN.out.1 HYN.out.2.1 HYN.out.2.2).mono ?_
          rintro e10 w10 ⟨y10, FY10, rfl, _, hL10, hb10⟩
          have HJX10 := Lib.hid (HJX.out.below hb10)
          have HJY := Lib.hid hL10.jour
          have HD10 := Lib.hid (HD9.out.step hb10)
          clear hL10 hb10 HD9 HJX
          have HRX : Hid (∀ W F jj, IsJ W F jj X → Calls Tryd.prog 22 #[.pointer (some ⟨jj, 0, none⟩)] W fun e w' => ∃ v, e = .returned v ∧ Kd.string.R 9 w' 0 (fun k => W.heap.size ≤ k) v X.recs ∧ Below W.heap.size W w') := Lib.hid (fun W F jj h => records_any W F jj X h (by have := HD.out.lx.ok.recs_le; have := HD.out.lx.ok.room; have := HXN.out; have := HM1.out; omega))
          have HRY : Hid (∀ W F jj, IsJ W F jj Y → Calls Tryd.prog 22 #[.pointer (some ⟨jj, 0, none⟩)] W fun e w' => ∃ v, e = .returned v ∧ Kd.string.R 9 w' 0 (fun k => W.heap.size ≤ k) v Y.recs ∧ Below W.heap.size W w') := Lib.hid (fun W F jj h => records_any W F jj Y h (by have := HD.out.ly.ok.recs_le; have := HD.out.ly.ok.room; have := HYN.out; have := HM1.out; omega))
          go_wp2_with (first
            | (go_at_call 22; with_reducible refine (HRX.out _ _ _ HJX10.out).mono ?_; rintro e11 w11 ⟨v11, rfl, hr11, hb11⟩; have HE := Lib.hid (equal_same hr11 (Kd.R_below HD10.out.wp hb11)); have HB11 := Lib.hid hb11; clear hr11 hb11)
            | (go_at_call 21; with_reducible refine HE.out.mono ?_; rintro e12 w12 ⟨rfl, hq⟩; have HQ := Lib.hid (HB11.out.trans ((Upd.of_drawn hq (fun _ => False)).below HB11.out.size (fun _ h => h.elim))); clear hq HE HB11)
            | (go_at_call 22; with_reducible refine (HRY.out _ _ _ (HJY.out.below HQ.out)).mono ?_; rintro e13 w13 ⟨v13, rfl, hr13, hb13⟩; have HE := Lib.hid (equal_same hr13 (Kd.R_below (Kd.R_below HD10.out.wq HQ.out) hb13)); have HB11 := Lib.hid (HQ.out.trans (hb13.mono HQ.out.size)); clear hr13 hb13))
          go_ret
          exact ⟨rfl, HD10.out.below.trans (HQ.out.mono HD10.out.below.size)⟩
end Go.Proofs.YtpmjipokkkkljaaDoor
