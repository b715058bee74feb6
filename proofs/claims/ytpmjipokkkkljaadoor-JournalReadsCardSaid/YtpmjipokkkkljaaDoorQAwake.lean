/-
  Part of the proof of cd_card: the lemmas of Awake that it uses.
-/
import Derived.Test.YtpmjipokkkkljaaDoorQKeeps
import Derived.Lib.SlBytesConst
namespace Go.Proofs.YtpmjipokkkkljaaDoor
set_option linter.all false
set_option linter.unusedVariables false
set_option linter.unusedSimpArgs false
open Go.RowKit Go.Proofs.YtpmjipokkkkljaaDoorW.PrintWords Go.Proofs.YtpmjipokkkkljaaDoorW.PrintLast Go.Proofs.YtpmjipokkkkljaaDoorW.PrintMore
theorem R_cells {w : World} {e base : Nat} {ok : Nat → Prop} {v : Value} {xs : List ByteArray} (h : Kd.string.R e w base ok v xs) :
    (xs = [] ∧ ∃ A c, v = .slice A 0 c) ∨ (0 < xs.length ∧ ∃ g c, v = .slice (some ⟨g, 0, none⟩) xs.length c ∧ ∀ j, j < xs.length → w.cell? ⟨g, 0 + j, none⟩ = some (.string (xs.getD j ByteArray.empty))) := by
  obtain ⟨A, c, rfl, _, hC⟩ := Kd.R_reads h
  cases xs with
  | nil => exact .inl ⟨rfl, A, c, rfl⟩
  | cons x r =>
    obtain ⟨g, rfl, _, _⟩ := R_head h (by simp)
    refine .inr ⟨by simp, g, c, rfl, fun j hj => ?_⟩
    obtain ⟨ad, y, e1, hy, hc⟩ := at_Str hC j (by omega) (by exact_mod_cast hj)
    rw [Int.toNat_natCast] at hy hc
    injection e1 with e1
    subst e1
    rw [List.getD_eq_getElem?_getD, hy]
    cases j with
    | zero => simpa [Addr.add] using hc
    | succ n => simpa [Addr.add] using hc
theorem equal_rows {w : World} {e1 e2 b1 b2 : Nat} {ok1 ok2 : Nat → Prop} {v1 v2 : Value} {xs ys : List ByteArray} (h1 : Kd.string.R e1 w b1 ok1 v1 xs) (h2 : Kd.string.R e2 w b2 ok2 v2 ys) :
    Calls Tryd.prog 21 #[v1, v2] w fun e w' => e = .returned (.bool (decide (xs = ys))) ∧ Drawn0 w w' := by
  have l1 : xs.length ≤ 9223372036854775807 := by obtain ⟨A, c, _, _, hC⟩ := Kd.R_reads h1; exact hC.2.1
  have l2 : ys.length ≤ 9223372036854775807 := by obtain ⟨A, c, _, _, hC⟩ := Kd.R_reads h2; exact hC.2.1
  rcases R_cells h1 with ⟨rfl, A, c, rfl⟩ | ⟨hx, g, c, rfl, hc⟩
  · obtain ⟨A2, c2, rfl, _, _⟩ := Kd.R_reads h2
    refine (Tryd.slices_Equal_string_empty A A2 c ys.length c2 w l2).mono ?_
    rintro e w' ⟨rfl, rfl⟩
    refine ⟨?_, ⟨0, rfl⟩⟩
    cases ys <;> simp
  · rcases R_cells h2 with ⟨rfl, A2, c2, rfl⟩ | ⟨hy, g2, c2, rfl, hc2⟩
    · refine (Tryd.slices_Equal_string_lens (some ⟨g, 0, none⟩) A2 xs.length c 0 c2 w (by omega)).mono ?_
      rintro e w' ⟨rfl, rfl⟩
      refine ⟨?_, ⟨0, rfl⟩⟩
      cases xs <;> simp at hx ⊢
    · refine (Tryd.slices_Equal_string g 0 xs.length c g2 0 ys.length c2 xs ys w (Nat.le_refl _) (Nat.le_refl _) l1 l2 hc hc2).mono ?_
      rintro e w' ⟨rfl, q, rfl⟩
      exact ⟨by rw [List.take_length, List.take_length], ⟨q, rfl⟩⟩
theorem bad_app {d : DK} {J : JD} {s : ByteArray} {e' q : Int} (hp : d.pend = []) (h0 : 0 ≤ J.first + J.next) (h1 : J.first + J.next + needN s.size ≤ d.dur.length) (hne : bigS J.epoch 8 ≠ bigS e' 8) (h : Bad d e' q) : Bad (appD d J s) e' q := by
  by_cases c : J.first + J.next ≤ q ∧ q < J.first + J.next + needN s.size
  · refine bad_epoch (e := J.epoch) (s := s) (c := J.chain) (i := (q - (J.first + J.next)).toNat) ?_ hne
    rw [appD_read hp h0 h1, if_pos c]
  · unfold Bad at *
    rw [appD_read hp h0 h1, if_neg c]
    exact h
/-- A blank disk. -/
def dk0 (n : Nat) : DK := ⟨List.replicate n ⟨#[]⟩, [], false, []⟩
theorem dk0_ok (n : Nat) (h : n ≤ 1000) : DOk (dk0 n) := ⟨rfl, rfl, rfl, by simpa [dk0] using h, fun x hx => by
  have := List.eq_of_mem_replicate hx
  subst this
  exact Nat.zero_le _⟩
theorem emptyS_size : (⟨#[]⟩ : ByteArray).size = 0 := rfl
theorem dk0_bad (n : Nat) (e q : Int) : Bad (dk0 n) e q := by
  refine bad_blank ?_
  rw [read_synced rfl]
  unfold readD
  have : ∀ k, ((dk0 n).dur[k]?).getD (⟨#[]⟩ : ByteArray) = (⟨#[]⟩ : ByteArray) := fun k => by
    unfold dk0
    rw [List.getElem?_replicate]
    split <;> rfl
  have hz := emptyS_size
  split
  · rw [this]
    split <;> (try rw [hz]) <;> decide
  · decide
theorem dk0_len (n : Nat) : (dk0 n).dur.length = n := by simp [dk0]
theorem repeatL_size (n : Nat) : (Lib.repeatL [(120 : UInt8)] n).length = n := by
  induction n with
  | zero => rfl
  | succ n ih => simp [Lib.repeatL, ih]
def longS : ByteArray := ⟨(Lib.repeatL [120] 438).toArray⟩
theorem longS_size : longS.size = 438 := by
  simp only [longS, ByteArray.size, List.size_toArray, repeatL_size]
theorem big78 : bigS 7 8 ≠ bigS 8 8 := by
  intro h
  have := congrArg (fun b => b.data.toList) h
  revert this
  decide +kernel
theorem equal_two {w : World} {e1 b1 : Nat} {ok1 : Nat → Prop} {v1 : Value} {xs : List ByteArray} {g c : Nat} {a b : ByteArray} {t : TypeId} (h1 : Kd.string.R e1 w b1 ok1 v1 xs) (h2 : Blk w g #[.string a, .string b] t) :
    Calls Tryd.prog 21 #[v1, .slice (some ⟨g, 0, none⟩) 2 c] w fun e w' => e = .returned (.bool (decide (xs = [a, b]))) ∧ Drawn0 w w' := by
  have l1 : xs.length ≤ 9223372036854775807 := by obtain ⟨A, c, _, _, hC⟩ := Kd.R_reads h1; exact hC.2.1
  rcases R_cells h1 with ⟨rfl, A, c, rfl⟩ | ⟨hx, g1, c1, rfl, hc⟩
  · refine (Tryd.slices_Equal_string_empty A (some ⟨g, 0, none⟩) c 2 _ w (by omega)).mono ?_
    rintro e w' ⟨rfl, rfl⟩
    exact ⟨by simp, ⟨0, rfl⟩⟩
  · refine (Tryd.slices_Equal_string g1 0 xs.length c1 g 0 2 _ xs [a, b] w (Nat.le_refl _) (Nat.le_refl _) l1 (by decide) hc (fun j hj => ?_)).mono ?_
    · match j, hj with
      | 0, _ => exact h2.cell 0 _ rfl
      | 1, _ => exact h2.cell 1 _ rfl
    · rintro e w' ⟨rfl, q, rfl⟩
      exact ⟨by rw [List.take_length]; rfl, ⟨q, rfl⟩⟩
/-- The example's journals. -/
def j0 (b : Nat) (e : Int) : JD := ⟨b, 0, 3, e, [], 0, chain0 e⟩
def j2 (b : Nat) : JD := appJ (appJ (j0 b 7) ⟨#[]⟩) longS
def d2 (b : Nat) : DK := appD (appD (dk0 3) (j0 b 7) ⟨#[]⟩) (appJ (j0 b 7) ⟨#[]⟩) longS
theorem j0_ok (b : Nat) (e : Int) : JOk (dk0 3) (j0 b e) := JOk.new rfl (by decide) (by decide) (by rw [dk0_len]; decide) (fun q _ _ => dk0_bad 3 e q)
theorem n0 : needN (⟨#[]⟩ : ByteArray).size = 1 := rfl
theorem nl : needN longS.size = 2 := by rw [longS_size]; rfl
theorem d2_len (b : Nat) : (d2 b).dur.length = 3 := by unfold d2; rw [appD_len, appD_len, dk0_len]
theorem d2_bad (b : Nat) (q : Int) : Bad (d2 b) 8 q := by
  have h1 : JOk (appD (dk0 3) (j0 b 7) ⟨#[]⟩) (appJ (j0 b 7) ⟨#[]⟩) := (j0_ok b 7).app (by rw [n0]; show ((1 : Nat) : Int) ≤ (3:Int) - 0; decide)
  unfold d2
  refine bad_app (J := appJ (j0 b 7) ⟨#[]⟩) h1.pend ?_ ?_ (show bigS 7 8 ≠ bigS 8 8 from big78) ?_
  · have := h1.first; have := h1.next; omega
  · rw [nl, appD_len, dk0_len]; show (0 : Int) + (0 + (needN (⟨#[]⟩ : ByteArray).size : Nat)) + _ ≤ _; rw [n0]; decide
  · refine bad_app (J := j0 b 7) rfl (by show (0:Int) ≤ 0 + 0; decide) ?_ (show bigS 7 8 ≠ bigS 8 8 from big78) (dk0_bad 3 8 q)
    rw [n0, dk0_len]; show (0:Int) + 0 + ((1:Nat) : Int) ≤ ((3:Nat) : Int); decide
theorem d2_pend (b : Nat) : (d2 b).pend = [] := by unfold d2 appD; exact sync_pend _
theorem d2_fits (b : Nat) : (0 : Int) + 3 ≤ (d2 b).dur.length := by rw [d2_len]; decide
theorem j0_ok2 (b : Nat) : JOk (d2 b) (j0 b 8) := JOk.new (d2_pend b) (by decide) (by decide) (d2_fits b) (fun q _ _ => d2_bad b q)
theorem j2_recs (b : Nat) : (j2 b).recs = [⟨#[]⟩, longS] := rfl
set_option maxHeartbeats 2000000 in
set_option maxRecDepth 100000 in
theorem awake_ok (w : World) : Calls Tryd.prog 9 #[] w fun e w' => e = .returned (.bool true) ∧ Below w.heap.size w w' := by
  go_enter Tryd.func9, Tryd.ntmps9
  go_wp2_with (go_at_call 29; refine (new_ok _ 3 (by omega) (by omega)).mono ?_; rintro e w1 ⟨b, FD, rfl, hd, hFD, hb1⟩; have HD := Lib.hid (show IsDisk w1 FD b (dk0 3) from hd); have HFD := Lib.hid hFD; have HB1 := Lib.hid hb1; clear hd hFD hb1)
  refine (live_open (J := j0 b 7) (cnt := 3) (epoch := 7) HD.out (dk0_ok 3 (by omega)) (by omega) (by omega) (by omega) (j0_ok b 7) rfl rfl rfl rfl).mono ?_
  rintro e w2 ⟨j, FJ, rfl, hFJ, hL, hb⟩
  have HL := Lib.hid hL; have HFJ := Lib.hid (fun k h => Nat.le_trans HB1.out.size (hFJ k h)); have HB2 := Lib.hid (HB1.out.trans (hb.mono HB1.out.size)); clear hFJ hL hb HB1
  have HF3 : Hid (∀ W, Live W FD FJ b j (dk0 3) (j0 b 7) → Calls Tryd.prog 23 #[.pointer (some ⟨j, 0, none⟩)] W fun e w' => e = .returned (.int .i64 3) ∧ Drawn0 W w') := Lib.hid (fun W h => free_any W FJ j (j0 b 7) h.jour (by show (-9223372036854775808:Int) ≤ 3 - 0; decide) (by show (3:Int) - 0 ≤ 9223372036854775807; decide))
  have HN1 : Hid (∀ w, Calls Tryd.prog 14 #[.int .i64 437] w fun e w' => e = .returned (.int .i64 1) ∧ w = w') := Lib.hid (fun w => need_ok 437 w (by omega))
  have HN2 : Hid (∀ w, Calls Tryd.prog 14 #[.int .i64 438] w fun e w' => e = .returned (.int .i64 2) ∧ w = w') := Lib.hid (fun w => need_ok 438 w (by omega))
  have HN0 : Hid (∀ w, Calls Tryd.prog 14 #[.int .i64 0] w fun e w' => e = .returned (.int .i64 1) ∧ w = w') := Lib.hid (fun w => need_ok 0 w (by omega))
  go_wp2_with (first
    | (go_at_call 14; with_reducible refine (HN1.out _).mono ?_; rintro e w' ⟨rfl, rfl⟩)
    | (go_at_call 14; with_reducible refine (HN2.out _).mono ?_; rintro e w' ⟨rfl, rfl⟩)
    | (go_at_call 14; with_reducible refine (HN0.out _).mono ?_; rintro e w' ⟨rfl, rfl⟩)
    | (go_at_call 23; with_reducible refine (HF3.out _ HL.out).mono ?_; rintro e w3 ⟨rfl, hq⟩; have HQ3 := Lib.hid hq; clear hq))
  have HL3 : Hid (Live w3 FD FJ b j (dk0 3) (j0 b 7)) := Lib.hid (HL.out.upd (Upd.of_drawn HQ3.out (fun _ => False)) (fun _ h => h.elim))
  have HB3 := Lib.hid (HB2.out.trans ((Upd.of_drawn HQ3.out (fun _ => False)).below HB2.out.size (fun _ h => h.elim)))
  clear HL HB2 HQ3 HD
  refine (Tryd.strings_Repeat _ 438 _ (by omega) (by decide)).mono ?_
  rintro e w4 ⟨rfl, hb⟩
  rw [show (⟨(Lib.repeatL (⟨#[120]⟩ : ByteArray).data.toList 438).toArray⟩ : ByteArray) = longS from rfl]
  generalize hls : longS = ls
  have HLS := Lib.hid hls
  clear hls
  have HL4 := Lib.hid (HL3.out.below hb)
  have HB4 := Lib.hid (HB3.out.trans (hb.mono HB3.out.size))
  clear HL3 HB3 hb
  have HA1 : Hid (∀ W FD FJ, Live W FD FJ b j (dk0 3) (j0 b 7) → Calls Tryd.prog 19 #[.pointer (some ⟨j, 0, none⟩), .string ⟨#[]⟩] W fun e w' => e = .returned (.int .i64 0) ∧ ∃ FD' FJ' : Nat → Prop, (∀ k, FD' k → FD k ∨ W.heap.size ≤ k) ∧ (∀ k, FJ' k → FJ k ∨ W.heap.size ≤ k) ∧
      Live w' FD' FJ' b j (appD (dk0 3) (j0 b 7) ⟨#[]⟩) (appJ (j0 b 7) ⟨#[]⟩) ∧ Upd (fun k => FD k ∨ FJ k) W w') := Lib.hid (fun W FD FJ h => live_append ⟨#[]⟩ h (by rw [emptyS_size]; omega) (by rw [n0]; show ((1 : Nat) : Int) ≤ (3:Int) - 0; decide))
  have HA2 : Hid (∀ W FD FJ, Live W FD FJ b j (appD (dk0 3) (j0 b 7) ⟨#[]⟩) (appJ (j0 b 7) ⟨#[]⟩) → Calls Tryd.prog 19 #[.pointer (some ⟨j, 0, none⟩), .string ls] W fun e w' => e = .returned (.int .i64 0) ∧ ∃ FD' FJ' : Nat → Prop, (∀ k, FD' k → FD k ∨ W.heap.size ≤ k) ∧ (∀ k, FJ' k → FJ k ∨ W.heap.size ≤ k) ∧
      Live w' FD' FJ' b j (d2 b) (j2 b) ∧ Upd (fun k => FD k ∨ FJ k) W w') := Lib.hid (fun W FD FJ h => by
    rw [← HLS.out]
    exact live_append longS h (by rw [longS_size]; omega) (by rw [nl]; show ((2 : Nat) : Int) ≤ (3:Int) - (0 + (needN (⟨#[]⟩ : ByteArray).size : Nat)); rw [n0]; decide))
  have HA3 : Hid (∀ W FD FJ, Live W FD FJ b j (d2 b) (j2 b) → Calls Tryd.prog 19 #[.pointer (some ⟨j, 0, none⟩), .string ⟨#[]⟩] W fun e w' => e = .returned (.int .i64 22) ∧ Drawn0 W w') := Lib.hid (fun W FD FJ h => live_full ⟨#[]⟩ h (by rw [emptyS_size]; omega) (by rw [n0]; show (3:Int) - (0 + (needN (⟨#[]⟩ : ByteArray).size : Nat) + (needN longS.size : Nat)) < ((1 : Nat) : Int); rw [n0, nl]; decide))
  go_wp2_with (first
    | (go_at_call 19; with_reducible refine (HA1.out _ _ _ HL4.out).mono ?_; rintro e w5 ⟨rfl, FD5, FJ5, a1, a2, hl, hu⟩; have HX5 := Lib.hid (And.intro a1 (And.intro a2 hu)); have HL5 := Lib.hid hl; clear a1 a2 hl hu)
    | (go_at_call 19; with_reducible refine (HA2.out _ _ _ HL5.out).mono ?_; rintro e w6 ⟨rfl, FD6, FJ6, a1, a2, hl, hu⟩; have HX6 := Lib.hid (And.intro a1 (And.intro a2 hu)); have HL6 := Lib.hid hl; clear a1 a2 hl hu)
    | (go_at_call 19; with_reducible refine (HA3.out _ _ _ HL6.out).mono ?_; rintro e w7 ⟨rfl, hq⟩; have HQ7 := Lib.hid hq; clear hq))
  obtain ⟨p1, p2, p3⟩ := HX5.out
  obtain ⟨p4, p5, p6⟩ := HX6.out
  have s4 : w.heap.size ≤ w4.heap.size := HB4.out.size
  have F5 : ∀ k, FD5 k → w.heap.size ≤ k := fun k h => (p1 k h).elim (HFD.out k) (fun h => Nat.le_trans s4 h)
  have G5 : ∀ k, FJ5 k → w.heap.size ≤ k := fun k h => (p2 k h).elim (HFJ.out k) (fun h => Nat.le_trans s4 h)
  have B5 : Below w.heap.size w w5 := HB4.out.trans (p3.below s4 (fun k h => h.elim (HFD.out k) (HFJ.out k)))
  have F6 : ∀ k, FD6 k → w.heap.size ≤ k := fun k h => (p4 k h).elim (F5 k) (fun h => Nat.le_trans B5.size h)
  have B6 : Below w.heap.size w w6 := B5.trans (p6.below B5.size (fun k h => h.elim (F5 k) (G5 k)))
  have B7 : Below w.heap.size w w7 := B6.trans ((Upd.of_drawn HQ7.out (fun _ => False)).below B6.size (fun _ h => h.elim))
  have L7 : Live w7 FD6 FJ6 b j (d2 b) (j2 b) := HL6.out.upd (Upd.of_drawn HQ7.out (fun _ => False)) (fun _ h => h.elim)
  have D7 := L7.disk; have K7 := L7.dok; have O7 := L7.ok
  clear L7 HQ7 HX5 HX6 p1 p2 p3 p4 p5 p6 HFD HFJ HB4 F5 G5 B5 B6 s4 HL4 HL5 HL6 HA1 HA2 HA3 HN0 HN1 HN2 HF3
  have HF6 := Lib.hid F6; have HB7 := Lib.hid B7; have HK7 := Lib.hid K7; have HO7 := Lib.hid O7
  clear F6 B7 K7 O7
  refine (crash_none _ FD6 b (d2 b) D7 HK7.out.pend).mono ?_
  rintro e w8 ⟨rfl, FD8, hF, hd, hu⟩
  have HF8 : Hid (∀ k, FD8 k → w.heap.size ≤ k) := Lib.hid (fun k h => (hF k h).elim (HF6.out k) (fun h => Nat.le_trans HB7.out.size h))
  have HB8 : Hid (Below w.heap.size w w8) := Lib.hid (HB7.out.trans (hu.below HB7.out.size HF6.out))
  have HD8 := Lib.hid hd
  clear hF hd hu D7 HF6 HB7
  have HO1 : Hid (∀ W FD, IsDisk W FD b (d2 b) → Calls Tryd.prog 18 #[.pointer (some ⟨b, 0, none⟩), .agg #[.int .i64 0, .int .i64 3], .int .i64 7] W fun e w' => ∃ jb FJ, e = .returned (.tuple #[.pointer (some ⟨jb, 0, none⟩), .int .i64 0]) ∧ (∀ k, FJ k → W.heap.size ≤ k) ∧
      Live w' FD FJ b jb (d2 b) (j2 b) ∧ Below W.heap.size W w') := Lib.hid (fun W FD h => live_open (cnt := 3) (epoch := 7) h HK7.out (by omega) (by omega) (by omega) HO7.out rfl rfl rfl rfl)
  have HO2 : Hid (∀ W FD, IsDisk W FD b (d2 b) → Calls Tryd.prog 18 #[.pointer (some ⟨b, 0, none⟩), .agg #[.int .i64 0, .int .i64 3], .int .i64 8] W fun e w' => ∃ jb FJ, e = .returned (.tuple #[.pointer (some ⟨jb, 0, none⟩), .int .i64 0]) ∧ (∀ k, FJ k → W.heap.size ≤ k) ∧
      Live w' FD FJ b jb (d2 b) (j0 b 8) ∧ Below W.heap.size W w') := Lib.hid (fun W FD h => live_open (cnt := 3) (epoch := 8) h HK7.out (by omega) (by omega) (by omega) (j0_ok2 b) rfl rfl rfl rfl)
  go_wp2_with (first
    | (go_at_call 18; with_reducible refine (HO1.out _ _ HD8.out).mono ?_; rintro e w9 ⟨j9, FJ9, rfl, _, hl, hb⟩; have HB9 := Lib.hid hb; have HL9 := Lib.hid hl; clear hl hb)
    | (go_at_call 18; with_reducible refine (HO2.out _ _ HL9.out.disk).mono ?_; rintro e w10 ⟨j10, FJ10, rfl, _, hl, hb⟩; have HB10 := Lib.hid hb; have HL10 := Lib.hid hl; clear hl hb))
  have HL9' := Lib.hid (HL9.out.below HB10.out)
  have HBA : Hid (Below w.heap.size w w10) := Lib.hid ((HB8.out.trans (HB9.out.mono HB8.out.size)).trans (HB10.out.mono (Nat.le_trans HB8.out.size HB9.out.size)))
  have HR1 : Hid (∀ W FD FJ, Live W FD FJ b j9 (d2 b) (j2 b) → Calls Tryd.prog 22 #[.pointer (some ⟨j9, 0, none⟩)] W fun e w' => ∃ v, e = .returned v ∧ Kd.string.R 9 w' 0 (fun k => W.heap.size ≤ k) v [⟨#[]⟩, ls] ∧ Below W.heap.size W w') := Lib.hid (fun W FD FJ h => by
    have := records_any W FJ j9 (j2 b) h.jour (by rw [j2_recs]; decide)
    rw [j2_recs, HLS.out] at this
    exact this)
  have HR2 : Hid (∀ W FD FJ, Live W FD FJ b j10 (d2 b) (j0 b 8) → Calls Tryd.prog 22 #[.pointer (some ⟨j10, 0, none⟩)] W fun e w' => ∃ v, e = .returned v ∧ Kd.string.R 9 w' 0 (fun k => W.heap.size ≤ k) v [] ∧ Below W.heap.size W w') := Lib.hid (fun W FD FJ h => records_any W FJ j10 (j0 b 8) h.jour (by show ([] : List ByteArray).length ≤ _; decide))
  clear HB8 HB9 HB10 HO1 HO2 HF8 HD8 HK7 HO7 HL9 HLS
  go_wp2_with (first
    | (go_at_call 22; with_reducible refine (HR1.out _ _ _ HL9'.out).mono ?_; rintro e w11 ⟨v11, rfl, hr, hb⟩; have HX11 := Lib.hid (And.intro hr hb); clear hr hb))
  obtain ⟨r11, b11⟩ := HX11.out
  have al := (Below.refl w11.heap.size w11).alloc (Nat.le_refl _) (.cells #[.string ⟨#[]⟩, .string ls] 9)
  refine (equal_two (Kd.R_below r11 al) (Blk.new _ _ _)).mono ?_
  rintro e w12 ⟨rfl, hq⟩
  rw [decide_eq_true rfl]
  have bw : Below w10.heap.size w10 w12 := (b11.trans (al.mono b11.size)).trans ((Upd.of_drawn hq (fun _ => False)).below (Nat.le_trans b11.size al.size) (fun _ h => h.elim))
  have HL12 := Lib.hid (HL10.out.below bw)
  have HB12 := Lib.hid (HBA.out.trans (bw.mono HBA.out.size))
  clear r11 b11 al hq bw HX11 HBA HL10 HL9' HR1
  go_wp2_with (first
    | (go_at_call 22; with_reducible refine (HR2.out _ _ _ HL12.out).mono ?_; rintro e w13 ⟨v13, rfl, hr, hb⟩; obtain ⟨A13, c13, rfl, _, _⟩ := Kd.R_reads hr; have HX13 := Lib.hid hb; clear hr hb))
  go_ret
  exact ⟨rfl, HB12.out.trans (HX13.out.mono HB12.out.size)⟩
end Go.Proofs.YtpmjipokkkkljaaDoor
