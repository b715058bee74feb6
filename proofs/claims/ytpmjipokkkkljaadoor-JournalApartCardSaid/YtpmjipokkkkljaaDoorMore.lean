/-
  What the laws share: Few says that a list of strings is short; pages makes a new disk.
-/
import Derived.Test.YtpmjipokkkkljaaDoorPf1
import Derived.Test.YtpmjipokkkkljaaDoorAwake
namespace Go.Proofs.YtpmjipokkkkljaaDoor
set_option linter.all false
set_option linter.unusedVariables false
set_option linter.unusedSimpArgs false
open Go.RowKit Go.Proofs.YtpmjipokkkkljaaDoorW.PrintWords Go.Proofs.YtpmjipokkkkljaaDoorW.PrintLast Go.Proofs.YtpmjipokkkkljaaDoorW.PrintMore

def wsum : List ByteArray → Int → Int
  | [], x => x
  | s :: r, x => wsum r (wrap64 (x + s.size))
theorem few_run (l : List ByteArray) (hl : l.length ≤ 4611686018427387904) : ∀ (m i : Nat) (x : Int), i + m = l.length →
    Pf.modcertref51_Few.l0 (m + 1) l x i = if (l.length : Int) ≤ 16 then some (decide (wsum (l.drop i) x ≤ 6000)) else some false
  | 0, i, x, h => by
    have h1 : ¬ ((i : Int) < (l.length : Int)) := by omega
    rw [Pf.modcertref51_Few.l0, if_neg h1, List.drop_eq_nil_of_le (by omega)]
    rfl
  | m + 1, i, x, h => by
    have h1 : (i : Int) < (l.length : Int) := by omega
    have h2 : i < l.length := by omega
    rw [Pf.modcertref51_Few.l0, if_pos h1, if_pos (by omega : (0 : Int) ≤ i)]
    have e : wrap64 ((i : Int) + 1) = ((i + 1 : Nat) : Int) := by unfold wrap64; omega
    rw [e, few_run l hl m (i + 1) _ (by omega), List.drop_eq_getElem_cons h2]
    have e2 : rdOf ByteArray.empty l (i : Int) = l[i] := by simp [rdOf, h2]
    rw [e2]
    rfl
theorem wsum_ge : ∀ (l : List ByteArray) (x : Int), 0 ≤ x → x + 140737488355328 * l.length ≤ 9223372036854775807 → (∀ s ∈ l, s.size ≤ 140737488355328) → wsum l x ≤ 6000 → x ≤ 6000 ∧ ∀ s ∈ l, s.size ≤ 6000
  | [], x, _, _, _, h => ⟨h, by simp⟩
  | s :: r, x, h0, h1, hs, h => by
    have a : s.size ≤ 140737488355328 := hs s (by simp)
    simp only [List.length_cons] at h1
    have e : wrap64 (x + s.size) = x + s.size := by unfold wrap64; omega
    unfold wsum at h
    rw [e] at h
    obtain ⟨h2, h3⟩ := wsum_ge r (x + s.size) (by omega) (by omega) (fun t ht => hs t (by simp [ht])) h
    refine ⟨by omega, fun t ht => ?_⟩
    rcases List.mem_cons.1 ht with rfl | ht
    · omega
    · exact h3 t ht
/-- Few: no list that it calls few has more than sixteen strings or one of more than 6000 letters. -/
theorem few_any (l : List ByteArray) (A : Option Addr) (c : Nat) (w : World) (hC : Kd.C Kd.string w A l.length l) (hc : l.length ≤ c) (hl : l.length ≤ 4611686018427387904) (hs : ∀ s ∈ l, s.size ≤ 140737488355328) :
    Calls Tryd.prog 16 #[.slice A l.length c] w fun e w' => ∃ r, e = .returned (.bool r) ∧ Drawn0 w w' ∧ (r = true → l.length ≤ 16 ∧ ∀ s ∈ l, s.size ≤ 6000) := by
  have h := few_run l hl l.length 0 0 (by omega)
  rw [List.drop_zero] at h
  by_cases c16 : (l.length : Int) ≤ 16
  · rw [if_pos c16] at h
    refine (Pf.modcertref51_Few.calls _ A c l _ w hC hc h).mono ?_
    rintro e w' ⟨rfl, hd⟩
    refine ⟨_, rfl, hd, fun ht => ⟨by omega, ?_⟩⟩
    exact (wsum_ge l 0 (by omega) (by omega) hs (of_decide_eq_true ht)).2
  · rw [if_neg c16] at h
    refine (Pf.modcertref51_Few.calls _ A c l _ w hC hc h).mono ?_
    rintro e w' ⟨rfl, hd⟩
    exact ⟨_, rfl, hd, fun ht => by cases ht⟩
theorem info_r50 : (Tryd.prog.info? 29).map (fun i => (i.zero, i.size, i.bytes)) = some (some (.agg #[.slice none 0 0, .slice none 0 0]), 2, 48) := by kernel_rfl
set_option maxHeartbeats 2000000 in
set_option maxRecDepth 100000 in
theorem pages_ok (w : World) (n : Nat) (h0 : 1 ≤ n) (h1 : n ≤ 4096) : Calls Tryd.prog 10 #[.int .i64 n] w fun e w' => ∃ b FD A0 m0 c0 A1 m1 c1, e = .returned (.tuple #[.pointer (some ⟨b, 0, none⟩), .agg #[.slice A0 m0 c0, .slice A1 m1 c1]]) ∧
    IsDisk w' FD b (dk0 n) ∧ (∀ k, FD k → w.heap.size ≤ k) ∧ Below w.heap.size w w' := by
  have HN : Hid (∀ W, Calls Tryd.prog 31 #[.int .i64 n] W fun e w' => ∃ A0 m0 c0 A1 m1 c1, e = .returned (.tuple #[.agg #[.slice A0 m0 c0, .slice A1 m1 c1], .int .i64 0]) ∧ Below W.heap.size W w') := Lib.hid (fun W => by
    refine (Pf.modcertref50_New.calls n (List.replicate n ⟨#[]⟩) [] 0 W ?_).mono ?_
    · unfold Pf.modcertref50_New.f
      rw [if_neg (by omega), if_neg (by omega), if_pos (by omega), if_pos (by omega), Int.toNat_natCast]
    · rintro e w' ⟨v0, v1, rfl, h0, h1, hb⟩
      obtain ⟨A0, c0, rfl, _, _⟩ := Kd.R_reads h0
      obtain ⟨A1, c1, rfl, _, _⟩ := Kd.R_reads h1
      exact ⟨A0, _, c0, A1, _, c1, rfl, hb⟩)
  go_enter Tryd.func10, Tryd.ntmps10
  go_wp2_with (first
    | (go_at_call 29; refine (new_ok _ n (by omega) (by omega)).mono ?_; rintro e w1 ⟨b, FD, rfl, hd, hFD, hb1⟩; have HD := Lib.hid hd; have HFD := Lib.hid hFD; have HB1 := Lib.hid hb1; clear hd hFD hb1)
    | (go_at_call 31; refine (HN.out _).mono ?_; rintro e w2 ⟨A0, m0, k0, A1, m1, k1, rfl, hb2⟩; have HB2 := Lib.hid hb2; clear hb2))
  have bR : Blk w2 w.heap.size #[.slice none 0 0, .slice none 0 0] 29 := (HB2.out.block _ (by have := HB1.out.size; simp at this; omega)).trans ((HB1.out.block _ (by simp)).trans (Blk.new w _ _))
  have hs2 : w.heap.size < w2.heap.size := bR.lt
  have bR3 : Blk (w2.alloc (.cells #[.slice A0 m0 k0, .slice A1 m1 k1] 29)) w.heap.size #[.slice none 0 0, .slice none 0 0] 29 := bR.alloc _
  have bN3 : Blk (w2.alloc (.cells #[.slice A0 m0 k0, .slice A1 m1 k1] 29)) w2.heap.size #[.slice A0 m0 k0, .slice A1 m1 k1] 29 := Blk.new _ _ _
  have HB3 : Hid (Below w.heap.size w (w2.alloc (.cells #[.slice A0 m0 k0, .slice A1 m1 k1] 29)) ∧ w.heap.size < w1.heap.size ∧ Below w1.heap.size w1 (w2.alloc (.cells #[.slice A0 m0 k0, .slice A1 m1 k1] 29))) := by
    have e1 := ((Below.refl w.heap.size w).alloc (Nat.le_refl _) (.cells #[.slice none 0 0, .slice none 0 0] 29))
    have z1 := HB1.out.size
    have z2 := HB2.out.size
    simp only [World.size_alloc] at z1
    have e2 := HB1.out.mono (B' := w.heap.size) (by simp)
    exact Lib.hid ⟨((e1.trans e2).trans (HB2.out.mono (by omega))).alloc (by omega) _, by omega, HB2.out.alloc (by omega) _⟩
  generalize (w2.alloc (.cells #[.slice A0 m0 k0, .slice A1 m1 k1] 29)) = w3 at *
  have d0 : w3.cell? ⟨w2.heap.size, 0, none⟩ = some (.slice A0 m0 k0) := bN3.cell 0 _ rfl
  have d1 : w3.cell? ⟨w2.heap.size, 1, none⟩ = some (.slice A1 m1 k1) := bN3.cell 1 _ rfl
  have f0 := bR3.frozen 0
  have f1 := bR3.frozen 1
  have g0 : w3.cell? ⟨w.heap.size, 0, none⟩ = some (.slice none 0 0) := bR3.cell 0 _ rfl
  have g1 : w3.cell? ⟨w.heap.size, 1, none⟩ = some (.slice none 0 0) := bR3.cell 1 _ rfl
  have BR3 := Lib.hid bR3
  clear bR bR3 bN3 HB2 HN
  go_region_with (fail)
  go_wp2
  have hb : ((w3.setCell ⟨w.heap.size, 0, none⟩ (.slice A0 m0 k0)).setCell ⟨w.heap.size, 1, none⟩ (.slice A1 m1 k1)).drew.heap[w.heap.size]? = some (.cells #[.slice A0 m0 k0, .slice A1 m1 k1] 29 (0, 0)) := (BR3.out.set 0 (.slice A0 m0 k0)).set 1 (.slice A1 m1 k1)
  refine bodyPost_ret (results_tc rfl _ _ w.heap.size 29 #[.slice A0 m0 k0, .slice A1 m1 k1] (0, 0) _ rfl hb Tryd.underlying29 rfl (by kernel_rfl)) rfl ?_
  have hu : Upd (fun k => k = w.heap.size) w1 ((w3.setCell ⟨w.heap.size, 0, none⟩ (.slice A0 m0 k0)).setCell ⟨w.heap.size, 1, none⟩ (.slice A1 m1 k1)).drew := (((Upd.of_below HB3.out.2.2 (fun k => k = w.heap.size)).setCell (p := ⟨w.heap.size, 0, none⟩) (.inl rfl) _).setCell (p := ⟨w.heap.size, 1, none⟩) (.inl rfl) _).drew
  have hF : ∀ k, FD k → w.heap.size + 1 ≤ k := fun k hk => by have := HFD.out k hk; simpa using this
  refine ⟨b, FD, A0, m0, k0, A1, m1, k1, rfl, HD.out.upd hu (fun k hk h => by have := hF k hk; omega), fun k hk => by have := hF k hk; omega, ?_⟩
  exact ((((Upd.of_below HB3.out.1 (fun _ => False)).setCell (p := ⟨w.heap.size, 0, none⟩) (.inr (Nat.le_refl _)) _).setCell (p := ⟨w.heap.size, 1, none⟩) (.inr (Nat.le_refl _)) _).drew).below_all
end Go.Proofs.YtpmjipokkkkljaaDoor
