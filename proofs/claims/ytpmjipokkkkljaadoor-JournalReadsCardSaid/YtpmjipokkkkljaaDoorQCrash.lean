/-
  Part of the proof of cd_card: the lemmas of Crash that it uses.
-/
import Derived.Test.YtpmjipokkkkljaaDoorQDisks
import Derived.Test.YtpmjipokkkkljaaDoorQRange
import Derived.Sort.LoopGhostIn
import Derived.Sort.QuietIn
namespace Go.Proofs.YtpmjipokkkkljaaDoor
set_option linter.all false
set_option linter.unusedVariables false
set_option linter.unusedSimpArgs false
open Go.RowKit Go.Proofs.YtpmjipokkkkljaaDoorW.PrintWords Go.Proofs.YtpmjipokkkkljaaDoorW.PrintLast Go.Proofs.YtpmjipokkkkljaaDoorW.PrintMore
open Go.WideMaps Go.WideElems Go.Shelf
attribute [local go_sem] Oper.semAt_some
theorem at_I64 {w : World} {A : Option Addr} {n : Nat} {xs : List Int} (h : Kd.C (Kd.int .i64) w A n xs) (i : Nat) (h1 : i < n) :
    ∃ ad x, A = some ad ∧ xs[i]? = some x ∧ w.cell? (ad.add i) = some (.int .i64 x) := by
  obtain ⟨hl, _, hr⟩ := h
  obtain ⟨ad, e, hc⟩ := hr (by omega)
  have hlt : i < xs.length := by omega
  obtain ⟨c, hs, hK, hc0⟩ := hc i _ (List.getElem?_eq_getElem hlt)
  have hK' : c = [.int .i64 xs[i]] := hK
  subst hK'
  have := hc0 0 _ rfl
  have e1 : (Kd.int .i64).sz = 1 := rfl
  rw [e1, Nat.mul_one, Nat.add_zero] at this
  exact ⟨ad, xs[i], e, List.getElem?_eq_getElem hlt, this⟩
def normC (c : Int) : Int := (wrap64 (c.tmod 3 + 3)).tmod 3
def cyc (L : List Int) (n : Nat) : List Int := (List.range n).map fun j => normC (L.getD (j % L.length) 0)
theorem cyc_succ (L : List Int) (n : Nat) : cyc L (n + 1) = cyc L n ++ [normC (L.getD (n % L.length) 0)] := by
  simp [cyc, List.range_succ]
/-- What a round keeps that may write into F alone. -/
def KpF (n0 : Nat) (F : Nat → Prop) (W W' : World) : Prop := W.heap.size ≤ W'.heap.size ∧ ∀ k, k < n0 → ¬ F k → W'.heap[k]? = W.heap[k]?
theorem KpF.trans {n0 : Nat} {F : Nat → Prop} {A B C : World} (h : KpF n0 F A B) (k : KpF n0 F B C) : KpF n0 F A C := ⟨Nat.le_trans h.1 k.1, fun i hi hn => (k.2 i hi hn).trans (h.2 i hi hn)⟩
theorem KpF.of_upd {n0 : Nat} {F S : Nat → Prop} {A B : World} (h : Upd S A B) (hn : n0 ≤ A.heap.size) (hS : ∀ k, S k → F k ∨ n0 ≤ k) : KpF n0 F A B :=
  ⟨h.size, fun k hk hf => h.block k (by omega) (fun hs => (hS k hs).elim hf (fun h2 => by omega))⟩
set_option maxRecDepth 100000 in
set_option maxHeartbeats 1000000 in
theorem endless_iter (w0 : World) (F : Nat → Prop) (Bx c M : Nat) (A : Option Addr) (L : List Int) (hL : 0 < L.length)
    (hC : ∀ W, KpF w0.heap.size F w0 W → W.cell? ⟨Bx, 0, none⟩ = some (.slice A L.length c) ∧ Kd.C (Kd.int .i64) W A L.length L) :
    IterC Tryd.prog 58 (fun l => #[.func (.yield l) #[] #[], .pointer (some ⟨Bx, 0, none⟩)]) (fun x : Int => #[.int .i64 x]) (KpF w0.heap.size F) (fun _ => False) (fun pre => pre = cyc L pre.length) M w0 := by
  intro l J Jx W hW hJ hJx hM hY h0
  have HC := Lib.hid hC
  have HM := Lib.hid hM
  have HW : Hid (KpF w0.heap.size F w0 W) := KpF.of_upd (Upd.of_below hW F) (Nat.le_refl _) (fun k h => .inl h)
  have HY := Lib.hid hY
  have HL := Lib.hid hL
  clear hC hM hW hY hJ hJx
  refine callsIn_of_wp Tryd.func58 rfl trivial ?_
  simp only [Tryd.ntmps58, List.size_toArray, List.length_cons, List.length_nil, Nat.reduceAdd, Nat.reduceSub, Array.replicate_succ, Array.replicate_zero, List.push_toArray, List.append_toArray, List.nil_append, List.cons_append]
  gi_wp2
  gi_loopg [] (M + 1) (fun k wr => ∃ pre : List Int, Aside0 (J pre wr) ∧ Aside0 (KpF w0.heap.size F w0 wr) ∧ Aside0 (pre = cyc L pre.length) ∧ Aside0 (pre.length % L.length = 0) ∧ Aside0 (M + 1 ≤ k + pre.length))
  case atStart => exact ⟨[], ⟨h0⟩, ⟨HW.out⟩, ⟨rfl⟩, ⟨by simp⟩, ⟨by simp⟩⟩
  case round =>
    obtain ⟨pre0, hJ0, hK0, hp0, hm0, hk0⟩ := hrel
    obtain ⟨hb, hrow⟩ := HC.out _ hK0.out
    have HR := Lib.hid hrow
    clear hrow
    gi_wp2
    gi_loopg [7] (M + 1) (fun k v7 wr => ∃ (i : Nat) (pre : List Int), v7 = .int .i64 i ∧ Aside0 (i ≤ L.length) ∧ Aside0 (J pre wr) ∧ Aside0 (KpF w0.heap.size F w0 wr) ∧ Aside0 (pre = cyc L pre.length) ∧ Aside0 (pre.length = pre0.length + i) ∧ Aside0 (M + 1 ≤ k + pre.length))
    case atStart => exact ⟨0, pre0, rfl, ⟨Nat.zero_le _⟩, hJ0, hK0, hp0, ⟨rfl⟩, ⟨by omega⟩⟩
    case round =>
      obtain ⟨i, pre, rfl, hi, hJ1, hK1, hp1, hl1, hk1⟩ := hrel
      have hb63 : L.length ≤ 9223372036854775807 := (HC.out _ hK1.out).2.2.1
      by_cases hlt : i < L.length
      · obtain ⟨ad, x, rfl, hx, hcx⟩ := at_I64 (HC.out _ hK1.out).2 i hlt
        obtain ⟨fn, tmps, assign, body, hy, hR⟩ := HY.out pre (normC x) wr hJ1.out
        unfold normC at hy
        have HX := Lib.hid hx
        clear hx
        gi_wp2
        refine hR.mono ?_
        rintro e W' (⟨rfl, hJ', hk'⟩ | ⟨rfl, hJx'⟩)
        · have hle := HM.out _ _ hJ'
          rw [List.length_append, List.length_singleton] at hle
          have e1 := hk1.out
          have e2 := hl1.out
          have HP : Hid (pre ++ [normC x] = cyc L (pre ++ [normC x]).length) := by
            show pre ++ [normC x] = _
            rw [List.length_append, List.length_singleton, cyc_succ, ← hp1.out]
            have : pre.length % L.length = i := by rw [e2, Nat.add_mod, hm0.out, Nat.zero_add, Nat.mod_mod, Nat.mod_eq_of_lt hlt]
            rw [this, List.getD_eq_getElem?_getD, HX.out]; rfl
          have HJ := Lib.hid hJ'
          have HK := Lib.hid hk'
          clear hJ' hk' e2 hR hy
          gi_wp2
          gi_roundg (gk - 1)
          case measure => omega
          case rel => exact ⟨i + 1, pre ++ [normC x], by go_num, ⟨by omega⟩, ⟨HJ.out⟩, ⟨hK1.out.trans HK.out⟩, ⟨HP.out⟩, ⟨by rw [List.length_append, List.length_singleton, hl1.out]; omega⟩, ⟨by rw [List.length_append, List.length_singleton]; omega⟩⟩
        · have HP : Hid (pre ++ [normC x] = cyc L (pre ++ [normC x]).length) := by
            show pre ++ [normC x] = _
            rw [List.length_append, List.length_singleton, cyc_succ, ← hp1.out]
            have : pre.length % L.length = i := by rw [hl1.out, Nat.add_mod, hm0.out, Nat.zero_add, Nat.mod_mod, Nat.mod_eq_of_lt hlt]
            rw [this, List.getD_eq_getElem?_getD, HX.out]; rfl
          have HJ := Lib.hid hJx'
          clear hJx' hR hy
          gi_wp2
          refine bodyPost_ret (results_none rfl _ _ _) rfl ?_
          exact ⟨⟨_, rfl⟩, .inr ⟨_, HP.out, HJ.out⟩⟩
      · have e0 : i = L.length := by have := hi.out; omega
        have HE := Lib.hid e0
        have e2 := hl1.out
        have e1 := hk1.out
        have e3 := HM.out _ _ hJ1.out
        have e4 := hk0.out
        have HZ : Hid (pre.length % L.length = 0) := by show _ = _; rw [e2, HE.out, Nat.add_mod_right]; exact hm0.out
        rw [HE.out] at e2
        have e5 : pre0.length < pre.length := by omega
        clear e0 e2
        gi_wp2
        gi_roundg (M + 1 - pre.length)
        case measure => omega
        case rel => exact ⟨pre, hJ1, hK1, hp1, ⟨HZ.out⟩, ⟨by omega⟩⟩
def EndlessPost (w : World) (L : List Int) (e : Ending) (w' : World) : Prop :=
  ∃ A c, e = .returned (.func (.func 58) #[] #[.pointer (some ⟨w.heap.size, 0, none⟩)]) ∧ Blk w' w.heap.size #[.slice A L.length c] 100 ∧
    Below w.heap.size w w' ∧ w.heap.size < w'.heap.size ∧ ∀ W, KpF w'.heap.size (fun k => k < w.heap.size) w' W → Kd.C (Kd.int .i64) W A L.length L
theorem endless_nil (w : World) : Calls Tryd.prog 41 #[.slice none 0 0] w (EndlessPost w [0]) := by
  go_enter Tryd.func41, Tryd.ntmps41
  go_wp2
  go_ret
  have hb1 := Blk.new w #[.slice (some ⟨w.heap.size + 1, 0, none⟩) 1 1] 100
  have hb2 := Blk.new (w.alloc (.cells #[.slice (some ⟨w.heap.size + 1, 0, none⟩) 1 1] 100)) #[.int .i64 0] 3
  rw [World.size_alloc] at hb2
  refine ⟨some ⟨w.heap.size + 1, 0, none⟩, 1, rfl, hb1.alloc _, ((Below.refl _ w).alloc (Nat.le_refl _) _).alloc (by simp) _, by simp; omega, fun W hW => ?_⟩
  have hb3 : Blk W (w.heap.size + 1) #[.int .i64 0] 3 := (hW.2 _ (by simp) (by omega)).trans hb2
  refine ⟨rfl, by simp, fun _ => ⟨_, rfl, fun j p hj => ?_⟩⟩
  cases j with
  | succ j => simp at hj
  | zero =>
    obtain rfl : 0 = p := by simpa using hj
    refine ⟨[.int .i64 0], rfl, rfl, fun i u hi => ?_⟩
    cases i with
    | succ i => simp at hi
    | zero =>
      obtain rfl : Value.int .i64 0 = u := by simpa using hi
      exact hb3.cell 0 _ rfl
set_option maxRecDepth 100000 in
set_option maxHeartbeats 1000000 in
/-- A crash where nothing is pending. -/
theorem crash_none (w : World) (F : Nat → Prop) (b : Nat) (d : DK) (hd : IsDisk w F b d) (hp : d.pend = []) :
    Calls Tryd.prog 20 #[.pointer (some ⟨b, 0, none⟩), .slice none 0 0] w (DPost w F b d (.tuple #[])) := by
  refine (callsIn_wide (n := 8)).1 ?_
  refine callsIn_of_wp_marks Tryd.func20 rfl trivial ?_ rfl
  simp only [Tryd.ntmps20, List.size_toArray, List.length_cons, List.length_nil, Nat.reduceAdd, Nat.reduceSub, Array.replicate_succ, Array.replicate_zero, List.push_toArray, List.append_toArray, List.nil_append, List.cons_append]
  gi_wp2_with (refine ⟨trivial, ?_⟩; gi_at_call 41; refine (callsIn_wide.2 (endless_nil _)).mono ?_; rintro e w2 ⟨A, c, rfl, hbx, hbel, hsz, hC⟩)
  have h1 : Blk w2 w.heap.size #[.pointer (some ⟨b, 0, none⟩)] 26 := (hbel.block _ (by simp; omega)).trans ((Blk.new w _ _).alloc _)
  have h2 : Blk w2 (w.heap.size + 1) #[.int .i64 0] 3 := (hbel.block _ (by simp)).trans (by have := Blk.new (w.alloc (.cells #[.pointer (some ⟨b, 0, none⟩)] 26)) #[.int .i64 0] 3; rwa [World.size_alloc] at this)
  rw [World.size_alloc, World.size_alloc] at hbx hsz hbel
  have hu2 : Upd F w w2 := (((Upd.refl F w).alloc _).alloc _).trans (Upd.of_below (by rw [World.size_alloc, World.size_alloc]; exact hbel) (fun _ => False)) (fun _ h => h.elim)
  have hd2 : IsDisk w2 F b d := ((hd.alloc _).alloc _).upd (Upd.of_below (by rw [World.size_alloc, World.size_alloc]; exact hbel) (fun _ => False)) (fun _ _ h => h)
  obtain ⟨_, _, _, _, _, _, _, _, _, _, _, hlt⟩ := hd
  have hit := endless_iter w2 (fun k => k < w.heap.size + 2) (w.heap.size + 2) c 0 A [0] (by simp) (fun W hW => ⟨(show Blk W _ _ _ from (hW.2 _ hbx.lt (by omega)).trans hbx).cell 0 _ rfl, hC W (by simpa using hW)⟩)
  refine rangeFunc_law (α := Int) (ars := fun l => #[.func (.yield l) #[] #[]]) (gf := 58) (lb := #[.pointer (some ⟨w.heap.size + 2, 0, none⟩)]) (fun l W => by simp only [resolve]; simp [go_sem]) (fun l W => by simp [invoke, go_sem, enters_of Tryd.func58 (by kernel_rfl) rfl]) hit (Below.refl _ _) (fun _ => rfl)
    (fun h k => h.trans k) (fun W W' hB => ⟨hB.1.size, fun k hk _ => by
      by_cases hkW : k < W.heap.size
      · exact hB.1.block k hkW (by omega)
      · have h2 := hB.2
        rw [Array.getElem?_eq_none (by omega), Array.getElem?_eq_none (by omega)]⟩)
    (fun pre W => pre = [] ∧ IsDisk W F b d ∧ Blk W w.heap.size #[.pointer (some ⟨b, 0, none⟩)] 26 ∧ Blk W (w.heap.size + 1) #[.int .i64 0] 3 ∧ Upd F w W)
    (fun c pre W => c = .exit 0 ∧ IsDisk W F b d ∧ Blk W w.heap.size #[.pointer (some ⟨b, 0, none⟩)] 26 ∧ Upd F w W) ?_ ?_ ?_ ?_ ?_ ?_ ?_
  · rintro s W W' ⟨rfl, hD, b1, b2, hU⟩ hu
    exact ⟨rfl, hD.upd hu (fun k hk => by have := hlt k hk; omega), b1.upd hu (by omega), b2.upd hu (by omega), hU.trans hu (fun k hk => .inr (by omega))⟩
  · rintro c s W W' ⟨rfl, hD, b1, hU⟩ hu
    exact ⟨rfl, hD.upd hu (fun k hk => by have := hlt k hk; omega), b1.upd hu (by omega), hU.trans hu (fun k hk => .inr (by omega))⟩
  · rintro pre W ⟨rfl, _⟩; simp
  · exact ⟨rfl, hd2, h1, h2, hu2⟩
  · rintro pre x W ⟨rfl, hD, b1, b2, hU⟩ hsW
    gi_wp2
    refine ⟨⟨fun _ => False, Upd.refl _ _, fun h => h, fun h => h⟩, fun W2 hB => ?_⟩
    obtain ⟨v0, v1, bm, v4, hb, hFb, hFm, h0, h1', h4, hm, hlt'⟩ := hD.upd hB.1 (fun k hk => by have := hlt k hk; omega)
    obtain ⟨A1, c1, rfl, hc1, hr1⟩ := Kd.R_reads h1'
    have k1 : W2.cell? ⟨b, 1, none⟩ = some (.slice A1 d.pend.length c1) := hb.cell 1 _ rfl
    have k2 : W2.cell? ⟨w.heap.size, 0, none⟩ = some (.pointer (some ⟨b, 0, none⟩)) := (b1.upd hB.1 (by omega)).cell 0 _ rfl
    have k3 : W2.cell? ⟨w.heap.size + 1, 0, none⟩ = some (.int .i64 0) := (b2.upd hB.1 (by omega)).cell 0 _ rfl
    rw [hp] at k1
    have HD2 : Hid (IsDisk W2 F b d) := hD.upd hB.1 (fun k hk => by have := hlt k hk; omega)
    have HB2 : Hid (Blk W2 w.heap.size #[.pointer (some ⟨b, 0, none⟩)] 26) := b1.upd hB.1 (by omega)
    have HU2 : Hid (Upd F w W2) := hU.trans hB.1 (fun k hk => .inr (by omega))
    clear hb h0 h1' h4 hm hlt' hr1 hD b1 b2 hU hB hit hC hbx hbel hu2 hd2 h1 h2
    gi_wp2
    gi_region_with (fail)
    all_goals gi_wp2
    all_goals exact ⟨⟨fun _ => False, (Upd.refl _ _).drew, fun h => h, fun h => h⟩, rfl, HD2.out.drewN 1, HB2.out.drew, HU2.out.drew⟩
  · rintro xs W h; exact h.elim
  · rintro c pre W _ ⟨rfl, hD, b1, hU⟩ hK
    have k2 : W.cell? ⟨w.heap.size, 0, none⟩ = some (.pointer (some ⟨b, 0, none⟩)) := b1.cell 0 _ rfl
    have HD := Lib.hid hD
    have HU := Lib.hid hU
    have HK := Lib.hid hK
    have HP := Lib.hid hp
    have HL := Lib.hid hlt
    clear hD hU hK b1 hit hC hbx hbel hu2 hd2 h1 h2 hp hlt
    gi_wp2_with (refine ⟨trivial, ?_⟩; gi_at_call 42; refine (callsIn_wide.2 (forget_any _ _ _ _ HD.out)).mono ?_; rintro e w5 ⟨rfl, F5, hF5, hd5, hu5⟩; have HF5 := Lib.hid hF5; have HD5 := Lib.hid hd5; have HU5 := Lib.hid hu5; clear hF5 hd5 hu5)
    have hK5 : w5.heap[w2.heap.size]? = some (.deferred (some [])) := HU5.out.blk HK.out (fun h => by have := HL.out _ h; omega)
    refine ⟨by simp, .inl ⟨_, _, rfl, run_takeDeferred hK5, ?_⟩⟩
    refine ⟨_, results_none rfl _ _ _, rfl, F5, fun k hk => ?_, ?_, ?_⟩
    · exact (HF5.out k hk).elim .inl (fun h => .inr (Nat.le_trans HU.out.size h))
    · have hdf : d.forget = d := by cases d; simp only [DK.forget, DK.mk.injEq]; simp [← HP.out]
      have hp2 : Upd (fun k => k = w2.heap.size) w5 (w5.putObj w2.heap.size (.deferred none)) := ⟨rfl, rfl, rfl, by simp [World.putObj], fun k _ hn => World.putObj_heap_other hn⟩
      rw [hdf] at HD5
      refine HD5.out.upd hp2 (fun k hk he => ?_)
      have := blk_lt HK.out
      rcases HF5.out k hk with h | h
      · have := HL.out k h; omega
      · omega
    · have hp2 : Upd (fun k => k = w2.heap.size) w5 (w5.putObj w2.heap.size (.deferred none)) := ⟨rfl, rfl, rfl, by simp [World.putObj], fun k _ hn => World.putObj_heap_other hn⟩
      exact (HU.out.trans HU5.out (fun i h => .inl h)).trans hp2 (fun k hk => .inr (by omega))
end Go.Proofs.YtpmjipokkkkljaaDoor
