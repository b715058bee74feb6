/-
  Part of the proof of cd_card: the lemmas of OpenM that it uses.
-/
import Derived.Test.YtpmjipokkkkljaaDoorQOpenF
namespace Go.Proofs.YtpmjipokkkkljaaDoor
set_option linter.all false
set_option linter.unusedVariables false
set_option linter.unusedSimpArgs false
open Go.RowKit Go.Proofs.YtpmjipokkkkljaaDoorW.PrintWords Go.Proofs.YtpmjipokkkkljaaDoorW.PrintLast Go.Proofs.YtpmjipokkkkljaaDoorW.PrintMore
/-- The memory ahead of the loop. -/
def OpenA (w : World) (n0 b : Nat) (d : DK) (FD : Nat → Prop) (first : Int) (cnt : Nat) (epoch : Int) (jb pj : Nat) (chain : ByteArray) (W : World) : Prop :=
  Blk W jb (jcells ⟨b, first, cnt, epoch, [], 0, chain⟩ (.slice none 0 0)) 84 ∧ Blk W pj #[.pointer (some ⟨jb, 0, none⟩)] 36 ∧ IsDisk W FD b d ∧ Below n0 w W ∧ n0 ≤ W.heap.size
theorem OpenA.step {w : World} {n0 b : Nat} {d : DK} {FD : Nat → Prop} {first : Int} {cnt : Nat} {epoch : Int} {jb pj : Nat} {chain : ByteArray} {W W' : World} (h : OpenA w n0 b d FD first cnt epoch jb pj chain W) (hb : Below W.heap.size W W') : OpenA w n0 b d FD first cnt epoch jb pj chain W' :=
  ⟨(hb.block _ h.1.lt).trans h.1, (hb.block _ h.2.1.lt).trans h.2.1, h.2.2.1.upd (Upd.of_below hb (fun _ => False)) (fun _ _ h => h), h.2.2.2.1.trans (hb.mono h.2.2.2.2), Nat.le_trans h.2.2.2.2 hb.size⟩
theorem OpenA.put {w : World} {n0 b : Nat} {d : DK} {FD : Nat → Prop} {first : Int} {cnt : Nat} {epoch : Int} {jb pj : Nat} {chain : ByteArray} {W : World} (h : OpenA w n0 b d FD first cnt epoch jb pj chain W) (hj : n0 ≤ jb) (hp : pj ≠ jb) (hf : ∀ k, FD k → k < n0) (c : ByteArray) : OpenA w n0 b d FD first cnt epoch jb pj c (W.setCell ⟨jb, 6, none⟩ (.string c)) := by
  have hu : Upd (fun k => k = jb) W (W.setCell ⟨jb, 6, none⟩ (.string c)) := Upd.setCell (S := fun k => k = jb) (p := ⟨jb, 6, none⟩) (Upd.refl _ W) (.inl rfl) _
  exact ⟨h.1.set 6 _, h.2.1.far (p := ⟨jb, 6, none⟩) hp _, h.2.2.1.upd hu (fun k hk he => by have := hf k hk; omega), h.2.2.2.1.trans (hu.below h.2.2.2.2 (fun k hk => by omega)), Nat.le_trans h.2.2.2.2 hu.size⟩
theorem OpenA.drew {w : World} {n0 b : Nat} {d : DK} {FD : Nat → Prop} {first : Int} {cnt : Nat} {epoch : Int} {jb pj : Nat} {chain : ByteArray} {W : World} (h : OpenA w n0 b d FD first cnt epoch jb pj chain W) : OpenA w n0 b d FD first cnt epoch jb pj chain W.drew := h.step ((Below.refl _ _).drewN' 1)
/-- What a round of Open's loop has in memory; s: the blocks that are the loop's own. -/
def OpenI (w : World) (n0 D b : Nat) (d : DK) (FD : Nat → Prop) (first : Int) (cnt : Nat) (epoch : Int) (jb pj po : Nat) (st : OSt) (s : Nat → Prop) (W : World) : Prop :=
  ∃ rv ov, Blk W jb (jcells ⟨b, first, cnt, epoch, [], st.next, st.chain⟩ rv) 84 ∧ Blk W pj #[.pointer (some ⟨jb, 0, none⟩)] 36 ∧ Blk W po #[ov] 87 ∧
    Kd.string.R 9 W 0 s rv st.recs ∧ kPG.R 90 W 0 s ov st.opn ∧ IsDisk W FD b d ∧ Below n0 w W ∧ s jb ∧ s po ∧ ¬ s pj ∧ (∀ k, s k → n0 ≤ k ∧ k < W.heap.size ∧ k ≠ D ∧ k ≠ D + 1) ∧ n0 ≤ W.heap.size
/-- What is left behind the loop. -/
def OpenE (w : World) (n0 D b : Nat) (d : DK) (FD : Nat → Prop) (first : Int) (cnt : Nat) (epoch : Int) (jb pj : Nat) (st : OSt) (W : World) : Prop :=
  ∃ rv s, Blk W jb (jcells ⟨b, first, cnt, epoch, [], st.next, st.chain⟩ rv) 84 ∧ Blk W pj #[.pointer (some ⟨jb, 0, none⟩)] 36 ∧
    Kd.string.R 9 W 0 s rv st.recs ∧ Below n0 w W ∧ s jb ∧ (∀ k, s k → n0 ≤ k ∧ k < W.heap.size ∧ k ≠ D ∧ k ≠ D + 1) ∧ n0 ≤ W.heap.size
theorem OpenI.upd {w : World} {n0 D b : Nat} {d : DK} {FD : Nat → Prop} {first : Int} {cnt : Nat} {epoch : Int} {jb pj po : Nat} {st : OSt} {s : Nat → Prop} {W W' : World} {S : Nat → Prop} (h : OpenI w n0 D b d FD first cnt epoch jb pj po st s W)
    (hu : Upd S W W') (hS : ∀ k, S k → ¬ s k ∧ k ≠ pj ∧ n0 ≤ k) (hF : ∀ k, FD k → k < n0) : OpenI w n0 D b d FD first cnt epoch jb pj po st s W' := by
  obtain ⟨rv, ov, h1, h2, h3, h4, h5, h6, h7, h8, h9, h10, h11, h12⟩ := h
  have hns : ∀ k, s k → ¬ S k := fun k hk hs => (hS k hs).1 hk
  exact ⟨rv, ov, h1.upd hu (hns _ h8), h2.upd hu (fun hs => (hS _ hs).2.1 rfl), h3.upd hu (hns _ h9), Kd.R_step h4 (fun k hk hlt => hu.block k hlt (hns k hk)), Kd.R_step h5 (fun k hk hlt => hu.block k hlt (hns k hk)),
    h6.upd hu (fun k hk hs => by have := hF k hk; have := (hS k hs).2.2; omega), h7.trans (hu.below h12 (fun k hk => (hS k hk).2.2)), h8, h9, h10, fun k hk => ⟨(h11 k hk).1, Nat.lt_of_lt_of_le (h11 k hk).2.1 hu.size, (h11 k hk).2.2⟩, Nat.le_trans h12 hu.size⟩
theorem OpenI.end_ {w : World} {n0 D b : Nat} {d : DK} {FD : Nat → Prop} {first : Int} {cnt : Nat} {epoch : Int} {jb pj po : Nat} {st : OSt} {s : Nat → Prop} {W : World} (h : OpenI w n0 D b d FD first cnt epoch jb pj po st s W) : OpenE w n0 D b d FD first cnt epoch jb pj st W := by
  obtain ⟨rv, ov, h1, h2, h3, h4, h5, h6, h7, h8, h9, h10, h11, h12⟩ := h
  exact ⟨rv, s, h1, h2, h4, h7, h8, h11, h12⟩
theorem OpenE.upd {w : World} {n0 D b : Nat} {d : DK} {FD : Nat → Prop} {first : Int} {cnt : Nat} {epoch : Int} {jb pj : Nat} {st : OSt} {W W' : World} {S : Nat → Prop} (h : OpenE w n0 D b d FD first cnt epoch jb pj st W)
    (hu : Upd S W W') (hD : n0 ≤ D) (hp : pj < D) (hS : ∀ k, S k → k = D ∨ k = D + 1 ∨ W.heap.size ≤ k) : OpenE w n0 D b d FD first cnt epoch jb pj st W' := by
  obtain ⟨rv, s, h1, h2, h4, h7, h8, h11, h12⟩ := h
  have hns : ∀ k, s k → ¬ S k := fun k hk hs => by
    have := h11 k hk
    have := hS k hs
    omega
  exact ⟨rv, s, h1.upd hu (hns _ h8), h2.upd hu (fun hs => by have := hS _ hs; have := h2.lt; omega), Kd.R_step h4 (fun k hk hlt => hu.block k hlt (hns k hk)), h7.trans (hu.below h12 (fun k hk => by have := hS k hk; omega)), h8,
    fun k hk => ⟨(h11 k hk).1, Nat.lt_of_lt_of_le (h11 k hk).2.1 hu.size, (h11 k hk).2.2⟩, Nat.le_trans h12 hu.size⟩
theorem PagesG.upd {b j : Nat} {d : DK} {FD : Nat → Prop} {first : Int} {cnt : Nat} {epoch : Int} {W W' : World} {S : Nat → Prop} (h : PagesG b j d FD first cnt epoch W) (hu : Upd S W W') (hF : ∀ k, FD k → ¬ S k) (hj : ¬ S j) : PagesG b j d FD first cnt epoch W' := by
  obtain ⟨h1, rv, nx, ch, h2⟩ := h
  exact ⟨h1.upd hu hF, rv, nx, ch, h2.upd hu hj⟩
def OpenPost (w : World) (b : Nat) (d : DK) (first : Int) (cnt : Nat) (epoch : Int) (e : Ending) (w' : World) : Prop :=
  ∃ jb F, e = .returned (.tuple #[.pointer (some ⟨jb, 0, none⟩), .int .i64 0]) ∧ IsJ w' F jb ⟨b, first, cnt, epoch, (openF d epoch first cnt).recs, (openF d epoch first cnt).next, (openF d epoch first cnt).chain⟩ ∧ (∀ k, F k → w.heap.size ≤ k) ∧ Below w.heap.size w w'
theorem OpenE.post {w : World} {n0 D b : Nat} {d : DK} {FD : Nat → Prop} {first : Int} {cnt : Nat} {epoch : Int} {jb pj : Nat} {st : OSt} {W : World} (h : OpenE w n0 D b d FD first cnt epoch jb pj st W) (hn : w.heap.size = n0) (hst : st = openF d epoch first cnt) :
    OpenPost w b d first cnt epoch (.returned (.tuple #[.pointer (some ⟨jb, 0, none⟩), .int .i64 0])) W := by
  obtain ⟨rv, s, h1, h2, h4, h7, h8, h11, h12⟩ := h
  subst hn hst
  exact ⟨jb, s, rfl, ⟨rv, h1, h8, h4, fun k hk => (h11 k hk).2.1⟩, fun k hk => (h11 k hk).1, h7⟩
theorem memE {α : Type} {d : Kd α} {e q : Nat} (hE : d.E = []) (h : q ∈ e :: d.E) : q = e := by
  rw [hE] at h
  simpa using h
theorem builder_below {T e : TypeId} {B b : Nat} {bs : List Value} {w w' : World} (h : Lib.IsBuilder T e B b bs w) (hb : Below w.heap.size w w') : Lib.IsBuilder T e B b bs w' := by
  have one : ∀ p, Lib.BuilderAt T e B b p bs w → Lib.BuilderAt T e B b p bs w' := by
    rintro p ⟨hB, v, h1, h2, h3⟩
    refine ⟨hB, v, (hb.block b (blk_lt h1)).trans h1, ?_, h3⟩
    obtain ⟨hl, h2 | ⟨g, cap, cur, hv, hg, hc, hr⟩⟩ := h2
    · exact ⟨hl, .inl h2⟩
    · exact ⟨hl, .inr ⟨g, cap, cur, hv, hg, (hb.block g (blk_lt hc)).trans hc, hr⟩⟩
  exact h.imp (one _) (one _)
theorem builderF_below {T e : TypeId} {B b : Nat} {bs : List Value} {w w' : World} (h : Lib.IsBuilderF T e B b bs w) (hb : Below w.heap.size w w') : Lib.IsBuilderF T e B b bs w' := by
  have one : ∀ p, Lib.BuilderAtF T e B b p bs w → Lib.BuilderAtF T e B b p bs w' := by
    rintro p ⟨hB, v, h1, h2, h3⟩
    refine ⟨hB, v, (hb.block b (blk_lt h1)).trans h1, ?_, h3⟩
    obtain ⟨hl, h2 | ⟨g, cap, cur, fz, hv, hg, hc, hr⟩⟩ := h2
    · exact ⟨hl, .inl h2⟩
    · exact ⟨hl, .inr ⟨g, cap, cur, fz, hv, hg, (hb.block g (blk_lt hc)).trans hc, hr⟩⟩
  exact h.imp (one _) (one _)
/-- What the loop that joins the pages' data has: the builder bb holds the data of the first i; below bb all is as it was. -/
def JoinR (W4 : World) (bb : Nat) (ps : List PG) (v : Value) (wr : World) : Prop :=
  ∃ i : Nat, i ≤ ps.length ∧ v = .int .i64 i ∧ Lib.IsBuilder 94 5 bb bb (Lib.byteCells (catD (ps.take i)).data.toList) wr ∧ Below bb W4 wr ∧ bb < wr.heap.size
/-- .. and behind it. -/
def JoinE (W4 : World) (bb : Nat) (l : List UInt8) (wr : World) : Prop :=
  Lib.IsBuilderF 94 5 bb bb (Lib.byteCells l) wr ∧ Below bb W4 wr ∧ bb < wr.heap.size
theorem JoinE.step {W4 : World} {bb : Nat} {l : List UInt8} {w w' : World} (h : JoinE W4 bb l w) (hb : Below w.heap.size w w') : JoinE W4 bb l w' :=
  ⟨builderF_below h.1 hb, h.2.1.trans (hb.mono (Nat.le_of_lt h.2.2)), Nat.lt_of_lt_of_le h.2.2 hb.size⟩
theorem Upd.of_above {B : Nat} {w w' : World} (h : Below B w w') : Upd (fun k => B ≤ k) w w' := ⟨h.os, h.tape, h.output, h.size, fun k _ hn => h.block k (by omega)⟩
theorem round_ok {D b jb g : Nat} {d : DK} {FD : Nat → Prop} {first : Int} {cnt : Nat} {epoch : Int} {w : World} {n0 pj po : Nat} {st : OSt} {s s' : Nat → Prop} {W W2 W' : World} (hg : W.heap.size = g) (hu : Upd s W2 W') (hsD : ¬ s D ∧ ¬ s (D + 1))
    (hk : ∀ k, k < g → k ≠ D + 1 → W2.heap[k]? = W.heap[k]?) (hz : W2.heap.size = g + 1) (hi : OpenI w n0 D b d FD first cnt epoch jb pj po st s' W') (hs : ∀ k, s' k → s k ∨ g ≤ k) :
    Keeps D W2 W' ∧ KpS (PagesG b jb d FD first cnt epoch) (D + 1) s s' W W' := by
  refine ⟨⟨s, hu, hsD.1, hsD.2⟩, by have := hu.size; omega, fun k h1 h2 h3 => ?_, fun k h => by rw [hg]; exact hs k h, fun _ => ?_⟩
  · rw [hg] at h1
    exact (hu.block k (by omega) h2).trans (hk k h1 h3)
  · obtain ⟨rv, ov, b1, b2, b3, r4, r5, h6, _⟩ := hi
    exact ⟨h6, rv, _, _, b1⟩
/-- One page more is open. -/
theorem open_app {w : World} {n0 D b : Nat} {d : DK} {FD : Nat → Prop} {first : Int} {cnt : Nat} {epoch : Int} {jb pj po : Nat} {st : OSt} {s : Nat → Prop} {X w1 : World} {rv ov v1 : Value} (p : PG)
    (b1 : Blk X jb (jcells ⟨b, first, cnt, epoch, [], st.next, st.chain⟩ rv) 84) (b2 : Blk X pj #[.pointer (some ⟨jb, 0, none⟩)] 36) (b3 : Blk X po #[ov] 87)
    (r4 : Kd.string.R 9 X 0 s rv st.recs) (r5 : kPG.R 90 X 0 s ov st.opn) (h6 : IsDisk X FD b d) (h7 : Below n0 w X) (h8 : s jb) (h9 : s po) (h10 : ¬ s pj) (h11 : ∀ k, s k → n0 ≤ k ∧ k < X.heap.size ∧ k ≠ D ∧ k ≠ D + 1) (h12 : n0 ≤ X.heap.size)
    (hg : X.grownBy w1 ov.ownBlock) (ho : kPG.R 90 w1 0 (fun k => s k ∨ X.heap.size ≤ k) v1 (st.opn ++ [p])) (hF : ∀ k, FD k → k < n0) (hD : D + 2 ≤ X.heap.size) (hpo : po ≠ jb) (hpp : po ≠ pj) :
    OpenI w n0 D b d FD first cnt epoch jb pj po { st with opn := st.opn ++ [p] } (fun k => s k ∨ (X.heap.size ≤ k ∧ k < w1.heap.size)) (w1.setCell ⟨po, 0, none⟩ v1) ∧ Upd s X (w1.setCell ⟨po, 0, none⟩ v1) := by
  have hty := Kd.R_typed r5
  have hz := hg.size
  have hown : ∀ k, ov.ownBlock = some k → s k := r5.1
  have c1 : Blk w1 jb _ _ := (hg.block jb b1.lt (Kd.R_ne r5 b1 (by decide))).trans b1
  have c2 : Blk w1 pj _ _ := (hg.block pj b2.lt (Kd.R_ne r5 b2 (by decide))).trans b2
  have c3 : Blk w1 po _ _ := (hg.block po b3.lt (Kd.R_ne r5 b3 (by decide))).trans b3
  have u1 : Upd s X w1 := (Upd.refl s X).grown hg (fun k hk => .inl (hown k hk))
  have u2 : Upd s X (w1.setCell ⟨po, 0, none⟩ v1) := Upd.setCell (p := ⟨po, 0, none⟩) u1 (.inl h9) _
  have r4' : Kd.string.R 9 w1 0 s rv st.recs := Kd.R_over' r4 hty (fun q hq => by rw [memE rfl hq]; decide) hg
  refine ⟨⟨rv, v1, c1.far (p := ⟨po, 0, none⟩) hpo.symm _, c2.far (p := ⟨po, 0, none⟩) hpp.symm _, c3.set 0 _, Kd.R_mono (Kd.R_set r4' c3 (fun q hq => by rw [memE rfl hq]; decide) 0 _) (fun k hk => .inl hk), ?_, h6.upd u2 (fun k hk hs => by have := hF k hk; have := h11 k hs; omega), h7.trans (u2.below h12 (fun k hk => (h11 k hk).1)), .inl h8, .inl h9, ?_, ?_, ?_⟩, u2⟩
  · exact Kd.R_mono (R_fit (Kd.R_set ho c3 (fun q hq => by rw [memE rfl hq]; decide) 0 _)) (fun k hk => hk.1.elim .inl (fun h => .inr ⟨h, by simpa using hk.2⟩))
  · rintro (h | h)
    · exact h10 h
    · have := b2.lt; omega
  · rintro k (h | h)
    · have := h11 k h
      exact ⟨this.1, by simp; omega, this.2.2⟩
    · exact ⟨by omega, by simp; omega, by omega, by omega⟩
  · simp; omega
/-- One record more. -/
theorem open_rec {w : World} {n0 D b : Nat} {d : DK} {FD : Nat → Prop} {first : Int} {cnt : Nat} {epoch : Int} {jb pj po : Nat} {st : OSt} {s : Nat → Prop} {X w1 : World} {rv ov v1 : Value} (r : ByteArray)
    (b1 : Blk X jb (jcells ⟨b, first, cnt, epoch, [], st.next, st.chain⟩ rv) 84) (b2 : Blk X pj #[.pointer (some ⟨jb, 0, none⟩)] 36) (b3 : Blk X po #[ov] 87)
    (r4 : Kd.string.R 9 X 0 s rv st.recs) (r5 : kPG.R 90 X 0 s ov st.opn) (h6 : IsDisk X FD b d) (h7 : Below n0 w X) (h8 : s jb) (h9 : s po) (h10 : ¬ s pj) (h11 : ∀ k, s k → n0 ≤ k ∧ k < X.heap.size ∧ k ≠ D ∧ k ≠ D + 1) (h12 : n0 ≤ X.heap.size)
    (hg : X.grownBy w1 rv.ownBlock) (ho : Kd.string.R 9 w1 0 (fun k => s k ∨ X.heap.size ≤ k) v1 (st.recs ++ [r])) (hF : ∀ k, FD k → k < n0) (hD : D + 2 ≤ X.heap.size) (hpo : po ≠ jb) (hpp : pj ≠ jb) :
    OpenI w n0 D b d FD first cnt epoch jb pj po { st with recs := st.recs ++ [r] } (fun k => s k ∨ (X.heap.size ≤ k ∧ k < w1.heap.size)) (w1.setCell ⟨jb, 4, none⟩ v1) ∧ Upd s X (w1.setCell ⟨jb, 4, none⟩ v1) := by
  have hty := Kd.R_typed r4
  have hz := hg.size
  have hown : ∀ k, rv.ownBlock = some k → s k := r4.1
  have c1 : Blk w1 jb _ _ := (hg.block jb b1.lt (Kd.R_ne r4 b1 (by decide))).trans b1
  have c2 : Blk w1 pj _ _ := (hg.block pj b2.lt (Kd.R_ne r4 b2 (by decide))).trans b2
  have c3 : Blk w1 po _ _ := (hg.block po b3.lt (Kd.R_ne r4 b3 (by decide))).trans b3
  have u1 : Upd s X w1 := (Upd.refl s X).grown hg (fun k hk => .inl (hown k hk))
  have u2 : Upd s X (w1.setCell ⟨jb, 4, none⟩ v1) := Upd.setCell (p := ⟨jb, 4, none⟩) u1 (.inl h8) _
  have r5' : kPG.R 90 w1 0 s ov st.opn := Kd.R_over' r5 hty (fun q hq => by rw [memE rfl hq]; decide) hg
  refine ⟨⟨v1, ov, c1.set 4 _, c2.far (p := ⟨jb, 4, none⟩) hpp _, c3.far (p := ⟨jb, 4, none⟩) hpo _, ?_, Kd.R_mono (Kd.R_set r5' c1 (fun q hq => by rw [memE rfl hq]; decide) 4 _) (fun k hk => .inl hk), h6.upd u2 (fun k hk hs => by have := hF k hk; have := h11 k hs; omega), h7.trans (u2.below h12 (fun k hk => (h11 k hk).1)), .inl h8, .inl h9, ?_, ?_, ?_⟩, u2⟩
  · exact Kd.R_mono (R_fit (Kd.R_set ho c1 (fun q hq => by rw [memE rfl hq]; decide) 4 _)) (fun k hk => hk.1.elim .inl (fun h => .inr ⟨h, by simpa using hk.2⟩))
  · rintro (h | h)
    · exact h10 h
    · have := b2.lt; omega
  · rintro k (h | h)
    · have := h11 k h
      exact ⟨this.1, by simp; omega, this.2.2⟩
    · exact ⟨by omega, by simp; omega, by omega, by omega⟩
  · simp; omega
/-- The journal's next page, its chain, and the open pages are set. -/
theorem open_next {w : World} {n0 D b : Nat} {d : DK} {FD : Nat → Prop} {first : Int} {cnt : Nat} {epoch : Int} {jb pj po : Nat} {st : OSt} {s : Nat → Prop} {X : World} (h : OpenI w n0 D b d FD first cnt epoch jb pj po st s X) (n : Nat) (hF : ∀ k, FD k → k < n0) (hpo : po ≠ jb) (hpp : pj ≠ jb) :
    OpenI w n0 D b d FD first cnt epoch jb pj po { st with next := n } s (X.setCell ⟨jb, 5, none⟩ (.int .i64 n)) ∧ Upd s X (X.setCell ⟨jb, 5, none⟩ (.int .i64 n)) := by
  obtain ⟨rv, ov, b1, b2, b3, r4, r5, h6, h7, h8, h9, h10, h11, h12⟩ := h
  have u2 : Upd s X (X.setCell ⟨jb, 5, none⟩ (.int .i64 n)) := Upd.setCell (p := ⟨jb, 5, none⟩) (Upd.refl _ _) (.inl h8) _
  exact ⟨⟨rv, ov, b1.set 5 _, b2.far (p := ⟨jb, 5, none⟩) hpp _, b3.far (p := ⟨jb, 5, none⟩) hpo _, Kd.R_set r4 b1 (fun q hq => by rw [memE rfl hq]; decide) 5 _, Kd.R_set r5 b1 (fun q hq => by rw [memE rfl hq]; decide) 5 _, h6.upd u2 (fun k hk hs => by have := hF k hk; have := h11 k hs; omega), h7.trans (u2.below h12 (fun k hk => (h11 k hk).1)), h8, h9, h10, fun k hk => by simpa using h11 k hk, by simpa using h12⟩, u2⟩
theorem open_chain {w : World} {n0 D b : Nat} {d : DK} {FD : Nat → Prop} {first : Int} {cnt : Nat} {epoch : Int} {jb pj po : Nat} {st : OSt} {s : Nat → Prop} {X : World} (h : OpenI w n0 D b d FD first cnt epoch jb pj po st s X) (c : ByteArray) (hF : ∀ k, FD k → k < n0) (hpo : po ≠ jb) (hpp : pj ≠ jb) :
    OpenI w n0 D b d FD first cnt epoch jb pj po { st with chain := c } s (X.setCell ⟨jb, 6, none⟩ (.string c)) ∧ Upd s X (X.setCell ⟨jb, 6, none⟩ (.string c)) := by
  obtain ⟨rv, ov, b1, b2, b3, r4, r5, h6, h7, h8, h9, h10, h11, h12⟩ := h
  have u2 : Upd s X (X.setCell ⟨jb, 6, none⟩ (.string c)) := Upd.setCell (p := ⟨jb, 6, none⟩) (Upd.refl _ _) (.inl h8) _
  exact ⟨⟨rv, ov, b1.set 6 _, b2.far (p := ⟨jb, 6, none⟩) hpp _, b3.far (p := ⟨jb, 6, none⟩) hpo _, Kd.R_set r4 b1 (fun q hq => by rw [memE rfl hq]; decide) 6 _, Kd.R_set r5 b1 (fun q hq => by rw [memE rfl hq]; decide) 6 _, h6.upd u2 (fun k hk hs => by have := hF k hk; have := h11 k hs; omega), h7.trans (u2.below h12 (fun k hk => (h11 k hk).1)), h8, h9, h10, fun k hk => by simpa using h11 k hk, by simpa using h12⟩, u2⟩
theorem open_nil {w : World} {n0 D b : Nat} {d : DK} {FD : Nat → Prop} {first : Int} {cnt : Nat} {epoch : Int} {jb pj po : Nat} {st : OSt} {s : Nat → Prop} {X : World} (h : OpenI w n0 D b d FD first cnt epoch jb pj po st s X) (hF : ∀ k, FD k → k < n0) (hpo : po ≠ jb) (hpp : po ≠ pj) :
    OpenI w n0 D b d FD first cnt epoch jb pj po { st with opn := [] } s (X.setCell ⟨po, 0, none⟩ (.slice none 0 0)) ∧ Upd s X (X.setCell ⟨po, 0, none⟩ (.slice none 0 0)) := by
  obtain ⟨rv, ov, b1, b2, b3, r4, r5, h6, h7, h8, h9, h10, h11, h12⟩ := h
  have u2 : Upd s X (X.setCell ⟨po, 0, none⟩ (.slice none 0 0)) := Upd.setCell (p := ⟨po, 0, none⟩) (Upd.refl _ _) (.inl h9) _
  exact ⟨⟨rv, .slice none 0 0, b1.far (p := ⟨po, 0, none⟩) hpo.symm _, b2.far (p := ⟨po, 0, none⟩) hpp.symm _, b3.set 0 _, Kd.R_set r4 b3 (fun q hq => by rw [memE rfl hq]; decide) 0 _, Kd.R_nil _ _ _ _ _, h6.upd u2 (fun k hk hs => by have := hF k hk; have := h11 k hs; omega), h7.trans (u2.below h12 (fun k hk => (h11 k hk).1)), h8, h9, h10, fun k hk => by simpa using h11 k hk, by simpa using h12⟩, u2⟩
end Go.Proofs.YtpmjipokkkkljaaDoor
