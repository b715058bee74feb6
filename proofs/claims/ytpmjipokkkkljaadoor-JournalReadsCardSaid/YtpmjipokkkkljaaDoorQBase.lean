/-
  Part of the proof of cd_card: the lemmas of Base that it uses.
-/
import Derived.Test.YtpmjipokkkkljaaDoorProg
import Derived.Below
import Derived.Deep.Draws
import Derived.Deep.AppendLies
import Derived.Maps.AppendAt
import Derived.OwnWalk
import Derived.Laws.BytesArg
import Derived.Laws.MakeOwn
import Derived.Laws.OwnMore
import Derived.Deep.OwnRows
import Derived.Tactics
import Derived.Lib.ConvBytes
import Derived.Laws.Slices
import Derived.WalkKit
import Derived.KernelRfl
import Derived.RowKit3
import Derived.Deep.LoopGhost
import Derived.Deep.QuietTactic
import Derived.BigQuiet
import Derived.WideLaws
import Derived.Deep.DeepCutAuto
import Derived.Deep.CutBlock
import Derived.Deep.RegionHeld3
import Derived.Laws.Rows
import Derived.Lib.AppendStr
import Derived.ArgAppend
import Derived.Laws.IdiomCopy
import Derived.OrdersHeld
import Derived.Laws.BitsLemmas
import Derived.RowKit
import Derived.Lib.Hide
import Derived.Outline
import Derived.Test.YtpmjipokkkkljaaDoorQWords
import Derived.Test.YtpmjipokkkkljaaDoorQHeads
namespace Go.Proofs.YtpmjipokkkkljaaDoor
set_option linter.all false
set_option linter.unusedVariables false
set_option linter.unusedSimpArgs false
open Go.RowKit Go.Proofs.YtpmjipokkkkljaaDoorW.PrintWords Go.Proofs.YtpmjipokkkkljaaDoorW.PrintLast Go.Proofs.YtpmjipokkkkljaaDoorW.PrintMore
/-- WHAT A CALL KEEPS: the streams, and every block that was there and is none of S. -/
structure Upd (S : Nat → Prop) (w w' : World) : Prop where
  os : w'.os = w.os
  tape : w'.tape = w.tape
  output : w'.output = w.output
  size : w.heap.size ≤ w'.heap.size
  block : ∀ k, k < w.heap.size → ¬ S k → w'.heap[k]? = w.heap[k]?
namespace Upd
variable {S S' : Nat → Prop} {w a b c : World}
theorem refl (S : Nat → Prop) (w : World) : Upd S w w := ⟨rfl, rfl, rfl, Nat.le_refl _, fun _ _ _ => rfl⟩
theorem mono (h : Upd S a b) (hs : ∀ k, S k → S' k) : Upd S' a b := ⟨h.os, h.tape, h.output, h.size, fun k hk hn => h.block k hk (fun h' => hn (hs k h'))⟩
theorem trans (h : Upd S a b) (k : Upd S' b c) (hs : ∀ i, S' i → S i ∨ a.heap.size ≤ i) : Upd S a c :=
  ⟨k.os.trans h.os, k.tape.trans h.tape, k.output.trans h.output, Nat.le_trans h.size k.size, fun i hi hn =>
    (k.block i (Nat.lt_of_lt_of_le hi h.size) (fun h2 => (hs i h2).elim hn (fun h3 => by omega))).trans (h.block i hi hn)⟩
theorem of_below (h : Below a.heap.size a b) (S : Nat → Prop) : Upd S a b := ⟨h.os, h.tape, h.output, h.size, fun k hk _ => h.block k hk⟩
theorem below (h : Upd S a b) {B : Nat} (hB : B ≤ a.heap.size) (hS : ∀ k, S k → B ≤ k) : Below B a b :=
  ⟨h.os, h.tape, h.output, h.size, fun k hk => h.block k (by omega) (fun h' => by have := hS k h'; omega)⟩
theorem below_all (h : Upd (fun _ => False) a b) : Below a.heap.size a b := h.below (Nat.le_refl _) (fun _ h => h.elim)
theorem alloc (h : Upd S a b) (o : Obj) : Upd S a (b.alloc o) := h.trans (of_below ((Below.refl _ _).alloc (Nat.le_refl _) o) (fun _ => False)) (fun _ h => h.elim)
theorem drew (h : Upd S a b) : Upd S a b.drew := ⟨h.os, h.tape, h.output, h.size, h.block⟩
theorem drewN (h : Upd S a b) (n : Nat) : Upd S a (b.drewN n) := ⟨h.os, h.tape, h.output, h.size, h.block⟩
theorem setCell (h : Upd S a b) {p : Addr} (hp : S p.block ∨ a.heap.size ≤ p.block) (u : Value) : Upd S a (b.setCell p u) :=
  h.trans (S' := fun k => k = p.block) ⟨rfl, rfl, rfl, by simp [World.setCell], fun i _ hn => Below.heap_setCell b p u i hn⟩ (fun k hk => by rw [hk]; exact hp)
theorem grown (h : Upd S a b) {row : Option Nat} (hg : b.grownBy c row) (hr : ∀ k, row = some k → S k ∨ a.heap.size ≤ k) : Upd S a c :=
  h.trans (S' := fun k => row = some k) ⟨hg.os, hg.tape, hg.output, hg.size, fun i hi hn => hg.block i hi (fun he => hn he.symm)⟩ hr
theorem mono' (h : Upd S a b) (_hlt : ∀ k, S' k → k < a.heap.size) (hs : ∀ k, S k → S' k ∨ a.heap.size ≤ k) : Upd S' a b :=
  ⟨h.os, h.tape, h.output, h.size, fun k hk hn => h.block k hk (fun h' => (hs k h').elim hn (fun h2 => by omega))⟩
theorem blk (h : Upd S a b) {g : Nat} {o : Obj} (hg : a.heap[g]? = some o) (hne : ¬ S g) : b.heap[g]? = some o :=
  (h.block g (blk_lt hg) hne).trans hg
end Upd
/-- A drawn world is a kept one. -/
theorem Upd.of_drawn {w w' : World} (h : Drawn0 w w') (S : Nat → Prop) : Upd S w w' := by
  obtain ⟨n, rfl⟩ := h.out
  exact (Upd.refl S w).drewN n
/-- A block of cells, whole. -/
def Blk (w : World) (b : Nat) (cs : Array Value) (t : TypeId) : Prop := w.heap[b]? = some (.cells cs t (0, 0))
theorem Blk.lt {w : World} {b : Nat} {cs : Array Value} {t : TypeId} (h : Blk w b cs t) : b < w.heap.size := blk_lt h
theorem Blk.cell {w : World} {b : Nat} {cs : Array Value} {t : TypeId} (h : Blk w b cs t) (i : Nat) (v : Value) (hi : cs[i]? = some v) : w.cell? ⟨b, i, none⟩ = some v := by
  unfold Blk at h
  simp [World.cell?, h, hi]
theorem Blk.frozen {w : World} {b : Nat} {cs : Array Value} {t : TypeId} (h : Blk w b cs t) (i : Nat) : w.frozen? ⟨b, i, none⟩ = false := by
  unfold Blk at h
  simp [World.frozen?, h]
theorem Blk.set {w : World} {b : Nat} {cs : Array Value} {t : TypeId} (h : Blk w b cs t) (i : Nat) (v : Value) : Blk (w.setCell ⟨b, i, none⟩ v) b (cs.setIfInBounds i v) t := by
  unfold Blk at h ⊢
  simp [World.setCell, Array.getElem?_modify, h]
theorem Blk.upd {S : Nat → Prop} {w w' : World} {b : Nat} {cs : Array Value} {t : TypeId} (h : Blk w b cs t) (hu : Upd S w w') (hn : ¬ S b) : Blk w' b cs t := hu.blk h hn
theorem Blk.far {w : World} {b : Nat} {cs : Array Value} {t : TypeId} (h : Blk w b cs t) {p : Addr} (hp : b ≠ p.block) (u : Value) : Blk (w.setCell p u) b cs t := by
  unfold Blk at h ⊢
  rw [Below.heap_setCell _ _ _ _ hp]; exact h
theorem Blk.alloc {w : World} {b : Nat} {cs : Array Value} {t : TypeId} (h : Blk w b cs t) (o : Obj) : Blk (w.alloc o) b cs t := by
  have := h.lt
  unfold Blk at h ⊢
  rw [Below.heap_alloc _ _ _ this]; exact h
theorem Blk.new (w : World) (cs : Array Value) (t : TypeId) : Blk (w.alloc (.cells cs t (0, 0))) w.heap.size cs t := by
  show (w.heap.push _)[w.heap.size]? = _
  simp
theorem Blk.drewN {w : World} {b : Nat} {cs : Array Value} {t : TypeId} (h : Blk w b cs t) (n : Nat) : Blk (w.drewN n) b cs t := h
theorem Blk.drew {w : World} {b : Nat} {cs : Array Value} {t : TypeId} (h : Blk w b cs t) : Blk w.drew b cs t := h
section
variable {P : Program} {ops : Array Oper} {o : Oper} {a : Act} {Q : Exit → Act → World → Prop} {Kc : Act → World → Prop} {α : Type}
/-- An append in a region that draws, the draw outermost; the world is told by a footprint. -/
theorem app_stepD (d : Kd α) {X : World} (s x : Operand) (t e : TypeId) (z : Value) (bytes : Nat) (hw : Region.wanted o (yielded ops a.tmps) = true)
    (ho : o.op = .call { callee := .builtin .append, args := #[s, x], argTypes := #[t, t] })
    (ht : P.underlying t = some (.slice e)) (hinfo : (P.info? e).map (fun i => (i.zero, i.size, i.bytes)) = some (some z, d.sz, bytes)) (hz : z.cells.size = d.sz) (hs0 : 0 < d.sz) (hb0 : 0 < bytes)
    (v : Value) (xs : List α) (p : α) (cs : List Value) (ok : Nat → Prop) (hs : a.eval s = v) (N : Nat) (hx : a.eval x = .slice (some ⟨N, 0, none⟩) 1 1) (hN : X.heap.size = N) (hp : d.M X.drew 0 (fun _ => False) p cs) (hfresh : ∀ k, X.heap.size ≤ k → ok k)
    (HO : d.R e X.drew 0 ok v xs) (hl : (xs.length + 1) * bytes ≤ 140737488355328)
    (h : ∀ v1 w1, d.R e w1 0 ok v1 (xs ++ [p]) → Below 0 X.drew w1 → X.drew.grownBy w1 v.ownBlock → (v1.ownBlock = v.ownBlock ∨ ∃ b, v1.ownBlock = some b ∧ X.heap.size ≤ b) → Kc (a.put o.dst v1) w1) :
    if Region.wanted o (yielded ops a.tmps) = true then Oper.wp P o a ((X.alloc (.cells cs.toArray e)).drew) Kc Q else Kc (a.put o.dst undef) ((X.alloc (.cells cs.toArray e)).drew) :=
  by
  subst hN
  exact Kd.R_append_step (W := X.drew) d (w0 := X.drew) 0 hw s x t e z bytes ho ht hinfo hz hs0 hb0 v xs p cs ok (fun _ => False) hs hx hp (fun _ hk => hk.elim) hfresh HO (Below.refl _ _) (Nat.zero_le _) hl h
end
section
variable {P : Program} {ops : Array Oper} {rest : List Oper} {o : Oper} {a : Act} {Q : Exit → Act → World → Prop} {α : Type}
/-- An append in the order of the text. -/
theorem app_list (d : Kd α) {X : World} (hgd : o.guard = none) (s x : Operand) (t e : TypeId) (z : Value) (bytes : Nat)
    (ho : o.op = .call { callee := .builtin .append, args := #[s, x], argTypes := #[t, t] })
    (ht : P.underlying t = some (.slice e)) (hinfo : (P.info? e).map (fun i => (i.zero, i.size, i.bytes)) = some (some z, d.sz, bytes)) (hz : z.cells.size = d.sz) (hs0 : 0 < d.sz) (hb0 : 0 < bytes)
    (v : Value) (xs : List α) (p : α) (cs : List Value) (ok : Nat → Prop) (hs : a.eval s = v) (N : Nat) (hx : a.eval x = .slice (some ⟨N, 0, none⟩) 1 1) (hN : X.heap.size = N) (hp : d.M X 0 (fun _ => False) p cs) (hfresh : ∀ k, X.heap.size ≤ k → ok k)
    (HO : d.R e X 0 ok v xs) (hl : (xs.length + 1) * bytes ≤ 140737488355328)
    (h : ∀ v1 w1, d.R e w1 0 ok v1 (xs ++ [p]) → Below 0 X w1 → X.grownBy w1 v.ownBlock → (v1.ownBlock = v.ownBlock ∨ ∃ b, v1.ownBlock = some b ∧ X.heap.size ≤ b) → wpList P ops Q rest (a.put o.dst v1) w1) :
    wpList P ops Q (o :: rest) a (X.alloc (.cells cs.toArray e)) := by
  subst hN
  exact Kd.R_append (W := X) d (w0 := X) 0 hgd s x t e z bytes ho ht hinfo hz hs0 hb0 v xs p cs ok (fun _ => False) hs hx hp (fun _ hk => hk.elim) hfresh HO (Below.refl _ _) (Nat.zero_le _) hl h
end
/-- A row of plain elements, over a step that turns no block of its type. -/
theorem R_upd {α : Type} {d : Kd α} {e base : Nat} {w w1 : World} {ok S : Nat → Prop} {v : Value} {xs : List α} (h : d.R e w base ok v xs) (hE : d.E = []) (hu : Upd S w w1)
    (hS : ∀ k cells, w.heap[k]? = some (.cells cells e (0, 0)) → ¬ S k) : d.R e w1 base (fun k => ok k ∧ k < w.heap.size) v xs := by
  refine Kd.R_mono (Kd.R_move (Kd.R_bound h) (fun k hk => ?_)) (fun k hk => ⟨hk.1, hk.2.2.1⟩)
  obtain ⟨_, _, h3, q, hq, cells, hc⟩ := hk
  rw [hE] at hq
  obtain rfl : q = e := by simpa using hq
  exact hu.block k h3 (hS k cells hc)
theorem R_fit {α : Type} {d : Kd α} {e base : Nat} {w : World} {ok : Nat → Prop} {v : Value} {xs : List α} (h : d.R e w base ok v xs) : d.R e w base (fun k => ok k ∧ k < w.heap.size) v xs :=
  Kd.R_mono (Kd.R_bound h) (fun _ hk => ⟨hk.1, hk.2.2.1⟩)
/-- The frame of an append to a row that is one of S. -/
theorem Upd.app {S : Nat → Prop} {a X w1 : World} {v : Value} (h : Upd S a X) (hg : X.grownBy w1 v.ownBlock) (hv : ∀ k, v.ownBlock = some k → S k ∨ a.heap.size ≤ k) : Upd S a w1 := h.grown hg hv
end Go.Proofs.YtpmjipokkkkljaaDoor
