/-
  Part of the proof of cd_card: the lemmas of Range that it uses.
-/
import Derived.RangeFuncNested
import Derived.RangeFuncBound
import Derived.RangeFuncCalls
import Derived.RangeFuncLeaves
import Derived.Shelf.Abstract
import Derived.Shelf.RegionOpen
import Derived.OwnWalkIn
import Derived.TacticsInMore
import Derived.LoopNIn
import Derived.LoopIn
import Derived.Test.YtpmjipokkkkljaaDoorQBase
namespace Go.Proofs.YtpmjipokkkkljaaDoor
set_option linter.all false
set_option linter.unusedVariables false
set_option linter.unusedSimpArgs false
open Go.RowKit Go.Proofs.YtpmjipokkkkljaaDoorW.PrintWords
/-- A step that turns the loop's record alone. -/
def Book (D : Nat) (W W' : World) : Prop := Upd (fun k => k = D + 1) W W' ∧ W'.heap.size = W.heap.size
/-- A step that leaves both blocks of the loop's book-keeping. -/
def Keeps (D : Nat) (W W' : World) : Prop := ∃ S : Nat → Prop, Upd S W W' ∧ ¬ S D ∧ ¬ S (D + 1)
theorem Book.put (W : World) (D : Nat) (o : Obj) : Book D W (W.putObj (D + 1) o) :=
  ⟨⟨rfl, rfl, rfl, by simp [World.putObj], fun k _ hn => World.putObj_heap_other hn⟩, by simp [World.putObj]⟩
def loopPost {α : Type} (D : Nat) (Kp : World → World → Prop) (I : List α → World → Prop) (Ix : Code → List α → World → Prop) (xs : List α) (W W2 : World) : Exit → Act → World → Prop
  | .normal, _, W' => Keeps D W2 W' ∧ Kp W W' ∧ I xs W'
  | .ret, _, W' => Keeps D W2 W' ∧ Ix .ret xs W'
  | .exit id, _, W' => Keeps D W2 W' ∧ Ix (.exit id) xs W'
  | .goto t, _, W' => Keeps D W2 W' ∧ Ix (.goto t) xs W'
  | .panic _, _, _ => False
  | .outgrown, _, _ => False
/-- WHAT AN ITERATOR IS PROVED TO DO: it hands its elements to yield one after the other; M bounds the rounds that a body lets it go on for. -/
def IterC {α : Type} (P : Program) (gf : Nat) (args : Nat → Array Value) (encs : α → Array Value) (Kp : World → World → Prop) (S Sp : List α → Prop) (M : Nat) (w0 : World) : Prop :=
  ∀ (l : Nat) (J Jx : List α → World → Prop) (W : World), Below w0.heap.size w0 W → (∀ s W W', J s W → Below W.heap.size W W' → J s W') → (∀ s W W', Jx s W → Below W.heap.size W W' → Jx s W') →
    (∀ pre W, J pre W → pre.length ≤ M) →
    (∀ pre x W1, J pre W1 → YieldAt Fence.wide 6 P l (encs x) W1 fun e W' =>
      (e = .returned (.bool true) ∧ J (pre ++ [x]) W' ∧ Kp W1 W') ∨ (e = .returned (.bool false) ∧ Jx (pre ++ [x]) W')) →
    J [] W →
    CallsIn Fence.wide 7 P gf (args l) W fun e W' => (∃ v, e = .returned v) ∧ ((∃ xs, S xs ∧ J xs W') ∨ (∃ pre, Sp pre ∧ Jx pre W'))
theorem rangeFunc_law {α : Type} {P : Program} {g : Operand} {ps : Array Tmp} {assign body : Code} {Q : Exit → Act → World → Prop} {a : Act} {w w0 : World} {gf : Nat} {lb : Array Value} {ars args : Nat → Array Value}
    (hres : ∀ l W, (resolve a.eval (rangeCall g l) 0).run P W = .ok { target := .fn (.func gf) lb, args := ars l } W)
    (hinv : ∀ l W, (invoke (.fn (.func gf) lb) (ars l)).run P W = .ok (.enter gf (args l)) W)
    {encs : α → Array Value} {Kp : World → World → Prop} {S Sp : List α → Prop} {M : Nat} (hseq : IterC P gf args encs Kp S Sp M w0) (hb0 : Below w0.heap.size w0 w) (hps : ∀ x, (encs x).size = ps.size)
    (hKt : ∀ {A B C : World}, Kp A B → Kp B C → Kp A C) (hKb : ∀ W W', Book w.heap.size W W' → Kp W W')
    (I : List α → World → Prop) (Ix : Code → List α → World → Prop)
    (hI : ∀ s W W', I s W → Upd (fun k => k = w.heap.size ∨ k = w.heap.size + 1) W W' → I s W')
    (hIx : ∀ c s W W', Ix c s W → Upd (fun k => k = w.heap.size ∨ k = w.heap.size + 1) W W' → Ix c s W')
    (hM : ∀ pre W, I pre W → pre.length ≤ M) (h0 : I [] w)
    (hround : ∀ (pre : List α) (x : α) (W : World), I pre W → w.heap.size + 2 ≤ W.heap.size →
      assign.wpIn (Fence.wide.inRound (w.heap.size + 1)) 6 P (Exit.then (fun a' W' => Keeps w.heap.size W W' ∧ ∀ W2, Book w.heap.size W' W2 →
          body.wpIn (Fence.wide.inRound (w.heap.size + 1)) 6 P (loopPost w.heap.size Kp I Ix (pre ++ [x]) W W2) a' W2) (fun _ _ _ => False))
        { tmps := (ps.zip (encs x)).foldl (fun t (p, v) => t.setIfInBounds p v) a.tmps, defers := [] } W)
    (hdone : ∀ (xs : List α) (W : World), S xs → I xs W → W.heap[w.heap.size]? = some (.deferred (some [])) → Q .normal { a with defers := { target := .collected w.heap.size, args := #[] } :: a.defers } W)
    (hstop : ∀ (c : Code) (pre : List α) (W : World), Sp pre → Ix c pre W → W.heap[w.heap.size]? = some (.deferred (some [])) → c.wpIn Fence.wide 8 P Q { a with defers := { target := .collected w.heap.size, args := #[] } :: a.defers } W) :
    (Code.rangeFunc g ps assign body).wpIn Fence.wide 8 P Q a w := by
  refine wpIn_rangeFunc fun fn hfn => ?_
  generalize hD : w.heap.size = D at *
  let rec_ : LoopState → Option Code → Loop := fun st pe => { state := st, pending := pe, fn, tmps := a.tmps, params := ps, assign, body, defers := D }
  have hrec : rec_ = fun st pe => { state := st, pending := pe, fn, tmps := a.tmps, params := ps, assign, body, defers := D } := rfl
  clear_value rec_
  let W1 := (w.alloc (.deferred (some []))).alloc (.loop (rec_ .ready none))
  have hW1 : W1 = (w.alloc (.deferred (some []))).alloc (.loop (rec_ .ready none)) := rfl
  clear_value W1
  have hu1 : Upd (fun k => k = D ∨ k = D + 1) w W1 := by rw [hW1]; exact ((Upd.refl _ w).alloc _).alloc _
  have hz1 : W1.heap.size = D + 2 := by rw [hW1]; simp [hD]
  have hL1 : W1.heap[D + 1]? = some (.loop (rec_ .ready none)) := by
    rw [hW1, ← hD]
    have := World.alloc_heap_new (w.alloc (.deferred (some []))) (.loop (rec_ .ready none))
    rwa [World.size_alloc] at this
  have hK1 : W1.heap[D]? = some (.deferred (some [])) := by
    rw [hW1, ← hD]
    exact (Below.heap_alloc _ _ _ (by simp)).trans (World.alloc_heap_new w _)
  have hb1 : Below w0.heap.size w0 W1 := hb0.trans ((hu1.below (B := w0.heap.size) hb0.size (fun k hk => by have := hb0.size; omega)))
  refine ⟨D + 1, [{ target := .collected D, args := #[] }], W1, { target := .fn (.func gf) lb, args := ars (D + 1) }, W1, gf, args (D + 1), W1, ?_, hres _ _, fun _ _ => trivial, hinv _ _, (fun _ => by omega), ?_⟩
  · rw [hW1, hrec, ← hD]; exact run_enterLoop_outer _ _ _ _ _
  · refine (hseq (D + 1)
      (fun pre W => I pre W ∧ W.heap[D + 1]? = some (.loop (rec_ .ready none)) ∧ W.heap[D]? = some (.deferred (some [])))
      (fun pre W => ∃ c, Ix c pre W ∧ W.heap[D + 1]? = some (.loop (rec_ .done (some c))) ∧ W.heap[D]? = some (.deferred (some [])))
      W1 hb1
      (fun s A B hs hb => ⟨hI _ _ _ hs.1 (Upd.of_below hb _), (hb.block _ (blk_lt hs.2.1)).trans hs.2.1, (hb.block _ (blk_lt hs.2.2)).trans hs.2.2⟩)
      (fun s A B hs hb => by
        obtain ⟨c, hc, hl, hk⟩ := hs
        exact ⟨c, hIx _ _ _ _ hc (Upd.of_below hb _), (hb.block _ (blk_lt hl)).trans hl, (hb.block _ (blk_lt hk)).trans hk⟩)
      (fun pre W h => hM pre W h.1) ?_ ⟨hI _ _ _ h0 hu1, hL1, hK1⟩).mono ?_
    · rintro pre x W ⟨hi, hl, hk⟩
      have hlt := blk_lt hl
      have hy := run_yield (P := P) (args := encs x) hl (by rw [hrec]; exact hps x)
      rw [hrec] at hy
      refine ⟨fn, _, assign, body, hy, roundIn_of_wpIn hfn (wpIn_mono (hround pre x W hi (by omega)) ?_)⟩
      rintro e a' Wa hq
      cases e with
      | normal =>
        obtain ⟨⟨Sa, hua, hna, hnb⟩, hbody⟩ := hq
        have hla : Wa.heap[D + 1]? = some (.loop (rec_ .ready none)) := (hua.block _ hlt hnb).trans hl
        have hka : Wa.heap[D]? = some (.deferred (some [])) := (hua.block _ (blk_lt hk) hna).trans hk
        refine ⟨_, run_beginRound hla (by rw [hrec]), ?_⟩
        have hb2 := Book.put Wa D (.loop { rec_ .ready none with state := .busy })
        refine wpIn_mono (hbody _ hb2) ?_
        have hl2 : (Wa.putObj (D + 1) (.loop { rec_ .ready none with state := .busy })).heap[D + 1]? = some (.loop { rec_ .ready none with state := .busy }) := World.putObj_heap_same (blk_lt hla)
        have hk2 : (Wa.putObj (D + 1) (.loop { rec_ .ready none with state := .busy })).heap[D]? = some (.deferred (some [])) := (World.putObj_heap_other (by omega)).trans hka
        have fin : ∀ (jump : Option Code) (W3 : World), Keeps D (Wa.putObj (D + 1) (.loop { rec_ .ready none with state := .busy })) W3 →
            (Instr.endRound (D + 1) jump).run P W3 = .ok (.bool jump.isNone) (W3.putObj (D + 1) (.loop (rec_ (if jump.isNone then .ready else .done) jump))) ∧
            (W3.putObj (D + 1) (.loop (rec_ (if jump.isNone then .ready else .done) jump))).heap[D + 1]? = some (.loop (rec_ (if jump.isNone then .ready else .done) jump)) ∧
            (W3.putObj (D + 1) (.loop (rec_ (if jump.isNone then .ready else .done) jump))).heap[D]? = some (.deferred (some [])) := by
          rintro jump W3 ⟨Sb, hub, hnc, hnd⟩
          have hl3 := (hub.block _ (blk_lt hl2) hnd).trans hl2
          have hk3 := (hub.block _ (blk_lt hk2) hnc).trans hk2
          have := run_endRound (P := P) jump hl3
          rw [hrec] at this ⊢
          exact ⟨this, World.putObj_heap_same (blk_lt hl3), (World.putObj_heap_other (by omega)).trans hk3⟩
        have put : ∀ (W3 : World) (o : Obj), Upd (fun k => k = D ∨ k = D + 1) W3 (W3.putObj (D + 1) o) := fun W3 o => (Book.put W3 D o).1.mono (fun _ h => .inr h)
        rintro e a3 W3 hp
        cases e with
        | normal =>
          obtain ⟨hk3, hkp3, hi3⟩ := hp
          obtain ⟨hr, hl4, hk4⟩ := fin none W3 hk3
          exact ⟨_, _, hr, .inl ⟨rfl, ⟨hI _ _ _ hi3 (put _ _), hl4, hk4⟩, hKt hkp3 (hKb _ _ (Book.put _ _ _))⟩⟩
        | ret =>
          obtain ⟨hk3, hi3⟩ := hp
          obtain ⟨hr, hl4, hk4⟩ := fin (some .ret) W3 hk3
          exact ⟨_, _, hr, .inr ⟨rfl, .ret, hIx _ _ _ _ hi3 (put _ _), hl4, hk4⟩⟩
        | exit id =>
          obtain ⟨hk3, hi3⟩ := hp
          obtain ⟨hr, hl4, hk4⟩ := fin (some (.exit id)) W3 hk3
          exact ⟨_, _, hr, .inr ⟨rfl, .exit id, hIx _ _ _ _ hi3 (put _ _), hl4, hk4⟩⟩
        | goto t =>
          obtain ⟨hk3, hi3⟩ := hp
          obtain ⟨hr, hl4, hk4⟩ := fin (some (.goto t)) W3 hk3
          exact ⟨_, _, hr, .inr ⟨rfl, .goto t, hIx _ _ _ _ hi3 (put _ _), hl4, hk4⟩⟩
        | panic ch => exact hp.elim
        | outgrown => exact hp.elim
      | ret => exact hq.elim
      | exit id => exact hq.elim
      | goto t => exact hq.elim
      | panic ch => exact hq.elim
      | outgrown => exact hq.elim
    · have put : ∀ (W3 : World) (o : Obj), Upd (fun k => k = D ∨ k = D + 1) W3 (W3.putObj (D + 1) o) := fun W3 o => (Book.put W3 D o).1.mono (fun _ h => .inr h)
      rintro e W2 ⟨⟨v, rfl⟩, (⟨xs, hS, hi, hl, hk⟩ | ⟨pre, hSp, c, hi, hl, hk⟩)⟩
      · exact ⟨none, _, by have := run_endLoop (P := P) hl (by rw [hrec]; simp); rw [hrec] at this; exact this, hdone xs _ hS (hI _ _ _ hi (put _ _)) ((World.putObj_heap_other (by omega)).trans hk)⟩
      · exact ⟨some c, _, by have := run_endLoop (P := P) hl (by rw [hrec]; simp); rw [hrec] at this; exact this, hstop c pre _ hSp (hIx _ _ _ _ hi (put _ _)) ((World.putObj_heap_other (by omega)).trans hk)⟩
end Go.Proofs.YtpmjipokkkkljaaDoor
