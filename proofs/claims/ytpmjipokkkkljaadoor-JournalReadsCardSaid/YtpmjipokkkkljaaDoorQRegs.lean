/-
  Part of the proof of cd_card: the lemmas of Regs that it uses.
-/
import Derived.Test.YtpmjipokkkkljaaDoorQBase
import Derived.BigQuiet
import Derived.Test.YtpmjipokkkkljaaDoorQRange
import Derived.OrdersIn
import Derived.StillTail
import Derived.OrdersHeld
namespace Go.Proofs.YtpmjipokkkkljaaDoor
set_option linter.all false
set_option linter.unusedVariables false
set_option linter.unusedSimpArgs false
open Go.RowKit Go.Proofs.YtpmjipokkkkljaaDoorW.PrintWords
/-- A world of the class. -/
structure InC (C : World → Prop) where
  w : World
  h : C w
theorem wp_region_sub {P : Program} {id : Nat} {Q : Exit → Act → World → Prop} {a : Act} {w : World} {l : List Oper} (C : World → Prop) (hm : P.follows .mixedOrders = true) (hB : Region.lexB .any l.toArray = true) (hC : C w.drew)
    (h : Nonempty (InC C) → wpQuiet P l.toArray (fun w' => ∃ p : InC C, w' = p.w) (fun a' => ∀ w', (∃ p : InC C, w' = p.w) → Q .normal a' w') l a) : (Code.region id l.toArray true).wp P Q a w :=
  wp_region_quiet (C := fun w' => ∃ p : InC C, w' = p.w) hm hB ⟨⟨_, hC⟩, rfl⟩ (by simpa using h ⟨⟨_, hC⟩⟩)
/-- A call whose contract keeps the class. -/
theorem Calls.sub {P : Program} {f : FuncId} {args : Array Value} {C : World → Prop} {v : Value} {p : InC C}
    (h : Calls P f args p.w fun e w' => e = .returned v ∧ C w') : Calls P f args p.w fun e w'' => e = .returned v ∧ ∃ q : InC C, w'' = q.w :=
  h.mono fun _ w' ⟨he, hc⟩ => ⟨he, ⟨w', hc⟩, rfl⟩
end Go.Proofs.YtpmjipokkkkljaaDoor
namespace Go.Proofs.YtpmjipokkkkljaaDoor
set_option linter.all false
set_option linter.unusedVariables false
set_option linter.unusedSimpArgs false
open Go.RowKit Go.Proofs.YtpmjipokkkkljaaDoorW.PrintWords
/-- What a round keeps: it writes into the blocks of s, into the loop's record l and into new ones; s' is what is the body's then. -/
def KpS (G : World → Prop) (l : Nat) (s s' : Nat → Prop) (W W' : World) : Prop :=
  W.heap.size ≤ W'.heap.size ∧ (∀ k, k < W.heap.size → ¬ s k → k ≠ l → W'.heap[k]? = W.heap[k]?) ∧ (∀ k, s' k → s k ∨ W.heap.size ≤ k) ∧ (G W → G W')
def loopPostS {α : Type} (D : Nat) (G : World → Prop) (s : Nat → Prop) (I : (Nat → Prop) → List α → World → Prop) (Ix : Code → List α → World → Prop) (xs : List α) (W W2 : World) : Exit → Act → World → Prop
  | .normal, _, W' => Keeps D W2 W' ∧ ∃ s', KpS G (D + 1) s s' W W' ∧ I s' xs W'
  | .ret, _, W' => Keeps D W2 W' ∧ Ix .ret xs W'
  | .exit id, _, W' => Keeps D W2 W' ∧ Ix (.exit id) xs W'
  | .goto t, _, W' => Keeps D W2 W' ∧ Ix (.goto t) xs W'
  | .panic _, _, _ => False
  | .outgrown, _, _ => False
/-- WHAT AN ITERATOR IS PROVED TO DO: it hands its elements to yield one after the other. -/
def IterS {α : Type} (P : Program) (gf : Nat) (args : Nat → Array Value) (encs : α → Array Value) (G : World → Prop) (S Sp : List α → Prop) (w0 : World) : Prop :=
  ∀ (l : Nat) (J : (Nat → Prop) → List α → World → Prop) (Jx : List α → World → Prop) (s0 : Nat → Prop) (W : World), Below w0.heap.size w0 W → l < W.heap.size →
    (∀ s pre W W', J s pre W → Below W.heap.size W W' → J s pre W') → (∀ pre W W', Jx pre W → Below W.heap.size W W' → Jx pre W') →
    (∀ s pre W, J s pre W → ∀ k, s k → k < W.heap.size) →
    (∀ s pre x W1, Sp (pre ++ [x]) → J s pre W1 → YieldAt Fence.wide 6 P l (encs x) W1 fun e W' =>
      (e = .returned (.bool true) ∧ ∃ s', KpS G l s s' W1 W' ∧ J s' (pre ++ [x]) W') ∨ (e = .returned (.bool false) ∧ Jx (pre ++ [x]) W')) →
    J s0 [] W →
    CallsIn Fence.wide 7 P gf (args l) W fun e W' => (∃ v, e = .returned v) ∧ ((∃ s xs, S xs ∧ J s xs W') ∨ (∃ pre, Sp pre ∧ Jx pre W'))
theorem rangeFunc_lawS {α : Type} {P : Program} {g : Operand} {ps : Array Tmp} {assign body : Code} {Q : Exit → Act → World → Prop} {a : Act} {w w0 : World} {gf : Nat} {lb : Array Value} {ars args : Nat → Array Value}
    (hres : ∀ l W, (resolve a.eval (rangeCall g l) 0).run P W = .ok { target := .fn (.func gf) lb, args := ars l } W)
    (hinv : ∀ l W, (invoke (.fn (.func gf) lb) (ars l)).run P W = .ok (.enter gf (args l)) W)
    {encs : α → Array Value} {G : World → Prop} {S Sp : List α → Prop} (hseq : IterS P gf args encs G S Sp w0) (hb0 : Below w0.heap.size w0 w) (hps : ∀ x, (encs x).size = ps.size)
    (hGb : ∀ W W', Book w.heap.size W W' → G W → G W')
    (I : (Nat → Prop) → List α → World → Prop) (Ix : Code → List α → World → Prop) (s0 : Nat → Prop)
    (hI : ∀ s pre W W', I s pre W → Upd (fun k => k = w.heap.size ∨ k = w.heap.size + 1) W W' → I s pre W')
    (hIx : ∀ c s W W', Ix c s W → Upd (fun k => k = w.heap.size ∨ k = w.heap.size + 1) W W' → Ix c s W')
    (hBd : ∀ s pre W, I s pre W → ∀ k, s k → k < W.heap.size) (h0 : I s0 [] w)
    (hround : ∀ (s : Nat → Prop) (pre : List α) (x : α) (W : World), Sp (pre ++ [x]) → I s pre W → w.heap.size + 2 ≤ W.heap.size →
      assign.wpIn (Fence.wide.inRound (w.heap.size + 1)) 6 P (Exit.then (fun a' W' => Keeps w.heap.size W W' ∧ ∀ W2, Book w.heap.size W' W2 →
          body.wpIn (Fence.wide.inRound (w.heap.size + 1)) 6 P (loopPostS w.heap.size G s I Ix (pre ++ [x]) W W2) a' W2) (fun _ _ _ => False))
        { tmps := (ps.zip (encs x)).foldl (fun t (p, v) => t.setIfInBounds p v) a.tmps, defers := [] } W)
    (hdone : ∀ (s : Nat → Prop) (xs : List α) (W : World), S xs → I s xs W → W.heap[w.heap.size]? = some (.deferred (some [])) → Q .normal { a with defers := { target := .collected w.heap.size, args := #[] } :: a.defers } W)
    (hstop : ∀ (c : Code) (pre : List α) (W : World), Sp pre → Ix c pre W → W.heap[w.heap.size]? = some (.deferred (some [])) → c.wpIn Fence.wide 8 P Q { a with defers := { target := .collected w.heap.size, args := #[] } :: a.defers } W) :
    (Code.rangeFunc g ps assign body).wpIn Fence.wide 8 P Q a w := by
  refine wpIn_rangeFunc fun fn hfn => ?_
  generalize hD : w.heap.size = D at *
  let rec_ : LoopState → Option Code → Loop := fun st pe => { state := st, pending := pe, fn, tmps := a.tmps, params := ps, assign, body, defers := D }
  have hrec : rec_ = fun st pe => { state := st, pending := pe, fn, tmps := a.tmps, params := ps, assign, body, defers := D } := rfl
  clear_value rec_
  let W1 := (w.alloc (.deferred (some []))).alloc (.loop (rec_ .ready none))
  have hW1 : W1 = (w.alloc (.deferred (some []))).alloc (.loop (rec_ .ready none)) := rfl
  clear_value W1
  have hu1 : Upd (fun k => k = D ∨ k = D + 1) w W1 := by rw [hW1]; exact ((Upd.refl _ w).alloc _).alloc _
  have hz1 : W1.heap.size = D + 2 := by rw [hW1]; simp [hD]
  have hL1 : W1.heap[D + 1]? = some (.loop (rec_ .ready none)) := by
    rw [hW1, ← hD]
    have := World.alloc_heap_new (w.alloc (.deferred (some []))) (.loop (rec_ .ready none))
    rwa [World.size_alloc] at this
  have hK1 : W1.heap[D]? = some (.deferred (some [])) := by
    rw [hW1, ← hD]
    exact (Below.heap_alloc _ _ _ (by simp)).trans (World.alloc_heap_new w _)
  have hb1 : Below w0.heap.size w0 W1 := hb0.trans ((hu1.below (B := w0.heap.size) hb0.size (fun k hk => by have := hb0.size; omega)))
  refine ⟨D + 1, [{ target := .collected D, args := #[] }], W1, { target := .fn (.func gf) lb, args := ars (D + 1) }, W1, gf, args (D + 1), W1, ?_, hres _ _, fun _ _ => trivial, hinv _ _, (fun _ => by omega), ?_⟩
  · rw [hW1, hrec, ← hD]; exact run_enterLoop_outer _ _ _ _ _
  · refine (hseq (D + 1)
      (fun s pre W => I s pre W ∧ W.heap[D + 1]? = some (.loop (rec_ .ready none)) ∧ W.heap[D]? = some (.deferred (some [])))
      (fun pre W => ∃ c, Ix c pre W ∧ W.heap[D + 1]? = some (.loop (rec_ .done (some c))) ∧ W.heap[D]? = some (.deferred (some [])))
      s0 W1 hb1 (by omega)
      (fun s pre A B hs hb => ⟨hI _ _ _ _ hs.1 (Upd.of_below hb _), (hb.block _ (blk_lt hs.2.1)).trans hs.2.1, (hb.block _ (blk_lt hs.2.2)).trans hs.2.2⟩)
      (fun s A B hs hb => by
        obtain ⟨c, hc, hl, hk⟩ := hs
        exact ⟨c, hIx _ _ _ _ hc (Upd.of_below hb _), (hb.block _ (blk_lt hl)).trans hl, (hb.block _ (blk_lt hk)).trans hk⟩)
      (fun s pre W h => hBd s pre W h.1) ?_ ⟨hI _ _ _ _ h0 hu1, hL1, hK1⟩).mono ?_
    · rintro s pre x W hsp ⟨hi, hl, hk⟩
      have hlt := blk_lt hl
      have hy := run_yield (P := P) (args := encs x) hl (by rw [hrec]; exact hps x)
      rw [hrec] at hy
      refine ⟨fn, _, assign, body, hy, roundIn_of_wpIn hfn (wpIn_mono (hround s pre x W hsp hi (by omega)) ?_)⟩
      rintro e a' Wa hq
      cases e with
      | normal =>
        obtain ⟨⟨Sa, hua, hna, hnb⟩, hbody⟩ := hq
        have hla : Wa.heap[D + 1]? = some (.loop (rec_ .ready none)) := (hua.block _ hlt hnb).trans hl
        have hka : Wa.heap[D]? = some (.deferred (some [])) := (hua.block _ (blk_lt hk) hna).trans hk
        refine ⟨_, run_beginRound hla (by rw [hrec]), ?_⟩
        have hb2 := Book.put Wa D (.loop { rec_ .ready none with state := .busy })
        refine wpIn_mono (hbody _ hb2) ?_
        have hl2 : (Wa.putObj (D + 1) (.loop { rec_ .ready none with state := .busy })).heap[D + 1]? = some (.loop { rec_ .ready none with state := .busy }) := World.putObj_heap_same (blk_lt hla)
        have hk2 : (Wa.putObj (D + 1) (.loop { rec_ .ready none with state := .busy })).heap[D]? = some (.deferred (some [])) := (World.putObj_heap_other (by omega)).trans hka
        have fin : ∀ (jump : Option Code) (W3 : World), Keeps D (Wa.putObj (D + 1) (.loop { rec_ .ready none with state := .busy })) W3 →
            (Instr.endRound (D + 1) jump).run P W3 = .ok (.bool jump.isNone) (W3.putObj (D + 1) (.loop (rec_ (if jump.isNone then .ready else .done) jump))) ∧
            (W3.putObj (D + 1) (.loop (rec_ (if jump.isNone then .ready else .done) jump))).heap[D + 1]? = some (.loop (rec_ (if jump.isNone then .ready else .done) jump)) ∧
            (W3.putObj (D + 1) (.loop (rec_ (if jump.isNone then .ready else .done) jump))).heap[D]? = some (.deferred (some [])) := by
          rintro jump W3 ⟨Sb, hub, hnc, hnd⟩
          have hl3 := (hub.block _ (blk_lt hl2) hnd).trans hl2
          have hk3 := (hub.block _ (blk_lt hk2) hnc).trans hk2
          have := run_endRound (P := P) jump hl3
          rw [hrec] at this ⊢
          exact ⟨this, World.putObj_heap_same (blk_lt hl3), (World.putObj_heap_other (by omega)).trans hk3⟩
        have put : ∀ (W3 : World) (o : Obj), Upd (fun k => k = D ∨ k = D + 1) W3 (W3.putObj (D + 1) o) := fun W3 o => (Book.put W3 D o).1.mono (fun _ h => .inr h)
        rintro e a3 W3 hp
        cases e with
        | normal =>
          obtain ⟨hk3, s', hkp3, hi3⟩ := hp
          obtain ⟨hr, hl4, hk4⟩ := fin none W3 hk3
          refine ⟨_, _, hr, .inl ⟨rfl, s', ⟨by simpa [World.putObj] using hkp3.1, fun k hk1 hk2 hk5 => ?_, hkp3.2.2.1, fun hg => hGb _ _ (Book.put _ _ _) (hkp3.2.2.2 hg)⟩, hI _ _ _ _ hi3 (put _ _), hl4, hk4⟩⟩
          exact (World.putObj_heap_other hk5).trans (hkp3.2.1 k hk1 hk2 hk5)
        | ret =>
          obtain ⟨hk3, hi3⟩ := hp
          obtain ⟨hr, hl4, hk4⟩ := fin (some .ret) W3 hk3
          exact ⟨_, _, hr, .inr ⟨rfl, .ret, hIx _ _ _ _ hi3 (put _ _), hl4, hk4⟩⟩
        | exit id =>
          obtain ⟨hk3, hi3⟩ := hp
          obtain ⟨hr, hl4, hk4⟩ := fin (some (.exit id)) W3 hk3
          exact ⟨_, _, hr, .inr ⟨rfl, .exit id, hIx _ _ _ _ hi3 (put _ _), hl4, hk4⟩⟩
        | goto t =>
          obtain ⟨hk3, hi3⟩ := hp
          obtain ⟨hr, hl4, hk4⟩ := fin (some (.goto t)) W3 hk3
          exact ⟨_, _, hr, .inr ⟨rfl, .goto t, hIx _ _ _ _ hi3 (put _ _), hl4, hk4⟩⟩
        | panic ch => exact hp.elim
        | outgrown => exact hp.elim
      | ret => exact hq.elim
      | exit id => exact hq.elim
      | goto t => exact hq.elim
      | panic ch => exact hq.elim
      | outgrown => exact hq.elim
    · have put : ∀ (W3 : World) (o : Obj), Upd (fun k => k = D ∨ k = D + 1) W3 (W3.putObj (D + 1) o) := fun W3 o => (Book.put W3 D o).1.mono (fun _ h => .inr h)
      rintro e W2 ⟨⟨v, rfl⟩, (⟨s, xs, hS, hi, hl, hk⟩ | ⟨pre, hSp, c, hi, hl, hk⟩)⟩
      · exact ⟨none, _, by have := run_endLoop (P := P) hl (by rw [hrec]; simp); rw [hrec] at this; exact this, hdone s xs _ hS (hI _ _ _ _ hi (put _ _)) ((World.putObj_heap_other (by omega)).trans hk)⟩
      · exact ⟨some c, _, by have := run_endLoop (P := P) hl (by rw [hrec]; simp); rw [hrec] at this; exact this, hstop c pre _ hSp (hIx _ _ _ _ hi (put _ _)) ((World.putObj_heap_other (by omega)).trans hk)⟩
end Go.Proofs.YtpmjipokkkkljaaDoor
namespace Go.Proofs.YtpmjipokkkkljaaDoor
set_option linter.all false
set_option linter.unusedVariables false
set_option linter.unusedSimpArgs false
open Go.RowKit Go.Proofs.YtpmjipokkkkljaaDoorW.PrintWords
theorem callsR {P : Program} {l n : Nat} {f : FuncId} {args : Array Value} {w : World} {R : Ending → World → Prop} (h : Calls P f args w R) : CallsIn (Fence.wide.inRound l) n P f args w R :=
  (callsIn_wide (n := n)).2 h
theorem Oper.wpIn_of_wp {P : Program} {l n : Nat} {o : Oper} {a : Act} {w : World} {K : Act → World → Prop} {Q : Exit → Act → World → Prop} (hnd : ∀ c, o.op ≠ .defer c) (h : o.wp P a w K Q) : o.wpIn (Fence.wide.inRound l) n P a w K Q := by
  refine ⟨fun _ _ => trivial, ?_⟩
  rw [Oper.semAt_eq _ _ _ hnd]
  unfold Oper.wp at h
  generalize (execOp a.eval o).run P w = r at *
  cases r with
  | ok x w' =>
    cases x <;> simp only [Oper.upon] at h <;> simp only [Oper.uponIn] <;> first
      | exact h
      | exact h.elim
      | exact ⟨fun h => by simp [Fence.wide, Fence.inRound] at h, callsR h⟩
      | exact ⟨fun h => by simp [Fence.wide, Fence.inRound] at h, fun c cs _ => let ⟨v, w', r, s⟩ := h c cs; ⟨v, w', r, stepsIn_wide.2 s⟩⟩
  | halt x w' => cases x <;> simp only [Oper.upon] at h <;> simp only [Oper.uponIn] <;> exact h
/-- One operation by a law of the list of operations outside the round. -/
theorem wpListIn_one {P : Program} {l n : Nat} {ops : Array Oper} {o : Oper} {rest : List Oper} {a : Act} {w : World} {Q : Exit → Act → World → Prop} (hnd : ∀ c, o.op ≠ .defer c) (hQ : ∀ a w, ¬ Q .outgrown a w)
    (h : wpList P ops (Exit.then (wpListIn (Fence.wide.inRound l) n P ops Q rest) Q) [o] a w) : wpListIn (Fence.wide.inRound l) n P ops Q (o :: rest) a w := by
  simp only [wpList] at h
  simp only [wpListIn]
  by_cases hw : Region.wanted o (yielded ops a.tmps) = true
  · rw [if_pos hw] at h ⊢
    have h := h.resolve_right (fun hh => let ⟨a, w, hx⟩ := hh.2; hQ a w hx)
    have := Oper.wpIn_of_wp (l := l) (n := n) hnd h
    unfold Oper.wpIn at this ⊢
    refine ⟨this.1, ?_⟩
    have h2 := this.2
    generalize (o.semAt (Fence.wide.inRound l).round a.eval).run P w = r at *
    cases r with
    | ok x w' => cases x <;> simp only [Oper.uponIn] at h2 ⊢ <;> first
        | exact h2
        | exact ⟨h2.1, CallsIn.mono h2.2 (fun e w'' he => by cases e <;> first | exact he | exact (let ⟨a, w, hx⟩ := he; hQ a w hx).elim)⟩
        | exact ⟨h2.1, RoundIn.mono h2.2 (fun e w'' he => by cases e <;> first | exact he | exact (let ⟨a, w, hx⟩ := he; hQ a w hx).elim)⟩
    | halt x w' => cases x <;> simp only [Oper.uponIn] at h2 ⊢ <;> exact h2
  · rw [if_neg hw] at h ⊢
    exact ⟨fun _ _ => trivial, h⟩
def noDefer (ops : List Oper) : Bool := ops.all fun o => match o.op with | .defer _ => false | _ => true
theorem noDefer_spec {ops : List Oper} (h : noDefer ops = true) {o : Oper} (ho : o ∈ ops) (c : Call) : o.op ≠ .defer c := fun e => by
  have := List.all_eq_true.1 h o ho
  rw [e] at this
  cases this
theorem wpOpIn_of_qOp {P : Program} {l n : Nat} {ops : Array Oper} {C : World → Prop} (hnd : ∀ o ∈ ops.toList, ∀ c, o.op ≠ .defer c) {i : Nat} {a : Act} {K : Act → Prop} {K' : Act → World → Prop} {Q' : Exit → Act → World → Prop} {w : World} (hC : C w) (h : ∀ a w', C w' → K a → K' a w') (hh : qOp P ops C i K a) : wpOpIn (Fence.wide.inRound l) n P ops Q' i K' a w := by
  unfold qOp at hh
  unfold wpOpIn
  split
  · rename_i ho; simp only [ho] at hh; exact h _ _ hC hh
  · rename_i o ho
    simp only [ho] at hh
    have hm : o ∈ ops.toList := by
      have := Array.mem_of_getElem? ho
      simpa using this
    split
    · rename_i hw; simp only [hw, if_true] at hh; exact Oper.wpIn_of_wp (hnd o hm) (Oper.wp_of_quiet hC h hh)
    · rename_i hw; simp only [hw] at hh; exact ⟨fun _ _ => trivial, h _ _ hC hh⟩
theorem wpAnyIn_of_quiet {P : Program} {l n : Nat} {md : Region.Mode} {ops : Array Oper} {C : World → Prop} (hnd : ∀ o ∈ ops.toList, ∀ c, o.op ≠ .defer c) {Q : Act → Prop} {Q' : Exit → Act → World → Prop} (hQ : ∀ a w, C w → Q a → Q' .normal a w) : ∀ (fuel : Nat) (listed : Array Bool) (a : Act) (w : World), C w →
    wpAnyQ P md ops C Q fuel listed a → wpAnyIn (Fence.wide.inRound l) n P md ops Q' fuel listed a w
  | 0, _, _, _, hw, h => ⟨h.1, hQ _ _ hw h.2⟩
  | fuel + 1, _, _, _, hw, h => ⟨fun h0 => hQ _ _ hw (h.1 h0), fun i hi => wpOpIn_of_qOp hnd hw (fun a' w' hw' => wpAnyIn_of_quiet hnd hQ fuel _ a' w' hw') (h.2 i hi)⟩
/-- A drawn region inside a round, whose operations read and whose calls keep a class of worlds: one walk in the order of the text. -/
theorem wpIn_region_sub {P : Program} {lp n : Nat} {id : Nat} {Q : Exit → Act → World → Prop} {a : Act} {w : World} {l : List Oper} (C : World → Prop) (hm : P.follows .mixedOrders = true) (hB : Region.lexB .any l.toArray = true) (hnd : noDefer l = true) (hC : C w.drew)
    (h : Nonempty (InC C) → wpQuiet P l.toArray (fun w' => ∃ p : InC C, w' = p.w) (fun a' => ∀ w', (∃ p : InC C, w' = p.w) → Q .normal a' w') l a) : (Code.region id l.toArray true).wpIn (Fence.wide.inRound lp) n P Q a w := by
  simp only [Region.lexB, Bool.and_eq_true] at hB
  refine wpIn_region_any hm (wpAnyIn_of_quiet (C := fun w' => ∃ p : InC C, w' = p.w) (Q := fun a' => ∀ w', (∃ p : InC C, w' = p.w) → Q .normal a' w') (fun o ho => noDefer_spec hnd (by simpa using ho)) (fun _ w' hw' h => h w' hw') _ _ _ _ ⟨⟨_, hC⟩, rfl⟩ ?_)
  have := wpAnyQ_lex (C := fun w' => ∃ p : InC C, w' = p.w) (md := .any) hB.1 l 0 (Array.replicate l.toArray.size false) a (by simp) (by simpa using hB.2) (h ⟨⟨_, hC⟩⟩)
  simpa using this
end Go.Proofs.YtpmjipokkkkljaaDoor
namespace Go.Proofs.YtpmjipokkkkljaaDoor
set_option linter.all false
set_option linter.unusedVariables false
set_option linter.unusedSimpArgs false
open Go.RowKit Go.Proofs.YtpmjipokkkkljaaDoorW.PrintWords
section
variable {P : Program} {ops : Array Oper} {md : Region.Mode} {C : World → Prop}
def wpAnyQL (P : Program) (md : Region.Mode) (ops : Array Oper) (C : World → Prop) (n : Nat) (L : Array Bool → Act → Prop) : Nat → Array Bool → Act → Prop
  | 0, listed, a => L listed a
  | f + 1, listed, a =>
    Region.ready md ops listed ≠ [] ∧ ∀ i ∈ Region.ready md ops listed, i < n ∧ qOp P ops C i (wpAnyQL P md ops C n L f (listed.setIfInBounds i true)) a
theorem wpAny_of_headQ {n g : Nat} {L : Array Bool → Act → Prop} {Q' : Exit → Act → World → Prop} (hL : ∀ listed a w, C w → L listed a → wpAny P md ops Q' g listed a w) :
    ∀ (f : Nat) (listed : Array Bool) (a : Act) (w : World), C w → wpAnyQL P md ops C n L f listed a → wpAny P md ops Q' (f + g) listed a w
  | 0, listed, a, w, hw, h => by rw [Nat.zero_add]; exact hL _ _ _ hw h
  | f + 1, listed, a, w, hw, h => by
    rw [show f + 1 + g = (f + g) + 1 by omega]
    exact ⟨fun h0 => absurd h0 h.1, fun i hi => wpOp_of_qOp hw (fun a' w' hw' h' => wpAny_of_headQ hL f _ a' w' hw' h') (h.2 i hi).2⟩
theorem wpAnyIn_of_headQ {lp m : Nat} (hnd : ∀ o ∈ ops.toList, ∀ c, o.op ≠ .defer c) {n g : Nat} {L : Array Bool → Act → Prop} {Q' : Exit → Act → World → Prop} (hL : ∀ listed a w, C w → L listed a → wpAnyIn (Fence.wide.inRound lp) m P md ops Q' g listed a w) :
    ∀ (f : Nat) (listed : Array Bool) (a : Act) (w : World), C w → wpAnyQL P md ops C n L f listed a → wpAnyIn (Fence.wide.inRound lp) m P md ops Q' (f + g) listed a w
  | 0, listed, a, w, hw, h => by rw [Nat.zero_add]; exact hL _ _ _ hw h
  | f + 1, listed, a, w, hw, h => by
    rw [show f + 1 + g = (f + g) + 1 by omega]
    exact ⟨fun h0 => absurd h0 h.1, fun i hi => wpOpIn_of_qOp hnd hw (fun a' w' hw' h' => wpAnyIn_of_headQ hnd hL f _ a' w' hw' h') (h.2 i hi).2⟩
theorem wpAnyQL_first {n i : Nat} {oi : Oper} {v : Value} {L : Array Bool → Act → Prop} (hi : ops[i]? = some oi) (hsel : ∀ (j : Nat) (o : Oper) cs b, ops[j]? = some o → o.op ≠ .select cs b)
    (hs : Region.sinkB md ops n = true) (hc : Region.chainB md ops n = true) (hn : n < ops.size) (hin : i < n)
    (hdone : ∀ listed a, L listed a → ∀ j ∈ Region.ready md ops listed, n ≤ j) :
    ∀ (f : Nat) (listed : Array Bool) (a : Act), HeadInv md ops n listed →
      (∀ j oj, ops[j]? = some oj → j ≠ i → listed.getD j true = false → (∀ e ∈ oj.after, Region.binds md e = true → e.on ≠ i) → oi.apart ops oj = true) →
      i ∈ Region.ready md ops listed → YieldsIn P ops C oi v a →
      wpAnyQL P md ops C n L f (listed.setIfInBounds i true) (a.put oi.dst v) → wpAnyQL P md ops C n L (f + 1) listed a := by
  intro f
  induction f with
  | zero =>
    intro listed a inv _ hr hy H
    have hun := (mem_ready.1 hr).1
    refine ⟨fun h => (by rw [h] at hr; cases hr), fun j hj => ?_⟩
    have hjn : j < n := by
      rcases Nat.lt_or_ge j n with h | h
      · exact h
      · exact absurd hj (tail_waits hs hc hn inv _ i rfl hin hun j h)
    refine ⟨hjn, ?_⟩
    by_cases hji : j = i
    · subst hji; exact hy.qOp hi H
    · have := hdone _ _ H j (ready_mono hj hji)
      omega
  | succ f ih =>
    intro listed a inv hfree hr hy H
    have hun := (mem_ready.1 hr).1
    refine ⟨fun h => (by rw [h] at hr; cases hr), fun j hj => ?_⟩
    have hjn : j < n := by
      rcases Nat.lt_or_ge j n with h | h
      · exact h
      · exact absurd hj (tail_waits hs hc hn inv _ i rfl hin hun j h)
    refine ⟨hjn, ?_⟩
    by_cases hji : j = i
    · subst hji; exact hy.qOp hi H
    · have h1 := (H.2 j (ready_mono hj hji)).2
      obtain ⟨hjun, oj, hoj, hall⟩ := mem_ready.1 hj
      have hnot : ∀ e ∈ oj.after, Region.binds md e = true → e.on ≠ i := fun e he hb heq => by
        have h1 := hall e he hb
        rw [heq, getD_both hun] at h1
        cases h1
      have h2 := qOp_put hoj (hfree j oj hoj hji hjun hnot) (fun cs b => hsel i oi cs b hi) (fun cs b => hsel j oj cs b hoj) hy h1
      have hfree' : ∀ k ok, ops[k]? = some ok → k ≠ i → (listed.setIfInBounds j true).getD k true = false →
          (∀ e ∈ ok.after, Region.binds md e = true → e.on ≠ i) → oi.apart ops ok = true := fun k ok hk hki hun hno => by
        refine hfree k ok hk hki ?_ hno
        by_cases hjk : j = k
        · subst hjk; exact hjun
        · rw [getD_set_ne true hjk] at hun; exact hun
      refine qOp_mono (fun a' h3 => ih (listed.setIfInBounds j true) a' (inv.set hj hjn) hfree' (ready_mono hr (Ne.symm hji)) h3.1 ?_) h2
      rw [Array.setIfInBounds_comm _ _ hji]
      exact h3.2
theorem wpAnyQL_lex {n g : Nat} {Lq : Act → Prop} (hsel : Region.noSelect ops = true) (hs : Region.sinkB md ops n = true) (hc : Region.chainB md ops n = true) (hn : n < ops.size) :
    ∀ (l : List Oper) (k : Nat) (listed : Array Bool) (a : Act), (∀ j, j < l.length → l[j]? = ops[k + j]?) → k + l.length = n → HeadInv md ops n listed →
    Region.lexHead md ops g l.length k listed = true → wpQuiet P ops C Lq l a →
    wpAnyQL P md ops C n (fun listed' a' => Region.seqB md ops g n listed' = true ∧ Lq a') l.length listed a
  | [], k, listed, a, _, hk, _, hB, h => by
    have : k = n := by simpa using hk
    subst this
    exact ⟨by simpa [Region.lexHead] using hB, h⟩
  | o :: l, k, listed, a, hl, hk, inv, hB, h => by
    have h0 : ops[k]? = some o := by simpa using (hl 0 (by simp)).symm
    simp only [List.length_cons, Region.lexHead, Bool.and_eq_true] at hB
    obtain ⟨⟨hr, hf⟩, hB'⟩ := hB
    have hkn : k < n := by simp only [List.length_cons] at hk; omega
    have hr' : k ∈ Region.ready md ops listed := by simpa using hr
    have hst : qOp P ops C k (wpQuiet P ops C Lq l) a := by unfold qOp; simp only [h0]; exact h
    obtain ⟨v, hy, hK⟩ := yieldsIn_of_qOp h0 hst
    exact wpAnyQL_first h0 (Region.noSelect_spec hsel) hs hc hn hkn (fun listed' a' hL => seqB_ready hL.1) l.length listed a inv (Region.free_spec h0 hf) hr' hy
      (wpAnyQL_lex hsel hs hc hn l (k + 1) _ _ (fun j hj => by have := hl (j + 1) (by simp; omega); simpa [Nat.add_assoc, Nat.add_comm 1 j] using this) (by simp only [List.length_cons] at hk; omega) (inv.set hr' hkn) hB' hK)
theorem wpAnyIn_of_seq {F : Fence} {m : Nat} {Q' : Exit → Act → World → Prop} : ∀ (l : List Oper) (k : Nat) (listed : Array Bool) (a : Act) (w : World), (∀ j, l[j]? = ops[k + j]?) →
    Region.seqB md ops l.length k listed = true → wpListIn F m P ops Q' l a w → wpAnyIn F m P md ops Q' l.length listed a w
  | [], _, _, _, _, _, hB, h => ⟨by simpa [Region.seqB] using hB, h⟩
  | o :: l, k, listed, a, w, hl, hB, h => by
    have h0 : ops[k]? = some o := by simpa using (hl 0).symm
    simp only [List.length_cons, Region.seqB, Bool.and_eq_true, decide_eq_true_eq] at hB
    refine ⟨fun h1 => (by rw [hB.1] at h1; cases h1), fun i hi => ?_⟩
    rw [hB.1] at hi
    have hik : i = k := by simpa using hi
    subst hik
    have hw : wpOpIn F m P ops Q' i (wpListIn F m P ops Q' l) a w := by unfold wpOpIn; simp only [h0]; exact h
    exact wpOpIn_mono (fun a' w' h' => wpAnyIn_of_seq l (i + 1) _ a' w' (fun j => by have := hl (j + 1); simpa [Nat.add_assoc, Nat.add_comm 1 j] using this) hB.2 h') hw
end
theorem tail_prep {P : Program} {C : World → Prop} {a : Act} {l : List Oper} {n : Nat} (hB : Region.lexTailB .any l.toArray n = true) {Lq : Act → Prop} (h : wpQuiet P l.toArray C Lq (l.take n) a) :
    wpAnyQL P .any l.toArray C n (fun listed' a' => Region.seqB .any l.toArray (l.toArray.size - n) n listed' = true ∧ Lq a') n (Array.replicate l.toArray.size false) a ∧ (l.drop n).length = l.toArray.size - n ∧ n + (l.toArray.size - n) = l.toArray.size := by
  simp only [Region.lexTailB, Bool.and_eq_true, decide_eq_true_eq] at hB
  obtain ⟨⟨⟨⟨hsel, hn⟩, hs⟩, hc⟩, hlex⟩ := hB
  have hn' : n < l.length := by simpa using hn
  have htl : (l.take n).length = n := by simp; omega
  have inv0 : HeadInv .any l.toArray n (Array.replicate l.toArray.size false) :=
    ⟨by simp, fun j oj _ hl => (by rw [getD_replicate_false] at hl; cases hl), fun t _ ht => getD_in (by simpa using ht) (getD_replicate_false _ _)⟩
  have H := wpAnyQL_lex (md := .any) (g := l.toArray.size - n) hsel hs hc hn (l.take n) 0 _ a (fun j hj => by
    have hj' : j < n := by rw [htl] at hj; exact hj
    simp [hj']) (by simpa using htl) inv0 (by rw [htl]; exact hlex) h
  rw [htl] at H
  exact ⟨H, by simp, by omega⟩
theorem wp_region_tail {P : Program} {id : Nat} {Q : Exit → Act → World → Prop} {a : Act} {w : World} {l : List Oper} (n : Nat) (C : World → Prop) (hm : P.follows .mixedOrders = true) (hB : Region.lexTailB .any l.toArray n = true) (hC : C w.drew)
    (h : Nonempty (InC C) → wpQuiet P l.toArray (fun w' => ∃ p : InC C, w' = p.w) (fun a' => ∀ w', (∃ p : InC C, w' = p.w) → wpList P l.toArray Q (l.drop n) a' w') (l.take n) a) : (Code.region id l.toArray true).wp P Q a w := by
  obtain ⟨H, hdl, hsz⟩ := tail_prep hB (h ⟨⟨_, hC⟩⟩)
  refine wp_region_any hm ?_
  have := wpAny_of_headQ (Q' := Q) (g := l.toArray.size - n) (fun listed a' w' hw hL => by
    have := wpAny_of_seq (md := .any) (Q' := Q) (l.drop n) n listed a' w' (fun j => by simp [List.getElem?_drop]) (by rw [hdl]; exact hL.1) (hL.2 w' hw)
    rwa [hdl] at this) _ _ _ { w with drawn := w.drawn + 1 } ⟨⟨_, hC⟩, rfl⟩ H
  rwa [hsz] at this
theorem wpIn_region_tail {P : Program} {lp m : Nat} {id : Nat} {Q : Exit → Act → World → Prop} {a : Act} {w : World} {l : List Oper} (n : Nat) (C : World → Prop) (hm : P.follows .mixedOrders = true) (hB : Region.lexTailB .any l.toArray n = true) (hnd : noDefer l = true) (hC : C w.drew)
    (h : Nonempty (InC C) → wpQuiet P l.toArray (fun w' => ∃ p : InC C, w' = p.w) (fun a' => ∀ w', (∃ p : InC C, w' = p.w) → wpListIn (Fence.wide.inRound lp) m P l.toArray Q (l.drop n) a' w') (l.take n) a) : (Code.region id l.toArray true).wpIn (Fence.wide.inRound lp) m P Q a w := by
  obtain ⟨H, hdl, hsz⟩ := tail_prep hB (h ⟨⟨_, hC⟩⟩)
  refine wpIn_region_any hm ?_
  have := wpAnyIn_of_headQ (Q' := Q) (g := l.toArray.size - n) (lp := lp) (m := m) (fun o ho => noDefer_spec hnd (by simpa using ho)) (fun listed a' w' hw hL => by
    have := wpAnyIn_of_seq (md := .any) (Q' := Q) (l.drop n) n listed a' w' (fun j => by simp [List.getElem?_drop]) (by rw [hdl]; exact hL.1) (hL.2 w' hw)
    rwa [hdl] at this) _ _ _ { w with drawn := w.drawn + 1 } ⟨⟨_, hC⟩, rfl⟩ H
  rwa [hsz] at this
end Go.Proofs.YtpmjipokkkkljaaDoor
namespace Go.Proofs.YtpmjipokkkkljaaDoor
set_option linter.all false
set_option linter.unusedVariables false
set_option linter.unusedSimpArgs false
open Go.RowKit Go.Proofs.YtpmjipokkkkljaaDoorW.PrintWords
section
variable {P : Program} {ops : Array Oper} {md : Region.Mode} {Q : Exit → Act → World → Prop} {S : World → Prop}
def wpAnyK (P : Program) (md : Region.Mode) (ops : Array Oper) (Q : Exit → Act → World → Prop) (S : World → Prop) (lim : Nat) : Nat → Array Bool → Act → World → Prop
  | 0, listed, a, w => Region.ready md ops listed = [] ∧ Q .normal a w
  | fuel + 1, listed, a, w =>
    (Region.ready md ops listed = [] → Q .normal a w) ∧
    ∀ i ∈ Region.ready md ops listed, wpOp P ops Q i (fun a' w' => (i < lim → S w') ∧ wpAnyK P md ops Q S lim fuel (listed.setIfInBounds i true) a' w') a w
theorem wpOpIn_of_wpOp {lp m : Nat} (hnd : ∀ o ∈ ops.toList, ∀ c, o.op ≠ .defer c) (hQ : ∀ a w, ¬ Q .outgrown a w) {i : Nat} {K : Act → World → Prop} {a : Act} {w : World} (h : wpOp P ops Q i K a w) : wpOpIn (Fence.wide.inRound lp) m P ops Q i K a w := by
  unfold wpOp at h
  unfold wpOpIn
  split
  · rename_i ho; simp only [ho] at h; exact h
  · rename_i o ho
    simp only [ho] at h
    have hm : o ∈ ops.toList := by
      have := Array.mem_of_getElem? ho
      simpa using this
    split
    · rename_i hw
      simp only [hw, if_true] at h
      exact Oper.wpIn_of_wp (hnd o hm) (h.resolve_right (fun hh => let ⟨a, w, hx⟩ := hh.2; hQ a w hx))
    · rename_i hw; simp only [hw] at h; exact ⟨fun _ _ => trivial, h⟩
theorem wpAnyIn_of_K {lp m lim : Nat} (hnd : ∀ o ∈ ops.toList, ∀ c, o.op ≠ .defer c) (hQ : ∀ a w, ¬ Q .outgrown a w) : ∀ (fuel : Nat) (listed : Array Bool) (a : Act) (w : World), wpAnyK P md ops Q S lim fuel listed a w → wpAnyIn (Fence.wide.inRound lp) m P md ops Q fuel listed a w
  | 0, _, _, _, h => h
  | fuel + 1, _, _, _, h => ⟨h.1, fun i hi => wpOpIn_mono (fun a' w' h' => wpAnyIn_of_K hnd hQ fuel _ a' w' h'.2) (wpOpIn_of_wpOp hnd hQ (h.2 i hi))⟩
theorem wpAnyK_first {lim i : Nat} {oi : Oper} {v : Value} (hi : ops[i]? = some oi) (hlim : i < lim) (hw : ∀ j, lim ≤ j → j < ops.size → Region.waitsFor md ops j i = true) (hsel : ∀ (j : Nat) (o : Oper) cs b, ops[j]? = some o → o.op ≠ .select cs b)
    (hQ : ∀ c a w, Q (.panic c) (a.put oi.dst v) w → Q (.panic c) a w) :
    ∀ (fuel : Nat) (listed : Array Bool) (a : Act) (w : World),
      (∀ j oj, ops[j]? = some oj → j ≠ i → listed.getD j true = false → (∀ e ∈ oj.after, Region.binds md e = true → e.on ≠ i) → oi.apart ops oj = true) →
      i ∈ Region.ready md ops listed → YieldsIf P ops S oi v a → S w →
      wpAnyK P md ops Q S lim fuel (listed.setIfInBounds i true) (a.put oi.dst v) w → wpAnyK P md ops Q S lim (fuel + 1) listed a w := by
  intro fuel
  induction fuel with
  | zero =>
    intro listed a w _ hr hy hS H
    refine ⟨fun h => (by rw [h] at hr; cases hr), fun j hj => ?_⟩
    by_cases hji : j = i
    · subst hji; exact hy.wpOp hi hS ⟨fun _ => hS, H⟩
    · have := ready_mono hj hji
      rw [H.1] at this
      cases this
  | succ fuel ih =>
    intro listed a w hfree hr hy hS H
    refine ⟨fun h => (by rw [h] at hr; cases hr), fun j hj => ?_⟩
    by_cases hji : j = i
    · subst hji; exact hy.wpOp hi hS ⟨fun _ => hS, H⟩
    · have h1 := H.2 j (ready_mono hj hji)
      obtain ⟨hjun, oj, hoj, hall⟩ := mem_ready.1 hj
      have hnot : ∀ e ∈ oj.after, Region.binds md e = true → e.on ≠ i := fun e he hb heq => by
        have h1 := hall e he hb
        have h0 := (mem_ready.1 hr).1
        rw [heq] at h1
        rcases Nat.lt_or_ge i listed.size with h' | h'
        · simp [h'] at h0 h1; rw [h0] at h1; cases h1
        · simp [Array.getElem?_eq_none h'] at h1
      have hjl : j < lim := by
        rcases Nat.lt_or_ge j lim with h | h
        · exact h
        · obtain ⟨o', ho', e, he, hb, hon⟩ := Region.waitsFor_spec (hw j h (Array.getElem?_eq_some_iff.1 hoj).1)
          have : o' = oj := Option.some.inj (ho'.symm.trans hoj)
          subst this
          exact absurd hon (hnot e he hb)
      have h2 := wpOp_putIf hoj (hfree j oj hoj hji hjun hnot) (fun cs b => hsel i oi cs b hi) (fun cs b => hsel j oj cs b hoj) hQ hy h1
      have hfree' : ∀ k ok, ops[k]? = some ok → k ≠ i → (listed.setIfInBounds j true).getD k true = false →
          (∀ e ∈ ok.after, Region.binds md e = true → e.on ≠ i) → oi.apart ops ok = true := fun k ok hk hki hun hno => by
        refine hfree k ok hk hki ?_ hno
        by_cases hjk : j = k
        · subst hjk; exact hjun
        · rw [getD_set_ne true hjk] at hun; exact hun
      refine wpOp_mono (fun a' w' h3 => ⟨fun _ => h3.2.1 hjl, ih (listed.setIfInBounds j true) a' w' hfree' (ready_mono hr (Ne.symm hji)) h3.1 (h3.2.1 hjl) ?_⟩) h2
      rw [Array.setIfInBounds_comm _ _ hji]
      exact h3.2.2
/-- The operations that are taken first. -/
def floatB (o : Oper) : Bool := match o.op with | .move _ | .assign _ | .load .. | .nilCheck _ | .fieldAddr .. => true | _ => false
theorem float_enter {o : Oper} (h : floatB o = true) {ρ : Operand → Value} {w w' : World} {n : Next} (hr : (execOp ρ o).run P w = .ok n w') : ∃ u, n = .value u := by
  unfold execOp at hr
  unfold floatB at h
  cases ho : o.op <;> simp only [ho] at h hr <;> first | (cases h; done) | skip
  all_goals first
    | (simp only [Sem.run_pure] at hr; injection hr with h1 _; exact ⟨_, h1.symm⟩)
    | (simp only [Sem.run_bind] at hr
       rename_i x y
       generalize Sem.run P _ w = r at hr
       cases r with
       | ok a w1 => simp [Result.andThen] at hr; exact ⟨_, hr.1.symm⟩
       | halt x w1 => simp [Result.andThen] at hr)
    | skip
  split at hr
  · simp [runtimePanic, goPanic, Result.andThen] at hr
  · simp [runtimePanic, goPanic, Result.andThen] at hr
  · simp [runtimePanic, goPanic, Result.andThen] at hr
  · split at hr
    · simp [runtimePanic, goPanic, Result.andThen] at hr
    · rename_i t w2 _
      simp only [Sem.run_bind] at hr
      generalize hx : Sem.run P program w = r at hr
      cases r with
      | halt x w1 => simp [Result.andThen] at hr
      | ok a w1 =>
        simp only [Result.andThen] at hr
        generalize Sem.run P (nilAhead _ _ _ _) w1 = r2 at hr
        cases r2 with
        | halt x w3 => simp at hr
        | ok a2 w3 =>
          simp only [] at hr
          split at hr
          · simp [unsupported, Result.andThen] at hr
          · simp at hr; exact ⟨_, hr.1.symm⟩
    · simp at hr; exact ⟨_, hr.1.symm⟩
  · simp at hr; exact ⟨_, hr.1.symm⟩
theorem yieldsIf_of_in {o : Oper} {v : Value} {a : Act} (hf : floatB o = true) (h : YieldsIn P ops (fun w' => ∃ p : InC S, w' = p.w) o v a) : YieldsIf P ops S o v a := by
  rcases h with ⟨hw, h⟩ | h
  · refine .inl ⟨hw, fun w hS => ?_⟩
    have h1 := h w ⟨⟨w, hS⟩, rfl⟩
    unfold Oper.quietAt at h1
    generalize hr : (execOp a.eval o).run P w = r at h1
    cases r with
    | halt x w1 => exact h1.elim
    | ok n w1 =>
      obtain ⟨u, rfl⟩ := float_enter hf hr
      obtain ⟨rfl, rfl⟩ : w1 = w ∧ u = v := h1
      rfl
  · exact .inr h
/-- The tail: behind each of the first m operations S holds. -/
def wpListK (P : Program) (ops : Array Oper) (Q : Exit → Act → World → Prop) (S : World → Prop) : Nat → List Oper → Act → World → Prop
  | _, [], a, w => Q .normal a w
  | m, o :: rest, a, w => if Region.wanted o (yielded ops a.tmps) then o.wp P a w (fun a' w' => (0 < m → S w') ∧ wpListK P ops Q S (m - 1) rest a' w') Q else (0 < m → S w) ∧ wpListK P ops Q S (m - 1) rest (a.put o.dst undef) w
theorem wpAnyK_of_seq {lim : Nat} : ∀ (l : List Oper) (k : Nat) (listed : Array Bool) (a : Act) (w : World), (∀ j, l[j]? = ops[k + j]?) →
    Region.seqB md ops l.length k listed = true → wpListK P ops Q S (lim - k) l a w → wpAnyK P md ops Q S lim l.length listed a w
  | [], _, _, _, _, _, hB, h => ⟨by simpa [Region.seqB] using hB, h⟩
  | o :: l, k, listed, a, w, hl, hB, h => by
    have h0 : ops[k]? = some o := by simpa using (hl 0).symm
    simp only [List.length_cons, Region.seqB, Bool.and_eq_true, decide_eq_true_eq] at hB
    refine ⟨fun h1 => (by rw [hB.1] at h1; cases h1), fun i hi => ?_⟩
    rw [hB.1] at hi
    have hik : i = k := by simpa using hi
    subst hik
    have hw : wpOp P ops Q i (fun a' w' => (0 < lim - i → S w') ∧ wpListK P ops Q S (lim - i - 1) l a' w') a w := by
      unfold wpOp
      simp only [h0]
      unfold wpListK at h
      split
      · rename_i hw; rw [if_pos hw] at h; exact .inl h
      · rename_i hw; rw [if_neg hw] at h; exact h
    exact wpOp_mono (fun a' w' h' => ⟨fun hlt => h'.1 (by omega), wpAnyK_of_seq l (i + 1) _ a' w' (fun j => by have := hl (j + 1); simpa [Nat.add_assoc, Nat.add_comm 1 j] using this) hB.2 (by rw [show lim - (i + 1) = lim - i - 1 by omega]; exact h'.2)⟩) hw
theorem wpAnyK_floats {lim g N : Nat} {Lq : Act → Prop} (hsel : Region.noSelect ops = true) (hw : ∀ i, ∀ j, lim ≤ j → j < ops.size → i < lim → (∃ o, ops[i]? = some o ∧ floatB o = true) → Region.waitsFor md ops j i = true) (hQ : ∀ c (a : Act) d v w, Q (.panic c) (a.put d v) w → Q (.panic c) a w)
    {w : World} (hS : S w) (hT : ∀ listed a, Lq a → Region.seqB md ops g N listed = true → wpAnyK P md ops Q S lim g listed a w) :
    ∀ (l : List Oper) (k : Nat) (listed : Array Bool) (a : Act), (∀ j, j < l.length → l[j]? = ops[k + j]?) → k + l.length = N → N ≤ lim → (∀ o ∈ l, floatB o = true) →
    Region.lexHead md ops g l.length k listed = true → wpQuiet P ops (fun w' => ∃ p : InC S, w' = p.w) Lq l a → wpAnyK P md ops Q S lim (l.length + g) listed a w
  | [], k, listed, a, _, hk, _, _, hB, h => by
    have : k = N := by simpa using hk
    subst this
    rw [List.length_nil, Nat.zero_add]
    exact hT listed a h hB
  | o :: l, k, listed, a, hl, hk, hkl, hf, hB, h => by
    have h0 : ops[k]? = some o := by simpa using (hl 0 (by simp)).symm
    simp only [List.length_cons, Region.lexHead, Bool.and_eq_true] at hB
    obtain ⟨⟨hr, hfr⟩, hB'⟩ := hB
    have hr' : k ∈ Region.ready md ops listed := by simpa using hr
    have hst : qOp P ops (fun w' => ∃ p : InC S, w' = p.w) k (wpQuiet P ops (fun w' => ∃ p : InC S, w' = p.w) Lq l) a := by unfold qOp; simp only [h0]; exact h
    obtain ⟨v, hy, hK⟩ := yieldsIn_of_qOp h0 hst
    have hfo := hf o (List.mem_cons_self ..)
    rw [List.length_cons, show l.length + 1 + g = (l.length + g) + 1 by omega]
    exact wpAnyK_first h0 (by simp only [List.length_cons] at hk; omega) (fun j h1 h2 => hw k j h1 h2 (by simp only [List.length_cons] at hk; omega) ⟨o, h0, hfo⟩) (Region.noSelect_spec hsel) (fun c a w h => hQ c a _ _ w h) (l.length + g) listed a w (Region.free_spec h0 hfr) hr' (yieldsIf_of_in hfo hy) hS
      (wpAnyK_floats hsel hw hQ hS hT l (k + 1) _ _ (fun j hj => by have := hl (j + 1) (by simp; omega); simpa [Nat.add_assoc, Nat.add_comm 1 j] using this) (by simp only [List.length_cons] at hk; omega) hkl (fun o ho => hf o (List.mem_cons_of_mem _ ho)) hB' hK)
end
/-- The Bool over a region: the first n are loads, they may be taken first; from lim on each waits for all loads; the rest comes in the order of the text. -/
def heldB (md : Region.Mode) (l : List Oper) (n lim : Nat) : Bool :=
  Region.noSelect l.toArray && decide (n ≤ lim) && decide (lim ≤ l.length) && (l.take n).all floatB && (l.take lim).zipIdx.all (fun (o, i) => !floatB o || (List.range l.length).all (fun j => decide (j < lim) || Region.waitsFor md l.toArray j i)) &&
    Region.lexHead md l.toArray (l.length - n) n 0 (Array.replicate l.length false)
theorem held_prep {P : Program} {S : World → Prop} {Q : Exit → Act → World → Prop} {a : Act} {w : World} {l : List Oper} {n lim : Nat} (hB : heldB .any l n lim = true) (hQ : ∀ c (a : Act) d v w, Q (.panic c) (a.put d v) w → Q (.panic c) a w) (hS : S w)
    (h : wpQuiet P l.toArray (fun w' => ∃ p : InC S, w' = p.w) (fun a' => wpListK P l.toArray Q S (lim - n) (l.drop n) a' w) (l.take n) a) : wpAnyK P .any l.toArray Q S lim l.toArray.size (Array.replicate l.toArray.size false) a w := by
  simp only [heldB, Bool.and_eq_true, decide_eq_true_eq] at hB
  obtain ⟨⟨⟨⟨⟨hsel, hn⟩, hlim⟩, hf⟩, hwt⟩, hlex⟩ := hB
  have htl : (l.take n).length = n := by simp; omega
  have H := wpAnyK_floats (md := .any) (Q := Q) (S := S) (lim := lim) (g := l.length - n) (ops := l.toArray) (Lq := fun a' => wpListK P l.toArray Q S (lim - n) (l.drop n) a' w) hsel
    (fun i j h1 h2 h3 ⟨o, ho, hfo⟩ => by
      have hj : j < l.length := by simpa using h2
      have hio : (l.take lim).zipIdx[i]? = some (o, i) := by
        rw [List.getElem?_zipIdx]
        simp at ho
        simp [h3, ho]
      have h4 := List.all_eq_true.1 hwt (o, i) (List.mem_of_getElem? hio)
      simp only [hfo, Bool.not_true, Bool.false_or] at h4
      have h5 := List.all_eq_true.1 h4 j (List.mem_range.2 hj)
      simp only [Bool.or_eq_true, decide_eq_true_eq] at h5
      exact h5.resolve_left (by omega)) hQ
    (N := n) hS (fun listed a' hL hseq => by
      have := wpAnyK_of_seq (md := .any) (Q := Q) (S := S) (lim := lim) (l.drop n) n listed a' w (fun j => by simp [List.getElem?_drop]) (by rw [List.length_drop]; exact hseq) hL
      rwa [List.length_drop] at this) (l.take n) 0 _ a (fun j hj => by
    have hj' : j < n := by rw [htl] at hj; exact hj
    simp [hj']) (by rw [htl]; omega) hn (fun o ho => List.all_eq_true.1 hf o ho) (by rw [htl]; simpa using hlex) h
  rw [htl, show n + (l.length - n) = l.toArray.size by simp; omega] at H
  exact H
theorem wpIn_region_heldK {P : Program} {lp m : Nat} {id : Nat} {Q : Exit → Act → World → Prop} {a : Act} {w : World} {l : List Oper} (n lim : Nat) (S : World → Prop) (hm : P.follows .mixedOrders = true) (hB : heldB .any l n lim = true) (hnd : noDefer l = true) (hQ : ∀ c (a : Act) d v w, Q (.panic c) (a.put d v) w → Q (.panic c) a w) (hQo : ∀ a w, ¬ Q .outgrown a w) (hS : S w.drew)
    (h : Nonempty (InC S) → wpQuiet P l.toArray (fun w' => ∃ p : InC S, w' = p.w) (fun a' => wpListK P l.toArray Q S (lim - n) (l.drop n) a' w.drew) (l.take n) a) : (Code.region id l.toArray true).wpIn (Fence.wide.inRound lp) m P Q a w :=
  wpIn_region_any hm (wpAnyIn_of_K (fun o ho => noDefer_spec hnd (by simpa using ho)) hQo _ _ _ _ (held_prep hB hQ hS (h ⟨⟨_, hS⟩⟩)))
/-- One operation of the tail, by a law of the list of operations. -/
theorem wpListK_one {P : Program} {ops : Array Oper} {Q : Exit → Act → World → Prop} {S : World → Prop} {m : Nat} {o : Oper} {rest : List Oper} {a : Act} {w : World} (hQ : ∀ a w, ¬ Q .outgrown a w)
    (h : wpList P ops (Exit.then (fun a' w' => (0 < m → S w') ∧ wpListK P ops Q S (m - 1) rest a' w') Q) [o] a w) : wpListK P ops Q S m (o :: rest) a w := by
  unfold wpListK
  simp only [wpList] at h
  split
  · rename_i hw
    rw [if_pos hw] at h
    have h := h.resolve_right (fun hh => let ⟨a, w, hx⟩ := hh.2; hQ a w hx)
    unfold Oper.wp at h ⊢
    generalize (execOp a.eval o).run P w = r at *
    cases r with
    | ok x w' => cases x <;> simp only [Oper.upon] at h ⊢ <;> first
        | exact h
        | exact Calls.mono h (fun e w'' he => by cases e <;> first | exact he | exact (let ⟨a, w, hx⟩ := he; hQ a w hx).elim)
    | halt x w' => cases x <;> simp only [Oper.upon] at h ⊢ <;> exact h
  · rename_i hw
    rw [if_neg hw] at h
    exact h
/-- Behind the operations that keep S: the rest as a list. -/
theorem wpListK_zero {P : Program} {ops : Array Oper} {Q : Exit → Act → World → Prop} {S : World → Prop} (hQ : ∀ a w, ¬ Q .outgrown a w) : ∀ (l : List Oper) (a : Act) (w : World), wpList P ops Q l a w → wpListK P ops Q S 0 l a w
  | [], _, _, h => h
  | o :: rest, a, w, h => by
    unfold wpListK
    simp only [wpList] at h
    split
    · rename_i hw
      rw [if_pos hw] at h
      exact Oper.wp_mono (fun a' w' h' => ⟨fun h0 => absurd h0 (by omega), wpListK_zero hQ rest a' w' h'⟩) (h.resolve_right (fun hh => let ⟨a, w, hx⟩ := hh.2; hQ a w hx))
    · rename_i hw
      rw [if_neg hw] at h
      exact ⟨fun h0 => absurd h0 (by omega), wpListK_zero hQ rest _ _ h⟩
end Go.Proofs.YtpmjipokkkkljaaDoor
