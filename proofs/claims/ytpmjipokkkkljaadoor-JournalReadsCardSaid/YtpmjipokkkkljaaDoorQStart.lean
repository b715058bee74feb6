/-
  Part of the proof of cd_card: the lemmas of Start that it uses.
-/
import Derived.Test.YtpmjipokkkkljaaDoorQRefJ
import Derived.Test.YtpmjipokkkkljaaDoorQPr3
import Derived.Test.YtpmjipokkkkljaaDoorQAwake
namespace Go.Proofs.YtpmjipokkkkljaaDoor
set_option linter.all false
set_option linter.unusedVariables false
set_option linter.unusedSimpArgs false
open Go.RowKit Go.Proofs.YtpmjipokkkkljaaDoorW.PrintWords Go.Proofs.YtpmjipokkkkljaaDoorW.PrintLast Go.Proofs.YtpmjipokkkkljaaDoorW.PrintMore Go.Proofs.YtpmjipokkkkljaaDoor.Pr
set_option maxHeartbeats 1000000 in
set_option maxRecDepth 100000 in
/-- Open, where the region or the epoch is none. -/
theorem open_err (w : World) (b : Nat) (d : DK) (FD : Nat → Prop) (first cnt epoch : Int) (hd : IsDisk w FD b d) (hn : d.dur.length ≤ 1000000) (hc : -9223372036854775808 ≤ cnt ∧ cnt ≤ 9223372036854775807)
    (hb : ¬ (0 ≤ first ∧ 1 ≤ cnt ∧ first + cnt ≤ d.dur.length ∧ 0 ≤ epoch ∧ epoch < 4611686018427387904)) :
    Calls Tryd.prog 18 #[.pointer (some ⟨b, 0, none⟩), .agg #[.int .i64 first, .int .i64 cnt], .int .i64 epoch] w fun e w' => e = .returned (.tuple #[.pointer none, .int .i64 2]) ∧ Below w.heap.size w w' := by
  refine (callsIn_wide (n := 8)).1 ?_
  refine callsIn_of_wp_marks Tryd.func18 rfl trivial ?_ rfl
  simp only [Tryd.ntmps18, List.size_toArray, List.length_cons, List.length_nil, Nat.reduceAdd, Nat.reduceSub, Array.replicate_succ, Array.replicate_zero, List.push_toArray, List.append_toArray, List.nil_append, List.cons_append]
  refine wpIn_wide.2 ?_
  refine Code.wp_mono NoPanic.imp ?_
  have HB := Lib.hid hb
  clear hb
  go_wp2
  have hd1 := hd.alloc (.cells #[.int .i64 first, .int .i64 cnt] 24)
  have hrb := Blk.new w #[.int .i64 first, .int .i64 cnt] 24
  have hb1 : Below w.heap.size w (w.alloc (.cells #[.int .i64 first, .int .i64 cnt] 24)) := (Below.refl _ _).alloc (Nat.le_refl _) _
  have r0 : (w.alloc (.cells #[.int .i64 first, .int .i64 cnt] 24)).cell? ⟨w.heap.size, 0, none⟩ = some (.int .i64 first) := hrb.cell 0 _ rfl
  have r1 : (w.alloc (.cells #[.int .i64 first, .int .i64 cnt] 24)).cell? ⟨w.heap.size, 1, none⟩ = some (.int .i64 cnt) := hrb.cell 1 _ rfl
  obtain ⟨c0, A0, k0⟩ : ∃ c A, (w.alloc (.cells #[.int .i64 first, .int .i64 cnt] 24)).cell? ⟨b, 0, none⟩ = some (.slice A d.dur.length c) := by
    obtain ⟨v0, v1, bm, v4, hb, _, _, hr0, _⟩ := hd1
    obtain ⟨A, c, rfl, _, _⟩ := Kd.R_reads hr0
    exact ⟨c, A, hb.cell 0 _ rfl⟩
  have HBL := Lib.hid hb1
  clear hd hd1 hrb hb1
  generalize hW : w.alloc _ = W1 at *
  generalize hn0 : w.heap.size = n0 at *
  clear hW
  have hn2 := Lib.hid hn
  by_cases c1 : first < 0
  · have q1 : decide (first < 0) = true := decide_eq_true c1
    clear c1 hn hc
    go_quiet ((go_at_call 17; exact Calls.quiet_of_same ((pages_any (W1.drewN _) b d.dur.length c0 A0 k0).mono (fun _ _ h => ⟨h.1, h.2.symm⟩))))
    go_wp2
    exact ⟨.tuple #[.pointer none, .int .i64 2], by simp [results, Tryd.results18, go_sem], rfl, by rw [hn0]; exact HBL.out.drewN' _⟩
  by_cases c2 : cnt < 1
  · have q1 : decide (first < 0) = false := decide_eq_false c1
    have q2 : decide (cnt < 1) = true := decide_eq_true c2
    clear c1 c2 hn hc
    go_quiet ((go_at_call 17; exact Calls.quiet_of_same ((pages_any (W1.drewN _) b d.dur.length c0 A0 k0).mono (fun _ _ h => ⟨h.1, h.2.symm⟩))))
    go_wp2
    exact ⟨.tuple #[.pointer none, .int .i64 2], by simp [results, Tryd.results18, go_sem], rfl, by rw [hn0]; exact HBL.out.drewN' _⟩
  by_cases c3 : (d.dur.length : Int) < cnt
  · have q1 : decide (first < 0) = false := decide_eq_false c1
    have q2 : decide (cnt < 1) = false := decide_eq_false c2
    have q3 : decide ((d.dur.length : Int) < cnt) = true := decide_eq_true c3
    clear c1 c2 c3 hn hc
    go_quiet ((go_at_call 17; exact Calls.quiet_of_same ((pages_any (W1.drewN _) b d.dur.length c0 A0 k0).mono (fun _ _ h => ⟨h.1, h.2.symm⟩))))
    go_wp2
    exact ⟨.tuple #[.pointer none, .int .i64 2], by simp [results, Tryd.results18, go_sem], rfl, by rw [hn0]; exact HBL.out.drewN' _⟩
  by_cases c4 : (d.dur.length : Int) - cnt < first
  · have q1 : decide (first < 0) = false := decide_eq_false c1
    have q2 : decide (cnt < 1) = false := decide_eq_false c2
    have q3 : decide ((d.dur.length : Int) < cnt) = false := decide_eq_false c3
    have q4 : decide ((d.dur.length : Int) - cnt < first) = true := decide_eq_true c4
    have e1 : IntKind.i64.wrap ((d.dur.length : Int) - cnt) = (d.dur.length : Int) - cnt := IntWalk.i64_in _ (by omega)
    clear c1 c2 c3 c4 hn hc
    go_quiet ((go_at_call 17; exact Calls.quiet_of_same ((pages_any (W1.drewN _) b d.dur.length c0 A0 k0).mono (fun _ _ h => ⟨h.1, h.2.symm⟩))))
    go_wp2
    exact ⟨.tuple #[.pointer none, .int .i64 2], by simp [results, Tryd.results18, go_sem], rfl, by rw [hn0]; exact HBL.out.drewN' _⟩
  by_cases c5 : epoch < 0
  · have q1 : decide (first < 0) = false := decide_eq_false c1
    have q2 : decide (cnt < 1) = false := decide_eq_false c2
    have q3 : decide ((d.dur.length : Int) < cnt) = false := decide_eq_false c3
    have q4 : decide ((d.dur.length : Int) - cnt < first) = false := decide_eq_false c4
    have q5 : decide (epoch < 0) = true := decide_eq_true c5
    have e1 : IntKind.i64.wrap ((d.dur.length : Int) - cnt) = (d.dur.length : Int) - cnt := IntWalk.i64_in _ (by omega)
    clear c1 c2 c3 c4 c5 hn hc
    go_quiet ((go_at_call 17; exact Calls.quiet_of_same ((pages_any (W1.drewN _) b d.dur.length c0 A0 k0).mono (fun _ _ h => ⟨h.1, h.2.symm⟩))))
    go_wp2
    exact ⟨.tuple #[.pointer none, .int .i64 2], by simp [results, Tryd.results18, go_sem], rfl, by rw [hn0]; exact HBL.out.drewN' _⟩
  by_cases c6 : 4611686018427387903 < epoch
  · have q1 : decide (first < 0) = false := decide_eq_false c1
    have q2 : decide (cnt < 1) = false := decide_eq_false c2
    have q3 : decide ((d.dur.length : Int) < cnt) = false := decide_eq_false c3
    have q4 : decide ((d.dur.length : Int) - cnt < first) = false := decide_eq_false c4
    have q5 : decide (epoch < 0) = false := decide_eq_false c5
    have q6 : decide (4611686018427387903 < epoch) = true := decide_eq_true c6
    have e1 : IntKind.i64.wrap ((d.dur.length : Int) - cnt) = (d.dur.length : Int) - cnt := IntWalk.i64_in _ (by omega)
    clear c1 c2 c3 c4 c5 c6 hn hc
    go_quiet ((go_at_call 17; exact Calls.quiet_of_same ((pages_any (W1.drewN _) b d.dur.length c0 A0 k0).mono (fun _ _ h => ⟨h.1, h.2.symm⟩))))
    go_wp2
    exact ⟨.tuple #[.pointer none, .int .i64 2], by simp [results, Tryd.results18, go_sem], rfl, by rw [hn0]; exact HBL.out.drewN' _⟩
  exact absurd ⟨by omega, by omega, by omega, by omega, by omega⟩ HB.out
theorem results_tct {P : Program} {fn : Func} {p u v : Tmp} {ty : TypeId} (h : fn.results = #[.tmp u, .cell p ty, .tmp v]) (tmps : Array Value) (w : World) (g : Nat) (t : TypeId) (cs : Array Value) (fr : Nat × Nat) (d : TypeDesc)
    (hp : tmps.getD p undef = .pointer (some ⟨g, 0, none⟩)) (hg : w.heap[g]? = some (.cells cs t fr))
    (hu : P.underlying ty = some d) (hd : (match d with | .struct _ | .array _ _ => true | _ => false) = true) (hi : (P.info? ty).map (·.size) = some cs.size) :
    (results fn tmps).run P w = .ok (.tuple #[tmps.getD u undef, .agg cs, tmps.getD v undef]) w := by
  have hp' : tmps[p]?.getD undef = .pointer (some ⟨g, 0, none⟩) := by simpa using hp
  simp [results, h, hp', asAddr, run_loadVar_row w g t ty cs fr d hg hu hd hi]
theorem eq_same {w : World} {e1 e2 b1 b2 : Nat} {ok1 ok2 : Nat → Prop} {v1 v2 : Value} {xs : List ByteArray} (h1 : Kd.string.R e1 w b1 ok1 v1 xs) (h2 : Kd.string.R e2 w b2 ok2 v2 xs) :
    Calls Tryd.prog 21 #[v1, v2] w fun e w' => e = .returned (.bool true) ∧ Drawn0 w w' :=
  (equal_rows h1 h2).mono (fun e w' h => ⟨by rw [h.1, decide_eq_true rfl], h.2⟩)
theorem IsJ.keep {W W' : World} {F : Nat → Prop} {j : Nat} {J : JD} (h : IsJ W F j J) (hb : Below W.heap.size W W') : IsJ W' F j J := by
  obtain ⟨rv, h1, h2, h3, h4⟩ := h
  have hu : Upd (fun _ => False) W W' := Upd.of_below hb _
  exact ⟨rv, h1.upd hu (fun h => h), h2, Kd.R_step h3 (fun k hk hl => hu.block k hl (fun h => h)), fun k hk => Nat.lt_of_lt_of_le (h4 k hk) hu.size⟩
def kCells (first cnt e next : Int) (chain : ByteArray) (v : Value) : Array Value := #[.int .i64 first, .int .i64 cnt, .int .i64 e, .int .i64 next, .string chain, v]
theorem openGo_le : ∀ (l : List PG) (st : OSt), st.recs.length ≤ st.next → (openGo st l).recs.length ≤ (openGo st l).next ∧ (openGo st l).next ≤ st.next + st.opn.length + l.length
  | [], st, h => ⟨h, by rw [openGo]; simp⟩
  | p :: r, st, h => by
    rw [openGo]
    cases hs : stepO st p with
    | none => exact ⟨h, by simp only; omega⟩
    | some st' =>
      have : st'.recs.length ≤ st'.next ∧ st'.next + st'.opn.length = st.next + st.opn.length + 1 := by
        unfold stepO at hs
        split at hs
        · cases hs
        · split at hs
          · split at hs
            · injection hs with hs; subst hs; simp; omega
            · cases hs
          · injection hs with hs; subst hs; simp; omega
      have ih := openGo_le r st' this.1
      exact ⟨ih.1, by simp only [List.length_cons]; omega⟩
theorem openF_le (d : DK) (epoch first : Int) (cnt : Nat) : (openF d epoch first cnt).recs.length ≤ (openF d epoch first cnt).next ∧ (openF d epoch first cnt).next ≤ cnt := by
  have h := openGo_le (pagesF d epoch first cnt (chain0 epoch)) (st0 epoch) (Nat.le_refl _)
  have h2 : (pagesF d epoch first cnt (chain0 epoch)).length ≤ cnt := pagesF_len _ _ _
  refine ⟨h.1, ?_⟩
  have h3 := h.2
  have e : (st0 epoch).next + (st0 epoch).opn.length = 0 := rfl
  unfold openF
  omega
/-- What stands while the two are held against each other. -/
structure StX (w : World) (g9 g13 : Nat) (jb : Nat) (FJ : Nat → Prop) (J : JD) (SK : Nat → Prop) (vk : Value) (W : World) : Prop where
  j : IsJ W FJ jb J
  r : Kd.R Kd.string 9 W 0 SK vk J.recs
  k : Blk W g13 (kCells J.first J.count J.epoch J.next J.chain vk) 38
  k9 : Blk W g9 #[.int .i64 0, .int .i64 0, .int .i64 0, .int .i64 0, .string ⟨#[]⟩, .slice none 0 0] 38
  b : Below w.heap.size w W
theorem StX.step {w W W' : World} {g9 g13 jb : Nat} {FJ SK : Nat → Prop} {J : JD} {vk : Value} (h : StX w g9 g13 jb FJ J SK vk W) (hb : Below W.heap.size W W') : StX w g9 g13 jb FJ J SK vk W' :=
  ⟨h.j.keep hb, Kd.R_below h.r hb, h.k.upd (Upd.of_below hb (fun _ => False)) (fun h => h), h.k9.upd (Upd.of_below hb (fun _ => False)) (fun h => h), h.b.trans (hb.mono h.b.size)⟩
theorem StX.cells {w W : World} {g9 g13 jb : Nat} {FJ SK : Nat → Prop} {J : JD} {vk : Value} (h : StX w g9 g13 jb FJ J SK vk W) :
    W.cell? ⟨g13, 0, none⟩ = some (.int .i64 J.first) ∧ W.cell? ⟨g13, 1, none⟩ = some (.int .i64 J.count) ∧ W.cell? ⟨g13, 2, none⟩ = some (.int .i64 J.epoch) ∧ W.cell? ⟨g13, 3, none⟩ = some (.int .i64 J.next) ∧ W.cell? ⟨g13, 4, none⟩ = some (.string J.chain) ∧ W.cell? ⟨g13, 5, none⟩ = some vk :=
  ⟨h.k.cell 0 _ rfl, h.k.cell 1 _ rfl, h.k.cell 2 _ rfl, h.k.cell 3 _ rfl, h.k.cell 4 _ rfl, h.k.cell 5 _ rfl⟩
/-- A journal of the reference, stored. -/
def putK (W : World) (g : Nat) (a b c n : Int) (s : ByteArray) (v : Value) : World :=
  ((((((W.setCell ⟨g, 0, none⟩ (.int .i64 a)).setCell ⟨g, 1, none⟩ (.int .i64 b)).setCell ⟨g, 2, none⟩ (.int .i64 c)).setCell ⟨g, 3, none⟩ (.int .i64 n)).setCell ⟨g, 4, none⟩ (.string s)).setCell ⟨g, 5, none⟩ v).drew
theorem putK_blk {W : World} {g : Nat} {x0 x1 x2 x3 x4 x5 : Value} {t : TypeId} (h : Blk W g #[x0, x1, x2, x3, x4, x5] t) (a b c n : Int) (s : ByteArray) (v : Value) : Blk (putK W g a b c n s v) g (kCells a b c n s v) t := by
  have h0 := h.set 0 (.int .i64 a)
  have h1 := h0.set 1 (.int .i64 b)
  have h2 := h1.set 2 (.int .i64 c)
  have h3 := h2.set 3 (.int .i64 n)
  have h4 := h3.set 4 (.string s)
  have h5 := (h4.set 5 v).drew
  simp only [List.setIfInBounds_toArray, List.set_cons_zero, List.set_cons_succ] at h5
  unfold putK kCells
  exact h5
theorem putK_upd (W : World) (g : Nat) (a b c n : Int) (s : ByteArray) (v : Value) : Upd (fun k => k = g) W (putK W g a b c n s v) := by
  have h0 := (Upd.refl (fun k => k = g) W).setCell (p := ⟨g, 0, none⟩) (.inl rfl) (.int .i64 a)
  have h1 := h0.setCell (p := ⟨g, 1, none⟩) (.inl rfl) (.int .i64 b)
  have h2 := h1.setCell (p := ⟨g, 2, none⟩) (.inl rfl) (.int .i64 c)
  have h3 := h2.setCell (p := ⟨g, 3, none⟩) (.inl rfl) (.int .i64 n)
  have h4 := h3.setCell (p := ⟨g, 4, none⟩) (.inl rfl) (.string s)
  exact (h4.setCell (p := ⟨g, 5, none⟩) (.inl rfl) v).drew
set_option maxHeartbeats 2000000 in
set_option maxRecDepth 100000 in
theorem start_ok (w : World) (b : Nat) (d : DK) (FD : Nat → Prop) (v0 v1 : Value) (first : Int) (cnt : Nat) (epoch : Int) (hd : IsDisk w FD b d) (A0 A1 : Option Addr) (c0 c1 : Nat) (hr0 : Kd.C Kd.string w A0 d.dur.length d.dur) (hc0 : d.dur.length ≤ c0)
    (hr1 : Kd.C k80 w A1 (rws d.pend).length (rws d.pend)) (hc1 : (rws d.pend).length ≤ c1)
    (h1 : 0 ≤ first) (h2 : 1 ≤ cnt) (h3 : first + cnt ≤ d.dur.length) (h4 : 0 ≤ epoch) (h5 : epoch < 4611686018427387904) (h6 : d.dur.length ≤ 1000000) (h7 : d.pend.length ≤ 1000000) (hz1 : ∀ x ∈ d.dur, x.size ≤ 1000000) (hz2 : ∀ x ∈ d.pend, x.data.size = 512) :
    Calls Tryd.prog 13 #[.pointer (some ⟨b, 0, none⟩), .agg #[.slice A0 d.dur.length c0, .slice A1 (rws d.pend).length c1], .agg #[.int .i64 first, .int .i64 cnt], .int .i64 epoch] w fun e w' => ∃ jb vk FJ SK, e = .returned (.tuple #[.pointer (some ⟨jb, 0, none⟩), .agg (kCells first cnt epoch (openF d epoch first cnt).next (openF d epoch first cnt).chain vk), .bool true]) ∧
      IsJ w' FJ jb ⟨b, first, cnt, epoch, (openF d epoch first cnt).recs, (openF d epoch first cnt).next, (openF d epoch first cnt).chain⟩ ∧ Kd.R Kd.string 9 w' 0 SK vk (openF d epoch first cnt).recs ∧ (∀ k, FJ k → w.heap.size ≤ k) ∧ (∀ k, SK k → w.heap.size ≤ k ∧ ¬ FJ k) ∧ Below w.heap.size w w' := by
  have HOP := Lib.hid (fun W (hW : Below w.heap.size w W) => open_ok W b d FD first cnt epoch (hd.upd (Upd.of_below hW (fun _ => False)) (fun _ _ h => h)) h1 h2 h3 h4 (by omega) h6 hz1 (fun x hx => by rw [hz2 x hx]; omega))
  have HRO := Lib.hid (fun W (hW : Below w.heap.size w W) => modcertref51_Open.calls (2 * cnt + d.pend.length + 800) A0 c0 d.dur A1 c1 (rws d.pend) first cnt epoch _ _ _ _ _ _ _ W (Kd.C_below hr0 hW) hc0 (Kd.C_below hr1 hW) hc1 (open_f epoch h4 h5 d first cnt h1 h2 h3 h6 h7 hz2 _ (Nat.le_refl _)))
  clear hd hr0 hc0 hr1 hc1
  go_enter Tryd.func13, Tryd.ntmps13
  go_wp2_with (fail)
  have hb3 : Below w.heap.size w (((w.alloc (.cells #[.slice A0 d.dur.length c0, .slice A1 (rws d.pend).length c1] 29)).alloc (.cells #[.int .i64 first, .int .i64 cnt] 24)).alloc (.cells #[.int .i64 0, .int .i64 0, .int .i64 0, .int .i64 0, .string ⟨#[]⟩, .slice none 0 0] 38)) :=
    (((Below.refl _ _).alloc (Nat.le_refl _) _).alloc (by simp) _).alloc (by simp; omega) _
  have k5 : Blk (((w.alloc (.cells #[.slice A0 d.dur.length c0, .slice A1 (rws d.pend).length c1] 29)).alloc (.cells #[.int .i64 first, .int .i64 cnt] 24)).alloc (.cells #[.int .i64 0, .int .i64 0, .int .i64 0, .int .i64 0, .string ⟨#[]⟩, .slice none 0 0] 38)) w.heap.size #[.slice A0 d.dur.length c0, .slice A1 (rws d.pend).length c1] 29 := ((Blk.new w _ _).alloc _).alloc _
  have k6 : Blk (((w.alloc (.cells #[.slice A0 d.dur.length c0, .slice A1 (rws d.pend).length c1] 29)).alloc (.cells #[.int .i64 first, .int .i64 cnt] 24)).alloc (.cells #[.int .i64 0, .int .i64 0, .int .i64 0, .int .i64 0, .string ⟨#[]⟩, .slice none 0 0] 38)) (w.heap.size + 1) #[.int .i64 first, .int .i64 cnt] 24 := by
    have := (Blk.new (w.alloc (.cells #[.slice A0 d.dur.length c0, .slice A1 (rws d.pend).length c1] 29)) #[.int .i64 first, .int .i64 cnt] 24).alloc (.cells #[.int .i64 0, .int .i64 0, .int .i64 0, .int .i64 0, .string ⟨#[]⟩, .slice none 0 0] 38)
    rw [World.size_alloc] at this
    exact this
  have k9 : Blk (((w.alloc (.cells #[.slice A0 d.dur.length c0, .slice A1 (rws d.pend).length c1] 29)).alloc (.cells #[.int .i64 first, .int .i64 cnt] 24)).alloc (.cells #[.int .i64 0, .int .i64 0, .int .i64 0, .int .i64 0, .string ⟨#[]⟩, .slice none 0 0] 38)) (w.heap.size + 1 + 1) #[.int .i64 0, .int .i64 0, .int .i64 0, .int .i64 0, .string ⟨#[]⟩, .slice none 0 0] 38 := by
    have := Blk.new ((w.alloc (.cells #[.slice A0 d.dur.length c0, .slice A1 (rws d.pend).length c1] 29)).alloc (.cells #[.int .i64 first, .int .i64 cnt] 24)) #[.int .i64 0, .int .i64 0, .int .i64 0, .int .i64 0, .string ⟨#[]⟩, .slice none 0 0] 38
    rw [World.size_alloc, World.size_alloc] at this
    exact this
  have HG : Hid (w.heap.size ≤ w.heap.size + 1 + 1) := Lib.hid (by omega)
  generalize (((w.alloc (.cells #[.slice A0 d.dur.length c0, .slice A1 (rws d.pend).length c1] 29)).alloc (.cells #[.int .i64 first, .int .i64 cnt] 24)).alloc (.cells #[.int .i64 0, .int .i64 0, .int .i64 0, .int .i64 0, .string ⟨#[]⟩, .slice none 0 0] 38)) = w3 at *
  generalize hg9 : w.heap.size + 1 + 1 = g9 at *
  generalize hg6 : w.heap.size + 1 = g6 at *
  clear hg9 hg6
  have HB3 := Lib.hid hb3
  have HK9 := Lib.hid k9
  refine (HOP.out w3 hb3).mono ?_
  rintro e6 w6 ⟨jb, FJ, rfl, hj, hFJ, hb6⟩
  have HJ6 := Lib.hid hj
  have HFJ := Lib.hid hFJ
  have HG93 := Lib.hid HK9.out.lt
  have HG6 : Hid (g9 < w6.heap.size) := Lib.hid (Nat.lt_of_lt_of_le HK9.out.lt hb6.size)
  have HW3 := Lib.hid HB3.out.size
  have HJF6 : ∀ k, FJ k → k < w6.heap.size := by obtain ⟨_, _, _, _, h⟩ := hj; exact h
  have HB6 := Lib.hid (HB3.out.trans (hb6.mono HB3.out.size))
  have HU6 := Lib.hid hb6
  have q50 : w6.cell? ⟨w.heap.size, 0, none⟩ = some (.slice A0 d.dur.length c0) := (k5.upd (Upd.of_below hb6 (fun _ => False)) (fun h => h)).cell 0 _ rfl
  have q51 : w6.cell? ⟨w.heap.size, 1, none⟩ = some (.slice A1 (rws d.pend).length c1) := (k5.upd (Upd.of_below hb6 (fun _ => False)) (fun h => h)).cell 1 _ rfl
  have q60 : w6.cell? ⟨g6, 0, none⟩ = some (.int .i64 first) := (k6.upd (Upd.of_below hb6 (fun _ => False)) (fun h => h)).cell 0 _ rfl
  have q61 : w6.cell? ⟨g6, 1, none⟩ = some (.int .i64 cnt) := (k6.upd (Upd.of_below hb6 (fun _ => False)) (fun h => h)).cell 1 _ rfl
  clear hb3 k5 k6 k9 hj hFJ hb6
  go_wp2_with (fail)
  refine (HRO.out w6 HB6.out).mono ?_
  rintro e7 w7 ⟨vk, rfl, hrk, hb7⟩
  have HRK := Lib.hid hrk
  have HJ7 := Lib.hid (HJ6.out.keep hb7)
  have HB7 := Lib.hid (HB6.out.trans (hb7.mono HB6.out.size))
  have HK97 := Lib.hid ((HK9.out.upd (Upd.of_below HU6.out (fun _ => False)) (fun h => h)).upd (Upd.of_below hb7 (fun _ => False)) (fun h => h))
  have HS7 := Lib.hid hb7.size
  clear hrk hb7 q50 q51 q60 q61 HJ6 HRO HOP
  obtain ⟨Ak, ck, rfl, hck, _⟩ := Kd.R_reads HRK.out
  have hle := openF_le d epoch first cnt
  generalize hst : openF d epoch first cnt = st at *
  have HCK := Lib.hid hck
  clear hck
  have HST := Lib.hid hst
  clear hst
  go_wp2_with (fail)
  have hb8 := (Below.refl w7.heap.size w7).alloc (Nat.le_refl _) (.cells #[.int .i64 first, .int .i64 cnt, .int .i64 epoch, .int .i64 st.next, .string st.chain, .slice Ak st.recs.length ck] 38)
  have HX : Hid (StX w g9 w7.heap.size jb FJ ⟨b, first, cnt, epoch, st.recs, st.next, st.chain⟩ (fun k => w6.heap.size ≤ k) (.slice Ak st.recs.length ck) (w7.alloc (.cells #[.int .i64 first, .int .i64 cnt, .int .i64 epoch, .int .i64 st.next, .string st.chain, .slice Ak st.recs.length ck] 38))) :=
    Lib.hid ⟨HJ7.out.keep hb8, Kd.R_lower (Kd.R_mono (Kd.R_bound (Kd.R_below HRK.out hb8)) (fun k hk => hk.2.1)) (Nat.zero_le _), Blk.new w7 _ _, HK97.out.alloc _, HB7.out.trans (hb8.mono HB7.out.size)⟩
  have HG98 : Hid (g9 ≠ w7.heap.size ∧ w.heap.size ≤ w6.heap.size) := Lib.hid ⟨by have := HK97.out.lt; omega, HB6.out.size⟩
  have HFJ6 := Lib.hid (show ∀ k, FJ k → k < w6.heap.size from HJF6)
  clear hb8 HJ7 HB7 HK97 HRK HK9 HB6 HU6 HB3 HS7
  generalize (w7.alloc (.cells #[.int .i64 first, .int .i64 cnt, .int .i64 epoch, .int .i64 st.next, .string st.chain, .slice Ak st.recs.length ck] 38)) = w8 at *
  generalize w7.heap.size = g13 at *
  generalize w6.heap.size = z6 at *
  obtain ⟨p0, p1, p2, p3, p4, p5⟩ := HX.out.cells
  have HRC : Hid (∀ W, IsJ W FJ jb ⟨b, first, cnt, epoch, st.recs, st.next, st.chain⟩ → Calls Tryd.prog 22 #[.pointer (some ⟨jb, 0, none⟩)] W fun e w' => ∃ v, e = .returned v ∧ Kd.string.R 9 w' 0 (fun k => W.heap.size ≤ k) v st.recs ∧ Below W.heap.size W w') := Lib.hid (fun W h => records_any W FJ jb _ h (by show st.recs.length ≤ 1000000; omega))
  have HFR : Hid (∀ W, IsJ W FJ jb ⟨b, first, cnt, epoch, st.recs, st.next, st.chain⟩ → Calls Tryd.prog 23 #[.pointer (some ⟨jb, 0, none⟩)] W fun e w' => e = .returned (.int .i64 ((cnt : Int) - st.next)) ∧ Drawn0 W w') := Lib.hid (fun W h => free_any W FJ jb _ h (by show (-9223372036854775808 : Int) ≤ (cnt : Int) - st.next; omega) (by show (cnt : Int) - st.next ≤ 9223372036854775807; omega))
  have HRF : Hid (∀ W, Kd.R Kd.string 9 W 0 (fun k => z6 ≤ k) (.slice Ak st.recs.length ck) st.recs → Calls Tryd.prog 28 #[.agg #[.int .i64 first, .int .i64 cnt, .int .i64 epoch, .int .i64 st.next, .string st.chain, .slice Ak st.recs.length ck]] W fun e w' => e = .returned (.int .i64 ((cnt : Int) - st.next)) ∧ Below W.heap.size W w') := Lib.hid (fun W h => by
    obtain ⟨A', c', he, h1, h2⟩ := Kd.R_reads h
    injection he with he1 he2 he3
    subst he1 he3
    exact modcertref51_Free.calls first cnt epoch st.next st.chain Ak ck st.recs _ W h2 h1 (by unfold modcertref51_Free.f; congr 1; unfold wrap64; omega))
  have HX : Hid (StX w g9 g13 jb FJ ⟨b, first, cnt, epoch, st.recs, st.next, st.chain⟩ (fun k => z6 ≤ k) (.slice Ak st.recs.length ck) w8.drew) := Lib.hid (HX.out.step ((Below.refl _ _).drewN' 1))
  go_region_held3 (fun w' => w'.cell? ⟨g13, 0, none⟩ = some (.int .i64 first) ∧ w'.cell? ⟨g13, 1, none⟩ = some (.int .i64 cnt) ∧ w'.cell? ⟨g13, 2, none⟩ = some (.int .i64 epoch) ∧ w'.cell? ⟨g13, 3, none⟩ = some (.int .i64 st.next) ∧ w'.cell? ⟨g13, 4, none⟩ = some (.string st.chain) ∧ w'.cell? ⟨g13, 5, none⟩ = some (.slice Ak st.recs.length ck)) (first | exact ⟨p0, p1, p2, p3, p4, p5⟩) (first
    | (go_at_call 22; refine (HRC.out _ HX.out.j).mono ?_; rintro e10 w10 ⟨v10, rfl, hr10, hb10⟩; have HE := Lib.hid (eq_same hr10 (Kd.R_below HX.out.r hb10)); have HX : Hid (StX w g9 g13 jb FJ ⟨b, first, cnt, epoch, st.recs, st.next, st.chain⟩ (fun k => z6 ≤ k) (.slice Ak st.recs.length ck) w10) := Lib.hid (HX.out.step hb10); clear hr10 hb10; obtain ⟨p0, p1, p2, p3, p4, p5⟩ := HX.out.cells)
    | (go_at_call 21; refine HE.out.mono ?_; rintro e11 w11 ⟨rfl, hq⟩; have HX : Hid (StX w g9 g13 jb FJ ⟨b, first, cnt, epoch, st.recs, st.next, st.chain⟩ (fun k => z6 ≤ k) (.slice Ak st.recs.length ck) w11) := Lib.hid (HX.out.step (Upd.of_drawn hq (fun _ => False)).below_all); clear hq HE; obtain ⟨p0, p1, p2, p3, p4, p5⟩ := HX.out.cells)
    | (go_at_call 23; refine (HFR.out _ HX.out.j).mono ?_; rintro e12 w12 ⟨rfl, hq⟩; have HX : Hid (StX w g9 g13 jb FJ ⟨b, first, cnt, epoch, st.recs, st.next, st.chain⟩ (fun k => z6 ≤ k) (.slice Ak st.recs.length ck) w12) := Lib.hid (HX.out.step (Upd.of_drawn hq (fun _ => False)).below_all); clear hq; obtain ⟨p0, p1, p2, p3, p4, p5⟩ := HX.out.cells)
    | (go_at_call 28; refine (HRF.out _ HX.out.r).mono ?_; rintro e13 w13 ⟨rfl, hb13⟩; have HX : Hid (StX w g9 g13 jb FJ ⟨b, first, cnt, epoch, st.recs, st.next, st.chain⟩ (fun k => z6 ≤ k) (.slice Ak st.recs.length ck) w13) := Lib.hid (HX.out.step hb13); clear hb13; obtain ⟨p0, p1, p2, p3, p4, p5⟩ := HX.out.cells))
  go_wp2
  have HK9 := Lib.hid HX.out.k9
  have n0 : w13.cell? ⟨g9, 0, none⟩ = some (.int .i64 0) := HK9.out.cell 0 _ rfl
  have n1 : w13.cell? ⟨g9, 1, none⟩ = some (.int .i64 0) := HK9.out.cell 1 _ rfl
  have n2 : w13.cell? ⟨g9, 2, none⟩ = some (.int .i64 0) := HK9.out.cell 2 _ rfl
  have n3 : w13.cell? ⟨g9, 3, none⟩ = some (.int .i64 0) := HK9.out.cell 3 _ rfl
  have n4 : w13.cell? ⟨g9, 4, none⟩ = some (.string ⟨#[]⟩) := HK9.out.cell 4 _ rfl
  have n5 : w13.cell? ⟨g9, 5, none⟩ = some (.slice none 0 0) := HK9.out.cell 5 _ rfl
  have z0 := HK9.out.frozen 0
  have z1 := HK9.out.frozen 1
  have z2 := HK9.out.frozen 2
  have z3 := HK9.out.frozen 3
  have z4 := HK9.out.frozen 4
  have z5 := HK9.out.frozen 5
  go_region_with (fail)
  go_wp2
  change bodyPost _ _ _ _ _ (putK w13 g9 first cnt epoch st.next st.chain (.slice Ak st.recs.length ck))
  have hb := putK_blk HK9.out first cnt epoch st.next st.chain (.slice Ak st.recs.length ck)
  have hu := putK_upd w13 g9 first cnt epoch st.next st.chain (.slice Ak st.recs.length ck)
  generalize putK w13 g9 first cnt epoch st.next st.chain (.slice Ak st.recs.length ck) = w14 at *
  generalize hkc : kCells first cnt epoch st.next st.chain (.slice Ak st.recs.length ck) = kc at *
  refine bodyPost_ret (results_tct rfl _ _ g9 38 kc (0, 0) _ rfl hb Tryd.underlying38 rfl (by rw [← hkc]; kernel_rfl)) rfl ?_
  obtain ⟨rv, j1, j2, j3, j4⟩ := HX.out.j
  have hj9 : ∀ k, FJ k → k ≠ g9 := fun k hk he => by have h1 := HFJ.out k hk; have h2 := HG93.out; omega
  rw [HST.out]
  refine ⟨jb, .slice Ak st.recs.length ck, FJ, (fun k => z6 ≤ k), show Ending.returned (Value.tuple #[.pointer (some ⟨jb, 0, none⟩), .agg kc, .bool true]) = _ by rw [← hkc], ⟨rv, j1.upd hu (hj9 _ j2), j2, Kd.R_step j3 (fun k hk hl => hu.block k hl (hj9 k hk)), fun k hk => Nat.lt_of_lt_of_le (j4 k hk) hu.size⟩, Kd.R_step HX.out.r (fun k hk hl => hu.block k hl (fun h => absurd hk (by have := HG6.out; omega))), fun k hk => Nat.le_trans HW3.out (HFJ.out k hk), fun k hk => ⟨Nat.le_trans HG98.out.2 hk, fun h => by have := HFJ6.out k h; omega⟩, HX.out.b.trans (hu.below HX.out.b.size (fun k hk => by rw [hk]; exact HG.out))⟩
set_option maxHeartbeats 2000000 in
set_option maxRecDepth 100000 in
theorem start_bad (w : World) (b : Nat) (d : DK) (FD : Nat → Prop) (v0 v1 : Value) (first cnt : Int) (epoch : Int) (hd : IsDisk w FD b d) (A0 A1 : Option Addr) (c0 c1 : Nat) (hr0 : Kd.C Kd.string w A0 d.dur.length d.dur) (hc0 : d.dur.length ≤ c0)
    (hr1 : Kd.C k80 w A1 (rws d.pend).length (rws d.pend)) (hc1 : (rws d.pend).length ≤ c1)
    (hbad : ¬ (0 ≤ first ∧ 1 ≤ cnt ∧ first + cnt ≤ d.dur.length ∧ 0 ≤ epoch ∧ epoch < 4611686018427387904)) (hc : -9223372036854775808 ≤ cnt ∧ cnt ≤ 9223372036854775807) (h6 : d.dur.length ≤ 1000000) :
    Calls Tryd.prog 13 #[.pointer (some ⟨b, 0, none⟩), .agg #[.slice A0 d.dur.length c0, .slice A1 (rws d.pend).length c1], .agg #[.int .i64 first, .int .i64 cnt], .int .i64 epoch] w fun e w' => ∃ vk Ak ck, vk = .slice Ak 0 ck ∧ e = .returned (.tuple #[.pointer none, .agg (kCells 0 0 0 0 ⟨#[]⟩ vk), .bool true]) ∧ Below w.heap.size w w' := by
  have HOP := Lib.hid (fun W (hW : Below w.heap.size w W) => open_err W b d FD first cnt epoch (hd.upd (Upd.of_below hW (fun _ => False)) (fun _ _ h => h)) h6 hc hbad)
  have HRO := Lib.hid (fun W (hW : Below w.heap.size w W) => modcertref51_Open.calls 2 A0 c0 d.dur A1 c1 (rws d.pend) first cnt epoch _ _ _ _ _ _ _ W (Kd.C_below hr0 hW) hc0 (Kd.C_below hr1 hW) hc1 (open_bad epoch d first cnt hbad hc h6 2 (Nat.le_refl _)))
  clear hd hr0 hc0 hr1 hc1
  go_enter Tryd.func13, Tryd.ntmps13
  go_wp2_with (fail)
  have hb3 : Below w.heap.size w (((w.alloc (.cells #[.slice A0 d.dur.length c0, .slice A1 (rws d.pend).length c1] 29)).alloc (.cells #[.int .i64 first, .int .i64 cnt] 24)).alloc (.cells #[.int .i64 0, .int .i64 0, .int .i64 0, .int .i64 0, .string ⟨#[]⟩, .slice none 0 0] 38)) :=
    (((Below.refl _ _).alloc (Nat.le_refl _) _).alloc (by simp) _).alloc (by simp; omega) _
  have k5 : Blk (((w.alloc (.cells #[.slice A0 d.dur.length c0, .slice A1 (rws d.pend).length c1] 29)).alloc (.cells #[.int .i64 first, .int .i64 cnt] 24)).alloc (.cells #[.int .i64 0, .int .i64 0, .int .i64 0, .int .i64 0, .string ⟨#[]⟩, .slice none 0 0] 38)) w.heap.size #[.slice A0 d.dur.length c0, .slice A1 (rws d.pend).length c1] 29 := ((Blk.new w _ _).alloc _).alloc _
  have k6 : Blk (((w.alloc (.cells #[.slice A0 d.dur.length c0, .slice A1 (rws d.pend).length c1] 29)).alloc (.cells #[.int .i64 first, .int .i64 cnt] 24)).alloc (.cells #[.int .i64 0, .int .i64 0, .int .i64 0, .int .i64 0, .string ⟨#[]⟩, .slice none 0 0] 38)) (w.heap.size + 1) #[.int .i64 first, .int .i64 cnt] 24 := by
    have := (Blk.new (w.alloc (.cells #[.slice A0 d.dur.length c0, .slice A1 (rws d.pend).length c1] 29)) #[.int .i64 first, .int .i64 cnt] 24).alloc (.cells #[.int .i64 0, .int .i64 0, .int .i64 0, .int .i64 0, .string ⟨#[]⟩, .slice none 0 0] 38)
    rw [World.size_alloc] at this
    exact this
  have k9 : Blk (((w.alloc (.cells #[.slice A0 d.dur.length c0, .slice A1 (rws d.pend).length c1] 29)).alloc (.cells #[.int .i64 first, .int .i64 cnt] 24)).alloc (.cells #[.int .i64 0, .int .i64 0, .int .i64 0, .int .i64 0, .string ⟨#[]⟩, .slice none 0 0] 38)) (w.heap.size + 1 + 1) #[.int .i64 0, .int .i64 0, .int .i64 0, .int .i64 0, .string ⟨#[]⟩, .slice none 0 0] 38 := by
    have := Blk.new ((w.alloc (.cells #[.slice A0 d.dur.length c0, .slice A1 (rws d.pend).length c1] 29)).alloc (.cells #[.int .i64 first, .int .i64 cnt] 24)) #[.int .i64 0, .int .i64 0, .int .i64 0, .int .i64 0, .string ⟨#[]⟩, .slice none 0 0] 38
    rw [World.size_alloc, World.size_alloc] at this
    exact this
  have HG : Hid (w.heap.size ≤ w.heap.size + 1 + 1) := Lib.hid (by omega)
  generalize (((w.alloc (.cells #[.slice A0 d.dur.length c0, .slice A1 (rws d.pend).length c1] 29)).alloc (.cells #[.int .i64 first, .int .i64 cnt] 24)).alloc (.cells #[.int .i64 0, .int .i64 0, .int .i64 0, .int .i64 0, .string ⟨#[]⟩, .slice none 0 0] 38)) = w3 at *
  generalize hg9 : w.heap.size + 1 + 1 = g9 at *
  generalize hg6 : w.heap.size + 1 = g6 at *
  clear hg9 hg6
  have HB3 := Lib.hid hb3
  have HK9 := Lib.hid k9
  refine (HOP.out w3 hb3).mono ?_
  rintro e6 w6 ⟨rfl, hb6⟩
  have HG93 := Lib.hid HK9.out.lt
  have HB6 := Lib.hid (HB3.out.trans (hb6.mono HB3.out.size))
  have HU6 := Lib.hid hb6
  have q50 : w6.cell? ⟨w.heap.size, 0, none⟩ = some (.slice A0 d.dur.length c0) := (k5.upd (Upd.of_below hb6 (fun _ => False)) (fun h => h)).cell 0 _ rfl
  have q51 : w6.cell? ⟨w.heap.size, 1, none⟩ = some (.slice A1 (rws d.pend).length c1) := (k5.upd (Upd.of_below hb6 (fun _ => False)) (fun h => h)).cell 1 _ rfl
  have q60 : w6.cell? ⟨g6, 0, none⟩ = some (.int .i64 first) := (k6.upd (Upd.of_below hb6 (fun _ => False)) (fun h => h)).cell 0 _ rfl
  have q61 : w6.cell? ⟨g6, 1, none⟩ = some (.int .i64 cnt) := (k6.upd (Upd.of_below hb6 (fun _ => False)) (fun h => h)).cell 1 _ rfl
  clear hb3 k5 k6 k9 hb6
  go_wp2_with (fail)
  refine (HRO.out w6 HB6.out).mono ?_
  rintro e7 w7 ⟨vk, rfl, hrk, hb7⟩
  have HB7 := Lib.hid (HB6.out.trans (hb7.mono HB6.out.size))
  have HK97 := Lib.hid ((HK9.out.upd (Upd.of_below HU6.out (fun _ => False)) (fun h => h)).upd (Upd.of_below hb7 (fun _ => False)) (fun h => h))
  obtain ⟨Ak, ck, rfl, _, _⟩ := Kd.R_reads hrk
  rw [List.length_nil]
  clear hrk hb7 q50 q51 q60 q61 HRO HOP
  go_wp2_with (fail)
  have HX : Hid (Below w.heap.size w (w7.alloc (.cells #[.int .i64 0, .int .i64 0, .int .i64 0, .int .i64 0, .string ⟨#[]⟩, .slice Ak 0 ck] 38))) := Lib.hid (HB7.out.alloc HB7.out.size _)
  have HK13 := Lib.hid (Blk.new w7 #[.int .i64 0, .int .i64 0, .int .i64 0, .int .i64 0, .string ⟨#[]⟩, .slice Ak 0 ck] 38)
  have HK98 := Lib.hid (HK97.out.alloc (.cells #[.int .i64 0, .int .i64 0, .int .i64 0, .int .i64 0, .string ⟨#[]⟩, .slice Ak 0 ck] 38))
  clear HB7 HK97 HK9 HB6 HU6 HB3
  generalize (w7.alloc (.cells #[.int .i64 0, .int .i64 0, .int .i64 0, .int .i64 0, .string ⟨#[]⟩, .slice Ak 0 ck] 38)) = w8 at *
  generalize w7.heap.size = g13 at *
  go_quiet (fail)
  have HX2 := Lib.hid (HX.out.drewN' nq)
  have HKA := Lib.hid (HK98.out.drewN nq)
  have HKB := Lib.hid (HK13.out.drewN nq)
  clear HX HK98 HK13
  generalize w8.drewN nq = w13 at *
  go_wp2_with (fail)
  have n0 : w13.cell? ⟨g9, 0, none⟩ = some (.int .i64 0) := HKA.out.cell 0 _ rfl
  have n1 : w13.cell? ⟨g9, 1, none⟩ = some (.int .i64 0) := HKA.out.cell 1 _ rfl
  have n2 : w13.cell? ⟨g9, 2, none⟩ = some (.int .i64 0) := HKA.out.cell 2 _ rfl
  have n3 : w13.cell? ⟨g9, 3, none⟩ = some (.int .i64 0) := HKA.out.cell 3 _ rfl
  have n4 : w13.cell? ⟨g9, 4, none⟩ = some (.string ⟨#[]⟩) := HKA.out.cell 4 _ rfl
  have n5 : w13.cell? ⟨g9, 5, none⟩ = some (.slice none 0 0) := HKA.out.cell 5 _ rfl
  have p0 : w13.cell? ⟨g13, 0, none⟩ = some (.int .i64 0) := HKB.out.cell 0 _ rfl
  have p1 : w13.cell? ⟨g13, 1, none⟩ = some (.int .i64 0) := HKB.out.cell 1 _ rfl
  have p2 : w13.cell? ⟨g13, 2, none⟩ = some (.int .i64 0) := HKB.out.cell 2 _ rfl
  have p3 : w13.cell? ⟨g13, 3, none⟩ = some (.int .i64 0) := HKB.out.cell 3 _ rfl
  have p4 : w13.cell? ⟨g13, 4, none⟩ = some (.string ⟨#[]⟩) := HKB.out.cell 4 _ rfl
  have p5 : w13.cell? ⟨g13, 5, none⟩ = some (.slice Ak 0 ck) := HKB.out.cell 5 _ rfl
  have z0 := HKA.out.frozen 0
  have z1 := HKA.out.frozen 1
  have z2 := HKA.out.frozen 2
  have z3 := HKA.out.frozen 3
  have z4 := HKA.out.frozen 4
  have z5 := HKA.out.frozen 5
  go_region_with (fail)
  go_wp2
  change bodyPost _ _ _ _ _ (putK w13 g9 0 0 0 0 ⟨#[]⟩ (.slice Ak 0 ck))
  have hb := putK_blk HKA.out 0 0 0 0 ⟨#[]⟩ (.slice Ak 0 ck)
  have hu := putK_upd w13 g9 0 0 0 0 ⟨#[]⟩ (.slice Ak 0 ck)
  generalize putK w13 g9 0 0 0 0 ⟨#[]⟩ (.slice Ak 0 ck) = w14 at *
  generalize hkc : kCells 0 0 0 0 ⟨#[]⟩ (.slice Ak 0 ck) = kc at *
  refine bodyPost_ret (results_tct rfl _ _ g9 38 kc (0, 0) _ rfl hb Tryd.underlying38 rfl (by rw [← hkc]; kernel_rfl)) rfl ?_
  exact ⟨.slice Ak 0 ck, Ak, ck, rfl, show Ending.returned (Value.tuple #[.pointer none, .agg kc, .bool true]) = _ by rw [← hkc], HX2.out.trans (hu.below HX2.out.size (fun k hk => by rw [hk]; exact HG.out))⟩
end Go.Proofs.YtpmjipokkkkljaaDoor
