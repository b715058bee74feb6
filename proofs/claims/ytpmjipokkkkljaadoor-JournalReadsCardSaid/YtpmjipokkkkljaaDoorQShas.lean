/-
  Part of the proof of cd_card: the lemmas of Shas that it uses.
-/
import Derived.Test.YtpmjipokkkkljaaDoorQBase
import Derived.Test.YtpmjipokkkkljaaDoorQHeads
import Derived.StillTailTactics
import Derived.IntWalk
import Derived.Laws.PanicsMore
namespace Go.Proofs.YtpmjipokkkkljaaDoor
set_option linter.all false
set_option linter.unusedVariables false
set_option linter.unusedSimpArgs false
open Go.RowKit Go.Proofs.YtpmjipokkkkljaaDoorW.PrintWords Go.Proofs.YtpmjipokkkkljaaDoorW.PrintLast Go.Proofs.YtpmjipokkkkljaaDoorW.PrintMore
def u32s (xs : List Int) : List Value := xs.map fun x => .int .u32 x
def kList : List Int := [1116352408, 1899447441, 3049323471, 3921009573, 961987163, 1508970993, 2453635748, 2870763221, 3624381080, 310598401, 607225278, 1426881987, 1925078388, 2162078206, 2614888103, 3248222580, 3835390401, 4022224774, 264347078, 604807628, 770255983, 1249150122, 1555081692, 1996064986, 2554220882, 2821834349, 2952996808, 3210313671, 3336571891, 3584528711, 113926993, 338241895, 666307205, 773529912, 1294757372, 1396182291, 1695183700, 1986661051, 2177026350, 2456956037, 2730485921, 2820302411, 3259730800, 3345764771, 3516065817, 3600352804, 4094571909, 275423344, 430227734, 506948616, 659060556, 883997877, 958139571, 1322822218, 1537002063, 1747873779, 1955562222, 2024104815, 2227730452, 2361852424, 2428436474, 2756734187, 3204031479, 3329325298]
/-- A composite value whose parts are known. -/
theorem build_list {P : Program} {ops : Array Oper} {rest : List Oper} {o : Oper} {a : Act} {w : World} {Q : Exit → Act → World → Prop} (hg : o.guard = none) (t : TypeId) (parts : Array (Nat × Operand)) (ho : o.op = .build t parts) (cs : Array Value)
    (hb : P.built t (parts.map fun (i, x) => (i, a.eval x)).toList = some cs) (h : wpList P ops Q rest (a.put o.dst (.agg cs)) w) : wpList P ops Q (o :: rest) a w :=
  wpList_build hg t parts ho (by rw [hb]; rfl) (by rw [hb]; exact h)
theorem setRow_heap {w : World} {g : Nat} {old cs : Array Value} {t : TypeId} (h : Blk w g old t) : Blk (w.setRow g cs) g cs t := by
  unfold Blk at h ⊢
  simp [World.setRow, Array.getElem?_modify, h]
theorem Upd.setRow {S : Nat → Prop} {a b : World} (h : Upd S a b) {g : Nat} (hg : S g ∨ a.heap.size ≤ g) (cs : Array Value) : Upd S a (b.setRow g cs) :=
  h.trans (S' := fun k => k = g) ⟨rfl, rfl, rfl, by simp [World.setRow], fun i _ hn => by simp only [World.setRow, Array.getElem?_modify]; rw [if_neg (by omega)]⟩ (fun k hk => by rw [hk]; exact hg)
def zs64 : Array Value := (u32s (List.replicate 64 0)).toArray
theorem alloc64 (W : World) : (Instr.alloc 146 true (.tuple #[])).run Tryd.prog W = .ok (.pointer (some ⟨W.heap.size, 0, none⟩)) (W.alloc (.cells zs64 146 (0, 0))) := by kernel_rfl
theorem info64u : (Tryd.prog.info? 146).map (·.size) = some 64 := by kernel_rfl
theorem kSize : (u32s kList).toArray.size = 64 := by kernel_rfl
set_option maxRecDepth 100000 in
set_option maxHeartbeats 2000000 in
theorem constants_any (w : World) :
    Calls Tryd.prog 82 #[] w fun e w' => e = .returned (.agg (u32s kList).toArray) ∧ Below w.heap.size w w' := by
  go_enter Tryd.func82, Tryd.ntmps82
  go_wp2_with first
    | ((with_reducible refine gate_dst (N := 0) rfl ?_)
       refine box_event rfl rfl (cs := zs64) (t := 146) (by simp only [execOp]; simp [alloc64, Result.andThen]) ?_
       intro g hg w1 hb hbel)
    | ((with_reducible refine gate_dst (N := 1) rfl ?_)
       refine build_list rfl 146 _ rfl (u32s kList).toArray (by kernel_rfl) ?_)
    | ((with_reducible refine gate_store (t := 146) (p := 0) (v := .tmp 1) rfl ?_)
       refine wpList_store_row rfl 146 _ _ rfl g (u32s kList).toArray rfl rfl 146 zs64 hb (by rw [info64u, kSize]) (by kernel_rfl) (by kernel_rfl) ?_)
  refine bodyPost_ret (results_cell_row rfl _ _ g 146 (u32s kList).toArray (0, 0) _ rfl (setRow_heap hb) Tryd.underlying146 rfl (by rw [info64u, kSize])) rfl ?_
  exact ⟨rfl, ((Upd.of_below hbel (fun _ => False)).setRow (.inr (by omega)) _).below_all⟩
/-- A word rotated to the right. -/
def rr (x : Int) (n : Nat) : Int := bits .or .u32 (x * 2 ^ (32 - n) % 4294967296) (x / 2 ^ n)
theorem rot_any (x k m : Int) (w : World) (hk : bits BinOp.and IntKind.u64 (IntKind.u64.wrap k) 31 = m) (h0 : 0 ≤ m) (h1 : m ≤ 31) :
    Calls Tryd.prog 80 #[.int .u32 x, .int .i64 k] w fun e w' => e = .returned (.int .u32 (bits .or .u32 (x * 2 ^ m.toNat % 4294967296) (x / 2 ^ (32 - m).toNat))) ∧ w = w' := by
  go_enter Tryd.func80, Tryd.ntmps80
  go_wp2
  go_ret
  exact ⟨rfl, rfl⟩
theorem rot_n (x k : Int) (n : Nat) (w : World) (hk : bits BinOp.and IntKind.u64 (IntKind.u64.wrap k) 31 = 32 - (n : Int)) (h0 : 1 ≤ n) (h1 : n ≤ 31) :
    Calls Tryd.prog 80 #[.int .u32 x, .int .i64 k] w fun e w' => e = .returned (.int .u32 (rr x n)) ∧ w = w' := by
  refine (rot_any x k _ w hk (by omega) (by omega)).mono ?_
  rintro e w' ⟨rfl, rfl⟩
  refine ⟨?_, rfl⟩
  unfold rr
  rw [show ((32 : Int) - n).toNat = 32 - n by omega, show ((32 : Int) - (32 - (n : Int))).toNat = n by omega]
def mixA (x : Int) (a b c : Nat) : Int := bits .xor .u32 (bits .xor .u32 (rr x a) (rr x b)) (rr x c)
def mixS (x : Int) (a b c : Nat) : Int := bits .xor .u32 (bits .xor .u32 (rr x a) (rr x b)) (x / 2 ^ c)
theorem mixA1 (x : Int) (w : World) : Calls Tryd.prog 79 #[.int .u32 x, .int .i64 6, .int .i64 11, .int .i64 25] w fun e w' => e = .returned (.int .u32 (mixA x 6 11 25)) ∧ w = w' := by
  go_enter Tryd.func79, Tryd.ntmps79
  go_wp2_with fail
  refine (rot_n x (-6) 6 _ (by decide +kernel) (by decide) (by decide)).mono ?_
  rintro e w' ⟨rfl, rfl⟩
  go_wp2_with fail
  refine (rot_n x (-11) 11 _ (by decide +kernel) (by decide) (by decide)).mono ?_
  rintro e w' ⟨rfl, rfl⟩
  go_wp2_with fail
  refine (rot_n x (-25) 25 _ (by decide +kernel) (by decide) (by decide)).mono ?_
  rintro e w' ⟨rfl, rfl⟩
  go_wp2
  go_ret
  exact ⟨rfl, rfl⟩
theorem mixA2 (x : Int) (w : World) : Calls Tryd.prog 79 #[.int .u32 x, .int .i64 2, .int .i64 13, .int .i64 22] w fun e w' => e = .returned (.int .u32 (mixA x 2 13 22)) ∧ w = w' := by
  go_enter Tryd.func79, Tryd.ntmps79
  go_wp2_with fail
  refine (rot_n x (-2) 2 _ (by decide +kernel) (by decide) (by decide)).mono ?_
  rintro e w' ⟨rfl, rfl⟩
  go_wp2_with fail
  refine (rot_n x (-13) 13 _ (by decide +kernel) (by decide) (by decide)).mono ?_
  rintro e w' ⟨rfl, rfl⟩
  go_wp2_with fail
  refine (rot_n x (-22) 22 _ (by decide +kernel) (by decide) (by decide)).mono ?_
  rintro e w' ⟨rfl, rfl⟩
  go_wp2
  go_ret
  exact ⟨rfl, rfl⟩
theorem rot_q (x k : Int) (n : Nat) (w : World) (hk : bits BinOp.and IntKind.u64 (IntKind.u64.wrap k) 31 = 32 - (n : Int)) (h0 : 1 ≤ n) (h1 : n ≤ 31) :
    Calls Tryd.prog 80 #[.int .u32 x, .int .i64 k] w fun e w' => e = .returned (.int .u32 (rr x n)) ∧ w' = w := (rot_n x k n w hk h0 h1).mono fun _ _ h => ⟨h.1, h.2.symm⟩
theorem mixS1 (x : Int) (w : World) : Calls Tryd.prog 91 #[.int .u32 x, .int .i64 17, .int .i64 19, .int .i64 10] w fun e w' => e = .returned (.int .u32 (mixS x 17 19 10)) ∧ ∃ n, w' = w.drewN n := by
  go_enter Tryd.func91, Tryd.ntmps91
  go_wp2
  go_quiet ((go_at_call 80; first | with_reducible exact Calls.quiet_of_same (rot_q x (-17) 17 _ (by decide +kernel) (by decide) (by decide)) | with_reducible exact Calls.quiet_of_same (rot_q x (-19) 19 _ (by decide +kernel) (by decide) (by decide))))
  go_wp2
  go_ret
  exact ⟨rfl, _, rfl⟩
theorem mixS2 (x : Int) (w : World) : Calls Tryd.prog 91 #[.int .u32 x, .int .i64 7, .int .i64 18, .int .i64 3] w fun e w' => e = .returned (.int .u32 (mixS x 7 18 3)) ∧ ∃ n, w' = w.drewN n := by
  go_enter Tryd.func91, Tryd.ntmps91
  go_wp2
  go_quiet ((go_at_call 80; first | with_reducible exact Calls.quiet_of_same (rot_q x (-7) 7 _ (by decide +kernel) (by decide) (by decide)) | with_reducible exact Calls.quiet_of_same (rot_q x (-18) 18 _ (by decide +kernel) (by decide) (by decide))))
  go_wp2
  go_ret
  exact ⟨rfl, _, rfl⟩
end Go.Proofs.YtpmjipokkkkljaaDoor
namespace Go.Proofs.YtpmjipokkkkljaaDoor
set_option linter.all false
set_option linter.unusedVariables false
set_option linter.unusedSimpArgs false
open Go.RowKit Go.Proofs.YtpmjipokkkkljaaDoorW.PrintWords Go.Proofs.YtpmjipokkkkljaaDoorW.PrintLast Go.Proofs.YtpmjipokkkkljaaDoorW.PrintMore
theorem bt_nat (s : ByteArray) (j : Nat) (h : j < s.size) : bt s (j : Nat) = ((s[j]'h).toNat : Int) := by
  unfold bt
  have e : (j : Int).toNat = j := Int.toNat_natCast j
  rw [dif_pos (by rw [e]; exact h)]
  simp only [e]
/-- A word of a block, after some of its bytes. -/
def wk (s : ByteArray) (i : Nat) : Nat → Int
  | 0 => 0
  | k + 1 => bits .or .u32 (IntKind.u32.wrap (wk s i k * 256)) (IntKind.u32.wrap (bt s (4 * i + k : Nat)))
def schedNext (g : List Int) (i : Nat) : Int :=
  IntKind.u32.wrap (IntKind.u32.wrap (IntKind.u32.wrap (mixS (g.getD (i - 2) 0) 17 19 10 + g.getD (i - 7) 0) + mixS (g.getD (i - 15) 0) 7 18 3) + g.getD (i - 16) 0)
def sched (s : ByteArray) : Nat → List Int
  | 0 => []
  | i + 1 => sched s i ++ [if i < 16 then wk s i 4 else schedNext (sched s i) i]
theorem sched_len (s : ByteArray) : ∀ i, (sched s i).length = i
  | 0 => rfl
  | i + 1 => by simp [sched, sched_len s i]
theorem u32s_len (xs : List Int) : (u32s xs).length = xs.length := by simp [u32s]
theorem Blk.u32cell {w : World} {g : Nat} {xs : List Int} {t : TypeId} (h : Blk w g (u32s xs).toArray t) (i : Nat) (hi : i < xs.length) : w.cell? ⟨g, i, none⟩ = some (.int .u32 (xs.getD i 0)) :=
  h.cell i _ (by simp [u32s, List.getD_eq_getElem?_getD, hi])
theorem Blk.u32set {w : World} {g : Nat} {xs : List Int} {t : TypeId} (h : Blk w g (u32s xs).toArray t) (i : Nat) (v : Int) : Blk (w.setCell ⟨g, i, none⟩ (.int .u32 v)) g (u32s (xs.set i v)).toArray t := by
  have := h.set i (.int .u32 v)
  simpa [u32s, List.map_set] using this
def schedAt (s : ByteArray) (i : Nat) (x : Int) : List Int := sched s i ++ x :: List.replicate (63 - i) 0
theorem schedAt_start (s : ByteArray) (i : Nat) (hi : i < 64) : sched s i ++ List.replicate (64 - i) 0 = schedAt s i 0 := by
  unfold schedAt
  rw [show 64 - i = (63 - i) + 1 by omega, List.replicate_succ]
theorem schedAt_set (s : ByteArray) (i : Nat) (x y : Int) : (schedAt s i x).set i y = schedAt s i y := by
  unfold schedAt
  rw [List.set_append_right _ _ (by rw [sched_len]; exact Nat.le_refl _), sched_len, Nat.sub_self, List.set_cons_zero]
theorem schedAt_end (s : ByteArray) (i : Nat) (hi : i < 64) (x : Int) (hx : x = if i < 16 then wk s i 4 else schedNext (sched s i) i) : schedAt s i x = sched s (i + 1) ++ List.replicate (64 - (i + 1)) 0 := by
  unfold schedAt
  rw [show 64 - (i + 1) = 63 - i by omega]
  simp [sched, ← hx]
theorem schedAt_len (s : ByteArray) (i : Nat) (hi : i < 64) (x : Int) : (schedAt s i x).length = 64 := by
  simp [schedAt, sched_len]; omega
theorem schedAt_get (s : ByteArray) (i j : Nat) (x : Int) (hj : j < i) : (schedAt s i x).getD j 0 = (sched s i).getD j 0 := by
  unfold schedAt
  simp only [List.getD_eq_getElem?_getD]
  rw [List.getElem?_append_left (by rw [sched_len]; exact hj)]
theorem schedAt_self (s : ByteArray) (i : Nat) (x : Int) : (schedAt s i x).getD i 0 = x := by
  unfold schedAt
  simp only [List.getD_eq_getElem?_getD]
  rw [List.getElem?_append_right (by rw [sched_len]; exact Nat.le_refl _), sched_len, Nat.sub_self]; rfl
/-- What a cell holds, under a name. -/
def cellAt (w : World) (a : Addr) : Value := (w.cell? a).getD undef
theorem cellAt_some {w : World} {a : Addr} (h : (w.cell? a).isSome = true) : w.cell? a = some (cellAt w a) := by
  unfold cellAt
  cases h2 : w.cell? a with
  | none => rw [h2] at h; cases h
  | some v => rfl
theorem all_u32 (xs : List Int) : (u32s xs).toArray.all (·.oneCell') = true := by
  rw [Array.all_eq_true']
  intro x hx
  simp [u32s] at hx
  obtain ⟨y, _, rfl⟩ := hx
  rfl
theorem _root_.Go.RowKit.Below.drewN' {B : Nat} {a w : World} (h : Below B a w) (n : Nat) : Below B a (w.drewN n) := ⟨h.os, h.tape, h.output, h.size, h.block⟩
def SchedRel (w : World) (s : ByteArray) (g2 g3 : Nat) (v : Value) (wr : World) : Prop :=
  ∃ i : Nat, i ≤ 64 ∧ v = .int .i64 i ∧ Blk wr g2 zs64 146 ∧ Blk wr g3 (u32s (sched s i ++ List.replicate (64 - i) 0)).toArray 146 ∧ Below w.heap.size w wr
def SchedRel2 (w : World) (s : ByteArray) (g2 g3 i : Nat) (v : Value) (wr : World) : Prop :=
  ∃ k : Nat, k ≤ 4 ∧ v = .int .i64 k ∧ Blk wr g2 zs64 146 ∧ Blk wr g3 (u32s (schedAt s i (wk s i k))).toArray 146 ∧ Below w.heap.size w wr
set_option maxRecDepth 100000 in
set_option maxHeartbeats 2000000 in
theorem schedule_any (s : ByteArray) (w : World) (hs : s.size = 64) :
    Calls Tryd.prog 81 #[.string s] w fun e w' => e = .returned (.agg (u32s (sched s 64)).toArray) ∧ Below w.heap.size w w' := by
  have HS := Lib.hid hs
  have hs1 : 64 ≤ s.size := by omega
  clear hs
  go_enter Tryd.func81, Tryd.ntmps81
  go_wp2_with first
    | ((with_reducible refine gate_dst (N := 2) rfl ?_)
       refine box_event rfl rfl (cs := zs64) (t := 146) (by simp only [execOp]; simp [alloc64, Result.andThen]) ?_
       intro g2 hg2 w2 hb2 hbel2
       have HG2 := Lib.hid hg2
       clear hg2)
    | ((with_reducible refine gate_dst (N := 3) rfl ?_)
       refine box_event rfl rfl (cs := zs64) (t := 146) (by simp only [execOp]; simp [alloc64, Result.andThen]) ?_
       intro g3 hg3 w3 hb3 hbel3
       have HG3 := Lib.hid hg3
       clear hg3)
  have h23 : g2 ≠ g3 := by have := blk_lt hb2; have e3 := HG3.out; omega
  have h2 : w.heap.size ≤ g2 := by have e2 := HG2.out; omega
  have h3 : w.heap.size ≤ g3 := by have := hbel2.size; have e3 := HG3.out; omega
  have HB2 : Hid (Blk w3 g2 zs64 146) := (hbel3.block g2 (blk_lt hb2)).trans hb2
  have HB3 : Hid (Blk w3 g3 zs64 146) := hb3
  have HBL : Hid (Below w.heap.size w w3) := hbel2.trans (hbel3.mono hbel2.size)
  clear hb2 hb3 hbel2 hbel3 HG2 HG3
  go_loopw [7] (fun v wr => SchedRel w s g2 g3 v wr) (fun v _ => 64 - (intOf v).toNat)
  case atStart => exact ⟨0, by omega, rfl, HB2.out, HB3.out, HBL.out⟩
  case round =>
    obtain ⟨i, hi, rfl, hb2, hb3, hbl⟩ := hrel
    have HB2 := Lib.hid hb2
    have HB3 := Lib.hid hb3
    have HBL := Lib.hid hbl
    clear hb2 hb3 hbl
    by_cases hlt : i < 64
    · have d64 : decide ((i : Int) < 64) = true := by simp; omega
      by_cases h16 : i < 16
      · have d16 : decide ((i : Int) < 16) = true := by simp; omega
        go_wp2
        go_loopw [12] (fun v wr => SchedRel2 w s g2 g3 i v wr) (fun v _ => 4 - (intOf v).toNat)
        case atStart => exact ⟨0, by omega, rfl, HB2.out, by have := HB3.out; rw [schedAt_start s i hlt] at this; exact this, HBL.out⟩
        case round =>
          obtain ⟨k, hk, rfl, hb2, hb3, hbl⟩ := hrel
          by_cases hk4 : k < 4
          · have c3 : wr.cell? ⟨g3, i, none⟩ = some (.int .u32 ((schedAt s i (wk s i k)).getD i 0)) := hb3.u32cell i (by rw [schedAt_len s i hlt]; exact hlt)
            have f3 : wr.frozen? ⟨g3, i, none⟩ = false := hb3.frozen i
            rw [schedAt_self] at c3
            have HB2 := Lib.hid hb2
            have HB3 := Lib.hid hb3
            have HBL := Lib.hid hbl
            clear hb2 hb3 hbl
            have dk : decide ((k : Int) < 4) = true := by simp; omega
            have i64lt : (i : Int) < 64 := by omega
            have x0 : (0 : Int) ≤ 4 * (i : Int) + k := by omega
            have x1 : 4 * (i : Int) + k < (s.size : Int) := by omega
            go_wp2
            have e1 : IntKind.i64.wrap (4 * (i : Int)) = 4 * (i : Int) := IntWalk.i64_in _ (by omega)
            have e2 : IntKind.i64.wrap (4 * (i : Int) + k) = 4 * (i : Int) + k := IntWalk.i64_in _ (by omega)
            have e3 : (4 * (i : Int) + k).toNat = 4 * i + k := by omega
            go_still_tail 13, (by kernel_rfl)
            have hb : 4 * i + k < s.size := by clear e1 e2 e3; omega
            have hbt : ((s[4 * i + k]'hb).toNat : Int) = bt s (4 * i + k : Nat) := by
              exact (bt_nat s _ hb).symm
            simp only [hbt]
            clear e1 e2 e3 hbt c3
            change wpList _ _ _ _ _ wr.drew
            have c4 : wr.drew.cell? ⟨g3, i, none⟩ = some (.int .u32 ((schedAt s i (wk s i k)).getD i 0)) := HB3.out.u32cell i (by rw [schedAt_len s i hlt]; exact hlt)
            have f4 : wr.drew.frozen? ⟨g3, i, none⟩ = false := HB3.out.frozen i
            have HB4 : Hid (Blk wr.drew g3 (u32s (schedAt s i (wk s i k))).toArray 146) := HB3.out
            have HB5 : Hid (Blk wr.drew g2 zs64 146) := HB2.out
            have HBL4 : Hid (Below w.heap.size w wr.drew) := HBL.out.drew
            clear HB3 HB2 HBL f3
            generalize wr.drew = W1 at *
            go_wp2
            go_roundw
            case rel =>
              refine ⟨k + 1, by omega, by go_num, HB5.out.far h23 _, ?_, HBL4.out.setCell (p := ⟨g3, i, none⟩) h3 _⟩
              have := HB4.out.u32set i (wk s i (k + 1))
              rw [schedAt_set] at this
              exact this
            case measure => simp [intOf]; omega
          · obtain rfl : k = 4 := by omega
            have HB2 := Lib.hid hb2
            have HB3 := Lib.hid hb3
            have HBL := Lib.hid hbl
            clear hb2 hb3 hbl
            go_wp2
            go_roundw
            case rel =>
              refine ⟨i + 1, by omega, by go_num, HB2.out, ?_, HBL.out⟩
              rw [← schedAt_end s i hlt _ (by rw [if_pos h16])]
              exact HB3.out
            case measure => simp [intOf]; omega
      · have d16 : decide ((i : Int) < 16) = false := by simp; omega
        have get : ∀ j, j < i → wr.cell? ⟨g3, j, none⟩ = some (.int .u32 ((sched s i).getD j 0)) := fun j hj => by
          have := HB3.out
          rw [schedAt_start s i hlt] at this
          have h2 := this.u32cell j (by rw [schedAt_len s i hlt]; omega)
          rwa [schedAt_get s i j 0 hj] at h2
        have c2 := get (i - 2) (by omega)
        have c7 := get (i - 7) (by omega)
        have c15 := get (i - 15) (by omega)
        have c16 := get (i - 16) (by omega)
        have f3 : wr.frozen? ⟨g3, i, none⟩ = false := HB3.out.frozen i
        have c0 : wr.cell? ⟨g3, i, none⟩ = some (.int .u32 0) := by
          have := HB3.out
          rw [schedAt_start s i hlt] at this
          have h2 := this.u32cell i (by rw [schedAt_len s i hlt]; omega)
          rwa [schedAt_self] at h2
        clear get
        generalize ha2 : (sched s i).getD (i - 2) 0 = a2 at c2
        generalize ha7 : (sched s i).getD (i - 7) 0 = a7 at c7
        generalize ha15 : (sched s i).getD (i - 15) 0 = a15 at c15
        generalize ha16 : (sched s i).getD (i - 16) 0 = a16 at c16
        have HN : Hid (schedNext (sched s i) i = IntKind.u32.wrap (IntKind.u32.wrap (IntKind.u32.wrap (mixS a2 17 19 10 + a7) + mixS a15 7 18 3) + a16)) := by
          show schedNext (sched s i) i = _
          unfold schedNext
          rw [ha2, ha7, ha15, ha16]
        clear ha2 ha7 ha15 ha16
        go_wp2
        have e1 : IntKind.i64.wrap ((i : Int) - 2) = (i : Int) - 2 := IntWalk.i64_in _ (by omega)
        have e2 : IntKind.i64.wrap ((i : Int) - 7) = (i : Int) - 7 := IntWalk.i64_in _ (by omega)
        have e3 : IntKind.i64.wrap ((i : Int) - 15) = (i : Int) - 15 := IntWalk.i64_in _ (by omega)
        have e4 : IntKind.i64.wrap ((i : Int) - 16) = (i : Int) - 16 := IntWalk.i64_in _ (by omega)
        have n1 : ((i : Int) - 2).toNat = i - 2 := by omega
        have n2 : ((i : Int) - 7).toNat = i - 7 := by omega
        have n3 : ((i : Int) - 15).toNat = i - 15 := by omega
        have n4 : ((i : Int) - 16).toNat = i - 16 := by omega
        have b1 : (0 : Int) ≤ (i : Int) - 2 ∧ (i : Int) - 2 < 64 := by omega
        have b2 : (0 : Int) ≤ (i : Int) - 7 ∧ (i : Int) - 7 < 64 := by omega
        have b3 : (0 : Int) ≤ (i : Int) - 15 ∧ (i : Int) - 15 < 64 := by omega
        have b4 : (0 : Int) ≤ (i : Int) - 16 ∧ (i : Int) - 16 < 64 := by omega
        have q2 : Hid ((⟨g3, i, none⟩ : Addr) ≠ ⟨g3, i - 2, none⟩) := by intro e; injection e with _ e; omega
        have q7 : Hid ((⟨g3, i, none⟩ : Addr) ≠ ⟨g3, i - 7, none⟩) := by intro e; injection e with _ e; omega
        have q15 : Hid ((⟨g3, i, none⟩ : Addr) ≠ ⟨g3, i - 15, none⟩) := by intro e; injection e with _ e; omega
        have q16 : Hid ((⟨g3, i, none⟩ : Addr) ≠ ⟨g3, i - 16, none⟩) := by intro e; injection e with _ e; omega
        have m1 : (2 : Int) ≤ (i : Int) ∧ (7 : Int) ≤ (i : Int) ∧ (15 : Int) ≤ (i : Int) ∧ (16 : Int) ≤ (i : Int) ∧ (i : Int) < 64 := by omega
        obtain ⟨m1, m2, m3, m4, m5⟩ := m1
        obtain ⟨b1, b1'⟩ := b1
        obtain ⟨b2, b2'⟩ := b2
        obtain ⟨b3, b3'⟩ := b3
        obtain ⟨b4, b4'⟩ := b4
        have S0 : Hid ((wr.cell? ⟨g3, i, none⟩).isSome = true) := by show _ = _; rw [c0]; rfl
        have s0 : wr.cell? ⟨g3, i, none⟩ = some (cellAt wr ⟨g3, i, none⟩) := cellAt_some S0.out
        clear c0
        go_region_held3 (fun w' => w'.cell? ⟨g3, i - 2, none⟩ = some (.int .u32 a2) ∧ w'.cell? ⟨g3, i - 7, none⟩ = some (.int .u32 a7) ∧ w'.cell? ⟨g3, i - 15, none⟩ = some (.int .u32 a15) ∧ w'.cell? ⟨g3, i - 16, none⟩ = some (.int .u32 a16) ∧ w'.cell? ⟨g3, i, none⟩ = some (cellAt w' ⟨g3, i, none⟩) ∧ w'.frozen? ⟨g3, i, none⟩ = false) (first | exact ⟨c2, c7, c15, c16, s0, f3⟩ | exact ⟨(World.cell?_setCell_other _ _ _ _ q2.out).trans c2, (World.cell?_setCell_other _ _ _ _ q7.out).trans c7, (World.cell?_setCell_other _ _ _ _ q15.out).trans c15, (World.cell?_setCell_other _ _ _ _ q16.out).trans c16, cellAt_some ((congrArg Option.isSome (World.cell?_setCell_same' _ _ _ S0.out)).trans rfl), by rw [World.frozen?_setCell]; exact f3⟩) (first | (go_at_call 91; with_reducible refine (mixS1 a2 _).mono ?_; rintro e w' ⟨rfl, n, rfl⟩) | (go_at_call 91; with_reducible refine (mixS2 a15 _).mono ?_; rintro e w' ⟨rfl, n, rfl⟩))
        clear e1 e2 e3 e4 n1 n2 n3 n4 b1 b2 b3 b4 b1' b2' b3' b4' c2 c7 c15 c16 s0 f3 S0 q2 q7 q15 q16
        go_wp2
        go_roundw
        case rel =>
          refine ⟨i + 1, by omega, by go_num, (HB2.out.drewN _).far h23 _, ?_, (Below.drewN' HBL.out _).setCell (p := ⟨g3, i, none⟩) h3 _⟩
          have h0 := HB3.out
          rw [schedAt_start s i hlt] at h0
          have hx : ∀ m, Blk ((wr.drewN m).setCell ⟨g3, i, none⟩ (.int .u32 (schedNext (sched s i) i))) g3 (u32s (sched s (i + 1) ++ List.replicate (64 - (i + 1)) 0)).toArray 146 := fun m => by
            have := (h0.drewN m).u32set i (schedNext (sched s i) i)
            rwa [schedAt_set, schedAt_end s i hlt _ (by rw [if_neg h16])] at this
          rw [HN.out] at hx
          exact hx _
        case measure => simp [intOf]; omega
    · obtain rfl : i = 64 := by omega
      have hb3 : Blk wr g3 (u32s (sched s 64)).toArray 146 := by have := HB3.out; simpa using this
      have hsz : (u32s (sched s 64)).toArray.size = 64 := by simp [u32s, sched_len]
      have HZ := Lib.hid hsz
      clear hsz
      go_wp2_with first
        | ((with_reducible refine gate_dst (N := 56) rfl ?_)
           refine wpList_load_row rfl 146 _ rfl g3 rfl 146 (u32s (sched s 64)).toArray (0, 0) _ hb3 Tryd.underlying146 rfl (by rw [info64u, HZ.out]) ?_)
        | ((with_reducible refine gate_store (t := 146) (p := 2) (v := .tmp 56) rfl ?_)
           refine wpList_store_row rfl 146 _ _ rfl g2 (u32s (sched s 64)).toArray rfl rfl 146 zs64 HB2.out (by rw [info64u, HZ.out]) (by rw [HZ.out]; kernel_rfl) (all_u32 _) ?_)
      refine bodyPost_ret (results_cell_row rfl _ _ g2 146 (u32s (sched s 64)).toArray (0, 0) _ rfl (setRow_heap HB2.out) Tryd.underlying146 rfl (by rw [info64u, HZ.out])) rfl ?_
      exact ⟨rfl, HBL.out.trans (((Upd.refl (fun k => k = g2) wr).setRow (.inl rfl) _).below (B := w.heap.size) HBL.out.size (fun k hk => by omega))⟩
end Go.Proofs.YtpmjipokkkkljaaDoor
namespace Go.Proofs.YtpmjipokkkkljaaDoor
set_option linter.all false
set_option linter.unusedVariables false
set_option linter.unusedSimpArgs false
open Go.RowKit Go.Proofs.YtpmjipokkkkljaaDoorW.PrintWords Go.Proofs.YtpmjipokkkkljaaDoorW.PrintLast Go.Proofs.YtpmjipokkkkljaaDoorW.PrintMore
theorem sizeOf_u32 (W : World) : (sizeOf 124).run Tryd.prog W = .ok 1 W := by kernel_rfl
theorem isAgg_u32 (W : World) : (isAgg 124).run Tryd.prog W = .ok false W := by kernel_rfl
theorem run_index8 (W : World) (vs : List Int) (i : Nat) (hi : i < 8) (hl : vs.length = 8) :
    (Instr.index 134 (.agg (u32s vs).toArray) (.int .i64 i)).run Tryd.prog W = .ok (.int .u32 (vs.getD i 0)) W := by
  unfold Instr.index
  simp only [asIntOf, Sem.run_bind, Sem.run_pure, Result.andThen_ok, run_underlying Tryd.underlying134]
  rw [if_pos ⟨by omega, by omega⟩]
  have e : (u32s vs).toArray[i]? = some (.int .u32 (vs.getD i 0)) := by simp [u32s, List.getD_eq_getElem?_getD, hl, hi]
  simp only [Sem.run_bind, sizeOf_u32, Result.andThen_ok, part, isAgg_u32, Int.toNat_natCast, Nat.mul_one, Bool.false_eq_true, if_false, e, Sem.run_pure]
end Go.Proofs.YtpmjipokkkkljaaDoor
namespace Go.Proofs.YtpmjipokkkkljaaDoor
set_option linter.all false
set_option linter.unusedVariables false
set_option linter.unusedSimpArgs false
open Go.RowKit Go.Proofs.YtpmjipokkkkljaaDoorW.PrintWords Go.Proofs.YtpmjipokkkkljaaDoorW.PrintLast Go.Proofs.YtpmjipokkkkljaaDoorW.PrintMore
def chE (e f g : Int) : Int := bits .xor .u32 (bits .and .u32 e f) (bits .and .u32 (bits .xor .u32 4294967295 e) g)
def majE (a b c : Int) : Int := bits .xor .u32 (bits .xor .u32 (bits .and .u32 a b) (bits .and .u32 a c)) (bits .and .u32 b c)
def firstE (h e f g k w : Int) : Int := ((h + mixA e 6 11 25 + chE e f g + k) % 4294967296 + w) % 4294967296
def secondE (a b c : Int) : Int := (mixA a 2 13 22 + majE a b c) % 4294967296
def rnd (k w : Int) (v : List Int) : List Int :=
  [(firstE (v.getD 7 0) (v.getD 4 0) (v.getD 5 0) (v.getD 6 0) k w + secondE (v.getD 0 0) (v.getD 1 0) (v.getD 2 0)) % 4294967296, v.getD 0 0, v.getD 1 0, v.getD 2 0,
   (v.getD 3 0 + firstE (v.getD 7 0) (v.getD 4 0) (v.getD 5 0) (v.getD 6 0) k w) % 4294967296, v.getD 4 0, v.getD 5 0, v.getD 6 0]
def stV (W : List Int) (v : List Int) : Nat → List Int
  | 0 => v
  | k + 1 => rnd (kList.getD k 0) (W.getD k 0) (stV W v k)
theorem stV_len (W v : List Int) (hv : v.length = 8) : ∀ k, (stV W v k).length = 8
  | 0 => hv
  | k + 1 => rfl
def addUp (xs v : List Int) (i : Nat) : List Int := (List.range 8).map fun j => if j < i then IntKind.u32.wrap (xs.getD j 0 + v.getD j 0) else xs.getD j 0
/-- The state behind a block. -/
def cmp (xs : List Int) (b : ByteArray) : List Int := addUp xs (stV (sched b 64) xs 64) 8
theorem cmp_len (xs : List Int) (b : ByteArray) : (cmp xs b).length = 8 := by simp [cmp, addUp]
def hcells (xs : List Int) (rest : ByteArray) (total : Int) : Array Value := (u32s xs ++ [Value.string rest, Value.int .u64 total]).toArray
theorem info8u : (Tryd.prog.info? 134).map (·.size) = some 8 := by kernel_rfl
def zs8 : Array Value := (u32s (List.replicate 8 0)).toArray
theorem alloc8 (W : World) : (Instr.alloc 134 true (.tuple #[])).run Tryd.prog W = .ok (.pointer (some ⟨W.heap.size, 0, none⟩)) (W.alloc (.cells zs8 134 (0, 0))) := by kernel_rfl
theorem hcell {w : World} {gh : Nat} {xs : List Int} {rest : ByteArray} {total : Int} {t : TypeId} (h : Blk w gh (hcells xs rest total) t) (hx : xs.length = 8) (j : Nat) (hj : j < 8) : w.cell? ⟨gh, j, none⟩ = some (.int .u32 (xs.getD j 0)) :=
  h.cell j _ (by
    simp only [hcells, List.getElem?_toArray]
    rw [List.getElem?_append_left (by rw [u32s_len, hx]; exact hj)]
    simp [u32s, List.getD_eq_getElem?_getD, hx, hj])
theorem list8 (xs : List Int) (h : xs.length = 8) : [xs[0]?.getD 0, xs[1]?.getD 0, xs[2]?.getD 0, xs[3]?.getD 0, xs[4]?.getD 0, xs[5]?.getD 0, xs[6]?.getD 0, xs[7]?.getD 0] = xs := by
  match xs, h with
  | [a, b, c, d, e, f, g, h], _ => rfl
theorem mixA1q (x : Int) (w : World) : Calls Tryd.prog 79 #[.int .u32 x, .int .i64 6, .int .i64 11, .int .i64 25] w fun e w' => e = .returned (.int .u32 (mixA x 6 11 25)) ∧ w' = w := (mixA1 x w).mono fun _ _ h => ⟨h.1, h.2.symm⟩
theorem hset {w : World} {gh : Nat} {xs : List Int} {rest : ByteArray} {total : Int} {t : TypeId} (h : Blk w gh (hcells xs rest total) t) (j : Nat) (hj : j < xs.length) (y : Int) : Blk (w.setCell ⟨gh, j, none⟩ (.int .u32 y)) gh (hcells (xs.set j y) rest total) t := by
  have := h.set j (.int .u32 y)
  have e : (hcells xs rest total).setIfInBounds j (.int .u32 y) = hcells (xs.set j y) rest total := by
    simp only [hcells, List.setIfInBounds_toArray]
    rw [List.set_append_left _ _ (by rw [u32s_len]; exact hj)]
    simp [u32s, List.map_set]
  rwa [e] at this
theorem addUp_len (xs v : List Int) (i : Nat) : (addUp xs v i).length = 8 := by simp [addUp]
theorem addUp_get (xs v : List Int) (i : Nat) (hi : i < 8) : (addUp xs v i).getD i 0 = xs.getD i 0 := by
  simp [addUp, List.getD_eq_getElem?_getD, hi]
theorem addUp_succ (xs v : List Int) (i : Nat) (hi : i < 8) : addUp xs v (i + 1) = (addUp xs v i).set i (IntKind.u32.wrap (xs.getD i 0 + v.getD i 0)) := by
  apply List.ext_getElem
  · simp [addUp]
  · intro j h1 h2
    simp only [addUp, List.length_map, List.length_range] at h1
    rw [List.getElem_set]
    by_cases e : i = j
    · subst e; simp [addUp]
    · rw [if_neg e]
      simp only [addUp, List.getElem_map, List.getElem_range]
      by_cases h3 : j < i
      · rw [if_pos (by omega), if_pos h3]
      · rw [if_neg (by omega), if_neg h3]
theorem addUp_zero (xs v : List Int) (h : xs.length = 8) : addUp xs v 0 = xs := by
  match xs, h with
  | [a, b, c, d, e, f, g, h], _ => rfl
def AddRel2 (w : World) (gh : Nat) (xs vs : List Int) (rest : ByteArray) (total : Int) (v : Value) (wr : World) : Prop :=
  ∃ i : Nat, i ≤ 8 ∧ v = .int .i64 i ∧ Blk wr gh (hcells (addUp xs vs i) rest total) 136 ∧ Upd (fun k => k = gh) w wr
def AddRel (w : World) (g5 g6 g7 : Nat) (xs : List Int) (W : List Int) (v : Value) (wr : World) : Prop :=
  ∃ i : Nat, i ≤ 64 ∧ v = .int .i64 i ∧ Blk wr g5 (u32s W).toArray 146 ∧ Blk wr g6 (u32s kList).toArray 146 ∧ Blk wr g7 (u32s (stV W xs i)).toArray 134 ∧ Below w.heap.size w wr
set_option maxRecDepth 100000 in
set_option maxHeartbeats 2000000 in
theorem add_any (w : World) (gh : Nat) (xs : List Int) (rest : ByteArray) (total : Int) (s : ByteArray) (hb : Blk w gh (hcells xs rest total) 136) (hx : xs.length = 8) (hs : s.size = 64) :
    Calls Tryd.prog 68 #[.pointer (some ⟨gh, 0, none⟩), .string s] w fun e w' => e = .returned (.tuple #[]) ∧ Blk w' gh (hcells (cmp xs s) rest total) 136 ∧ Upd (fun k => k = gh) w w' := by
  have HSC := Lib.hid (schedule_any s w hs)
  have HB := Lib.hid hb
  have HX := Lib.hid hx
  have hghl := hb.lt
  clear hb hx hs
  go_enter Tryd.func68, Tryd.ntmps68
  go_wp2_with first
    | (go_at_call 81
       refine HSC.out.mono ?_
       rintro e wa ⟨rfl, hba⟩)
    | (go_at_call 82
       refine (constants_any _).mono ?_
       rintro e wb ⟨rfl, hbb⟩)
    | ((with_reducible refine gate_dst (N := 5) rfl ?_)
       refine box_event rfl rfl (cs := zs64) (t := 146) (by simp only [execOp]; simp [alloc64, Result.andThen]) ?_
       intro g5 hg5 w5 hb5 hbel5
       have HG5 := Lib.hid hg5
       clear hg5)
    | ((with_reducible refine gate_dst (N := 6) rfl ?_)
       refine box_event rfl rfl (cs := zs64) (t := 146) (by simp only [execOp]; simp [alloc64, Result.andThen]) ?_
       intro g6 hg6 w6 hb6 hbel6
       have HG6 := Lib.hid hg6
       clear hg6
       have hb56 : Blk w6 g5 zs64 146 := (hbel6.block g5 (blk_lt hb5)).trans hb5
       have h56 : g5 ≠ g6 := by have := blk_lt hb5; have e := HG6.out; omega
       have HZ : Hid ((u32s (sched s 64)).toArray.size = 64) := by show _ = _; simp [u32s, sched_len])
    | ((with_reducible refine gate_store (t := 146) (p := 5) (v := .tmp 20) rfl ?_)
       refine wpList_store_row rfl 146 _ _ rfl g5 (u32s (sched s 64)).toArray rfl rfl 146 zs64 hb56 (by rw [info64u, HZ.out]) (by rw [HZ.out]; kernel_rfl) (all_u32 _) ?_
       have hb57 := setRow_heap (cs := (u32s (sched s 64)).toArray) hb56
       have hb66 : Blk (w6.setRow g5 (u32s (sched s 64)).toArray) g6 zs64 146 := (Upd.setRow (S := fun k => k = g5) (g := g5) (Upd.refl _ w6) (.inl rfl) _).blk hb6 (fun e => h56 e.symm))
    | ((with_reducible refine gate_store (t := 146) (p := 6) (v := .tmp 21) rfl ?_)
       refine wpList_store_row rfl 146 _ _ rfl g6 (u32s kList).toArray rfl rfl 146 zs64 hb66 (by rw [info64u, kSize]) (by kernel_rfl) (all_u32 _) ?_
       have HB67 : Hid (Blk ((w6.setRow g5 (u32s (sched s 64)).toArray).setRow g6 (u32s kList).toArray) g6 (u32s kList).toArray 146) := setRow_heap hb66
       have HB57 : Hid (Blk ((w6.setRow g5 (u32s (sched s 64)).toArray).setRow g6 (u32s kList).toArray) g5 (u32s (sched s 64)).toArray 146) := (Upd.setRow (S := fun k => k = g6) (g := g6) (Upd.refl _ (w6.setRow g5 (u32s (sched s 64)).toArray)) (.inl rfl) _).blk hb57 h56
       have HU7 : Hid (Below w.heap.size w ((w6.setRow g5 (u32s (sched s 64)).toArray).setRow g6 (u32s kList).toArray)) := by
         have e5 := HG5.out
         have e6 := HG6.out
         have s1 := hba.size
         have s2 := hbb.size
         have s3 := hbel5.size
         refine hba.trans ((hbb.mono s1).trans ((hbel5.mono (by omega)).trans ((hbel6.mono (by omega)).trans ?_)))
         have u1 : Upd (fun k => k = g5 ∨ k = g6) w6 (w6.setRow g5 (u32s (sched s 64)).toArray) := Upd.setRow (g := g5) (Upd.refl _ w6) (.inl (.inl rfl)) _
         have u2 : Upd (fun k => k = g5 ∨ k = g6) w6 ((w6.setRow g5 (u32s (sched s 64)).toArray).setRow g6 (u32s kList).toArray) := Upd.setRow (g := g6) u1 (.inl (.inr rfl)) _
         exact u2.below (B := w.heap.size) (by have := hbel6.size; omega) (fun k hk => by omega)
       have HGE : Hid (w.heap.size ≤ g5 ∧ w.heap.size ≤ g6) := by
         have e5 := HG5.out
         have e6 := HG6.out
         have s1 := hba.size
         have s2 := hbb.size
         have s3 := hbel5.size
         constructor <;> omega
       have HB7 : Hid (Blk ((w6.setRow g5 (u32s (sched s 64)).toArray).setRow g6 (u32s kList).toArray) gh (hcells xs rest total) 136) := (HU7.out.block gh hghl).trans HB.out
       have H56 := Lib.hid h56
       clear hb66 hb57 hb56 hb5 hb6 hbel5 hbel6 hba hbb h56 HG5 HG6
       generalize (w6.setRow g5 (u32s (sched s 64)).toArray).setRow g6 (u32s kList).toArray = w7 at *
       have c0 : w7.cell? ⟨gh, 0, none⟩ = some (.int .u32 (xs.getD 0 0)) := hcell HB7.out HX.out 0 (by decide)
       have c1 : w7.cell? ⟨gh, 1, none⟩ = some (.int .u32 (xs.getD 1 0)) := hcell HB7.out HX.out 1 (by decide)
       have c2 : w7.cell? ⟨gh, 2, none⟩ = some (.int .u32 (xs.getD 2 0)) := hcell HB7.out HX.out 2 (by decide)
       have c3 : w7.cell? ⟨gh, 3, none⟩ = some (.int .u32 (xs.getD 3 0)) := hcell HB7.out HX.out 3 (by decide)
       have c4 : w7.cell? ⟨gh, 4, none⟩ = some (.int .u32 (xs.getD 4 0)) := hcell HB7.out HX.out 4 (by decide)
       have c5 : w7.cell? ⟨gh, 5, none⟩ = some (.int .u32 (xs.getD 5 0)) := hcell HB7.out HX.out 5 (by decide)
       have c6 : w7.cell? ⟨gh, 6, none⟩ = some (.int .u32 (xs.getD 6 0)) := hcell HB7.out HX.out 6 (by decide)
       have c7 : w7.cell? ⟨gh, 7, none⟩ = some (.int .u32 (xs.getD 7 0)) := hcell HB7.out HX.out 7 (by decide))
    | ((with_reducible refine gate_dst (N := 7) rfl ?_)
       refine box_event rfl rfl (cs := zs8) (t := 134) (by simp only [execOp]; simp [alloc8, Result.andThen]) ?_
       intro g7 hg7 w8 hb8 hbel8
       have HG7 := Lib.hid hg7
       clear hg7)
    | ((with_reducible refine gate_store (t := 134) (p := 7) (v := .tmp 25) rfl ?_)
       refine wpList_store_row rfl 134 _ _ rfl g7 (u32s [xs.getD 0 0, xs.getD 1 0, xs.getD 2 0, xs.getD 3 0, xs.getD 4 0, xs.getD 5 0, xs.getD 6 0, xs.getD 7 0]).toArray rfl rfl 134 zs8 hb8 (by rw [info8u]; rfl) (by kernel_rfl) (all_u32 _) ?_)
  have hb9 := setRow_heap (cs := (u32s [xs[0]?.getD 0, xs[1]?.getD 0, xs[2]?.getD 0, xs[3]?.getD 0, xs[4]?.getD 0, xs[5]?.getD 0, xs[6]?.getD 0, xs[7]?.getD 0]).toArray) hb8
  have hu9 : Upd (fun k => k = g7) w7 (w8.setRow g7 (u32s [xs[0]?.getD 0, xs[1]?.getD 0, xs[2]?.getD 0, xs[3]?.getD 0, xs[4]?.getD 0, xs[5]?.getD 0, xs[6]?.getD 0, xs[7]?.getD 0]).toArray) :=
    Upd.setRow (S := fun k => k = g7) (g := g7) (Upd.of_below hbel8 _) (.inl rfl) _
  have e7 := HG7.out
  have l5 := HB57.out.lt
  have l6 := HB67.out.lt
  have l7 := HB7.out.lt
  have lu := HU7.out.size
  have HB59 := Lib.hid (HB57.out.upd hu9 (by omega))
  have HB69 := Lib.hid (HB67.out.upd hu9 (by omega))
  have HBH9 := Lib.hid (HB7.out.upd hu9 (by omega))
  have HU9 := Lib.hid (HU7.out.trans (hu9.below (B := w.heap.size) lu (fun k hk => by omega)))
  have h57 : g5 ≠ g7 := by omega
  have h67 : g6 ≠ g7 := by omega
  have hh7 : gh ≠ g7 := by omega
  have hg7 : w.heap.size ≤ g7 := by omega
  clear hu9 e7 l5 l6 l7 lu HB57 HB67 HB7 HU7 hb8 hbel8 HG7 c0 c1 c2 c3 c4 c5 c6 c7
  generalize w8.setRow g7 _ = w9 at *
  rw [list8 xs HX.out] at hb9
  have HB9 : Hid (Blk w9 g7 (u32s (stV (sched s 64) xs 0)).toArray 134) := hb9
  clear hb9
  go_loopw [26] (fun v wr => AddRel w g5 g6 g7 xs (sched s 64) v wr) (fun v _ => 64 - (intOf v).toNat)
  case atStart => exact ⟨0, by omega, rfl, HB59.out, HB69.out, HB9.out, HU9.out⟩
  case round =>
    obtain ⟨i, hi, rfl, hb5, hb6, hb7, hbl⟩ := hrel
    by_cases hlt : i < 64
    · have d64 : decide ((i : Int) < 64) = true := by simp; omega
      have i64lt : (i : Int) < 64 := by omega
      have hl := stV_len (sched s 64) xs HX.out i
      have v0 := hb7.u32cell 0 (by omega)
      have v1 := hb7.u32cell 1 (by omega)
      have v2 := hb7.u32cell 2 (by omega)
      have v3 := hb7.u32cell 3 (by omega)
      have v4 := hb7.u32cell 4 (by omega)
      have v5 := hb7.u32cell 5 (by omega)
      have v6 := hb7.u32cell 6 (by omega)
      have v7 := hb7.u32cell 7 (by omega)
      have ck := hb6.u32cell i (by exact hlt)
      have cw := hb5.u32cell i (by rw [sched_len]; exact hlt)
      have hnext : stV (sched s 64) xs (i + 1) = rnd (kList.getD i 0) ((sched s 64).getD i 0) (stV (sched s 64) xs i) := rfl
      unfold rnd at hnext
      generalize (stV (sched s 64) xs i).getD 0 0 = a at v0 hnext
      generalize (stV (sched s 64) xs i).getD 1 0 = b at v1 hnext
      generalize (stV (sched s 64) xs i).getD 2 0 = c at v2 hnext
      generalize (stV (sched s 64) xs i).getD 3 0 = d at v3 hnext
      generalize (stV (sched s 64) xs i).getD 4 0 = e at v4 hnext
      generalize (stV (sched s 64) xs i).getD 5 0 = f at v5 hnext
      generalize (stV (sched s 64) xs i).getD 6 0 = g at v6 hnext
      generalize (stV (sched s 64) xs i).getD 7 0 = h at v7 hnext
      generalize kList.getD i 0 = kk at ck hnext
      generalize (sched s 64).getD i 0 = ww at cw hnext
      have HN := Lib.hid hnext
      have HB5 := Lib.hid hb5
      have HB6 := Lib.hid hb6
      have HB7 := Lib.hid hb7
      have HBL := Lib.hid hbl
      clear hnext hb5 hb6 hb7 hbl hl
      go_wp2
      go_quiet (fail)
      have v0' : (wr.drewN nq).cell? ⟨g7, 0, none⟩ = _ := v0
      have v3' : (wr.drewN nq).cell? ⟨g7, 3, none⟩ = _ := v3
      have v7' : (wr.drewN nq).cell? ⟨g7, 7, none⟩ = _ := v7
      have ck' : (wr.drewN nq).cell? ⟨g6, i, none⟩ = _ := ck
      have cw' : (wr.drewN nq).cell? ⟨g5, i, none⟩ = _ := cw
      have HB5' : Hid (Blk (wr.drewN nq) g5 (u32s (sched s 64)).toArray 146) := HB5.out
      have HB6' : Hid (Blk (wr.drewN nq) g6 (u32s kList).toArray 146) := HB6.out
      have HB7' : Hid (Blk (wr.drewN nq) g7 (u32s (stV (sched s 64) xs i)).toArray 134) := HB7.out
      have HBL' : Hid (Below w.heap.size w (wr.drewN nq)) := HBL.out.drewN' nq
      clear v0 v1 v2 v3 v4 v5 v6 v7 ck cw HB5 HB6 HB7 HBL
      generalize wr.drewN nq = W1 at *
      go_wp2
      go_quiet ((go_at_call 79; exact Calls.quiet_of_same (mixA1q _ _)))
      generalize hF : ((h + mixA e 6 11 25 + bits .xor .u32 (bits .and .u32 e f) (bits .and .u32 (bits .xor .u32 (if IntKind.u32.signed = true then -1 else IntKind.u32.max) e) g) + kk) % 4294967296 + ww) % 4294967296 = F
      have HF : Hid (firstE h e f g kk ww = F) := hF
      clear hF
      have v3' : (W1.drewN nq).cell? ⟨g7, 3, none⟩ = _ := v3'
      have HB5 : Hid (Blk (W1.drewN nq) g5 (u32s (sched s 64)).toArray 146) := HB5'.out
      have HB6 : Hid (Blk (W1.drewN nq) g6 (u32s kList).toArray 146) := HB6'.out
      have HB7 : Hid (Blk (W1.drewN nq) g7 (u32s (stV (sched s 64) xs i)).toArray 134) := HB7'.out
      have HBL : Hid (Below w.heap.size w (W1.drewN nq)) := HBL'.out.drewN' nq
      clear v0' v7' ck' cw' HB5' HB6' HB7' HBL'
      generalize W1.drewN nq = W2 at *
      go_upto_region 9 with (go_at_call 79; refine (mixA2 a _).mono ?_; rintro e1 w1 ⟨rfl, rfl⟩)
      generalize hG : (mixA a 2 13 22 + bits .xor .u32 (bits .xor .u32 (bits .and .u32 a b) (bits .and .u32 a c)) (bits .and .u32 b c)) % 4294967296 = G
      have HG : Hid (secondE a b c = G) := hG
      clear hG
      have HBB : Hid (W2.heap[g7]? = some (.cells (u32s (stV (sched s 64) xs i)).toArray 134 (0, 0))) := HB7.out
      have HSZ : Hid ((u32s (stV (sched s 64) xs i)).toArray.size = 8) := by show _ = _; simp [u32s, stV_len (sched s 64) xs HX.out i]
      go_wp2_with ((with_reducible refine gate_store (t := 134) (p := 7) (v := .tmp 92) rfl ?_); refine wpList_store_row rfl 134 _ _ rfl g7 (u32s [(F + G) % 4294967296, a, b, c, (d + F) % 4294967296, e, f, g]).toArray rfl rfl 134 (u32s (stV (sched s 64) xs i)).toArray HBB.out (by rw [info8u]; rfl) (by rw [HSZ.out]; rfl) (all_u32 _) ?_)
      have hus : Upd (fun k => k = g7) W2 (W2.setRow g7 (u32s [(F + G) % 4294967296, a, b, c, (d + F) % 4294967296, e, f, g]).toArray) := Upd.setRow (S := fun k => k = g7) (g := g7) (Upd.refl _ _) (.inl rfl) _
      have hn := HN.out
      rw [HF.out, HG.out] at hn
      refine ⟨⟨i + 1, by omega, by go_num, HB5.out.upd hus h57, HB6.out.upd hus h67, ?_, HBL.out.trans (hus.below (B := w.heap.size) HBL.out.size (fun k hk => by omega))⟩, by simp [intOf]; omega⟩
      have hfin := setRow_heap (cs := (u32s [(F + G) % 4294967296, a, b, c, (d + F) % 4294967296, e, f, g]).toArray) HB7.out
      generalize W2.setRow g7 _ = W3 at *
      rw [hn]
      exact hfin
    · obtain rfl : i = 64 := by omega
      have d64 : decide ((64 : Int) < 64) = false := by decide
      generalize hvs : stV (sched s 64) xs 64 = vs at *
      have hvl : vs.length = 8 := by rw [← hvs]; exact stV_len _ _ HX.out 64
      have HVS := Lib.hid hvs
      clear hvs
      match vs, hvl with
      | [y0, y1, y2, y3, y4, y5, y6, y7], _ =>
      have HBH : Hid (Blk wr gh (hcells xs rest total) 136) := (hbl.block gh hghl).trans HB.out
      have HBL := Lib.hid hbl
      have HB7 := Lib.hid hb7
      clear hb5 hb6 hb7 hbl hi hlt
      go_wp2_with ((with_reducible refine gate_dst (N := 94) rfl ?_); refine wpList_load_row rfl 134 _ rfl g7 rfl 134 (u32s [y0, y1, y2, y3, y4, y5, y6, y7]).toArray (0, 0) _ HB7.out Tryd.underlying134 rfl (by rw [info8u]; rfl) ?_)
      have HVL : Hid ([y0, y1, y2, y3, y4, y5, y6, y7].length = 8) := rfl
      generalize [y0, y1, y2, y3, y4, y5, y6, y7] = vs at *
      go_loopw [95] (fun v wr => AddRel2 w gh xs vs rest total v wr) (fun v _ => 8 - (intOf v).toNat)
      case atStart => exact ⟨0, by omega, rfl, by rw [addUp_zero xs vs HX.out]; exact HBH.out, Upd.of_below HBL.out _⟩
      case round =>
        clear HBH HBL HB7
        obtain ⟨i, hi, rfl, hbh, hu⟩ := hrel
        by_cases hlt : i < 8
        · have d8 : decide ((i : Int) < 8) = true := by simp; omega
          have hc := hcell hbh (addUp_len _ _ _) i hlt
          rw [addUp_get xs vs i hlt] at hc
          have hf := hbh.frozen i
          have hix := fun W => run_index8 W vs i hlt HVL.out
          have hnext := addUp_succ xs vs i hlt
          generalize vs.getD i 0 = x at hix hnext
          generalize xs.getD i 0 = y at hc hnext
          have HN := Lib.hid hnext
          have HBH := Lib.hid hbh
          have HU := Lib.hid hu
          have i8 : (i : Int) < 8 := by omega
          clear hnext hbh hu
          go_wp2
          go_still_tail 10, (by kernel_rfl)
          change wpList _ _ _ _ _ wr.drew
          have hc2 : wr.drew.cell? ⟨gh, i, none⟩ = some (.int .u32 y) := hc
          have hf2 : wr.drew.frozen? ⟨gh, i, none⟩ = false := hf
          have HBH2 : Hid (Blk wr.drew gh (hcells (addUp xs vs i) rest total) 136) := HBH.out
          have HU2 : Hid (Upd (fun k => k = gh) w wr.drew) := HU.out.drew
          clear hc hf HBH HU hix
          generalize wr.drew = W1 at *
          go_wp2
          go_roundw
          case rel =>
            refine ⟨i + 1, by omega, by go_num, ?_, Upd.setCell (p := ⟨gh, i, none⟩) HU2.out (.inl rfl) _⟩
            rw [HN.out]
            exact hset HBH2.out i (by rw [addUp_len]; exact hlt) _
          case measure => simp [intOf]; omega
        · obtain rfl : i = 8 := by omega
          have HBH := Lib.hid hbh
          have HU := Lib.hid hu
          clear hbh hu
          go_wp2
          go_end0
          refine ⟨rfl, ?_, HU.out⟩
          have := HBH.out
          rw [← HVS.out] at this
          exact this
end Go.Proofs.YtpmjipokkkkljaaDoor
