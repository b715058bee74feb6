/-
  Part of the proof of cd_card: the lemmas of RefP that it uses.
-/
import Derived.Test.YtpmjipokkkkljaaDoorQRefS
import Derived.Deep.Onto
namespace Go.Proofs.YtpmjipokkkkljaaDoor
set_option linter.all false
set_option linter.unusedVariables false
set_option linter.unusedSimpArgs false
open Go.RowKit Go.Proofs.YtpmjipokkkkljaaDoorW.PrintWords Go.Proofs.YtpmjipokkkkljaaDoorW.PrintLast Go.Proofs.YtpmjipokkkkljaaDoorW.PrintMore Go.Proofs.YtpmjipokkkkljaaDoor.Pg
/-- A slice of bytes that the call made, in a row that may bear a conversion's mark behind its end. -/
def PadV (w W : World) (v : Value) (xs : List Int) : Prop :=
  Below w.heap.size w W ∧ ∃ g cap, v = .slice (some ⟨g, 0, none⟩) xs.length cap ∧ w.heap.size ≤ g ∧ g < W.heap.size ∧ xs.length ≤ cap ∧ cap ≤ maxLen ∧
    (∀ j, j < cap → (W.cell? ⟨g, j, none⟩).isSome = true ∧ W.frozen? ⟨g, j, none⟩ = false) ∧ ∀ j (h : j < xs.length), W.cell? ⟨g, j, none⟩ = some (.int .u8 xs[j])
theorem PadV.step {w W W' : World} {v : Value} {xs : List Int} (h : PadV w W v xs) (hb : Below W.heap.size W W') : PadV w W' v xs := by
  obtain ⟨h0, g, cap, h1, h2, h3, h4, h5, h6, h7⟩ := h
  refine ⟨h0.trans (hb.mono h0.size), g, cap, h1, h2, Nat.lt_of_lt_of_le h3 hb.size, h4, h5, fun j hj => ?_, fun j hj => ?_⟩
  · rw [hb.cell (p := ⟨g, j, none⟩) h3, hb.frozen (p := ⟨g, j, none⟩) h3]; exact h6 j hj
  · rw [hb.cell (p := ⟨g, j, none⟩) h3]; exact h7 j hj
theorem bytesWorld_os (w : World) (s : ByteArray) : (Lib.bytesWorld w 5 s).os = w.os := by simp [Lib.bytesWorld, World.freeze, World.alloc, World.drew, -World.alloc_eq, -World.drew_eq]
theorem bytesWorld_tape (w : World) (s : ByteArray) : (Lib.bytesWorld w 5 s).tape = w.tape := by simp [Lib.bytesWorld, World.freeze, World.alloc, World.drew, -World.alloc_eq, -World.drew_eq]
theorem bytesWorld_out (w : World) (s : ByteArray) : (Lib.bytesWorld w 5 s).output = w.output := by simp [Lib.bytesWorld, World.freeze, World.alloc, World.drew, -World.alloc_eq, -World.drew_eq]
theorem add0 (g j : Nat) : (⟨g, 0, none⟩ : Addr).add j = ⟨g, j, none⟩ := by
  have := Addr.add_lit g 0 j
  simpa using this
theorem PadV.conv {w : World} (s : ByteArray) (hs : s.size ≤ maxLen) : PadV w (Lib.bytesWorld w 5 s) (.slice (some ⟨w.heap.size, 0, none⟩) s.size (grownCap w s.size 0 5)) (s.data.toList.map fun b => (b.toNat : Int)) := by
  have hlen : (s.data.toList.map fun b => (b.toNat : Int)).length = s.size := by simp
  have hge := grownCap_ge w s.size 0 5
  have hsz : (Lib.bytesCells w 5 s).size = grownCap w s.size 0 5 := by simp [Lib.bytesCells]; omega
  refine ⟨⟨bytesWorld_os w s, bytesWorld_tape w s, bytesWorld_out w s, by rw [Lib.bytesWorld_size]; omega, fun k hk => Lib.bytesWorld_at_old w _ s k hk⟩, w.heap.size, _, by rw [hlen], Nat.le_refl _, by rw [Lib.bytesWorld_size]; omega, by rw [hlen]; exact hge, grownCap_le_maxLen w s.size 0 _ hs, fun j hj => ⟨?_, ?_⟩, fun j hj => ?_⟩
  · have := Lib.bytesWorld_at_new w 5 s
    simp [World.cell?, this]
    omega
  · have := Lib.bytesWorld_at_new w 5 s
    simp [World.frozen?, this]
    omega
  · rw [Lib.bytesWorld_cell w _ s j (by omega)]
    have : j < s.data.size := by rw [hlen] at hj; exact hj
    rw [List.getElem_map, List.getD_eq_getElem?_getD, Array.getElem?_toList, Array.getElem?_eq_getElem this, Array.getElem_toList]; rfl
set_option maxRecDepth 100000 in
theorem run_append_pad {w X : World} {v : Value} {xs : List Int} (x : Int) (t ty : TypeId) (i : TypeInfo) (ht : Tryd.prog.underlying t = some (.slice 5)) (hi : Tryd.prog.info? 5 = some i) (hz : i.zero = some (.int .u8 0)) (hsize : i.size = 1) (hby : i.bytes = 1)
    (h : PadV w X v xs) (N : Nat) (hN : X.cell? ⟨N, 0, none⟩ = some (.int .u8 x)) (hl : xs.length + 1 ≤ 140737488355328) :
    ∃ v' W', (Builtin.append_ #[t, t] ty #[v, .slice (some ⟨N, 0, none⟩) 1 1]).run Tryd.prog X = .ok v' W' ∧ PadV w W' v' (xs ++ [x]) := by
  obtain ⟨hb, g, cap, rfl, h2, h3, h4, h5, h6, h7⟩ := h
  have hget : ∀ j (h : j < (xs ++ [x]).length), j ≠ xs.length → ∃ h' : j < xs.length, (xs ++ [x])[j] = xs[j] := fun j hj hne => by
    have : j < xs.length := by simp at hj; omega
    exact ⟨this, List.getElem_append_left this⟩
  by_cases hroom : xs.length + 1 ≤ cap
  · have hrun := run_append_room_cells (w := X) (P := Tryd.prog) t ty 5 i ht hi g 0 xs.length cap ⟨N, 0, none⟩ 1 1 [.int .u8 x] (by rw [hsize]; rfl) (fun j u hu => by
      match j, hu with
      | 0, hu => injection hu with hu; subst hu; exact hN) (by simp [Value.oneCell']) hroom (fun j hj => by
        obtain rfl : j = 0 := by simp at hj; omega
        rw [hsize]; simpa using (h6 xs.length (by omega)).1) (fun j hj => by
        obtain rfl : j = 0 := by simp at hj; omega
        rw [hsize]; simpa using (h6 xs.length (by omega)).2)
    rw [hsize, Nat.mul_one, Nat.zero_add] at hrun
    have e : X.setCells g xs.length [.int .u8 x] = X.setCell ⟨g, xs.length, none⟩ (.int .u8 x) := rfl
    rw [e] at hrun
    have hc : ∀ j, j ≠ xs.length → (X.setCell ⟨g, xs.length, none⟩ (.int .u8 x)).cell? ⟨g, j, none⟩ = X.cell? ⟨g, j, none⟩ := fun j hj => by
      rw [← e]; exact World.cell?_setCells_out g _ _ _ _ (fun _ _ => by simp; omega)
    have hc0 : (X.setCell ⟨g, xs.length, none⟩ (.int .u8 x)).cell? ⟨g, xs.length, none⟩ = some (.int .u8 x) := by
      have := World.cell?_setCells_in g [.int .u8 x] xs.length X (fun j hj => by
        obtain rfl : j = 0 := by simp at hj; omega
        exact (h6 xs.length (by omega)).1) 0 (by simp)
      exact this
    refine ⟨_, _, hrun, hb.setCell (p := ⟨g, xs.length, none⟩) h2 _, g, cap, by simp, h2, by simpa [World.setCell] using h3, by simpa using hroom, h5, fun j hj => ⟨?_, ?_⟩, fun j hj => ?_⟩
    · by_cases hj2 : j = xs.length
      · subst hj2; rw [hc0]; rfl
      · rw [hc j hj2]; exact (h6 j hj).1
    · rw [← e, World.frozen?_setCells]; exact (h6 j hj).2
    · by_cases hj2 : j = xs.length
      · subst hj2; rw [hc0]; simp
      · obtain ⟨h', e'⟩ := hget j hj hj2
        rw [hc j hj2, e']; exact h7 j h'
  · obtain rfl : xs.length = cap := by omega
    obtain ⟨v', W', hrun, ⟨_, hown⟩, hg⟩ := run_append_arg_grows (w := X) (P := Tryd.prog) t ty 5 i (.int .u8 0) 1 1 ht hi hz hsize hby rfl (by decide) ⟨g, 0, none⟩ xs.length xs.length (xs.map (Value.int .u8)) (by simp) (fun j u hu => by
      have hj : j < xs.length := by have := (List.getElem?_eq_some_iff.1 hu).1; simpa using this
      have := h7 j hj
      rw [List.getElem?_map, List.getElem?_eq_getElem hj] at hu
      simp at hu
      subst hu
      rw [add0]; exact this) ⟨N, 0, none⟩ 1 1 [.int .u8 x] rfl (fun j u hu => by
      match j, hu with
      | 0, hu => injection hu with hu; subst hu; exact hN) (by omega) (by simp [maxLen]; omega) (by omega)
    rcases hown with ⟨_, h0⟩ | ⟨g2, cap2, cur, rfl, k1, k2, k3, k4, k5, k6⟩
    · omega
    · rw [Nat.mul_one] at k5 k6
      have hb2 : Below w.heap.size w W' := hb.trans (((Upd.refl (fun _ => False) X).grown hg (fun _ h => by cases h)).below hb.size (fun _ h => h.elim))
      refine ⟨_, _, hrun, hb2, g2, cap2, by simp, Nat.le_trans hb.size k1, blk_lt k2, by simpa using k3, k4, fun j hj => ⟨?_, ?_⟩, fun j hj => ?_⟩
      · simp [World.cell?, k2]; omega
      · simp [World.frozen?, k2]
      · have hj2 : j < xs.length + 1 := by simpa using hj
        have e : cur[j]? = some (.int .u8 (xs ++ [x])[j]) := by
          have h9 : (cur.toList.take (xs.length + 1))[j]? = ((xs.map (Value.int .u8)) ++ [.int .u8 x])[j]? := by rw [k6]
          rw [List.getElem?_take, if_pos hj2, Array.getElem?_toList] at h9
          rw [h9]
          have : (xs.map (Value.int .u8)) ++ [Value.int .u8 x] = (xs ++ [x]).map (Value.int .u8) := by simp
          rw [this, List.getElem?_map, List.getElem?_eq_getElem hj]; rfl
        simp [World.cell?, k2, e]
/-- An append to such a slice, in the order of the text. -/
theorem wpList_append_pad {ops : Array Oper} {rest : List Oper} {o : Oper} {a : Act} {Q : Exit → Act → World → Prop} {w X : World} {v : Value} {xs : List Int} (x : Int) (hgd : o.guard = none) (s y : Operand) (t : TypeId) (i : TypeInfo)
    (ho : o.op = .call { callee := .builtin .append, args := #[s, y], argTypes := #[t, t] }) (ht : Tryd.prog.underlying t = some (.slice 5)) (hi : Tryd.prog.info? 5 = some i) (hz : i.zero = some (.int .u8 0)) (hsize : i.size = 1) (hby : i.bytes = 1)
    (h : PadV w X v xs) (hs : a.eval s = v) (N : Nat) (hy : a.eval y = .slice (some ⟨N, 0, none⟩) 1 1) (hN : X.cell? ⟨N, 0, none⟩ = some (.int .u8 x)) (hl : xs.length + 1 ≤ 140737488355328)
    (hK : ∀ v' w', PadV w w' v' (xs ++ [x]) → wpList Tryd.prog ops Q rest (a.put o.dst v') w') : wpList Tryd.prog ops Q (o :: rest) a X := by
  refine wpList_plain hgd fun K hK' => ?_
  obtain ⟨v', w', hrun, r⟩ := run_append_pad x t o.type i ht hi hz hsize hby h N hN hl
  unfold Oper.wp
  simp [execOp, ho, resolve, invoke, builtin, hs, hy, hrun, Result.andThen]
  exact hK' _ _ (hK v' w' r)
theorem len_l0 (n : Nat) (hn : n < 9223372036854775808) : modcertref01_Length.f 9 n = some (be8 n) := by
  unfold modcertref01_Length.f
  have e : ∀ j : Nat, j ≤ 7 → wrap64 (8 * (j : Int)) = ((8 * j : Nat) : Int) := fun j hj => by unfold wrap64; omega
  have e7 : wrap64 (8 * 7) = 56 := by unfold wrap64; omega
  have e6 : wrap64 (8 * 6) = 48 := by unfold wrap64; omega
  have e5 : wrap64 (8 * 5) = 40 := by unfold wrap64; omega
  have e4 : wrap64 (8 * 4) = 32 := by unfold wrap64; omega
  have e3 : wrap64 (8 * 3) = 24 := by unfold wrap64; omega
  have e2 : wrap64 (8 * 2) = 16 := by unfold wrap64; omega
  have e1 : wrap64 (8 * 1) = 8 := by unfold wrap64; omega
  have e0 : wrap64 (8 * 0) = 0 := by unfold wrap64; omega
  have d7 : wrap64 (7 - 1) = 6 := by unfold wrap64; omega
  have d6 : wrap64 (6 - 1) = 5 := by unfold wrap64; omega
  have d5 : wrap64 (5 - 1) = 4 := by unfold wrap64; omega
  have d4 : wrap64 (4 - 1) = 3 := by unfold wrap64; omega
  have d3 : wrap64 (3 - 1) = 2 := by unfold wrap64; omega
  have d2 : wrap64 (2 - 1) = 1 := by unfold wrap64; omega
  have d1 : wrap64 (1 - 1) = 0 := by unfold wrap64; omega
  have d0 : wrap64 (0 - 1) = -1 := by unfold wrap64; omega
  rw [modcertref01_Length.l0, e7, d7, if_pos (by decide), if_pos (by decide), if_pos (by simp), modcertref01_Length.l0, e6, d6, if_pos (by decide), if_pos (by decide), if_pos (by simp), modcertref01_Length.l0, e5, d5, if_pos (by decide), if_pos (by decide), if_pos (by simp),
    modcertref01_Length.l0, e4, d4, if_pos (by decide), if_pos (by decide), if_pos (by simp), modcertref01_Length.l0, e3, d3, if_pos (by decide), if_pos (by decide), if_pos (by simp), modcertref01_Length.l0, e2, d2, if_pos (by decide), if_pos (by decide), if_pos (by simp),
    modcertref01_Length.l0, e1, d1, if_pos (by decide), if_pos (by decide), if_pos (by simp), modcertref01_Length.l0, e0, d0, if_pos (by decide), if_pos (by decide), if_pos (by simp), modcertref01_Length.l0, if_neg (by decide)]
  have q : ∀ k : Nat, k ≤ 56 → shr .i64 (n : Int) (k : Int) = ((n / 2 ^ k : Nat) : Int) := fun k hk => by
    unfold shr
    rw [show min (k : Int).toNat IntKind.i64.bits = k by show min k 64 = k; omega]
    rw [Int.natCast_ediv, powQ]
  have g7 : shr .i64 (n : Int) 56 = ((n / 2 ^ 56 : Nat) : Int) := q 56 (by omega)
  have g6 : shr .i64 (n : Int) 48 = ((n / 2 ^ 48 : Nat) : Int) := q 48 (by omega)
  have g5 : shr .i64 (n : Int) 40 = ((n / 2 ^ 40 : Nat) : Int) := q 40 (by omega)
  have g4 : shr .i64 (n : Int) 32 = ((n / 2 ^ 32 : Nat) : Int) := q 32 (by omega)
  have g3 : shr .i64 (n : Int) 24 = ((n / 2 ^ 24 : Nat) : Int) := q 24 (by omega)
  have g2 : shr .i64 (n : Int) 16 = ((n / 2 ^ 16 : Nat) : Int) := q 16 (by omega)
  have g1 : shr .i64 (n : Int) 8 = ((n / 2 ^ 8 : Nat) : Int) := q 8 (by omega)
  have g0 : shr .i64 (n : Int) 0 = ((n / 2 ^ 0 : Nat) : Int) := q 0 (by omega)
  rw [g7, g6, g5, g4, g3, g2, g1, g0]
  have u : ∀ m : Nat, UInt8.ofNat (((m : Nat) : Int) % 256).toNat = m.toUInt8 := fun m => by
    rw [show (((m : Nat) : Int) % 256).toNat = m % 256 by omega]
    exact UInt8.ofNat_mod_size
  congr 1
  unfold strOfNums be8
  simp only [List.nil_append, List.cons_append, List.map_cons, List.map_nil, List.map_append, u, List.range_succ, List.range_zero]
theorem strOfNums_app (a b : List Int) : strOfNums (a ++ b) = strOfNums a ++ strOfNums b := by
  apply ByteArray.ext
  simp [strOfNums, ByteArray.data_append]
theorem strOfNums_bytes (s : ByteArray) : strOfNums (s.data.toList.map fun b => (b.toNat : Int)) = s := by
  apply ByteArray.ext
  simp [strOfNums, Function.comp_def]
theorem strOfNums_zeros (k : Nat) : strOfNums (List.replicate k 0) = zerosS k := by
  have h : Lib.repeatL [(0 : UInt8)] k = List.replicate k 0 := by
    induction k with
    | zero => rfl
    | succ k ih => rw [Lib.repeatL, ih, List.replicate_succ]; rfl
  unfold strOfNums zerosS
  rw [h]
  simp
def numsOf (s : ByteArray) : List Int := s.data.toList.map fun b => (b.toNat : Int)
theorem numsOf_len (s : ByteArray) : (numsOf s).length = s.size := by simp [numsOf]
theorem R_pad {P : Program} (src e dst : TypeId) (hs : P.underlying src = some (.slice e)) (he : P.underlying e = some (.int .u8)) (hd : P.underlying dst = some .string) {w W : World} {v : Value} {xs : List Int} (h : PadV w W v xs) :
    (convert src dst v).run P W = .ok (.string (strOfNums xs)) W := by
  obtain ⟨hb, g, cap, rfl, h2, h3, h4, h5, h6, h7⟩ := h
  refine conv_row W src e dst hs he hd ⟨g, 0, none⟩ cap xs (fun j hj => ?_)
  rw [add0]; exact h7 j hj
def padded (s : ByteArray) : ByteArray := s ++ padStr (s.size % 64) s.size
def valLen : Value → Nat
  | .slice _ n _ => n
  | _ => 0
def padRel (w : World) (s : ByteArray) (v : Value) (wr : World) : Prop :=
  ∃ m : Nat, m ≤ padZ (s.size % 64) ∧ PadV w wr v (numsOf s ++ (128 :: List.replicate m 0))
set_option maxHeartbeats 1000000 in
set_option maxRecDepth 100000 in
theorem padded_any (w : World) (s : ByteArray) (hs : s.size ≤ 70368744177664) :
    Calls Tryd.prog 60 #[.string s] w fun e w' => e = .returned (.string (padded s)) ∧ Below w.heap.size w w' := by
  obtain ⟨ti, hti, hz, hs1, hb1⟩ : ∃ i, Tryd.prog.info? 5 = some i ∧ i.zero = some (.int .u8 0) ∧ i.size = 1 ∧ i.bytes = 1 := by
    have h := infoB
    cases hi : Tryd.prog.info? 5 with
    | none => rw [hi] at h; cases h
    | some i =>
      rw [hi] at h
      simp only [Option.map_some, Option.some.injEq, Prod.mk.injEq] at h
      exact ⟨i, rfl, h.1, h.2.1, h.2.2⟩
  have HTI := Lib.hid (And.intro hti (And.intro hz (And.intro hs1 hb1)))
  have HS := Lib.hid hs
  clear hti hz hs1 hb1
  have hcv := Lib.run_convert_string_bytes (P := Tryd.prog) w 9 92 5 s Tryd.underlying9 Tryd.underlying92 Tryd.underlying5
  have HPV := Lib.hid (PadV.conv (w := w) s (by simp only [maxLen]; omega))
  go_enter Tryd.func60, Tryd.ntmps60
  have HP0 : Hid (PadV w ((Lib.bytesWorld w 5 s).alloc (.cells #[.int .u8 128] 5)) (.slice (some ⟨w.heap.size, 0, none⟩) s.size (grownCap w s.size 0 5)) (numsOf s)) := Lib.hid (HPV.out.step ((Below.refl _ _).alloc (Nat.le_refl _) _))
  go_wp2_with (at_builtin; go_loud (refine wpList_append_pad 128 rfl (.tmp 5) (.tmp 6) 92 ti rfl Tryd.underlying92 HTI.out.1 HTI.out.2.1 HTI.out.2.2.1 HTI.out.2.2.2 HP0.out rfl (Lib.bytesWorld w 5 s).heap.size rfl ((Blk.new _ _ _).cell 0 _ rfl) (by rw [numsOf_len]; have := HS.out; omega) ?_); intro v1 w1 hp1; have HP1 := Lib.hid hp1; clear hp1)
  have HLS : Hid (∀ W, Calls Tryd.prog 74 #[.int .i64 (8 * (s.size : Int))] W fun e w' => e = .returned (.string (be8 (8 * s.size))) ∧ Below W.heap.size W w') := Lib.hid (fun W => by
    have h := len_l0 (8 * s.size) (by have := HS.out; omega)
    have := modcertref01_Length.calls 9 ((8 * s.size : Nat) : Int) _ W h
    rwa [show ((8 * s.size : Nat) : Int) = 8 * (s.size : Int) by push_cast; rfl] at this)
  clear hcv HP0 HPV
  go_loopw [3] (fun v wr => padRel w s v wr) (fun v _ => s.size + 1 + padZ (s.size % 64) - valLen v)
  case atStart => exact ⟨0, Nat.zero_le _, HP1.out⟩
  case round =>
    clear HP1
    obtain ⟨m, hm, hp⟩ := hrel
    have HP := Lib.hid hp
    have hlen : (numsOf s ++ (128 :: List.replicate m 0)).length = s.size + 1 + m := by simp [numsOf_len]; omega
    obtain ⟨hb, g, cap, hv, h2, h3, h4, h5, h6, h7⟩ := hp
    rw [hlen] at hv
    have HV := Lib.hid hv
    subst hv
    have HM := Lib.hid hm
    by_cases hlt : m < padZ (s.size % 64)
    · have q1 : (((s.size + 1 + m : Nat) : Int) % 64 != 56) = true := by
        rw [bne_iff_ne]; unfold padZ at hlt; omega
      have HLT := Lib.hid hlt
      have HP2 : Hid (PadV w (wr.alloc (.cells #[.int .u8 0] 5)) (.slice (some ⟨g, 0, none⟩) (s.size + 1 + m) cap) (numsOf s ++ (128 :: List.replicate m 0))) := Lib.hid (HP.out.step ((Below.refl _ _).alloc (Nat.le_refl _) _))
      clear hb h2 h3 h4 h5 h6 h7 hm hlt hlen
      go_wp2_with (at_builtin; go_loud (refine wpList_append_pad 0 rfl (.tmp 12) (.tmp 13) 92 ti rfl Tryd.underlying92 HTI.out.1 HTI.out.2.1 HTI.out.2.2.1 HTI.out.2.2.2 HP2.out rfl wr.heap.size rfl ((Blk.new _ _ _).cell 0 _ rfl) (by simp [numsOf_len]; have := HS.out; have := HM.out; unfold padZ at this; omega) ?_); intro v1 w1 hp1; have HP1 := Lib.hid hp1; clear hp1)
      have e : numsOf s ++ 128 :: List.replicate m 0 ++ [0] = numsOf s ++ (128 :: List.replicate (m + 1) 0) := by rw [List.replicate_succ', List.append_assoc]; rfl
      have h1 := HP1.out
      rw [e] at h1
      refine ⟨⟨m + 1, HLT.out, h1⟩, ?_⟩
      obtain ⟨_, g1, cap1, rfl, _⟩ := h1
      have hlen : (numsOf s ++ (128 :: List.replicate (m + 1) 0)).length = s.size + 1 + (m + 1) := by simp [numsOf_len]; omega
      rw [hlen]
      have := HLT.out
      show s.size + 1 + padZ (s.size % 64) - (s.size + 1 + (m + 1)) < s.size + 1 + padZ (s.size % 64) - (s.size + 1 + m)
      omega
    · obtain rfl : m = padZ (s.size % 64) := by omega
      have q1 : (((s.size + 1 + padZ (s.size % 64) : Nat) : Int) % 64 != 56) = false := by
        rw [bne_eq_false_iff_eq]; unfold padZ; omega
      have hcv := R_pad (P := Tryd.prog) 92 5 9 Tryd.underlying92 Tryd.underlying5 Tryd.underlying9 HP.out
      have e8 : IntKind.i64.wrap (8 * (s.size : Int)) = 8 * (s.size : Int) := IntWalk.i64_in _ ⟨by omega, by have := HS.out; omega⟩
      have e9 : strOfNums (numsOf s ++ 128 :: List.replicate (padZ (s.size % 64)) 0) = (s ++ ⟨#[128]⟩ : ByteArray) ++ zerosS (padZ (s.size % 64)) := by
        rw [strOfNums_app, show (128 :: List.replicate (padZ (s.size % 64)) 0 : List Int) = [128] ++ List.replicate (padZ (s.size % 64)) 0 from rfl, strOfNums_app, strOfNums_zeros, show strOfNums (numsOf s) = s from strOfNums_bytes s, ← ByteArray.append_assoc]
        rfl
      rw [e9] at hcv
      have HCV : Hid (∀ W', Below wr.heap.size wr W' → (convert 92 9 (.slice (some ⟨g, 0, none⟩) (s.size + 1 + padZ (s.size % 64)) cap)).run Tryd.prog W' = .ok (.string ((s ++ ⟨#[128]⟩ : ByteArray) ++ zerosS (padZ (s.size % 64)))) W') := Lib.hid (fun W' hb' => by
        have := R_pad (P := Tryd.prog) 92 5 9 Tryd.underlying92 Tryd.underlying5 Tryd.underlying9 (HP.out.step hb')
        rwa [e9] at this)
      have HPD : Hid (padded s = ((s ++ ⟨#[128]⟩ : ByteArray) ++ zerosS (padZ (s.size % 64))) ++ be8 (8 * s.size)) := Lib.hid (by unfold padded padStr; simp only [ByteArray.append_assoc])
      have HZL : Hid ((((s ++ ⟨#[128]⟩ : ByteArray) ++ zerosS (padZ (s.size % 64))).size ≤ 70368744178000)) := Lib.hid (by
        rw [ByteArray.size_append, ByteArray.size_append, zerosS_size]
        have : ByteArray.size ⟨#[128]⟩ = 1 := rfl
        have := HS.out
        unfold padZ; omega)
      have hz : (be8 (8 * s.size)).size = 8 := be8_size _
      have HBW := Lib.hid hb
      clear hb h2 h3 h4 h5 h6 h7 hm hlt hlen e9
      generalize ((s ++ ⟨#[128]⟩ : ByteArray) ++ zerosS (padZ (s.size % 64))) = pd at *
      have hz2 : ¬ 9223372036854775807 < pd.size + 8 := by have := HZL.out; omega
      go_wp2
      have hcvd := HCV.out wr.drew ((Below.refl _ _).drewN' 1)
      go_region_with (go_at_call 74; refine (HLS.out _).mono ?_; rintro e w2 ⟨rfl, hb2⟩; have hcv2 := HCV.out w2 (by first | exact hb2 | exact (Below.refl _ _).drewN' 1 |>.trans hb2); have HB2 := Lib.hid hb2; clear hb2)
      all_goals
        go_wp2
        go_ret
        refine ⟨show Ending.returned (Value.string (pd ++ be8 (8 * s.size))) = .returned (.string (padded s)) by rw [HPD.out], ?_⟩
        first
          | exact HBW.out.trans (HB2.out.mono HBW.out.size)
          | exact (HBW.out.drewN' 1).trans (HB2.out.mono HBW.out.size)
theorem blks_congr (xs : List Int) (p s : ByteArray) : ∀ k, (∀ j, j < k → p.extract (64 * j) (64 * j + 64) = s.extract (64 * j) (64 * j + 64)) → blks xs p k = blks xs s k
  | 0, _ => rfl
  | k + 1, h => by rw [blks, blks, blks_congr xs p s k (fun j hj => h j (by omega)), h k (by omega)]
theorem blks_shift (xs : List Int) (p : ByteArray) (m : Nat) : ∀ k, 64 * (m + k) ≤ p.size → blks xs p (m + k) = blks (blks xs p m) (p.extract (64 * m) p.size) k
  | 0, _ => rfl
  | k + 1, h => by
    rw [← Nat.add_assoc, blks, blks, blks_shift xs p m k (by omega), ByteArray.extract_extract]
    congr 2
    · omega
    · omega
theorem padded_size (s : ByteArray) : (padded s).size = s.size + padZ (s.size % 64) + 9 := by
  unfold padded
  rw [ByteArray.size_append, padStr_size]
  omega
theorem padded_div (s : ByteArray) : (padded s).size = 64 * ((padded s).size / 64) := by
  rw [padded_size]
  unfold padZ
  omega
theorem sha_padded (s : ByteArray) : strOfNums ((blks h0List (padded s) ((padded s).size / 64)).flatMap wBytes) = sha s := by
  unfold sha digest
  have ht : (tailOf s (s.size / 64)).size = s.size % 64 := by rw [tail_size]; omega
  have hz := padded_size s
  have hd := padded_div s
  have e1 : tailOf s (s.size / 64) ++ padStr (tailOf s (s.size / 64)).size s.size = (padded s).extract (64 * (s.size / 64)) (padded s).size := by
    rw [ht]
    unfold tailOf padded
    rw [ByteArray.extract_append, ByteArray.size_append]
    congr 1
    · apply ByteArray.ext
      rw [ByteArray.data_extract, ByteArray.data_extract, Array.extract_eq_extract_right]
      have : s.data.size = s.size := rfl
      omega
    · rw [show 64 * (s.size / 64) - s.size = 0 by omega, show s.size + (padStr (s.size % 64) s.size).size - s.size = (padStr (s.size % 64) s.size).size by omega, ByteArray.extract_zero_size]
  have hs : ((padded s).extract (64 * (s.size / 64)) (padded s).size).size = (padded s).size - 64 * (s.size / 64) := by rw [ByteArray.size_extract]; omega
  rw [e1, hs]
  have e2 : (padded s).size / 64 = s.size / 64 + ((padded s).size - 64 * (s.size / 64)) / 64 := by omega
  rw [e2, blks_shift _ _ _ _ (by omega)]
  have e3 : blks h0List (padded s) (s.size / 64) = blks h0List s (s.size / 64) := blks_congr _ _ _ _ (fun j hj => by
    unfold padded
    rw [ByteArray.extract_append, ByteArray.extract_eq_empty_iff.2 (by omega : min (64 * j + 64 - s.size) (padStr (s.size % 64) s.size).size ≤ 64 * j - s.size), ByteArray.append_empty])
  rw [e3]
end Go.Proofs.YtpmjipokkkkljaaDoor
