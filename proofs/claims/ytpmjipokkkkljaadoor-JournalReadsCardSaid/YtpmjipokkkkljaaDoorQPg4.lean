/-
  Part of the proof of cd_card: the lemmas of Pg4 that it uses.
-/
import Derived.Test.YtpmjipokkkkljaaDoorQHeads
import Derived.Test.YtpmjipokkkkljaaDoorQPg1
import Derived.Test.YtpmjipokkkkljaaDoorQPg2
import Derived.Test.YtpmjipokkkkljaaDoorQPg3
set_option linter.all false
namespace Go.Proofs.YtpmjipokkkkljaaDoor.Pg
open Go.RowKit Go.Proofs.YtpmjipokkkkljaaDoorW.PrintWords Go.Proofs.YtpmjipokkkkljaaDoorW.PrintLast Go.Proofs.YtpmjipokkkkljaaDoorW.PrintMore
attribute [local go_sem] max2_int min2_int max_two min_two max_three min_three max_four min_four   -- for this text's walks alone
set_option linter.unusedVariables false
set_option linter.unusedSimpArgs false
set_option maxRecDepth 100000
def modcertref01_compress.l0 : Nat → List Int → List Int → List Int → Int → Int → Int → Int → Int → Int → Int → Int → Int → Option (List Int)
 | 0, _, _, _, _, _, _, _, _, _, _, _, _ => none
 | k + 1, x0, x5, x6, x7, x8, x9, x10, x11, x12, x13, x14, x15 => if x15 < 64 then ((modcertref01_rotr.f x11 6).bind fun t146 => ((modcertref01_rotr.f x11 11).bind fun t147 => ((modcertref01_rotr.f x11 25).bind fun t148 => (if 0 ≤ x15 then (if x15 < (x6.length : Int) then (if x15 < (x5.length : Int) then ((modcertref01_rotr.f x7 2).bind fun t151 => ((modcertref01_rotr.f x7 13).bind fun t152 => ((modcertref01_rotr.f x7 22).bind fun t153 => (modcertref01_compress.l0 k x0 x5 x6 ((((((((((x14 + (Go.bits .xor .u32 (Go.bits .xor .u32 t146 t147) t148)) % 4294967296) + (Go.bits .xor .u32 (Go.bits .and .u32 x11 x12) (Go.bits .and .u32 (Go.bits .xor .u32 4294967295 x11) x13))) % 4294967296) + (rd x6 x15)) % 4294967296) + (rd x5 x15)) % 4294967296) + (((Go.bits .xor .u32 (Go.bits .xor .u32 t151 t152) t153) + (Go.bits .xor .u32 (Go.bits .xor .u32 (Go.bits .and .u32 x7 x8) (Go.bits .and .u32 x7 x9)) (Go.bits .and .u32 x8 x9))) % 4294967296)) % 4294967296) x7 x8 x9 ((x10 + ((((((((x14 + (Go.bits .xor .u32 (Go.bits .xor .u32 t146 t147) t148)) % 4294967296) + (Go.bits .xor .u32 (Go.bits .and .u32 x11 x12) (Go.bits .and .u32 (Go.bits .xor .u32 4294967295 x11) x13))) % 4294967296) + (rd x6 x15)) % 4294967296) + (rd x5 x15)) % 4294967296)) % 4294967296) x11 x12 x13 (wrap64 (x15 + 1)))))) else (none)) else (none)) else (none))))) else (if 0 < (x0.length : Int) then (if 1 < (x0.length : Int) then (if 2 < (x0.length : Int) then (if 3 < (x0.length : Int) then (if 4 < (x0.length : Int) then (if 5 < (x0.length : Int) then (if 6 < (x0.length : Int) then (if 7 < (x0.length : Int) then (some (([((rd x0 0) + x7) % 4294967296, ((rd x0 1) + x8) % 4294967296, ((rd x0 2) + x9) % 4294967296, ((rd x0 3) + x10) % 4294967296, ((rd x0 4) + x11) % 4294967296, ((rd x0 5) + x12) % 4294967296, ((rd x0 6) + x13) % 4294967296, ((rd x0 7) + x14) % 4294967296] : List Int))) else (none)) else (none)) else (none)) else (none)) else (none)) else (none)) else (none)) else (none))
def modcertref01_compress.f (k : Nat) (l0 : List Int) (a1 : ByteArray) : Option (List Int) := (modcertref01_schedule.f k a1).bind fun t121 => ((modcertref01_constants.f).bind fun t124 => (if 0 < (l0.length : Int) then (if 1 < (l0.length : Int) then (if 2 < (l0.length : Int) then (if 3 < (l0.length : Int) then (if 4 < (l0.length : Int) then (if 5 < (l0.length : Int) then (if 6 < (l0.length : Int) then (if 7 < (l0.length : Int) then (modcertref01_compress.l0 k l0 t121 t124 (rd l0 0) (rd l0 1) (rd l0 2) (rd l0 3) (rd l0 4) (rd l0 5) (rd l0 6) (rd l0 7) 0) else (none)) else (none)) else (none)) else (none)) else (none)) else (none)) else (none)) else (none)))
def modcertref01_compress.T2 : Bool × List (List Nat × List Nat) := (true, [([], []), ([0], [0]), ([1], [1]), ([], []), ([3], [3]), ([4], [4]), ([], []), ([6], [6]), ([7], [7]), ([], []), ([9], [9]), ([10], [10]), ([], []), ([12], [12]), ([13], [13]), ([], []), ([15], [15]), ([16], [16]), ([], []), ([18], [18]), ([19], [19]), ([], []), ([21], [21]), ([22], [22]), ([2, 0, 1, 2], [2]), ([5, 24, 0, 1, 2, 3, 4, 5, 24], [5]), ([8, 25, 0, 1, 2, 3, 4, 5, 6, 7, 8, 24, 25], [8]), ([11, 26, 0, 1, 2, 3, 4, 5, 6, 7, 8, 9, 10, 11, 24, 25, 26], [11]), ([14, 27, 0, 1, 2, 3, 4, 5, 6, 7, 8, 9, 10, 11, 12, 13, 14, 24, 25, 26, 27], [14]), ([17, 28, 0, 1, 2, 3, 4, 5, 6, 7, 8, 9, 10, 11, 12, 13, 14, 15, 16, 17, 24, 25, 26, 27, 28], [17]), ([20, 29, 0, 1, 2, 3, 4, 5, 6, 7, 8, 9, 10, 11, 12, 13, 14, 15, 16, 17, 18, 19, 20, 24, 25, 26, 27, 28, 29], [20]), ([23, 30, 0, 1, 2, 3, 4, 5, 6, 7, 8, 9, 10, 11, 12, 13, 14, 15, 16, 17, 18, 19, 20, 21, 22, 23, 24, 25, 26, 27, 28, 29, 30], [23])])
def modcertref01_compress.B2 : List Nat := [0, 1, 3, 0, 8, 24, 0, 64, 192, 0, 512, 1536, 0, 4096, 12288, 0, 32768, 98304, 0, 262144, 786432, 0, 2097152, 6291456, 7, 16777279, 50332159, 117444607, 251691007, 520355839, 1059061759, 2147483647]
theorem modcertref01_compress.tab2 : rtab .any (opsOf Tryd.f61 2) = modcertref01_compress.T2 := by kernel_rfl
theorem modcertref01_compress.bits2 : waitsOk modcertref01_compress.T2.2 modcertref01_compress.B2 = true := by kernel_rfl
def modcertref01_compress.T6 : Bool × List (List Nat × List Nat) := (true, [([], []), ([], []), ([1], [1]), ([], []), ([3, 2], [3]), ([2, 4], [2, 4]), ([], []), ([6, 4], [6]), ([5, 7], [5, 7]), ([0, 8], [0, 8]), ([], []), ([], []), ([10, 11], [10, 11]), ([], []), ([13], [13]), ([], []), ([14, 15], [14, 15]), ([12, 16], [12, 16]), ([9, 17], [9, 17]), ([], []), ([], []), ([19, 20], [19, 20]), ([21], [21]), ([18, 22], [18, 22]), ([], []), ([], []), ([24, 25], [24, 25]), ([26], [26]), ([23, 27], [23, 27]), ([28, 7, 0, 1, 2, 3, 4, 5, 6, 7, 8, 9, 10, 11, 12, 13, 14, 15, 16, 17, 18, 19, 20, 21, 22, 23, 24, 25, 26, 27, 28], [28])])
def modcertref01_compress.B6 : List Nat := [0, 0, 2, 0, 14, 30, 0, 94, 254, 511, 0, 0, 3072, 0, 8192, 0, 57344, 130048, 262143, 0, 0, 1572864, 3670016, 8388607, 0, 0, 50331648, 117440512, 268435455, 536870911]
theorem modcertref01_compress.tab6 : rtab .any (opsOf Tryd.f61 6) = modcertref01_compress.T6 := by kernel_rfl
theorem modcertref01_compress.bits6 : waitsOk modcertref01_compress.T6.2 modcertref01_compress.B6 = true := by kernel_rfl
def modcertref01_compress.T9 : Bool × List (List Nat × List Nat) := (true, [([], []), ([0], [0]), ([1], [1]), ([], []), ([2, 3], [2, 3]), ([], []), ([5], [5]), ([6], [6]), ([], []), ([7, 8], [7, 8]), ([], []), ([10], [10]), ([11], [11]), ([], []), ([12, 13], [12, 13]), ([], []), ([15], [15]), ([16], [16]), ([], []), ([17, 18], [17, 18]), ([], []), ([20], [20]), ([21], [21]), ([], []), ([22, 23], [22, 23]), ([], []), ([25], [25]), ([26], [26]), ([], []), ([27, 28], [27, 28]), ([], []), ([30], [30]), ([31], [31]), ([], []), ([32, 33], [32, 33]), ([], []), ([35], [35]), ([36], [36]), ([], []), ([37, 38], [37, 38]), ([4, 9, 14, 19, 24, 29, 34, 39], [4, 9, 14, 19, 24, 29, 34, 39]), ([40, 0, 1, 2, 3, 4, 5, 6, 7, 8, 9, 10, 11, 12, 13, 14, 15, 16, 17, 18, 19, 20, 21, 22, 23, 24, 25, 26, 27, 28, 29, 30, 31, 32, 33, 34, 35, 36, 37, 38, 39, 40], [40])])
def modcertref01_compress.B9 : List Nat := [0, 1, 3, 0, 15, 0, 32, 96, 0, 480, 0, 1024, 3072, 0, 15360, 0, 32768, 98304, 0, 491520, 0, 1048576, 3145728, 0, 15728640, 0, 33554432, 100663296, 0, 503316480, 0, 1073741824, 3221225472, 0, 16106127360, 0, 34359738368, 103079215104, 0, 515396075520, 1099511627775, 2199023255551]
theorem modcertref01_compress.tab9 : rtab .any (opsOf Tryd.f61 9) = modcertref01_compress.T9 := by kernel_rfl
theorem modcertref01_compress.bits9 : waitsOk modcertref01_compress.T9.2 modcertref01_compress.B9 = true := by kernel_rfl
set_option maxHeartbeats 8000000 in
set_option maxRecDepth 100000 in
theorem modcertref01_compress.calls (k : Nat) (A0 : Option Addr) (c0 : Nat) (l0 : List Int) (a1 : ByteArray) (r : List Int) (w : World) (hr0 : Kd.C (Kd.int .u32) w A0 l0.length l0) (hc0 : l0.length ≤ c0) (h : modcertref01_compress.f k l0 a1 = some r) :
  Calls Tryd.prog 61 #[.slice A0 l0.length c0, .string a1] w fun e w' => ∃ v0_ : Value, e = .returned (v0_) ∧ Kd.R (Kd.int .u32) 124 w' w.heap.size (fun _ => True) v0_ r ∧ Below w.heap.size w w' := by
 have HR0 := Aside0.mk hr0
 have HC0 := Aside0.mk hc0
 clear hr0 hc0
 have HB := Aside0.mk (Below.refl w.heap.size w)
 have H : ((modcertref01_schedule.f k a1).bind fun t121 => ((modcertref01_constants.f).bind fun t124 => (if 0 < (l0.length : Int) then (if 1 < (l0.length : Int) then (if 2 < (l0.length : Int) then (if 3 < (l0.length : Int) then (if 4 < (l0.length : Int) then (if 5 < (l0.length : Int) then (if 6 < (l0.length : Int) then (if 7 < (l0.length : Int) then (modcertref01_compress.l0 k l0 t121 t124 (rd l0 0) (rd l0 1) (rd l0 2) (rd l0 3) (rd l0 4) (rd l0 5) (rd l0 6) (rd l0 7) 0) else (none)) else (none)) else (none)) else (none)) else (none)) else (none)) else (none)) else (none)))) = some r := h
 clear h
 replace H := Option.bind_eq_some_iff.mp H
 obtain ⟨t121, A30, H⟩ := H
 replace H : ((modcertref01_constants.f).bind fun t124 => (if 0 < (l0.length : Int) then (if 1 < (l0.length : Int) then (if 2 < (l0.length : Int) then (if 3 < (l0.length : Int) then (if 4 < (l0.length : Int) then (if 5 < (l0.length : Int) then (if 6 < (l0.length : Int) then (if 7 < (l0.length : Int) then (modcertref01_compress.l0 k l0 t121 t124 (rd l0 0) (rd l0 1) (rd l0 2) (rd l0 3) (rd l0 4) (rd l0 5) (rd l0 6) (rd l0 7) 0) else (none)) else (none)) else (none)) else (none)) else (none)) else (none)) else (none)) else (none))) = some r := H
 have A3 := Aside0.mk A30
 clear A30
 replace H := Option.bind_eq_some_iff.mp H
 obtain ⟨t124, A40, H⟩ := H
 replace H : (if 0 < (l0.length : Int) then (if 1 < (l0.length : Int) then (if 2 < (l0.length : Int) then (if 3 < (l0.length : Int) then (if 4 < (l0.length : Int) then (if 5 < (l0.length : Int) then (if 6 < (l0.length : Int) then (if 7 < (l0.length : Int) then (modcertref01_compress.l0 k l0 t121 t124 (rd l0 0) (rd l0 1) (rd l0 2) (rd l0 3) (rd l0 4) (rd l0 5) (rd l0 6) (rd l0 7) 0) else (none)) else (none)) else (none)) else (none)) else (none)) else (none)) else (none)) else (none)) = some r := H
 have A4 := Aside0.mk A40
 clear A40
 by_cases c5 : 0 < (l0.length : Int)
 ·rw [if_pos c5] at H
  have c5b0 : decide (0 < (l0.length : Int)) = true := decide_eq_true c5
  have c5b1 : decide (0 < l0.length) = true := decide_eq_true (by omega)
  clear c5
  by_cases c6 : 1 < (l0.length : Int)
  ·rw [if_pos c6] at H
   have c6b0 : decide (1 < (l0.length : Int)) = true := decide_eq_true c6
   have c6b1 : decide (1 < l0.length) = true := decide_eq_true (by omega)
   clear c6
   by_cases c7 : 2 < (l0.length : Int)
   ·rw [if_pos c7] at H
    have c7b0 : decide (2 < (l0.length : Int)) = true := decide_eq_true c7
    have c7b1 : decide (2 < l0.length) = true := decide_eq_true (by omega)
    clear c7
    by_cases c8 : 3 < (l0.length : Int)
    ·rw [if_pos c8] at H
     have c8b0 : decide (3 < (l0.length : Int)) = true := decide_eq_true c8
     have c8b1 : decide (3 < l0.length) = true := decide_eq_true (by omega)
     clear c8
     by_cases c9 : 4 < (l0.length : Int)
     ·rw [if_pos c9] at H
      have c9b0 : decide (4 < (l0.length : Int)) = true := decide_eq_true c9
      have c9b1 : decide (4 < l0.length) = true := decide_eq_true (by omega)
      clear c9
      by_cases c10 : 5 < (l0.length : Int)
      ·rw [if_pos c10] at H
       have c10b0 : decide (5 < (l0.length : Int)) = true := decide_eq_true c10
       have c10b1 : decide (5 < l0.length) = true := decide_eq_true (by omega)
       clear c10
       by_cases c11 : 6 < (l0.length : Int)
       ·rw [if_pos c11] at H
        have c11b0 : decide (6 < (l0.length : Int)) = true := decide_eq_true c11
        have c11b1 : decide (6 < l0.length) = true := decide_eq_true (by omega)
        clear c11
        by_cases c12 : 7 < (l0.length : Int)
        ·rw [if_pos c12] at H
         have c12b0 : decide (7 < (l0.length : Int)) = true := decide_eq_true c12
         have c12b1 : decide (7 < l0.length) = true := decide_eq_true (by omega)
         clear c12
         have H' := Aside0.mk H
         clear H
         go_enter Tryd.func61, Tryd.ntmps61
         try go_wp2_with (first | ((with_reducible refine gate_callee (f := 75) rfl ?_); refine goesL_ (some 19) rfl rfl Tryd.func75 (by kernel_rfl) rfl #[.string a1] rfl (by (try simp only [List.map_toArray, List.map_cons, List.map_nil]); first | done | rfl | (simp only [List.length_drop, List.length_take]; rfl)) ?_; (with_reducible refine (modcertref01_schedule.calls k a1 t121 _ A3.out).mono ?_); rintro e w13 ⟨v122, rfl, ho0, hb⟩; refine ⟨_, rfl, ?_⟩; have n0_ := Aside0.mk (Kd.R_lower ho0 (below_size (by repeat (first | (with_reducible first | exact HB.out | apply below_alloc | apply pw_below_drewN | apply below_drew1) | exact HB.out)))); have n1_ := Aside0.mk (below_step (by repeat (first | (with_reducible first | exact HB.out | apply below_alloc | apply pw_below_drewN | apply below_drew1) | exact HB.out)) hb); clear HB; have HO123 := n0_; have HB := n1_; clear n0_ n1_; (try clear hb); (try clear hb2); (try clear hk); (try clear hi); (try clear ho0)) | ((with_reducible refine gate_callee (f := 76) rfl ?_); refine goesL_ (some 20) rfl rfl Tryd.func76 (by kernel_rfl) rfl #[] rfl (by (try simp only [List.map_toArray, List.map_cons, List.map_nil]); first | done | rfl | (simp only [List.length_drop, List.length_take]; rfl)) ?_; (with_reducible refine (modcertref01_constants.calls  t124 _ A4.out).mono ?_); rintro e w14 ⟨v125, rfl, ho0, hb⟩; refine ⟨_, rfl, ?_⟩; have n0_ := Aside0.mk (Kd.R_elder' (by (with_reducible repeat (first | apply Kd.R_alloc | apply Kd.R_drewN | apply Kd.R_drew)); exact HO123.out) (Kd.R_base ho0) hb); have n1_ := Aside0.mk (Kd.R_lower (Kd.R_new' ho0 (Kd.R_lt (by (with_reducible repeat (first | apply Kd.R_alloc | apply Kd.R_drewN | apply Kd.R_drew)); exact HO123.out))) (below_size (by repeat (first | (with_reducible first | exact HB.out | apply below_alloc | apply pw_below_drewN | apply below_drew1) | exact HB.out)))); have n2_ := Aside0.mk (below_step (by repeat (first | (with_reducible first | exact HB.out | apply below_alloc | apply pw_below_drewN | apply below_drew1) | exact HB.out)) hb); clear HO123; clear HB; have HO123 := n0_; have HO126 := n1_; have HB := n2_; clear n0_ n1_ n2_; (try clear hb); (try clear hb2); (try clear hk); (try clear hi); (try clear ho0)))
         have n0_ := Aside0.mk (Kd.R_drew HO123.out)
         have n1_ := Aside0.mk (Kd.R_drew HO126.out)
         have n2_ := Aside0.mk (below_drew1 HB.out)
         clear HO123
         clear HO126
         clear HB
         have HO123 := n0_
         have HO126 := n1_
         have HB := n2_
         clear n0_ n1_ n2_
         have p127 : 0 ≤ (0 : Int) := (by omega)
         have q127 : 0 < (l0.length : Int) := of_decide_eq_true (by first | (with_reducible assumption) | assumption)
         obtain ⟨ad127, e127, hx127_0⟩ := Kd.at_int HR0.out 0 p127 q127
         have hw127_0 := hx127_0
         (try rw [show ((0 : Int)).toNat = 0 from rfl] at hw127_0)
         (try rw [show 0 * 1 = 0 from rfl] at hw127_0)
         (try rw [Addr.add_zero'] at hw127_0)
         cases e127
         have qi127 : (0 < l0.length) = True := eq_true (by omega)
         (try rw [show ((0 : Int)).toNat = 0 from rfl] at hx127_0)
         (try rw [Addr.add_zero'] at hx127_0)
         replace hx127_0 := (HB.out.cell (World.block_lt_of_cell? w _ hx127_0)).trans hx127_0
         replace p127 := eq_true p127
         replace q127 := eq_true q127
         have p128 : 0 ≤ (1 : Int) := (by omega)
         have q128 : 1 < (l0.length : Int) := of_decide_eq_true (by first | (with_reducible assumption) | assumption)
         obtain ⟨ad128, e128, hx128_0⟩ := Kd.at_int HR0.out 1 p128 q128
         have hw128_0 := hx128_0
         (try rw [show ((1 : Int)).toNat = 1 from rfl] at hw128_0)
         (try rw [show 1 * 1 = 1 from rfl] at hw128_0)
         (try simp only [Nat.reduceMul, Nat.reduceEqDiff, Go.Addr.add, ↓reduceIte] at hw128_0)
         obtain rfl : ad127 = ad128 := (by injection e128)
         (try simp only [show (1 : Int).toNat = 1 from rfl, Nat.reduceMul, Nat.reduceEqDiff, Go.Addr.add, ↓reduceIte] at hx128_0)
         have qi128 : (1 < l0.length) = True := eq_true (by omega)
         (try rw [show ((1 : Int)).toNat = 1 from rfl] at hx128_0)
         replace hx128_0 := (HB.out.cell (World.block_lt_of_cell? w _ hx128_0)).trans hx128_0
         replace p128 := eq_true p128
         replace q128 := eq_true q128
         have p129 : 0 ≤ (2 : Int) := (by omega)
         have q129 : 2 < (l0.length : Int) := of_decide_eq_true (by first | (with_reducible assumption) | assumption)
         obtain ⟨ad129, e129, hx129_0⟩ := Kd.at_int HR0.out 2 p129 q129
         have hw129_0 := hx129_0
         (try rw [show ((2 : Int)).toNat = 2 from rfl] at hw129_0)
         (try rw [show 2 * 1 = 2 from rfl] at hw129_0)
         (try simp only [Nat.reduceMul, Nat.reduceEqDiff, Go.Addr.add, ↓reduceIte] at hw129_0)
         obtain rfl : ad127 = ad129 := (by injection e129)
         (try simp only [show (2 : Int).toNat = 2 from rfl, Nat.reduceMul, Nat.reduceEqDiff, Go.Addr.add, ↓reduceIte] at hx129_0)
         have qi129 : (2 < l0.length) = True := eq_true (by omega)
         (try rw [show ((2 : Int)).toNat = 2 from rfl] at hx129_0)
         replace hx129_0 := (HB.out.cell (World.block_lt_of_cell? w _ hx129_0)).trans hx129_0
         replace p129 := eq_true p129
         replace q129 := eq_true q129
         have p130 : 0 ≤ (3 : Int) := (by omega)
         have q130 : 3 < (l0.length : Int) := of_decide_eq_true (by first | (with_reducible assumption) | assumption)
         obtain ⟨ad130, e130, hx130_0⟩ := Kd.at_int HR0.out 3 p130 q130
         have hw130_0 := hx130_0
         (try rw [show ((3 : Int)).toNat = 3 from rfl] at hw130_0)
         (try rw [show 3 * 1 = 3 from rfl] at hw130_0)
         (try simp only [Nat.reduceMul, Nat.reduceEqDiff, Go.Addr.add, ↓reduceIte] at hw130_0)
         obtain rfl : ad127 = ad130 := (by injection e130)
         (try simp only [show (3 : Int).toNat = 3 from rfl, Nat.reduceMul, Nat.reduceEqDiff, Go.Addr.add, ↓reduceIte] at hx130_0)
         have qi130 : (3 < l0.length) = True := eq_true (by omega)
         (try rw [show ((3 : Int)).toNat = 3 from rfl] at hx130_0)
         replace hx130_0 := (HB.out.cell (World.block_lt_of_cell? w _ hx130_0)).trans hx130_0
         replace p130 := eq_true p130
         replace q130 := eq_true q130
         have p131 : 0 ≤ (4 : Int) := (by omega)
         have q131 : 4 < (l0.length : Int) := of_decide_eq_true (by first | (with_reducible assumption) | assumption)
         obtain ⟨ad131, e131, hx131_0⟩ := Kd.at_int HR0.out 4 p131 q131
         have hw131_0 := hx131_0
         (try rw [show ((4 : Int)).toNat = 4 from rfl] at hw131_0)
         (try rw [show 4 * 1 = 4 from rfl] at hw131_0)
         (try simp only [Nat.reduceMul, Nat.reduceEqDiff, Go.Addr.add, ↓reduceIte] at hw131_0)
         obtain rfl : ad127 = ad131 := (by injection e131)
         (try simp only [show (4 : Int).toNat = 4 from rfl, Nat.reduceMul, Nat.reduceEqDiff, Go.Addr.add, ↓reduceIte] at hx131_0)
         have qi131 : (4 < l0.length) = True := eq_true (by omega)
         (try rw [show ((4 : Int)).toNat = 4 from rfl] at hx131_0)
         replace hx131_0 := (HB.out.cell (World.block_lt_of_cell? w _ hx131_0)).trans hx131_0
         replace p131 := eq_true p131
         replace q131 := eq_true q131
         have p132 : 0 ≤ (5 : Int) := (by omega)
         have q132 : 5 < (l0.length : Int) := of_decide_eq_true (by first | (with_reducible assumption) | assumption)
         obtain ⟨ad132, e132, hx132_0⟩ := Kd.at_int HR0.out 5 p132 q132
         have hw132_0 := hx132_0
         (try rw [show ((5 : Int)).toNat = 5 from rfl] at hw132_0)
         (try rw [show 5 * 1 = 5 from rfl] at hw132_0)
         (try simp only [Nat.reduceMul, Nat.reduceEqDiff, Go.Addr.add, ↓reduceIte] at hw132_0)
         obtain rfl : ad127 = ad132 := (by injection e132)
         (try simp only [show (5 : Int).toNat = 5 from rfl, Nat.reduceMul, Nat.reduceEqDiff, Go.Addr.add, ↓reduceIte] at hx132_0)
         have qi132 : (5 < l0.length) = True := eq_true (by omega)
         (try rw [show ((5 : Int)).toNat = 5 from rfl] at hx132_0)
         replace hx132_0 := (HB.out.cell (World.block_lt_of_cell? w _ hx132_0)).trans hx132_0
         replace p132 := eq_true p132
         replace q132 := eq_true q132
         have p133 : 0 ≤ (6 : Int) := (by omega)
         have q133 : 6 < (l0.length : Int) := of_decide_eq_true (by first | (with_reducible assumption) | assumption)
         obtain ⟨ad133, e133, hx133_0⟩ := Kd.at_int HR0.out 6 p133 q133
         have hw133_0 := hx133_0
         (try rw [show ((6 : Int)).toNat = 6 from rfl] at hw133_0)
         (try rw [show 6 * 1 = 6 from rfl] at hw133_0)
         (try simp only [Nat.reduceMul, Nat.reduceEqDiff, Go.Addr.add, ↓reduceIte] at hw133_0)
         obtain rfl : ad127 = ad133 := (by injection e133)
         (try simp only [show (6 : Int).toNat = 6 from rfl, Nat.reduceMul, Nat.reduceEqDiff, Go.Addr.add, ↓reduceIte] at hx133_0)
         have qi133 : (6 < l0.length) = True := eq_true (by omega)
         (try rw [show ((6 : Int)).toNat = 6 from rfl] at hx133_0)
         replace hx133_0 := (HB.out.cell (World.block_lt_of_cell? w _ hx133_0)).trans hx133_0
         replace p133 := eq_true p133
         replace q133 := eq_true q133
         have p134 : 0 ≤ (7 : Int) := (by omega)
         have q134 : 7 < (l0.length : Int) := of_decide_eq_true (by first | (with_reducible assumption) | assumption)
         obtain ⟨ad134, e134, hx134_0⟩ := Kd.at_int HR0.out 7 p134 q134
         have hw134_0 := hx134_0
         (try rw [show ((7 : Int)).toNat = 7 from rfl] at hw134_0)
         (try rw [show 7 * 1 = 7 from rfl] at hw134_0)
         (try simp only [Nat.reduceMul, Nat.reduceEqDiff, Go.Addr.add, ↓reduceIte] at hw134_0)
         obtain rfl : ad127 = ad134 := (by injection e134)
         (try simp only [show (7 : Int).toNat = 7 from rfl, Nat.reduceMul, Nat.reduceEqDiff, Go.Addr.add, ↓reduceIte] at hx134_0)
         have qi134 : (7 < l0.length) = True := eq_true (by omega)
         (try rw [show ((7 : Int)).toNat = 7 from rfl] at hx134_0)
         replace hx134_0 := (HB.out.cell (World.block_lt_of_cell? w _ hx134_0)).trans hx134_0
         replace p134 := eq_true p134
         replace q134 := eq_true q134
         refine start_ (n := 32) (S := fun w' => w'.cell? ad127 = some (.int .u32 (rd l0 0)) ∧ w'.cell? ⟨ad127.block, ad127.off + 1, none⟩ = some (.int .u32 (rd l0 1)) ∧ w'.cell? ⟨ad127.block, ad127.off + 2, none⟩ = some (.int .u32 (rd l0 2)) ∧ w'.cell? ⟨ad127.block, ad127.off + 3, none⟩ = some (.int .u32 (rd l0 3)) ∧ w'.cell? ⟨ad127.block, ad127.off + 4, none⟩ = some (.int .u32 (rd l0 4)) ∧ w'.cell? ⟨ad127.block, ad127.off + 5, none⟩ = some (.int .u32 (rd l0 5)) ∧ w'.cell? ⟨ad127.block, ad127.off + 6, none⟩ = some (.int .u32 (rd l0 6)) ∧ w'.cell? ⟨ad127.block, ad127.off + 7, none⟩ = some (.int .u32 (rd l0 7))) (ds := []) #[Ff,Ff,Ff,Ff,Ff,Ff,Ff,Ff,Ff,Ff,Ff,Ff,Ff,Ff,Ff,Ff,Ff,Ff,Ff,Ff,Ff,Ff,Ff,Ff,Ff,Ff,Ff,Ff,Ff,Ff,Ff,Ff] (by kernel_rfl) rfl rfl ⟨((HB.out.cell (World.block_lt_of_cell? w _ hw127_0)).trans hw127_0), ((HB.out.cell (World.block_lt_of_cell? w _ hw128_0)).trans hw128_0), ((HB.out.cell (World.block_lt_of_cell? w _ hw129_0)).trans hw129_0), ((HB.out.cell (World.block_lt_of_cell? w _ hw130_0)).trans hw130_0), ((HB.out.cell (World.block_lt_of_cell? w _ hw131_0)).trans hw131_0), ((HB.out.cell (World.block_lt_of_cell? w _ hw132_0)).trans hw132_0), ((HB.out.cell (World.block_lt_of_cell? w _ hw133_0)).trans hw133_0), ((HB.out.cell (World.block_lt_of_cell? w _ hw134_0)).trans hw134_0)⟩ (fun hHeld => ?_); refine with_tabW modcertref01_compress.tab2 modcertref01_compress.bits2 (fun HT_ HW_ => ?_)
         generalize w14.drew = w15 at HO123 HO126 HB hx127_0 hx128_0 hx129_0 hx130_0 hx131_0 hx132_0 hx133_0 hx134_0 hHeld ⊢
         refine pure_ (i := 0) (N := some 21) (v := ?_) (a' := ?_) #[Tt,Ff,Ff,Ff,Ff,Ff,Ff,Ff,Ff,Ff,Ff,Ff,Ff,Ff,Ff,Ff,Ff,Ff,Ff,Ff,Ff,Ff,Ff,Ff,Ff,Ff,Ff,Ff,Ff,Ff,Ff,Ff] rfl rfl (any_of HT_.out (by kernel_rfl)) (fun _ _ _ h => h) (Or.inl ⟨by rfl, ?_⟩) ?_ ?_
         rotate_left
         ·intro w'
          go_simp
          with_reducible rfl
         rotate_left
         ·simp only [Act.put, List.setIfInBounds_toArray, List.set_cons_zero, List.set_cons_succ, i64_w, i32_w]
          rfl
         refine pure_ (i := 1) (N := some 22) (v := ?_) (a' := ?_) #[Tt,Tt,Ff,Ff,Ff,Ff,Ff,Ff,Ff,Ff,Ff,Ff,Ff,Ff,Ff,Ff,Ff,Ff,Ff,Ff,Ff,Ff,Ff,Ff,Ff,Ff,Ff,Ff,Ff,Ff,Ff,Ff] rfl rfl (any_of HT_.out (by kernel_rfl)) (fun _ _ _ h => h) (Or.inl ⟨by rfl, ?_⟩) ?_ ?_
         rotate_left
         ·intro w'
          go_simp
          with_reducible rfl
         rotate_left
         ·simp only [Act.put, List.setIfInBounds_toArray, List.set_cons_zero, List.set_cons_succ, i64_w, i32_w]
          rfl
         refine pure_ (i := 3) (N := some 24) (v := ?_) (a' := ?_) #[Tt,Tt,Ff,Tt,Ff,Ff,Ff,Ff,Ff,Ff,Ff,Ff,Ff,Ff,Ff,Ff,Ff,Ff,Ff,Ff,Ff,Ff,Ff,Ff,Ff,Ff,Ff,Ff,Ff,Ff,Ff,Ff] rfl rfl (any_of HT_.out (by kernel_rfl)) (fun _ _ _ h => h) (Or.inl ⟨by rfl, ?_⟩) ?_ ?_
         rotate_left
         ·intro w'
          go_simp
          with_reducible rfl
         rotate_left
         ·simp only [Act.put, List.setIfInBounds_toArray, List.set_cons_zero, List.set_cons_succ, i64_w, i32_w]
          rfl
         refine pure_ (i := 4) (N := some 25) (v := ?_) (a' := ?_) #[Tt,Tt,Ff,Tt,Tt,Ff,Ff,Ff,Ff,Ff,Ff,Ff,Ff,Ff,Ff,Ff,Ff,Ff,Ff,Ff,Ff,Ff,Ff,Ff,Ff,Ff,Ff,Ff,Ff,Ff,Ff,Ff] rfl rfl (any_of HT_.out (by kernel_rfl)) (fun _ _ _ h => h) (Or.inl ⟨by rfl, ?_⟩) ?_ ?_
         rotate_left
         ·intro w'
          go_simp
          with_reducible rfl
         rotate_left
         ·simp only [Act.put, List.setIfInBounds_toArray, List.set_cons_zero, List.set_cons_succ, i64_w, i32_w]
          rfl
         refine pure_ (i := 6) (N := some 27) (v := ?_) (a' := ?_) #[Tt,Tt,Ff,Tt,Tt,Ff,Tt,Ff,Ff,Ff,Ff,Ff,Ff,Ff,Ff,Ff,Ff,Ff,Ff,Ff,Ff,Ff,Ff,Ff,Ff,Ff,Ff,Ff,Ff,Ff,Ff,Ff] rfl rfl (any_of HT_.out (by kernel_rfl)) (fun _ _ _ h => h) (Or.inl ⟨by rfl, ?_⟩) ?_ ?_
         rotate_left
         ·intro w'
          go_simp
          with_reducible rfl
         rotate_left
         ·simp only [Act.put, List.setIfInBounds_toArray, List.set_cons_zero, List.set_cons_succ, i64_w, i32_w]
          rfl
         refine pure_ (i := 7) (N := some 28) (v := ?_) (a' := ?_) #[Tt,Tt,Ff,Tt,Tt,Ff,Tt,Tt,Ff,Ff,Ff,Ff,Ff,Ff,Ff,Ff,Ff,Ff,Ff,Ff,Ff,Ff,Ff,Ff,Ff,Ff,Ff,Ff,Ff,Ff,Ff,Ff] rfl rfl (any_of HT_.out (by kernel_rfl)) (fun _ _ _ h => h) (Or.inl ⟨by rfl, ?_⟩) ?_ ?_
         rotate_left
         ·intro w'
          go_simp
          with_reducible rfl
         rotate_left
         ·simp only [Act.put, List.setIfInBounds_toArray, List.set_cons_zero, List.set_cons_succ, i64_w, i32_w]
          rfl
         refine pure_ (i := 9) (N := some 30) (v := ?_) (a' := ?_) #[Tt,Tt,Ff,Tt,Tt,Ff,Tt,Tt,Ff,Tt,Ff,Ff,Ff,Ff,Ff,Ff,Ff,Ff,Ff,Ff,Ff,Ff,Ff,Ff,Ff,Ff,Ff,Ff,Ff,Ff,Ff,Ff] rfl rfl (any_of HT_.out (by kernel_rfl)) (fun _ _ _ h => h) (Or.inl ⟨by rfl, ?_⟩) ?_ ?_
         rotate_left
         ·intro w'
          go_simp
          with_reducible rfl
         rotate_left
         ·simp only [Act.put, List.setIfInBounds_toArray, List.set_cons_zero, List.set_cons_succ, i64_w, i32_w]
          rfl
         refine pure_ (i := 10) (N := some 31) (v := ?_) (a' := ?_) #[Tt,Tt,Ff,Tt,Tt,Ff,Tt,Tt,Ff,Tt,Tt,Ff,Ff,Ff,Ff,Ff,Ff,Ff,Ff,Ff,Ff,Ff,Ff,Ff,Ff,Ff,Ff,Ff,Ff,Ff,Ff,Ff] rfl rfl (any_of HT_.out (by kernel_rfl)) (fun _ _ _ h => h) (Or.inl ⟨by rfl, ?_⟩) ?_ ?_
         rotate_left
         ·intro w'
          go_simp
          with_reducible rfl
         rotate_left
         ·simp only [Act.put, List.setIfInBounds_toArray, List.set_cons_zero, List.set_cons_succ, i64_w, i32_w]
          rfl
         refine pure_ (i := 12) (N := some 33) (v := ?_) (a' := ?_) #[Tt,Tt,Ff,Tt,Tt,Ff,Tt,Tt,Ff,Tt,Tt,Ff,Tt,Ff,Ff,Ff,Ff,Ff,Ff,Ff,Ff,Ff,Ff,Ff,Ff,Ff,Ff,Ff,Ff,Ff,Ff,Ff] rfl rfl (any_of HT_.out (by kernel_rfl)) (fun _ _ _ h => h) (Or.inl ⟨by rfl, ?_⟩) ?_ ?_
         rotate_left
         ·intro w'
          go_simp
          with_reducible rfl
         rotate_left
         ·simp only [Act.put, List.setIfInBounds_toArray, List.set_cons_zero, List.set_cons_succ, i64_w, i32_w]
          rfl
         refine pure_ (i := 13) (N := some 34) (v := ?_) (a' := ?_) #[Tt,Tt,Ff,Tt,Tt,Ff,Tt,Tt,Ff,Tt,Tt,Ff,Tt,Tt,Ff,Ff,Ff,Ff,Ff,Ff,Ff,Ff,Ff,Ff,Ff,Ff,Ff,Ff,Ff,Ff,Ff,Ff] rfl rfl (any_of HT_.out (by kernel_rfl)) (fun _ _ _ h => h) (Or.inl ⟨by rfl, ?_⟩) ?_ ?_
         rotate_left
         ·intro w'
          go_simp
          with_reducible rfl
         rotate_left
         ·simp only [Act.put, List.setIfInBounds_toArray, List.set_cons_zero, List.set_cons_succ, i64_w, i32_w]
          rfl
         refine pure_ (i := 15) (N := some 36) (v := ?_) (a' := ?_) #[Tt,Tt,Ff,Tt,Tt,Ff,Tt,Tt,Ff,Tt,Tt,Ff,Tt,Tt,Ff,Tt,Ff,Ff,Ff,Ff,Ff,Ff,Ff,Ff,Ff,Ff,Ff,Ff,Ff,Ff,Ff,Ff] rfl rfl (any_of HT_.out (by kernel_rfl)) (fun _ _ _ h => h) (Or.inl ⟨by rfl, ?_⟩) ?_ ?_
         rotate_left
         ·intro w'
          go_simp
          with_reducible rfl
         rotate_left
         ·simp only [Act.put, List.setIfInBounds_toArray, List.set_cons_zero, List.set_cons_succ, i64_w, i32_w]
          rfl
         refine pure_ (i := 16) (N := some 37) (v := ?_) (a' := ?_) #[Tt,Tt,Ff,Tt,Tt,Ff,Tt,Tt,Ff,Tt,Tt,Ff,Tt,Tt,Ff,Tt,Tt,Ff,Ff,Ff,Ff,Ff,Ff,Ff,Ff,Ff,Ff,Ff,Ff,Ff,Ff,Ff] rfl rfl (any_of HT_.out (by kernel_rfl)) (fun _ _ _ h => h) (Or.inl ⟨by rfl, ?_⟩) ?_ ?_
         rotate_left
         ·intro w'
          go_simp
          with_reducible rfl
         rotate_left
         ·simp only [Act.put, List.setIfInBounds_toArray, List.set_cons_zero, List.set_cons_succ, i64_w, i32_w]
          rfl
         refine pure_ (i := 18) (N := some 39) (v := ?_) (a' := ?_) #[Tt,Tt,Ff,Tt,Tt,Ff,Tt,Tt,Ff,Tt,Tt,Ff,Tt,Tt,Ff,Tt,Tt,Ff,Tt,Ff,Ff,Ff,Ff,Ff,Ff,Ff,Ff,Ff,Ff,Ff,Ff,Ff] rfl rfl (any_of HT_.out (by kernel_rfl)) (fun _ _ _ h => h) (Or.inl ⟨by rfl, ?_⟩) ?_ ?_
         rotate_left
         ·intro w'
          go_simp
          with_reducible rfl
         rotate_left
         ·simp only [Act.put, List.setIfInBounds_toArray, List.set_cons_zero, List.set_cons_succ, i64_w, i32_w]
          rfl
         refine pure_ (i := 19) (N := some 40) (v := ?_) (a' := ?_) #[Tt,Tt,Ff,Tt,Tt,Ff,Tt,Tt,Ff,Tt,Tt,Ff,Tt,Tt,Ff,Tt,Tt,Ff,Tt,Tt,Ff,Ff,Ff,Ff,Ff,Ff,Ff,Ff,Ff,Ff,Ff,Ff] rfl rfl (any_of HT_.out (by kernel_rfl)) (fun _ _ _ h => h) (Or.inl ⟨by rfl, ?_⟩) ?_ ?_
         rotate_left
         ·intro w'
          go_simp
          with_reducible rfl
         rotate_left
         ·simp only [Act.put, List.setIfInBounds_toArray, List.set_cons_zero, List.set_cons_succ, i64_w, i32_w]
          rfl
         refine pure_ (i := 21) (N := some 42) (v := ?_) (a' := ?_) #[Tt,Tt,Ff,Tt,Tt,Ff,Tt,Tt,Ff,Tt,Tt,Ff,Tt,Tt,Ff,Tt,Tt,Ff,Tt,Tt,Ff,Tt,Ff,Ff,Ff,Ff,Ff,Ff,Ff,Ff,Ff,Ff] rfl rfl (any_of HT_.out (by kernel_rfl)) (fun _ _ _ h => h) (Or.inl ⟨by rfl, ?_⟩) ?_ ?_
         rotate_left
         ·intro w'
          go_simp
          with_reducible rfl
         rotate_left
         ·simp only [Act.put, List.setIfInBounds_toArray, List.set_cons_zero, List.set_cons_succ, i64_w, i32_w]
          rfl
         refine pure_ (i := 22) (N := some 43) (v := ?_) (a' := ?_) #[Tt,Tt,Ff,Tt,Tt,Ff,Tt,Tt,Ff,Tt,Tt,Ff,Tt,Tt,Ff,Tt,Tt,Ff,Tt,Tt,Ff,Tt,Tt,Ff,Ff,Ff,Ff,Ff,Ff,Ff,Ff,Ff] rfl rfl (any_of HT_.out (by kernel_rfl)) (fun _ _ _ h => h) (Or.inl ⟨by rfl, ?_⟩) ?_ ?_
         rotate_left
         ·intro w'
          go_simp
          with_reducible rfl
         rotate_left
         ·simp only [Act.put, List.setIfInBounds_toArray, List.set_cons_zero, List.set_cons_succ, i64_w, i32_w]
          rfl
         refine take_ (i := 2) (N := some 23) (v := ?_) (a' := ?_) #[Tt,Tt,Tt,Tt,Tt,Ff,Tt,Tt,Ff,Tt,Tt,Ff,Tt,Tt,Ff,Tt,Tt,Ff,Tt,Tt,Ff,Tt,Tt,Ff,Ff,Ff,Ff,Ff,Ff,Ff,Ff,Ff] rfl rfl (take_ofW HT_.out HW_.out (by kernel_rfl)) (fun _ _ _ h => h) (Or.inl ⟨by rfl, ?_⟩) hHeld ?_ ?_
         rotate_left
         ·rintro w' ⟨s0, s1, s2, s3, s4, s5, s6, s7⟩
          go_simp
          with_reducible rfl
         rotate_left
         ·simp only [Act.put, List.setIfInBounds_toArray, List.set_cons_zero, List.set_cons_succ, i64_w, i32_w]
          rfl
         refine pure_ (i := 24) (N := some 7) (v := ?_) (a' := ?_) #[Tt,Tt,Tt,Tt,Tt,Ff,Tt,Tt,Ff,Tt,Tt,Ff,Tt,Tt,Ff,Tt,Tt,Ff,Tt,Tt,Ff,Tt,Tt,Ff,Tt,Ff,Ff,Ff,Ff,Ff,Ff,Ff] rfl rfl (any_of HT_.out (by kernel_rfl)) (fun _ _ _ h => h) (Or.inl ⟨by rfl, ?_⟩) ?_ ?_
         rotate_left
         ·intro w'
          go_simp
          with_reducible rfl
         rotate_left
         ·simp only [Act.put, List.setIfInBounds_toArray, List.set_cons_zero, List.set_cons_succ, i64_w, i32_w]
          rfl
         refine take_ (i := 5) (N := some 26) (v := ?_) (a' := ?_) #[Tt,Tt,Tt,Tt,Tt,Tt,Tt,Tt,Ff,Tt,Tt,Ff,Tt,Tt,Ff,Tt,Tt,Ff,Tt,Tt,Ff,Tt,Tt,Ff,Tt,Ff,Ff,Ff,Ff,Ff,Ff,Ff] rfl rfl (take_ofW HT_.out HW_.out (by kernel_rfl)) (fun _ _ _ h => h) (Or.inl ⟨by rfl, ?_⟩) hHeld ?_ ?_
         rotate_left
         ·rintro w' ⟨s0, s1, s2, s3, s4, s5, s6, s7⟩
          go_simp
          with_reducible rfl
         rotate_left
         ·simp only [Act.put, List.setIfInBounds_toArray, List.set_cons_zero, List.set_cons_succ, i64_w, i32_w]
          rfl
         refine pure_ (i := 25) (N := some 8) (v := ?_) (a' := ?_) #[Tt,Tt,Tt,Tt,Tt,Tt,Tt,Tt,Ff,Tt,Tt,Ff,Tt,Tt,Ff,Tt,Tt,Ff,Tt,Tt,Ff,Tt,Tt,Ff,Tt,Tt,Ff,Ff,Ff,Ff,Ff,Ff] rfl rfl (any_of HT_.out (by kernel_rfl)) (fun _ _ _ h => h) (Or.inl ⟨by rfl, ?_⟩) ?_ ?_
         rotate_left
         ·intro w'
          go_simp
          with_reducible rfl
         rotate_left
         ·simp only [Act.put, List.setIfInBounds_toArray, List.set_cons_zero, List.set_cons_succ, i64_w, i32_w]
          rfl
         refine take_ (i := 8) (N := some 29) (v := ?_) (a' := ?_) #[Tt,Tt,Tt,Tt,Tt,Tt,Tt,Tt,Tt,Tt,Tt,Ff,Tt,Tt,Ff,Tt,Tt,Ff,Tt,Tt,Ff,Tt,Tt,Ff,Tt,Tt,Ff,Ff,Ff,Ff,Ff,Ff] rfl rfl (take_ofW HT_.out HW_.out (by kernel_rfl)) (fun _ _ _ h => h) (Or.inl ⟨by rfl, ?_⟩) hHeld ?_ ?_
         rotate_left
         ·rintro w' ⟨s0, s1, s2, s3, s4, s5, s6, s7⟩
          go_simp
          with_reducible rfl
         rotate_left
         ·simp only [Act.put, List.setIfInBounds_toArray, List.set_cons_zero, List.set_cons_succ, i64_w, i32_w]
          rfl
         refine pure_ (i := 26) (N := some 9) (v := ?_) (a' := ?_) #[Tt,Tt,Tt,Tt,Tt,Tt,Tt,Tt,Tt,Tt,Tt,Ff,Tt,Tt,Ff,Tt,Tt,Ff,Tt,Tt,Ff,Tt,Tt,Ff,Tt,Tt,Tt,Ff,Ff,Ff,Ff,Ff] rfl rfl (any_of HT_.out (by kernel_rfl)) (fun _ _ _ h => h) (Or.inl ⟨by rfl, ?_⟩) ?_ ?_
         rotate_left
         ·intro w'
          go_simp
          with_reducible rfl
         rotate_left
         ·simp only [Act.put, List.setIfInBounds_toArray, List.set_cons_zero, List.set_cons_succ, i64_w, i32_w]
          rfl
         refine take_ (i := 11) (N := some 32) (v := ?_) (a' := ?_) #[Tt,Tt,Tt,Tt,Tt,Tt,Tt,Tt,Tt,Tt,Tt,Tt,Tt,Tt,Ff,Tt,Tt,Ff,Tt,Tt,Ff,Tt,Tt,Ff,Tt,Tt,Tt,Ff,Ff,Ff,Ff,Ff] rfl rfl (take_ofW HT_.out HW_.out (by kernel_rfl)) (fun _ _ _ h => h) (Or.inl ⟨by rfl, ?_⟩) hHeld ?_ ?_
         rotate_left
         ·rintro w' ⟨s0, s1, s2, s3, s4, s5, s6, s7⟩
          go_simp
          with_reducible rfl
         rotate_left
         ·simp only [Act.put, List.setIfInBounds_toArray, List.set_cons_zero, List.set_cons_succ, i64_w, i32_w]
          rfl
         refine pure_ (i := 27) (N := some 10) (v := ?_) (a' := ?_) #[Tt,Tt,Tt,Tt,Tt,Tt,Tt,Tt,Tt,Tt,Tt,Tt,Tt,Tt,Ff,Tt,Tt,Ff,Tt,Tt,Ff,Tt,Tt,Ff,Tt,Tt,Tt,Tt,Ff,Ff,Ff,Ff] rfl rfl (any_of HT_.out (by kernel_rfl)) (fun _ _ _ h => h) (Or.inl ⟨by rfl, ?_⟩) ?_ ?_
         rotate_left
         ·intro w'
          go_simp
          with_reducible rfl
         rotate_left
         ·simp only [Act.put, List.setIfInBounds_toArray, List.set_cons_zero, List.set_cons_succ, i64_w, i32_w]
          rfl
         refine take_ (i := 14) (N := some 35) (v := ?_) (a' := ?_) #[Tt,Tt,Tt,Tt,Tt,Tt,Tt,Tt,Tt,Tt,Tt,Tt,Tt,Tt,Tt,Tt,Tt,Ff,Tt,Tt,Ff,Tt,Tt,Ff,Tt,Tt,Tt,Tt,Ff,Ff,Ff,Ff] rfl rfl (take_ofW HT_.out HW_.out (by kernel_rfl)) (fun _ _ _ h => h) (Or.inl ⟨by rfl, ?_⟩) hHeld ?_ ?_
         rotate_left
         ·rintro w' ⟨s0, s1, s2, s3, s4, s5, s6, s7⟩
          go_simp
          with_reducible rfl
         rotate_left
         ·simp only [Act.put, List.setIfInBounds_toArray, List.set_cons_zero, List.set_cons_succ, i64_w, i32_w]
          rfl
         refine pure_ (i := 28) (N := some 11) (v := ?_) (a' := ?_) #[Tt,Tt,Tt,Tt,Tt,Tt,Tt,Tt,Tt,Tt,Tt,Tt,Tt,Tt,Tt,Tt,Tt,Ff,Tt,Tt,Ff,Tt,Tt,Ff,Tt,Tt,Tt,Tt,Tt,Ff,Ff,Ff] rfl rfl (any_of HT_.out (by kernel_rfl)) (fun _ _ _ h => h) (Or.inl ⟨by rfl, ?_⟩) ?_ ?_
         rotate_left
         ·intro w'
          go_simp
          with_reducible rfl
         rotate_left
         ·simp only [Act.put, List.setIfInBounds_toArray, List.set_cons_zero, List.set_cons_succ, i64_w, i32_w]
          rfl
         refine take_ (i := 17) (N := some 38) (v := ?_) (a' := ?_) #[Tt,Tt,Tt,Tt,Tt,Tt,Tt,Tt,Tt,Tt,Tt,Tt,Tt,Tt,Tt,Tt,Tt,Tt,Tt,Tt,Ff,Tt,Tt,Ff,Tt,Tt,Tt,Tt,Tt,Ff,Ff,Ff] rfl rfl (take_ofW HT_.out HW_.out (by kernel_rfl)) (fun _ _ _ h => h) (Or.inl ⟨by rfl, ?_⟩) hHeld ?_ ?_
         rotate_left
         ·rintro w' ⟨s0, s1, s2, s3, s4, s5, s6, s7⟩
          go_simp
          with_reducible rfl
         rotate_left
         ·simp only [Act.put, List.setIfInBounds_toArray, List.set_cons_zero, List.set_cons_succ, i64_w, i32_w]
          rfl
         refine pure_ (i := 29) (N := some 12) (v := ?_) (a' := ?_) #[Tt,Tt,Tt,Tt,Tt,Tt,Tt,Tt,Tt,Tt,Tt,Tt,Tt,Tt,Tt,Tt,Tt,Tt,Tt,Tt,Ff,Tt,Tt,Ff,Tt,Tt,Tt,Tt,Tt,Tt,Ff,Ff] rfl rfl (any_of HT_.out (by kernel_rfl)) (fun _ _ _ h => h) (Or.inl ⟨by rfl, ?_⟩) ?_ ?_
         rotate_left
         ·intro w'
          go_simp
          with_reducible rfl
         rotate_left
         ·simp only [Act.put, List.setIfInBounds_toArray, List.set_cons_zero, List.set_cons_succ, i64_w, i32_w]
          rfl
         refine take_ (i := 20) (N := some 41) (v := ?_) (a' := ?_) #[Tt,Tt,Tt,Tt,Tt,Tt,Tt,Tt,Tt,Tt,Tt,Tt,Tt,Tt,Tt,Tt,Tt,Tt,Tt,Tt,Tt,Tt,Tt,Ff,Tt,Tt,Tt,Tt,Tt,Tt,Ff,Ff] rfl rfl (take_ofW HT_.out HW_.out (by kernel_rfl)) (fun _ _ _ h => h) (Or.inl ⟨by rfl, ?_⟩) hHeld ?_ ?_
         rotate_left
         ·rintro w' ⟨s0, s1, s2, s3, s4, s5, s6, s7⟩
          go_simp
          with_reducible rfl
         rotate_left
         ·simp only [Act.put, List.setIfInBounds_toArray, List.set_cons_zero, List.set_cons_succ, i64_w, i32_w]
          rfl
         refine pure_ (i := 30) (N := some 13) (v := ?_) (a' := ?_) #[Tt,Tt,Tt,Tt,Tt,Tt,Tt,Tt,Tt,Tt,Tt,Tt,Tt,Tt,Tt,Tt,Tt,Tt,Tt,Tt,Tt,Tt,Tt,Ff,Tt,Tt,Tt,Tt,Tt,Tt,Tt,Ff] rfl rfl (any_of HT_.out (by kernel_rfl)) (fun _ _ _ h => h) (Or.inl ⟨by rfl, ?_⟩) ?_ ?_
         rotate_left
         ·intro w'
          go_simp
          with_reducible rfl
         rotate_left
         ·simp only [Act.put, List.setIfInBounds_toArray, List.set_cons_zero, List.set_cons_succ, i64_w, i32_w]
          rfl
         refine take_ (i := 23) (N := some 44) (v := ?_) (a' := ?_) #[Tt,Tt,Tt,Tt,Tt,Tt,Tt,Tt,Tt,Tt,Tt,Tt,Tt,Tt,Tt,Tt,Tt,Tt,Tt,Tt,Tt,Tt,Tt,Tt,Tt,Tt,Tt,Tt,Tt,Tt,Tt,Ff] rfl rfl (take_ofW HT_.out HW_.out (by kernel_rfl)) (fun _ _ _ h => h) (Or.inl ⟨by rfl, ?_⟩) hHeld ?_ ?_
         rotate_left
         ·rintro w' ⟨s0, s1, s2, s3, s4, s5, s6, s7⟩
          go_simp
          with_reducible rfl
         rotate_left
         ·simp only [Act.put, List.setIfInBounds_toArray, List.set_cons_zero, List.set_cons_succ, i64_w, i32_w]
          rfl
         refine pure_ (i := 31) (N := some 14) (v := ?_) (a' := ?_) #[Tt,Tt,Tt,Tt,Tt,Tt,Tt,Tt,Tt,Tt,Tt,Tt,Tt,Tt,Tt,Tt,Tt,Tt,Tt,Tt,Tt,Tt,Tt,Tt,Tt,Tt,Tt,Tt,Tt,Tt,Tt,Tt] rfl rfl (any_of HT_.out (by kernel_rfl)) (fun _ _ _ h => h) (Or.inl ⟨by rfl, ?_⟩) ?_ ?_
         rotate_left
         ·intro w'
          go_simp
          with_reducible rfl
         rotate_left
         ·simp only [Act.put, List.setIfInBounds_toArray, List.set_cons_zero, List.set_cons_succ, i64_w, i32_w]
          rfl
         refine done_ (done_of HT_.out (by kernel_rfl)) ?_
         try go_wp2
         go_loopg [7, 8, 9, 10, 11, 12, 13, 14, 15] k (fun kq v7 v8 v9 v10 v11 v12 v13 v14 v15 w' => ∃ (x7_1 : Int) (x8_1 : Int) (x9_1 : Int) (x10_1 : Int) (x11_1 : Int) (x12_1 : Int) (x13_1 : Int) (x14_1 : Int) (x15_1 : Int), v7 = .int .u32 x7_1 ∧ v8 = .int .u32 x8_1 ∧ v9 = .int .u32 x9_1 ∧ v10 = .int .u32 x10_1 ∧ v11 = .int .u32 x11_1 ∧ v12 = .int .u32 x12_1 ∧ v13 = .int .u32 x13_1 ∧ v14 = .int .u32 x14_1 ∧ v15 = .int .i64 x15_1 ∧ Aside0 (modcertref01_compress.l0 kq l0 t121 t124 x7_1 x8_1 x9_1 x10_1 x11_1 x12_1 x13_1 x14_1 x15_1 = some r) ∧ Aside0 (kq ≤ k) ∧ Aside0 (Kd.R (Kd.int .u32) 124 w' w.heap.size (fun k_ => some k_ ≠ (v125 : Value).ownBlock) v122 t121) ∧ Aside0 (Kd.R (Kd.int .u32) 124 w' w.heap.size (fun k_ => some k_ ≠ (v122 : Value).ownBlock) v125 t124) ∧ Aside0 (Below w.heap.size w w'))
         case atStart => exact ⟨(rd l0 0), (rd l0 1), (rd l0 2), (rd l0 3), (rd l0 4), (rd l0 5), (rd l0 6), (rd l0 7), (0), (by first | rfl | (simp; done) | (simp [*]; done) | (simp; rfl)), (by first | rfl | (simp; done) | (simp [*]; done) | (simp; rfl)), (by first | rfl | (simp; done) | (simp [*]; done) | (simp; rfl)), (by first | rfl | (simp; done) | (simp [*]; done) | (simp; rfl)), (by first | rfl | (simp; done) | (simp [*]; done) | (simp; rfl)), (by first | rfl | (simp; done) | (simp [*]; done) | (simp; rfl)), (by first | rfl | (simp; done) | (simp [*]; done) | (simp; rfl)), (by first | rfl | (simp; done) | (simp [*]; done) | (simp; rfl)), (by first | rfl | (simp; done) | (simp [*]; done) | (simp; rfl)), H', ⟨Nat.le_refl _⟩, ⟨by (with_reducible repeat (first | apply Kd.R_alloc | apply Kd.R_drewN | apply Kd.R_drew)); exact Kd.R_mono HO123.out (fun _ hk => hk.2)⟩, ⟨by (with_reducible repeat (first | apply Kd.R_alloc | apply Kd.R_drewN | apply Kd.R_drew)); exact Kd.R_mono HO126.out (fun _ hk => hk.2)⟩, ⟨by repeat (first | (with_reducible first | exact HB.out | apply below_alloc | apply pw_below_drewN | apply below_drew1) | exact HB.out)⟩⟩
         case round =>
          clear H'
          try clear c1
          try clear p1
          try clear q1
          try clear hx1
          try clear qi1
          try clear p2
          try clear c5
          try clear c5b0
          try clear c5b1
          try clear c6
          try clear c6b0
          try clear c6b1
          try clear c7
          try clear c7b0
          try clear c7b1
          try clear c8
          try clear c8b0
          try clear c8b1
          try clear c9
          try clear c9b0
          try clear c9b1
          try clear c10
          try clear c10b0
          try clear c10b1
          try clear c11
          try clear c11b0
          try clear c11b1
          try clear c12
          try clear c12b0
          try clear c12b1
          try clear p12
          try clear q12
          try clear hx12
          try clear qi12
          try clear p13
          try clear q13
          try clear hx13
          try clear qi13
          try clear hx127_0
          try clear hx128_0
          try clear hx129_0
          try clear hx130_0
          try clear hx131_0
          try clear hx132_0
          try clear hx133_0
          try clear hx134_0
          try clear p127
          try clear p128
          try clear p129
          try clear p130
          try clear p131
          try clear p132
          try clear p133
          try clear p134
          try clear q127
          try clear q128
          try clear q129
          try clear q130
          try clear q131
          try clear q132
          try clear q133
          try clear q134
          obtain ⟨x7_1, x8_1, x9_1, x10_1, x11_1, x12_1, x13_1, x14_1, x15_1, rfl, rfl, rfl, rfl, rfl, rfl, rfl, rfl, rfl, HA, HK1, HO_5, HO_6, HB⟩ := hrel
          cases gk with
          | zero => exact absurd HA.out (by simp [modcertref01_compress.l0])
          | succ k1 =>
           have H := HA.out
           clear HA
           simp only [modcertref01_compress.l0] at H
           by_cases c16 : x15_1 < 64
           ·rw [if_pos c16] at H
            have c16b0 : decide (x15_1 < 64) = true := decide_eq_true c16
            clear c16
            replace H := Option.bind_eq_some_iff.mp H
            obtain ⟨t146, A170, H⟩ := H
            replace H : ((modcertref01_rotr.f x11_1 11).bind fun t147 => ((modcertref01_rotr.f x11_1 25).bind fun t148 => (if 0 ≤ x15_1 then (if x15_1 < (t124.length : Int) then (if x15_1 < (t121.length : Int) then ((modcertref01_rotr.f x7_1 2).bind fun t151 => ((modcertref01_rotr.f x7_1 13).bind fun t152 => ((modcertref01_rotr.f x7_1 22).bind fun t153 => (modcertref01_compress.l0 k1 l0 t121 t124 ((((((((((x14_1 + (Go.bits .xor .u32 (Go.bits .xor .u32 t146 t147) t148)) % 4294967296) + (Go.bits .xor .u32 (Go.bits .and .u32 x11_1 x12_1) (Go.bits .and .u32 (Go.bits .xor .u32 4294967295 x11_1) x13_1))) % 4294967296) + (rd t124 x15_1)) % 4294967296) + (rd t121 x15_1)) % 4294967296) + (((Go.bits .xor .u32 (Go.bits .xor .u32 t151 t152) t153) + (Go.bits .xor .u32 (Go.bits .xor .u32 (Go.bits .and .u32 x7_1 x8_1) (Go.bits .and .u32 x7_1 x9_1)) (Go.bits .and .u32 x8_1 x9_1))) % 4294967296)) % 4294967296) x7_1 x8_1 x9_1 ((x10_1 + ((((((((x14_1 + (Go.bits .xor .u32 (Go.bits .xor .u32 t146 t147) t148)) % 4294967296) + (Go.bits .xor .u32 (Go.bits .and .u32 x11_1 x12_1) (Go.bits .and .u32 (Go.bits .xor .u32 4294967295 x11_1) x13_1))) % 4294967296) + (rd t124 x15_1)) % 4294967296) + (rd t121 x15_1)) % 4294967296)) % 4294967296) x11_1 x12_1 x13_1 (wrap64 (x15_1 + 1)))))) else (none)) else (none)) else (none)))) = some r := H
            have A17 := Aside0.mk A170
            clear A170
            replace H := Option.bind_eq_some_iff.mp H
            obtain ⟨t147, A180, H⟩ := H
            replace H : ((modcertref01_rotr.f x11_1 25).bind fun t148 => (if 0 ≤ x15_1 then (if x15_1 < (t124.length : Int) then (if x15_1 < (t121.length : Int) then ((modcertref01_rotr.f x7_1 2).bind fun t151 => ((modcertref01_rotr.f x7_1 13).bind fun t152 => ((modcertref01_rotr.f x7_1 22).bind fun t153 => (modcertref01_compress.l0 k1 l0 t121 t124 ((((((((((x14_1 + (Go.bits .xor .u32 (Go.bits .xor .u32 t146 t147) t148)) % 4294967296) + (Go.bits .xor .u32 (Go.bits .and .u32 x11_1 x12_1) (Go.bits .and .u32 (Go.bits .xor .u32 4294967295 x11_1) x13_1))) % 4294967296) + (rd t124 x15_1)) % 4294967296) + (rd t121 x15_1)) % 4294967296) + (((Go.bits .xor .u32 (Go.bits .xor .u32 t151 t152) t153) + (Go.bits .xor .u32 (Go.bits .xor .u32 (Go.bits .and .u32 x7_1 x8_1) (Go.bits .and .u32 x7_1 x9_1)) (Go.bits .and .u32 x8_1 x9_1))) % 4294967296)) % 4294967296) x7_1 x8_1 x9_1 ((x10_1 + ((((((((x14_1 + (Go.bits .xor .u32 (Go.bits .xor .u32 t146 t147) t148)) % 4294967296) + (Go.bits .xor .u32 (Go.bits .and .u32 x11_1 x12_1) (Go.bits .and .u32 (Go.bits .xor .u32 4294967295 x11_1) x13_1))) % 4294967296) + (rd t124 x15_1)) % 4294967296) + (rd t121 x15_1)) % 4294967296)) % 4294967296) x11_1 x12_1 x13_1 (wrap64 (x15_1 + 1)))))) else (none)) else (none)) else (none))) = some r := H
            have A18 := Aside0.mk A180
            clear A180
            replace H := Option.bind_eq_some_iff.mp H
            obtain ⟨t148, A190, H⟩ := H
            replace H : (if 0 ≤ x15_1 then (if x15_1 < (t124.length : Int) then (if x15_1 < (t121.length : Int) then ((modcertref01_rotr.f x7_1 2).bind fun t151 => ((modcertref01_rotr.f x7_1 13).bind fun t152 => ((modcertref01_rotr.f x7_1 22).bind fun t153 => (modcertref01_compress.l0 k1 l0 t121 t124 ((((((((((x14_1 + (Go.bits .xor .u32 (Go.bits .xor .u32 t146 t147) t148)) % 4294967296) + (Go.bits .xor .u32 (Go.bits .and .u32 x11_1 x12_1) (Go.bits .and .u32 (Go.bits .xor .u32 4294967295 x11_1) x13_1))) % 4294967296) + (rd t124 x15_1)) % 4294967296) + (rd t121 x15_1)) % 4294967296) + (((Go.bits .xor .u32 (Go.bits .xor .u32 t151 t152) t153) + (Go.bits .xor .u32 (Go.bits .xor .u32 (Go.bits .and .u32 x7_1 x8_1) (Go.bits .and .u32 x7_1 x9_1)) (Go.bits .and .u32 x8_1 x9_1))) % 4294967296)) % 4294967296) x7_1 x8_1 x9_1 ((x10_1 + ((((((((x14_1 + (Go.bits .xor .u32 (Go.bits .xor .u32 t146 t147) t148)) % 4294967296) + (Go.bits .xor .u32 (Go.bits .and .u32 x11_1 x12_1) (Go.bits .and .u32 (Go.bits .xor .u32 4294967295 x11_1) x13_1))) % 4294967296) + (rd t124 x15_1)) % 4294967296) + (rd t121 x15_1)) % 4294967296)) % 4294967296) x11_1 x12_1 x13_1 (wrap64 (x15_1 + 1)))))) else (none)) else (none)) else (none)) = some r := H
            have A19 := Aside0.mk A190
            clear A190
            by_cases c20 : 0 ≤ x15_1
            ·rw [if_pos c20] at H
             have c20b0 : decide (0 ≤ x15_1) = true := decide_eq_true c20
             clear c20
             by_cases c21 : x15_1 < (t124.length : Int)
             ·rw [if_pos c21] at H
              have c21b0 : decide (x15_1 < (t124.length : Int)) = true := decide_eq_true c21
              clear c21
              by_cases c22 : x15_1 < (t121.length : Int)
              ·rw [if_pos c22] at H
               have c22b0 : decide (x15_1 < (t121.length : Int)) = true := decide_eq_true c22
               clear c22
               replace H := Option.bind_eq_some_iff.mp H
               obtain ⟨t151, A230, H⟩ := H
               replace H : ((modcertref01_rotr.f x7_1 13).bind fun t152 => ((modcertref01_rotr.f x7_1 22).bind fun t153 => (modcertref01_compress.l0 k1 l0 t121 t124 ((((((((((x14_1 + (Go.bits .xor .u32 (Go.bits .xor .u32 t146 t147) t148)) % 4294967296) + (Go.bits .xor .u32 (Go.bits .and .u32 x11_1 x12_1) (Go.bits .and .u32 (Go.bits .xor .u32 4294967295 x11_1) x13_1))) % 4294967296) + (rd t124 x15_1)) % 4294967296) + (rd t121 x15_1)) % 4294967296) + (((Go.bits .xor .u32 (Go.bits .xor .u32 t151 t152) t153) + (Go.bits .xor .u32 (Go.bits .xor .u32 (Go.bits .and .u32 x7_1 x8_1) (Go.bits .and .u32 x7_1 x9_1)) (Go.bits .and .u32 x8_1 x9_1))) % 4294967296)) % 4294967296) x7_1 x8_1 x9_1 ((x10_1 + ((((((((x14_1 + (Go.bits .xor .u32 (Go.bits .xor .u32 t146 t147) t148)) % 4294967296) + (Go.bits .xor .u32 (Go.bits .and .u32 x11_1 x12_1) (Go.bits .and .u32 (Go.bits .xor .u32 4294967295 x11_1) x13_1))) % 4294967296) + (rd t124 x15_1)) % 4294967296) + (rd t121 x15_1)) % 4294967296)) % 4294967296) x11_1 x12_1 x13_1 (wrap64 (x15_1 + 1))))) = some r := H
               have A23 := Aside0.mk A230
               clear A230
               replace H := Option.bind_eq_some_iff.mp H
               obtain ⟨t152, A240, H⟩ := H
               replace H : ((modcertref01_rotr.f x7_1 22).bind fun t153 => (modcertref01_compress.l0 k1 l0 t121 t124 ((((((((((x14_1 + (Go.bits .xor .u32 (Go.bits .xor .u32 t146 t147) t148)) % 4294967296) + (Go.bits .xor .u32 (Go.bits .and .u32 x11_1 x12_1) (Go.bits .and .u32 (Go.bits .xor .u32 4294967295 x11_1) x13_1))) % 4294967296) + (rd t124 x15_1)) % 4294967296) + (rd t121 x15_1)) % 4294967296) + (((Go.bits .xor .u32 (Go.bits .xor .u32 t151 t152) t153) + (Go.bits .xor .u32 (Go.bits .xor .u32 (Go.bits .and .u32 x7_1 x8_1) (Go.bits .and .u32 x7_1 x9_1)) (Go.bits .and .u32 x8_1 x9_1))) % 4294967296)) % 4294967296) x7_1 x8_1 x9_1 ((x10_1 + ((((((((x14_1 + (Go.bits .xor .u32 (Go.bits .xor .u32 t146 t147) t148)) % 4294967296) + (Go.bits .xor .u32 (Go.bits .and .u32 x11_1 x12_1) (Go.bits .and .u32 (Go.bits .xor .u32 4294967295 x11_1) x13_1))) % 4294967296) + (rd t124 x15_1)) % 4294967296) + (rd t121 x15_1)) % 4294967296)) % 4294967296) x11_1 x12_1 x13_1 (wrap64 (x15_1 + 1)))) = some r := H
               have A24 := Aside0.mk A240
               clear A240
               replace H := Option.bind_eq_some_iff.mp H
               obtain ⟨t153, A250, H⟩ := H
               replace H : (modcertref01_compress.l0 k1 l0 t121 t124 ((((((((((x14_1 + (Go.bits .xor .u32 (Go.bits .xor .u32 t146 t147) t148)) % 4294967296) + (Go.bits .xor .u32 (Go.bits .and .u32 x11_1 x12_1) (Go.bits .and .u32 (Go.bits .xor .u32 4294967295 x11_1) x13_1))) % 4294967296) + (rd t124 x15_1)) % 4294967296) + (rd t121 x15_1)) % 4294967296) + (((Go.bits .xor .u32 (Go.bits .xor .u32 t151 t152) t153) + (Go.bits .xor .u32 (Go.bits .xor .u32 (Go.bits .and .u32 x7_1 x8_1) (Go.bits .and .u32 x7_1 x9_1)) (Go.bits .and .u32 x8_1 x9_1))) % 4294967296)) % 4294967296) x7_1 x8_1 x9_1 ((x10_1 + ((((((((x14_1 + (Go.bits .xor .u32 (Go.bits .xor .u32 t146 t147) t148)) % 4294967296) + (Go.bits .xor .u32 (Go.bits .and .u32 x11_1 x12_1) (Go.bits .and .u32 (Go.bits .xor .u32 4294967295 x11_1) x13_1))) % 4294967296) + (rd t124 x15_1)) % 4294967296) + (rd t121 x15_1)) % 4294967296)) % 4294967296) x11_1 x12_1 x13_1 (wrap64 (x15_1 + 1))) = some r := H
               have A25 := Aside0.mk A250
               clear A250
               have H' := Aside0.mk H
               clear H
               try go_wp2
               have n0_ := Aside0.mk (Kd.R_drew HO_5.out)
               have n1_ := Aside0.mk (Kd.R_drew HO_6.out)
               have n2_ := Aside0.mk (below_drew1 HB.out)
               clear HO_5
               clear HO_6
               clear HB
               have HO_5 := n0_
               have HO_6 := n1_
               have HB := n2_
               clear n0_ n1_ n2_
               obtain ⟨Ao27, co27, eo27⟩ := Kd.R_slice HO_6.out
               (first | subst eo27 | (injection eo27 with f1_ f2_ f3_; have f4_ := f1_.symm; have f5_ := f3_.symm; clear f1_ f2_ f3_; subst f4_; subst f5_))
               have p149 : 0 ≤ (x15_1 : Int) := of_decide_eq_true (by first | (with_reducible assumption) | assumption)
               have q149 : x15_1 < (t124.length : Int) := of_decide_eq_true (by first | (with_reducible assumption) | assumption)
               obtain ⟨ad149, e149, hx149_0⟩ := Kd.at_int (Kd.R_reads' HO_6.out).2.2 x15_1 p149 q149
               cases e149
               replace p149 := eq_true p149
               replace q149 := eq_true q149
               obtain ⟨Ao28, co28, eo28⟩ := Kd.R_slice HO_5.out
               (first | subst eo28 | (injection eo28 with f1_ f2_ f3_; have f4_ := f1_.symm; have f5_ := f3_.symm; clear f1_ f2_ f3_; subst f4_; subst f5_))
               have p150 : 0 ≤ (x15_1 : Int) := of_decide_eq_true (by first | (with_reducible assumption) | assumption)
               have q150 : x15_1 < (t121.length : Int) := of_decide_eq_true (by first | (with_reducible assumption) | assumption)
               obtain ⟨ad150, e150, hx150_0⟩ := Kd.at_int (Kd.R_reads' HO_5.out).2.2 x15_1 p150 q150
               cases e150
               replace p150 := eq_true p150
               replace q150 := eq_true q150
               refine start_ (n := 30) (S := fun w' => w'.cell? (ad149.add (x15_1).toNat) = some (.int .u32 (rd t124 x15_1)) ∧ w'.cell? (ad150.add (x15_1).toNat) = some (.int .u32 (rd t121 x15_1))) (ds := []) #[Ff,Ff,Ff,Ff,Ff,Ff,Ff,Ff,Ff,Ff,Ff,Ff,Ff,Ff,Ff,Ff,Ff,Ff,Ff,Ff,Ff,Ff,Ff,Ff,Ff,Ff,Ff,Ff,Ff,Ff] (by kernel_rfl) rfl rfl ⟨hx149_0, hx150_0⟩ (fun hHeld => ?_); refine with_tabW modcertref01_compress.tab6 modcertref01_compress.bits6 (fun HT_ HW_ => ?_)
               generalize wr.drew = w26 at HO_5 HO_6 HB hx149_0 hx150_0 hHeld ⊢
               refine pure_ (i := 0) (N := some 49) (v := ?_) (a' := ?_) #[Tt,Ff,Ff,Ff,Ff,Ff,Ff,Ff,Ff,Ff,Ff,Ff,Ff,Ff,Ff,Ff,Ff,Ff,Ff,Ff,Ff,Ff,Ff,Ff,Ff,Ff,Ff,Ff,Ff,Ff] rfl rfl (any_of HT_.out (by kernel_rfl)) (fun _ _ _ h => h) (Or.inl ⟨by rfl, ?_⟩) ?_ ?_
               rotate_left
               ·intro w'
                go_simp
                with_reducible rfl
               rotate_left
               ·simp only [Act.put, List.setIfInBounds_toArray, List.set_cons_zero, List.set_cons_succ, i64_w, i32_w]
                rfl
               refine pure_ (i := 1) (N := some 50) (v := ?_) (a' := ?_) #[Tt,Tt,Ff,Ff,Ff,Ff,Ff,Ff,Ff,Ff,Ff,Ff,Ff,Ff,Ff,Ff,Ff,Ff,Ff,Ff,Ff,Ff,Ff,Ff,Ff,Ff,Ff,Ff,Ff,Ff] rfl rfl (any_of HT_.out (by kernel_rfl)) (fun _ _ _ h => h) (Or.inl ⟨by rfl, ?_⟩) ?_ ?_
               rotate_left
               ·intro w'
                go_simp
                with_reducible rfl
               rotate_left
               ·simp only [Act.put, List.setIfInBounds_toArray, List.set_cons_zero, List.set_cons_succ, i64_w, i32_w]
                rfl
               refine pure_ (i := 3) (N := some 52) (v := ?_) (a' := ?_) #[Tt,Tt,Ff,Tt,Ff,Ff,Ff,Ff,Ff,Ff,Ff,Ff,Ff,Ff,Ff,Ff,Ff,Ff,Ff,Ff,Ff,Ff,Ff,Ff,Ff,Ff,Ff,Ff,Ff,Ff] rfl rfl (any_of HT_.out (by kernel_rfl)) (fun _ _ _ h => h) (Or.inl ⟨by rfl, ?_⟩) ?_ ?_
               rotate_left
               ·intro w'
                go_simp
                with_reducible rfl
               rotate_left
               ·simp only [Act.put, List.setIfInBounds_toArray, List.set_cons_zero, List.set_cons_succ, i64_w, i32_w]
                rfl
               refine pure_ (i := 6) (N := some 55) (v := ?_) (a' := ?_) #[Tt,Tt,Ff,Tt,Ff,Ff,Tt,Ff,Ff,Ff,Ff,Ff,Ff,Ff,Ff,Ff,Ff,Ff,Ff,Ff,Ff,Ff,Ff,Ff,Ff,Ff,Ff,Ff,Ff,Ff] rfl rfl (any_of HT_.out (by kernel_rfl)) (fun _ _ _ h => h) (Or.inl ⟨by rfl, ?_⟩) ?_ ?_
               rotate_left
               ·intro w'
                go_simp
                with_reducible rfl
               rotate_left
               ·simp only [Act.put, List.setIfInBounds_toArray, List.set_cons_zero, List.set_cons_succ, i64_w, i32_w]
                rfl
               refine pure_ (i := 10) (N := some 59) (v := ?_) (a' := ?_) #[Tt,Tt,Ff,Tt,Ff,Ff,Tt,Ff,Ff,Ff,Tt,Ff,Ff,Ff,Ff,Ff,Ff,Ff,Ff,Ff,Ff,Ff,Ff,Ff,Ff,Ff,Ff,Ff,Ff,Ff] rfl rfl (any_of HT_.out (by kernel_rfl)) (fun _ _ _ h => h) (Or.inl ⟨by rfl, ?_⟩) ?_ ?_
               rotate_left
               ·intro w'
                go_simp
                with_reducible rfl
               rotate_left
               ·simp only [Act.put, List.setIfInBounds_toArray, List.set_cons_zero, List.set_cons_succ, i64_w, i32_w]
                rfl
               refine pure_ (i := 11) (N := some 60) (v := ?_) (a' := ?_) #[Tt,Tt,Ff,Tt,Ff,Ff,Tt,Ff,Ff,Ff,Tt,Tt,Ff,Ff,Ff,Ff,Ff,Ff,Ff,Ff,Ff,Ff,Ff,Ff,Ff,Ff,Ff,Ff,Ff,Ff] rfl rfl (any_of HT_.out (by kernel_rfl)) (fun _ _ _ h => h) (Or.inl ⟨by rfl, ?_⟩) ?_ ?_
               rotate_left
               ·intro w'
                go_simp
                with_reducible rfl
               rotate_left
               ·simp only [Act.put, List.setIfInBounds_toArray, List.set_cons_zero, List.set_cons_succ, i64_w, i32_w]
                rfl
               refine pure_ (i := 12) (N := some 61) (v := ?_) (a' := ?_) #[Tt,Tt,Ff,Tt,Ff,Ff,Tt,Ff,Ff,Ff,Tt,Tt,Tt,Ff,Ff,Ff,Ff,Ff,Ff,Ff,Ff,Ff,Ff,Ff,Ff,Ff,Ff,Ff,Ff,Ff] rfl rfl (any_of HT_.out (by kernel_rfl)) (fun _ _ _ h => h) (Or.inl ⟨by rfl, ?_⟩) ?_ ?_
               rotate_left
               ·intro w'
                go_simp
                with_reducible rfl
               rotate_left
               ·simp only [Act.put, List.setIfInBounds_toArray, List.set_cons_zero, List.set_cons_succ, i64_w, i32_w]
                rfl
               refine pure_ (i := 13) (N := some 62) (v := ?_) (a' := ?_) #[Tt,Tt,Ff,Tt,Ff,Ff,Tt,Ff,Ff,Ff,Tt,Tt,Tt,Tt,Ff,Ff,Ff,Ff,Ff,Ff,Ff,Ff,Ff,Ff,Ff,Ff,Ff,Ff,Ff,Ff] rfl rfl (any_of HT_.out (by kernel_rfl)) (fun _ _ _ h => h) (Or.inl ⟨by rfl, ?_⟩) ?_ ?_
               rotate_left
               ·intro w'
                go_simp
                with_reducible rfl
               rotate_left
               ·simp only [Act.put, List.setIfInBounds_toArray, List.set_cons_zero, List.set_cons_succ, i64_w, i32_w]
                rfl
               refine pure_ (i := 14) (N := some 63) (v := ?_) (a' := ?_) #[Tt,Tt,Ff,Tt,Ff,Ff,Tt,Ff,Ff,Ff,Tt,Tt,Tt,Tt,Tt,Ff,Ff,Ff,Ff,Ff,Ff,Ff,Ff,Ff,Ff,Ff,Ff,Ff,Ff,Ff] rfl rfl (any_of HT_.out (by kernel_rfl)) (fun _ _ _ h => h) (Or.inl ⟨by rfl, ?_⟩) ?_ ?_
               rotate_left
               ·intro w'
                go_simp
                with_reducible rfl
               rotate_left
               ·simp only [Act.put, List.setIfInBounds_toArray, List.set_cons_zero, List.set_cons_succ, i64_w, i32_w]
                rfl
               refine pure_ (i := 15) (N := some 64) (v := ?_) (a' := ?_) #[Tt,Tt,Ff,Tt,Ff,Ff,Tt,Ff,Ff,Ff,Tt,Tt,Tt,Tt,Tt,Tt,Ff,Ff,Ff,Ff,Ff,Ff,Ff,Ff,Ff,Ff,Ff,Ff,Ff,Ff] rfl rfl (any_of HT_.out (by kernel_rfl)) (fun _ _ _ h => h) (Or.inl ⟨by rfl, ?_⟩) ?_ ?_
               rotate_left
               ·intro w'
                go_simp
                with_reducible rfl
               rotate_left
               ·simp only [Act.put, List.setIfInBounds_toArray, List.set_cons_zero, List.set_cons_succ, i64_w, i32_w]
                rfl
               refine pure_ (i := 16) (N := some 65) (v := ?_) (a' := ?_) #[Tt,Tt,Ff,Tt,Ff,Ff,Tt,Ff,Ff,Ff,Tt,Tt,Tt,Tt,Tt,Tt,Tt,Ff,Ff,Ff,Ff,Ff,Ff,Ff,Ff,Ff,Ff,Ff,Ff,Ff] rfl rfl (any_of HT_.out (by kernel_rfl)) (fun _ _ _ h => h) (Or.inl ⟨by rfl, ?_⟩) ?_ ?_
               rotate_left
               ·intro w'
                go_simp
                with_reducible rfl
               rotate_left
               ·simp only [Act.put, List.setIfInBounds_toArray, List.set_cons_zero, List.set_cons_succ, i64_w, i32_w]
                rfl
               refine pure_ (i := 17) (N := some 66) (v := ?_) (a' := ?_) #[Tt,Tt,Ff,Tt,Ff,Ff,Tt,Ff,Ff,Ff,Tt,Tt,Tt,Tt,Tt,Tt,Tt,Tt,Ff,Ff,Ff,Ff,Ff,Ff,Ff,Ff,Ff,Ff,Ff,Ff] rfl rfl (any_of HT_.out (by kernel_rfl)) (fun _ _ _ h => h) (Or.inl ⟨by rfl, ?_⟩) ?_ ?_
               rotate_left
               ·intro w'
                go_simp
                with_reducible rfl
               rotate_left
               ·simp only [Act.put, List.setIfInBounds_toArray, List.set_cons_zero, List.set_cons_succ, i64_w, i32_w]
                rfl
               refine pure_ (i := 19) (N := some 68) (v := ?_) (a' := ?_) #[Tt,Tt,Ff,Tt,Ff,Ff,Tt,Ff,Ff,Ff,Tt,Tt,Tt,Tt,Tt,Tt,Tt,Tt,Ff,Tt,Ff,Ff,Ff,Ff,Ff,Ff,Ff,Ff,Ff,Ff] rfl rfl (any_of HT_.out (by kernel_rfl)) (fun _ _ _ h => h) (Or.inl ⟨by rfl, ?_⟩) ?_ ?_
               rotate_left
               ·intro w'
                go_simp
                with_reducible rfl
               rotate_left
               ·simp only [Act.put, List.setIfInBounds_toArray, List.set_cons_zero, List.set_cons_succ, i64_w, i32_w]
                rfl
               refine pure_ (i := 20) (N := some 69) (v := ?_) (a' := ?_) #[Tt,Tt,Ff,Tt,Ff,Ff,Tt,Ff,Ff,Ff,Tt,Tt,Tt,Tt,Tt,Tt,Tt,Tt,Ff,Tt,Tt,Ff,Ff,Ff,Ff,Ff,Ff,Ff,Ff,Ff] rfl rfl (any_of HT_.out (by kernel_rfl)) (fun _ _ _ h => h) (Or.inl ⟨by rfl, ?_⟩) ?_ ?_
               rotate_left
               ·intro w'
                go_simp
                with_reducible rfl
               rotate_left
               ·simp only [Act.put, List.setIfInBounds_toArray, List.set_cons_zero, List.set_cons_succ, i64_w, i32_w]
                rfl
               refine pure_ (i := 21) (N := some 70) (v := ?_) (a' := ?_) #[Tt,Tt,Ff,Tt,Ff,Ff,Tt,Ff,Ff,Ff,Tt,Tt,Tt,Tt,Tt,Tt,Tt,Tt,Ff,Tt,Tt,Tt,Ff,Ff,Ff,Ff,Ff,Ff,Ff,Ff] rfl rfl (any_of HT_.out (by kernel_rfl)) (fun _ _ _ h => h) (Or.inl ⟨by rfl, ?_⟩) ?_ ?_
               rotate_left
               ·intro w'
                go_simp
                with_reducible rfl
               rotate_left
               ·simp only [Act.put, List.setIfInBounds_toArray, List.set_cons_zero, List.set_cons_succ, i64_w, i32_w]
                rfl
               refine pure_ (i := 24) (N := some 73) (v := ?_) (a' := ?_) #[Tt,Tt,Ff,Tt,Ff,Ff,Tt,Ff,Ff,Ff,Tt,Tt,Tt,Tt,Tt,Tt,Tt,Tt,Ff,Tt,Tt,Tt,Ff,Ff,Tt,Ff,Ff,Ff,Ff,Ff] rfl rfl (any_of HT_.out (by kernel_rfl)) (fun _ _ _ h => h) (Or.inl ⟨by rfl, ?_⟩) ?_ ?_
               rotate_left
               ·intro w'
                go_simp
                with_reducible rfl
               rotate_left
               ·simp only [Act.put, List.setIfInBounds_toArray, List.set_cons_zero, List.set_cons_succ, i64_w, i32_w]
                rfl
               refine pure_ (i := 25) (N := some 74) (v := ?_) (a' := ?_) #[Tt,Tt,Ff,Tt,Ff,Ff,Tt,Ff,Ff,Ff,Tt,Tt,Tt,Tt,Tt,Tt,Tt,Tt,Ff,Tt,Tt,Tt,Ff,Ff,Tt,Tt,Ff,Ff,Ff,Ff] rfl rfl (any_of HT_.out (by kernel_rfl)) (fun _ _ _ h => h) (Or.inl ⟨by rfl, ?_⟩) ?_ ?_
               rotate_left
               ·intro w'
                go_simp
                with_reducible rfl
               rotate_left
               ·simp only [Act.put, List.setIfInBounds_toArray, List.set_cons_zero, List.set_cons_succ, i64_w, i32_w]
                rfl
               refine pure_ (i := 26) (N := some 75) (v := ?_) (a' := ?_) #[Tt,Tt,Ff,Tt,Ff,Ff,Tt,Ff,Ff,Ff,Tt,Tt,Tt,Tt,Tt,Tt,Tt,Tt,Ff,Tt,Tt,Tt,Ff,Ff,Tt,Tt,Tt,Ff,Ff,Ff] rfl rfl (any_of HT_.out (by kernel_rfl)) (fun _ _ _ h => h) (Or.inl ⟨by rfl, ?_⟩) ?_ ?_
               rotate_left
               ·intro w'
                go_simp
                with_reducible rfl
               rotate_left
               ·simp only [Act.put, List.setIfInBounds_toArray, List.set_cons_zero, List.set_cons_succ, i64_w, i32_w]
                rfl
               refine take_ (i := 22) (N := some 71) (v := ?_) (a' := ?_) #[Tt,Tt,Ff,Tt,Ff,Ff,Tt,Ff,Ff,Ff,Tt,Tt,Tt,Tt,Tt,Tt,Tt,Tt,Ff,Tt,Tt,Tt,Tt,Ff,Tt,Tt,Tt,Ff,Ff,Ff] rfl rfl (take_ofW HT_.out HW_.out (by kernel_rfl)) (fun _ _ _ h => h) (Or.inl ⟨by rfl, ?_⟩) hHeld ?_ ?_
               rotate_left
               ·rintro w' ⟨s0, s1⟩
                go_simp
                with_reducible rfl
               rotate_left
               ·simp only [Act.put, List.setIfInBounds_toArray, List.set_cons_zero, List.set_cons_succ, i64_w, i32_w]
                rfl
               refine take_ (i := 27) (N := some 76) (v := ?_) (a' := ?_) #[Tt,Tt,Ff,Tt,Ff,Ff,Tt,Ff,Ff,Ff,Tt,Tt,Tt,Tt,Tt,Tt,Tt,Tt,Ff,Tt,Tt,Tt,Tt,Ff,Tt,Tt,Tt,Tt,Ff,Ff] rfl rfl (take_ofW HT_.out HW_.out (by kernel_rfl)) (fun _ _ _ h => h) (Or.inl ⟨by rfl, ?_⟩) hHeld ?_ ?_
               rotate_left
               ·rintro w' ⟨s0, s1⟩
                go_simp
                with_reducible rfl
               rotate_left
               ·simp only [Act.put, List.setIfInBounds_toArray, List.set_cons_zero, List.set_cons_succ, i64_w, i32_w]
                rfl
               refine one_ (i := 2) (N := some 51) #[Tt,Tt,Tt,Tt,Ff,Ff,Tt,Ff,Ff,Ff,Tt,Tt,Tt,Tt,Tt,Tt,Tt,Tt,Ff,Tt,Tt,Tt,Tt,Ff,Tt,Tt,Tt,Tt,Ff,Ff] rfl rfl (one_of HT_.out (by kernel_rfl)) (by decide) (fun K hK => ?_)
               refine goes_ Tryd.func77 (by kernel_rfl) rfl #[.int .u32 x11_1, .int .i64 6] (by rfl) rfl rfl (by (try simp only [List.map_toArray, List.map_cons, List.map_nil]); first | done | rfl | (simp only [List.length_drop, List.length_take]; rfl)) ?_
               with_reducible refine (modcertref01_rotr.calls x11_1 6 t146 _ A17.out).mono ?_
               rintro e w' ⟨rfl, ⟨nd, rfl⟩⟩
               refine ⟨_, rfl, ?_⟩
               refine hK.out _ _ ⟨hHeld.1, hHeld.2⟩ (fun hHeld => ?_)
               clear hK K
               refine norm_ (a' := ?_) ?_ ?_
               rotate_left
               ·show Act.put _ (some 51) _ = _
                simp only [Act.put, List.setIfInBounds_toArray, List.set_cons_zero, List.set_cons_succ, i64_w, i32_w]
                rfl
               refine one_ (i := 4) (N := some 53) #[Tt,Tt,Tt,Tt,Tt,Ff,Tt,Ff,Ff,Ff,Tt,Tt,Tt,Tt,Tt,Tt,Tt,Tt,Ff,Tt,Tt,Tt,Tt,Ff,Tt,Tt,Tt,Tt,Ff,Ff] rfl rfl (one_of HT_.out (by kernel_rfl)) (by decide) (fun K hK => ?_)
               refine goes_ Tryd.func77 (by kernel_rfl) rfl #[.int .u32 x11_1, .int .i64 11] (by rfl) rfl rfl (by (try simp only [List.map_toArray, List.map_cons, List.map_nil]); first | done | rfl | (simp only [List.length_drop, List.length_take]; rfl)) ?_
               with_reducible refine (modcertref01_rotr.calls x11_1 11 t147 _ A18.out).mono ?_
               rintro e w' ⟨rfl, ⟨nd, rfl⟩⟩
               refine ⟨_, rfl, ?_⟩
               refine hK.out _ _ ⟨hHeld.1, hHeld.2⟩ (fun hHeld => ?_)
               clear hK K
               refine norm_ (a' := ?_) ?_ ?_
               rotate_left
               ·show Act.put _ (some 53) _ = _
                simp only [Act.put, List.setIfInBounds_toArray, List.set_cons_zero, List.set_cons_succ, i64_w, i32_w]
                rfl
               refine pure_ (i := 5) (N := some 54) (v := ?_) (a' := ?_) #[Tt,Tt,Tt,Tt,Tt,Tt,Tt,Ff,Ff,Ff,Tt,Tt,Tt,Tt,Tt,Tt,Tt,Tt,Ff,Tt,Tt,Tt,Tt,Ff,Tt,Tt,Tt,Tt,Ff,Ff] rfl rfl (any_of HT_.out (by kernel_rfl)) (fun _ _ _ h => h) (Or.inl ⟨by rfl, ?_⟩) ?_ ?_
               rotate_left
               ·intro w'
                go_simp
                with_reducible rfl
               rotate_left
               ·simp only [Act.put, List.setIfInBounds_toArray, List.set_cons_zero, List.set_cons_succ, i64_w, i32_w]
                rfl
               refine one_ (i := 7) (N := some 56) #[Tt,Tt,Tt,Tt,Tt,Tt,Tt,Tt,Ff,Ff,Tt,Tt,Tt,Tt,Tt,Tt,Tt,Tt,Ff,Tt,Tt,Tt,Tt,Ff,Tt,Tt,Tt,Tt,Ff,Ff] rfl rfl (one_of HT_.out (by kernel_rfl)) (by decide) (fun K hK => ?_)
               refine goes_ Tryd.func77 (by kernel_rfl) rfl #[.int .u32 x11_1, .int .i64 25] (by rfl) rfl rfl (by (try simp only [List.map_toArray, List.map_cons, List.map_nil]); first | done | rfl | (simp only [List.length_drop, List.length_take]; rfl)) ?_
               with_reducible refine (modcertref01_rotr.calls x11_1 25 t148 _ A19.out).mono ?_
               rintro e w' ⟨rfl, ⟨nd, rfl⟩⟩
               refine ⟨_, rfl, ?_⟩
               refine hK.out _ _ ⟨hHeld.1, hHeld.2⟩ (fun hHeld => ?_)
               clear hK K
               refine norm_ (a' := ?_) ?_ ?_
               rotate_left
               ·show Act.put _ (some 56) _ = _
                simp only [Act.put, List.setIfInBounds_toArray, List.set_cons_zero, List.set_cons_succ, i64_w, i32_w]
                rfl
               refine pure_ (i := 8) (N := some 57) (v := ?_) (a' := ?_) #[Tt,Tt,Tt,Tt,Tt,Tt,Tt,Tt,Tt,Ff,Tt,Tt,Tt,Tt,Tt,Tt,Tt,Tt,Ff,Tt,Tt,Tt,Tt,Ff,Tt,Tt,Tt,Tt,Ff,Ff] rfl rfl (any_of HT_.out (by kernel_rfl)) (fun _ _ _ h => h) (Or.inl ⟨by rfl, ?_⟩) ?_ ?_
               rotate_left
               ·intro w'
                go_simp
                with_reducible rfl
               rotate_left
               ·simp only [Act.put, List.setIfInBounds_toArray, List.set_cons_zero, List.set_cons_succ, i64_w, i32_w]
                rfl
               refine pure_ (i := 9) (N := some 58) (v := ?_) (a' := ?_) #[Tt,Tt,Tt,Tt,Tt,Tt,Tt,Tt,Tt,Tt,Tt,Tt,Tt,Tt,Tt,Tt,Tt,Tt,Ff,Tt,Tt,Tt,Tt,Ff,Tt,Tt,Tt,Tt,Ff,Ff] rfl rfl (any_of HT_.out (by kernel_rfl)) (fun _ _ _ h => h) (Or.inl ⟨by rfl, ?_⟩) ?_ ?_
               rotate_left
               ·intro w'
                go_simp
                with_reducible rfl
               rotate_left
               ·simp only [Act.put, List.setIfInBounds_toArray, List.set_cons_zero, List.set_cons_succ, i64_w, i32_w]
                rfl
               refine pure_ (i := 18) (N := some 67) (v := ?_) (a' := ?_) #[Tt,Tt,Tt,Tt,Tt,Tt,Tt,Tt,Tt,Tt,Tt,Tt,Tt,Tt,Tt,Tt,Tt,Tt,Tt,Tt,Tt,Tt,Tt,Ff,Tt,Tt,Tt,Tt,Ff,Ff] rfl rfl (any_of HT_.out (by kernel_rfl)) (fun _ _ _ h => h) (Or.inl ⟨by rfl, ?_⟩) ?_ ?_
               rotate_left
               ·intro w'
                go_simp
                with_reducible rfl
               rotate_left
               ·simp only [Act.put, List.setIfInBounds_toArray, List.set_cons_zero, List.set_cons_succ, i64_w, i32_w]
                rfl
               refine pure_ (i := 23) (N := some 72) (v := ?_) (a' := ?_) #[Tt,Tt,Tt,Tt,Tt,Tt,Tt,Tt,Tt,Tt,Tt,Tt,Tt,Tt,Tt,Tt,Tt,Tt,Tt,Tt,Tt,Tt,Tt,Tt,Tt,Tt,Tt,Tt,Ff,Ff] rfl rfl (any_of HT_.out (by kernel_rfl)) (fun _ _ _ h => h) (Or.inl ⟨by rfl, ?_⟩) ?_ ?_
               rotate_left
               ·intro w'
                go_simp
                with_reducible rfl
               rotate_left
               ·simp only [Act.put, List.setIfInBounds_toArray, List.set_cons_zero, List.set_cons_succ, i64_w, i32_w]
                rfl
               refine pure_ (i := 28) (N := some 77) (v := ?_) (a' := ?_) #[Tt,Tt,Tt,Tt,Tt,Tt,Tt,Tt,Tt,Tt,Tt,Tt,Tt,Tt,Tt,Tt,Tt,Tt,Tt,Tt,Tt,Tt,Tt,Tt,Tt,Tt,Tt,Tt,Tt,Ff] rfl rfl (any_of HT_.out (by kernel_rfl)) (fun _ _ _ h => h) (Or.inl ⟨by rfl, ?_⟩) ?_ ?_
               rotate_left
               ·intro w'
                go_simp
                with_reducible rfl
               rotate_left
               ·simp only [Act.put, List.setIfInBounds_toArray, List.set_cons_zero, List.set_cons_succ, i64_w, i32_w]
                rfl
               refine pure_ (i := 29) (N := some 16) (v := ?_) (a' := ?_) #[Tt,Tt,Tt,Tt,Tt,Tt,Tt,Tt,Tt,Tt,Tt,Tt,Tt,Tt,Tt,Tt,Tt,Tt,Tt,Tt,Tt,Tt,Tt,Tt,Tt,Tt,Tt,Tt,Tt,Tt] rfl rfl (any_of HT_.out (by kernel_rfl)) (fun _ _ _ h => h) (Or.inl ⟨by rfl, ?_⟩) ?_ ?_
               rotate_left
               ·intro w'
                go_simp
                with_reducible rfl
               rotate_left
               ·simp only [Act.put, List.setIfInBounds_toArray, List.set_cons_zero, List.set_cons_succ, i64_w, i32_w]
                rfl
               refine done_ (done_of HT_.out (by kernel_rfl)) ?_
               try go_wp2_with (first | ((with_reducible refine gate_callee (f := 77) rfl ?_); refine goesL_ (some 79) rfl rfl Tryd.func77 (by kernel_rfl) rfl #[.int .u32 x7_1, .int .i64 2] rfl (by (try simp only [List.map_toArray, List.map_cons, List.map_nil]); first | done | rfl | (simp only [List.length_drop, List.length_take]; rfl)) ?_; (with_reducible refine (modcertref01_rotr.calls x7_1 2 t151 _ A23.out).mono ?_); rintro e w' ⟨rfl, ⟨nd, rfl⟩⟩; refine ⟨_, rfl, ?_⟩) | ((with_reducible refine gate_callee (f := 77) rfl ?_); refine goesL_ (some 81) rfl rfl Tryd.func77 (by kernel_rfl) rfl #[.int .u32 x7_1, .int .i64 13] rfl (by (try simp only [List.map_toArray, List.map_cons, List.map_nil]); first | done | rfl | (simp only [List.length_drop, List.length_take]; rfl)) ?_; (with_reducible refine (modcertref01_rotr.calls x7_1 13 t152 _ A24.out).mono ?_); rintro e w' ⟨rfl, ⟨nd, rfl⟩⟩; refine ⟨_, rfl, ?_⟩) | ((with_reducible refine gate_callee (f := 77) rfl ?_); refine goesL_ (some 84) rfl rfl Tryd.func77 (by kernel_rfl) rfl #[.int .u32 x7_1, .int .i64 22] rfl (by (try simp only [List.map_toArray, List.map_cons, List.map_nil]); first | done | rfl | (simp only [List.length_drop, List.length_take]; rfl)) ?_; (with_reducible refine (modcertref01_rotr.calls x7_1 22 t153 _ A25.out).mono ?_); rintro e w' ⟨rfl, ⟨nd, rfl⟩⟩; refine ⟨_, rfl, ?_⟩))
               go_roundg k1
               case measure => have := HK1.out; omega
               case rel => exact ⟨((((((((((x14_1 + (Go.bits .xor .u32 (Go.bits .xor .u32 t146 t147) t148)) % 4294967296) + (Go.bits .xor .u32 (Go.bits .and .u32 x11_1 x12_1) (Go.bits .and .u32 (Go.bits .xor .u32 4294967295 x11_1) x13_1))) % 4294967296) + (rd t124 x15_1)) % 4294967296) + (rd t121 x15_1)) % 4294967296) + (((Go.bits .xor .u32 (Go.bits .xor .u32 t151 t152) t153) + (Go.bits .xor .u32 (Go.bits .xor .u32 (Go.bits .and .u32 x7_1 x8_1) (Go.bits .and .u32 x7_1 x9_1)) (Go.bits .and .u32 x8_1 x9_1))) % 4294967296)) % 4294967296), (x7_1), (x8_1), (x9_1), ((x10_1 + ((((((((x14_1 + (Go.bits .xor .u32 (Go.bits .xor .u32 t146 t147) t148)) % 4294967296) + (Go.bits .xor .u32 (Go.bits .and .u32 x11_1 x12_1) (Go.bits .and .u32 (Go.bits .xor .u32 4294967295 x11_1) x13_1))) % 4294967296) + (rd t124 x15_1)) % 4294967296) + (rd t121 x15_1)) % 4294967296)) % 4294967296), (x11_1), (x12_1), (x13_1), (wrap64 (x15_1 + 1)), (by first | rfl | (simp; done) | (simp [*]; done) | (simp; rfl)), (by first | rfl | (simp; done) | (simp [*]; done) | (simp; rfl)), (by first | rfl | (simp; done) | (simp [*]; done) | (simp; rfl)), (by first | rfl | (simp; done) | (simp [*]; done) | (simp; rfl)), (by first | rfl | (simp; done) | (simp [*]; done) | (simp; rfl)), (by first | rfl | (simp; done) | (simp [*]; done) | (simp; rfl)), (by first | rfl | (simp; done) | (simp [*]; done) | (simp; rfl)), (by first | rfl | (simp; done) | (simp [*]; done) | (simp; rfl)), (by first | rfl | (simp; done) | (simp [*]; done) | (simp; rfl)), H', ⟨by have := HK1.out; omega⟩, ⟨by (with_reducible repeat (first | apply Kd.R_alloc | apply Kd.R_drewN | apply Kd.R_drew)); exact HO_5.out⟩, ⟨by (with_reducible repeat (first | apply Kd.R_alloc | apply Kd.R_drewN | apply Kd.R_drew)); exact HO_6.out⟩, ⟨by repeat (first | (with_reducible first | exact HB.out | apply below_alloc | apply pw_below_drewN | apply below_drew1) | exact HB.out)⟩⟩
              ·rw [if_neg c22] at H
               exact absurd H (by simp)
             ·rw [if_neg c21] at H
              exact absurd H (by simp)
            ·rw [if_neg c20] at H
             exact absurd H (by simp)
           ·rw [if_neg c16] at H
            have c16b0 : decide (x15_1 < 64) = false := decide_eq_false c16
            clear c16
            by_cases c29 : 0 < (l0.length : Int)
            ·rw [if_pos c29] at H
             have c29b0 : decide (0 < (l0.length : Int)) = true := decide_eq_true c29
             have c29b1 : decide (0 < l0.length) = true := decide_eq_true (by omega)
             clear c29
             by_cases c30 : 1 < (l0.length : Int)
             ·rw [if_pos c30] at H
              have c30b0 : decide (1 < (l0.length : Int)) = true := decide_eq_true c30
              have c30b1 : decide (1 < l0.length) = true := decide_eq_true (by omega)
              clear c30
              by_cases c31 : 2 < (l0.length : Int)
              ·rw [if_pos c31] at H
               have c31b0 : decide (2 < (l0.length : Int)) = true := decide_eq_true c31
               have c31b1 : decide (2 < l0.length) = true := decide_eq_true (by omega)
               clear c31
               by_cases c32 : 3 < (l0.length : Int)
               ·rw [if_pos c32] at H
                have c32b0 : decide (3 < (l0.length : Int)) = true := decide_eq_true c32
                have c32b1 : decide (3 < l0.length) = true := decide_eq_true (by omega)
                clear c32
                by_cases c33 : 4 < (l0.length : Int)
                ·rw [if_pos c33] at H
                 have c33b0 : decide (4 < (l0.length : Int)) = true := decide_eq_true c33
                 have c33b1 : decide (4 < l0.length) = true := decide_eq_true (by omega)
                 clear c33
                 by_cases c34 : 5 < (l0.length : Int)
                 ·rw [if_pos c34] at H
                  have c34b0 : decide (5 < (l0.length : Int)) = true := decide_eq_true c34
                  have c34b1 : decide (5 < l0.length) = true := decide_eq_true (by omega)
                  clear c34
                  by_cases c35 : 6 < (l0.length : Int)
                  ·rw [if_pos c35] at H
                   have c35b0 : decide (6 < (l0.length : Int)) = true := decide_eq_true c35
                   have c35b1 : decide (6 < l0.length) = true := decide_eq_true (by omega)
                   clear c35
                   by_cases c36 : 7 < (l0.length : Int)
                   ·rw [if_pos c36] at H
                    have c36b0 : decide (7 < (l0.length : Int)) = true := decide_eq_true c36
                    have c36b1 : decide (7 < l0.length) = true := decide_eq_true (by omega)
                    clear c36
                    obtain ⟨y143, hy143⟩ : ∃ y_ : List Int, y_ = (([((rd l0 0) + x7_1) % 4294967296, ((rd l0 1) + x8_1) % 4294967296, ((rd l0 2) + x9_1) % 4294967296, ((rd l0 3) + x10_1) % 4294967296, ((rd l0 4) + x11_1) % 4294967296, ((rd l0 5) + x12_1) % 4294967296, ((rd l0 6) + x13_1) % 4294967296, ((rd l0 7) + x14_1) % 4294967296] : List Int)) := ⟨_, rfl⟩
                    replace H : (some y143) = some r := by first | (rw [hy143]; with_reducible exact H) | (have H2_ := (Option.bind_some _ _).symm.trans H; rw [hy143]; with_reducible exact H2_) | (have H2_ := (Option.bind_some _ _).symm.trans H; with_reducible exact H2_) | with_reducible exact H | (rw [hy143]; exact H) | exact H
                    have Ny143 := Aside0.mk hy143
                    clear hy143
                    obtain rfl := Option.some.inj H
                    try go_wp2
                    have n0_ := Aside0.mk (Kd.R_drew HO_5.out)
                    have n1_ := Aside0.mk (Kd.R_drew HO_6.out)
                    have n2_ := Aside0.mk (below_drew1 HB.out)
                    clear HO_5
                    clear HO_6
                    clear HB
                    have HO_5 := n0_
                    have HO_6 := n1_
                    have HB := n2_
                    clear n0_ n1_ n2_
                    have p135 : 0 ≤ (0 : Int) := (by omega)
                    have q135 : 0 < (l0.length : Int) := of_decide_eq_true (by first | (with_reducible assumption) | assumption)
                    obtain ⟨ad135, e135, hx135_0⟩ := Kd.at_int HR0.out 0 p135 q135
                    have hw135_0 := hx135_0
                    (try rw [show ((0 : Int)).toNat = 0 from rfl] at hw135_0)
                    (try rw [show 0 * 1 = 0 from rfl] at hw135_0)
                    (try rw [Addr.add_zero'] at hw135_0)
                    obtain rfl : ad127 = ad135 := (by injection e135)
                    have qi135 : (0 < l0.length) = True := eq_true (by omega)
                    (try rw [show ((0 : Int)).toNat = 0 from rfl] at hx135_0)
                    (try rw [Addr.add_zero'] at hx135_0)
                    replace hx135_0 := (HB.out.cell (World.block_lt_of_cell? w _ hx135_0)).trans hx135_0
                    replace p135 := eq_true p135
                    replace q135 := eq_true q135
                    have p136 : 0 ≤ (1 : Int) := (by omega)
                    have q136 : 1 < (l0.length : Int) := of_decide_eq_true (by first | (with_reducible assumption) | assumption)
                    obtain ⟨ad136, e136, hx136_0⟩ := Kd.at_int HR0.out 1 p136 q136
                    have hw136_0 := hx136_0
                    (try rw [show ((1 : Int)).toNat = 1 from rfl] at hw136_0)
                    (try rw [show 1 * 1 = 1 from rfl] at hw136_0)
                    (try simp only [Nat.reduceMul, Nat.reduceEqDiff, Go.Addr.add, ↓reduceIte] at hw136_0)
                    obtain rfl : ad127 = ad136 := (by injection e136)
                    (try simp only [show (1 : Int).toNat = 1 from rfl, Nat.reduceMul, Nat.reduceEqDiff, Go.Addr.add, ↓reduceIte] at hx136_0)
                    have qi136 : (1 < l0.length) = True := eq_true (by omega)
                    (try rw [show ((1 : Int)).toNat = 1 from rfl] at hx136_0)
                    replace hx136_0 := (HB.out.cell (World.block_lt_of_cell? w _ hx136_0)).trans hx136_0
                    replace p136 := eq_true p136
                    replace q136 := eq_true q136
                    have p137 : 0 ≤ (2 : Int) := (by omega)
                    have q137 : 2 < (l0.length : Int) := of_decide_eq_true (by first | (with_reducible assumption) | assumption)
                    obtain ⟨ad137, e137, hx137_0⟩ := Kd.at_int HR0.out 2 p137 q137
                    have hw137_0 := hx137_0
                    (try rw [show ((2 : Int)).toNat = 2 from rfl] at hw137_0)
                    (try rw [show 2 * 1 = 2 from rfl] at hw137_0)
                    (try simp only [Nat.reduceMul, Nat.reduceEqDiff, Go.Addr.add, ↓reduceIte] at hw137_0)
                    obtain rfl : ad127 = ad137 := (by injection e137)
                    (try simp only [show (2 : Int).toNat = 2 from rfl, Nat.reduceMul, Nat.reduceEqDiff, Go.Addr.add, ↓reduceIte] at hx137_0)
                    have qi137 : (2 < l0.length) = True := eq_true (by omega)
                    (try rw [show ((2 : Int)).toNat = 2 from rfl] at hx137_0)
                    replace hx137_0 := (HB.out.cell (World.block_lt_of_cell? w _ hx137_0)).trans hx137_0
                    replace p137 := eq_true p137
                    replace q137 := eq_true q137
                    have p138 : 0 ≤ (3 : Int) := (by omega)
                    have q138 : 3 < (l0.length : Int) := of_decide_eq_true (by first | (with_reducible assumption) | assumption)
                    obtain ⟨ad138, e138, hx138_0⟩ := Kd.at_int HR0.out 3 p138 q138
                    have hw138_0 := hx138_0
                    (try rw [show ((3 : Int)).toNat = 3 from rfl] at hw138_0)
                    (try rw [show 3 * 1 = 3 from rfl] at hw138_0)
                    (try simp only [Nat.reduceMul, Nat.reduceEqDiff, Go.Addr.add, ↓reduceIte] at hw138_0)
                    obtain rfl : ad127 = ad138 := (by injection e138)
                    (try simp only [show (3 : Int).toNat = 3 from rfl, Nat.reduceMul, Nat.reduceEqDiff, Go.Addr.add, ↓reduceIte] at hx138_0)
                    have qi138 : (3 < l0.length) = True := eq_true (by omega)
                    (try rw [show ((3 : Int)).toNat = 3 from rfl] at hx138_0)
                    replace hx138_0 := (HB.out.cell (World.block_lt_of_cell? w _ hx138_0)).trans hx138_0
                    replace p138 := eq_true p138
                    replace q138 := eq_true q138
                    have p139 : 0 ≤ (4 : Int) := (by omega)
                    have q139 : 4 < (l0.length : Int) := of_decide_eq_true (by first | (with_reducible assumption) | assumption)
                    obtain ⟨ad139, e139, hx139_0⟩ := Kd.at_int HR0.out 4 p139 q139
                    have hw139_0 := hx139_0
                    (try rw [show ((4 : Int)).toNat = 4 from rfl] at hw139_0)
                    (try rw [show 4 * 1 = 4 from rfl] at hw139_0)
                    (try simp only [Nat.reduceMul, Nat.reduceEqDiff, Go.Addr.add, ↓reduceIte] at hw139_0)
                    obtain rfl : ad127 = ad139 := (by injection e139)
                    (try simp only [show (4 : Int).toNat = 4 from rfl, Nat.reduceMul, Nat.reduceEqDiff, Go.Addr.add, ↓reduceIte] at hx139_0)
                    have qi139 : (4 < l0.length) = True := eq_true (by omega)
                    (try rw [show ((4 : Int)).toNat = 4 from rfl] at hx139_0)
                    replace hx139_0 := (HB.out.cell (World.block_lt_of_cell? w _ hx139_0)).trans hx139_0
                    replace p139 := eq_true p139
                    replace q139 := eq_true q139
                    have p140 : 0 ≤ (5 : Int) := (by omega)
                    have q140 : 5 < (l0.length : Int) := of_decide_eq_true (by first | (with_reducible assumption) | assumption)
                    obtain ⟨ad140, e140, hx140_0⟩ := Kd.at_int HR0.out 5 p140 q140
                    have hw140_0 := hx140_0
                    (try rw [show ((5 : Int)).toNat = 5 from rfl] at hw140_0)
                    (try rw [show 5 * 1 = 5 from rfl] at hw140_0)
                    (try simp only [Nat.reduceMul, Nat.reduceEqDiff, Go.Addr.add, ↓reduceIte] at hw140_0)
                    obtain rfl : ad127 = ad140 := (by injection e140)
                    (try simp only [show (5 : Int).toNat = 5 from rfl, Nat.reduceMul, Nat.reduceEqDiff, Go.Addr.add, ↓reduceIte] at hx140_0)
                    have qi140 : (5 < l0.length) = True := eq_true (by omega)
                    (try rw [show ((5 : Int)).toNat = 5 from rfl] at hx140_0)
                    replace hx140_0 := (HB.out.cell (World.block_lt_of_cell? w _ hx140_0)).trans hx140_0
                    replace p140 := eq_true p140
                    replace q140 := eq_true q140
                    have p141 : 0 ≤ (6 : Int) := (by omega)
                    have q141 : 6 < (l0.length : Int) := of_decide_eq_true (by first | (with_reducible assumption) | assumption)
                    obtain ⟨ad141, e141, hx141_0⟩ := Kd.at_int HR0.out 6 p141 q141
                    have hw141_0 := hx141_0
                    (try rw [show ((6 : Int)).toNat = 6 from rfl] at hw141_0)
                    (try rw [show 6 * 1 = 6 from rfl] at hw141_0)
                    (try simp only [Nat.reduceMul, Nat.reduceEqDiff, Go.Addr.add, ↓reduceIte] at hw141_0)
                    obtain rfl : ad127 = ad141 := (by injection e141)
                    (try simp only [show (6 : Int).toNat = 6 from rfl, Nat.reduceMul, Nat.reduceEqDiff, Go.Addr.add, ↓reduceIte] at hx141_0)
                    have qi141 : (6 < l0.length) = True := eq_true (by omega)
                    (try rw [show ((6 : Int)).toNat = 6 from rfl] at hx141_0)
                    replace hx141_0 := (HB.out.cell (World.block_lt_of_cell? w _ hx141_0)).trans hx141_0
                    replace p141 := eq_true p141
                    replace q141 := eq_true q141
                    have p142 : 0 ≤ (7 : Int) := (by omega)
                    have q142 : 7 < (l0.length : Int) := of_decide_eq_true (by first | (with_reducible assumption) | assumption)
                    obtain ⟨ad142, e142, hx142_0⟩ := Kd.at_int HR0.out 7 p142 q142
                    have hw142_0 := hx142_0
                    (try rw [show ((7 : Int)).toNat = 7 from rfl] at hw142_0)
                    (try rw [show 7 * 1 = 7 from rfl] at hw142_0)
                    (try simp only [Nat.reduceMul, Nat.reduceEqDiff, Go.Addr.add, ↓reduceIte] at hw142_0)
                    obtain rfl : ad127 = ad142 := (by injection e142)
                    (try simp only [show (7 : Int).toNat = 7 from rfl, Nat.reduceMul, Nat.reduceEqDiff, Go.Addr.add, ↓reduceIte] at hx142_0)
                    have qi142 : (7 < l0.length) = True := eq_true (by omega)
                    (try rw [show ((7 : Int)).toNat = 7 from rfl] at hx142_0)
                    replace hx142_0 := (HB.out.cell (World.block_lt_of_cell? w _ hx142_0)).trans hx142_0
                    replace p142 := eq_true p142
                    replace q142 := eq_true q142
                    refine start_ (n := 42) (S := fun w' => w'.cell? ad127 = some (.int .u32 (rd l0 0)) ∧ w'.cell? ⟨ad127.block, ad127.off + 1, none⟩ = some (.int .u32 (rd l0 1)) ∧ w'.cell? ⟨ad127.block, ad127.off + 2, none⟩ = some (.int .u32 (rd l0 2)) ∧ w'.cell? ⟨ad127.block, ad127.off + 3, none⟩ = some (.int .u32 (rd l0 3)) ∧ w'.cell? ⟨ad127.block, ad127.off + 4, none⟩ = some (.int .u32 (rd l0 4)) ∧ w'.cell? ⟨ad127.block, ad127.off + 5, none⟩ = some (.int .u32 (rd l0 5)) ∧ w'.cell? ⟨ad127.block, ad127.off + 6, none⟩ = some (.int .u32 (rd l0 6)) ∧ w'.cell? ⟨ad127.block, ad127.off + 7, none⟩ = some (.int .u32 (rd l0 7))) (ds := []) #[Ff,Ff,Ff,Ff,Ff,Ff,Ff,Ff,Ff,Ff,Ff,Ff,Ff,Ff,Ff,Ff,Ff,Ff,Ff,Ff,Ff,Ff,Ff,Ff,Ff,Ff,Ff,Ff,Ff,Ff,Ff,Ff,Ff,Ff,Ff,Ff,Ff,Ff,Ff,Ff,Ff,Ff] (by kernel_rfl) rfl rfl ⟨((HB.out.cell (World.block_lt_of_cell? w _ hw135_0)).trans hw135_0), ((HB.out.cell (World.block_lt_of_cell? w _ hw136_0)).trans hw136_0), ((HB.out.cell (World.block_lt_of_cell? w _ hw137_0)).trans hw137_0), ((HB.out.cell (World.block_lt_of_cell? w _ hw138_0)).trans hw138_0), ((HB.out.cell (World.block_lt_of_cell? w _ hw139_0)).trans hw139_0), ((HB.out.cell (World.block_lt_of_cell? w _ hw140_0)).trans hw140_0), ((HB.out.cell (World.block_lt_of_cell? w _ hw141_0)).trans hw141_0), ((HB.out.cell (World.block_lt_of_cell? w _ hw142_0)).trans hw142_0)⟩ (fun hHeld => ?_); refine with_tabW modcertref01_compress.tab9 modcertref01_compress.bits9 (fun HT_ HW_ => ?_)
                    generalize wr.drew = w37 at HO_5 HO_6 HB hx135_0 hx136_0 hx137_0 hx138_0 hx139_0 hx140_0 hx141_0 hx142_0 hHeld ⊢
                    refine pure_ (i := 0) (N := some 110) (v := ?_) (a' := ?_) #[Tt,Ff,Ff,Ff,Ff,Ff,Ff,Ff,Ff,Ff,Ff,Ff,Ff,Ff,Ff,Ff,Ff,Ff,Ff,Ff,Ff,Ff,Ff,Ff,Ff,Ff,Ff,Ff,Ff,Ff,Ff,Ff,Ff,Ff,Ff,Ff,Ff,Ff,Ff,Ff,Ff,Ff] rfl rfl (any_of HT_.out (by kernel_rfl)) (fun _ _ _ h => h) (Or.inl ⟨by rfl, ?_⟩) ?_ ?_
                    rotate_left
                    ·intro w'
                     go_simp
                     with_reducible rfl
                    rotate_left
                    ·simp only [Act.put, List.setIfInBounds_toArray, List.set_cons_zero, List.set_cons_succ, i64_w, i32_w]
                     rfl
                    refine pure_ (i := 1) (N := some 111) (v := ?_) (a' := ?_) #[Tt,Tt,Ff,Ff,Ff,Ff,Ff,Ff,Ff,Ff,Ff,Ff,Ff,Ff,Ff,Ff,Ff,Ff,Ff,Ff,Ff,Ff,Ff,Ff,Ff,Ff,Ff,Ff,Ff,Ff,Ff,Ff,Ff,Ff,Ff,Ff,Ff,Ff,Ff,Ff,Ff,Ff] rfl rfl (any_of HT_.out (by kernel_rfl)) (fun _ _ _ h => h) (Or.inl ⟨by rfl, ?_⟩) ?_ ?_
                    rotate_left
                    ·intro w'
                     go_simp
                     with_reducible rfl
                    rotate_left
                    ·simp only [Act.put, List.setIfInBounds_toArray, List.set_cons_zero, List.set_cons_succ, i64_w, i32_w]
                     rfl
                    refine pure_ (i := 3) (N := some 113) (v := ?_) (a' := ?_) #[Tt,Tt,Ff,Tt,Ff,Ff,Ff,Ff,Ff,Ff,Ff,Ff,Ff,Ff,Ff,Ff,Ff,Ff,Ff,Ff,Ff,Ff,Ff,Ff,Ff,Ff,Ff,Ff,Ff,Ff,Ff,Ff,Ff,Ff,Ff,Ff,Ff,Ff,Ff,Ff,Ff,Ff] rfl rfl (any_of HT_.out (by kernel_rfl)) (fun _ _ _ h => h) (Or.inl ⟨by rfl, ?_⟩) ?_ ?_
                    rotate_left
                    ·intro w'
                     go_simp
                     with_reducible rfl
                    rotate_left
                    ·simp only [Act.put, List.setIfInBounds_toArray, List.set_cons_zero, List.set_cons_succ, i64_w, i32_w]
                     rfl
                    refine pure_ (i := 5) (N := some 115) (v := ?_) (a' := ?_) #[Tt,Tt,Ff,Tt,Ff,Tt,Ff,Ff,Ff,Ff,Ff,Ff,Ff,Ff,Ff,Ff,Ff,Ff,Ff,Ff,Ff,Ff,Ff,Ff,Ff,Ff,Ff,Ff,Ff,Ff,Ff,Ff,Ff,Ff,Ff,Ff,Ff,Ff,Ff,Ff,Ff,Ff] rfl rfl (any_of HT_.out (by kernel_rfl)) (fun _ _ _ h => h) (Or.inl ⟨by rfl, ?_⟩) ?_ ?_
                    rotate_left
                    ·intro w'
                     go_simp
                     with_reducible rfl
                    rotate_left
                    ·simp only [Act.put, List.setIfInBounds_toArray, List.set_cons_zero, List.set_cons_succ, i64_w, i32_w]
                     rfl
                    refine pure_ (i := 6) (N := some 116) (v := ?_) (a' := ?_) #[Tt,Tt,Ff,Tt,Ff,Tt,Tt,Ff,Ff,Ff,Ff,Ff,Ff,Ff,Ff,Ff,Ff,Ff,Ff,Ff,Ff,Ff,Ff,Ff,Ff,Ff,Ff,Ff,Ff,Ff,Ff,Ff,Ff,Ff,Ff,Ff,Ff,Ff,Ff,Ff,Ff,Ff] rfl rfl (any_of HT_.out (by kernel_rfl)) (fun _ _ _ h => h) (Or.inl ⟨by rfl, ?_⟩) ?_ ?_
                    rotate_left
                    ·intro w'
                     go_simp
                     with_reducible rfl
                    rotate_left
                    ·simp only [Act.put, List.setIfInBounds_toArray, List.set_cons_zero, List.set_cons_succ, i64_w, i32_w]
                     rfl
                    refine pure_ (i := 8) (N := some 118) (v := ?_) (a' := ?_) #[Tt,Tt,Ff,Tt,Ff,Tt,Tt,Ff,Tt,Ff,Ff,Ff,Ff,Ff,Ff,Ff,Ff,Ff,Ff,Ff,Ff,Ff,Ff,Ff,Ff,Ff,Ff,Ff,Ff,Ff,Ff,Ff,Ff,Ff,Ff,Ff,Ff,Ff,Ff,Ff,Ff,Ff] rfl rfl (any_of HT_.out (by kernel_rfl)) (fun _ _ _ h => h) (Or.inl ⟨by rfl, ?_⟩) ?_ ?_
                    rotate_left
                    ·intro w'
                     go_simp
                     with_reducible rfl
                    rotate_left
                    ·simp only [Act.put, List.setIfInBounds_toArray, List.set_cons_zero, List.set_cons_succ, i64_w, i32_w]
                     rfl
                    refine pure_ (i := 10) (N := some 120) (v := ?_) (a' := ?_) #[Tt,Tt,Ff,Tt,Ff,Tt,Tt,Ff,Tt,Ff,Tt,Ff,Ff,Ff,Ff,Ff,Ff,Ff,Ff,Ff,Ff,Ff,Ff,Ff,Ff,Ff,Ff,Ff,Ff,Ff,Ff,Ff,Ff,Ff,Ff,Ff,Ff,Ff,Ff,Ff,Ff,Ff] rfl rfl (any_of HT_.out (by kernel_rfl)) (fun _ _ _ h => h) (Or.inl ⟨by rfl, ?_⟩) ?_ ?_
                    rotate_left
                    ·intro w'
                     go_simp
                     with_reducible rfl
                    rotate_left
                    ·simp only [Act.put, List.setIfInBounds_toArray, List.set_cons_zero, List.set_cons_succ, i64_w, i32_w]
                     rfl
                    refine pure_ (i := 11) (N := some 121) (v := ?_) (a' := ?_) #[Tt,Tt,Ff,Tt,Ff,Tt,Tt,Ff,Tt,Ff,Tt,Tt,Ff,Ff,Ff,Ff,Ff,Ff,Ff,Ff,Ff,Ff,Ff,Ff,Ff,Ff,Ff,Ff,Ff,Ff,Ff,Ff,Ff,Ff,Ff,Ff,Ff,Ff,Ff,Ff,Ff,Ff] rfl rfl (any_of HT_.out (by kernel_rfl)) (fun _ _ _ h => h) (Or.inl ⟨by rfl, ?_⟩) ?_ ?_
                    rotate_left
                    ·intro w'
                     go_simp
                     with_reducible rfl
                    rotate_left
                    ·simp only [Act.put, List.setIfInBounds_toArray, List.set_cons_zero, List.set_cons_succ, i64_w, i32_w]
                     rfl
                    refine pure_ (i := 13) (N := some 123) (v := ?_) (a' := ?_) #[Tt,Tt,Ff,Tt,Ff,Tt,Tt,Ff,Tt,Ff,Tt,Tt,Ff,Tt,Ff,Ff,Ff,Ff,Ff,Ff,Ff,Ff,Ff,Ff,Ff,Ff,Ff,Ff,Ff,Ff,Ff,Ff,Ff,Ff,Ff,Ff,Ff,Ff,Ff,Ff,Ff,Ff] rfl rfl (any_of HT_.out (by kernel_rfl)) (fun _ _ _ h => h) (Or.inl ⟨by rfl, ?_⟩) ?_ ?_
                    rotate_left
                    ·intro w'
                     go_simp
                     with_reducible rfl
                    rotate_left
                    ·simp only [Act.put, List.setIfInBounds_toArray, List.set_cons_zero, List.set_cons_succ, i64_w, i32_w]
                     rfl
                    refine pure_ (i := 15) (N := some 125) (v := ?_) (a' := ?_) #[Tt,Tt,Ff,Tt,Ff,Tt,Tt,Ff,Tt,Ff,Tt,Tt,Ff,Tt,Ff,Tt,Ff,Ff,Ff,Ff,Ff,Ff,Ff,Ff,Ff,Ff,Ff,Ff,Ff,Ff,Ff,Ff,Ff,Ff,Ff,Ff,Ff,Ff,Ff,Ff,Ff,Ff] rfl rfl (any_of HT_.out (by kernel_rfl)) (fun _ _ _ h => h) (Or.inl ⟨by rfl, ?_⟩) ?_ ?_
                    rotate_left
                    ·intro w'
                     go_simp
                     with_reducible rfl
                    rotate_left
                    ·simp only [Act.put, List.setIfInBounds_toArray, List.set_cons_zero, List.set_cons_succ, i64_w, i32_w]
                     rfl
                    refine pure_ (i := 16) (N := some 126) (v := ?_) (a' := ?_) #[Tt,Tt,Ff,Tt,Ff,Tt,Tt,Ff,Tt,Ff,Tt,Tt,Ff,Tt,Ff,Tt,Tt,Ff,Ff,Ff,Ff,Ff,Ff,Ff,Ff,Ff,Ff,Ff,Ff,Ff,Ff,Ff,Ff,Ff,Ff,Ff,Ff,Ff,Ff,Ff,Ff,Ff] rfl rfl (any_of HT_.out (by kernel_rfl)) (fun _ _ _ h => h) (Or.inl ⟨by rfl, ?_⟩) ?_ ?_
                    rotate_left
                    ·intro w'
                     go_simp
                     with_reducible rfl
                    rotate_left
                    ·simp only [Act.put, List.setIfInBounds_toArray, List.set_cons_zero, List.set_cons_succ, i64_w, i32_w]
                     rfl
                    refine pure_ (i := 18) (N := some 128) (v := ?_) (a' := ?_) #[Tt,Tt,Ff,Tt,Ff,Tt,Tt,Ff,Tt,Ff,Tt,Tt,Ff,Tt,Ff,Tt,Tt,Ff,Tt,Ff,Ff,Ff,Ff,Ff,Ff,Ff,Ff,Ff,Ff,Ff,Ff,Ff,Ff,Ff,Ff,Ff,Ff,Ff,Ff,Ff,Ff,Ff] rfl rfl (any_of HT_.out (by kernel_rfl)) (fun _ _ _ h => h) (Or.inl ⟨by rfl, ?_⟩) ?_ ?_
                    rotate_left
                    ·intro w'
                     go_simp
                     with_reducible rfl
                    rotate_left
                    ·simp only [Act.put, List.setIfInBounds_toArray, List.set_cons_zero, List.set_cons_succ, i64_w, i32_w]
                     rfl
                    refine pure_ (i := 20) (N := some 130) (v := ?_) (a' := ?_) #[Tt,Tt,Ff,Tt,Ff,Tt,Tt,Ff,Tt,Ff,Tt,Tt,Ff,Tt,Ff,Tt,Tt,Ff,Tt,Ff,Tt,Ff,Ff,Ff,Ff,Ff,Ff,Ff,Ff,Ff,Ff,Ff,Ff,Ff,Ff,Ff,Ff,Ff,Ff,Ff,Ff,Ff] rfl rfl (any_of HT_.out (by kernel_rfl)) (fun _ _ _ h => h) (Or.inl ⟨by rfl, ?_⟩) ?_ ?_
                    rotate_left
                    ·intro w'
                     go_simp
                     with_reducible rfl
                    rotate_left
                    ·simp only [Act.put, List.setIfInBounds_toArray, List.set_cons_zero, List.set_cons_succ, i64_w, i32_w]
                     rfl
                    refine pure_ (i := 21) (N := some 131) (v := ?_) (a' := ?_) #[Tt,Tt,Ff,Tt,Ff,Tt,Tt,Ff,Tt,Ff,Tt,Tt,Ff,Tt,Ff,Tt,Tt,Ff,Tt,Ff,Tt,Tt,Ff,Ff,Ff,Ff,Ff,Ff,Ff,Ff,Ff,Ff,Ff,Ff,Ff,Ff,Ff,Ff,Ff,Ff,Ff,Ff] rfl rfl (any_of HT_.out (by kernel_rfl)) (fun _ _ _ h => h) (Or.inl ⟨by rfl, ?_⟩) ?_ ?_
                    rotate_left
                    ·intro w'
                     go_simp
                     with_reducible rfl
                    rotate_left
                    ·simp only [Act.put, List.setIfInBounds_toArray, List.set_cons_zero, List.set_cons_succ, i64_w, i32_w]
                     rfl
                    refine pure_ (i := 23) (N := some 133) (v := ?_) (a' := ?_) #[Tt,Tt,Ff,Tt,Ff,Tt,Tt,Ff,Tt,Ff,Tt,Tt,Ff,Tt,Ff,Tt,Tt,Ff,Tt,Ff,Tt,Tt,Ff,Tt,Ff,Ff,Ff,Ff,Ff,Ff,Ff,Ff,Ff,Ff,Ff,Ff,Ff,Ff,Ff,Ff,Ff,Ff] rfl rfl (any_of HT_.out (by kernel_rfl)) (fun _ _ _ h => h) (Or.inl ⟨by rfl, ?_⟩) ?_ ?_
                    rotate_left
                    ·intro w'
                     go_simp
                     with_reducible rfl
                    rotate_left
                    ·simp only [Act.put, List.setIfInBounds_toArray, List.set_cons_zero, List.set_cons_succ, i64_w, i32_w]
                     rfl
                    refine pure_ (i := 25) (N := some 135) (v := ?_) (a' := ?_) #[Tt,Tt,Ff,Tt,Ff,Tt,Tt,Ff,Tt,Ff,Tt,Tt,Ff,Tt,Ff,Tt,Tt,Ff,Tt,Ff,Tt,Tt,Ff,Tt,Ff,Tt,Ff,Ff,Ff,Ff,Ff,Ff,Ff,Ff,Ff,Ff,Ff,Ff,Ff,Ff,Ff,Ff] rfl rfl (any_of HT_.out (by kernel_rfl)) (fun _ _ _ h => h) (Or.inl ⟨by rfl, ?_⟩) ?_ ?_
                    rotate_left
                    ·intro w'
                     go_simp
                     with_reducible rfl
                    rotate_left
                    ·simp only [Act.put, List.setIfInBounds_toArray, List.set_cons_zero, List.set_cons_succ, i64_w, i32_w]
                     rfl
                    refine pure_ (i := 26) (N := some 136) (v := ?_) (a' := ?_) #[Tt,Tt,Ff,Tt,Ff,Tt,Tt,Ff,Tt,Ff,Tt,Tt,Ff,Tt,Ff,Tt,Tt,Ff,Tt,Ff,Tt,Tt,Ff,Tt,Ff,Tt,Tt,Ff,Ff,Ff,Ff,Ff,Ff,Ff,Ff,Ff,Ff,Ff,Ff,Ff,Ff,Ff] rfl rfl (any_of HT_.out (by kernel_rfl)) (fun _ _ _ h => h) (Or.inl ⟨by rfl, ?_⟩) ?_ ?_
                    rotate_left
                    ·intro w'
                     go_simp
                     with_reducible rfl
                    rotate_left
                    ·simp only [Act.put, List.setIfInBounds_toArray, List.set_cons_zero, List.set_cons_succ, i64_w, i32_w]
                     rfl
                    refine pure_ (i := 28) (N := some 138) (v := ?_) (a' := ?_) #[Tt,Tt,Ff,Tt,Ff,Tt,Tt,Ff,Tt,Ff,Tt,Tt,Ff,Tt,Ff,Tt,Tt,Ff,Tt,Ff,Tt,Tt,Ff,Tt,Ff,Tt,Tt,Ff,Tt,Ff,Ff,Ff,Ff,Ff,Ff,Ff,Ff,Ff,Ff,Ff,Ff,Ff] rfl rfl (any_of HT_.out (by kernel_rfl)) (fun _ _ _ h => h) (Or.inl ⟨by rfl, ?_⟩) ?_ ?_
                    rotate_left
                    ·intro w'
                     go_simp
                     with_reducible rfl
                    rotate_left
                    ·simp only [Act.put, List.setIfInBounds_toArray, List.set_cons_zero, List.set_cons_succ, i64_w, i32_w]
                     rfl
                    refine pure_ (i := 30) (N := some 140) (v := ?_) (a' := ?_) #[Tt,Tt,Ff,Tt,Ff,Tt,Tt,Ff,Tt,Ff,Tt,Tt,Ff,Tt,Ff,Tt,Tt,Ff,Tt,Ff,Tt,Tt,Ff,Tt,Ff,Tt,Tt,Ff,Tt,Ff,Tt,Ff,Ff,Ff,Ff,Ff,Ff,Ff,Ff,Ff,Ff,Ff] rfl rfl (any_of HT_.out (by kernel_rfl)) (fun _ _ _ h => h) (Or.inl ⟨by rfl, ?_⟩) ?_ ?_
                    rotate_left
                    ·intro w'
                     go_simp
                     with_reducible rfl
                    rotate_left
                    ·simp only [Act.put, List.setIfInBounds_toArray, List.set_cons_zero, List.set_cons_succ, i64_w, i32_w]
                     rfl
                    refine pure_ (i := 31) (N := some 141) (v := ?_) (a' := ?_) #[Tt,Tt,Ff,Tt,Ff,Tt,Tt,Ff,Tt,Ff,Tt,Tt,Ff,Tt,Ff,Tt,Tt,Ff,Tt,Ff,Tt,Tt,Ff,Tt,Ff,Tt,Tt,Ff,Tt,Ff,Tt,Tt,Ff,Ff,Ff,Ff,Ff,Ff,Ff,Ff,Ff,Ff] rfl rfl (any_of HT_.out (by kernel_rfl)) (fun _ _ _ h => h) (Or.inl ⟨by rfl, ?_⟩) ?_ ?_
                    rotate_left
                    ·intro w'
                     go_simp
                     with_reducible rfl
                    rotate_left
                    ·simp only [Act.put, List.setIfInBounds_toArray, List.set_cons_zero, List.set_cons_succ, i64_w, i32_w]
                     rfl
                    refine pure_ (i := 33) (N := some 143) (v := ?_) (a' := ?_) #[Tt,Tt,Ff,Tt,Ff,Tt,Tt,Ff,Tt,Ff,Tt,Tt,Ff,Tt,Ff,Tt,Tt,Ff,Tt,Ff,Tt,Tt,Ff,Tt,Ff,Tt,Tt,Ff,Tt,Ff,Tt,Tt,Ff,Tt,Ff,Ff,Ff,Ff,Ff,Ff,Ff,Ff] rfl rfl (any_of HT_.out (by kernel_rfl)) (fun _ _ _ h => h) (Or.inl ⟨by rfl, ?_⟩) ?_ ?_
                    rotate_left
                    ·intro w'
                     go_simp
                     with_reducible rfl
                    rotate_left
                    ·simp only [Act.put, List.setIfInBounds_toArray, List.set_cons_zero, List.set_cons_succ, i64_w, i32_w]
                     rfl
                    refine pure_ (i := 35) (N := some 145) (v := ?_) (a' := ?_) #[Tt,Tt,Ff,Tt,Ff,Tt,Tt,Ff,Tt,Ff,Tt,Tt,Ff,Tt,Ff,Tt,Tt,Ff,Tt,Ff,Tt,Tt,Ff,Tt,Ff,Tt,Tt,Ff,Tt,Ff,Tt,Tt,Ff,Tt,Ff,Tt,Ff,Ff,Ff,Ff,Ff,Ff] rfl rfl (any_of HT_.out (by kernel_rfl)) (fun _ _ _ h => h) (Or.inl ⟨by rfl, ?_⟩) ?_ ?_
                    rotate_left
                    ·intro w'
                     go_simp
                     with_reducible rfl
                    rotate_left
                    ·simp only [Act.put, List.setIfInBounds_toArray, List.set_cons_zero, List.set_cons_succ, i64_w, i32_w]
                     rfl
                    refine pure_ (i := 36) (N := some 146) (v := ?_) (a' := ?_) #[Tt,Tt,Ff,Tt,Ff,Tt,Tt,Ff,Tt,Ff,Tt,Tt,Ff,Tt,Ff,Tt,Tt,Ff,Tt,Ff,Tt,Tt,Ff,Tt,Ff,Tt,Tt,Ff,Tt,Ff,Tt,Tt,Ff,Tt,Ff,Tt,Tt,Ff,Ff,Ff,Ff,Ff] rfl rfl (any_of HT_.out (by kernel_rfl)) (fun _ _ _ h => h) (Or.inl ⟨by rfl, ?_⟩) ?_ ?_
                    rotate_left
                    ·intro w'
                     go_simp
                     with_reducible rfl
                    rotate_left
                    ·simp only [Act.put, List.setIfInBounds_toArray, List.set_cons_zero, List.set_cons_succ, i64_w, i32_w]
                     rfl
                    refine pure_ (i := 38) (N := some 148) (v := ?_) (a' := ?_) #[Tt,Tt,Ff,Tt,Ff,Tt,Tt,Ff,Tt,Ff,Tt,Tt,Ff,Tt,Ff,Tt,Tt,Ff,Tt,Ff,Tt,Tt,Ff,Tt,Ff,Tt,Tt,Ff,Tt,Ff,Tt,Tt,Ff,Tt,Ff,Tt,Tt,Ff,Tt,Ff,Ff,Ff] rfl rfl (any_of HT_.out (by kernel_rfl)) (fun _ _ _ h => h) (Or.inl ⟨by rfl, ?_⟩) ?_ ?_
                    rotate_left
                    ·intro w'
                     go_simp
                     with_reducible rfl
                    rotate_left
                    ·simp only [Act.put, List.setIfInBounds_toArray, List.set_cons_zero, List.set_cons_succ, i64_w, i32_w]
                     rfl
                    refine take_ (i := 2) (N := some 112) (v := ?_) (a' := ?_) #[Tt,Tt,Tt,Tt,Ff,Tt,Tt,Ff,Tt,Ff,Tt,Tt,Ff,Tt,Ff,Tt,Tt,Ff,Tt,Ff,Tt,Tt,Ff,Tt,Ff,Tt,Tt,Ff,Tt,Ff,Tt,Tt,Ff,Tt,Ff,Tt,Tt,Ff,Tt,Ff,Ff,Ff] rfl rfl (take_ofW HT_.out HW_.out (by kernel_rfl)) (fun _ _ _ h => h) (Or.inl ⟨by rfl, ?_⟩) hHeld ?_ ?_
                    rotate_left
                    ·rintro w' ⟨s0, s1, s2, s3, s4, s5, s6, s7⟩
                     go_simp
                     with_reducible rfl
                    rotate_left
                    ·simp only [Act.put, List.setIfInBounds_toArray, List.set_cons_zero, List.set_cons_succ, i64_w, i32_w]
                     rfl
                    refine pure_ (i := 4) (N := some 114) (v := ?_) (a' := ?_) #[Tt,Tt,Tt,Tt,Tt,Tt,Tt,Ff,Tt,Ff,Tt,Tt,Ff,Tt,Ff,Tt,Tt,Ff,Tt,Ff,Tt,Tt,Ff,Tt,Ff,Tt,Tt,Ff,Tt,Ff,Tt,Tt,Ff,Tt,Ff,Tt,Tt,Ff,Tt,Ff,Ff,Ff] rfl rfl (any_of HT_.out (by kernel_rfl)) (fun _ _ _ h => h) (Or.inl ⟨by rfl, ?_⟩) ?_ ?_
                    rotate_left
                    ·intro w'
                     go_simp
                     with_reducible rfl
                    rotate_left
                    ·simp only [Act.put, List.setIfInBounds_toArray, List.set_cons_zero, List.set_cons_succ, i64_w, i32_w]
                     rfl
                    refine take_ (i := 7) (N := some 117) (v := ?_) (a' := ?_) #[Tt,Tt,Tt,Tt,Tt,Tt,Tt,Tt,Tt,Ff,Tt,Tt,Ff,Tt,Ff,Tt,Tt,Ff,Tt,Ff,Tt,Tt,Ff,Tt,Ff,Tt,Tt,Ff,Tt,Ff,Tt,Tt,Ff,Tt,Ff,Tt,Tt,Ff,Tt,Ff,Ff,Ff] rfl rfl (take_ofW HT_.out HW_.out (by kernel_rfl)) (fun _ _ _ h => h) (Or.inl ⟨by rfl, ?_⟩) hHeld ?_ ?_
                    rotate_left
                    ·rintro w' ⟨s0, s1, s2, s3, s4, s5, s6, s7⟩
                     go_simp
                     with_reducible rfl
                    rotate_left
                    ·simp only [Act.put, List.setIfInBounds_toArray, List.set_cons_zero, List.set_cons_succ, i64_w, i32_w]
                     rfl
                    refine pure_ (i := 9) (N := some 119) (v := ?_) (a' := ?_) #[Tt,Tt,Tt,Tt,Tt,Tt,Tt,Tt,Tt,Tt,Tt,Tt,Ff,Tt,Ff,Tt,Tt,Ff,Tt,Ff,Tt,Tt,Ff,Tt,Ff,Tt,Tt,Ff,Tt,Ff,Tt,Tt,Ff,Tt,Ff,Tt,Tt,Ff,Tt,Ff,Ff,Ff] rfl rfl (any_of HT_.out (by kernel_rfl)) (fun _ _ _ h => h) (Or.inl ⟨by rfl, ?_⟩) ?_ ?_
                    rotate_left
                    ·intro w'
                     go_simp
                     with_reducible rfl
                    rotate_left
                    ·simp only [Act.put, List.setIfInBounds_toArray, List.set_cons_zero, List.set_cons_succ, i64_w, i32_w]
                     rfl
                    refine take_ (i := 12) (N := some 122) (v := ?_) (a' := ?_) #[Tt,Tt,Tt,Tt,Tt,Tt,Tt,Tt,Tt,Tt,Tt,Tt,Tt,Tt,Ff,Tt,Tt,Ff,Tt,Ff,Tt,Tt,Ff,Tt,Ff,Tt,Tt,Ff,Tt,Ff,Tt,Tt,Ff,Tt,Ff,Tt,Tt,Ff,Tt,Ff,Ff,Ff] rfl rfl (take_ofW HT_.out HW_.out (by kernel_rfl)) (fun _ _ _ h => h) (Or.inl ⟨by rfl, ?_⟩) hHeld ?_ ?_
                    rotate_left
                    ·rintro w' ⟨s0, s1, s2, s3, s4, s5, s6, s7⟩
                     go_simp
                     with_reducible rfl
                    rotate_left
                    ·simp only [Act.put, List.setIfInBounds_toArray, List.set_cons_zero, List.set_cons_succ, i64_w, i32_w]
                     rfl
                    refine pure_ (i := 14) (N := some 124) (v := ?_) (a' := ?_) #[Tt,Tt,Tt,Tt,Tt,Tt,Tt,Tt,Tt,Tt,Tt,Tt,Tt,Tt,Tt,Tt,Tt,Ff,Tt,Ff,Tt,Tt,Ff,Tt,Ff,Tt,Tt,Ff,Tt,Ff,Tt,Tt,Ff,Tt,Ff,Tt,Tt,Ff,Tt,Ff,Ff,Ff] rfl rfl (any_of HT_.out (by kernel_rfl)) (fun _ _ _ h => h) (Or.inl ⟨by rfl, ?_⟩) ?_ ?_
                    rotate_left
                    ·intro w'
                     go_simp
                     with_reducible rfl
                    rotate_left
                    ·simp only [Act.put, List.setIfInBounds_toArray, List.set_cons_zero, List.set_cons_succ, i64_w, i32_w]
                     rfl
                    refine take_ (i := 17) (N := some 127) (v := ?_) (a' := ?_) #[Tt,Tt,Tt,Tt,Tt,Tt,Tt,Tt,Tt,Tt,Tt,Tt,Tt,Tt,Tt,Tt,Tt,Tt,Tt,Ff,Tt,Tt,Ff,Tt,Ff,Tt,Tt,Ff,Tt,Ff,Tt,Tt,Ff,Tt,Ff,Tt,Tt,Ff,Tt,Ff,Ff,Ff] rfl rfl (take_ofW HT_.out HW_.out (by kernel_rfl)) (fun _ _ _ h => h) (Or.inl ⟨by rfl, ?_⟩) hHeld ?_ ?_
                    rotate_left
                    ·rintro w' ⟨s0, s1, s2, s3, s4, s5, s6, s7⟩
                     go_simp
                     with_reducible rfl
                    rotate_left
                    ·simp only [Act.put, List.setIfInBounds_toArray, List.set_cons_zero, List.set_cons_succ, i64_w, i32_w]
                     rfl
                    refine pure_ (i := 19) (N := some 129) (v := ?_) (a' := ?_) #[Tt,Tt,Tt,Tt,Tt,Tt,Tt,Tt,Tt,Tt,Tt,Tt,Tt,Tt,Tt,Tt,Tt,Tt,Tt,Tt,Tt,Tt,Ff,Tt,Ff,Tt,Tt,Ff,Tt,Ff,Tt,Tt,Ff,Tt,Ff,Tt,Tt,Ff,Tt,Ff,Ff,Ff] rfl rfl (any_of HT_.out (by kernel_rfl)) (fun _ _ _ h => h) (Or.inl ⟨by rfl, ?_⟩) ?_ ?_
                    rotate_left
                    ·intro w'
                     go_simp
                     with_reducible rfl
                    rotate_left
                    ·simp only [Act.put, List.setIfInBounds_toArray, List.set_cons_zero, List.set_cons_succ, i64_w, i32_w]
                     rfl
                    refine take_ (i := 22) (N := some 132) (v := ?_) (a' := ?_) #[Tt,Tt,Tt,Tt,Tt,Tt,Tt,Tt,Tt,Tt,Tt,Tt,Tt,Tt,Tt,Tt,Tt,Tt,Tt,Tt,Tt,Tt,Tt,Tt,Ff,Tt,Tt,Ff,Tt,Ff,Tt,Tt,Ff,Tt,Ff,Tt,Tt,Ff,Tt,Ff,Ff,Ff] rfl rfl (take_ofW HT_.out HW_.out (by kernel_rfl)) (fun _ _ _ h => h) (Or.inl ⟨by rfl, ?_⟩) hHeld ?_ ?_
                    rotate_left
                    ·rintro w' ⟨s0, s1, s2, s3, s4, s5, s6, s7⟩
                     go_simp
                     with_reducible rfl
                    rotate_left
                    ·simp only [Act.put, List.setIfInBounds_toArray, List.set_cons_zero, List.set_cons_succ, i64_w, i32_w]
                     rfl
                    refine pure_ (i := 24) (N := some 134) (v := ?_) (a' := ?_) #[Tt,Tt,Tt,Tt,Tt,Tt,Tt,Tt,Tt,Tt,Tt,Tt,Tt,Tt,Tt,Tt,Tt,Tt,Tt,Tt,Tt,Tt,Tt,Tt,Tt,Tt,Tt,Ff,Tt,Ff,Tt,Tt,Ff,Tt,Ff,Tt,Tt,Ff,Tt,Ff,Ff,Ff] rfl rfl (any_of HT_.out (by kernel_rfl)) (fun _ _ _ h => h) (Or.inl ⟨by rfl, ?_⟩) ?_ ?_
                    rotate_left
                    ·intro w'
                     go_simp
                     with_reducible rfl
                    rotate_left
                    ·simp only [Act.put, List.setIfInBounds_toArray, List.set_cons_zero, List.set_cons_succ, i64_w, i32_w]
                     rfl
                    refine take_ (i := 27) (N := some 137) (v := ?_) (a' := ?_) #[Tt,Tt,Tt,Tt,Tt,Tt,Tt,Tt,Tt,Tt,Tt,Tt,Tt,Tt,Tt,Tt,Tt,Tt,Tt,Tt,Tt,Tt,Tt,Tt,Tt,Tt,Tt,Tt,Tt,Ff,Tt,Tt,Ff,Tt,Ff,Tt,Tt,Ff,Tt,Ff,Ff,Ff] rfl rfl (take_ofW HT_.out HW_.out (by kernel_rfl)) (fun _ _ _ h => h) (Or.inl ⟨by rfl, ?_⟩) hHeld ?_ ?_
                    rotate_left
                    ·rintro w' ⟨s0, s1, s2, s3, s4, s5, s6, s7⟩
                     go_simp
                     with_reducible rfl
                    rotate_left
                    ·simp only [Act.put, List.setIfInBounds_toArray, List.set_cons_zero, List.set_cons_succ, i64_w, i32_w]
                     rfl
                    refine pure_ (i := 29) (N := some 139) (v := ?_) (a' := ?_) #[Tt,Tt,Tt,Tt,Tt,Tt,Tt,Tt,Tt,Tt,Tt,Tt,Tt,Tt,Tt,Tt,Tt,Tt,Tt,Tt,Tt,Tt,Tt,Tt,Tt,Tt,Tt,Tt,Tt,Tt,Tt,Tt,Ff,Tt,Ff,Tt,Tt,Ff,Tt,Ff,Ff,Ff] rfl rfl (any_of HT_.out (by kernel_rfl)) (fun _ _ _ h => h) (Or.inl ⟨by rfl, ?_⟩) ?_ ?_
                    rotate_left
                    ·intro w'
                     go_simp
                     with_reducible rfl
                    rotate_left
                    ·simp only [Act.put, List.setIfInBounds_toArray, List.set_cons_zero, List.set_cons_succ, i64_w, i32_w]
                     rfl
                    refine take_ (i := 32) (N := some 142) (v := ?_) (a' := ?_) #[Tt,Tt,Tt,Tt,Tt,Tt,Tt,Tt,Tt,Tt,Tt,Tt,Tt,Tt,Tt,Tt,Tt,Tt,Tt,Tt,Tt,Tt,Tt,Tt,Tt,Tt,Tt,Tt,Tt,Tt,Tt,Tt,Tt,Tt,Ff,Tt,Tt,Ff,Tt,Ff,Ff,Ff] rfl rfl (take_ofW HT_.out HW_.out (by kernel_rfl)) (fun _ _ _ h => h) (Or.inl ⟨by rfl, ?_⟩) hHeld ?_ ?_
                    rotate_left
                    ·rintro w' ⟨s0, s1, s2, s3, s4, s5, s6, s7⟩
                     go_simp
                     with_reducible rfl
                    rotate_left
                    ·simp only [Act.put, List.setIfInBounds_toArray, List.set_cons_zero, List.set_cons_succ, i64_w, i32_w]
                     rfl
                    refine pure_ (i := 34) (N := some 144) (v := ?_) (a' := ?_) #[Tt,Tt,Tt,Tt,Tt,Tt,Tt,Tt,Tt,Tt,Tt,Tt,Tt,Tt,Tt,Tt,Tt,Tt,Tt,Tt,Tt,Tt,Tt,Tt,Tt,Tt,Tt,Tt,Tt,Tt,Tt,Tt,Tt,Tt,Tt,Tt,Tt,Ff,Tt,Ff,Ff,Ff] rfl rfl (any_of HT_.out (by kernel_rfl)) (fun _ _ _ h => h) (Or.inl ⟨by rfl, ?_⟩) ?_ ?_
                    rotate_left
                    ·intro w'
                     go_simp
                     with_reducible rfl
                    rotate_left
                    ·simp only [Act.put, List.setIfInBounds_toArray, List.set_cons_zero, List.set_cons_succ, i64_w, i32_w]
                     rfl
                    refine take_ (i := 37) (N := some 147) (v := ?_) (a' := ?_) #[Tt,Tt,Tt,Tt,Tt,Tt,Tt,Tt,Tt,Tt,Tt,Tt,Tt,Tt,Tt,Tt,Tt,Tt,Tt,Tt,Tt,Tt,Tt,Tt,Tt,Tt,Tt,Tt,Tt,Tt,Tt,Tt,Tt,Tt,Tt,Tt,Tt,Tt,Tt,Ff,Ff,Ff] rfl rfl (take_ofW HT_.out HW_.out (by kernel_rfl)) (fun _ _ _ h => h) (Or.inl ⟨by rfl, ?_⟩) hHeld ?_ ?_
                    rotate_left
                    ·rintro w' ⟨s0, s1, s2, s3, s4, s5, s6, s7⟩
                     go_simp
                     with_reducible rfl
                    rotate_left
                    ·simp only [Act.put, List.setIfInBounds_toArray, List.set_cons_zero, List.set_cons_succ, i64_w, i32_w]
                     rfl
                    refine pure_ (i := 39) (N := some 149) (v := ?_) (a' := ?_) #[Tt,Tt,Tt,Tt,Tt,Tt,Tt,Tt,Tt,Tt,Tt,Tt,Tt,Tt,Tt,Tt,Tt,Tt,Tt,Tt,Tt,Tt,Tt,Tt,Tt,Tt,Tt,Tt,Tt,Tt,Tt,Tt,Tt,Tt,Tt,Tt,Tt,Tt,Tt,Tt,Ff,Ff] rfl rfl (any_of HT_.out (by kernel_rfl)) (fun _ _ _ h => h) (Or.inl ⟨by rfl, ?_⟩) ?_ ?_
                    rotate_left
                    ·intro w'
                     go_simp
                     with_reducible rfl
                    rotate_left
                    ·simp only [Act.put, List.setIfInBounds_toArray, List.set_cons_zero, List.set_cons_succ, i64_w, i32_w]
                     rfl
                    refine one_ (i := 40) (N := some 150) #[Tt,Tt,Tt,Tt,Tt,Tt,Tt,Tt,Tt,Tt,Tt,Tt,Tt,Tt,Tt,Tt,Tt,Tt,Tt,Tt,Tt,Tt,Tt,Tt,Tt,Tt,Tt,Tt,Tt,Tt,Tt,Tt,Tt,Tt,Tt,Tt,Tt,Tt,Tt,Tt,Tt,Ff] rfl rfl (one_of HT_.out (by kernel_rfl)) (by decide) (fun K hK => ?_)
                    refine Kd.R_lit_step (Kd.int .u32) _ 124 ?hg (N := 150) ?hd (xs := ([((rd l0 0) + x7_1) % 4294967296, ((rd l0 1) + x8_1) % 4294967296, ((rd l0 2) + x9_1) % 4294967296, ((rd l0 3) + x10_1) % 4294967296, ((rd l0 4) + x11_1) % 4294967296, ((rd l0 5) + x12_1) % 4294967296, ((rd l0 6) + x13_1) % 4294967296, ((rd l0 7) + x14_1) % 4294967296] : List Int)) (inner := [.int .u32 (((rd l0 0) + x7_1) % 4294967296), .int .u32 (((rd l0 1) + x8_1) % 4294967296), .int .u32 (((rd l0 2) + x9_1) % 4294967296), .int .u32 (((rd l0 3) + x10_1) % 4294967296), .int .u32 (((rd l0 4) + x11_1) % 4294967296), .int .u32 (((rd l0 5) + x12_1) % 4294967296), .int .u32 (((rd l0 6) + x13_1) % 4294967296), .int .u32 (((rd l0 7) + x14_1) % 4294967296)]) (ok := fun _ => True) (okp := fun _ => True) ?hr ?hp (fun _ hk => hk) trivial (Below.refl _ _) (Nat.le_refl _) (by simp) ?_; (case hd => rfl); (case hg => rfl); (case hr => first | (go_simp; done) | (go_simp; rfl)); (case hp => exact (Reps.one (show Kd.M (Kd.int .u32) _ _ _ (((rd l0 0) + x7_1) % 4294967296) [.int .u32 (((rd l0 0) + x7_1) % 4294967296)] from rfl) (Reps.one (show Kd.M (Kd.int .u32) _ _ _ (((rd l0 1) + x8_1) % 4294967296) [.int .u32 (((rd l0 1) + x8_1) % 4294967296)] from rfl) (Reps.one (show Kd.M (Kd.int .u32) _ _ _ (((rd l0 2) + x9_1) % 4294967296) [.int .u32 (((rd l0 2) + x9_1) % 4294967296)] from rfl) (Reps.one (show Kd.M (Kd.int .u32) _ _ _ (((rd l0 3) + x10_1) % 4294967296) [.int .u32 (((rd l0 3) + x10_1) % 4294967296)] from rfl) (Reps.one (show Kd.M (Kd.int .u32) _ _ _ (((rd l0 4) + x11_1) % 4294967296) [.int .u32 (((rd l0 4) + x11_1) % 4294967296)] from rfl) (Reps.one (show Kd.M (Kd.int .u32) _ _ _ (((rd l0 5) + x12_1) % 4294967296) [.int .u32 (((rd l0 5) + x12_1) % 4294967296)] from rfl) (Reps.one (show Kd.M (Kd.int .u32) _ _ _ (((rd l0 6) + x13_1) % 4294967296) [.int .u32 (((rd l0 6) + x13_1) % 4294967296)] from rfl) (Reps.one (show Kd.M (Kd.int .u32) _ _ _ (((rd l0 7) + x14_1) % 4294967296) [.int .u32 (((rd l0 7) + x14_1) % 4294967296)] from rfl) (Reps.none _ _))))))))))
                    intro v144 w38 ho39 hb hg_ hnew_
                    clear hg_ hnew_
                    (first | rw [← Ny143.out] at ho39 | (simp only [Int.reduceToNat] at ho39; rw [← Ny143.out] at ho39))
                    have n0_ := Aside0.mk (Kd.R_elder' (by (with_reducible repeat (first | apply Kd.R_alloc | apply Kd.R_drewN | apply Kd.R_drew)); exact HO_5.out) (Kd.R_base ho39) hb)
                    have n1_ := Aside0.mk (Kd.R_elder' (by (with_reducible repeat (first | apply Kd.R_alloc | apply Kd.R_drewN | apply Kd.R_drew)); exact HO_6.out) (Kd.R_base ho39) hb)
                    have n2_ := Aside0.mk (Kd.R_lower (Kd.R_new' (Kd.R_new' ho39 (Kd.R_lt (by (with_reducible repeat (first | apply Kd.R_alloc | apply Kd.R_drewN | apply Kd.R_drew)); exact HO_5.out))) (Kd.R_lt (by (with_reducible repeat (first | apply Kd.R_alloc | apply Kd.R_drewN | apply Kd.R_drew)); exact HO_6.out))) (below_size (by repeat (first | (with_reducible first | exact HB.out | apply below_alloc | apply pw_below_drewN | apply below_drew1) | exact HB.out))))
                    have n3_ := Aside0.mk (below_step (by repeat (first | (with_reducible first | exact HB.out | apply below_alloc | apply pw_below_drewN | apply below_drew1) | exact HB.out)) hb)
                    clear HO_5
                    clear HO_6
                    clear HB
                    have HO_5 := n0_
                    have HO_6 := n1_
                    have HO145 := n2_
                    have HB := n3_
                    clear n0_ n1_ n2_ n3_
                    clear hb ho39
                    refine hK.out _ _ ⟨((HB.out.cell (World.block_lt_of_cell? w _ hw135_0)).trans hw135_0), ((HB.out.cell (World.block_lt_of_cell? w _ hw136_0)).trans hw136_0), ((HB.out.cell (World.block_lt_of_cell? w _ hw137_0)).trans hw137_0), ((HB.out.cell (World.block_lt_of_cell? w _ hw138_0)).trans hw138_0), ((HB.out.cell (World.block_lt_of_cell? w _ hw139_0)).trans hw139_0), ((HB.out.cell (World.block_lt_of_cell? w _ hw140_0)).trans hw140_0), ((HB.out.cell (World.block_lt_of_cell? w _ hw141_0)).trans hw141_0), ((HB.out.cell (World.block_lt_of_cell? w _ hw142_0)).trans hw142_0)⟩ (fun hHeld => ?_)
                    clear hK K
                    refine norm_ (a' := ?_) ?_ ?_
                    rotate_left
                    ·show Act.put _ (some 150) _ = _
                     simp only [Act.put, List.setIfInBounds_toArray, List.set_cons_zero, List.set_cons_succ, i64_w, i32_w]
                     rfl
                    refine pure_ (i := 41) (N := some 4) (v := ?_) (a' := ?_) #[Tt,Tt,Tt,Tt,Tt,Tt,Tt,Tt,Tt,Tt,Tt,Tt,Tt,Tt,Tt,Tt,Tt,Tt,Tt,Tt,Tt,Tt,Tt,Tt,Tt,Tt,Tt,Tt,Tt,Tt,Tt,Tt,Tt,Tt,Tt,Tt,Tt,Tt,Tt,Tt,Tt,Tt] rfl rfl (any_of HT_.out (by kernel_rfl)) (fun _ _ _ h => h) (Or.inl ⟨by rfl, ?_⟩) ?_ ?_
                    rotate_left
                    ·intro w'
                     go_simp
                     with_reducible rfl
                    rotate_left
                    ·simp only [Act.put, List.setIfInBounds_toArray, List.set_cons_zero, List.set_cons_succ, i64_w, i32_w]
                     rfl
                    refine done_ (done_of HT_.out (by kernel_rfl)) ?_
                    try go_wp2
                    go_ret
                    exact ⟨_, by first | rfl | (simp [errW_none, errW_some] <;> rfl) | (simp [*, errW_none, errW_some] <;> rfl), by (with_reducible repeat (first | apply Kd.R_alloc | apply Kd.R_drewN | apply Kd.R_drew)); exact Kd.R_mono HO145.out (fun _ hk => trivial), by repeat (first | (with_reducible first | exact HB.out | apply below_alloc | apply pw_below_drewN | apply below_drew1) | exact HB.out)⟩
                   ·rw [if_neg c36] at H
                    exact absurd H (by simp)
                  ·rw [if_neg c35] at H
                   exact absurd H (by simp)
                 ·rw [if_neg c34] at H
                  exact absurd H (by simp)
                ·rw [if_neg c33] at H
                 exact absurd H (by simp)
               ·rw [if_neg c32] at H
                exact absurd H (by simp)
              ·rw [if_neg c31] at H
               exact absurd H (by simp)
             ·rw [if_neg c30] at H
              exact absurd H (by simp)
            ·rw [if_neg c29] at H
             exact absurd H (by simp)
        ·rw [if_neg c12] at H
         exact absurd H (by simp)
       ·rw [if_neg c11] at H
        exact absurd H (by simp)
      ·rw [if_neg c10] at H
       exact absurd H (by simp)
     ·rw [if_neg c9] at H
      exact absurd H (by simp)
    ·rw [if_neg c8] at H
     exact absurd H (by simp)
   ·rw [if_neg c7] at H
    exact absurd H (by simp)
  ·rw [if_neg c6] at H
   exact absurd H (by simp)
 ·rw [if_neg c5] at H
  exact absurd H (by simp)
end Go.Proofs.YtpmjipokkkkljaaDoor.Pg
