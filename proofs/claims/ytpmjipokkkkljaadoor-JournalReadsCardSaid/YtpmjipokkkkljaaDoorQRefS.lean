/-
  Part of the proof of cd_card: the lemmas of RefS that it uses.
-/
import Derived.Test.YtpmjipokkkkljaaDoorQSums
import Derived.Test.YtpmjipokkkkljaaDoorQPg4
import Derived.Test.YtpmjipokkkkljaaDoorQPg5
namespace Go.Proofs.YtpmjipokkkkljaaDoor
set_option linter.all false
set_option linter.unusedVariables false
set_option linter.unusedSimpArgs false
open Go.RowKit Go.Proofs.YtpmjipokkkkljaaDoorW.PrintWords Go.Proofs.YtpmjipokkkkljaaDoorW.PrintLast Go.Proofs.YtpmjipokkkkljaaDoorW.PrintMore Go.Proofs.YtpmjipokkkkljaaDoor.Pg
theorem or_comm32 (x y : Int) : Go.bits .or .u32 x y = Go.bits .or .u32 y x := by
  simp only [Go.bits]
  rw [BitVec.or_comm]
theorem rotr_f (x m : Int) (n : Nat) (hm : m = n) (h0 : 1 ≤ n) (h1 : n ≤ 31) : modcertref01_rotr.f x m = some (rr x n) := by
  subst hm
  have e : wrap64 (32 - (n : Int)) = ((32 - n : Nat) : Int) := by unfold wrap64; omega
  unfold modcertref01_rotr.f
  rw [if_pos (by omega), e, if_pos (by omega), or_comm32]
  unfold shr shl rr
  have b1 : min (n : Int).toNat IntKind.u32.bits = n := by show min n 32 = n; omega
  have b2 : min ((32 - n : Nat) : Int).toNat IntKind.u32.bits = 32 - n := by show min (32 - n) 32 = _; omega
  rw [b1, b2]
  rfl
theorem wraps_u32 (n : Int) (h0 : 0 ≤ n) (h1 : n < 2 ^ 32) : IntKind.u32.wrap n = n := by rw [show IntKind.u32.wrap n = n % 4294967296 by simp [IntKind.wrap, IntKind.bits, IntKind.signed]]; omega
theorem wrap32 (n : Int) : IntKind.u32.wrap n = n % 4294967296 := by simp [IntKind.wrap, IntKind.bits, IntKind.signed]
theorem join32 (i : Nat) (x y : Int) (hx0 : 0 ≤ x) (hx : x % 2 ^ i = 0) (hx1 : x < 2 ^ 32) (hy0 : 0 ≤ y) (hy : y < 2 ^ i) (hy1 : y < 2 ^ 32) : Go.bits .or .u32 x y = x + y :=
  bits_join .u32 32 (by decide) wraps_u32 i x y hx0 hx hx1 hy0 hy hy1
theorem or_zero32 (y : Int) (h0 : 0 ≤ y) (h1 : y < 2 ^ 32) : Go.bits .or .u32 0 y = y := by
  have := join32 32 0 y (by omega) (by omega) (by omega) h0 h1 h1
  omega
theorem wk_sum (s : ByteArray) (j : Nat) : wk s j 4 = bt s (4 * j + 0 : Nat) * 16777216 + bt s (4 * j + 1 : Nat) * 65536 + bt s (4 * j + 2 : Nat) * 256 + bt s (4 * j + 3 : Nat) := by
  have r0 := bt_range s (4 * j + 0 : Nat); have r1 := bt_range s (4 * j + 1 : Nat); have r2 := bt_range s (4 * j + 2 : Nat); have r3 := bt_range s (4 * j + 3 : Nat)
  simp only [wk]
  generalize bt s (4 * j + 0 : Nat) = a at *
  generalize bt s (4 * j + 1 : Nat) = b at *
  generalize bt s (4 * j + 2 : Nat) = c at *
  generalize bt s (4 * j + 3 : Nat) = d at *
  simp only [wrap32]
  rw [show (0 : Int) * 256 % 4294967296 = 0 by decide, show a % 4294967296 = a by omega, or_zero32 a (by omega) (by omega)]
  rw [show a * 256 % 4294967296 = a * 256 by omega, show b % 4294967296 = b by omega, join32 8 (a * 256) b (by omega) (by omega) (by omega) (by omega) (by omega) (by omega)]
  rw [show (a * 256 + b) * 256 % 4294967296 = (a * 256 + b) * 256 by omega, show c % 4294967296 = c by omega, join32 8 ((a * 256 + b) * 256) c (by omega) (by omega) (by omega) (by omega) (by omega) (by omega)]
  rw [show ((a * 256 + b) * 256 + c) * 256 % 4294967296 = ((a * 256 + b) * 256 + c) * 256 by omega, show d % 4294967296 = d by omega, join32 8 (((a * 256 + b) * 256 + c) * 256) d (by omega) (by omega) (by omega) (by omega) (by omega) (by omega)]
  omega
theorem word_sum (a b c d : Int) (ra : 0 ≤ a ∧ a ≤ 255) (rb : 0 ≤ b ∧ b ≤ 255) (rc : 0 ≤ c ∧ c ≤ 255) (rd : 0 ≤ d ∧ d ≤ 255) :
    Go.bits .or .u32 (Go.bits .or .u32 (Go.bits .or .u32 ((((a) % 4294967296) * 16777216) % 4294967296) ((((b) % 4294967296) * 65536) % 4294967296)) ((((c) % 4294967296) * 256) % 4294967296)) ((d) % 4294967296) = a * 16777216 + b * 65536 + c * 256 + d := by
  rw [show a % 4294967296 * 16777216 % 4294967296 = a * 16777216 by omega, show b % 4294967296 * 65536 % 4294967296 = b * 65536 by omega, show c % 4294967296 * 256 % 4294967296 = c * 256 by omega, show d % 4294967296 = d by omega]
  rw [join32 24 (a * 16777216) (b * 65536) (by omega) (by omega) (by omega) (by omega) (by omega) (by omega), join32 16 (a * 16777216 + b * 65536) (c * 256) (by omega) (by omega) (by omega) (by omega) (by omega) (by omega),
    join32 8 (a * 16777216 + b * 65536 + c * 256) d (by omega) (by omega) (by omega) (by omega) (by omega) (by omega)]
theorem sched_l1 (s : ByteArray) (S : List Int) (hS : sched s 64 = S) (m : Nat) : ∀ (i k : Nat), i + m = 64 → 16 ≤ i → m < k → modcertref01_schedule.l1 k (sched s i) i = some S := by
  induction m with
  | zero =>
    intro i k h h16 hk
    obtain ⟨k, rfl⟩ : ∃ n, k = n + 1 := ⟨k - 1, by omega⟩
    obtain rfl : i = 64 := by omega
    rw [modcertref01_schedule.l1, if_neg (by decide), hS]
  | succ m ih =>
    clear hS
    intro i k h h16 hk
    obtain ⟨k, rfl⟩ : ∃ n, k = n + 1 := ⟨k - 1, by omega⟩
    have e2 : wrap64 ((i : Int) - 2) = ((i - 2 : Nat) : Int) := by unfold wrap64; omega
    have e7 : wrap64 ((i : Int) - 7) = ((i - 7 : Nat) : Int) := by unfold wrap64; omega
    have e15 : wrap64 ((i : Int) - 15) = ((i - 15 : Nat) : Int) := by unfold wrap64; omega
    have e16 : wrap64 ((i : Int) - 16) = ((i - 16 : Nat) : Int) := by unfold wrap64; omega
    have e1 : wrap64 ((i : Int) + 1) = ((i + 1 : Nat) : Int) := by unfold wrap64; omega
    have hl := sched_len s i
    rw [modcertref01_schedule.l1, e2, e7, e15, e16, e1, hl]
    clear e2 e7 e15 e16 e1
    rw [if_pos (by omega), if_pos (by omega), if_pos (by omega), if_pos (by omega), if_pos (by omega)]
    rw [rotr_f _ 7 7 rfl (by omega) (by omega), rotr_f _ 18 18 rfl (by omega) (by omega), rotr_f _ 17 17 rfl (by omega) (by omega), rotr_f _ 19 19 rfl (by omega) (by omega)]
    simp only [Option.bind_some]
    rw [if_pos (by omega), if_pos (by omega), if_pos (by omega), if_pos (by omega), if_pos (by omega)]
    have : sched s (i + 1) = sched s i ++ [schedNext (sched s i) i] := by rw [sched, if_neg (by omega)]
    rw [← ih (i + 1) k (by omega) (by omega) (by omega), this]
    congr 2
theorem sched_l0 (s : ByteArray) (hs : s.size = 64) : ∀ (m j k : Nat), j + m = 16 → m + 50 < k → modcertref01_schedule.l0 k s (sched s j) (4 * j : Nat) = some (sched s 64)
  | 0, j, k, h, hk => by
    obtain ⟨k, rfl⟩ : ∃ n, k = n + 1 := ⟨k - 1, by omega⟩
    obtain rfl : j = 16 := by omega
    rw [modcertref01_schedule.l0, if_neg (by decide)]
    exact sched_l1 s _ rfl 48 16 k (by omega) (by omega) (by omega)
  | m + 1, j, k, h, hk => by
    obtain ⟨k, rfl⟩ : ∃ n, k = n + 1 := ⟨k - 1, by omega⟩
    have e1 : wrap64 (((4 * j : Nat) : Int) + 1) = ((4 * j + 1 : Nat) : Int) := by unfold wrap64; omega
    have e2 : wrap64 (((4 * j : Nat) : Int) + 2) = ((4 * j + 2 : Nat) : Int) := by unfold wrap64; omega
    have e3 : wrap64 (((4 * j : Nat) : Int) + 3) = ((4 * j + 3 : Nat) : Int) := by unfold wrap64; omega
    have e4 : wrap64 (((4 * j : Nat) : Int) + 4) = ((4 * (j + 1) : Nat) : Int) := by unfold wrap64; omega
    have hl := sched_len s j
    rw [modcertref01_schedule.l0, if_pos (by omega), e1, e2, e3, e4, if_pos (by omega), if_pos (by omega), if_pos (by omega), if_pos (by omega), if_pos (by omega), if_pos (by omega), if_pos (by omega), if_pos (by omega), if_pos (by omega)]
    rw [word_sum _ _ _ _ (bt_range _ _) (bt_range _ _) (bt_range _ _) (bt_range _ _)]
    rw [← sched_l0 s hs m (j + 1) k (by omega) (by omega)]
    have : sched s (j + 1) = sched s j ++ [wk s j 4] := by rw [sched, if_pos (by omega)]
    rw [this, wk_sum]
    rfl
theorem sched_f (s : ByteArray) (hs : s.size = 64) (k : Nat) (hk : 70 ≤ k) : modcertref01_schedule.f k s = some (sched s 64) := sched_l0 s hs 16 0 k (by omega) (by omega)
theorem const_f : modcertref01_constants.f = some kList := rfl
theorem addUp_ref (xs v : List Int) : addUp xs v 8 = [((rd xs 0) + v.getD 0 0) % 4294967296, ((rd xs 1) + v.getD 1 0) % 4294967296, ((rd xs 2) + v.getD 2 0) % 4294967296, ((rd xs 3) + v.getD 3 0) % 4294967296, ((rd xs 4) + v.getD 4 0) % 4294967296, ((rd xs 5) + v.getD 5 0) % 4294967296, ((rd xs 6) + v.getD 6 0) % 4294967296, ((rd xs 7) + v.getD 7 0) % 4294967296] := by
  unfold addUp rd
  simp only [List.range_succ, List.range_zero, List.nil_append, List.map_append, List.map_cons, List.map_nil, List.cons_append, wrap32]
  rfl
theorem comp_l0 (xs W : List Int) (hx : xs.length = 8) (hW : W.length = 64) : ∀ (m i k : Nat), i + m = 64 → m < k →
    modcertref01_compress.l0 k xs W kList ((stV W xs i).getD 0 0) ((stV W xs i).getD 1 0) ((stV W xs i).getD 2 0) ((stV W xs i).getD 3 0) ((stV W xs i).getD 4 0) ((stV W xs i).getD 5 0) ((stV W xs i).getD 6 0) ((stV W xs i).getD 7 0) i = some (addUp xs (stV W xs 64) 8)
  | 0, i, k, h, hk => by
    obtain ⟨k, rfl⟩ : ∃ n, k = n + 1 := ⟨k - 1, by omega⟩
    obtain rfl : i = 64 := by omega
    rw [modcertref01_compress.l0, if_neg (by decide), hx, if_pos (by decide), if_pos (by decide), if_pos (by decide), if_pos (by decide), if_pos (by decide), if_pos (by decide), if_pos (by decide), if_pos (by decide), addUp_ref]
  | m + 1, i, k, h, hk => by
    obtain ⟨k, rfl⟩ : ∃ n, k = n + 1 := ⟨k - 1, by omega⟩
    have e1 : wrap64 ((i : Int) + 1) = ((i + 1 : Nat) : Int) := by unfold wrap64; omega
    have hk64 : kList.length = 64 := by decide
    rw [modcertref01_compress.l0, if_pos (by omega), rotr_f _ 6 6 rfl (by omega) (by omega), rotr_f _ 11 11 rfl (by omega) (by omega), rotr_f _ 25 25 rfl (by omega) (by omega)]
    simp only [Option.bind_some]
    rw [if_pos (by omega), hk64, hW, if_pos (by omega), if_pos (by omega), rotr_f _ 2 2 rfl (by omega) (by omega), rotr_f _ 13 13 rfl (by omega) (by omega), rotr_f _ 22 22 rfl (by omega) (by omega)]
    simp only [Option.bind_some]
    rw [e1, ← comp_l0 xs W hx hW m (i + 1) k (by omega) (by omega)]
    have r1 : rd kList (i : Int) = kList.getD i 0 := rfl
    have r2 : rd W (i : Int) = W.getD i 0 := rfl
    have hs : stV W xs (i + 1) = rnd (kList.getD i 0) (W.getD i 0) (stV W xs i) := rfl
    rw [r1, r2, hs]
    generalize kList.getD i 0 = K
    generalize W.getD i 0 = ww
    generalize stV W xs i = v
    have t1 : ∀ a b c d e : Int, (((((a + b) % 4294967296 + c) % 4294967296 + d) % 4294967296) + e) % 4294967296 = ((a + b + c + d) % 4294967296 + e) % 4294967296 := by intros; omega
    have t2 := t1 (v.getD 7 0) (mixA (v.getD 4 0) 6 11 25) (chE (v.getD 4 0) (v.getD 5 0) (v.getD 6 0)) K ww
    unfold mixA chE at t2
    rw [t2]
    rfl
theorem comp_f (xs : List Int) (b : ByteArray) (hx : xs.length = 8) (hb : b.size = 64) (k : Nat) (hk : 70 ≤ k) : modcertref01_compress.f k xs b = some (cmp xs b) := by
  unfold modcertref01_compress.f
  rw [sched_f b hb k hk, const_f]
  simp only [Option.bind_some]
  rw [hx, if_pos (by decide), if_pos (by decide), if_pos (by decide), if_pos (by decide), if_pos (by decide), if_pos (by decide), if_pos (by decide), if_pos (by decide)]
  exact comp_l0 xs (sched b 64) hx (sched_len b 64) 64 0 k (by omega) (by omega)
end Go.Proofs.YtpmjipokkkkljaaDoor
