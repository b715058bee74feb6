/-
  Part of the proof of cd_card: the lemmas of RefT that it uses.
-/
import Derived.Test.YtpmjipokkkkljaaDoorQPh3
namespace Go.Proofs.YtpmjipokkkkljaaDoor
set_option linter.all false
set_option linter.unusedVariables false
set_option linter.unusedSimpArgs false
open Go.RowKit Go.Proofs.YtpmjipokkkkljaaDoorW.PrintWords Go.Proofs.YtpmjipokkkkljaaDoorW.PrintLast Go.Proofs.YtpmjipokkkkljaaDoorW.PrintMore Go.Proofs.YtpmjipokkkkljaaDoor.Ph
theorem sum_l1 (ys : List Int) (hy : ys.length = 8) (m : Nat) : ∀ (i k : Nat), i + m = 8 → m < k → modcertref01_Sum.l1 k ys ((ys.take i).flatMap wBytes) i = some (strOfNums (ys.flatMap wBytes)) := by
  induction m with
  | zero =>
    intro i k h hk
    obtain ⟨k, rfl⟩ : ∃ n, k = n + 1 := ⟨k - 1, by omega⟩
    obtain rfl : i = 8 := by omega
    rw [modcertref01_Sum.l1, if_neg (by decide), List.take_of_length_le (by omega)]
  | succ m ih =>
    intro i k h hk
    obtain ⟨k, rfl⟩ : ∃ n, k = n + 1 := ⟨k - 1, by omega⟩
    have e1 : wrap64 ((i : Int) + 1) = ((i + 1 : Nat) : Int) := by unfold wrap64; omega
    have hl : ((ys.take i).flatMap wBytes).length ≤ 32 := by rw [wBytes_len, List.length_take]; omega
    have hx : rd ys (i : Int) = ys.getD i 0 := rfl
    rw [modcertref01_Sum.l1, e1, hx, if_pos (by omega), if_pos (by omega), if_pos (by omega)]
    simp only [Option.bind_some]
    rw [if_pos (by simp only [List.length_cons, List.length_nil]; omega), ← ih (i + 1) k (by omega) (by omega)]
    congr 1
    rw [List.take_add_one, List.flatMap_append]
    congr 1
    have : ys[i]? = some (ys.getD i 0) := by rw [List.getD_eq_getElem?_getD]; rw [List.getElem?_eq_getElem (by omega)]; rfl
    rw [this]
    simp [wBytes]
theorem sum_l0 (p : ByteArray) (n : Nat) (hn : p.size = 64 * n) (hp : p.size ≤ 4611686018427387904) (S : ByteArray) (hS : strOfNums ((blks h0List p n).flatMap wBytes) = S) (m : Nat) : ∀ (i k : Nat), i + m = n → m + 100 < k → modcertref01_Sum.l0 k (blks h0List p i) p ((64 * i : Nat) : Int) = some S := by
  induction m with
  | zero =>
    intro i k h hk
    obtain ⟨k, rfl⟩ : ∃ n, k = n + 1 := ⟨k - 1, by omega⟩
    obtain rfl : i = n := by omega
    rw [modcertref01_Sum.l0, if_neg (by omega)]
    have := sum_l1 (blks h0List p i) (blks_len _ _ rfl _) 8 0 k (by omega) (by omega)
    rw [hS] at this
    exact this
  | succ m ih =>
    clear hS
    intro i k h hk
    obtain ⟨k, rfl⟩ : ∃ n, k = n + 1 := ⟨k - 1, by omega⟩
    have e1 : wrap64 (((64 * i : Nat) : Int) + 64) = ((64 * i + 64 : Nat) : Int) := by unfold wrap64; omega
    rw [modcertref01_Sum.l0, e1]
    clear e1
    rw [if_pos (by omega), if_pos (by omega), if_pos (by omega), if_pos (by omega), Int.toNat_natCast, Int.toNat_natCast]
    have hc : modcertref01_compress.f k (blks h0List p i) (p.extract (64 * i) (64 * i + 64)) = some (blks h0List p (i + 1)) := comp_f _ _ (blks_len _ _ rfl _) (by rw [ByteArray.size_extract]; omega) k (by omega)
    rw [hc]
    simp only [Option.bind_some]
    rw [← ih (i + 1) k (by omega) (by omega)]
    congr 1
theorem sum_f (s : ByteArray) (hs : s.size ≤ 70368744177664) : modcertref01_Sum.f ((padded s).size / 64 + 200) s = some (sha s) := by
  unfold modcertref01_Sum.f modcertref01_padded.f
  rw [if_pos hs]
  simp only [Option.bind_some]
  have hz := padded_size s
  exact sum_l0 (padded s) ((padded s).size / 64) (padded_div s) (by rw [hz]; unfold padZ; omega) _ (sha_padded s) ((padded s).size / 64) 0 _ (by omega) (by omega)
theorem ref_sum (w : World) (s : ByteArray) (hs : s.size ≤ 70368744177664) :
    Calls Tryd.prog 45 #[.string s] w fun e w' => e = .returned (.string (sha s)) ∧ Below w.heap.size w w' :=
  modcertref01_Sum.calls _ s _ w (sum_f s hs)
end Go.Proofs.YtpmjipokkkkljaaDoor
