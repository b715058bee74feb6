/-
  Part of the proof of cd_card: the lemmas of Ret that it uses.
-/
import Derived.Test.YtpmjipokkkkljaaDoorQHeads
import Derived.Test.YtpmjipokkkkljaaDoorQAwake
namespace Go.Proofs.YtpmjipokkkkljaaDoor
set_option linter.all false
set_option linter.unusedVariables false
set_option linter.unusedSimpArgs false
open Go.RowKit Go.Proofs.YtpmjipokkkkljaaDoorW.PrintWords Go.Proofs.YtpmjipokkkkljaaDoorW.PrintLast Go.Proofs.YtpmjipokkkkljaaDoorW.PrintMore
/-- An argument: a slice of strings that lie below B. -/
structure Strs (w : World) (B : Nat) (A : Option Addr) (l : List ByteArray) (c : Nat) : Prop where
  cap : l.length ≤ c
  len : l.length ≤ 4611686018427387904
  small : ∀ s ∈ l, s.size ≤ 140737488355328
  cells : ∀ W, Below B w W → Kd.C Kd.string W A l.length l
theorem ret_measure {i n : Nat} (h : i < n) : n - (intOf (.int .i64 ((i + 1 : Nat) : Int))).toNat < n - (intOf (.int .i64 (i : Int))).toNat := by
  show n - ((i + 1 : Nat) : Int).toNat < n - (i : Int).toNat
  omega
end Go.Proofs.YtpmjipokkkkljaaDoor
