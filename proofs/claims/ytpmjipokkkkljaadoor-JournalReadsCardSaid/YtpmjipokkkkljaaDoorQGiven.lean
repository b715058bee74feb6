/-
  Part of the proof of cd_card: the lemmas of Given that it uses.
-/
import Derived.Test.YtpmjipokkkkljaaDoorQRefT
namespace Go.Proofs.YtpmjipokkkkljaaDoor.Pr
set_option linter.all false
open Go.RowKit
def modcertref01_Sum.f (a0 : ByteArray) : Option ByteArray := if a0.size ≤ 70368744177664 then some (sha a0) else none
theorem modcertref01_Sum.calls (a0 : ByteArray) (r : ByteArray) (w : World) (h : modcertref01_Sum.f a0 = some r) :
    Calls Tryd.prog 45 #[.string a0] w fun e w' => e = .returned (.string r) ∧ Below w.heap.size w w' := by
  unfold modcertref01_Sum.f at h
  split at h
  · injection h with h
    subst h
    exact ref_sum w a0 (by assumption)
  · cases h
end Go.Proofs.YtpmjipokkkkljaaDoor.Pr
