/-
  Part of the proof of cd_card: the lemmas of GivenS that it uses.
-/
import Derived.Test.YtpmjipokkkkljaaDoorQRefP
namespace Go.Proofs.YtpmjipokkkkljaaDoor.Ph
set_option linter.all false
set_option linter.unusedVariables false
set_option linter.unusedSimpArgs false
open Go.RowKit Go.Proofs.YtpmjipokkkkljaaDoorW.PrintWords
def modcertref01_padded.f (a0 : ByteArray) : Option ByteArray := if a0.size ≤ 70368744177664 then some (padded a0) else none
theorem modcertref01_padded.calls (a0 : ByteArray) (r : ByteArray) (w : World) (h : modcertref01_padded.f a0 = some r) :
    Calls Tryd.prog 60 #[.string a0] w fun e w' => e = .returned (.string r) ∧ Below w.heap.size w w' := by
  unfold modcertref01_padded.f at h
  split at h
  · injection h with h
    subst h
    exact padded_any w a0 (by assumption)
  · cases h
def modcertref01_compress.f (k : Nat) (l0 : List Int) (a1 : ByteArray) : Option (List Int) := Pg.modcertref01_compress.f k l0 a1
theorem modcertref01_compress.calls (k : Nat) (A0 : Option Addr) (c0 : Nat) (l0 : List Int) (a1 : ByteArray) (r : List Int) (w : World) (hr0 : Kd.C (Kd.int .u32) w A0 l0.length l0) (hc0 : l0.length ≤ c0) (h : modcertref01_compress.f k l0 a1 = some r) :
    Calls Tryd.prog 61 #[.slice A0 l0.length c0, .string a1] w fun e w' => ∃ v0_ : Value, e = .returned (v0_) ∧ Kd.R (Kd.int .u32) 124 w' w.heap.size (fun _ => True) v0_ r ∧ Below w.heap.size w w' :=
  Pg.modcertref01_compress.calls k A0 c0 l0 a1 r w hr0 hc0 h
end Go.Proofs.YtpmjipokkkkljaaDoor.Ph
