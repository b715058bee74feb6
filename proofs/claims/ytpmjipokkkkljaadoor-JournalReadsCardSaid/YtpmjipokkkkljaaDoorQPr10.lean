/-
  Part of the proof of cd_card: the lemmas of Pr10 that it uses.
-/
import Derived.Test.YtpmjipokkkkljaaDoorQHeads
import Derived.Test.YtpmjipokkkkljaaDoorQPr7
import Derived.Test.YtpmjipokkkkljaaDoorQGiven
set_option linter.all false
namespace Go.Proofs.YtpmjipokkkkljaaDoor.Pr
open Go.RowKit Go.Proofs.YtpmjipokkkkljaaDoorW.PrintWords Go.Proofs.YtpmjipokkkkljaaDoorW.PrintLast Go.Proofs.YtpmjipokkkkljaaDoorW.PrintMore
attribute [local go_sem] max2_int min2_int max_two min_two max_three min_three max_four min_four   -- for this text's walks alone
set_option linter.unusedVariables false
set_option linter.unusedSimpArgs false
set_option maxRecDepth 100000
def modcertref51_Need.f (a0 : Int) : Option (Int) := if a0 < 0 then (some 0) else (if a0 > 65536 then (some 0) else (some (mx 1 (wrap64 (Int.tdiv (wrap64 ((wrap64 (a0 + 437)) - 1)) 437)))))
set_option maxHeartbeats 8000000 in
set_option maxRecDepth 100000 in
theorem modcertref51_Need.calls (a0 : Int) (r : Int) (w : World) (h : modcertref51_Need.f a0 = some r) :
  Calls Tryd.prog 15 #[.int .i64 a0] w fun e w' => e = .returned (.int .i64 r) ∧ Below w.heap.size w w' := by
 have HB := Aside0.mk (Below.refl w.heap.size w)
 have H : (if a0 < 0 then (some 0) else (if a0 > 65536 then (some 0) else (some (mx 1 (wrap64 (Int.tdiv (wrap64 ((wrap64 (a0 + 437)) - 1)) 437)))))) = some r := h
 clear h
 by_cases c2 : a0 < 0
 ·rw [if_pos c2] at H
  have c2b0 : decide (a0 < 0) = true := decide_eq_true c2
  clear c2
  obtain rfl := Option.some.inj H
  go_enter Tryd.func15, Tryd.ntmps15
  go_wp2
  go_ret
  exact ⟨by first | rfl | (simp [errW_none, errW_some] <;> rfl) | (simp [*, errW_none, errW_some] <;> rfl), by repeat (first | (with_reducible first | exact HB.out | apply below_alloc | apply pw_below_drewN | apply below_drew1) | exact HB.out)⟩
 ·rw [if_neg c2] at H
  have c2b0 : decide (a0 < 0) = false := decide_eq_false c2
  clear c2
  by_cases c3 : a0 > 65536
  ·rw [if_pos c3] at H
   have c3b0 : decide (65536 < a0) = true := decide_eq_true c3
   clear c3
   obtain rfl := Option.some.inj H
   go_enter Tryd.func15, Tryd.ntmps15
   go_wp2
   go_ret
   exact ⟨by first | rfl | (simp [errW_none, errW_some] <;> rfl) | (simp [*, errW_none, errW_some] <;> rfl), by repeat (first | (with_reducible first | exact HB.out | apply below_alloc | apply pw_below_drewN | apply below_drew1) | exact HB.out)⟩
  ·rw [if_neg c3] at H
   have c3b0 : decide (65536 < a0) = false := decide_eq_false c3
   clear c3
   obtain ⟨ji4, hji4⟩ : ∃ j_ : Int, (mx 1 (wrap64 (Int.tdiv (wrap64 ((wrap64 (a0 + 437)) - 1)) 437))) = j_ := ⟨_, rfl⟩
   replace H : (some ji4) = some r := by first | (rw [hji4] at H; exact H) | (simp only [hji4] at H ⊢; exact H)
   (try (have hji4l : 1 ≤ ji4 := by (rw [← hji4]; unfold mx; (repeat' split) <;> omega)))
   (try (have hji4m : 0 ≤ ji4 := by omega))
   have hji4_ : (if 1 < (wrap64 (Int.tdiv (wrap64 ((wrap64 (a0 + 437)) - 1)) 437)) then (wrap64 (Int.tdiv (wrap64 ((wrap64 (a0 + 437)) - 1)) 437)) else 1) = ji4 := hji4
   obtain rfl := Option.some.inj H
   go_enter Tryd.func15, Tryd.ntmps15
   go_wp2
   go_ret
   exact ⟨by first | rfl | (simp [errW_none, errW_some] <;> rfl) | (simp only [← hji4]; first | rfl | (simp [errW_none, errW_some] <;> rfl)) | (simp [*, errW_none, errW_some] <;> rfl), by repeat (first | (with_reducible first | exact HB.out | apply below_alloc | apply pw_below_drewN | apply below_drew1) | exact HB.out)⟩
end Go.Proofs.YtpmjipokkkkljaaDoor.Pr
