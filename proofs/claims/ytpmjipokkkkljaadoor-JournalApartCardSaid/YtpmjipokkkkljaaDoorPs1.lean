-- PRINTED by print.py (a twelfth state) out of the translation. Not trusted: Lean checks it.
import Derived.Test.YtpmjipokkkkljaaDoorPs0
namespace Go.Proofs.YtpmjipokkkkljaaDoor.Ps
open Go.RowKit Go.Proofs.YtpmjipokkkkljaaDoorW.PrintWords Go.Proofs.YtpmjipokkkkljaaDoorW.PrintLast Go.Proofs.YtpmjipokkkkljaaDoorW.PrintMore
attribute [local go_sem] max2_int min2_int max_two min_two max_three min_three max_four min_four   -- for this text's walks alone
set_option linter.unusedVariables false
set_option linter.unusedSimpArgs false
set_option maxRecDepth 100000

/-! ### bits_RotateLeft32: function 80 -/
def bits_RotateLeft32.f (a0 : Int) (a1 : Int) : Option (Int) := if 0 ≤ (Go.bits .and .u64 (IntKind.u64.wrap (a1)) 31) then (if 0 ≤ (IntKind.u64.wrap (32 - (Go.bits .and .u64 (IntKind.u64.wrap (a1)) 31))) then (some (Go.bits .or .u32 (shl .u32 a0 (Go.bits .and .u64 (IntKind.u64.wrap (a1)) 31)) (shr .u32 a0 (IntKind.u64.wrap (32 - (Go.bits .and .u64 (IntKind.u64.wrap (a1)) 31)))))) else (none)) else (none)
set_option maxHeartbeats 8000000 in
set_option maxRecDepth 100000 in
theorem bits_RotateLeft32.calls (a0 : Int) (a1 : Int) (r : Int) (w : World) (h : bits_RotateLeft32.f a0 a1 = some r) :
    Calls Tryd.prog 80 #[.int .u32 a0, .int .i64 a1] w fun e w' => e = .returned (.int .u32 r) ∧ Drawn0 w w' := by
  have H : (if 0 ≤ (Go.bits .and .u64 (IntKind.u64.wrap (a1)) 31) then (if 0 ≤ (IntKind.u64.wrap (32 - (Go.bits .and .u64 (IntKind.u64.wrap (a1)) 31))) then (some (Go.bits .or .u32 (shl .u32 a0 (Go.bits .and .u64 (IntKind.u64.wrap (a1)) 31)) (shr .u32 a0 (IntKind.u64.wrap (32 - (Go.bits .and .u64 (IntKind.u64.wrap (a1)) 31)))))) else (none)) else (none)) = some r := h
  clear h
  obtain ⟨ji3, hji3⟩ : ∃ j_ : Int, (Go.bits .and .u64 (IntKind.u64.wrap (a1)) 31) = j_ := ⟨_, rfl⟩
  replace H : (if 0 ≤ (ji3) then (if 0 ≤ (IntKind.u64.wrap (32 - (ji3))) then (some (Go.bits .or .u32 (shl .u32 a0 (ji3)) (shr .u32 a0 (IntKind.u64.wrap (32 - (ji3)))))) else (none)) else (none)) = some r := by first | (rw [hji3] at H; exact H) | (simp only [hji3] at H ⊢; exact H)
  by_cases c4 : 0 ≤ (ji3)
  · rw [if_pos c4] at H
    have c4b0 := eq_true c4
    have c4b1 : decide (0 ≤ (ji3)) = true := decide_eq_true c4
    clear c4
    obtain ⟨ji5, hji5⟩ : ∃ j_ : Int, (shl .u32 a0 (ji3)) = j_ := ⟨_, rfl⟩
    replace H : (if 0 ≤ (IntKind.u64.wrap (32 - (ji3))) then (some (Go.bits .or .u32 (ji5) (shr .u32 a0 (IntKind.u64.wrap (32 - (ji3)))))) else (none)) = some r := by first | (rw [hji5] at H; exact H) | (simp only [hji5] at H ⊢; exact H)
    have hji5_ : (IntKind.u32.wrap (a0 * 2 ^ min (ji3).toNat 32)) = ji5 := hji5
    have hji5z : (ji3) ≤ 32 → (IntKind.u32.wrap (a0 * 2 ^ (ji3).toNat)) = ji5 := shl_small hji5
    obtain ⟨ji6, hji6⟩ : ∃ j_ : Int, (IntKind.u64.wrap (32 - (ji3))) = j_ := ⟨_, rfl⟩
    replace H : (if 0 ≤ (ji6) then (some (Go.bits .or .u32 (ji5) (shr .u32 a0 (ji6)))) else (none)) = some r := by first | (rw [hji6] at H; exact H) | (simp only [hji6] at H ⊢; exact H)
    by_cases c7 : 0 ≤ (ji6)
    · rw [if_pos c7] at H
      have c7b0 := eq_true c7
      have c7b1 : decide (0 ≤ (ji6)) = true := decide_eq_true c7
      clear c7
      obtain ⟨ji8, hji8⟩ : ∃ j_ : Int, (shr .u32 a0 (ji6)) = j_ := ⟨_, rfl⟩
      replace H : (some (Go.bits .or .u32 (ji5) (ji8))) = some r := by first | (rw [hji8] at H; exact H) | (simp only [hji8] at H ⊢; exact H)
      have hji8_ : (a0 / 2 ^ min (ji6).toNat 32) = ji8 := hji8
      have hji8z : (ji6) ≤ 32 → (a0 / 2 ^ (ji6).toNat) = ji8 := shr_small hji8
      obtain rfl := Option.some.inj H
      go_enter Tryd.func80, Tryd.ntmps80
      go_wp2
      go_ret
      exact ⟨by first | rfl | (simp; done) | (simp only [← hji3, ← hji5, ← hji6, ← hji8] <;> (first | rfl | simp)) | (simp [*]; done), by repeat (first | exact Drawn0.refl _ | apply Drawn0.step)⟩
    · rw [if_neg c7] at H
      exact absurd H (by simp)
  · rw [if_neg c4] at H
    exact absurd H (by simp)

/-! ### sha256_Hash_add_1: function 79 -/
def sha256_Hash_add_1.f (a0 : Int) (a1 : Int) (a2 : Int) (a3 : Int) : Option (Int) := (bits_RotateLeft32.f a0 (wrap64 (-a1))).bind fun t101 => ((bits_RotateLeft32.f a0 (wrap64 (-a2))).bind fun t102 => ((bits_RotateLeft32.f a0 (wrap64 (-a3))).bind fun t103 => (some (Go.bits .xor .u32 (Go.bits .xor .u32 t101 t102) t103))))
set_option maxHeartbeats 8000000 in
set_option maxRecDepth 100000 in
theorem sha256_Hash_add_1.calls (a0 : Int) (a1 : Int) (a2 : Int) (a3 : Int) (r : Int) (w : World) (h : sha256_Hash_add_1.f a0 a1 a2 a3 = some r) :
    Calls Tryd.prog 79 #[.int .u32 a0, .int .i64 a1, .int .i64 a2, .int .i64 a3] w fun e w' => e = .returned (.int .u32 r) ∧ Drawn0 w w' := by
  have H : ((bits_RotateLeft32.f a0 (wrap64 (-a1))).bind fun t101 => ((bits_RotateLeft32.f a0 (wrap64 (-a2))).bind fun t102 => ((bits_RotateLeft32.f a0 (wrap64 (-a3))).bind fun t103 => (some (Go.bits .xor .u32 (Go.bits .xor .u32 t101 t102) t103))))) = some r := h
  clear h
  replace H := Option.bind_eq_some_iff.mp H
  obtain ⟨t101, A50, H⟩ := H
  replace H : ((bits_RotateLeft32.f a0 (wrap64 (-a2))).bind fun t102 => ((bits_RotateLeft32.f a0 (wrap64 (-a3))).bind fun t103 => (some (Go.bits .xor .u32 (Go.bits .xor .u32 t101 t102) t103)))) = some r := H
  have A5 := Aside0.mk A50
  clear A50
  replace H := Option.bind_eq_some_iff.mp H
  obtain ⟨t102, A60, H⟩ := H
  replace H : ((bits_RotateLeft32.f a0 (wrap64 (-a3))).bind fun t103 => (some (Go.bits .xor .u32 (Go.bits .xor .u32 t101 t102) t103))) = some r := H
  have A6 := Aside0.mk A60
  clear A60
  replace H := Option.bind_eq_some_iff.mp H
  obtain ⟨t103, A70, H⟩ := H
  replace H : (some (Go.bits .xor .u32 (Go.bits .xor .u32 t101 t102) t103)) = some r := H
  have A7 := Aside0.mk A70
  clear A70
  obtain rfl := Option.some.inj H
  go_enter Tryd.func79, Tryd.ntmps79
  go_wp2_with (first | ((with_reducible refine gate_callee (f := 80) rfl ?_); refine goesL_ (some 12) rfl rfl Tryd.func80 (by kernel_rfl) rfl #[.int .u32 a0, .int .i64 (wrap64 (-a1))] rfl (by (try simp only [List.map_toArray, List.map_cons, List.map_nil]); first | done | rfl | (simp only [List.length_drop, List.length_take]; rfl)) ?_; (with_reducible refine (bits_RotateLeft32.calls a0 (wrap64 (-a1)) t101 _ A5.out).mono ?_); rintro e w' ⟨rfl, ⟨nd, rfl⟩⟩; refine ⟨_, rfl, ?_⟩) | ((with_reducible refine gate_callee (f := 80) rfl ?_); refine goesL_ (some 16) rfl rfl Tryd.func80 (by kernel_rfl) rfl #[.int .u32 a0, .int .i64 (wrap64 (-a2))] rfl (by (try simp only [List.map_toArray, List.map_cons, List.map_nil]); first | done | rfl | (simp only [List.length_drop, List.length_take]; rfl)) ?_; (with_reducible refine (bits_RotateLeft32.calls a0 (wrap64 (-a2)) t102 _ A6.out).mono ?_); rintro e w' ⟨rfl, ⟨nd, rfl⟩⟩; refine ⟨_, rfl, ?_⟩) | ((with_reducible refine gate_callee (f := 80) rfl ?_); refine goesL_ (some 21) rfl rfl Tryd.func80 (by kernel_rfl) rfl #[.int .u32 a0, .int .i64 (wrap64 (-a3))] rfl (by (try simp only [List.map_toArray, List.map_cons, List.map_nil]); first | done | rfl | (simp only [List.length_drop, List.length_take]; rfl)) ?_; (with_reducible refine (bits_RotateLeft32.calls a0 (wrap64 (-a3)) t103 _ A7.out).mono ?_); rintro e w' ⟨rfl, ⟨nd, rfl⟩⟩; refine ⟨_, rfl, ?_⟩))
  go_ret
  exact ⟨by first | rfl | (simp; done) | (simp [*]; done), by repeat (first | exact Drawn0.refl _ | apply Drawn0.step)⟩

/-! ### sha256_schedule_1: function 91 -/
def sha256_schedule_1.f (a0 : Int) (a1 : Int) (a2 : Int) (a3 : Int) : Option (Int) := (bits_RotateLeft32.f a0 (wrap64 (-a1))).bind fun t104 => ((bits_RotateLeft32.f a0 (wrap64 (-a2))).bind fun t105 => (if 0 ≤ a3 then (some (Go.bits .xor .u32 (Go.bits .xor .u32 t104 t105) (shr .u32 a0 a3))) else (none)))
set_option maxHeartbeats 8000000 in
set_option maxRecDepth 100000 in
theorem sha256_schedule_1.calls (a0 : Int) (a1 : Int) (a2 : Int) (a3 : Int) (r : Int) (w : World) (h : sha256_schedule_1.f a0 a1 a2 a3 = some r) :
    Calls Tryd.prog 91 #[.int .u32 a0, .int .i64 a1, .int .i64 a2, .int .i64 a3] w fun e w' => e = .returned (.int .u32 r) ∧ Drawn0 w w' := by
  have H : ((bits_RotateLeft32.f a0 (wrap64 (-a1))).bind fun t104 => ((bits_RotateLeft32.f a0 (wrap64 (-a2))).bind fun t105 => (if 0 ≤ a3 then (some (Go.bits .xor .u32 (Go.bits .xor .u32 t104 t105) (shr .u32 a0 a3))) else (none)))) = some r := h
  clear h
  replace H := Option.bind_eq_some_iff.mp H
  obtain ⟨t104, A50, H⟩ := H
  replace H : ((bits_RotateLeft32.f a0 (wrap64 (-a2))).bind fun t105 => (if 0 ≤ a3 then (some (Go.bits .xor .u32 (Go.bits .xor .u32 t104 t105) (shr .u32 a0 a3))) else (none))) = some r := H
  have A5 := Aside0.mk A50
  clear A50
  replace H := Option.bind_eq_some_iff.mp H
  obtain ⟨t105, A60, H⟩ := H
  replace H : (if 0 ≤ a3 then (some (Go.bits .xor .u32 (Go.bits .xor .u32 t104 t105) (shr .u32 a0 a3))) else (none)) = some r := H
  have A6 := Aside0.mk A60
  clear A60
  by_cases c7 : 0 ≤ a3
  · rw [if_pos c7] at H
    have c7b0 := eq_true c7
    have c7b1 : decide (0 ≤ a3) = true := decide_eq_true c7
    clear c7
    obtain ⟨ji8, hji8⟩ : ∃ j_ : Int, (shr .u32 a0 a3) = j_ := ⟨_, rfl⟩
    replace H : (some (Go.bits .xor .u32 (Go.bits .xor .u32 t104 t105) (ji8))) = some r := by first | (rw [hji8] at H; exact H) | (simp only [hji8] at H ⊢; exact H)
    (try rw [hji8] at A5)
    (try rw [hji8] at A6)
    have hji8_ : (a0 / 2 ^ min a3.toNat 32) = ji8 := hji8
    have hji8z : a3 ≤ 32 → (a0 / 2 ^ a3.toNat) = ji8 := shr_small hji8
    obtain rfl := Option.some.inj H
    go_enter Tryd.func91, Tryd.ntmps91
    go_wp2_with (first | (go_at_call 80; (with_reducible refine (bits_RotateLeft32.calls a0 (wrap64 (-a1)) t104 _ A5.out).mono ?_); rintro e w' ⟨rfl, ⟨nd, rfl⟩⟩; (try first | exact ⟨rfl, _, World.drewN_drewN _ _ _⟩ | exact ⟨rfl, _, Eq.trans (World.drewN_drewN _ _ _) (congrArg (World.drewN _) (Nat.add_assoc _ _ _))⟩)) | (go_at_call 80; (with_reducible refine (bits_RotateLeft32.calls a0 (wrap64 (-a2)) t105 _ A6.out).mono ?_); rintro e w' ⟨rfl, ⟨nd, rfl⟩⟩; (try first | exact ⟨rfl, _, World.drewN_drewN _ _ _⟩ | exact ⟨rfl, _, Eq.trans (World.drewN_drewN _ _ _) (congrArg (World.drewN _) (Nat.add_assoc _ _ _))⟩)))
    repeat (go_quiet (first | (go_at_call 80; (with_reducible refine (bits_RotateLeft32.calls a0 (wrap64 (-a1)) t104 _ A5.out).mono ?_); rintro e w' ⟨rfl, ⟨nd, rfl⟩⟩; (try first | exact ⟨rfl, _, World.drewN_drewN _ _ _⟩ | exact ⟨rfl, _, Eq.trans (World.drewN_drewN _ _ _) (congrArg (World.drewN _) (Nat.add_assoc _ _ _))⟩)) | (go_at_call 80; (with_reducible refine (bits_RotateLeft32.calls a0 (wrap64 (-a2)) t105 _ A6.out).mono ?_); rintro e w' ⟨rfl, ⟨nd, rfl⟩⟩; (try first | exact ⟨rfl, _, World.drewN_drewN _ _ _⟩ | exact ⟨rfl, _, Eq.trans (World.drewN_drewN _ _ _) (congrArg (World.drewN _) (Nat.add_assoc _ _ _))⟩))); try go_wp2_with (first | (go_at_call 80; (with_reducible refine (bits_RotateLeft32.calls a0 (wrap64 (-a1)) t104 _ A5.out).mono ?_); rintro e w' ⟨rfl, ⟨nd, rfl⟩⟩; (try first | exact ⟨rfl, _, World.drewN_drewN _ _ _⟩ | exact ⟨rfl, _, Eq.trans (World.drewN_drewN _ _ _) (congrArg (World.drewN _) (Nat.add_assoc _ _ _))⟩)) | (go_at_call 80; (with_reducible refine (bits_RotateLeft32.calls a0 (wrap64 (-a2)) t105 _ A6.out).mono ?_); rintro e w' ⟨rfl, ⟨nd, rfl⟩⟩; (try first | exact ⟨rfl, _, World.drewN_drewN _ _ _⟩ | exact ⟨rfl, _, Eq.trans (World.drewN_drewN _ _ _) (congrArg (World.drewN _) (Nat.add_assoc _ _ _))⟩))))
    go_ret
    exact ⟨by first | rfl | (simp; done) | (simp only [← hji8] <;> (first | rfl | simp)) | (simp [*]; done), by repeat (first | exact Drawn0.refl _ | apply Drawn0.step)⟩
  · rw [if_neg c7] at H
    exact absurd H (by simp)

end Go.Proofs.YtpmjipokkkkljaaDoor.Ps
