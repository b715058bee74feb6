/-
  The law JournalNeeds returns true at every length.
-/
import Derived.Test.YtpmjipokkkkljaaDoorAwake
namespace Go.Proofs.YtpmjipokkkkljaaDoor
set_option linter.all false
set_option linter.unusedVariables false
set_option linter.unusedSimpArgs false
open Go.RowKit Go.Proofs.YtpmjipokkkkljaaDoorW.PrintWords Go.Proofs.YtpmjipokkkkljaaDoorW.PrintLast Go.Proofs.YtpmjipokkkkljaaDoorW.PrintMore

set_option maxHeartbeats 2000000 in
set_option maxRecDepth 100000 in
theorem needs_any (n : Nat) (hn : n ≤ 65535) (w : World) : Calls Tryd.prog 7 #[.int .u16 n] w fun e w' => e = .returned (.bool true) ∧ Below w.heap.size w w' := by
  have c1 : IntKind.i64.wrap (n : Int) = n := IntWalk.i64_in _ ⟨by omega, by omega⟩
  have c2 : IntKind.i64.wrap ((n : Int) + 437) = n + 437 := IntWalk.i64_in _ ⟨by omega, by omega⟩
  have HN := Lib.hid hn
  by_cases h : 65536 < (n : Int) + 437
  · have q : decide (65536 < (n : Int) + 437) = true := by simpa using h
    have HB : Hid (∀ w, Calls Tryd.prog 14 #[.int .i64 65537] w fun e w' => e = .returned (.int .i64 0) ∧ w = w') := Lib.hid (fun w => need_bad 65537 w (by omega))
    clear h hn
    go_enter Tryd.func7, Tryd.ntmps7
    go_wp2_with (first
      | (go_at_call 9; refine (awake_ok _).mono ?_; rintro e w1 ⟨rfl, hb⟩; have HB1 := Lib.hid hb; clear hb)
      | (go_at_call 14; refine (HB.out _).mono ?_; rintro e w' ⟨rfl, rfl⟩))
    go_ret
    exact ⟨rfl, HB1.out⟩
  · have q : decide (65536 < (n : Int) + 437) = false := by simpa using h
    have HA : Hid (∀ w, Calls Tryd.prog 14 #[.int .i64 n] w fun e w' => e = .returned (.int .i64 (needN n)) ∧ w = w') := Lib.hid (fun w => need_ok n w (by omega))
    have HB : Hid (∀ w, Calls Tryd.prog 14 #[.int .i64 (n + 1)] w fun e w' => e = .returned (.int .i64 (needN (n + 1))) ∧ w = w') := Lib.hid (fun w => need_ok (n + 1) w (by omega))
    have HC : Hid (∀ w, Calls Tryd.prog 14 #[.int .i64 (n + 437)] w fun e w' => e = .returned (.int .i64 (needN (n + 437))) ∧ w = w') := Lib.hid (fun w => need_ok (n + 437) w (by omega))
    have c3 : IntKind.i64.wrap ((n : Int) + 1) = n + 1 := IntWalk.i64_in _ ⟨by omega, by omega⟩
    generalize ha : ((needN n : Nat) : Int) = a at HA
    generalize hb : ((needN (n + 1) : Nat) : Int) = b at HB
    generalize hc : ((needN (n + 437) : Nat) : Int) = c at HC
    have f : (1 ≤ a ∧ a ≤ b ∧ b ≤ a + 1 ∧ a ≤ c ∧ ((n : Int) = 0 ∨ c = a + 1) ∧ (a - 1) * 437 ≤ n ∧ n ≤ a * 437 ∧ a ≤ 1000) := by
      subst ha hb hc
      unfold needN
      omega
    clear ha hb hc h hn
    obtain ⟨f1, f2, f3, f4, f5, f6, f7, f8⟩ := f
    have c4 : IntKind.i64.wrap (a + 1) = a + 1 := IntWalk.i64_in _ ⟨by omega, by omega⟩
    have c5 : IntKind.i64.wrap (a - 1) = a - 1 := IntWalk.i64_in _ ⟨by omega, by omega⟩
    have c6 : IntKind.i64.wrap ((a - 1) * 437) = (a - 1) * 437 := IntWalk.i64_in _ ⟨by omega, by omega⟩
    have c7 : IntKind.i64.wrap (a * 437) = a * 437 := IntWalk.i64_in _ ⟨by omega, by omega⟩
    have g1 : decide (1 ≤ a) = true := by simpa using f1
    have g2 : decide (a ≤ b) = true := by simpa using f2
    have g3 : decide (b ≤ a + 1) = true := by simpa using f3
    have g4 : decide (a ≤ c) = true := by simpa using f4
    have g6 : decide ((a - 1) * 437 ≤ n) = true := by simpa using f6
    have g7 : decide ((n : Int) ≤ a * 437) = true := by simpa using f7
    have F5 := Lib.hid f5
    clear f1 f2 f3 f4 f5 f6 f7 f8
    rcases (inferInstance : Decidable ((n : Int) = 0)) with z | z
    · have z' : ((n : Int) == 0) = false := by simpa using z
      have e : (c == a + 1) = true := by have := F5.out.resolve_left z; simpa using this
      go_enter Tryd.func7, Tryd.ntmps7
      go_wp2_with (first
        | (go_at_call 9; refine (awake_ok _).mono ?_; rintro e w1 ⟨rfl, hb⟩; have HB1 := Lib.hid hb; clear hb)
        | (go_at_call 14; with_reducible refine (HA.out _).mono ?_; rintro e w' ⟨rfl, rfl⟩)
        | (go_at_call 14; with_reducible refine (HB.out _).mono ?_; rintro e w' ⟨rfl, rfl⟩)
        | (go_at_call 14; with_reducible refine (HC.out _).mono ?_; rintro e w' ⟨rfl, rfl⟩))
      go_ret
      exact ⟨rfl, HB1.out⟩
    · have z' : ((n : Int) == 0) = true := by simpa using z
      clear z
      go_enter Tryd.func7, Tryd.ntmps7
      go_wp2_with (first
        | (go_at_call 9; refine (awake_ok _).mono ?_; rintro e w1 ⟨rfl, hb⟩; have HB1 := Lib.hid hb; clear hb)
        | (go_at_call 14; with_reducible refine (HA.out _).mono ?_; rintro e w' ⟨rfl, rfl⟩)
        | (go_at_call 14; with_reducible refine (HB.out _).mono ?_; rintro e w' ⟨rfl, rfl⟩)
        | (go_at_call 14; with_reducible refine (HC.out _).mono ?_; rintro e w' ⟨rfl, rfl⟩))
      go_ret
      exact ⟨rfl, HB1.out⟩
end Go.Proofs.YtpmjipokkkkljaaDoor
