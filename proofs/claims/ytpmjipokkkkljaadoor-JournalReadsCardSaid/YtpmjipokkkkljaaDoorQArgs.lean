/-
  Part of the proof of cd_card: the lemmas of Args that it uses.
-/
import Derived.Test.YtpmjipokkkkljaaDoorQRet
import Derived.Test.YtpmjipokkkkljaaDoorQCard0
import Derived.Deep.Strs
import Derived.SizedLaws
namespace Go.Proofs.YtpmjipokkkkljaaDoor
set_option linter.all false
set_option linter.unusedVariables false
set_option linter.unusedSimpArgs false
open Go.ChangeShapes Go.WideShapes Go.ChangeAt Go.RowKit Go.Deep Go.Proofs.YtpmjipokkkkljaaDoorW.PrintWords
theorem weightsAll_mem' {H : Type} {P : Program} {e : TypeId} {d : DataW H} : ∀ {l : List (DataW H)}, d ∈ l → ∀ n ∈ d.weights P e, n ∈ DataW.weightsAll P e l
  | x :: r, hd, n, hn => by
    simp only [DataW.weightsAll, List.mem_append]
    rcases List.mem_cons.1 hd with rfl | h
    · exact Or.inl hn
    · exact Or.inr (weightsAll_mem' h n hn)
theorem cellsStr : Tryd.prog.cellsOf 9 = 1 := by kernel_rfl
theorem strs_of {H : Type} {enc : TypeId × Value → H} {W : World} {a0 : Option Addr} {n c : Nat} {d : DataW H} {ps : List MemPlace} (h : DataW.Trod enc Tryd.prog W 0 (fun _ => true) true 22 (.slice a0 n c) d ps)
    (hw : (d.weights Tryd.prog 22).all (· ≤ reachBytes) = true) : ∃ l : List ByteArray, l.length = n ∧ Strs W W.heap.size a0 l c := by
  have hr : reachBytes ≤ 140737488355328 := by decide
  obtain ⟨fuel, hf⟩ := h
  rcases open_strs Tryd.underlying22 Tryd.underlying9 cellsStr hf with ⟨hcs, hx⟩ | ⟨a, len', cap', m, Sx, hcs, _, hl, hm, hmm, hx, hcell⟩
  · simp [Value.cells] at hcs
    obtain ⟨rfl, rfl, rfl⟩ := hcs
    exact ⟨[], rfl, ⟨Nat.le_refl _, by decide, by simp, fun W' _ => Kd.C_nil _ _⟩⟩
  · simp [Value.cells] at hcs
    obtain ⟨rfl, rfl, rfl⟩ := hcs
    simp only [if_true] at hmm
    obtain rfl : c = m := hmm.symm
    simp only [Prod.mk.injEq] at hx
    obtain ⟨rfl, rfl⟩ := hx
    have hb16 : Tryd.prog.bytesOf 9 = 16 := by kernel_rfl
    have hn : n ≤ 140737488355328 := by
      have := List.all_eq_true.1 hw ((n + (c - n)) * Tryd.prog.bytesOf 9) (by simp [DataW.weights, Tryd.underlying22])
      rw [hb16] at this
      have := of_decide_eq_true this
      omega
    refine ⟨(List.range n).map Sx, by simp, ⟨by simpa using hl, by simp; omega, ?_, ?_⟩⟩
    · intro s hs
      obtain ⟨i, hi, rfl⟩ := List.mem_map.1 hs
      have hm : (Sx i).data.toList.length ∈ (DataW.slice ((List.range n).map fun i => (.lit (.string (Sx i).data.toList) : DataW H)) ((List.range (c - n)).map fun j => .lit (.string (Sx (n + j)).data.toList))).weights Tryd.prog 22 := by
        simp only [DataW.weights, Tryd.underlying22, List.mem_cons, List.mem_append]
        exact Or.inr (Or.inl (weightsAll_mem' (List.mem_map.2 ⟨i, hi, rfl⟩) _ (by simp [DataW.weights])))
      have := of_decide_eq_true (List.all_eq_true.1 hw _ hm)
      rw [Array.length_toList] at this
      exact Nat.le_trans this hr
    · intro W' hb
      refine ⟨by simp, by simp; omega, fun h0 => ⟨a, rfl, fun j p hj => ⟨[.string p], rfl, rfl, fun i u hu => ?_⟩⟩⟩
      match i, hu with
      | 0, hu =>
        have hj2 : j < n := by
          rcases Nat.lt_or_ge j n with h | h
          · exact h
          · rw [List.getElem?_eq_none (by simpa using h)] at hj; cases hj
        have hp : p = Sx j := by simpa [hj2] using hj.symm
        have hu' : u = .string p := by simpa using hu.symm
        show W'.cell? (a.add (j * 1 + 0)) = some u
        rw [hu', hp, hb.cell (p := a.add (j * 1 + 0)) (World.block_lt_of_cell? _ _ (hcell (j * 1 + 0) (by omega)).1)]
        simpa using (hcell (j * 1 + 0) (by omega)).1
      | i + 1, hu => simp at hu
end Go.Proofs.YtpmjipokkkkljaaDoor
