/-
  Part of the proof of cd_card: the lemmas of Sums that it uses.
-/
import Derived.Test.YtpmjipokkkkljaaDoorQShas
import Derived.Test.YtpmjipokkkkljaaDoorQShelf
import Derived.Laws.IdiomStrings
import Derived.Test.YtpmjipokkkkljaaDoorQDisks
namespace Go.Proofs.YtpmjipokkkkljaaDoor
set_option linter.all false
set_option linter.unusedVariables false
set_option linter.unusedSimpArgs false
open Go.RowKit Go.Proofs.YtpmjipokkkkljaaDoorW.PrintWords Go.Proofs.YtpmjipokkkkljaaDoorW.PrintLast Go.Proofs.YtpmjipokkkkljaaDoorW.PrintMore
def h0List : List Int := [1779033703, 3144134277, 1013904242, 2773480762, 1359893119, 2600822924, 528734635, 1541459225]
def hz : Array Value := hcells (List.replicate 8 0) ByteArray.empty 0
theorem allocH (W : World) : (Instr.alloc 136 true (.tuple #[])).run Tryd.prog W = .ok (.pointer (some ⟨W.heap.size, 0, none⟩)) (W.alloc (.cells hz 136 (0, 0))) := by kernel_rfl
theorem infoH : (Tryd.prog.info? 136).map (·.size) = some 10 := by kernel_rfl
theorem hcells_size (xs : List Int) (r : ByteArray) (t : Int) (h : xs.length = 8) : (hcells xs r t).size = 10 := by simp [hcells, u32s, h]
theorem all_h (xs : List Int) (r : ByteArray) (t : Int) : (hcells xs r t).all (·.oneCell') = true := by
  rw [Array.all_eq_true']
  intro x hx
  simp [hcells, u32s] at hx
  rcases hx with ⟨y, _, rfl⟩ | rfl | rfl <;> rfl
theorem hash_new (w : World) :
    Calls Tryd.prog 53 #[] w fun e w' => ∃ g, e = .returned (.pointer (some ⟨g, 0, none⟩)) ∧ w.heap.size ≤ g ∧ Blk w' g (hcells h0List ByteArray.empty 0) 136 ∧ Below w.heap.size w w' := by
  go_enter Tryd.func53, Tryd.ntmps53
  go_wp2
  go_ret
  exact ⟨_, rfl, Nat.le_refl _, Blk.new _ _ _, (Below.refl _ _).alloc (Nat.le_refl _) _⟩
theorem hash_clone (w : World) (gh : Nat) (xs : List Int) (rest : ByteArray) (total : Int) (hb : Blk w gh (hcells xs rest total) 136) (hx : xs.length = 8) :
    Calls Tryd.prog 70 #[.pointer (some ⟨gh, 0, none⟩)] w fun e w' => ∃ g, e = .returned (.pointer (some ⟨g, 0, none⟩)) ∧ w.heap.size ≤ g ∧ Blk w' g (hcells xs rest total) 136 ∧ Below w.heap.size w w' := by
  have HB := Lib.hid hb
  have HS := Lib.hid (hcells_size xs rest total hx)
  clear hb
  go_enter Tryd.func70, Tryd.ntmps70
  go_wp2_with first
    | ((with_reducible refine gate_dst (N := 6) rfl ?_)
       refine wpList_load_row rfl 136 _ rfl gh rfl 136 (hcells xs rest total) (0, 0) _ HB.out Tryd.underlying136 rfl (by rw [infoH, HS.out]) ?_)
    | ((with_reducible refine gate_dst (N := 3) rfl ?_)
       refine box_event rfl rfl (cs := hz) (t := 136) (by simp only [execOp]; simp [allocH, Result.andThen]) ?_
       intro g hg w1 hb1 hbel; have HG := Lib.hid hg; clear hg)
    | ((with_reducible refine gate_store (t := 136) (p := 3) (v := .tmp 6) rfl ?_)
       refine wpList_store_row rfl 136 _ _ rfl g (hcells xs rest total) rfl rfl 136 hz hb1 (by rw [infoH, HS.out]) (by rw [HS.out]; rfl) (all_h xs rest total) ?_)
  go_ret
  exact ⟨g, rfl, by have := HG.out; omega, setRow_heap hb1, ((Upd.of_below hbel (fun _ => False)).setRow (.inr (by have := HG.out; omega)) _).below_all⟩
/-- A number as bytes, most significant first: the first i of the 8. -/
def numCells (n : Nat) (i : Nat) : List Value := (List.range 8).map fun j => .int .u8 (if j < i then (n / 2 ^ (56 - 8 * j) % 256 : Nat) else 0)
def be8 (n : Nat) : ByteArray := ⟨((List.range 8).map fun j => (n / 2 ^ (56 - 8 * j)).toUInt8).toArray⟩
theorem numCells_len (n i : Nat) : (numCells n i).length = 8 := by simp [numCells]
theorem numCells_set (n i : Nat) (hi : i < 8) : (numCells n i).set i (.int .u8 ((n / 2 ^ (56 - 8 * i) % 256 : Nat))) = numCells n (i + 1) := by
  apply List.ext_getElem
  · simp [numCells]
  · intro j h1 h2
    simp only [numCells, List.length_map, List.length_range] at h2
    rw [List.getElem_set]
    by_cases e : i = j
    · subst e; simp [numCells]
    · rw [if_neg e]
      simp only [numCells, List.getElem_map, List.getElem_range]
      by_cases q : j < i
      · rw [if_pos q, if_pos (by omega)]
      · rw [if_neg q, if_neg (by omega)]
theorem numQ (n q : Nat) : ((n / q % 256 : Nat) : Int) = (n : Int) / (q : Int) % 256 := by
  rw [Int.natCast_emod, Int.natCast_ediv]; rfl
theorem powQ (k : Nat) : ((2 ^ k : Nat) : Int) = 2 ^ k := Int.natCast_pow 2 k
def numRel (w : World) (g n : Nat) (v : Value) (wr : World) : Prop :=
  ∃ i : Nat, i ≤ 8 ∧ v = .int .i64 i ∧ Blk wr g (numCells n i).toArray 149 ∧ Below w.heap.size w wr
theorem number_any (w : World) (n : Nat) (hn : n < 18446744073709551616) :
    Calls Tryd.prog 71 #[.int .u64 n] w fun e w' => e = .returned (.string (be8 n)) ∧ Below w.heap.size w w' := by
  go_enter Tryd.func71, Tryd.ntmps71
  go_wp2
  have hb0 : Hid (Blk (w.alloc (.cells (numCells n 0).toArray 149 (0, 0))) w.heap.size (numCells n 0).toArray 149) := Blk.new _ _ _
  have hbl0 : Hid (Below w.heap.size w (w.alloc (.cells (numCells n 0).toArray 149 (0, 0)))) := (Below.refl _ _).alloc (Nat.le_refl _) _
  generalize hG : w.heap.size = g at hb0 ⊢
  have HG := Lib.hid hG
  clear hG
  go_loopw [5] (fun v wr => numRel w g n v wr) (fun v _ => 8 - (intOf v).toNat)
  case atStart => exact ⟨0, by omega, rfl, hb0.out, hbl0.out⟩
  case round =>
    clear hb0 hbl0
    obtain ⟨i, hi, rfl, hb, hbl⟩ := hrel
    by_cases hlt : i < 8
    · have d8 : decide ((i : Int) < 8) = true := by simp; omega
      have i8 : (i : Int) < 8 := by omega
      have hc := hb.cell i _ (by simp only [List.getElem?_toArray]; exact List.getElem?_eq_getElem (by rw [numCells_len]; exact hlt))
      have hf := hb.frozen i
      have HB := Lib.hid hb
      have HBL := Lib.hid hbl
      clear hb hbl
      go_wp2
      refine ⟨⟨i + 1, by omega, by go_num, ?_, HBL.out.trans ((Upd.setCell (S := fun k => k = g) (p := ⟨g, i, none⟩) (Upd.refl _ wr) (.inl rfl) _).below HBL.out.size (fun k hk => by have := HG.out; omega))⟩, by simp [intOf]; omega⟩
      have := HB.out.set i (.int .u8 ((n / 2 ^ (56 - 8 * i) % 256 : Nat)))
      rw [List.setIfInBounds_toArray, numCells_set n i hlt] at this
      rw [← powQ, ← numQ]
      exact this
    · obtain rfl : i = 8 := by omega
      have HB := Lib.hid hb
      have HBL := Lib.hid hbl
      have hcv : (convert 92 9 (.slice (some ⟨g, 0, none⟩) 8 8)).run Tryd.prog wr = .ok (.string (be8 n)) wr := by
        refine run_convert_bytes_back (P := Tryd.prog) wr 92 9 5 ⟨g, 0, none⟩ 8 ((List.range 8).map fun j => (n / 2 ^ (56 - 8 * j)).toUInt8) Tryd.underlying92 Tryd.underlying5 Tryd.underlying9 ?_
        intro j hj
        have hj8 : j < 8 := by simpa using hj
        have := hb.cell j (.int .u8 ((n / 2 ^ (56 - 8 * j) % 256 : Nat))) (by simp only [List.getElem?_toArray]; rw [List.getElem?_eq_getElem (by rw [numCells_len]; exact hj8)]; simp [numCells, hj8])
        rw [show (⟨g, 0, none⟩ : Addr).add j = ⟨g, j, none⟩ by unfold Addr.add; split <;> simp_all]
        simpa using this
      clear hb hbl
      go_wp2
      go_ret
      exact ⟨rfl, HBL.out⟩
end Go.Proofs.YtpmjipokkkkljaaDoor
namespace Go.Proofs.YtpmjipokkkkljaaDoor
set_option linter.all false
set_option linter.unusedVariables false
set_option linter.unusedSimpArgs false
open Go.RowKit Go.Proofs.YtpmjipokkkkljaaDoorW.PrintWords Go.Proofs.YtpmjipokkkkljaaDoorW.PrintLast Go.Proofs.YtpmjipokkkkljaaDoorW.PrintMore
/-- The state behind k blocks of t. -/
def blks (xs : List Int) (t : ByteArray) : Nat → List Int
  | 0 => xs
  | k + 1 => cmp (blks xs t k) (t.extract (64 * k) (64 * k + 64))
theorem blks_len (xs : List Int) (t : ByteArray) (h : xs.length = 8) : ∀ k, (blks xs t k).length = 8
  | 0 => h
  | _ + 1 => cmp_len _ _
def tailOf (t : ByteArray) (k : Nat) : ByteArray := t.extract (64 * k) t.size
theorem tail_size (t : ByteArray) (k : Nat) : (tailOf t k).size = t.size - 64 * k := by simp [tailOf, ByteArray.size_extract]
theorem tail_zero (t : ByteArray) : tailOf t 0 = t := by simp [tailOf]
theorem tail_head (t : ByteArray) (k : Nat) (h : 64 ≤ (tailOf t k).size) : (tailOf t k).extract 0 64 = t.extract (64 * k) (64 * k + 64) := by
  rw [tail_size] at h
  rw [tailOf, ByteArray.extract_extract]
  congr 1
  omega
theorem tail_next (t : ByteArray) (k : Nat) : (tailOf t k).extract 64 (tailOf t k).size = tailOf t (k + 1) := by
  rw [tail_size, tailOf, tailOf, ByteArray.extract_extract]
  congr 1
  omega
theorem strings_clone (s : ByteArray) (w : World) (h : s.size ≤ 281474976710656) :
    Calls Tryd.prog 69 #[.string s] w fun e w' => e = .returned (.string s) ∧ Below w.heap.size w w' := by
  go_enter Tryd.func69, Tryd.ntmps69
  go_wp2_with (go_at_call 83; refine (Tryd.stringslite_Clone s _ h).mono ?_; rintro e w1 ⟨rfl, hb⟩)
  go_ret
  exact ⟨rfl, hb⟩
theorem u64_in (n : Int) (h0 : 0 ≤ n) (h : n < 18446744073709551616) : IntKind.u64.wrap n = n := by
  show n % 18446744073709551616 = n
  omega
theorem hcells_tot (xs : List Int) (r : ByteArray) (t u : Int) (h : xs.length = 8) : (hcells xs r t).setIfInBounds 9 (.int .u64 u) = hcells xs r u := by
  match xs, h with
  | [_, _, _, _, _, _, _, _], _ => rfl
theorem hcells_rest (xs : List Int) (r r' : ByteArray) (t : Int) (h : xs.length = 8) : (hcells xs r t).setIfInBounds 8 (.string r') = hcells xs r' t := by
  match xs, h with
  | [_, _, _, _, _, _, _, _], _ => rfl
theorem hcells_c8 {w : World} {gh : Nat} {xs : List Int} {r : ByteArray} {t : Int} {ty : TypeId} (h : Blk w gh (hcells xs r t) ty) (hx : xs.length = 8) : w.cell? ⟨gh, 8, none⟩ = some (.string r) := h.cell 8 _ (by
  match xs, hx with
  | [_, _, _, _, _, _, _, _], _ => rfl)
theorem hcells_c9 {w : World} {gh : Nat} {xs : List Int} {r : ByteArray} {t : Int} {ty : TypeId} (h : Blk w gh (hcells xs r t) ty) (hx : xs.length = 8) : w.cell? ⟨gh, 9, none⟩ = some (.int .u64 t) := h.cell 9 _ (by
  match xs, hx with
  | [_, _, _, _, _, _, _, _], _ => rfl)
def valStr : Value → ByteArray
  | .string s => s
  | _ => ByteArray.empty
def writeRel (w : World) (gh : Nat) (xs : List Int) (t rest : ByteArray) (tot : Int) (v : Value) (wr : World) : Prop :=
  ∃ i : Nat, 64 * i ≤ t.size ∧ v = .string (tailOf t i) ∧ Blk wr gh (hcells (blks xs t i) rest tot) 136 ∧ Upd (fun k => k = gh) w wr
theorem write_any (w : World) (gh : Nat) (xs : List Int) (rest : ByteArray) (total : Nat) (s : ByteArray) (hb : Blk w gh (hcells xs rest total) 136) (hx : xs.length = 8) (hl : rest.size + s.size ≤ 281474976710656) (ht : total + s.size < 18446744073709551616) :
    Calls Tryd.prog 54 #[.pointer (some ⟨gh, 0, none⟩), .string s] w fun e w' => e = .returned (.tuple #[]) ∧
      Blk w' gh (hcells (blks xs (rest ++ s) ((rest ++ s).size / 64)) (tailOf (rest ++ s) ((rest ++ s).size / 64)) (total + s.size : Nat)) 136 ∧ Upd (fun k => k = gh) w w' := by
  have hsz : (rest ++ s).size = rest.size + s.size := by simp
  have c9 : w.cell? ⟨gh, 9, none⟩ = some (.int .u64 total) := hb.cell 9 _ (by simp [hcells, u32s, hx])
  have c8 : w.cell? ⟨gh, 8, none⟩ = some (.string rest) := hb.cell 8 _ (by simp [hcells, u32s, hx])
  have f9 : w.frozen? ⟨gh, 9, none⟩ = false := hb.frozen 9
  have eW : IntKind.u64.wrap ((s.size : Int)) = s.size := u64_in _ (by omega) (by omega)
  have eT : IntKind.u64.wrap ((total : Int) + s.size) = (total + s.size : Nat) := by
    rw [u64_in _ (by omega) (by omega)]
    rfl
  have hcl : ¬ 9223372036854775807 < rest.size + s.size := by omega
  have HX := Lib.hid hx
  have HB := Lib.hid hb
  have HL := Lib.hid hl
  have HSZ := Lib.hid hsz
  clear hb hl hsz hx
  go_enter Tryd.func54, Tryd.ntmps54
  go_wp2
  have hu0 : Hid (Upd (fun k => k = gh) w (w.setCell ⟨gh, 9, none⟩ (.int .u64 ((total : Int) + s.size)))) := Upd.setCell (S := fun k => k = gh) (p := ⟨gh, 9, none⟩) (Upd.refl _ _) (.inl rfl) _
  have hb0 : Hid (Blk (w.setCell ⟨gh, 9, none⟩ (.int .u64 ((total : Int) + s.size))) gh (hcells xs rest (total + s.size : Nat)) 136) := by
    have := HB.out.set 9 (.int .u64 ((total : Int) + s.size))
    rw [hcells_tot xs rest total _ HX.out] at this
    exact this
  clear c8 c9 f9 eW eT HB
  generalize w.setCell ⟨gh, 9, none⟩ _ = w1 at *
  go_loopw [1] (fun v wr => writeRel w gh xs (rest ++ s) rest (total + s.size : Nat) v wr) (fun v _ => (valStr v).size)
  case atStart => exact ⟨0, by omega, by rw [tail_zero], hb0.out, hu0.out⟩
  case round =>
    clear hb0 hu0
    obtain ⟨i, hi, rfl, hb, hu⟩ := hrel
    have hts := tail_size (rest ++ s) i
    have HI := Lib.hid hi
    by_cases hlt : 64 ≤ (tailOf (rest ++ s) i).size
    · have d8 : decide ((64 : Int) ≤ (tailOf (rest ++ s) i).size) = true := by simp; omega
      have hth := tail_head (rest ++ s) i hlt
      have htn := tail_next (rest ++ s) i
      have hs64 : Hid (((rest ++ s).extract (64 * i) (64 * i + 64)).size = 64) := by
        show _ = _
        rw [← hth, ByteArray.size_extract]; omega
      have hnx : Hid ((tailOf (rest ++ s) (i + 1)).size = (tailOf (rest ++ s) i).size - 64) := by
        show _ = _
        rw [tail_size, tail_size]; omega
      have HTS := Lib.hid hts
      have HB := Lib.hid hb
      have HU := Lib.hid hu
      have HBX : Hid (blks xs (rest ++ s) (i + 1) = cmp (blks xs (rest ++ s) i) ((rest ++ s).extract (64 * i) (64 * i + 64))) := rfl
      have HXL := Lib.hid (blks_len xs (rest ++ s) HX.out i)
      clear hb hu hts hi
      generalize (rest ++ s).extract (64 * i) (64 * i + 64) = blk at *
      generalize hTN : tailOf (rest ++ s) (i + 1) = tn at *
      have HTN := Lib.hid hTN
      clear hTN
      have HTI : Hid (64 * i + (tailOf (rest ++ s) i).size = (rest ++ s).size) := by
        have := HTS.out; have := HI.out; show _ = _; omega
      generalize tailOf (rest ++ s) i = ti at *
      go_wp2_with (go_at_call 68; refine (add_any _ gh (blks xs (rest ++ s) i) rest (total + s.size : Nat) _ HB.out HXL.out hs64.out).mono ?_; rintro e w2 ⟨rfl, hb2, hu2⟩)
      refine ⟨⟨i + 1, by have := HTI.out; omega, by rw [HTN.out], by rw [HBX.out]; exact hb2, HU.out.trans hu2 (fun _ h => .inl h)⟩, ?_⟩
      show tn.size < ti.size
      have := hnx.out
      omega
    · have hk : i = (rest ++ s).size / 64 := by omega
      have d8 : decide ((64 : Int) ≤ (tailOf (rest ++ s) i).size) = false := by simp; omega
      have HKI := Lib.hid hk
      have hcz : (tailOf (rest ++ s) i).size ≤ 281474976710656 := by have := HL.out; have := HSZ.out; omega
      have HB := Lib.hid hb
      have HU := Lib.hid hu
      have HXL := Lib.hid (blks_len xs (rest ++ s) HX.out i)
      have HTT : Hid (tailOf (rest ++ s) ((rest ++ s).size / 64) = tailOf (rest ++ s) i) := by show _ = _; rw [← HKI.out]
      clear hb hu hts hi hk
      generalize tailOf (rest ++ s) i = ti at *
      have HCZ := Lib.hid hcz
      clear hcz
      go_wp2_with (go_at_call 69; refine (strings_clone _ _ HCZ.out).mono ?_; rintro e w2 ⟨rfl, hbl⟩; have HB2 : Hid (Blk w2 gh _ _) := (hbl.block gh HB.out.lt).trans HB.out; have c82 : w2.cell? ⟨gh, 8, none⟩ = some (.string rest) := hcells_c8 HB2.out HXL.out; have f82 : w2.frozen? ⟨gh, 8, none⟩ = false := HB2.out.frozen 8; have HU2 : Hid (Upd (fun k => k = gh) w w2) := HU.out.trans (Upd.of_below hbl (fun _ => False)) (fun _ h => h.elim); clear hbl)
      go_end0
      refine ⟨rfl, ?_, Upd.setCell (p := ⟨gh, 8, none⟩) HU2.out (.inl rfl) _⟩
      have := HB2.out.set 8 (.string ti)
      rw [hcells_rest _ _ _ _ HXL.out] at this
      rw [HTT.out, ← HKI.out]
      exact this
end Go.Proofs.YtpmjipokkkkljaaDoor
namespace Go.Proofs.YtpmjipokkkkljaaDoor
set_option linter.all false
set_option linter.unusedVariables false
set_option linter.unusedSimpArgs false
open Go.RowKit Go.Proofs.YtpmjipokkkkljaaDoorW.PrintWords Go.Proofs.YtpmjipokkkkljaaDoorW.PrintLast Go.Proofs.YtpmjipokkkkljaaDoorW.PrintMore
def padZ (r : Nat) : Nat := (119 - r) % 64
theorem padZ_eq (r : Nat) (h : r < 64) : ((119 - (r : Int)).tmod 64) = padZ r := by
  rw [Int.tmod_eq_emod_of_nonneg (by omega)]
  unfold padZ
  omega
def zerosS (k : Nat) : ByteArray := ⟨(Lib.repeatL [0] k).toArray⟩
def padStr (r n : Nat) : ByteArray := (⟨#[128]⟩ ++ zerosS (padZ r) : ByteArray) ++ be8 (8 * n)
theorem repeatL_len (k : Nat) : (Lib.repeatL [(0 : UInt8)] k).length = k := by
  induction k with
  | zero => rfl
  | succ k ih => simp [Lib.repeatL, ih]; try omega
theorem zerosS_size (k : Nat) : (zerosS k).size = k := by simp only [zerosS, ByteArray.size, List.size_toArray, repeatL_len]
theorem be8_size (n : Nat) : (be8 n).size = 8 := by simp [be8, ByteArray.size]
theorem padStr_size (r n : Nat) : (padStr r n).size = padZ r + 9 := by
  have h1 := be8_size (8 * n)
  have h3 := zerosS_size (padZ r)
  simp only [padStr, ByteArray.size_append, h1]
  have h4 : ByteArray.size ⟨#[128]⟩ = 1 := rfl
  omega
def SumF (w : World) (gh g : Nat) (cs : Array Value) (W : World) : Prop := Blk W gh cs 136 ∧ Blk W g cs 136 ∧ Below w.heap.size w W
theorem SumF.step {w : World} {gh g : Nat} {cs : Array Value} {W W' : World} (h : SumF w gh g cs W) (hb : Below W.heap.size W W') (hg : w.heap.size ≤ W.heap.size) : SumF w gh g cs W' :=
  ⟨(hb.block gh h.1.lt).trans h.1, (hb.block g h.2.1.lt).trans h.2.1, h.2.2.trans (hb.mono hg)⟩
theorem SumF.step' {w : World} {gh g : Nat} {cs : Array Value} {W : World} {n : Nat} {W' : World} (h : SumF w gh g cs W) (hb : Below (W.drewN n).heap.size (W.drewN n) W') : Hid (SumF w gh g cs W') :=
  SumF.step (W := W.drewN n) ⟨h.1, h.2.1, h.2.2.drewN' n⟩ hb h.2.2.size
def SumG (w : World) (g : Nat) (xs : List Int) (t : ByteArray) (W : World) : Prop := (∃ r tot, Blk W g (hcells (blks xs t (t.size / 64)) r tot) 136) ∧ Below w.heap.size w W
def kB : Kd Int := Kd.int .u8
theorem conv_row {P : Program} (w : World) (src e dst : TypeId) (hs : P.underlying src = some (.slice e)) (he : P.underlying e = some (.int .u8)) (hd : P.underlying dst = some .string) (a : Addr) (cap : Nat) (xs : List Int)
    (hc : ∀ j (hj : j < xs.length), w.cell? (a.add j) = some (.int .u8 xs[j])) : (convert src dst (.slice (some a) xs.length cap)).run P w = .ok (.string (strOfNums xs)) w := by
  have hl := run_loadCells_list (P := P) w a (xs.map (Value.int .u8)) (fun j v hj => by
    have hj' : j < xs.length := by
      have := (List.getElem?_eq_some_iff.1 hj).1
      simpa using this
    rw [hc j hj']
    simp [List.getElem?_eq_getElem hj'] at hj
    rw [← hj])
  simp only [List.length_map] at hl
  rw [run_convert_bytes_string w src dst e (some a) xs.length cap hs he hd, run_bytesToString w a xs.length cap xs hl, foldl_push_bytes]
  simp [strOfNums, ByteArray.empty, ByteArray.emptyWithCapacity]
  rfl
theorem R_string {P : Program} {w : World} (src e dst : TypeId) (hs : P.underlying src = some (.slice e)) (he : P.underlying e = some (.int .u8)) (hd : P.underlying dst = some .string) {base : Nat} {ok : Nat → Prop} {v : Value} {xs : List Int} (h : kB.R e w base ok v xs) :
    (convert src dst v).run P w = .ok (.string (strOfNums xs)) w := by
  obtain ⟨A, c, rfl, _, hC⟩ := Kd.R_reads h
  rcases A with _ | a
  · rcases xs with _ | ⟨x, xs⟩
    · exact run_convert_bytes_nil w src e hs he _ _ dst hd
    · obtain ⟨ad, h1, _⟩ := hC.2.2 (by simp)
      cases h1
  · refine conv_row w src e dst hs he hd a c xs (fun j hj => ?_)
    obtain ⟨ad, h1, h2⟩ := hC.2.2 (by omega)
    cases h1
    obtain ⟨cs, _, h4, h5⟩ := h2 j xs[j] (List.getElem?_eq_getElem hj)
    have h4 : cs = [.int .u8 xs[j]] := h4
    have := h5 0 (.int .u8 xs[j]) (by rw [h4]; rfl)
    simpa [kB, Kd.int, Kd.scalar] using this
theorem reads4 {W : World} {N : Nat} {b0 b1 b2 b3 : Int} {e : TypeId} (h : Blk W N #[.int .u8 b0, .int .u8 b1, .int .u8 b2, .int .u8 b3] e) : ReadsRow (fun (x : Int) cs => cs = [Value.int .u8 x]) 1 W (some ⟨N, 0, none⟩) 4 [b0, b1, b2, b3] := by
  refine ⟨rfl, by omega, fun _ => ⟨_, rfl, fun j p hj => ⟨[.int .u8 p], rfl, rfl, fun i u hu => ?_⟩⟩⟩
  have hj4 : j < 4 := (List.getElem?_eq_some_iff.1 hj).1
  have hi : i = 0 := by
    have := (List.getElem?_eq_some_iff.1 hu).1
    simpa using this
  subst hi
  have hu : Value.int .u8 p = u := by simpa using hu
  subst hu
  rw [show (⟨N, 0, none⟩ : Addr).add (j * 1 + 0) = ⟨N, j, none⟩ by unfold Addr.add; split <;> simp_all]
  refine h.cell j _ ?_
  match j, hj4 with
  | 0, _ | 1, _ | 2, _ | 3, _ => simp at hj ⊢; exact hj
def wBytes (x : Int) : List Int := [x / 16777216 % 256, x / 65536 % 256, x / 256 % 256, x % 256]
/-- The digest of what was written. -/
def digest (xs : List Int) (rest : ByteArray) (total : Nat) : ByteArray := strOfNums ((blks xs (rest ++ padStr rest.size total) ((rest ++ padStr rest.size total).size / 64)).flatMap wBytes)
def outRel (w : World) (ys : List Int) (b v : Value) (wr : World) : Prop :=
  ∃ i : Nat, i ≤ 8 ∧ v = .int .i64 i ∧ kB.R 5 wr 0 (fun k => w.heap.size ≤ k) b ((ys.take i).flatMap wBytes) ∧ Upd (fun _ => False) w wr
set_option maxHeartbeats 1000000 in
set_option maxRecDepth 20000 in
theorem hash_sum (w : World) (gh : Nat) (xs : List Int) (rest : ByteArray) (total : Nat) (hb : Blk w gh (hcells xs rest total) 136) (hx : xs.length = 8) (hr : rest.size < 64) (ht : total ≤ 281474976710656) :
    Calls Tryd.prog 55 #[.pointer (some ⟨gh, 0, none⟩)] w fun e w' => e = .returned (.string (digest xs rest total)) ∧ Below w.heap.size w w' := by
  have HB := Lib.hid hb
  have HX := Lib.hid hx
  have HCL := Lib.hid (hash_clone w gh xs rest total hb hx)
  have HR := Lib.hid hr
  have HT := Lib.hid ht
  have hz : ((119 - (rest.size : Int)).tmod 64) = padZ rest.size := padZ_eq _ hr
  clear hb hx ht
  go_enter Tryd.func55, Tryd.ntmps55
  go_upto_region 3 with (go_at_call 70; refine HCL.out.mono ?_; rintro e w1 ⟨g, rfl, hg, hb1, hbl1⟩; have c8 : w1.cell? ⟨g, 8, none⟩ = some (.string rest) := hcells_c8 hb1 HX.out; have HF : Hid (SumF w gh g (hcells xs rest total) w1) := ⟨(hbl1.block gh HB.out.lt).trans HB.out, hb1, hbl1⟩; have HG := Lib.hid hg; clear hb1 hbl1 hg)
  have c9 : w1.cell? ⟨gh, 9, none⟩ = some (.int .u64 total) := hcells_c9 HF.out.1 HX.out
  have hz1 : ¬ 9223372036854775807 < 1 + (zerosS (padZ rest.size)).size := by rw [zerosS_size]; unfold padZ; omega
  have hz2 : ¬ 9223372036854775807 < 1 + (zerosS (padZ rest.size)).size + (be8 (8 * total)).size := by rw [zerosS_size, be8_size]; unfold padZ; omega
  have HN : Hid (∀ W, Calls Tryd.prog 71 #[.int .u64 (8 * (total : Int))] W fun e w' => e = .returned (.string (be8 (8 * total))) ∧ Below W.heap.size W w') := fun W => number_any W (8 * total) (by have := HT.out; omega)
  have HPS : Hid (rest.size + (padStr rest.size total).size ≤ 281474976710656) := by show _ ≤ _; rw [padStr_size]; unfold padZ; omega
  have HPT : Hid (total + (padStr rest.size total).size < 18446744073709551616) := by have := HT.out; show _ < _; rw [padStr_size]; unfold padZ; omega
  have eM : IntKind.u64.wrap (8 * (total : Int)) = 8 * (total : Int) := u64_in _ (by omega) (by have := HT.out; omega)
  go_cut [] (fun wx => SumG w g xs (rest ++ padStr rest.size total) wx)
  case first =>
    go_region_with (first
      | (go_at_call 30; refine (Tryd.strings_Repeat ⟨#[0]⟩ (padZ rest.size) _ (by unfold padZ; omega) (by show 1 * _ ≤ _; unfold padZ; omega)).mono ?_; rintro e w2 ⟨he, hbl2⟩; have he : e = .returned (.string (zerosS (padZ rest.size))) := he; subst he; have HF : Hid (SumF w gh g (hcells xs rest total) w2) := (by first | exact HF.out.step hbl2 HF.out.2.2.size | exact HF.out.step' hbl2); have c9 : w2.cell? ⟨gh, 9, none⟩ = some (.int .u64 total) := hcells_c9 HF.out.1 HX.out; clear hbl2)
      | (go_at_call 71; refine (HN.out _).mono ?_; rintro e w3 ⟨rfl, hbl3⟩; have HF : Hid (SumF w gh g (hcells xs rest total) w3) := (by first | exact HF.out.step hbl3 HF.out.2.2.size | exact HF.out.step' hbl3); clear hbl3)
      | (go_at_call 54; refine (write_any _ g xs rest total (padStr rest.size total) HF.out.2.1 HX.out (HPS.out) (HPT.out)).mono ?_; rintro e w4 ⟨rfl, hb4, hu4⟩; have HQ : Hid (SumG w g xs (rest ++ padStr rest.size total) w4) := ⟨⟨_, _, hb4⟩, HF.out.2.2.trans (hu4.below HF.out.2.2.size (fun k hk => by have := HG.out; omega))⟩; clear hb4 hu4))
    all_goals (go_wp2; go_meet; exact HQ.out)
  case rest =>
    clear HPS HPT HN eM hz1 hz2 c9 HF
    obtain ⟨⟨r, tot, hb⟩, hbl⟩ := hcut
    have hyl := blks_len xs (rest ++ padStr rest.size total) HX.out ((rest ++ padStr rest.size total).size / 64)
    have HYS : Hid (digest xs rest total = strOfNums ((blks xs (rest ++ padStr rest.size total) ((rest ++ padStr rest.size total).size / 64)).flatMap wBytes)) := rfl
    generalize blks xs (rest ++ padStr rest.size total) _ = ys at *
    match ys, hyl with
    | [y0, y1, y2, y3, y4, y5, y6, y7], _ =>
    have c0 : wc.cell? ⟨g, 0, none⟩ = some (.int .u32 y0) := hb.cell 0 _ rfl
    have c1 : wc.cell? ⟨g, 1, none⟩ = some (.int .u32 y1) := hb.cell 1 _ rfl
    have c2 : wc.cell? ⟨g, 2, none⟩ = some (.int .u32 y2) := hb.cell 2 _ rfl
    have c3 : wc.cell? ⟨g, 3, none⟩ = some (.int .u32 y3) := hb.cell 3 _ rfl
    have c4 : wc.cell? ⟨g, 4, none⟩ = some (.int .u32 y4) := hb.cell 4 _ rfl
    have c5 : wc.cell? ⟨g, 5, none⟩ = some (.int .u32 y5) := hb.cell 5 _ rfl
    have c6 : wc.cell? ⟨g, 6, none⟩ = some (.int .u32 y6) := hb.cell 6 _ rfl
    have c7 : wc.cell? ⟨g, 7, none⟩ = some (.int .u32 y7) := hb.cell 7 _ rfl
    have HBL := Lib.hid hbl
    clear hb hbl
    go_wp2
    have HAG : Hid (∀ (W : World) (i : Nat), i < 8 → (Instr.index 134 (.agg #[.int .u32 y0, .int .u32 y1, .int .u32 y2, .int .u32 y3, .int .u32 y4, .int .u32 y5, .int .u32 y6, .int .u32 y7]) (.int .i64 i)).run Tryd.prog W = .ok (.int .u32 ([y0, y1, y2, y3, y4, y5, y6, y7].getD i 0)) W) := fun W i hi => run_index8 W [y0, y1, y2, y3, y4, y5, y6, y7] i hi rfl
    have HYL : Hid ([y0, y1, y2, y3, y4, y5, y6, y7].length = 8) := rfl
    clear c0 c1 c2 c3 c4 c5 c6 c7
    generalize #[Value.int .u32 y0, .int .u32 y1, .int .u32 y2, .int .u32 y3, .int .u32 y4, .int .u32 y5, .int .u32 y6, .int .u32 y7] = ag at *
    generalize [y0, y1, y2, y3, y4, y5, y6, y7] = ys at *
    go_loopw [5, 33] (fun b v wr => outRel w ys b v wr) (fun _ v _ => 8 - (intOf v).toNat)
    case atStart => exact ⟨0, by omega, rfl, Kd.R_nil _ _ _ _ _, Upd.of_below HBL.out _⟩
    case round =>
      clear HBL
      obtain ⟨i, hi, rfl, hR, hU⟩ := hrel
      have HR' := Lib.hid hR
      have HU := Lib.hid hU
      clear hR hU
      by_cases hlt : i < 8
      · have d8 : decide ((i : Int) < 8) = true := by simp; omega
        have hix := fun W => HAG.out W i hlt
        generalize hx : ys.getD i 0 = x at hix
        have hnx : Hid ((ys.take (i + 1)).flatMap wBytes = (ys.take i).flatMap wBytes ++ wBytes x) := by
          show _ = _
          rw [List.take_add_one, List.flatMap_append]
          have : ys[i]? = some x := by rw [← hx, List.getD_eq_getElem?_getD]; rw [List.getElem?_eq_getElem (by rw [HYL.out]; exact hlt)]; rfl
          rw [this]; simp
        have hlen : Hid (((ys.take i).flatMap wBytes).length ≤ 1000) := by
          show _ ≤ _
          have : ∀ l : List Int, (l.flatMap wBytes).length = 4 * l.length := fun l => by
            induction l with
            | nil => rfl
            | cons y l ih => simp [List.flatMap_cons, ih, wBytes]; omega
          rw [this, List.length_take, HYL.out]; omega
        clear hx
        go_wp2_with (at_builtin; go_loud (refine Kd.R_append_rows kB (Rr := fun (x : Int) cs => cs = [Value.int .u8 x]) (w0 := (wr.alloc (.cells #[.int .u8 (x / 16777216 % 256), .int .u8 (x / 65536 % 256), .int .u8 (x / 256 % 256), .int .u8 (x % 256)] 5))) 0 rfl (.tmp 36) (.tmp 48) 92 5 (.int .u8 0) 1 rfl Tryd.underlying92 (by kernel_rfl) rfl (by decide) (by decide) _ ((ys.take i).flatMap wBytes) (wBytes x) (some ⟨wr.heap.size, 0, none⟩) 4 4 (fun k => w.heap.size ≤ k) (fun _ => False) rfl rfl (Kd.R_below HR'.out ((Below.refl _ _).alloc (Nat.le_refl _) _)) (reads4 (Blk.new _ _ _)) (fun _ _ h => h) (fun _ h => h.elim) (fun k hk => Nat.le_trans (Nat.le_trans HU.out.size ((Below.refl wr.heap.size wr).alloc (Nat.le_refl _) _).size) hk) (Below.refl _ _) (Nat.zero_le _) (by have := hlen.out; omega) ?_); intro v1 w2 hR1 hb1 hg1 ho1)
        go_roundw
        case rel => exact ⟨i + 1, by omega, by go_num, by rw [hnx.out]; exact hR1, (HU.out.alloc _).app hg1 (fun k hk => .inr (HR'.out.1 k hk))⟩
        case measure => simp [intOf]; omega
      · obtain rfl : i = 8 := by omega
        have hcv := R_string (P := Tryd.prog) 92 5 9 Tryd.underlying92 Tryd.underlying5 Tryd.underlying9 HR'.out
        go_wp2
        go_ret
        refine ⟨?_, HU.out.below_all⟩
        rw [show ys.take 8 = ys from List.take_of_length_le (by rw [HYL.out]; exact Nat.le_refl _), ← HYS.out]
        rfl
end Go.Proofs.YtpmjipokkkkljaaDoor
namespace Go.Proofs.YtpmjipokkkkljaaDoor
set_option linter.all false
set_option linter.unusedVariables false
set_option linter.unusedSimpArgs false
open Go.RowKit Go.Proofs.YtpmjipokkkkljaaDoorW.PrintWords Go.Proofs.YtpmjipokkkkljaaDoorW.PrintLast Go.Proofs.YtpmjipokkkkljaaDoorW.PrintMore
def sha (s : ByteArray) : ByteArray := digest (blks h0List s (s.size / 64)) (tailOf s (s.size / 64)) s.size
theorem wBytes_len (l : List Int) : (l.flatMap wBytes).length = 4 * l.length := by
  induction l with
  | nil => rfl
  | cons y l ih => simp [List.flatMap_cons, ih, wBytes]; omega
theorem digest_size (xs : List Int) (rest : ByteArray) (total : Nat) (h : xs.length = 8) : (digest xs rest total).size = 32 := by
  have : (digest xs rest total).size = ((blks xs (rest ++ padStr rest.size total) ((rest ++ padStr rest.size total).size / 64)).flatMap wBytes).length := by
    simp only [digest, strOfNums, ByteArray.size, List.size_toArray, List.length_map]
  rw [this, wBytes_len, blks_len _ _ h]
theorem sha_size (s : ByteArray) : (sha s).size = 32 := digest_size _ _ _ (blks_len _ _ rfl _)
theorem empty_append' (s : ByteArray) : ByteArray.empty ++ s = s := by simp
theorem sum_any (s : ByteArray) (w : World) (h : s.size ≤ 281474976710656) :
    Calls Tryd.prog 35 #[.string s] w fun e w' => e = .returned (.string (sha s)) ∧ Below w.heap.size w w' := by
  have H := Lib.hid h
  clear h
  go_enter Tryd.func35, Tryd.ntmps35
  go_wp2_with (first
    | (go_at_call 53; refine (hash_new _).mono ?_; rintro e w1 ⟨g, rfl, hg, hb1, hbl1⟩)
    | (go_at_call 54; refine (write_any _ g h0List ByteArray.empty 0 s hb1 rfl (by have := H.out; show 0 + _ ≤ _; omega) (by have := H.out; omega)).mono ?_; rintro e w2 ⟨rfl, hb2, hu2⟩; rw [empty_append', Nat.zero_add] at hb2)
    | (go_at_call 55; refine (hash_sum _ g _ _ s.size hb2 (blks_len _ _ rfl _) (by rw [tail_size]; omega) H.out).mono ?_; rintro e w3 ⟨rfl, hbl3⟩))
  go_ret
  exact ⟨rfl, (hbl1.trans (hu2.below hbl1.size (fun k hk => by omega))).trans (hbl3.mono (Nat.le_trans hbl1.size hu2.size))⟩
end Go.Proofs.YtpmjipokkkkljaaDoor
namespace Go.Proofs.YtpmjipokkkkljaaDoor
set_option linter.all false
set_option linter.unusedVariables false
set_option linter.unusedSimpArgs false
open Go.RowKit Go.Proofs.YtpmjipokkkkljaaDoorW.PrintWords Go.Proofs.YtpmjipokkkkljaaDoorW.PrintLast Go.Proofs.YtpmjipokkkkljaaDoorW.PrintMore
/-- A number as bytes, most significant first; the first i written from behind. -/
def bigCells (n : Int) (m i : Nat) : List Value := (List.range m).map fun j => .int .u8 (if m - 1 - j < i then n / 2 ^ (8 * (m - 1 - j)) % 256 else 0)
def bigS (n : Int) (m : Nat) : ByteArray := strOfNums ((List.range m).map fun j => n / 2 ^ (8 * (m - 1 - j)) % 256)
theorem bigCells_len (n : Int) (m i : Nat) : (bigCells n m i).length = m := by simp [bigCells]
theorem bigCells_set (n : Int) (m i : Nat) (hi : i < m) : (bigCells n m i).set (m - 1 - i) (.int .u8 (n / 2 ^ (8 * i) % 256)) = bigCells n m (i + 1) := by
  apply List.ext_getElem
  · simp [bigCells]
  · intro j h1 h2
    simp only [bigCells, List.length_map, List.length_range] at h2
    rw [List.getElem_set]
    by_cases e : m - 1 - i = j
    · subst e
      rw [if_pos rfl]
      simp only [bigCells, List.getElem_map, List.getElem_range]
      rw [show m - 1 - (m - 1 - i) = i by omega, if_pos (by omega)]
    · rw [if_neg e]
      simp only [bigCells, List.getElem_map, List.getElem_range]
      by_cases q : m - 1 - j < i
      · rw [if_pos q, if_pos (by omega)]
      · rw [if_neg q, if_neg (by omega)]
theorem bigCells_all (n : Int) (m : Nat) (j : Nat) (hj : j < m) : (bigCells n m m)[j]? = some (.int .u8 (n / 2 ^ (8 * (m - 1 - j)) % 256)) := by
  rw [List.getElem?_eq_getElem (by rw [bigCells_len]; exact hj)]
  simp only [bigCells, List.getElem_map, List.getElem_range]
  rw [if_pos (by omega)]
theorem bigS_size (n : Int) (m : Nat) : (bigS n m).size = m := by simp only [bigS, strOfNums_size, List.length_map, List.length_range]
def bigRel (w : World) (g : Nat) (n : Int) (m : Nat) (v : Value) (wr : World) : Prop :=
  ∃ i : Nat, i ≤ m ∧ v = .int .i64 i ∧ Blk wr g (bigCells n m i).toArray 5 ∧ Below w.heap.size w wr
theorem made_big (n : Int) (m : Nat) : madeCells #[.int .u8 0] m = (bigCells n m 0).toArray := by
  have e : bigCells n m 0 = List.replicate m (.int .u8 0) := by
    simp only [bigCells, Nat.not_lt_zero, if_false]
    rw [List.map_const', List.length_range]
  rw [e]
  apply Array.ext
  · simp [madeCells]
  · intro i h1 h2
    simp [madeCells, Nat.mod_one]
theorem infoB : (Tryd.prog.info? 5).map (fun i => (i.zero, i.size, i.bytes)) = some (some (.int .u8 0), 1, 1) := by kernel_rfl
theorem big_any (w : World) (n : Int) (m : Nat) (hm : 1 ≤ m) (hm8 : m ≤ 8) :
    Calls Tryd.prog 36 #[.int .i64 n, .int .i64 m] w fun e w' => e = .returned (.string (bigS n m)) ∧ Below w.heap.size w w' := by
  go_enter Tryd.func36, Tryd.ntmps36
  have hmk := run_make_row' (P := Tryd.prog) 92 5 (.int .u8 0) 1 Tryd.underlying92 infoB rfl .i64 .i64 m (by omega) (by omega)
  go_wp2
  have hb0 : Hid (Blk (w.alloc (.cells (madeCells #[.int .u8 0] m) 5 (0, 0))) w.heap.size (bigCells n m 0).toArray 5) := by
    have := Blk.new w (madeCells #[.int .u8 0] m) 5
    rw [made_big n m] at this
    rw [made_big n m]
    exact this
  have hbl0 : Hid (Below w.heap.size w (w.alloc (.cells (madeCells #[.int .u8 0] m) 5 (0, 0)))) := (Below.refl _ _).alloc (Nat.le_refl _) _
  generalize hG : w.heap.size = g at hb0 ⊢
  have HG := Lib.hid hG
  clear hG hmk
  go_loopw [11] (fun v wr => bigRel w g n m v wr) (fun v _ => m - (intOf v).toNat)
  case atStart => exact ⟨0, by omega, rfl, hb0.out, hbl0.out⟩
  case round =>
    clear hb0 hbl0
    obtain ⟨i, hi, rfl, hb, hbl⟩ := hrel
    by_cases hlt : i < m
    · have d8 : decide ((i : Int) < m) = true := by simp; omega
      obtain ⟨k, hk⟩ : ∃ k, k = m - 1 - i := ⟨_, rfl⟩
      have hset := bigCells_set n m i hlt
      rw [← hk] at hset
      have hkm : k < m := by omega
      have ek : (m : Int) - 1 - i = k := by omega
      have e0 : (m : Int) - 1 = ((m - 1 : Nat) : Int) := by omega
      have hc := hb.cell k _ (by simp only [List.getElem?_toArray]; exact List.getElem?_eq_getElem (by rw [bigCells_len]; exact hkm))
      have hf := hb.frozen k
      have HB := Lib.hid hb
      have HBL := Lib.hid hbl
      have HS := Lib.hid hset
      have i8 : (i : Int) < 8 := by omega
      have m8 : (m : Int) ≤ 8 := by omega
      have k0 : (k : Int) < m := by omega
      clear hb hbl hset hk e0
      go_wp2
      refine ⟨⟨i + 1, by omega, by go_num, ?_, HBL.out.trans ((Upd.setCell (S := fun k => k = g) (p := ⟨g, k, none⟩) (Upd.refl _ wr) (.inl rfl) _).below HBL.out.size (fun k hk => by have := HG.out; omega))⟩, by simp [intOf]; omega⟩
      have := HB.out.set k (.int .u8 (n / 2 ^ (8 * i) % 256))
      rw [List.setIfInBounds_toArray, HS.out] at this
      exact this
    · obtain rfl : i = m := by omega
      have d8 : decide ((i : Int) < i) = false := by simp
      have HBL := Lib.hid hbl
      have hcv : (convert 92 9 (.slice (some ⟨g, 0, none⟩) i i)).run Tryd.prog wr = .ok (.string (bigS n i)) wr := by
        have := conv_row (P := Tryd.prog) wr 92 5 9 Tryd.underlying92 Tryd.underlying5 Tryd.underlying9 ⟨g, 0, none⟩ i ((List.range i).map fun j => n / 2 ^ (8 * (i - 1 - j)) % 256) (fun j hj => by
          have hj8 : j < i := by simpa using hj
          rw [show (⟨g, 0, none⟩ : Addr).add j = ⟨g, j, none⟩ by unfold Addr.add; split <;> simp_all]
          rw [hb.cell j _ (by simp only [List.getElem?_toArray]; exact bigCells_all n i j hj8)]
          simp)
        rw [List.length_map, List.length_range] at this
        exact this
      clear hb hbl
      go_wp2
      go_ret
      exact ⟨rfl, HBL.out⟩
/-- A journal's data. -/
structure JD where
  dsk : Nat
  first : Int
  count : Int
  epoch : Int
  recs : List ByteArray
  next : Int
  chain : ByteArray
def jcells (J : JD) (rv : Value) : Array Value := #[.pointer (some ⟨J.dsk, 0, none⟩), .int .i64 J.first, .int .i64 J.count, .int .i64 J.epoch, rv, .int .i64 J.next, .string J.chain]
/-- Block j holds the journal J; its records lie in blocks of F. -/
def IsJ (w : World) (F : Nat → Prop) (j : Nat) (J : JD) : Prop := ∃ rv, Blk w j (jcells J rv) 84 ∧ F j ∧ Kd.string.R 9 w 0 F rv J.recs ∧ ∀ k, F k → k < w.heap.size
theorem free_any (w : World) (F : Nat → Prop) (j : Nat) (J : JD) (h : IsJ w F j J) (h1 : -9223372036854775808 ≤ J.count - J.next) (h2 : J.count - J.next ≤ 9223372036854775807) :
    Calls Tryd.prog 23 #[.pointer (some ⟨j, 0, none⟩)] w fun e w' => e = .returned (.int .i64 (J.count - J.next)) ∧ Drawn0 w w' := by
  obtain ⟨rv, hb, _, hR, _⟩ := h
  have c2 : w.cell? ⟨j, 2, none⟩ = some (.int .i64 J.count) := hb.cell 2 _ rfl
  have c5 : w.cell? ⟨j, 5, none⟩ = some (.int .i64 J.next) := hb.cell 5 _ rfl
  have e1 : IntKind.i64.wrap (J.count - J.next) = J.count - J.next := IntWalk.i64_in _ ⟨h1, h2⟩
  clear hb hR
  go_enter Tryd.func23, Tryd.ntmps23
  go_wp2
  go_quiet (fail)
  go_wp2
  go_ret
  exact ⟨rfl, ⟨nq, rfl⟩⟩
theorem records_any (w : World) (F : Nat → Prop) (j : Nat) (J : JD) (h : IsJ w F j J) (hl : J.recs.length ≤ 1000000) :
    Calls Tryd.prog 22 #[.pointer (some ⟨j, 0, none⟩)] w fun e w' => ∃ v, e = .returned v ∧ Kd.string.R 9 w' 0 (fun k => w.heap.size ≤ k) v J.recs ∧ Below w.heap.size w w' := by
  obtain ⟨rv, hb, _, hR, _⟩ := h
  have c4 : w.cell? ⟨j, 4, none⟩ = some rv := hb.cell 4 _ rfl
  obtain ⟨A, c, rfl, _, hC⟩ := Kd.R_reads hR
  have HC := Lib.hid hC
  have HL := Lib.hid hl
  clear hb hR hC hl
  go_enter Tryd.func22, Tryd.ntmps22
  go_wp2_with (at_builtin; go_loud (refine Kd.R_append_rows Kd.string (Rr := Kd.string.K w) (w0 := w) w.heap.size rfl (.const (.slice none 0 0)) (.tmp 6) 22 9 (.string ⟨#[]⟩) 16 rfl Tryd.underlying22 (by kernel_rfl) rfl (by decide) (by decide) (.slice none 0 0) [] J.recs A J.recs.length c (fun k => w.heap.size ≤ k) (fun _ => False) rfl rfl (Kd.R_nil _ _ _ _ _) HC.out (fun _ _ h => h) (fun _ h => h.elim) (fun k hk => hk) (Below.refl _ _) (Nat.le_refl _) (by have := HL.out; simp; omega) ?_); intro v1 w1 hR1 hb1 hg1 ho1)
  go_ret
  exact ⟨_, rfl, Kd.R_lower hR1 (Nat.zero_le _), hb1⟩
end Go.Proofs.YtpmjipokkkkljaaDoor
