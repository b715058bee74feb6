/-
  Part of the proof of cd_card: the lemmas of Append that it uses.
-/
import Derived.Test.YtpmjipokkkkljaaDoorQSums
import Derived.Test.YtpmjipokkkkljaaDoorQRegs
import Derived.Test.YtpmjipokkkkljaaDoorQParse
namespace Go.Proofs.YtpmjipokkkkljaaDoor
set_option linter.all false
set_option linter.unusedVariables false
set_option linter.unusedSimpArgs false
open Go.RowKit Go.Proofs.YtpmjipokkkkljaaDoorW.PrintWords Go.Proofs.YtpmjipokkkkljaaDoorW.PrintLast Go.Proofs.YtpmjipokkkkljaaDoorW.PrintMore
/-- The pages of a record. -/
def needN (n : Nat) : Nat := max 1 ((n + 436) / 437)
theorem need_ok (n : Nat) (w : World) (h : n ≤ 65536) : Calls Tryd.prog 14 #[.int .i64 n] w fun e w' => e = .returned (.int .i64 (needN n)) ∧ w = w' := by
  have q : decide ((n : Int) < 0) = false := by simp
  have q2 : decide ((65536 : Int) < n) = false := by simp; omega
  have q3 : (n : Int) ≤ 65536 := by omega
  clear h
  go_enter Tryd.func14, Tryd.ntmps14
  go_wp2
  go_ret
  exact ⟨by rw [show max (1 : Int) (((n : Int) + 437 - 1) / 437) = (needN n : Nat) from by unfold needN; omega]; rfl, rfl⟩
theorem append_full (w : World) (F : Nat → Prop) (j : Nat) (J : JD) (s : ByteArray) (hJ : IsJ w F j J) (h : s.size ≤ 65536) (hf : J.count - J.next < needN s.size) (h1 : -9223372036854775808 ≤ J.count - J.next) (h2 : J.count - J.next ≤ 9223372036854775807) :
    Calls Tryd.prog 19 #[.pointer (some ⟨j, 0, none⟩), .string s] w fun e w' => e = .returned (.int .i64 22) ∧ Drawn0 w w' := by
  have q : decide ((65536 : Int) < s.size) = false := by simp; omega
  have q2 : decide (J.count - J.next < (needN s.size : Int)) = true := by simpa using hf
  have HN := Lib.hid (need_ok s.size w h)
  have HF := Lib.hid (free_any w F j J hJ h1 h2)
  clear h hf hJ
  go_enter Tryd.func19, Tryd.ntmps19
  go_wp2_with (first | (go_at_call 14; refine HN.out.mono ?_; rintro e w' ⟨rfl, rfl⟩) | (go_at_call 23; refine HF.out.mono ?_; rintro e w' ⟨rfl, hd⟩))
  go_ret
  exact ⟨rfl, hd⟩
/-- What is still to be written ahead of page i of a record. -/
def restI (s : ByteArray) (i : Nat) : ByteArray := s.extract (437 * i) s.size
def pieceI (s : ByteArray) (i : Nat) : ByteArray := (restI s i).extract 0 (min (restI s i).size 437)
def lastI (s : ByteArray) (i : Nat) : Int := if (restI s i).size ≤ 437 then 1 else 0
/-- A page behind its check. -/
def bodyOf (epoch l : Int) (dg piece : ByteArray) : ByteArray := ((((bigS epoch 8 ++ strOfNums [l]) ++ bigS piece.size 2) ++ dg) ++ piece) ++ zerosS (437 - piece.size)
def bodyI (epoch : Int) (s : ByteArray) (i : Nat) : ByteArray := bodyOf epoch (lastI s i) (sha s) (pieceI s i)
def chainI (epoch : Int) (s c : ByteArray) : Nat → ByteArray
  | 0 => c
  | i + 1 => sealOf (chainI epoch s c i) (bodyI epoch s i)
def imageI (epoch : Int) (s c : ByteArray) (i : Nat) : ByteArray := chainI epoch s c (i + 1) ++ bodyI epoch s i
/-- The disk when i pages are written from page p on. -/
def diskI (d : DK) (epoch : Int) (s c : ByteArray) (p : Int) : Nat → DK
  | 0 => d
  | i + 1 => (diskI d epoch s c p i).write (p + i) (imageI epoch s c i)
theorem restI_size (s : ByteArray) (i : Nat) : (restI s i).size = s.size - 437 * i := by simp [restI, ByteArray.size_extract]
theorem pieceI_size (s : ByteArray) (i : Nat) : (pieceI s i).size = min (restI s i).size 437 := by rw [pieceI, ByteArray.size_extract]; omega
theorem strOfNums_one (l : Int) : (strOfNums [l]).size = 1 := by rw [strOfNums_size]; rfl
theorem bodyOf_size (epoch l : Int) (dg piece : ByteArray) (h1 : dg.size = 32) (h2 : piece.size ≤ 437) : (bodyOf epoch l dg piece).size = 480 := by
  simp only [bodyOf, ByteArray.size_append, bigS_size, strOfNums_one, zerosS_size, h1]; omega
theorem bodyI_size (epoch : Int) (s : ByteArray) (i : Nat) : (bodyI epoch s i).size = 480 := bodyOf_size _ _ _ _ (sha_size _) (by rw [pieceI_size]; omega)
theorem sealOf_size (c b : ByteArray) : (sealOf c b).size = 32 := sha_size _
theorem imageI_size (epoch : Int) (s c : ByteArray) (i : Nat) : (imageI epoch s c i).size = 512 := by
  rw [imageI, ByteArray.size_append, bodyI_size]
  show (sealOf _ _).size + 480 = 512
  rw [sealOf_size]
theorem chainI_size (epoch : Int) (s c : ByteArray) (h : c.size ≤ 1000) : ∀ i, (chainI epoch s c i).size ≤ 1000
  | 0 => h
  | i + 1 => by show (sealOf _ _).size ≤ 1000; rw [sealOf_size]; omega
theorem restI_next (s : ByteArray) (i : Nat) (h : 437 < (restI s i).size) : (restI s i).extract 437 (restI s i).size = restI s (i + 1) := by
  rw [restI_size] at *
  rw [restI, restI, ByteArray.extract_extract]
  congr 1
  omega
theorem diskI_dur (d : DK) (epoch : Int) (s c : ByteArray) (p : Int) : ∀ i, (diskI d epoch s c p i).dur = d.dur
  | 0 => rfl
  | i + 1 => by
    show (DK.record _ _).dur = _
    unfold DK.record
    split <;> exact diskI_dur d epoch s c p i
theorem diskI_pend (d : DK) (epoch : Int) (s c : ByteArray) (p : Int) : ∀ i, (diskI d epoch s c p i).pend = d.pend ++ (List.range i).map fun k => ⟨p + k, imageI epoch s c k⟩
  | 0 => by simp [diskI]
  | i + 1 => by
    have : (diskI d epoch s c p (i + 1)).pend = (diskI d epoch s c p i).pend ++ [⟨p + i, imageI epoch s c i⟩] := by
      show (DK.record _ _).pend = _
      unfold DK.record
      split <;> rfl
    rw [this, diskI_pend d epoch s c p i, List.range_succ, List.map_append, List.append_assoc]; rfl
theorem diskI_recd (d : DK) (epoch : Int) (s c : ByteArray) (p : Int) : ∀ i, (diskI d epoch s c p i).recd.length ≤ d.recd.length + i
  | 0 => Nat.le_refl _
  | i + 1 => by
    have ih := diskI_recd d epoch s c p i
    show (DK.record _ _).recd.length ≤ _
    unfold DK.record
    split
    · simp only [List.length_append, List.length_singleton]; omega
    · show (diskI d epoch s c p i).recd.length ≤ _; omega
/-- The memory of Append's loop: the disk is di, the journal's next page is nx and its chain ch. -/
def AppI (w : World) (FD FJ : Nat → Prop) (b j : Nat) (J : JD) (di : DK) (nx : Int) (ch : ByteArray) (W : World) : Prop :=
  ∃ F rv, IsDisk W F b di ∧ (∀ k, F k → FD k ∨ w.heap.size ≤ k) ∧ Blk W j (jcells { J with next := nx, chain := ch } rv) 84 ∧ Kd.string.R 9 W 0 FJ rv J.recs ∧ Upd (fun k => FD k ∨ FJ k) w W
theorem AppI.step {w : World} {FD FJ : Nat → Prop} {b j : Nat} {J : JD} {di : DK} {nx : Int} {ch : ByteArray} {W W' : World} (h : AppI w FD FJ b j J di nx ch W) (hb : Below W.heap.size W W') : AppI w FD FJ b j J di nx ch W' := by
  obtain ⟨F, rv, h1, h2, h3, h4, h5⟩ := h
  have hu := Upd.of_below hb (fun _ => False)
  exact ⟨F, rv, h1.upd hu (fun _ _ h => h), h2, h3.upd hu (fun h => h), Kd.R_below h4 hb, h5.trans hu (fun _ h => h.elim)⟩
theorem AppI.set {w : World} {FD FJ : Nat → Prop} {b j : Nat} {J : JD} {di : DK} {nx : Int} {ch : ByteArray} {W : World} (h : AppI w FD FJ b j J di nx ch W) (hj : FJ j) (hlt : ∀ k, FJ k → k < w.heap.size) (hdis : ∀ k, FD k → ¬ FJ k) (nx' : Int) (ch' : ByteArray) (i : Nat) (v : Value)
    (hc : ∀ rv, (jcells { J with next := nx, chain := ch } rv).setIfInBounds i v = jcells { J with next := nx', chain := ch' } rv) : AppI w FD FJ b j J di nx' ch' (W.setCell ⟨j, i, none⟩ v) := by
  obtain ⟨F, rv, h1, h2, h3, h4, h5⟩ := h
  have hu : Upd (fun k => k = j) W (W.setCell ⟨j, i, none⟩ v) := Upd.setCell (S := fun k => k = j) (p := ⟨j, i, none⟩) (Upd.refl _ _) (.inl rfl) _
  refine ⟨F, rv, h1.upd hu (fun k hk he => ?_), h2, ?_, Kd.R_set h4 h3 (fun q hq => by rw [show q = 9 by simpa [Kd.string, Kd.scalar] using hq]; decide) i _, h5.trans hu (fun k hk => .inl (.inr (hk ▸ hj)))⟩
  · subst he
    rcases h2 k hk with h | h
    · exact hdis k h hj
    · have := hlt k hj; omega
  · have := h3.set i v
    rwa [hc rv] at this
theorem AppI.disk {w : World} {FD FJ : Nat → Prop} {b j : Nat} {J : JD} {di' : DK} {nx : Int} {ch : ByteArray} {W W' : World} {F : Nat → Prop} {rv v : Value} {e : Ending} (h2 : ∀ k, F k → FD k ∨ w.heap.size ≤ k) (h3 : Blk W j (jcells { J with next := nx, chain := ch } rv) 84) (h4 : Kd.string.R 9 W 0 FJ rv J.recs) (h5 : Upd (fun k => FD k ∨ FJ k) w W)
    (hj : FJ j) (hlt : ∀ k, FJ k → k < w.heap.size) (hdis : ∀ k, FD k → ¬ FJ k) (hp : DPost W F b di' v e W') : e = .returned v ∧ AppI w FD FJ b j J di' nx ch W' := by
  obtain ⟨he, F', hF', hd, hu⟩ := hp
  have hn : ∀ k, FJ k → ¬ F k := fun k hk hf => by
    rcases h2 k hf with h | h
    · exact hdis k h hk
    · have := hlt k hk; omega
  refine ⟨he, F', rv, hd, fun k hk => ?_, h3.upd hu (hn j hj), Kd.R_step h4 (fun k hk hl => hu.block k hl (hn k hk)), h5.trans hu (fun k hk => ?_)⟩
  · rcases hF' k hk with h | h
    · exact h2 k h
    · exact .inr (Nat.le_trans h5.size h)
  · exact (h2 k hk).imp .inl id
end Go.Proofs.YtpmjipokkkkljaaDoor
