/-
  Part of the proof of cd_card: the lemmas of AppendT that it uses.
-/
import Derived.Test.YtpmjipokkkkljaaDoorQAppend
import Derived.Deep.DrawnRows
namespace Go.Proofs.YtpmjipokkkkljaaDoor
set_option linter.all false
set_option linter.unusedVariables false
set_option linter.unusedSimpArgs false
open Go.RowKit Go.Proofs.YtpmjipokkkkljaaDoorW.PrintWords Go.Proofs.YtpmjipokkkkljaaDoorW.PrintLast Go.Proofs.YtpmjipokkkkljaaDoorW.PrintMore
theorem bcell {W w1 : World} (hb : Below W.heap.size W w1) : (∀ b o, b < W.heap.size → w1.cell? ⟨b, o, none⟩ = W.cell? ⟨b, o, none⟩) ∧ (∀ b o, b < W.heap.size → w1.frozen? ⟨b, o, none⟩ = W.frozen? ⟨b, o, none⟩) :=
  ⟨fun b o h => hb.cell (p := ⟨b, o, none⟩) h, fun b o h => hb.frozen (p := ⟨b, o, none⟩) h⟩
theorem bw0 {w Y Z : World} (h : Hid (Below w.heap.size w Y)) (hb : Below Y.heap.size Y Z) : Hid (Below w.heap.size w Z) := h.out.trans (hb.mono h.out.size)
theorem bw1 {w Y Z : World} (h : Hid (Below w.heap.size w Y)) (hb : Below Y.drew.heap.size Y.drew Z) : Hid (Below w.heap.size w Z) := bw0 (h.out.drewN' 1) hb
theorem bw2 {w Y Z : World} {o : Obj} (h : Hid (Below w.heap.size w Y)) (hb : Below (Y.alloc o).heap.size (Y.alloc o) Z) : Hid (Below w.heap.size w Z) := bw0 (h.out.alloc h.out.size o) hb
theorem bw3 {w Y Z : World} {o : Obj} (h : Hid (Below w.heap.size w Y)) (hb : Below (Y.alloc o).drew.heap.size (Y.alloc o).drew Z) : Hid (Below w.heap.size w Z) := bw1 (Lib.hid (h.out.alloc h.out.size o)) hb
theorem conv_one (l : Int) (W : World) (N : Nat) (h : W.cell? ⟨N, 0, none⟩ = some (.int .u8 l)) : (convert 92 9 (.slice (some ⟨N, 0, none⟩) 1 1)).run Tryd.prog W = .ok (.string (strOfNums [l])) W :=
  conv_row (P := Tryd.prog) W 92 5 9 Tryd.underlying92 Tryd.underlying5 Tryd.underlying9 ⟨N, 0, none⟩ 1 [l] (fun k hk => by
    have : k = 0 := by simpa using hk
    subst this
    exact h)
def AppRel (w : World) (FD FJ : Nat → Prop) (b j : Nat) (d : DK) (J : JD) (s : ByteArray) (v : Value) (W : World) : Prop :=
  ∃ i : Nat, v = .string (restI s i) ∧ 437 * i ≤ s.size ∧ (0 < i → 437 * i < s.size) ∧ AppI w FD FJ b j J (diskI d J.epoch s J.chain (J.first + J.next) i) (J.next + i) (chainI J.epoch s J.chain i) W
def AppPost (w : World) (FD FJ : Nat → Prop) (b j : Nat) (d : DK) (J : JD) (s : ByteArray) (e : Ending) (w' : World) : Prop :=
  e = .returned (.int .i64 0) ∧ ∃ FD' FJ' : Nat → Prop, (∀ k, FD' k → FD k ∨ w.heap.size ≤ k) ∧ (∀ k, FJ' k → FJ k ∨ w.heap.size ≤ k) ∧ (∀ k, FD' k → ¬ FJ' k) ∧
    IsDisk w' FD' b (diskI d J.epoch s J.chain (J.first + J.next) (needN s.size)).sync ∧ IsJ w' FJ' j { J with recs := J.recs ++ [s], next := J.next + needN s.size, chain := chainI J.epoch s J.chain (needN s.size) } ∧ Upd (fun k => FD k ∨ FJ k) w w'
/-- The record is put behind the others. -/
theorem append_end {w : World} {FD FJ F9 : Nat → Prop} {b j : Nat} {J : JD} {di : DK} {nx : Int} {ch s : ByteArray} {X w1 : World} {rv v1 : Value}
    (hd : IsDisk X F9 b di) (hF : ∀ k, F9 k → FD k ∨ w.heap.size ≤ k) (hb : Blk X j (jcells { J with next := nx, chain := ch } rv) 84) (hr : Kd.string.R 9 X 0 FJ rv J.recs) (hu : Upd (fun k => FD k ∨ FJ k) w X)
    (hj : FJ j) (hlt : ∀ k, FJ k → k < w.heap.size) (hdis : ∀ k, FD k → ¬ FJ k) (hg : X.grownBy w1 rv.ownBlock) (ho : Kd.string.R 9 w1 0 (fun k => FJ k ∨ X.heap.size ≤ k) v1 (J.recs ++ [s])) :
    ∃ FD' FJ' : Nat → Prop, (∀ k, FD' k → FD k ∨ w.heap.size ≤ k) ∧ (∀ k, FJ' k → FJ k ∨ w.heap.size ≤ k) ∧ (∀ k, FD' k → ¬ FJ' k) ∧
      IsDisk (w1.setCell ⟨j, 4, none⟩ v1) FD' b di ∧ IsJ (w1.setCell ⟨j, 4, none⟩ v1) FJ' j { J with recs := J.recs ++ [s], next := nx, chain := ch } ∧ Upd (fun k => FD k ∨ FJ k) w (w1.setCell ⟨j, 4, none⟩ v1) := by
  have hz := hg.size
  have hzu := hu.size
  have hown : ∀ k, rv.ownBlock = some k → FJ k := hr.1
  have hdl : ∀ k, F9 k → k < X.heap.size := by obtain ⟨_, _, _, _, _, _, _, _, _, _, _, h⟩ := hd; exact h
  have hn : ∀ k, FJ k → ¬ F9 k := fun k hk hf => by
    rcases hF k hf with h | h
    · exact hdis k h hk
    · have := hlt k hk; omega
  have u1 : Upd FJ X w1 := (Upd.refl _ _).grown hg (fun k hk => .inl (hown k hk))
  have u2 : Upd FJ X (w1.setCell ⟨j, 4, none⟩ v1) := Upd.setCell (p := ⟨j, 4, none⟩) u1 (.inl hj) _
  have c1 : Blk w1 j _ _ := (hg.block j hb.lt (Kd.R_ne hr hb (by decide))).trans hb
  refine ⟨F9, fun k => FJ k ∨ (X.heap.size ≤ k ∧ k < w1.heap.size), hF, fun k hk => hk.imp id (fun h => by omega), fun k hk hk2 => ?_, hd.upd u2 (fun k hk hs => hn k hs hk), ⟨v1, c1.set 4 _, .inl hj, ?_, fun k hk => ?_⟩, hu.trans u2 (fun k hk => .inl (.inr hk))⟩
  · rcases hk2 with h | h
    · exact hn k h hk
    · have := hdl k hk; omega
  · exact Kd.R_mono (R_fit (Kd.R_set ho c1 (fun q hq => by rw [show q = 9 by simpa [Kd.string, Kd.scalar] using hq]; decide) 4 _)) (fun k hk => hk.1.elim .inl (fun h => .inr ⟨h, by simpa using hk.2⟩))
  · rcases hk with h | h
    · have := hlt k h; simp; omega
    · simpa using h.2
set_option maxHeartbeats 4000000 in
set_option maxRecDepth 100000 in
theorem append_ok (w : World) (FD FJ : Nat → Prop) (b j : Nat) (d : DK) (J : JD) (s : ByteArray) (hd : IsDisk w FD b d) (hJ : IsJ w FJ j J) (hb : J.dsk = b) (hdis : ∀ k, FD k → ¬ FJ k)
    (hs : s.size ≤ 65536) (hf : needN s.size ≤ J.count - J.next) (hc : J.chain.size ≤ 1000) (h0 : 0 ≤ J.first) (h1 : 0 ≤ J.next) (h2 : J.first + J.count ≤ d.dur.length) (hn : d.dur.length ≤ 1000000) (hp : d.pend = []) (hr : d.recd.length ≤ 1000000) (hrl : J.recs.length ≤ 1000000) :
    Calls Tryd.prog 19 #[.pointer (some ⟨j, 0, none⟩), .string s] w (AppPost w FD FJ b j d J s) := by
  have q : decide ((65536 : Int) < s.size) = false := by simp; omega
  have q2 : decide (J.count - J.next < (needN s.size : Int)) = false := by simp; omega
  have hsz : (s.size : Int) ≤ 65536 := by omega
  have HN := Lib.hid (need_ok s.size w hs)
  have HF := Lib.hid (free_any w FJ j J hJ (by omega) (by omega))
  have HSUM := Lib.hid (fun W => sum_any s W (by omega))
  have HLJ : Hid (∀ k, FJ k → k < w.heap.size) := by obtain ⟨rv, _, _, _, h⟩ := hJ; exact h
  have HJJ : Hid (FJ j) := by obtain ⟨rv, _, h, _⟩ := hJ; exact h
  have hI : AppI w FD FJ b j J d J.next J.chain w := by
    obtain ⟨rv, h1, h2, h3, h4⟩ := hJ
    exact ⟨FD, rv, hd, fun k hk => .inl hk, h1, h3, Upd.refl _ _⟩
  have HI := Lib.hid hI
  have HDIS := Lib.hid hdis
  have HNEED : Hid (needN s.size ≤ J.count - J.next) := hf
  have HC := Lib.hid hc
  have HPN := Lib.hid hp
  have HB := Lib.hid hb
  have HRD : Hid (d.recd.length ≤ 1000000 ∧ J.recs.length ≤ 1000000) := ⟨hr, hrl⟩
  clear hs hf hJ hd hI hdis hc hp hb hr hrl
  go_enter Tryd.func19, Tryd.ntmps19
  go_wp2_with (first
    | (go_at_call 14; refine HN.out.mono ?_; rintro e w' ⟨rfl, rfl⟩)
    | (go_at_call 23; refine HF.out.mono ?_; rintro e w1 ⟨rfl, hd1⟩; have HD1 := Lib.hid hd1; clear hd1)
    | (go_at_call 35; refine (HSUM.out _).mono ?_; rintro e w2 ⟨rfl, hb2⟩; have HB2 := Lib.hid hb2; clear hb2))
  have HI2 : Hid (AppI w FD FJ b j J d J.next J.chain w2) := by
    obtain ⟨nq, rfl⟩ := HD1.out.out
    exact (HI.out.step ((Below.refl _ _).drewN' nq)).step HB2.out
  clear HI HD1 HB2 HN HF HSUM
  go_loopw [6] (fun v wr => AppRel w FD FJ b j d J s v wr) (fun v _ => (valStr v).size)
  case atStart => exact ⟨0, by rw [restI]; simp, by omega, by omega, by simpa [diskI, chainI] using HI2.out⟩
  case round =>
    clear HI2
    obtain ⟨i, rfl, hi, hi2, hI⟩ := hrel
    have HI := Lib.hid hI
    have hrs := restI_size s i
    have hps := pieceI_size s i
    have HCH : Hid ((chainI J.epoch s J.chain i).size ≤ 1000) := chainI_size _ _ _ HC.out i
    have HFIT : Hid (i + 1 ≤ needN s.size) := by
      show _ ≤ _
      unfold needN
      omega
    have HLAST : Hid ((restI s i).size ≤ 437 → needN s.size = i + 1) := fun h => by
      unfold needN
      omega
    have HNEXT : Hid (437 < (restI s i).size → (restI s i).extract 437 (restI s i).size = restI s (i + 1) ∧ (restI s (i + 1)).size < (restI s i).size ∧ 437 * (i + 1) < s.size) := fun h => ⟨restI_next s i h, by rw [restI_size, restI_size]; rw [restI_size] at h; omega, by omega⟩
    have HBODY : Hid (bodyI J.epoch s i = bodyOf J.epoch (lastI s i) (sha s) (pieceI s i)) := rfl
    have HPIECE : Hid (pieceI s i = (restI s i).extract 0 (min (restI s i).size 437)) := rfl
    have HLST : Hid (lastI s i = if (restI s i).size ≤ 437 then 1 else 0) := rfl
    have HIMG : Hid (chainI J.epoch s J.chain (i + 1) = sealOf (chainI J.epoch s J.chain i) (bodyI J.epoch s i)) := rfl
    have HBS := Lib.hid (bodyI_size J.epoch s i)
    have HRS := Lib.hid hrs
    clear hI hrs hps
    generalize restI s i = r at *
    generalize hgn : min r.size 437 = n at *
    have hmin : min (r.size : Int) 437 = n := by omega
    have HGN := Lib.hid hgn
    clear hgn
    have hrz : (r.size : Int) ≤ 65536 := by have := HRS.out; omega
    have hn0 : (n : Int) ≤ 437 := by have := HGN.out; omega
    have hnr : (n : Int) ≤ r.size := by have := HGN.out; omega
    obtain ⟨lb, hlb, HLB⟩ : ∃ lb : Bool, ((n : Int) == (r.size : Int)) = lb ∧ Hid ((lb = true ↔ r.size ≤ 437) ∧ lastI s i = if lb then 1 else 0) := by
      by_cases h : r.size ≤ 437
      · exact ⟨true, by rw [beq_iff_eq]; omega, by simp [h], by rw [HLST.out, if_pos h]; rfl⟩
      · exact ⟨false, by rw [beq_eq_false_iff_ne]; omega, by simp [h], by rw [HLST.out, if_neg h]; rfl⟩
    go_upto_if 30 with (fail)
    go_cut [8] (fun v wx => v = .int .u8 (lastI s i) ∧ wx = wr)
    case first =>
      cases lb with
      | true =>
        go_wp2
        go_meet
        exact ⟨by rw [HLB.out.2]; rfl, rfl⟩
      | false =>
        go_wp2
        go_meet
        exact ⟨by rw [HLB.out.2]; rfl, rfl⟩
    case rest =>
      obtain ⟨rfl, rfl⟩ := hcut
      clear hlb hmin
      generalize hl : lastI s i = l at *
      clear hl
      have c3 : wc.cell? ⟨j, 3, none⟩ = some (.int .i64 J.epoch) := by
        obtain ⟨F, rv, _, _, h3, _⟩ := HI.out
        exact h3.cell 3 _ rfl
      have hjl : j < wc.heap.size := by
        obtain ⟨F, rv, _, _, h3, _⟩ := HI.out
        exact h3.lt
      have e1 : IntKind.i64.wrap (437 - (n : Int)) = ((437 - n : Nat) : Int) := by rw [IntWalk.i64_in _ (by omega)]; omega
      have HB8 : Hid (∀ W, Calls Tryd.prog 36 #[.int .i64 J.epoch, .int .i64 8] W fun e w' => e = .returned (.string (bigS J.epoch 8)) ∧ Below W.heap.size W w') := fun W => big_any W J.epoch 8 (by omega) (by omega)
      have HB2 : Hid (∀ W, Calls Tryd.prog 36 #[.int .i64 n, .int .i64 2] W fun e w' => e = .returned (.string (bigS n 2)) ∧ Below W.heap.size W w') := fun W => big_any W n 2 (by omega) (by omega)
      have HRP : Hid (∀ W, Calls Tryd.prog 30 #[.string ⟨#[0]⟩, .int .i64 ((437 - n : Nat) : Int)] W fun e w' => e = .returned (.string (zerosS (437 - n))) ∧ Below W.heap.size W w') := fun W => Tryd.strings_Repeat ⟨#[0]⟩ (437 - n) W (by omega) (by show 1 * _ ≤ _; omega)
      have hcv := conv_one l
      have z8 : (bigS J.epoch 8).size = 8 := bigS_size _ _
      have z2 : (bigS n 2).size = 2 := bigS_size _ _
      have z1 : (strOfNums [l]).size = 1 := strOfNums_one l
      have z32 : (sha s).size = 32 := sha_size s
      have zp : (r.extract 0 n).size = n := by rw [ByteArray.size_extract]; omega
      have z0 : (zerosS (437 - n)).size = 437 - n := zerosS_size _
      go_wp2
      go_cut [9] (fun v wx => v = .string (bodyI J.epoch s i) ∧ AppI w FD FJ b j J (diskI d J.epoch s J.chain (J.first + J.next) i) (J.next + i) (chainI J.epoch s J.chain i) wx)
      case first =>
        have HBW : Hid (Below wc.heap.size wc wc) := Below.refl _ _
        go_region_with (first
          | (go_at_call 36; (with_reducible refine (HB8.out _).mono ?_); rintro e w3 ⟨rfl, hb3⟩; obtain ⟨hc3, hf3⟩ := bcell hb3; have hz3 := hb3.size; have HBW : Hid (Below wc.heap.size wc w3) := (by first | exact bw0 HBW hb3 | exact bw1 HBW hb3 | exact bw2 HBW hb3 | exact bw3 HBW hb3); (try simp at hz3); (try have hy3 := Nat.lt_of_succ_le hz3); clear hb3)
          | (go_at_call 36; (with_reducible refine (HB2.out _).mono ?_); rintro e w4 ⟨rfl, hb4⟩; obtain ⟨hc4, hf4⟩ := bcell hb4; have hz4 := hb4.size; have HBW : Hid (Below wc.heap.size wc w4) := (by first | exact bw0 HBW hb4 | exact bw1 HBW hb4 | exact bw2 HBW hb4 | exact bw3 HBW hb4); (try simp at hz4); (try have hy4 := Nat.lt_of_succ_le hz4); (try have hy34 := Nat.lt_of_lt_of_le hy3 hz4); clear hb4)
          | (go_at_call 30; (with_reducible refine (HRP.out _).mono ?_); rintro e w5 ⟨rfl, hb5⟩; obtain ⟨hc5, hf5⟩ := bcell hb5; have hz5 := hb5.size; have HBW : Hid (Below wc.heap.size wc w5) := (by first | exact bw0 HBW hb5 | exact bw1 HBW hb5 | exact bw2 HBW hb5 | exact bw3 HBW hb5); (try simp at hz5); (try have hy5 := Nat.lt_of_succ_le hz5); (try have hy45 := Nat.lt_of_lt_of_le hy4 hz5); (try have hy345 := Nat.lt_of_lt_of_le hy34 hz5); clear hb5))
        all_goals
          go_wp2
          go_meet
          refine ⟨by rw [HBODY.out, HPIECE.out]; unfold bodyOf; rw [zp], ?_⟩
          first
            | exact HI.out.step HBW.out
            | exact HI.out.step (HBW.out.drewN' 1)
            | exact HI.out.step (HBW.out.alloc HBW.out.size _)
            | exact HI.out.step ((HBW.out.alloc HBW.out.size _).drewN' 1)
      case rest =>
        obtain ⟨rfl, hI⟩ := hcut
        clear HI c3 hjl e1 HB8 HB2 HRP hcv z8 z2 z1 z32 zp z0
        have HI := Lib.hid hI
        clear hI
        have c6 : wc.cell? ⟨j, 6, none⟩ = some (.string (chainI J.epoch s J.chain i)) := by
          obtain ⟨F, rv, _, _, h3, _⟩ := HI.out
          exact h3.cell 6 _ rfl
        have l1 : ¬ 9223372036854775807 < 1 + (chainI J.epoch s J.chain i).size := by have := HCH.out; omega
        have l2 : ¬ 9223372036854775807 < 1 + (chainI J.epoch s J.chain i).size + (bodyI J.epoch s i).size := by have := HCH.out; have := HBS.out; omega
        have HSM : Hid (∀ W, Calls Tryd.prog 35 #[.string ((⟨#[8]⟩ ++ chainI J.epoch s J.chain i : ByteArray) ++ bodyI J.epoch s i)] W fun e w' => e = .returned (.string (chainI J.epoch s J.chain (i + 1))) ∧ Below W.heap.size W w') := fun W => sum_any _ W (by
          have := HCH.out; have := HBS.out
          simp only [ByteArray.size_append]
          have : ByteArray.size ⟨#[8]⟩ = 1 := rfl
          omega)
        have HDI : Hid (diskI d J.epoch s J.chain (J.first + J.next) (i + 1) = (diskI d J.epoch s J.chain (J.first + J.next) i).write (J.first + J.next + i) (chainI J.epoch s J.chain (i + 1) ++ bodyI J.epoch s i)) := rfl
        have HCN : Hid ((chainI J.epoch s J.chain (i + 1)).size ≤ 1000) := chainI_size _ _ _ HC.out (i + 1)
        have HIS : Hid ((chainI J.epoch s J.chain (i + 1) ++ bodyI J.epoch s i).size = 512) := imageI_size _ _ _ _
        generalize hbd : bodyI J.epoch s i = bd at *
        clear hbd
        go_wp2_with (go_at_call 35; refine (HSM.out _).mono ?_; rintro e w3 ⟨rfl, hb3⟩; have HI := Lib.hid (HI.out.step hb3); clear hb3; have f6 : w3.frozen? ⟨j, 6, none⟩ = false := (by obtain ⟨F, rv, _, _, h3, _⟩ := HI.out; exact h3.frozen 6); have c6 : w3.cell? ⟨j, 6, none⟩ = some (.string (chainI J.epoch s J.chain i)) := (by obtain ⟨F, rv, _, _, h3, _⟩ := HI.out; exact h3.cell 6 _ rfl))
        have HI4 := Lib.hid (HI.out.set HJJ.out HLJ.out HDIS.out (J.next + i) (chainI J.epoch s J.chain (i + 1)) 6 (.string (chainI J.epoch s J.chain (i + 1))) (fun rv => rfl))
        clear HI f6 c6 l1 l2 HSM
        generalize w3.setCell ⟨j, 6, none⟩ (.string (chainI J.epoch s J.chain (i + 1))) = W4 at *
        generalize hch : chainI J.epoch s J.chain (i + 1) = ch at *
        have HCHE := Lib.hid hch
        clear hch
        have HI5 : Hid (AppI w FD FJ b j J (diskI d J.epoch s J.chain (J.first + J.next) i) (J.next + i) ch W4.drew) := HI4.out.step ((Below.refl _ _).drewN' 1)
        have l3 : ¬ 9223372036854775807 < ch.size + bd.size := by have := HCN.out; have := HBS.out; omega
        have hnx : J.next + (i : Int) < J.count := by have := HNEED.out; have := HFIT.out; omega
        have e1 : IntKind.i64.wrap (J.first + (J.next + (i : Int))) = J.first + J.next + i := by rw [IntWalk.i64_in _ (by omega)]; omega
        obtain ⟨P0, P1, P5, P6⟩ : (∀ x : InC (fun W' : World => W' = W4.drew), x.w.cell? ⟨j, 0, none⟩ = some (.pointer (some ⟨b, 0, none⟩))) ∧ (∀ x : InC (fun W' : World => W' = W4.drew), x.w.cell? ⟨j, 1, none⟩ = some (.int .i64 J.first)) ∧
            (∀ x : InC (fun W' : World => W' = W4.drew), x.w.cell? ⟨j, 5, none⟩ = some (.int .i64 (J.next + i))) ∧ (∀ x : InC (fun W' : World => W' = W4.drew), x.w.cell? ⟨j, 6, none⟩ = some (.string ch)) := by
          obtain ⟨F, rv, _, _, h3, _⟩ := HI5.out
          have h0' := h3.cell 0 _ rfl
          simp only [HB.out] at h0'
          exact ⟨by rintro ⟨_, rfl⟩; exact h0', by rintro ⟨_, rfl⟩; exact h3.cell 1 _ rfl, by rintro ⟨_, rfl⟩; exact h3.cell 5 _ rfl, by rintro ⟨_, rfl⟩; exact h3.cell 6 _ rfl⟩
        refine wp_region_tail 20 (fun W' => W' = W4.drew) (by kernel_rfl) (by kernel_rfl) rfl (fun hne => ?_)
        simp only [List.take_succ_cons, List.take_zero, List.drop_succ_cons, List.drop_zero]
        repeat (go_big_quiet_step (fail))
        refine wpQuiet_nil ?_
        rintro _ ⟨⟨W', hW'⟩, rfl⟩
        subst hW'
        clear P0 P1 P5 P6 e1 l3 HI4 hne
        show wpList _ _ _ _ _ W4.drew
        generalize W4.drew = W5 at *
        obtain ⟨F5, rv5, hd5, hF5, hb5, hr5, hu5⟩ := HI5.out
        have HW := Lib.hid (write_ok W5 F5 b (diskI d J.epoch s J.chain (J.first + J.next) i) (J.first + J.next + i) (ch ++ bd) hd5 (by omega) (by rw [diskI_dur]; omega) HIS.out (by rw [diskI_pend, HPN.out]; simp; have := HFIT.out; have := HNEED.out; omega) (by have := diskI_recd d J.epoch s J.chain (J.first + J.next) i; have := HRD.out; have := HFIT.out; have := HNEED.out; omega))
        have HDK : Hid (∀ e W', DPost W5 F5 b ((diskI d J.epoch s J.chain (J.first + J.next) i).write (J.first + J.next + i) (ch ++ bd)) (.int .i64 0) e W' → e = .returned (.int .i64 0) ∧ AppI w FD FJ b j J (diskI d J.epoch s J.chain (J.first + J.next) (i + 1)) (J.next + i) ch W') := fun e W' hp => by
          rw [HDI.out]
          exact AppI.disk hF5 hb5 hr5 hu5 HJJ.out HLJ.out HDIS.out hp
        clear hd5 hF5 hb5 hr5 hu5
        go_upto_region 15 with (go_at_call 11; refine HW.out.mono ?_; rintro e w6 hp6; obtain ⟨rfl, hI6⟩ := HDK.out _ _ hp6; have HI6 := Lib.hid hI6; clear hp6 hI6; obtain ⟨c5, f5⟩ : w6.cell? ⟨j, 5, none⟩ = some (.int .i64 (J.next + i)) ∧ w6.frozen? ⟨j, 5, none⟩ = false := (by obtain ⟨F, rv, _, _, h3, _⟩ := HI6.out; exact ⟨h3.cell 5 _ rfl, h3.frozen 5⟩))
        have HI7 := Lib.hid (HI6.out.set HJJ.out HLJ.out HDIS.out (J.next + ((i + 1 : Nat) : Int)) ch 5 (.int .i64 (J.next + i + 1)) (fun rv => by simp [jcells]; omega))
        clear HI6 c5 f5 HW HDK HI5
        generalize w6.setCell ⟨j, 5, none⟩ (.int .i64 (J.next + i + 1)) = W7 at *
        obtain ⟨hlb1, hlb2⟩ := HLB.out
        have hn0 : (0 : Int) ≤ n := by omega
        cases lb with
        | false =>
          have hr1 : 437 < r.size := by
            have : ¬ r.size ≤ 437 := fun h => by have := hlb1.2 h; cases this
            omega
          obtain ⟨hx1, hx2, hx3⟩ := HNEXT.out hr1
          have hn437 : n = 437 := by have := HGN.out; omega
          have hl0 : l = 0 := hlb2
          subst hl0
          subst hn437
          have HX1 := Lib.hid hx1
          have HX2 := Lib.hid hx2
          have HX3 := Lib.hid hx3
          clear hlb1 hlb2 hx1 hx2 hx3
          go_wp2
          refine ⟨⟨i + 1, by rw [HX1.out], Nat.le_of_lt HX3.out, fun _ => HX3.out, ?_⟩, by rw [HX1.out]; exact HX2.out⟩
          rw [HCHE.out]
          exact HI7.out
        | true =>
          have hl1 : l = 1 := hlb2
          subst hl1
          have HI8 : Hid (AppI w FD FJ b j J (diskI d J.epoch s J.chain (J.first + J.next) (needN s.size)) (J.next + needN s.size) (chainI J.epoch s J.chain (needN s.size)) W7) := by
            show AppI _ _ _ _ _ _ _ _ _ _
            rw [HLAST.out (hlb1.1 rfl), HCHE.out]
            exact HI7.out
          clear hlb1 hlb2 HI7
          obtain ⟨F8, rv8, hd8, hF8, hb8, hr8, hu8⟩ := HI8.out
          have c0 : W7.cell? ⟨j, 0, none⟩ = some (.pointer (some ⟨b, 0, none⟩)) := by
            have h : W7.cell? ⟨j, 0, none⟩ = some (.pointer (some ⟨J.dsk, 0, none⟩)) := hb8.cell 0 _ rfl
            rw [HB.out] at h
            exact h
          have HSY := Lib.hid (sync_any W7 F8 b (diskI d J.epoch s J.chain (J.first + J.next) (needN s.size)) hd8 (by
            rw [diskI_pend, HPN.out, diskI_dur]
            intro x hx
            simp only [List.nil_append, List.mem_map, List.mem_range] at hx
            obtain ⟨k, hk, rfl⟩ := hx
            have := HNEED.out
            exact ⟨by show 0 ≤ J.first + J.next + (k : Int); omega, by show J.first + J.next + (k : Int) < _; omega⟩) (by have := diskI_recd d J.epoch s J.chain (J.first + J.next) (needN s.size); have := HRD.out; have := HNEED.out; omega) (by rw [diskI_pend, HPN.out]; simp; have := HNEED.out; omega))
          have HDK : Hid (∀ e W', DPost W7 F8 b (diskI d J.epoch s J.chain (J.first + J.next) (needN s.size)).sync (.tuple #[]) e W' → e = .returned (.tuple #[]) ∧ AppI w FD FJ b j J (diskI d J.epoch s J.chain (J.first + J.next) (needN s.size)).sync (J.next + needN s.size) (chainI J.epoch s J.chain (needN s.size)) W') := fun e W' hp => AppI.disk hF8 hb8 hr8 hu8 HJJ.out HLJ.out HDIS.out hp
          clear hd8 hF8 hb8 hr8 hu8
          go_upto_region 18 with (go_at_call 40; refine HSY.out.mono ?_; rintro e w9 hp9; obtain ⟨rfl, hI9⟩ := HDK.out _ _ hp9; have HI9 := Lib.hid hI9; clear hp9 hI9)
          obtain ⟨F9, rv9, hd9, hF9, hb9, hr9, hu9⟩ := HI9.out
          have c4 : w9.cell? ⟨j, 4, none⟩ = some rv9 := hb9.cell 4 _ rfl
          have hjl : j < w9.heap.size := hb9.lt
          have HR9 : Hid (Kd.string.R 9 w9 0 (fun k => FJ k ∨ w9.heap.size ≤ k) rv9 J.recs) := Kd.R_mono hr9 (fun k hk => .inl hk)
          have HB9 := Lib.hid hb9
          have HNE : Hid (some j ≠ rv9.ownBlock) := Kd.R_ne hr9 hb9 (by decide)
          have HEND : Hid (∀ w1 v1, w9.grownBy w1 rv9.ownBlock → Kd.string.R 9 w1 0 (fun k => FJ k ∨ w9.heap.size ≤ k) v1 (J.recs ++ [s]) → _) := fun w1 v1 hg ho => append_end (s := s) hd9 hF9 hb9 hr9 hu9 HJJ.out HLJ.out HDIS.out hg ho
          clear hd9 hF9 hb9 hr9 hu9 HSY HDK c0 HI9 HI8
          go_wp2_with (at_builtin; refine app_list (X := w9) Kd.string rfl (.tmp 106) (.tmp 108) 22 9 (.string ⟨#[]⟩) 16 rfl Tryd.underlying22 Pr.info9 rfl (by decide) (by omega) rv9 J.recs s [.string s] (fun k => FJ k ∨ w9.heap.size ≤ k) (by rfl) _ (by rfl) (by simp) rfl (fun k hk => .inr hk) HR9.out (by have := HRD.out; omega) ?_; intro v1 w10 ho hbel hg hat; obtain ⟨Av, cv, hv, hcv, hrd⟩ := Kd.R_reads ho; rw [List.length_append, List.length_singleton] at hv; subst hv; have HE := Lib.hid (HEND.out w10 _ hg ho); have c10 : w10.cell? ⟨j, 4, none⟩ = some rv9 := Blk.cell (show Blk w10 j _ _ from (hg.block j HB9.out.lt HNE.out).trans HB9.out) 4 _ rfl; have f10 : w10.frozen? ⟨j, 4, none⟩ = false := Blk.frozen (show Blk w10 j _ _ from (hg.block j HB9.out.lt HNE.out).trans HB9.out) 4; clear hrd ho hbel hg hat)
          go_ret
          exact ⟨rfl, HE.out⟩
end Go.Proofs.YtpmjipokkkkljaaDoor
