/-
  Part of the proof of cd_card: the lemmas of Parse that it uses.
-/
import Derived.Test.YtpmjipokkkkljaaDoorQSums
import Derived.Test.YtpmjipokkkkljaaDoorQRegs
import Derived.StillTailTactics
namespace Go.Proofs.YtpmjipokkkkljaaDoor
set_option linter.all false
set_option linter.unusedVariables false
set_option linter.unusedSimpArgs false
open Go.RowKit Go.Proofs.YtpmjipokkkkljaaDoorW.PrintWords Go.Proofs.YtpmjipokkkkljaaDoorW.PrintLast Go.Proofs.YtpmjipokkkkljaaDoorW.PrintMore
/-- A valid page. -/
structure PG where
  check : ByteArray
  digest : ByteArray
  data : ByteArray
  last : Bool
def pgCells (p : PG) : Array Value := #[.string p.check, .string p.digest, .string p.data, .bool p.last]
def pg0 : PG := ⟨ByteArray.empty, ByteArray.empty, ByteArray.empty, false⟩
def byteN (s : ByteArray) (i : Nat) : Nat := (s.data.toList.getD i 0).toNat
def lenOf (s : ByteArray) : Nat := byteN s 41 * 256 + byteN s 42
/-- What is hashed of a page. -/
def sealOf (chain body : ByteArray) : ByteArray := sha ((⟨#[8]⟩ ++ chain : ByteArray) ++ body)
def badHead (epoch : Int) (s chain : ByteArray) : Bool := s.size != 512 || sealOf chain (s.extract 32 s.size) != s.extract 0 32 || s.extract 32 40 != bigS epoch 8
def badBody (s : ByteArray) : Bool := decide (1 < byteN s 40) || decide (437 < lenOf s) || (byteN s 40 == 0 && lenOf s != 437) || (Lib.trimB (s.extract (75 + lenOf s) s.size).data.toList 0 != [])
def parseF (epoch : Int) (s chain : ByteArray) : Option PG :=
  if badHead epoch s chain || badBody s then none
  else some ⟨s.extract 0 32, s.extract 43 75, s.extract 75 (75 + lenOf s), byteN s 40 == 1⟩
theorem all_pg (p : PG) : (pgCells p).all (·.oneCell') = true := by
  rw [Array.all_eq_true']
  intro x hx
  simp [pgCells] at hx
  rcases hx with rfl | rfl | rfl | rfl <;> rfl
theorem allocP (W : World) : (Instr.alloc 90 true (.tuple #[])).run Tryd.prog W = .ok (.pointer (some ⟨W.heap.size, 0, none⟩)) (W.alloc (.cells (pgCells pg0) 90 (0, 0))) := by kernel_rfl
theorem infoP : (Tryd.prog.info? 90).map (·.size) = some 4 := by kernel_rfl
theorem ba_ne {a b : ByteArray} (h : a ≠ b) : (a != b) = true := by
  have : a.data ≠ b.data := fun e => h (ByteArray.ext e)
  show (!(a.data == b.data)) = true
  simp [this]
theorem ba_eq (a : ByteArray) : (a != a) = false := by
  show (!(a.data == a.data)) = false
  simp
theorem tl_ne {a b : ByteArray} (h : a ≠ b) : (a.toList == b.toList) = false := by
  rw [ByteArray.toList_eq, ByteArray.toList_eq, beq_eq_false_iff_ne]
  exact fun e => h (ByteArray.ext (Array.toList_inj.1 e))
def ParX (w : World) (g : Nat) (cs : Array Value) (W : World) : Prop := Blk W g cs 90 ∧ Below w.heap.size w W
theorem ParX.drew1 {w : World} {g : Nat} {cs : Array Value} {W : World} (h : Hid (ParX w g cs W)) : Hid (ParX w g cs W.drew) := ⟨h.out.1, h.out.2.drewN' 1⟩
theorem ParX.step1 {w : World} {g : Nat} {cs : Array Value} {W W' : World} (h : Hid (ParX w g cs W)) (hb : Below W.heap.size W W') : Hid (ParX w g cs W') := ⟨(hb.block g h.out.1.lt).trans h.out.1, h.out.2.trans (hb.mono h.out.2.size)⟩
/-- The head of a page is bad: the walk of the first test. -/
theorem badHead_size {epoch : Int} {s chain : ByteArray} (h : s.size ≠ 512) : badHead epoch s chain = true := by simp [badHead, h]
theorem badHead_seal {epoch : Int} {s chain : ByteArray} (h : sealOf chain (s.extract 32 s.size) ≠ s.extract 0 32) : badHead epoch s chain = true := by
  simp [badHead, ba_ne h]
theorem badHead_rest {epoch : Int} {s chain : ByteArray} (h0 : s.size = 512) (h : sealOf chain (s.extract 32 s.size) = s.extract 0 32) : badHead epoch s chain = (s.extract 32 40 != bigS epoch 8) := by
  have e : (s.size != 512) = false := by simp [h0]
  have e2 : (sealOf chain (s.extract 32 s.size) != s.extract 0 32) = false := by rw [h]; exact ba_eq _
  simp [badHead, e, e2]
theorem byteN_get (s : ByteArray) (i : Nat) (h : i < s.size) : (s[i]'h).toNat = byteN s i := by
  unfold byteN
  rw [List.getD_eq_getElem?_getD, List.getElem?_eq_getElem (by simpa using h)]
  rfl
theorem byteN_lt (s : ByteArray) (i : Nat) : byteN s i < 256 := by
  unfold byteN
  exact UInt8.toNat_lt _
theorem or_bytes (a b : Nat) (ha : a < 256) (hb : b < 256) : bits .or .i64 (wrap64 (wrap64 (a : Int) * 256)) (wrap64 (b : Int)) = ((a * 256 + b : Nat) : Int) := by
  have e1 : wrap64 (a : Int) = a := by unfold wrap64; omega
  have e2 : wrap64 (b : Int) = b := by unfold wrap64; omega
  have e3 : wrap64 ((a : Int) * 256) = (a : Int) * 256 := by unfold wrap64; omega
  rw [e1, e2, e3]
  have := bits_join .i64 62 (by decide) (fun n h0 h1 => by show IntKind.i64.wrap n = n; rw [IntKind.wrap_i64]; omega) 8 ((a : Int) * 256) b (by omega) (by omega) (by omega) (by omega) (by omega) (by omega)
  rw [this]; omega
def BodyRel (w : World) (g : Nat) (s : ByteArray) (n : Nat) (v : Value) (wx : World) : Prop := v = .bool (badBody s) ∧ (badBody s = false → n ≤ 437) ∧ ParX w g (pgCells pg0) wx
theorem BodyRel.bad {w : World} {g : Nat} {s : ByteArray} {n : Nat} {wx : World} (h : badBody s = true) (p : ParX w g (pgCells pg0) wx) : BodyRel w g s n (.bool true) wx := ⟨by rw [h], fun e => (by rw [h] at e; cases e), p⟩
def TrimC (t : ByteArray) (l : List UInt8) : Prop := ∀ W, Calls Tryd.prog 72 #[.string t, .string ⟨#[0]⟩] W fun e w' => e = .returned (.string ⟨l.toArray⟩) ∧ (w' = W ∨ w' = W.drew)
theorem trim0 (t : ByteArray) (h : t.size ≤ 9223372036854775807) : TrimC t (Lib.trimB t.data.toList 0) := fun W => Tryd.strings_Trim_one t 0 (by decide) W h
theorem eq1 (b : Nat) : ((b : Int) == 1) = (b == 1) := by
  rw [Bool.eq_iff_iff, beq_iff_eq, beq_iff_eq]
  omega
theorem jcell3 {w w1 : World} {j : Nat} {J : JD} {rv : Value} (h : Blk w j (jcells J rv) 84) (hb : Below w.heap.size w w1) : w1.cell? ⟨j, 3, none⟩ = some (.int .i64 J.epoch) := by
  have hb' : Blk w1 j (jcells J rv) 84 := (hb.block j h.lt).trans h
  exact hb'.cell 3 _ rfl
set_option maxHeartbeats 1000000 in
set_option maxRecDepth 20000 in
theorem parse_any (w : World) (j : Nat) (J : JD) (rv : Value) (s chain : ByteArray) (h : Blk w j (jcells J rv) 84) (hc : chain.size ≤ 1000) (hs : s.size ≤ 9223372036854775807) :
    Calls Tryd.prog 56 #[.pointer (some ⟨j, 0, none⟩), .string s, .string chain] w fun e w' =>
      e = .returned (.tuple #[.agg (pgCells ((parseF J.epoch s chain).getD pg0)), .bool (parseF J.epoch s chain).isSome]) ∧ Below w.heap.size w w' := by
  have HJ := Lib.hid h
  have HC := Lib.hid hc
  have HS := Lib.hid hs
  clear h hc hs
  go_enter Tryd.func56, Tryd.ntmps56
  go_upto_region 1 with
    ((with_reducible refine gate_dst (N := 6) rfl ?_)
     refine box_event rfl rfl (cs := pgCells pg0) (t := 90) (by simp only [execOp]; simp [allocP, Result.andThen]) ?_
     intro g hg w1 hb1 hbl; have HG := Lib.hid hg; clear hg)
  have PX : Hid (ParX w g (pgCells pg0) w1) := ⟨hb1, hbl⟩
  clear hb1 hbl
  go_cut [33] (fun v wx => v = .bool (badHead J.epoch s chain) ∧ ParX w g (pgCells pg0) wx)
  case first =>
    by_cases h512 : s.size = 512
    · have b1 : (32 : Int) ≤ s.size := by omega
      have b2 : (40 : Int) ≤ s.size := by omega
      have b3 : (s.size : Int) ≤ 9223372036854775807 := by have := HS.out; omega
      have d1 : ((s.size : Int) != 512) = false := by simp; omega
      have l1 : ¬ 9223372036854775807 < 1 + chain.size := by have := HC.out; omega
      have x1 : (s.extract 32 s.size).size = 480 := by rw [ByteArray.size_extract]; omega
      have l2 : ¬ 9223372036854775807 < 1 + chain.size + (s.size - 32) := by have := HC.out; omega
      have HSUM : Hid (∀ W, Calls Tryd.prog 35 #[.string ((⟨#[8]⟩ ++ chain : ByteArray) ++ s.extract 32 s.size)] W fun e w' => e = .returned (.string (sealOf chain (s.extract 32 s.size))) ∧ Below W.heap.size W w') := fun W => sum_any _ W (by
        have := HC.out
        simp only [ByteArray.size_append, x1]
        have : ByteArray.size ⟨#[8]⟩ = 1 := rfl
        omega)
      have H5 := Lib.hid h512
      clear h512 x1
      have STEP : Hid (∀ p : InC (ParX w g (pgCells pg0)), ∀ {f : FuncId} {args : Array Value} {v : Value}, (∀ W, Calls Tryd.prog f args W fun e w' => e = .returned v ∧ Below W.heap.size W w') →
          Calls Tryd.prog f args p.w fun e w'' => e = .returned v ∧ ∃ q : InC (ParX w g (pgCells pg0)), w'' = q.w) := fun p f args v h => Calls.sub ((h p.w).mono fun e w' ⟨he, hb⟩ => ⟨he, (ParX.step1 (Lib.hid p.h) hb).out⟩)
      have c3 : ∀ p : InC (ParX w g (pgCells pg0)), p.w.cell? ⟨j, 3, none⟩ = some (.int .i64 J.epoch) := fun p => jcell3 HJ.out p.h.2
      by_cases hq : sealOf chain (s.extract 32 s.size) = s.extract 0 32
      · have d3 : ((s.extract 0 32).toList == (s.extract 0 32).toList) = true := by simp
        have HBH := Lib.hid (badHead_rest (epoch := J.epoch) H5.out hq)
        have HSUM' : Hid (∀ W, Calls Tryd.prog 35 #[.string ((⟨#[8]⟩ ++ chain : ByteArray) ++ s.extract 32 s.size)] W fun e w' => e = .returned (.string (s.extract 0 32)) ∧ Below W.heap.size W w') := by rw [← hq]; exact HSUM.out
        have HBIG : Hid (∀ W, Calls Tryd.prog 36 #[.int .i64 J.epoch, .int .i64 8] W fun e w' => e = .returned (.string (bigS J.epoch 8)) ∧ Below W.heap.size W w') := fun W => big_any W J.epoch 8 (by omega) (by omega)
        clear hq HSUM
        by_cases he : s.extract 32 40 = bigS J.epoch 8
        · have d4 : ((s.extract 32 40).toList == (bigS J.epoch 8).toList) = true := by rw [he]; simp
          have HE : Hid (badHead J.epoch s chain = false) := by show _ = false; rw [HBH.out, he]; exact ba_eq _
          clear he
          refine wp_region_sub (ParX w g (pgCells pg0)) (by kernel_rfl) (by kernel_rfl) (ParX.drew1 PX).out (fun hne => ?_)
          repeat (go_big_quiet_step ((first | (go_at_call 35; exact STEP.out _ HSUM'.out) | (go_at_call 36; exact STEP.out _ HBIG.out))))
          refine wpQuiet_nil ?_
          rintro _ ⟨⟨W, hW⟩, rfl⟩
          go_wp2
          go_meet
          exact ⟨by rw [HE.out], hW⟩
        · have d4 : ((s.extract 32 40).toList == (bigS J.epoch 8).toList) = false := tl_ne he
          have HE : Hid (badHead J.epoch s chain = true) := by show _ = true; rw [HBH.out]; exact ba_ne he
          clear he
          refine wp_region_sub (ParX w g (pgCells pg0)) (by kernel_rfl) (by kernel_rfl) (ParX.drew1 PX).out (fun hne => ?_)
          repeat (go_big_quiet_step ((first | (go_at_call 35; exact STEP.out _ HSUM'.out) | (go_at_call 36; exact STEP.out _ HBIG.out))))
          refine wpQuiet_nil ?_
          rintro _ ⟨⟨W, hW⟩, rfl⟩
          go_wp2
          go_meet
          exact ⟨by rw [HE.out], hW⟩
      · have d3 : ((sealOf chain (s.extract 32 s.size)).toList == (s.extract 0 32).toList) = false := tl_ne hq
        have HBH := Lib.hid (badHead_seal (epoch := J.epoch) hq)
        clear hq
        refine wp_region_sub (ParX w g (pgCells pg0)) (by kernel_rfl) (by kernel_rfl) (ParX.drew1 PX).out (fun hne => ?_)
        repeat (go_big_quiet_step ((go_at_call 35; exact STEP.out _ HSUM.out)))
        refine wpQuiet_nil ?_
        rintro _ ⟨⟨W, hW⟩, rfl⟩
        go_wp2
        go_meet
        exact ⟨by rw [HBH.out], hW⟩
    · have d1 : ((s.size : Int) != 512) = true := by simp; omega
      have HBH := Lib.hid (badHead_size (epoch := J.epoch) (chain := chain) h512)
      clear h512
      refine wp_region_sub (ParX w g (pgCells pg0)) (by kernel_rfl) (by kernel_rfl) (ParX.drew1 PX).out (fun hne => ?_)
      repeat (go_big_quiet_step (fail))
      refine wpQuiet_nil ?_
      rintro _ ⟨⟨W, hW⟩, rfl⟩
      go_wp2
      go_meet
      exact ⟨by rw [HBH.out], hW⟩
  case rest =>
    obtain ⟨rfl, hPX⟩ := hcut
    clear PX
    have PX := Lib.hid hPX
    clear hPX
    have hparse : parseF J.epoch s chain = if badHead J.epoch s chain || badBody s then none else some ⟨s.extract 0 32, s.extract 43 75, s.extract 75 (75 + lenOf s), byteN s 40 == 1⟩ := rfl
    have h512 : badHead J.epoch s chain = false → s.size = 512 := fun h => by
      by_cases e : s.size = 512
      · exact e
      · rw [badHead_size e] at h; cases h
    generalize badHead J.epoch s chain = bad at *
    cases bad with
    | true =>
      have hp : Hid (parseF J.epoch s chain = none) := by show _ = none; rw [hparse]; rfl
      clear hparse h512
      go_wp2_with ((with_reducible refine gate_store (t := 90) (p := 6) (v := .tmp 34) rfl ?_); go_loud (refine wpList_store_row rfl 90 _ _ rfl g (pgCells pg0) rfl rfl 90 (pgCells pg0) PX.out.1 (by rw [infoP]; rfl) rfl (all_pg _) ?_))
      refine bodyPost_ret (results_ct rfl _ _ g 90 (pgCells pg0) (0, 0) _ rfl (setRow_heap PX.out.1) Tryd.underlying90 rfl (by rw [infoP]; rfl)) rfl ?_
      rw [hp.out]
      exact ⟨rfl, ((Upd.of_below PX.out.2 (fun _ => False)).setRow (.inr (by have := HG.out; omega)) _).below_all⟩
    | false =>
      have h5 := h512 rfl
      have b1 : (40 : Int) < s.size := by omega
      have b2 : (41 : Int) < s.size := by omega
      have b3 : (42 : Int) < s.size := by omega
      have H5 := Lib.hid h5
      have HP := Lib.hid hparse
      clear h5 h512 hparse
      have n40 : (s[40]'(by omega)).toNat = byteN s 40 := byteN_get s 40 (by omega)
      have n41 : (s[41]'(by omega)).toNat = byteN s 41 := byteN_get s 41 (by omega)
      have n42 : (s[42]'(by omega)).toNat = byteN s 42 := byteN_get s 42 (by omega)
      have N40 := Lib.hid n40
      have N41 := Lib.hid n41
      have N42 := Lib.hid n42
      clear n40 n41 n42
      go_wp2
      go_cut [8, 9] (fun v8 v9 wx => v8 = .int .u8 (byteN s 40) ∧ v9 = .int .i64 (lenOf s) ∧ ParX w g (pgCells pg0) wx)
      case first =>
        go_quiet (fail)
        go_wp2
        go_meet
        refine ⟨by rw [N40.out], ?_, PX.out.1, PX.out.2.drewN' _⟩
        rw [N41.out, N42.out, or_bytes _ _ (byteN_lt _ _) (byteN_lt _ _)]; rfl
      case rest =>
        clear N40 N41 N42
        obtain ⟨rfl, rfl, hPX⟩ := hcut
        clear PX
        have PX := Lib.hid hPX
        clear hPX
        have hb256 := byteN_lt s 40
        have hbody : Hid (badBody s = (decide (1 < byteN s 40) || decide (437 < lenOf s) || (byteN s 40 == 0 && lenOf s != 437) || (Lib.trimB (s.extract (75 + lenOf s) s.size).data.toList 0 != []))) := rfl
        rw [Bool.false_or] at HP
        go_upto_region 4 with (fail)
        go_cut [66] (fun v wx => BodyRel w g s (lenOf s) v wx)
        case first =>
          clear HP
          generalize byteN s 40 = b at *
          generalize lenOf s = n at *
          by_cases hA : 1 < b
          · have q1 : decide ((1 : Int) < (b : Int)) = true := by simp; omega
            have HB : Hid (badBody s = true) := by show _ = true; rw [hbody.out]; simp [hA]
            clear hbody hA
            go_wp2
            go_meet
            exact BodyRel.bad HB.out PX.out
          · have q1 : decide ((1 : Int) < (b : Int)) = false := by simp; omega
            by_cases hB : 437 < n
            · have q2 : decide ((437 : Int) < (n : Int)) = true := by simp; omega
              have HB : Hid (badBody s = true) := by show _ = true; rw [hbody.out]; simp [hB]
              clear hbody hA hB
              go_wp2
              go_meet
              exact BodyRel.bad HB.out PX.out
            · have q2 : decide ((437 : Int) < (n : Int)) = false := by simp; omega
              have HN : Hid (n ≤ 437) := by show _ ≤ _; omega
              by_cases hC : b = 0 ∧ n ≠ 437
              · obtain ⟨hC1, hC2⟩ := hC
                have q3 : ((b : Int) == 0) = true := by simp [hC1]
                have q4 : ((n : Int) != 437) = true := by simp; omega
                have HB : Hid (badBody s = true) := by show _ = true; rw [hbody.out]; simp [hC1, hC2]
                clear hbody hA hB hC1 hC2
                go_wp2
                go_meet
                exact BodyRel.bad HB.out PX.out
              · have HB0 : Hid (badBody s = (Lib.trimB (s.extract (75 + n) s.size).data.toList 0 != [])) := by
                  show _ = _
                  rw [hbody.out]
                  have e1 : decide (1 < b) = false := by simp; omega
                  have e2 : decide (437 < n) = false := by simp; omega
                  have e3 : (b == 0 && n != 437) = false := by
                    by_cases hb : b = 0
                    · have : n = 437 := by omega
                      simp [this]
                    · simp [hb]
                  rw [e1, e2, e3]; simp
                have hsz := H5.out
                have nb : (n : Int) ≤ 437 := by omega
                have i1 : (0 : Int) ≤ 75 + (n : Int) := by omega
                have i2 : 75 + (n : Int) ≤ s.size := by omega
                have i3 : (75 + (n : Int)).toNat = 75 + n := by omega
                have hts : (s.extract (75 + n) s.size).size ≤ 9223372036854775807 := by rw [ByteArray.size_extract]; omega
                have HTR : Hid (TrimC (s.extract (75 + n) s.size) (Lib.trimB (s.extract (75 + n) s.size).data.toList 0)) := trim0 _ hts
                clear hbody hsz hts
                generalize hT : Lib.trimB (s.extract (75 + n) s.size).data.toList 0 = T at *
                clear hT
                by_cases hC1 : b = 0
                · have q3 : ((b : Int) == 0) = true := by simp [hC1]
                  have q4 : ((n : Int) != 437) = false := by simp; omega
                  clear hC1 hC hA hB
                  go_wp2_with (go_at_call 72; refine (HTR.out _).mono ?_; rintro e w2 ⟨rfl, hw2⟩; have PX : Hid (ParX w g (pgCells pg0) w2) := (by rcases hw2 with rfl | rfl; exact PX; exact ParX.drew1 PX); clear hw2)
                  go_meet
                  refine ⟨?_, fun _ => HN.out, PX.out⟩
                  rw [HB0.out]
                  cases T <;> rfl
                · have q3 : ((b : Int) == 0) = false := by simp; omega
                  clear hC1 hC hA hB
                  go_wp2_with (go_at_call 72; refine (HTR.out _).mono ?_; rintro e w2 ⟨rfl, hw2⟩; have PX : Hid (ParX w g (pgCells pg0) w2) := (by rcases hw2 with rfl | rfl; exact PX; exact ParX.drew1 PX); clear hw2)
                  go_meet
                  refine ⟨?_, fun _ => HN.out, PX.out⟩
                  rw [HB0.out]
                  cases T <;> rfl
        case rest =>
          obtain ⟨rfl, hn, hPX⟩ := hcut
          clear PX
          have PX := Lib.hid hPX
          clear hPX hbody hb256
          cases hbb : badBody s with
          | true =>
            have hp : Hid (parseF J.epoch s chain = none) := by show _ = none; rw [HP.out, hbb]; rfl
            clear hn hbb HP
            go_wp2_with ((with_reducible refine gate_store (t := 90) (p := 6) (v := .tmp 67) rfl ?_); go_loud (refine wpList_store_row rfl 90 _ _ rfl g (pgCells pg0) rfl rfl 90 (pgCells pg0) PX.out.1 (by rw [infoP]; rfl) rfl (all_pg _) ?_))
            refine bodyPost_ret (results_ct rfl _ _ g 90 (pgCells pg0) (0, 0) _ rfl (setRow_heap PX.out.1) Tryd.underlying90 rfl (by rw [infoP]; rfl)) rfl ?_
            rw [hp.out]
            exact ⟨rfl, ((Upd.of_below PX.out.2 (fun _ => False)).setRow (.inr (by have := HG.out; omega)) _).below_all⟩
          | false =>
            have hp : Hid (parseF J.epoch s chain = some ⟨s.extract 0 32, s.extract 43 75, s.extract 75 (75 + lenOf s), byteN s 40 == 1⟩) := by show _ = some _; rw [HP.out, hbb]; rfl
            have hn' : (lenOf s : Int) ≤ 437 := by have := hn hbb; omega
            clear hn hbb HP
            have hsz := H5.out
            have i1 : (0 : Int) ≤ 75 + (lenOf s : Int) := by omega
            have i2 : 75 + (lenOf s : Int) ≤ s.size := by omega
            have i3 : (75 + (lenOf s : Int)).toNat = 75 + lenOf s := by omega
            have i4 : (75 : Int) ≤ s.size := by omega
            have i5 : (32 : Int) ≤ s.size := by omega
            have i6 : (75 : Int) ≤ 75 + (lenOf s : Int) := by omega
            have e1 : IntKind.i64.wrap (75 + (lenOf s : Int)) = 75 + lenOf s := IntWalk.i64_in _ (by omega)
            clear hsz
            generalize hb : byteN s 40 = b at *
            generalize hl : lenOf s = n at *
            clear hb hl
            go_wp2
            go_still_tail 11, (by kernel_rfl)
            change wpList _ _ _ _ _ wc.drew
            have PX2 := ParX.drew1 PX
            clear PX
            generalize wc.drew = wc2 at *
            have hbe : ((b : Int) == 1) = (b == 1) := eq1 b
            have HBE := Lib.hid hbe
            clear hbe e1
            go_wp2_with ((with_reducible refine gate_store (t := 90) (p := 6) (v := .tmp 78) rfl ?_); go_loud (refine wpList_store_row rfl 90 _ _ rfl g (pgCells ⟨s.extract 0 32, s.extract 43 75, s.extract 75 (75 + n), ((b : Int) == 1)⟩) rfl rfl 90 (pgCells pg0) PX2.out.1 (by rw [infoP]; rfl) rfl (all_pg _) ?_))
            refine bodyPost_ret (results_ct rfl _ _ g 90 (pgCells ⟨s.extract 0 32, s.extract 43 75, s.extract 75 (75 + n), ((b : Int) == 1)⟩) (0, 0) _ rfl (setRow_heap PX2.out.1) Tryd.underlying90 rfl (by rw [infoP]; rfl)) rfl ?_
            rw [hp.out, ← HBE.out]
            exact ⟨rfl, ((Upd.of_below PX2.out.2 (fun _ => False)).setRow (.inr (by have := HG.out; omega)) _).below_all⟩
end Go.Proofs.YtpmjipokkkkljaaDoor
