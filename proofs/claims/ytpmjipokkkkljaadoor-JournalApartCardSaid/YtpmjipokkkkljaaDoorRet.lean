/-
  The law JournalReturns returns true.
-/
import Derived.Test.YtpmjipokkkkljaaDoorMore
namespace Go.Proofs.YtpmjipokkkkljaaDoor
set_option linter.all false
set_option linter.unusedVariables false
set_option linter.unusedSimpArgs false
open Go.RowKit Go.Proofs.YtpmjipokkkkljaaDoorW.PrintWords Go.Proofs.YtpmjipokkkkljaaDoorW.PrintLast Go.Proofs.YtpmjipokkkkljaaDoorW.PrintMore

/-- An argument: a slice of strings that lie below B. -/
structure Strs (w : World) (B : Nat) (A : Option Addr) (l : List ByteArray) (c : Nat) : Prop where
  cap : l.length ≤ c
  len : l.length ≤ 4611686018427387904
  small : ∀ s ∈ l, s.size ≤ 140737488355328
  cells : ∀ W, Below B w W → Kd.C Kd.string W A l.length l
theorem pagesN (w : World) (F : Nat → Prop) (b : Nat) (d : DK) (h : IsDisk w F b d) : Calls Tryd.prog 17 #[.pointer (some ⟨b, 0, none⟩)] w fun e w' => e = .returned (.int .i64 d.dur.length) ∧ w = w' := by
  obtain ⟨v0, v1, bm, v4, hb, hFb, hFm, h0, h1, h4, hm, hlt⟩ := h
  obtain ⟨A, c, rfl, _, _⟩ := Kd.R_reads h0
  exact pages_any w b _ c A (hb.cell 0 _ rfl)
theorem ret_measure {i n : Nat} (h : i < n) : n - (intOf (.int .i64 ((i + 1 : Nat) : Int))).toNat < n - (intOf (.int .i64 (i : Int))).toNat := by
  show n - ((i + 1 : Nat) : Int).toNat < n - (i : Int).toNat
  omega
theorem equal_same {w : World} {e1 e2 b1 b2 : Nat} {ok1 ok2 : Nat → Prop} {v1 v2 : Value} {xs : List ByteArray} (h1 : Kd.string.R e1 w b1 ok1 v1 xs) (h2 : Kd.string.R e2 w b2 ok2 v2 xs) :
    Calls Tryd.prog 21 #[v1, v2] w fun e w' => e = .returned (.bool true) ∧ Drawn0 w w' :=
  (equal_rows h1 h2).mono (fun e w' h => ⟨by rw [h.1, decide_eq_true rfl], h.2⟩)
theorem IsJ.below {W W' : World} {F : Nat → Prop} {j : Nat} {J : JD} (h : IsJ W F j J) (hb : Below W.heap.size W W') : IsJ W' F j J := by
  obtain ⟨rv, h1, h2, h3, h4⟩ := h
  have hu : Upd (fun _ => False) W W' := Upd.of_below hb _
  exact ⟨rv, h1.upd hu (fun h => h), h2, Kd.R_step h3 (fun k hk hl => hu.block k hl (fun h => h)), fun k hk => Nat.lt_of_lt_of_le (h4 k hk) hu.size⟩
/-- What holds between two rounds: the journal stands on its disk, the wanted records are its own. -/
def RetRel (w : World) (b j m e g9 : Nat) (l : List ByteArray) (v12 v13 v54 : Value) (wr : World) : Prop :=
  ∃ (i : Nat) (d : DK) (J : JD) (FD FJ S : Nat → Prop), v54 = .int .i64 i ∧ i ≤ l.length ∧ v13 = .int .i64 (m - J.next) ∧ (J.first = 0 ∧ J.count = m ∧ J.epoch = e ∧ d.dur.length = m) ∧
    Live wr FD FJ b j d J ∧ Kd.string.R 9 wr 0 S v12 J.recs ∧ (∀ k, S k → w.heap.size ≤ k ∧ ¬ FD k ∧ ¬ FJ k ∧ k < wr.heap.size) ∧ (∀ k, FD k → w.heap.size ≤ k) ∧ (∀ k, FJ k → w.heap.size ≤ k) ∧
    Blk wr g9 #[.int .i64 0, .int .i64 m] 24 ∧ ¬ FD g9 ∧ ¬ FJ g9 ∧ ¬ S g9 ∧ w.heap.size ≤ g9 ∧ Below w.heap.size w wr
set_option maxHeartbeats 2000000 in
set_option maxRecDepth 100000 in
theorem returns_any (n e : Nat) (hn : n ≤ 255) (he : e ≤ 65535) (w : World) (A : Option Addr) (l : List ByteArray) (c : Nat) (hl : Strs w w.heap.size A l c) :
    Calls Tryd.prog 4 #[.int .u8 n, .int .u16 e, .slice A l.length c] w fun e w' => e = .returned (.bool true) ∧ Below w.heap.size w w' := by
  have c1 : IntKind.i64.wrap (n : Int) = n := IntWalk.i64_in _ ⟨by omega, by omega⟩
  have c2 : IntKind.i64.wrap (e : Int) = e := IntWalk.i64_in _ ⟨by omega, by omega⟩
  obtain ⟨m, hm⟩ : ∃ m : Nat, (m : Int) = 1 + (n : Int) % 12 := ⟨1 + n % 12, by omega⟩
  have hm1 : 1 ≤ m ∧ m ≤ 12 := by omega
  have HP : Hid (∀ W, Calls Tryd.prog 10 #[.int .i64 (1 + (n : Int) % 12)] W fun e w' => ∃ b FD A0 m0 c0 A1 m1 c1, e = .returned (.tuple #[.pointer (some ⟨b, 0, none⟩), .agg #[.slice A0 m0 c0, .slice A1 m1 c1]]) ∧
    IsDisk w' FD b (dk0 m) ∧ (∀ k, FD k → W.heap.size ≤ k) ∧ Below W.heap.size W w') := Lib.hid (fun W => by rw [← hm]; exact pages_ok W m hm1.1 (by omega))
  have HM := Lib.hid hm
  have HM1 := Lib.hid hm1
  have HE := Lib.hid he
  have HL := Lib.hid hl
  clear hm hm1 he hn hl
  go_enter Tryd.func4, Tryd.ntmps4
  go_wp2_with (go_at_call 9; refine (awake_ok _).mono ?_; rintro e w1 ⟨rfl, hb⟩; have HB1 := Lib.hid hb; clear hb)
  refine (few_any l A c w1 (HL.out.cells _ HB1.out) HL.out.cap HL.out.len HL.out.small).mono ?_
  rintro e2 w2 ⟨r, rfl, hd, hfew⟩
  have HB2 := Lib.hid (HB1.out.trans ((Upd.of_drawn hd (fun _ => False)).below HB1.out.size (fun _ h => h.elim)))
  clear hd HB1
  cases r with
  | false =>
    clear hfew
    go_wp2
    go_ret
    exact ⟨rfl, HB2.out⟩
  | true =>
    obtain ⟨h16, hs6⟩ := hfew rfl
    have H16 := Lib.hid h16
    have HS6 := Lib.hid hs6
    clear hfew h16 hs6
    go_wp2_with (go_at_call 10; with_reducible refine (HP.out _).mono ?_; rintro e3 w3 ⟨b, FD, A0, m0, k0, A1, m1, k1, rfl, hd, hF, hb⟩; have HD := Lib.hid hd; have HF := Lib.hid hF; have HB3 := Lib.hid hb; clear hd hF hb)
    have HD4 := Lib.hid (HD.out.alloc (.cells #[.slice A0 m0 k0, .slice A1 m1 k1] 29))
    have HB4 : Hid (Below w.heap.size w (w3.alloc (.cells #[.slice A0 m0 k0, .slice A1 m1 k1] 29))) := Lib.hid (((HB2.out.trans (HB3.out.mono HB2.out.size))).alloc (Nat.le_trans HB2.out.size HB3.out.size) _)
    have HF4 : Hid (∀ k, FD k → w.heap.size ≤ k) := Lib.hid (fun k hk => Nat.le_trans HB2.out.size (HF.out k hk))
    clear HD HB3 HF HB2
    generalize (w3.alloc (.cells #[.slice A0 m0 k0, .slice A1 m1 k1] 29)) = w4 at *
    generalize w3.heap.size = q3 at *
    have HPG := Lib.hid (fun W FD d (h : IsDisk W FD b d) => pagesN W FD b d h)
    refine (HPG.out _ _ _ HD4.out).mono ?_
    rintro e5 w5 ⟨rfl, rfl⟩
    rw [dk0_len]
    have HJ0 : Hid (JOk (dk0 m) ⟨b, 0, m, e, [], 0, chain0 e⟩) := Lib.hid (JOk.new rfl (by decide) (by have := HM1.out; omega) (by rw [dk0_len]; omega) (fun q _ _ => dk0_bad m e q))
    have HO : Hid (∀ W FD d J, IsDisk W FD b d → DOk d → JOk d J → J.dsk = b → J.first = 0 → J.count = m → J.epoch = e → Calls Tryd.prog 18 #[.pointer (some ⟨b, 0, none⟩), .agg #[.int .i64 0, .int .i64 m], .int .i64 e] W fun e' w' => ∃ jb FJ, e' = .returned (.tuple #[.pointer (some ⟨jb, 0, none⟩), .int .i64 0]) ∧ (∀ k, FJ k → W.heap.size ≤ k) ∧
      Live w' FD FJ b jb d J ∧ Below W.heap.size W w') := Lib.hid (fun W FD d J h1 h2 h3 h4 h5 h6 h7 => live_open h1 h2 (by have := HM1.out; omega) (by omega) (by have := HE.out; omega) h3 h4 h5 h6 h7)
    have HDN := Lib.hid (dk0_ok m (by have := HM1.out; omega))
    go_wp2_with (first
      | (go_at_call 18; with_reducible refine (HO.out _ _ _ _ (HD4.out.alloc _) HDN.out HJ0.out rfl rfl rfl rfl).mono ?_; rintro e6 w6 ⟨j, FJ, rfl, hFJ, hL, hb⟩; have HLV := Lib.hid hL; have HFJ := Lib.hid hFJ; have HB6 := Lib.hid hb; clear hL hFJ hb)
      | (go_at_call 17; with_reducible refine (HPG.out _ _ _ HLV.out.disk).mono ?_; rintro e7 w7 ⟨rfl, rfl⟩; rw [dk0_len]))
    have hsz4 : w4.heap.size < w6.heap.size := by have := HB6.out.size; simp at this; omega
    have HW6 : Hid (Below w.heap.size w w6) := Lib.hid ((HB4.out.alloc HB4.out.size _).trans (HB6.out.mono (by have := HB4.out.size; simp; omega)))
    have HG9 : Hid (Blk w6 w4.heap.size #[.int .i64 0, .int .i64 m] 24 ∧ w.heap.size ≤ w4.heap.size) := Lib.hid ⟨(HB6.out.block _ (by simp)).trans (Blk.new w4 _ _), HB4.out.size⟩
    have HFJ6 : Hid (∀ k, FJ k → w4.heap.size < k) := Lib.hid (fun k hk => by have := HFJ.out k hk; simp at this; omega)
    have HFD6 : Hid (∀ k, FD k → k < w4.heap.size) := Lib.hid (by obtain ⟨_, _, _, _, _, _, _, _, _, _, _, h⟩ := HD4.out; exact h)
    generalize w4.heap.size = g9 at *
    clear HB6 HFJ hsz4
    go_loopw [12, 13, 54] (fun v12 v13 v54 wr => RetRel w b j m e g9 l v12 v13 v54 wr) (fun _ _ v54 _ => l.length - (intOf v54).toNat)
    case atStart =>
      refine ⟨0, dk0 m, ⟨b, 0, m, e, [], 0, chain0 e⟩, FD, FJ, fun _ => False, rfl, Nat.zero_le _, by simp, ⟨rfl, rfl, rfl, dk0_len m⟩, HLV.out, Kd.R_nil _ _ _ _ _, fun _ h => h.elim, HF4.out, fun k hk => ?_, HG9.out.1, fun h => ?_, fun h => ?_, fun h => h, HG9.out.2, HW6.out⟩
      · have := HFJ6.out k hk; have := HG9.out.2; omega
      · have := HFD6.out _ h; omega
      · have := HFJ6.out _ h; omega
    case round =>
      obtain ⟨i, d, J, FD', FJ', S, rfl, hi, rfl, hJ, hlv, hR, hS, hFD, hFJ, hb9, n1, n2, n3, hg9, hbw⟩ := hrel
      have HJ := Lib.hid hJ; have HLV2 := Lib.hid hlv; have HR := Lib.hid hR; have HS := Lib.hid hS; have HFD := Lib.hid hFD; have HFJ := Lib.hid hFJ
      have HB9 := Lib.hid (And.intro hb9 (And.intro n1 (And.intro n2 n3))); have HG := Lib.hid hg9; have HBW := Lib.hid hbw; have HI := Lib.hid hi
      clear hJ hlv hR hS hFD hFJ hb9 n1 n2 n3 hg9 hbw hi HLV HW6 HG9 HFJ6 HFD6 HF4
      have HROOM : Hid (0 ≤ J.next ∧ J.next ≤ m) := Lib.hid ⟨HLV2.out.ok.next, by have := HLV2.out.ok.room; rw [HJ.out.2.1] at this; exact this⟩
      by_cases hlt : i < l.length
      · obtain ⟨ad, y, e1, hy, hcy⟩ := at_Str (HL.out.cells _ HBW.out) i (by omega) (by exact_mod_cast hlt)
        have q1 : decide ((i : Int) < (l.length : Int)) = true := by simpa using hlt
        have HY : Hid (y.size ≤ 6000) := Lib.hid (HS6.out y (by rw [Int.toNat_natCast] at hy; exact List.mem_of_getElem? hy))
        have HLT := Lib.hid hlt
        rw [Int.toNat_natCast] at hcy
        clear hlt hy
        subst e1
        have HND : Hid (∀ W, Calls Tryd.prog 14 #[.int .i64 y.size] W fun e w' => e = .returned (.int .i64 (needN y.size)) ∧ W = w') := Lib.hid (fun W => need_ok y.size W (by have := HY.out; omega))
        by_cases hfit : (needN y.size : Int) ≤ m - J.next
        · have q2 : decide ((needN y.size : Int) ≤ m - J.next) = true := by simpa using hfit
          have HFIT := Lib.hid hfit
          clear hfit
          have c3 : IntKind.i64.wrap ((m : Int) - J.next - (needN y.size : Nat)) = (m : Int) - J.next - (needN y.size : Nat) := IntWalk.i64_in _ ⟨by have := HROOM.out; have := HM1.out; have := HFIT.out; omega, by have := HROOM.out; have := HM1.out; have := HFIT.out; omega⟩
          have HRL : Hid ((J.recs.length + 1) * 16 ≤ 140737488355328) := Lib.hid (by have := HLV2.out.ok.recs_le; have := HROOM.out; have := HM1.out; omega)
          have HAP := Lib.hid (live_append y HLV2.out (by have := HY.out; omega) (by rw [HJ.out.2.1]; exact HFIT.out))
          go_wp2_with (first
            | (go_at_call 19; with_reducible refine HAP.out.mono ?_; rintro e7 w7 ⟨rfl, FD7, FJ7, a1, a2, hl7, hu7⟩; have HX7 := Lib.hid (And.intro a1 (And.intro a2 hu7)); have HL7 := Lib.hid hl7; have HR7 : Hid (Kd.string.R 9 w7 0 (fun k => S k ∨ w7.heap.size ≤ k) u12 J.recs) := Lib.hid (Kd.R_mono (Kd.R_step HR.out (fun k hk hl => hu7.block k hl (fun h => h.elim (HS.out k hk).2.1 (HS.out k hk).2.2.1))) (fun k hk => .inl hk)); clear a1 a2 hl7 hu7)
            | (go_at_call 14; with_reducible refine (HND.out _).mono ?_; rintro e8 w8 ⟨rfl, rfl⟩)
            | (at_builtin; go_loud (refine app_list (X := w7) Kd.string rfl (.tmp 71) (.tmp 73) 22 9 (.string ⟨#[]⟩) 16 rfl Tryd.underlying22 Pr.info9 rfl (by decide) (by omega) u12 J.recs y [.string y] (fun k => S k ∨ w7.heap.size ≤ k) (by rfl) _ (by rfl) (by simp) rfl (fun k hk => .inr hk) HR7.out HRL.out ?_); intro v1 w10 ho hbel hg hat; have HX10 := Lib.hid (And.intro ho (And.intro hbel (And.intro hg hat))); clear ho hbel hg hat))
          obtain ⟨ho, hbel, hg, hat⟩ := HX10.out
          obtain ⟨a1, a2, hu7⟩ := HX7.out
          have hi1 : wrap64 ((i : Int) + 1) = ((i + 1 : Nat) : Int) := by have := HLT.out; have := HL.out.len; unfold wrap64; omega
          have hfr : (m : Int) - J.next - (needN y.size : Nat) = (m : Int) - (appJ J y).next := by show _ = (m : Int) - (J.next + (needN y.size : Nat)); omega
          have hown : ∀ k, u12.ownBlock = some k → S k := HR.out.1
          have hu10 : Upd S w7 w10 := (Upd.refl S w7).grown hg (fun k hk => .inl (hown k hk))
          have hD7 : ∀ k, FD7 k → k < w7.heap.size := by obtain ⟨_, _, _, _, _, _, _, _, _, _, _, h⟩ := HL7.out.disk; exact h
          have hJ7 : ∀ k, FJ7 k → k < w7.heap.size := by obtain ⟨_, _, _, _, h⟩ := HL7.out.jour; exact h
          have hSn : ∀ k, S k → ¬ FD7 k ∧ ¬ FJ7 k := fun k hk => by
            obtain ⟨s1, s2, s3, s4⟩ := HS.out k hk
            exact ⟨fun h => (a1 k h).elim s2 (fun h => by omega), fun h => (a2 k h).elim s3 (fun h => by omega)⟩
          have hwr := HBW.out.size
          have hgr : g9 < wr.heap.size := HB9.out.1.lt
          rw [hi1, hfr]
          refine ⟨⟨i + 1, appD d J y, appJ J y, FD7, FJ7, fun k => (S k ∨ w7.heap.size ≤ k) ∧ k < w10.heap.size, rfl, HLT.out, rfl, ⟨HJ.out.1, HJ.out.2.1, HJ.out.2.2.1, by rw [appD_len]; exact HJ.out.2.2.2⟩, HL7.out.upd hu10 hSn, R_fit ho, fun k hk => ?_, fun k hk => (a1 k hk).elim (HFD.out k) (fun h => by omega), fun k hk => (a2 k hk).elim (HFJ.out k) (fun h => by omega), (HB9.out.1.upd hu7 (fun h => h.elim HB9.out.2.1 HB9.out.2.2.1)).upd hu10 HB9.out.2.2.2, fun h => (a1 _ h).elim HB9.out.2.1 (fun h => by omega), fun h => (a2 _ h).elim HB9.out.2.2.1 (fun h => by omega), fun h => ?_, HG.out, ?_⟩, ?_⟩
          · rcases hk.1 with h | h
            · exact ⟨(HS.out k h).1, (hSn k h).1, (hSn k h).2, hk.2⟩
            · have := hu7.size
              exact ⟨by omega, fun h2 => by have := hD7 k h2; omega, fun h2 => by have := hJ7 k h2; omega, hk.2⟩
          · have := hu7.size
            rcases h.1 with h | h
            · exact HB9.out.2.2.2 h
            · omega
          · exact (HBW.out.trans (hu7.below hwr (fun k h => h.elim (HFD.out k) (HFJ.out k)))).trans (hu10.below (Nat.le_trans hwr hu7.size) (fun k hk => (HS.out k hk).1))
          · exact ret_measure HLT.out
        · have q2 : decide ((needN y.size : Int) ≤ m - J.next) = false := by simpa using hfit
          have HFIT := Lib.hid hfit
          clear hfit
          have HAP := Lib.hid (live_full y HLV2.out (by have := HY.out; omega) (by rw [HJ.out.2.1]; have := HFIT.out; omega))
          go_wp2_with (first
            | (go_at_call 19; with_reducible refine HAP.out.mono ?_; rintro e7 w7 ⟨rfl, hq⟩; have HQ7 := Lib.hid hq; clear hq)
            | (go_at_call 14; with_reducible refine (HND.out _).mono ?_; rintro e8 w8 ⟨rfl, rfl⟩))
          have hu := Upd.of_drawn HQ7.out (fun _ => False)
          have hi1 : wrap64 ((i : Int) + 1) = ((i + 1 : Nat) : Int) := by have := HLT.out; have := HL.out.len; unfold wrap64; omega
          rw [hi1]
          refine ⟨⟨i + 1, d, J, FD', FJ', S, rfl, HLT.out, rfl, HJ.out, HLV2.out.upd hu (fun _ h => h.elim), Kd.R_step HR.out (fun k hk hl => hu.block k hl (fun h => h)), fun k hk => ?_, HFD.out, HFJ.out, HB9.out.1.upd hu (fun h => h), HB9.out.2.1, HB9.out.2.2.1, HB9.out.2.2.2, HG.out, HBW.out.trans (hu.below HBW.out.size (fun _ h => h.elim))⟩, ?_⟩
          · obtain ⟨s1, s2, s3, s4⟩ := HS.out k hk
            exact ⟨s1, s2, s3, Nat.lt_of_lt_of_le s4 hu.size⟩
          · exact ret_measure HLT.out
      · have q1 : decide ((i : Int) < (l.length : Int)) = false := by simpa using hlt
        have q1' : decide (i < l.length) = false := by simpa using hlt
        clear hlt
        go_wp2_with (go_at_call 20; refine (crash_none _ FD' b d HLV2.out.disk HLV2.out.dok.pend).mono ?_; rintro e8 w8 ⟨rfl, FD8, hF, hd, hu⟩; have HX8 := Lib.hid (And.intro hF (And.intro hd hu)); have g80 : w8.cell? ⟨g9, 0, none⟩ = some (.int .i64 0) := (HB9.out.1.upd hu HB9.out.2.1).cell 0 _ rfl; have g81 : w8.cell? ⟨g9, 1, none⟩ = some (.int .i64 m) := (HB9.out.1.upd hu HB9.out.2.1).cell 1 _ rfl; clear hF hd hu)
        obtain ⟨hF8, hD8, hu8⟩ := HX8.out
        refine (HO.out w8 FD8 d J hD8 HLV2.out.dok HLV2.out.ok HLV2.out.dsk HJ.out.1 HJ.out.2.1 HJ.out.2.2.1).mono ?_
        rintro e9 w9 ⟨jb, FK, rfl, hFK, hK, hbk⟩
        have hub : Upd (fun _ => False) w8 w9 := Upd.of_below hbk _
        have HJ9 : Hid (IsJ w9 FJ' j J) := by
          obtain ⟨rv, h1, h2, h3, h4⟩ := HLV2.out.jour
          exact Lib.hid ⟨rv, (h1.upd hu8 (fun hs => HLV2.out.dis _ hs h2)).upd hub (fun h => h), h2, Kd.R_step (Kd.R_step h3 (fun k hk hl => hu8.block k hl (fun hs => HLV2.out.dis _ hs hk))) (fun k hk hl => hub.block k hl (fun h => h)), fun k hk => Nat.lt_of_lt_of_le (h4 k hk) (Nat.le_trans hu8.size hub.size)⟩
        have HR9 : Hid (Kd.string.R 9 w9 0 S u12 J.recs) := Lib.hid (Kd.R_step (Kd.R_step HR.out (fun k hk hl => hu8.block k hl (HS.out k hk).2.1)) (fun k hk hl => hub.block k hl (fun h => h)))
        have HK9 := Lib.hid hK
        have HBW9 : Hid (Below w.heap.size w w9) := Lib.hid ((HBW.out.trans (hu8.below HBW.out.size HFD.out)).trans (hbk.mono (Nat.le_trans HBW.out.size hu8.size)))
        have HRL : Hid (J.recs.length ≤ 1000000) := Lib.hid (by have := HLV2.out.ok.recs_le; have := HROOM.out; have := HM1.out; omega)
        clear hub hF8 hD8 hu8 hFK hK hbk
        have HRK : Hid (∀ W F jj, IsJ W F jj J → Calls Tryd.prog 22 #[.pointer (some ⟨jj, 0, none⟩)] W fun e w' => ∃ v, e = .returned v ∧ Kd.string.R 9 w' 0 (fun k => W.heap.size ≤ k) v J.recs ∧ Below W.heap.size W w') := Lib.hid (fun W F jj h => records_any W F jj J h HRL.out)
        have HFR : Hid (∀ W F jj, IsJ W F jj J → Calls Tryd.prog 23 #[.pointer (some ⟨jj, 0, none⟩)] W fun e w' => e = .returned (.int .i64 (m - J.next)) ∧ Drawn0 W w') := Lib.hid (fun W F jj h => by rw [← HJ.out.2.1]; exact free_any W F jj J h (by rw [HJ.out.2.1]; have := HROOM.out; omega) (by rw [HJ.out.2.1]; have := HROOM.out; have := HM1.out; omega))
        go_wp2_with (first
          | (go_at_call 22; with_reducible refine (HRK.out _ _ _ HK9.out.jour).mono ?_; rintro e10 w10 ⟨v10, rfl, hr10, hb10⟩; have HE := Lib.hid (equal_same hr10 (Kd.R_below HR9.out hb10)); have HB10 := Lib.hid hb10; clear hr10 hb10)
          | (go_at_call 21; with_reducible refine HE.out.mono ?_; rintro e11 w11 ⟨rfl, hq⟩; have HQ := Lib.hid (HB10.out.trans ((Upd.of_drawn hq (fun _ => False)).below HB10.out.size (fun _ h => h.elim))); clear hq HE HB10)
          | (go_at_call 23; with_reducible refine (HFR.out _ _ _ (HK9.out.jour.below HQ.out)).mono ?_; rintro e12 w12 ⟨rfl, hq⟩; have HQ12 := Lib.hid (HQ.out.trans ((Upd.of_drawn hq (fun _ => False)).below HQ.out.size (fun _ h => h.elim))); clear hq)
          | (go_at_call 22; with_reducible refine (HRK.out _ _ _ (HJ9.out.below HQ12.out)).mono ?_; rintro e13 w13 ⟨v13, rfl, hr13, hb13⟩; have HE := Lib.hid (equal_same hr13 (Kd.R_below (Kd.R_below HR9.out HQ12.out) hb13)); have HB10 := Lib.hid (HQ12.out.trans (hb13.mono HQ12.out.size)); clear hr13 hb13))
        go_ret
        exact ⟨rfl, HBW9.out.trans (HQ.out.mono HBW9.out.size)⟩
end Go.Proofs.YtpmjipokkkkljaaDoor
