/-
  Part of the proof of cd_card: the lemmas of Open that it uses.
-/
import Derived.Test.YtpmjipokkkkljaaDoorQOpenM
import Derived.Test.YtpmjipokkkkljaaDoorQRegs
import Derived.Sort.CutIn
namespace Go.Proofs.YtpmjipokkkkljaaDoor
set_option linter.all false
set_option linter.unusedVariables false
set_option linter.unusedSimpArgs false
open Go.RowKit Go.Proofs.YtpmjipokkkkljaaDoorW.PrintWords Go.Proofs.YtpmjipokkkkljaaDoorW.PrintLast Go.Proofs.YtpmjipokkkkljaaDoorW.PrintMore
open Go.WideMaps Go.WideElems Go.Shelf
attribute [local go_sem] Oper.semAt_some
set_option maxRecDepth 100000 in
set_option maxHeartbeats 2000000 in
theorem open_ok (w : World) (b : Nat) (d : DK) (FD : Nat → Prop) (first : Int) (cnt : Nat) (epoch : Int) (hd : IsDisk w FD b d)
    (h1 : 0 ≤ first) (h2 : 1 ≤ cnt) (h3 : first + cnt ≤ d.dur.length) (h4 : 0 ≤ epoch) (h5 : epoch ≤ 4611686018427387903) (h6 : d.dur.length ≤ 1000000) (hz1 : ∀ x ∈ d.dur, x.size ≤ 1000000) (hz2 : ∀ x ∈ d.pend, x.data.size ≤ 1000000) :
    Calls Tryd.prog 18 #[.pointer (some ⟨b, 0, none⟩), .agg #[.int .i64 first, .int .i64 cnt], .int .i64 epoch] w (OpenPost w b d first cnt epoch) := by
  refine (callsIn_wide (n := 8)).1 ?_
  refine callsIn_of_wp_marks Tryd.func18 rfl trivial ?_ rfl
  simp only [Tryd.ntmps18, List.size_toArray, List.length_cons, List.length_nil, Nat.reduceAdd, Nat.reduceSub, Array.replicate_succ, Array.replicate_zero, List.push_toArray, List.append_toArray, List.nil_append, List.cons_append]
  refine wpIn_wide.2 ?_
  refine Code.wp_mono NoPanic.imp ?_
  have HZ1 := Lib.hid hz1
  have HZ2 := Lib.hid hz2
  clear hz1 hz2
  have q1 : decide (first < 0) = false := by simp; omega
  have q2 : decide ((cnt : Int) < 1) = false := by simp; omega
  have q3 : decide (d.dur.length < cnt) = false := by simp; omega
  have q4 : decide ((d.dur.length : Int) - cnt < first) = false := by simp; omega
  have q5 : decide (epoch < 0) = false := by simp; omega
  have q6 : decide (4611686018427387903 < epoch) = false := by simp; omega
  have e1 : IntKind.i64.wrap ((d.dur.length : Int) - cnt) = (d.dur.length : Int) - cnt := IntWalk.i64_in _ (by omega)
  go_wp2
  have hd1 := hd.alloc (.cells #[.int .i64 first, .int .i64 cnt] 24)
  have hrb := Blk.new w #[.int .i64 first, .int .i64 cnt] 24
  have hb1 : Below w.heap.size w (w.alloc (.cells #[.int .i64 first, .int .i64 cnt] 24)) := (Below.refl _ _).alloc (Nat.le_refl _) _
  have r0 : (w.alloc (.cells #[.int .i64 first, .int .i64 cnt] 24)).cell? ⟨w.heap.size, 0, none⟩ = some (.int .i64 first) := hrb.cell 0 _ rfl
  have r1 : (w.alloc (.cells #[.int .i64 first, .int .i64 cnt] 24)).cell? ⟨w.heap.size, 1, none⟩ = some (.int .i64 cnt) := hrb.cell 1 _ rfl
  obtain ⟨c0, A0, k0⟩ : ∃ c A, (w.alloc (.cells #[.int .i64 first, .int .i64 cnt] 24)).cell? ⟨b, 0, none⟩ = some (.slice A d.dur.length c) := by
    obtain ⟨v0, v1, bm, v4, hb, _, _, hr0, _⟩ := hd1
    obtain ⟨A, c, rfl, _, _⟩ := Kd.R_reads hr0
    exact ⟨c, A, hb.cell 0 _ rfl⟩
  have HFD : Hid (∀ k, FD k → k < w.heap.size) := by obtain ⟨_, _, _, _, _, _, _, _, _, _, _, hlt⟩ := hd; exact hlt
  have HD := Lib.hid hd1
  have HRB := Lib.hid hrb
  have HBL := Lib.hid hb1
  clear hd hd1 hrb hb1
  generalize hW : w.alloc _ = W1 at *
  generalize hn0 : w.heap.size = n0 at *
  clear hW
  go_quiet ((go_at_call 17; exact Calls.quiet_of_same ((pages_any (W1.drewN _) b d.dur.length c0 A0 k0).mono (fun _ _ h => ⟨h.1, h.2.symm⟩))))
  have HD2 : Hid (IsDisk (W1.drewN nq) FD b d) := HD.out.drewN _
  have HBL2 : Hid (Below n0 w (W1.drewN nq)) := HBL.out.drewN' _
  have r0' : (W1.drewN nq).cell? ⟨n0, 0, none⟩ = some (.int .i64 first) := r0
  have r1' : (W1.drewN nq).cell? ⟨n0, 1, none⟩ = some (.int .i64 cnt) := r1
  clear HD HRB HBL r0 r1 k0 q1 q2 q3 q4 q5 q6 e1
  generalize W1.drewN nq = W2 at *
  go_wp2
  have hA : OpenA w n0 b d FD first cnt epoch W2.heap.size (W2.heap.size + 1) ⟨#[]⟩ ((W2.alloc (.cells #[.pointer (some ⟨b, 0, none⟩), .int .i64 first, .int .i64 cnt, .int .i64 epoch, .slice none 0 0, .int .i64 0, .string ⟨#[]⟩] 84)).alloc (.cells #[.pointer (some ⟨W2.heap.size, 0, none⟩)] 36)) := by
    refine ⟨(Blk.new W2 _ _).alloc _, ?_, (HD2.out.alloc _).alloc _, ?_, ?_⟩
    · have := Blk.new (W2.alloc (.cells #[.pointer (some ⟨b, 0, none⟩), .int .i64 first, .int .i64 cnt, .int .i64 epoch, .slice none 0 0, .int .i64 0, .string ⟨#[]⟩] 84)) #[.pointer (some ⟨W2.heap.size, 0, none⟩)] 36
      rwa [World.size_alloc] at this
    · exact (HBL2.out.alloc (by have := HBL2.out.size; rw [hn0] at this; exact this) _).alloc (by have := HBL2.out.size; rw [hn0] at this; simp; omega) _
    · have := HBL2.out.size; rw [hn0] at this; simp; omega
  have hj0 : n0 ≤ W2.heap.size := by have := HBL2.out.size; rw [hn0] at this; exact this
  have HA := Lib.hid hA
  have HJ0 := Lib.hid hj0
  have HN0 := Lib.hid hn0
  clear hA hj0 hn0 HD2 HBL2 r0' r1'
  generalize (W2.alloc _).alloc _ = W3 at *
  have hpj : Hid (W2.heap.size + 1 ≠ W2.heap.size) := by show _ ≠ _; omega
  generalize hpp : W2.heap.size + 1 = pj at *
  generalize W2.heap.size = jb at *
  have HPP := Lib.hid hpp
  clear hpp
  have HBIG : Hid (∀ W, Calls Tryd.prog 36 #[.int .i64 epoch, .int .i64 8] W fun e w' => e = .returned (.string (bigS epoch 8)) ∧ Below W.heap.size W w') := fun W => big_any W epoch 8 (by omega) (by omega)
  have HSUM : Hid (∀ W, Calls Tryd.prog 35 #[.string (⟨#[9]⟩ ++ bigS epoch 8 : ByteArray)] W fun e w' => e = .returned (.string (chain0 epoch)) ∧ Below W.heap.size W w') := fun W => sum_any _ W (by
    simp only [ByteArray.size_append, bigS_size]
    have : ByteArray.size ⟨#[9]⟩ = 1 := rfl
    omega)
  have hl9 : ¬ 9223372036854775807 < 1 + (bigS epoch 8).size := by rw [bigS_size]; omega
  have p0 : W3.cell? ⟨pj, 0, none⟩ = some (.pointer (some ⟨jb, 0, none⟩)) := HA.out.2.1.cell 0 _ rfl
  go_cut [] from 52 to 58 (fun wx => OpenA w n0 b d FD first cnt epoch jb pj (chain0 epoch) wx)
  case first =>
    go_region_with (first
      | (go_at_call 36; (with_reducible refine (HBIG.out _).mono ?_); rintro e w2 ⟨rfl, hbl2⟩; have HA : Hid (OpenA w n0 b d FD first cnt epoch jb pj ⟨#[]⟩ w2) := (by first | exact HA.out.step hbl2 | exact (HA.out.drew).step hbl2); have p0 : w2.cell? ⟨pj, 0, none⟩ = some (.pointer (some ⟨jb, 0, none⟩)) := HA.out.2.1.cell 0 _ rfl; clear hbl2)
      | (go_at_call 35; (with_reducible refine (HSUM.out _).mono ?_); rintro e w3 ⟨rfl, hbl3⟩; have HA : Hid (OpenA w n0 b d FD first cnt epoch jb pj ⟨#[]⟩ w3) := (by first | exact HA.out.step hbl3 | exact (HA.out.drew).step hbl3); have p0 : w3.cell? ⟨pj, 0, none⟩ = some (.pointer (some ⟨jb, 0, none⟩)) := HA.out.2.1.cell 0 _ rfl; have f6 : w3.frozen? ⟨jb, 6, none⟩ = false := HA.out.1.frozen 6; have c6 : w3.cell? ⟨jb, 6, none⟩ = some (.string ⟨#[]⟩) := HA.out.1.cell 6 _ rfl; clear hbl3))
    all_goals (go_wp2; go_meet; first | exact HA.out.put HJ0.out hpj.out HFD.out _ | exact (HA.out.put HJ0.out hpj.out HFD.out _).drew)
  case rest =>
    clear HA HBIG HSUM hl9 p0
    have HA := Lib.hid hcut
    have p0 : wc.cell? ⟨pj, 0, none⟩ = some (.pointer (some ⟨jb, 0, none⟩)) := HA.out.2.1.cell 0 _ rfl
    have hpn : pj ≠ wc.heap.size := by have := HA.out.2.1.lt; omega
    have hplt : pj < wc.heap.size := HA.out.2.1.lt
    clear hcut
    go_wp2
    have HR : Hid (∃ po, po = wc.heap.size ∧ OpenA w n0 b d FD first cnt epoch jb pj (chain0 epoch) (wc.alloc (.cells #[.slice none 0 0] 87)) ∧ Blk (wc.alloc (.cells #[.slice none 0 0] 87)) po #[.slice none 0 0] 87 ∧ po + 1 = (wc.alloc (.cells #[.slice none 0 0] 87)).heap.size ∧ pj ≠ po ∧ jb ≠ po ∧ n0 ≤ po) :=
      ⟨_, rfl, HA.out.step ((Below.refl _ _).alloc (Nat.le_refl _) _), Blk.new _ _ _, by simp, hpn, by have := HA.out.1.lt; omega, HA.out.2.2.2.2⟩
    clear HA p0 hpn hplt
    generalize hWr : wc.alloc (.cells #[.slice none 0 0] 87) = Wl at *
    generalize hpo : wc.heap.size = po at *
    clear hWr hpo
    obtain ⟨po2, e2, hA, hPO, hsz, hn1, hn2, hn3⟩ := HR.out
    subst e2
    clear HR
    refine (wpIn_wide (n := 8)).1 ?_
    have HSN := Lib.hid hA.2.2.2.2
    have HSP := Lib.hid hA.2.1.lt
    have hit := pages_iter Wl b jb d FD first cnt epoch (chain0 epoch) (.slice none 0 0) 0 hA.2.2.1 hA.1 h1 (by omega) (by rw [chain0, sha_size]; omega) HZ1.out HZ2.out
    refine rangeFunc_lawS (α := PG) (ars := fun l => #[.pointer (some ⟨jb, 0, none⟩), .func (.yield l) #[] #[]]) (gf := 37) (lb := #[]) (s0 := fun k => k = jb ∨ k = po2) (fun l W => by simp only [resolve]; simp [go_sem]) (fun l W => by simp [invoke, go_sem]) hit (Below.refl _ _) (fun _ => rfl) ?_
      (fun s pre W => ∃ st, runO (st0 epoch) pre = some st ∧ OpenI w n0 Wl.heap.size b d FD first cnt epoch jb pj po2 st s W)
      (fun c pre W => c = .exit 0 ∧ ∃ st pre' p, pre = pre' ++ [p] ∧ runO (st0 epoch) pre' = some st ∧ stepO st p = none ∧ OpenE w n0 Wl.heap.size b d FD first cnt epoch jb pj st W) ?_ ?_ ?_ ?_ ?_ ?_ ?_
    · exact fun W W' hB hg => hg.upd hB.1 (fun k hk he => by have := HFD.out k hk; have := hA.2.2.2.2; omega) (by have := hA.1.lt; omega)
    · rintro s pre W W' ⟨st, hr, hi⟩ hu
      refine ⟨st, hr, hi.upd hu (fun k hk => ?_) HFD.out⟩
      obtain ⟨rv, ov, _, _, _, _, _, _, _, _, _, _, h11, _⟩ := hi
      have := hA.2.1.lt
      have := hA.2.2.2.2
      exact ⟨fun hs => by have := h11 k hs; omega, by omega, by omega⟩
    · rintro c pre W W' ⟨rfl, st, pre', p, h1, h2, h3, h4⟩ hu
      exact ⟨rfl, st, pre', p, h1, h2, h3, h4.upd hu hA.2.2.2.2 hA.2.1.lt (fun k hk => by omega)⟩
    · rintro s pre W ⟨st, hr, rv, ov, _, _, _, _, _, _, _, _, _, _, h11, _⟩ k hk
      exact (h11 k hk).2.1
    · have := hA.1.lt
      exact ⟨_, rfl, _, _, hA.1, hA.2.1, hPO, Kd.R_nil _ _ _ _ _, Kd.R_nil _ _ _ _ _, hA.2.2.1, hA.2.2.2.1, .inl rfl, .inr rfl, (by have := hpj.out; rintro (h | h) <;> omega), (fun k hk => by have := HJ0.out; rcases hk with rfl | rfl <;> exact ⟨by omega, by omega, by omega, by omega⟩), hA.2.2.2.2⟩
    · rintro s pre p W hsp ⟨st, hr, hi⟩ hW
      gi_wp2
      refine ⟨⟨fun _ => False, (Upd.refl _ _).alloc _, id, id⟩, fun W2 hB => ?_⟩
      have hpg : Blk W2 W.heap.size #[.string p.check, .string p.digest, .string p.data, .bool p.last] 90 := (Blk.new W _ _).upd hB.1 (by omega)
      have hns : ¬ s W.heap.size := by
        obtain ⟨rv, ov, _, _, _, _, _, _, _, _, _, _, h11, _⟩ := hi
        exact fun h => by have := h11 _ h; omega
      have hz2 : W2.heap.size = W.heap.size + 1 := by rw [hB.2]; simp
      have hi2 : OpenI w n0 Wl.heap.size b d FD first cnt epoch jb pj po2 st s W2 := by
        refine (hi.upd ((Upd.refl (fun _ => False) W).alloc _) (fun k h => h.elim) HFD.out).upd hB.1 (fun k hk => ?_) HFD.out
        obtain ⟨rv, ov, _, _, _, _, _, _, _, _, _, _, h11, _⟩ := hi
        have := HSP.out
        have := HSN.out
        subst hk
        exact ⟨fun hs => by have := h11 _ hs; omega, by omega, by omega⟩
      have HW2 : Hid (∀ k, k < W.heap.size → k ≠ Wl.heap.size + 1 → W2.heap[k]? = W.heap[k]?) := fun k h1 h2 => (hB.1.block k (by simp; omega) h2).trans (Below.heap_alloc _ _ _ h1)
      have HI := Lib.hid hi2
      have HPG := Lib.hid hpg
      have HNS := Lib.hid hns
      have HZ := Lib.hid hz2
      have HWS := Lib.hid hW
      have HR := Lib.hid hr
      have HSPp := Lib.hid hsp
      obtain ⟨rv, ov, b1, b2, b3, r4, r5, _, _, hsj, hspo, _, _, _⟩ := hi2
      obtain ⟨Ao, co, rfl, hco, hro⟩ := Kd.R_reads r5
      have k9 : W2.cell? ⟨po2, 0, none⟩ = some (.slice Ao st.opn.length co) := b3.cell 0 _ rfl
      have g0 : W2.cell? ⟨W.heap.size, 0, none⟩ = some (.string p.check) := hpg.cell 0 _ rfl
      have g1 : W2.cell? ⟨W.heap.size, 1, none⟩ = some (.string p.digest) := hpg.cell 1 _ rfl
      have g2 : W2.cell? ⟨W.heap.size, 2, none⟩ = some (.string p.data) := hpg.cell 2 _ rfl
      have g3 : W2.cell? ⟨W.heap.size, 3, none⟩ = some (.bool p.last) := hpg.cell 3 _ rfl
      have hsz1 : st.opn.length ≤ 1000000 := by
        have h1 := runO_count _ _ _ hr
        obtain ⟨r, hr2⟩ := hsp
        have h2 := pagesF_len (d := d) (epoch := epoch) cnt first (chain0 epoch)
        rw [← hr2] at h2
        simp [st0] at h1 h2
        omega
      have hsz2 : (st.opn.length : Int) ≤ 1000000 := by omega
      have HRL : Hid (st.recs.length ≤ 1000000 ∧ st.next ≤ 1000000) := by
        have h1 := runO_recs _ _ _ hr
        have h3 := runO_count _ _ _ hr
        obtain ⟨r, hr2⟩ := hsp
        have h2 := pagesF_len (d := d) (epoch := epoch) cnt first (chain0 epoch)
        rw [← hr2] at h2
        simp [st0] at h1 h2 h3
        exact ⟨by omega, by omega⟩
      clear hi hpg hns hz2 hW hr hsp b1 b2 b3 r4 hB hit hA hPO
      have HRO := Lib.hid hro
      have HR5 := Lib.hid r5
      clear hro r5 hsj hspo
      generalize hgg : W.heap.size = g at *
      have HGG := Lib.hid hgg
      clear hgg
      gi_wp2
      gi_cut [73] from 62 (fun v wx => v = .bool (headBad st.opn p) ∧ ∃ n, wx = W2.drewN n)
      case first =>
        have P9 : ∀ x : InC (fun W' => ∃ n, W' = W2.drewN n), x.w.cell? ⟨po2, 0, none⟩ = some (.slice Ao st.opn.length co) := by rintro ⟨_, n, rfl⟩; exact k9
        have P1 : ∀ x : InC (fun W' => ∃ n, W' = W2.drewN n), x.w.cell? ⟨g, 1, none⟩ = some (.string p.digest) := by rintro ⟨_, n, rfl⟩; exact g1
        cases hopn : st.opn with
        | nil =>
          have HH : Hid (headBad st.opn p = false) := by show _ = _; rw [hopn]; rfl
          rw [hopn] at P9
          clear hopn HRO HR5
          refine wpIn_region_sub (fun W' => ∃ n, W' = W2.drewN n) (by kernel_rfl) (by kernel_rfl) (by kernel_rfl) ⟨1, rfl⟩ (fun hne => ?_)
          repeat (go_big_quiet_step (fail))
          refine wpQuiet_nil ?_
          rintro _ ⟨⟨W', hW'⟩, rfl⟩
          gi_wp2
          gi_meet
          exact ⟨by rw [HH.out], hW'⟩
        | cons q opn =>
          obtain ⟨ad, x, hAo, hx, _, hx1, _, _⟩ := at_PG HRO.out 0 (by omega) (by rw [hopn]; simp)
          obtain ⟨gb, hgb, _, _⟩ := R_head HR5.out (by rw [hopn]; simp)
          rw [hAo] at hgb
          injection hgb with hgb
          subst hgb
          subst hAo
          have hxq : x = q := by
            rw [hopn] at hx
            simpa using hx.symm
          subst hxq
          have P2 : ∀ x' : InC (fun W' => ∃ n, W' = W2.drewN n), x'.w.cell? ⟨gb, 1, none⟩ = some (.string x.digest) := by
            rintro ⟨_, n, rfl⟩
            simpa [Addr.add] using hx1
          have hm : 0 < st.opn.length := by rw [hopn]; simp
          have hm1 : (0 : Int) < st.opn.length := by omega
          have hm2 : decide (0 < st.opn.length) = true := by simpa using hm
          have HHB : Hid (headBad st.opn p = !(x.digest.toList == p.digest.toList)) := by show _ = _; rw [hopn]; rfl
          generalize st.opn.length = m at *
          clear hopn hx hx1 HRO HR5
          by_cases hdg : (x.digest.toList == p.digest.toList) = true
          · have HH : Hid (headBad st.opn p = false) := by show _ = _; rw [HHB.out, hdg]; rfl
            refine wpIn_region_sub (fun W' => ∃ n, W' = W2.drewN n) (by kernel_rfl) (by kernel_rfl) (by kernel_rfl) ⟨1, rfl⟩ (fun hne => ?_)
            repeat (go_big_quiet_step (fail))
            refine wpQuiet_nil ?_
            rintro _ ⟨⟨W', hW'⟩, rfl⟩
            gi_wp2
            gi_meet
            exact ⟨by rw [HH.out], hW'⟩
          · have hdg : (x.digest.toList == p.digest.toList) = false := by simpa using hdg
            have HH : Hid (headBad st.opn p = true) := by show _ = _; rw [HHB.out, hdg]; rfl
            refine wpIn_region_sub (fun W' => ∃ n, W' = W2.drewN n) (by kernel_rfl) (by kernel_rfl) (by kernel_rfl) ⟨1, rfl⟩ (fun hne => ?_)
            repeat (go_big_quiet_step (fail))
            refine wpQuiet_nil ?_
            rintro _ ⟨⟨W', hW'⟩, rfl⟩
            gi_wp2
            gi_meet
            exact ⟨by rw [HH.out], hW'⟩
      case rest =>
        obtain ⟨rfl, n3, rfl⟩ := hcut
        have HI3 : Hid (OpenI w n0 Wl.heap.size b d FD first cnt epoch jb pj po2 st s (W2.drewN n3)) := HI.out.upd ((Upd.refl (fun _ => False) W2).drewN n3) (fun k h => h.elim) HFD.out
        have HPG3 : Hid (Blk (W2.drewN n3) g #[.string p.check, .string p.digest, .string p.data, .bool p.last] 90) := HPG.out
        have HU3 : Hid (Upd s W2 (W2.drewN n3)) := (Upd.refl _ _).drewN n3
        have HZ3 : Hid ((W2.drewN n3).heap.size = g + 1) := HZ.out
        clear HI HPG k9 g0 g1 g2 g3 HRO HR5
        generalize W2.drewN n3 = W3 at *
        have hsD : Hid (¬ s Wl.heap.size ∧ ¬ s (Wl.heap.size + 1)) := by
          obtain ⟨rv, ov, _, _, _, _, _, _, _, _, _, _, h11, _⟩ := HI3.out
          exact ⟨fun h => by have := h11 _ h; omega, fun h => by have := h11 _ h; omega⟩
        cases hhb : headBad st.opn p with
        | true =>
          have HST : Hid (stepO st p = none) := by show _ = _; rw [stepO, hhb]; rfl
          clear hhb
          gi_wp2
          exact ⟨⟨s, HU3.out, hsD.out.1, hsD.out.2⟩, rfl, st, pre, p, rfl, HR.out, HST.out, HI3.out.end_⟩
        | false =>
          have HHB := Lib.hid hhb
          clear hhb
          obtain ⟨rv, ov, b1, b2, b3, r4, r5, h6, h7, h8, h9, h10, h11, h12⟩ := HI3.out
          have k9 : W3.cell? ⟨po2, 0, none⟩ = some ov := b3.cell 0 _ rfl
          have g0 : W3.cell? ⟨g, 0, none⟩ = some (.string p.check) := HPG3.out.cell 0 _ rfl
          have g1 : W3.cell? ⟨g, 1, none⟩ = some (.string p.digest) := HPG3.out.cell 1 _ rfl
          have g2 : W3.cell? ⟨g, 2, none⟩ = some (.string p.data) := HPG3.out.cell 2 _ rfl
          have g3 : W3.cell? ⟨g, 3, none⟩ = some (.bool p.last) := HPG3.out.cell 3 _ rfl
          have HRO : Hid (kPG.R 90 W3 0 (fun k => s k ∨ W3.heap.size ≤ k) ov st.opn) := Kd.R_mono r5 (fun k hk => .inl hk)
          have HAPP : Hid (∀ w1 v1, W3.grownBy w1 ov.ownBlock → kPG.R 90 w1 0 (fun k => s k ∨ W3.heap.size ≤ k) v1 (st.opn ++ [p]) →
              OpenI w n0 Wl.heap.size b d FD first cnt epoch jb pj po2 { st with opn := st.opn ++ [p] } (fun k => s k ∨ (W3.heap.size ≤ k ∧ k < w1.heap.size)) (w1.setCell ⟨po2, 0, none⟩ v1) ∧ Upd s W3 (w1.setCell ⟨po2, 0, none⟩ v1)) := fun w1 v1 hg ho =>
            open_app p b1 b2 b3 r4 r5 h6 h7 h8 h9 h10 h11 h12 hg ho HFD.out (by have := HZ3.out; have := HWS.out; omega) hn2.symm hn1.symm
          have HNE : Hid (∀ {x : Nat} {t : TypeId} {cs : Array Value}, Blk W3 x cs t → 90 ≠ t → some x ≠ ov.ownBlock) := fun hb ht => Kd.R_ne r5 hb ht
          have HB3 := Lib.hid b3
          have hpl : po2 < W3.heap.size := b3.lt
          have hgl : g < W3.heap.size := HPG3.out.lt
          clear b1 b2 b3 r4 r5 h6 h7 h8 h9 h10 h11 h12
          gi_wp2_with (gi_at_builtin; refine wpListIn_one (by intro c h; cases h) (fun a w h => h) ?_; refine app_list kPG rfl (.tmp 74) (.tmp 76) 87 90 (.agg #[(.string ⟨#[]⟩), (.string ⟨#[]⟩), (.string ⟨#[]⟩), (.bool false)]) 56 rfl Tryd.underlying87 infoPG rfl (by decide) (by omega) _ st.opn p [.string p.check, .string p.digest, .string p.data, .bool p.last] (fun k => s k ∨ W3.heap.size ≤ k) (by rfl) _ (by rfl) (by simp) (kPG_mkM _ _ _ p) (fun k hk => .inr hk) HRO.out (by omega) ?_; intro v1 w1 ho hbel hg hat)
          obtain ⟨Av, cv, hv, hcv, hrd⟩ := Kd.R_reads ho
          rw [List.length_append, List.length_singleton] at hv
          subst hv
          have hb3 : Blk w1 po2 #[ov] 87 := (hg.block po2 hpl (HNE.out HB3.out (by decide))).trans HB3.out
          have e1 : w1.cell? ⟨po2, 0, none⟩ = some ov := hb3.cell 0 _ rfl
          have e2 : w1.frozen? ⟨po2, 0, none⟩ = false := hb3.frozen 0
          obtain ⟨hi4, hu4⟩ := HAPP.out w1 _ hg ho
          have hz4 := hu4.size
          have HI4 := Lib.hid hi4
          have HU4 : Hid (Upd s W2 (w1.setCell ⟨po2, 0, none⟩ (.slice Av (st.opn.length + 1) cv))) := HU3.out.trans hu4 (fun _ h => .inl h)
          have HPG4 : Hid (Blk (w1.setCell ⟨po2, 0, none⟩ (.slice Av (st.opn.length + 1) cv)) g #[.string p.check, .string p.digest, .string p.data, .bool p.last] 90) := HPG3.out.upd hu4 HNS.out
          have HZ4 : Hid (g + 1 ≤ (w1.setCell ⟨po2, 0, none⟩ (.slice Av (st.opn.length + 1) cv)).heap.size) := by have := HZ3.out; show _ ≤ _; omega
          have HS4 : Hid (∃ s4 : Nat → Prop, OpenI w n0 Wl.heap.size b d FD first cnt epoch jb pj po2 { st with opn := st.opn ++ [p] } s4 (w1.setCell ⟨po2, 0, none⟩ (.slice Av (st.opn.length + 1) cv)) ∧ ∀ k, s4 k → s k ∨ g + 1 ≤ k) := ⟨_, hi4, fun k hk => hk.imp id (fun h => by have := HZ3.out; omega)⟩
          clear hrd ho hbel hg hat hb3 hi4 hu4 hz4 HAPP HNE HB3 HRO HI3 HU3 HPG3 HZ3 k9 g0 g1 g2 g3 HI4 hpl hgl
          show wpListIn _ _ _ _ _ _ _ _
          gi_upto_region 10 with (fail)
          generalize w1.setCell ⟨po2, 0, none⟩ (.slice Av (st.opn.length + 1) cv) = W4 at *
          have g3 : W4.cell? ⟨g, 3, none⟩ = some (.bool p.last) := HPG4.out.cell 3 _ rfl
          clear e1 e2
          cases hlast : p.last with
          | false =>
            rw [hlast] at g3
            have HST : Hid (stepO st p = some { st with opn := st.opn ++ [p] }) := by show _ = _; rw [stepO, HHB.out, hlast]; rfl
            clear hlast
            gi_wp2
            obtain ⟨s4, hi4, hs4⟩ := HS4.out
            obtain ⟨hkeep, hkp⟩ := round_ok HGG.out HU4.out hsD.out HW2.out HZ.out hi4 (fun k hk => (hs4 k hk).imp id (fun h => by omega))
            exact ⟨hkeep, s4, hkp, _, by rw [runO_snoc, HR.out]; exact HST.out, hi4⟩
          | true =>
            rw [hlast] at g3
            have HST : Hid (stepO st p = if (sha (catD (st.opn ++ [p]))).toList == p.digest.toList then some ⟨st.recs ++ [catD (st.opn ++ [p])], st.next + (st.opn ++ [p]).length, p.check, []⟩ else none) := by show _ = _; rw [stepO, HHB.out, hlast]; rfl
            clear hlast
            obtain ⟨s4, hi4, hs4⟩ := HS4.out
            have HI4 := Lib.hid hi4
            have HS4b := Lib.hid hs4
            obtain ⟨rv, ov, b1, b2, b3, r4, r5, h6, h7, h8, h9, h10, h11, h12⟩ := hi4
            obtain ⟨Ao, co, rfl, hco, hro⟩ := Kd.R_reads r5
            have k9 : W4.cell? ⟨po2, 0, none⟩ = some (.slice Ao (st.opn ++ [p]).length co) := b3.cell 0 _ rfl
            have hpl : po2 < W4.heap.size := b3.lt
            have hlen : (st.opn ++ [p]).length = st.opn.length + 1 := by simp
            rw [hlen] at k9
            have HRO := Lib.hid hro
            have HR5 := Lib.hid r5
            have HLT : Hid (∀ k, s4 k → k < W4.heap.size) := fun k hk => (h11 k hk).2.1
            have HLEN := Lib.hid hlen
            have HPJL : Hid (pj < W4.heap.size) := b2.lt
            have HGL : Hid (g < W4.heap.size) := HPG4.out.lt
            clear hs4 b1 b2 b3 r4 r5 h6 h7 h8 h9 h10 h11 h12 hro hlen HS4
            have HDAT : Hid (∀ q ∈ st.opn ++ [p], q.data.size ≤ 1000) := by
              obtain ⟨r, hr2⟩ := HSPp.out
              intro q hq
              have hmem : q ∈ pre ++ [p] := by
                rcases List.mem_append.1 hq with h | h
                · exact List.mem_append_left _ ((runO_opn _ _ _ HR.out q h).resolve_left (by simp [st0]))
                · exact List.mem_append_right _ h
              refine (pagesF_data (d := d) (epoch := epoch) cnt first (chain0 epoch) q ?_).1
              rw [← hr2]
              exact List.mem_append_left _ hmem
            gi_wp2
            have HJ0' : Hid (JoinR W4 W4.heap.size (st.opn ++ [p]) (.int .i64 0) (W4.alloc (.cells #[.pointer none, .slice none 0 0] 94))) :=
              ⟨0, Nat.zero_le _, rfl, Lib.fresh_isBuilder _ _ W4, (Below.refl _ _).alloc (Nat.le_refl _) _, by simp⟩
            have HLN : Hid ((st.opn ++ [p]).length = st.opn.length + 1) := by show _ = _; simp
            generalize W4.alloc (.cells #[.pointer none, .slice none 0 0] 94) = W5 at *
            gi_loopw [83] (fun v wr => JoinR W4 W4.heap.size (st.opn ++ [p]) v wr) (fun v _ => (st.opn.length + 1) - (intOf v).toNat)
            case atStart => exact HJ0'.out
            case round =>
              clear HJ0' k9 g3
              obtain ⟨i, hi, rfl, hbu, hbe, hbz⟩ := hrel
              rw [HLN.out] at hi
              have hbn : W4.heap.size ≠ wr.heap.size := by omega
              by_cases hlt : i < st.opn.length + 1
              · have hdec : decide ((i : Int) < (st.opn.length : Int) + 1) = true := by simp; omega
                have hdec2 : decide ((i : Int) < ((st.opn.length + 1 : Nat) : Int)) = true := by simp; omega
                have r5' : kPG.R 90 wr 0 s4 (.slice Ao (st.opn ++ [p]).length co) (st.opn ++ [p]) := Kd.R_step HR5.out (fun k hk _ => hbe.block k (HLT.out k hk))
                obtain ⟨_, _, e, _, hro⟩ := Kd.R_reads r5'
                obtain ⟨rfl, rfl⟩ : _ ∧ _ := by simpa using e
                obtain ⟨ad, x, rfl, hx, hx0, hx1, hx2, hx3⟩ := at_PG hro i (by omega) (by rw [HLN.out]; omega)
                rw [Int.toNat_natCast] at hx hx0 hx1 hx2 hx3
                have HX := Lib.hid hx
                have HBU := Lib.hid hbu
                have HBE := Lib.hid hbe
                have hba : Below wr.heap.size wr (wr.alloc (.cells #[.string x.check, .string x.digest, .string x.data, .bool x.last] 90)) := (Below.refl _ _).alloc (Nat.le_refl _) _
                have HBU2 : Hid (Lib.IsBuilder 94 5 W4.heap.size W4.heap.size (Lib.byteCells (catD ((st.opn ++ [p]).take i)).data.toList) (wr.alloc (.cells #[.string x.check, .string x.digest, .string x.data, .bool x.last] 90))) := builder_below hbu hba
                have HBE2 : Hid (Below W4.heap.size W4 (wr.alloc (.cells #[.string x.check, .string x.digest, .string x.data, .bool x.last] 90))) := hbe.trans (hba.mono (Nat.le_of_lt hbz))
                have HBZ2 : Hid (W4.heap.size < (wr.alloc (.cells #[.string x.check, .string x.digest, .string x.data, .bool x.last] 90)).heap.size) := Nat.lt_of_lt_of_le hbz hba.size
                have hsz : (catD ((st.opn ++ [p]).take i)).size ≤ 1000 * i := by
                  have := catD_size ((st.opn ++ [p]).take i) (fun q hq => HDAT.out q (List.mem_of_mem_take hq))
                  have h2 : ((st.opn ++ [p]).take i).length ≤ i := List.length_take_le _ _
                  omega
                have hxs : x.data.size ≤ 1000 := HDAT.out x (List.mem_of_getElem? hx)
                have HLE : Hid ((Lib.byteCells (catD ((st.opn ++ [p]).take i)).data.toList).length + x.data.size ≤ 140737488355328) := by
                  show _ ≤ _
                  rw [Lib.byteCells_length, Array.length_toList]
                  have : (catD ((st.opn ++ [p]).take i)).data.size = (catD ((st.opn ++ [p]).take i)).size := rfl
                  omega
                clear hx r5' hro e hbu hbe hba hsz hxs
                gi_wp2
                refine ⟨trivial, callsR ?_⟩
                refine (writeString_any W4.heap.size W4.heap.size _ x.data _ HBU2.out HLE.out (Nat.le_of_lt HBZ2.out)).mono ?_
                rintro e w6 ⟨rfl, hb6, hbel6⟩
                have HB6 : Hid (Lib.IsBuilder 94 5 W4.heap.size W4.heap.size (Lib.byteCells (catD ((st.opn ++ [p]).take (i + 1))).data.toList) w6) := by
                  show Lib.IsBuilder _ _ _ _ _ _
                  have e1 : (st.opn ++ [p]).take (i + 1) = (st.opn ++ [p]).take i ++ [x] := by rw [List.take_add_one, HX.out]; rfl
                  rw [e1, catD_snoc]
                  have e2 : (catD ((st.opn ++ [p]).take i) ++ x.data).data.toList = (catD ((st.opn ++ [p]).take i)).data.toList ++ x.data.data.toList := by simp [ByteArray.data_append]
                  rw [e2, Lib.byteCells_append]
                  exact .inr hb6
                have HBE6 : Hid (Below W4.heap.size W4 w6) := HBE2.out.trans hbel6
                have HBZ6 : Hid (W4.heap.size < w6.heap.size) := Nat.lt_of_lt_of_le HBZ2.out hbel6.size
                clear hb6 hbel6 HBU2 HBE2
                gi_wp2
                exact ⟨⟨i + 1, by rw [HLN.out]; omega, by go_num, HB6.out, HBE6.out, HBZ6.out⟩, by simp [intOf]; omega⟩
              · have hei : i = st.opn.length + 1 := by omega
                have hdec : decide ((i : Int) < (st.opn.length : Int) + 1) = false := by simp; omega
                have hdec2 : decide ((i : Int) < ((st.opn.length + 1 : Nat) : Int)) = false := by simp; omega
                have HJE : Hid (JoinE W4 W4.heap.size (catD (st.opn ++ [p])).data.toList wr) := by
                  rw [List.take_of_length_le (by rw [HLN.out]; omega)] at hbu
                  exact ⟨Lib.IsBuilderF.of hbu, hbe, hbz⟩
                clear hbu hbe hei hbn
                have HEQ0 : Hid (∃ bq, bq = ((sha (catD (st.opn ++ [p]))).toList == p.digest.toList)) := ⟨_, rfl⟩
                gi_wp2
                gi_cut [95] from 91 (fun v wx => v = .bool (!((sha (catD (st.opn ++ [p]))).toList == p.digest.toList)) ∧ JoinE W4 W4.heap.size (catD (st.opn ++ [p])).data.toList wx)
                case first =>
                  have P1 : ∀ x : InC (JoinE W4 W4.heap.size (catD (st.opn ++ [p])).data.toList), x.w.cell? ⟨g, 1, none⟩ = some (.string p.digest) := fun x =>
                    (HPG4.out.upd (Upd.of_above x.h.2.1) (by have := HGL.out; omega)).cell 1 _ rfl
                  have HSTR : Hid (∀ x : InC (JoinE W4 W4.heap.size (catD (st.opn ++ [p])).data.toList), Calls Tryd.prog 39 #[.pointer (some ⟨W4.heap.size, 0, none⟩)] x.w fun e w'' => e = .returned (.string (catD (st.opn ++ [p]))) ∧ ∃ q : InC (JoinE W4 W4.heap.size (catD (st.opn ++ [p])).data.toList), w'' = q.w) := fun x =>
                    Calls.sub ((Tryd.Builder_String_any_f W4.heap.size W4.heap.size (catD (st.opn ++ [p])).data.toList x.w x.h.1 (Nat.le_of_lt x.h.2.2)).mono (fun e w' ⟨he, hF, hb⟩ => ⟨by rw [he], hF, x.h.2.1.trans hb, Nat.lt_of_lt_of_le x.h.2.2 hb.size⟩))
                  have hcs : (catD (st.opn ++ [p])).size ≤ 281474976710656 := by
                    have := catD_size _ HDAT.out
                    rw [HLN.out] at this
                    omega
                  have HSUM : Hid (∀ x : InC (JoinE W4 W4.heap.size (catD (st.opn ++ [p])).data.toList), Calls Tryd.prog 35 #[.string (catD (st.opn ++ [p]))] x.w fun e w'' => e = .returned (.string (sha (catD (st.opn ++ [p])))) ∧ ∃ q : InC (JoinE W4 W4.heap.size (catD (st.opn ++ [p])).data.toList), w'' = q.w) := fun x =>
                    Calls.sub ((sum_any _ x.w hcs).mono (fun e w' ⟨he, hb⟩ => ⟨he, x.h.step hb⟩))
                  clear hcs
                  cases hq : ((sha (catD (st.opn ++ [p]))).toList == p.digest.toList) with
                  | true =>
                    have HEQ : Hid (((sha (catD (st.opn ++ [p]))).toList == p.digest.toList) = true) := hq
                    refine wpIn_region_sub (JoinE W4 W4.heap.size (catD (st.opn ++ [p])).data.toList) (by kernel_rfl) (by kernel_rfl) (by kernel_rfl) (HJE.out.step ((Below.refl _ _).drewN' 1)) (fun hne => ?_)
                    repeat (go_big_quiet_step ((first | (go_at_call 39; exact HSTR.out _) | (go_at_call 35; exact HSUM.out _))))
                    refine wpQuiet_nil ?_
                    rintro _ ⟨⟨W', hW'⟩, rfl⟩
                    gi_wp2
                    gi_meet
                    exact ⟨by rw [HEQ.out]; rfl, hW'⟩
                  | false =>
                    have HEQ : Hid (((sha (catD (st.opn ++ [p]))).toList == p.digest.toList) = false) := hq
                    refine wpIn_region_sub (JoinE W4 W4.heap.size (catD (st.opn ++ [p])).data.toList) (by kernel_rfl) (by kernel_rfl) (by kernel_rfl) (HJE.out.step ((Below.refl _ _).drewN' 1)) (fun hne => ?_)
                    repeat (go_big_quiet_step ((first | (go_at_call 39; exact HSTR.out _) | (go_at_call 35; exact HSUM.out _))))
                    refine wpQuiet_nil ?_
                    rintro _ ⟨⟨W', hW'⟩, rfl⟩
                    gi_wp2
                    gi_meet
                    exact ⟨by rw [HEQ.out]; rfl, hW'⟩
                case rest =>
                  obtain ⟨rfl, hje⟩ := hcut
                  have hi6 : OpenI w n0 Wl.heap.size b d FD first cnt epoch jb pj po2 { st with opn := st.opn ++ [p] } s4 wc := by
                    refine HI4.out.upd (Upd.of_above hje.2.1) (fun k hk => ⟨fun hs => ?_, ?_, ?_⟩) HFD.out
                    · have := HLT.out k hs; omega
                    · have := HPJL.out; omega
                    · have := HSN.out; have := HGL.out; have := HWS.out; omega
                  have hu6 : Upd s W2 wc := HU4.out.trans (Upd.of_above hje.2.1) (fun i hi => .inr (Nat.le_trans HU4.out.size hi))
                  have hpg6 : Blk wc g #[.string p.check, .string p.digest, .string p.data, .bool p.last] 90 := HPG4.out.upd (Upd.of_above hje.2.1) (by have := HGL.out; omega)
                  have HI6 := Lib.hid hi6
                  have HU6 := Lib.hid hu6
                  have HJE6 := Lib.hid hje
                  have HPG6 := Lib.hid hpg6
                  clear HJE hi6 hu6 hje hpg6
                  cases hq : ((sha (catD (st.opn ++ [p]))).toList == p.digest.toList) with
                  | false =>
                    have HSN2 : Hid (stepO st p = none) := by show _ = _; rw [HST.out, hq]; rfl
                    clear hq
                    gi_wp2
                    exact ⟨⟨s, HU6.out, hsD.out.1, hsD.out.2⟩, rfl, st, pre, p, rfl, HR.out, HSN2.out, HI6.out.end_⟩
                  | true =>
                    have HSN2 : Hid (stepO st p = some ⟨st.recs ++ [catD (st.opn ++ [p])], st.next + (st.opn ++ [p]).length, p.check, []⟩) := by show _ = _; rw [HST.out, hq]; rfl
                    clear hq
                    have P8 : Hid (wc.cell? ⟨pj, 0, none⟩ = some (.pointer (some ⟨jb, 0, none⟩))) := by
                      obtain ⟨rv, ov, b1, b2, _⟩ := HI6.out
                      exact b2.cell 0 _ rfl
                    have P4 : Hid (∃ rv, wc.cell? ⟨jb, 4, none⟩ = some rv) := by
                      obtain ⟨rv, ov, b1, b2, _⟩ := HI6.out
                      exact ⟨rv, b1.cell 4 _ rfl⟩
                    obtain ⟨rv4, hrv4⟩ := P4.out
                    have HRV := Lib.hid hrv4
                    clear hrv4 P4
                    gi_wp2
                    refine wpIn_region_heldK 5 8 (fun W' => W'.cell? ⟨pj, 0, none⟩ = some (.pointer (some ⟨jb, 0, none⟩)) ∧ W'.cell? ⟨jb, 4, none⟩ = some rv4) (by kernel_rfl) (by kernel_rfl) (by kernel_rfl) (fun _ _ _ _ _ h => h) (fun a w h => h) ⟨P8.out, HRV.out⟩ (fun hne => ?_)
                    have P1 : ∀ x : InC (fun W' : World => W'.cell? ⟨pj, 0, none⟩ = some (.pointer (some ⟨jb, 0, none⟩)) ∧ W'.cell? ⟨jb, 4, none⟩ = some rv4), x.w.cell? ⟨pj, 0, none⟩ = some (.pointer (some ⟨jb, 0, none⟩)) := fun x => x.h.1
                    have P2 : ∀ x : InC (fun W' : World => W'.cell? ⟨pj, 0, none⟩ = some (.pointer (some ⟨jb, 0, none⟩)) ∧ W'.cell? ⟨jb, 4, none⟩ = some rv4), x.w.cell? ⟨jb, 4, none⟩ = some rv4 := fun x => x.h.2
                    simp only [List.take_succ_cons, List.take_zero, List.drop_succ_cons, List.drop_zero]
                    repeat (go_big_quiet_step (fail))
                    refine wpQuiet_nil ?_
                    clear P1 P2
                    have hje7 : JoinE W4 W4.heap.size (catD (st.opn ++ [p])).data.toList wc.drew := HJE6.out.step ((Below.refl _ _).drewN' 1)
                    have HJE7 := Lib.hid hje7
                    clear hje7
                    refine wpListK_one (fun a w h => h) ?_
                    go_wp2_with (go_at_call 39; refine (Tryd.Builder_String_any_f W4.heap.size W4.heap.size (catD (st.opn ++ [p])).data.toList _ HJE7.out.1 (Nat.le_of_lt HJE7.out.2.2)).mono ?_; rintro e w7 ⟨rfl, hF7, hb7⟩)
                    have hbw : Below W4.heap.size wc w7 := ((Below.refl _ _).drewN' 1).trans hb7
                    have HI7 : Hid (OpenI w n0 Wl.heap.size b d FD first cnt epoch jb pj po2 { st with opn := st.opn ++ [p] } s4 w7) := by
                      refine HI6.out.upd (Upd.of_above hbw) (fun k hk => ⟨fun hs => ?_, ?_, ?_⟩) HFD.out
                      · have := HLT.out k hs; omega
                      · have := HPJL.out; omega
                      · have := HSN.out; have := HGL.out; have := HWS.out; omega
                    have HU7 : Hid (Upd s W2 w7) := HU6.out.trans (Upd.of_above hbw) (fun i hi => .inr (Nat.le_trans HU4.out.size hi))
                    have HPG7 : Hid (Blk w7 g #[.string p.check, .string p.digest, .string p.data, .bool p.last] 90) := HPG6.out.upd (Upd.of_above hbw) (by have := HGL.out; omega)
                    have hrv7 : w7.cell? ⟨jb, 4, none⟩ = some rv4 := by
                      obtain ⟨rv, ov, b1, _, _, _, _, _, _, h8, _⟩ := HI6.out
                      have := b1.upd (Upd.of_above hbw) (by have := HLT.out _ h8; omega)
                      have e1 := b1.cell 4 _ rfl
                      have e2 := this.cell 4 _ rfl
                      rw [e2, ← e1, HRV.out]
                    clear hbw hF7 hb7 HI6 HU6 HPG6 HJE6 HJE7 HRV P8
                    obtain ⟨rv, ov, b1, b2, b3, r4, r5, h6, h7, h8, h9, h10, h11, h12⟩ := HI7.out
                    have erv : rv4 = rv := by
                      have := b1.cell 4 _ rfl
                      rw [hrv7] at this
                      injection this
                    subst erv
                    refine ⟨fun _ => ⟨b2.cell 0 _ rfl, hrv7⟩, ?_⟩
                    refine wpListK_one (fun a w h => h) ?_
                    have HREC : Hid (∀ w1 v1, w7.grownBy w1 rv4.ownBlock → Kd.string.R 9 w1 0 (fun k => s4 k ∨ w7.heap.size ≤ k) v1 (st.recs ++ [catD (st.opn ++ [p])]) →
                        OpenI w n0 Wl.heap.size b d FD first cnt epoch jb pj po2 { recs := st.recs ++ [catD (st.opn ++ [p])], next := st.next, chain := st.chain, opn := st.opn ++ [p] } (fun k => s4 k ∨ (w7.heap.size ≤ k ∧ k < w1.heap.size)) (w1.setCell ⟨jb, 4, none⟩ v1) ∧ Upd s4 w7 (w1.setCell ⟨jb, 4, none⟩ v1)) := fun w1 v1 hg ho =>
                      open_rec (st := { recs := st.recs, next := st.next, chain := st.chain, opn := st.opn ++ [p] }) (catD (st.opn ++ [p])) b1 b2 b3 r4 r5 h6 h7 h8 h9 h10 h11 h12 hg ho HFD.out (by have := HWS.out; have := HPG7.out.lt; omega) hn2.symm hpj.out
                    have HB1 := Lib.hid b1
                    have HB2 := Lib.hid b2
                    have HR4 : Hid (Kd.string.R 9 w7 0 (fun k => s4 k ∨ w7.heap.size ≤ k) rv4 st.recs) := Kd.R_mono r4 (fun k hk => .inl hk)
                    have HNE1 : Hid (some jb ≠ rv4.ownBlock ∧ some pj ≠ rv4.ownBlock) := ⟨Kd.R_ne r4 b1 (by decide), Kd.R_ne r4 b2 (by decide)⟩
                    clear b1 b2 b3 r4 r5 h6 h7 h8 h9 h10 h11 h12 hrv7
                    go_wp2
                    refine ⟨⟨(HB2.out.alloc _).cell 0 _ rfl, (HB1.out.alloc _).cell 4 _ rfl⟩, ?_⟩
                    refine wpListK_one (fun a w h => h) ?_
                    refine app_list (X := w7) Kd.string rfl (.tmp 100) (.tmp 102) 22 9 (.string ⟨#[]⟩) 16 rfl Tryd.underlying22 Pr.info9 rfl (by decide) (by omega) rv4 st.recs (catD (st.opn ++ [p])) [.string (catD (st.opn ++ [p]))] (fun k => s4 k ∨ w7.heap.size ≤ k) (by rfl) _ (by rfl) (by simp) rfl (fun k hk => .inr hk) HR4.out (by have := HRL.out; omega) ?_
                    intro v1 w8 ho hbel hg hat
                    obtain ⟨hi8, hu8⟩ := HREC.out w8 v1 hg ho
                    have c8 : w8.cell? ⟨jb, 4, none⟩ = some rv4 := Blk.cell (show Blk w8 jb _ _ from (hg.block jb HB1.out.lt HNE1.out.1).trans HB1.out) 4 _ rfl
                    have f8 : w8.frozen? ⟨jb, 4, none⟩ = false := Blk.frozen (show Blk w8 jb _ _ from (hg.block jb HB1.out.lt HNE1.out.1).trans HB1.out) 4
                    have p8 : w8.cell? ⟨pj, 0, none⟩ = some (.pointer (some ⟨jb, 0, none⟩)) := Blk.cell (show Blk w8 pj _ _ from (hg.block pj HB2.out.lt HNE1.out.2).trans HB2.out) 0 _ rfl
                    refine ⟨fun _ => ⟨p8, c8⟩, ?_⟩
                    refine wpListK_zero (fun a w h => h) _ _ _ ?_
                    obtain ⟨Av, cv, rfl, hcv, hrd⟩ := Kd.R_reads ho
                    rw [List.length_append, List.length_singleton] at hi8 hu8
                    have HI8 := Lib.hid hi8
                    have HU8 : Hid (Upd s W2 (w8.setCell ⟨jb, 4, none⟩ (.slice Av (st.recs.length + 1) cv))) := HU7.out.trans hu8 (fun k hk => (HS4b.out k hk).imp id (fun h => by have := HZ.out; omega))
                    have HPG8 : Hid (Blk (w8.setCell ⟨jb, 4, none⟩ (.slice Av (st.recs.length + 1) cv)) g #[.string p.check, .string p.digest, .string p.data, .bool p.last] 90) := HPG7.out.upd hu8 (fun hs => (HS4b.out g hs).elim HNS.out (fun h => by omega))
                    have HZ7 : Hid (g + 1 ≤ w7.heap.size) := by have := HPG7.out.lt; show _ ≤ _; omega
                    clear hi8 hu8 hrd ho hbel hg hat HREC HB1 HB2 HR4 HNE1 HU7 HPG7 HI7 HI4 HPG4
                    go_wp2
                    generalize w8.setCell ⟨jb, 4, none⟩ (.slice Av (st.recs.length + 1) cv) = W9 at *
                    have HS9 : Hid (∃ s9 : Nat → Prop, OpenI w n0 Wl.heap.size b d FD first cnt epoch jb pj po2 { recs := st.recs ++ [catD (st.opn ++ [p])], next := st.next, chain := st.chain, opn := st.opn ++ [p] } s9 W9 ∧ ∀ k, s9 k → s k ∨ g + 1 ≤ k) :=
                      ⟨_, HI8.out, fun k hk => hk.elim (fun h => HS4b.out k h) (fun h => .inr (by have := HZ7.out; omega))⟩
                    clear c8 f8 p8 HI8
                    obtain ⟨s9, hi9, hs9⟩ := HS9.out
                    have HI9 := Lib.hid hi9
                    have HS9b := Lib.hid hs9
                    obtain ⟨rv, ov, b1, b2, b3, r4, r5, h6, h7, h8, h9, h10, h11, h12⟩ := hi9
                    obtain ⟨Ao2, co2, rfl, _, _⟩ := Kd.R_reads r5
                    have e1 : IntKind.i64.wrap ((st.next : Int) + ((st.opn.length : Int) + 1)) = (st.next : Int) + ((st.opn.length : Int) + 1) := IntWalk.i64_in _ (by have := HRL.out; omega)
                    have P8 : ∀ x : InC (fun W' : World => W' = W9.drew), x.w.cell? ⟨pj, 0, none⟩ = some (.pointer (some ⟨jb, 0, none⟩)) := by rintro ⟨_, rfl⟩; exact b2.cell 0 _ rfl
                    have P5 : ∀ x : InC (fun W' : World => W' = W9.drew), x.w.cell? ⟨jb, 5, none⟩ = some (.int .i64 (st.next : Int)) := by rintro ⟨_, rfl⟩; exact b1.cell 5 _ rfl
                    have P9 : ∀ x : InC (fun W' : World => W' = W9.drew), x.w.cell? ⟨po2, 0, none⟩ = some (.slice Ao2 (st.opn.length + 1) co2) := by rintro ⟨_, rfl⟩; have := b3.cell 0 _ rfl; rw [HLN.out] at this; exact this
                    have p5 : W9.cell? ⟨jb, 5, none⟩ = some (.int .i64 (st.next : Int)) := b1.cell 5 _ rfl
                    have f5 : W9.frozen? ⟨jb, 5, none⟩ = false := b1.frozen 5
                    clear b1 b2 b3 r4 r5 h6 h7 h8 h9 h10 h11 h12 hs9 HS9
                    gi_wp2
                    refine wpIn_region_tail 7 (fun W' => W' = W9.drew) (by kernel_rfl) (by kernel_rfl) (by kernel_rfl) rfl (fun hne => ?_)
                    simp only [List.take_succ_cons, List.take_zero, List.drop_succ_cons, List.drop_zero]
                    repeat (go_big_quiet_step (fail))
                    refine wpQuiet_nil ?_
                    rintro _ ⟨⟨W', hW'⟩, rfl⟩
                    subst hW'
                    clear P8 P5 P9 e1
                    show wpListIn _ _ _ _ _ _ _ W9.drew
                    have HI9d : Hid (OpenI w n0 Wl.heap.size b d FD first cnt epoch jb pj po2 { recs := st.recs ++ [catD (st.opn ++ [p])], next := st.next, chain := st.chain, opn := st.opn ++ [p] } s9 W9.drew) := HI9.out.upd ((Upd.refl (fun _ => False) W9).drew) (fun k h => h.elim) HFD.out
                    have HU9 : Hid (Upd s W2 W9.drew) := HU8.out.drew
                    have HPG9 : Hid (Blk W9.drew g #[.string p.check, .string p.digest, .string p.data, .bool p.last] 90) := HPG8.out.drew
                    have p5' : W9.drew.cell? ⟨jb, 5, none⟩ = some (.int .i64 (st.next : Int)) := p5
                    have f5' : W9.drew.frozen? ⟨jb, 5, none⟩ = false := f5
                    clear p5 f5 HI9 HU8 HPG8 hne
                    generalize W9.drew = V9 at *
                    gi_upto_region 20 with (fail)
                    have hn10 : (st.next : Int) + ((st.opn.length : Int) + 1) = ((st.next + (st.opn ++ [p]).length : Nat) : Int) := by rw [HLN.out]; omega
                    rw [hn10]
                    have hI10 := open_next HI9d.out (st.next + (st.opn ++ [p]).length) HFD.out hn2.symm hpj.out
                    have HU10 : Hid (Upd s W2 (V9.setCell ⟨jb, 5, none⟩ (.int .i64 ((st.next + (st.opn ++ [p]).length : Nat) : Int)))) := HU9.out.trans hI10.2 (fun k hk => (HS9b.out k hk).imp id (fun h => by have := HZ.out; omega))
                    have HPG10 : Hid (Blk (V9.setCell ⟨jb, 5, none⟩ (.int .i64 ((st.next + (st.opn ++ [p]).length : Nat) : Int))) g #[.string p.check, .string p.digest, .string p.data, .bool p.last] 90) := HPG9.out.upd hI10.2 (fun hs => (HS9b.out g hs).elim HNS.out (fun h => by omega))
                    have HI10 := Lib.hid hI10.1
                    clear hI10 hn10 p5' f5' HI9d HU9 HPG9
                    generalize V9.setCell ⟨jb, 5, none⟩ (.int .i64 ((st.next + (st.opn ++ [p]).length : Nat) : Int)) = W10 at *
                    have p8 : W10.cell? ⟨pj, 0, none⟩ = some (.pointer (some ⟨jb, 0, none⟩)) := by
                      obtain ⟨rv, ov, b1, b2, _⟩ := HI10.out
                      exact b2.cell 0 _ rfl
                    have g0 : W10.cell? ⟨g, 0, none⟩ = some (.string p.check) := HPG10.out.cell 0 _ rfl
                    have p6 : W10.cell? ⟨jb, 6, none⟩ = some (.string st.chain) := by
                      obtain ⟨rv, ov, b1, b2, _⟩ := HI10.out
                      exact b1.cell 6 _ rfl
                    have f6 : W10.frozen? ⟨jb, 6, none⟩ = false := by
                      obtain ⟨rv, ov, b1, b2, _⟩ := HI10.out
                      exact b1.frozen 6
                    gi_upto_region 21 with (fail)
                    have hI11 := open_chain HI10.out p.check HFD.out hn2.symm hpj.out
                    have HU11 : Hid (Upd s W2 (W10.setCell ⟨jb, 6, none⟩ (.string p.check))) := HU10.out.trans hI11.2 (fun k hk => (HS9b.out k hk).imp id (fun h => by have := HZ.out; omega))
                    have HI11 := Lib.hid hI11.1
                    clear hI11 p8 g0 p6 f6 HI10 HU10 HPG10
                    generalize W10.setCell ⟨jb, 6, none⟩ (.string p.check) = W11 at *
                    obtain ⟨ov11, p9⟩ : ∃ ov, W11.cell? ⟨po2, 0, none⟩ = some ov := by
                      obtain ⟨rv, ov, b1, b2, b3, _⟩ := HI11.out
                      exact ⟨ov, b3.cell 0 _ rfl⟩
                    have f9 : W11.frozen? ⟨po2, 0, none⟩ = false := by
                      obtain ⟨rv, ov, b1, b2, b3, _⟩ := HI11.out
                      exact b3.frozen 0
                    gi_wp2
                    have hI12 := open_nil HI11.out HFD.out hn2.symm hn1.symm
                    have hu12 : Upd s W2 (W11.setCell ⟨po2, 0, none⟩ (.slice none 0 0)) := HU11.out.trans hI12.2 (fun k hk => (HS9b.out k hk).imp id (fun h => by have := HZ.out; omega))
                    obtain ⟨hkeep, hkp⟩ := round_ok HGG.out hu12 hsD.out HW2.out HZ.out hI12.1 (fun k hk => (HS9b.out k hk).imp id (fun h => by omega))
                    exact ⟨hkeep, s9, hkp, _, by rw [runO_snoc, HR.out]; exact HSN2.out, hI12.1⟩
    · rintro s xs W rfl ⟨st, hr, hi⟩ hK
      have hE := hi.end_
      have hst : st = openF d epoch first cnt := by
        have := openGo_run [] _ _ _ hr
        rw [List.append_nil] at this
        exact this.symm
      have p8 : W.cell? ⟨pj, 0, none⟩ = some (.pointer (some ⟨jb, 0, none⟩)) := by
        obtain ⟨rv, s, _, h2, _⟩ := hE
        exact h2.cell 0 _ rfl
      have HE := Lib.hid hE
      have HK := Lib.hid hK
      have HST := Lib.hid hst
      clear hi hE hK hst hit hA hPO
      go_wp2
      refine ⟨by simp, .inl ⟨_, _, rfl, run_takeDeferred HK.out, ?_⟩⟩
      have hp2 : Upd (fun k => k = Wl.heap.size) W (W.putObj Wl.heap.size (.deferred none)) := ⟨rfl, rfl, rfl, by simp [World.putObj], fun k _ hn => World.putObj_heap_other hn⟩
      refine ⟨.tuple #[.pointer (some ⟨jb, 0, none⟩), .int .i64 0], by simp [results, Tryd.results18, go_sem], ?_⟩
      exact (HE.out.upd hp2 HSN.out HSP.out (fun k hk => .inl hk)).post HN0.out HST.out
    · rintro c pre W hsp ⟨rfl, st, pre', p, hpre, hr, hs, hE⟩ hK
      have hst : st = openF d epoch first cnt := by
        obtain ⟨r, hr2⟩ := hsp
        rw [openF, ← hr2, hpre, List.append_assoc, List.singleton_append]
        exact (openGo_stop hr hs).symm
      have p8 : W.cell? ⟨pj, 0, none⟩ = some (.pointer (some ⟨jb, 0, none⟩)) := by
        obtain ⟨rv, s, _, h2, _⟩ := hE
        exact h2.cell 0 _ rfl
      have HE := Lib.hid hE
      have HK := Lib.hid hK
      have HST := Lib.hid hst
      clear hE hK hst hit hA hPO hsp hpre
      refine wpIn_wide.2 ?_
      go_wp2
      refine ⟨by simp, .inl ⟨_, _, rfl, run_takeDeferred HK.out, ?_⟩⟩
      have hp2 : Upd (fun k => k = Wl.heap.size) W (W.putObj Wl.heap.size (.deferred none)) := ⟨rfl, rfl, rfl, by simp [World.putObj], fun k _ hn => World.putObj_heap_other hn⟩
      refine ⟨.tuple #[.pointer (some ⟨jb, 0, none⟩), .int .i64 0], by simp [results, Tryd.results18, go_sem], ?_⟩
      exact (HE.out.upd hp2 HSN.out HSP.out (fun k hk => .inl hk)).post HN0.out HST.out
end Go.Proofs.YtpmjipokkkkljaaDoor
