/-
  Part of the proof of cd_card: the lemmas of Pages that it uses.
-/
import Derived.Test.YtpmjipokkkkljaaDoorQParse
import Derived.Test.YtpmjipokkkkljaaDoorQRegs
import Derived.Sort.LoopGhostIn
import Derived.Sort.QuietIn
namespace Go.Proofs.YtpmjipokkkkljaaDoor
set_option linter.all false
set_option linter.unusedVariables false
set_option linter.unusedSimpArgs false
open Go.RowKit Go.Proofs.YtpmjipokkkkljaaDoorW.PrintWords Go.Proofs.YtpmjipokkkkljaaDoorW.PrintLast Go.Proofs.YtpmjipokkkkljaaDoorW.PrintMore
open Go.WideMaps Go.WideElems Go.Shelf
attribute [local go_sem] Oper.semAt_some
/-- The valid pages from a page on. -/
def pagesF (d : DK) (epoch : Int) : Int → Nat → ByteArray → List PG
  | _, 0, _ => []
  | first, n + 1, chain => if (d.read first).2 = 0 then match parseF epoch (d.read first).1 chain with
    | some p => p :: pagesF d epoch (first + 1) n p.check
    | none => [] else []
/-- What the iterator reads. -/
def PagesG (b j : Nat) (d : DK) (FD : Nat → Prop) (first : Int) (cnt : Nat) (epoch : Int) (W : World) : Prop :=
  IsDisk W FD b d ∧ ∃ rv nx ch, Blk W j (jcells ⟨b, first, cnt, epoch, [], nx, ch⟩ rv) 84
theorem PagesG.below {b j : Nat} {d : DK} {FD : Nat → Prop} {first : Int} {cnt : Nat} {epoch : Int} {W W' : World} (h : PagesG b j d FD first cnt epoch W) (hb : Below W.heap.size W W') : PagesG b j d FD first cnt epoch W' := by
  obtain ⟨h1, rv, nx, ch, h2⟩ := h
  exact ⟨h1.upd (Upd.of_below hb (fun _ => False)) (fun _ _ h => h), rv, nx, ch, h2.upd (Upd.of_below hb (fun _ => False)) (fun h => h)⟩
theorem z0 : (⟨#[]⟩ : ByteArray).size ≤ 1000000 := Nat.zero_le _
theorem read_size (d : DK) (hd : ∀ x ∈ d.dur, x.size ≤ 1000000) (hp : ∀ x ∈ d.pend, x.data.size ≤ 1000000) (p : Int) : (d.read p).1.size ≤ 1000000 := by
  unfold DK.read
  split
  · split
    · rename_i i _
      cases hx : d.pend[i.toNat]? with
      | none => exact z0
      | some x => simpa using hp x (List.mem_of_getElem? hx)
    · split
      · exact z0
      · cases hx : d.dur[p.toNat]? with
        | none => exact z0
        | some x => simpa using hd x (List.mem_of_getElem? hx)
  · exact z0
def PagesRel (b j : Nat) (d : DK) (FD : Nat → Prop) (first : Int) (cnt : Nat) (epoch : Int) (chain : ByteArray) (J : (Nat → Prop) → List PG → World → Prop) (l : Nat) (c v : Value) (W : World) : Prop :=
  ∃ (i : Nat) (s : Nat → Prop) (pre : List PG) (ch : ByteArray), c = .string ch ∧ v = .int .i64 i ∧ i ≤ cnt ∧ ch.size ≤ 1000 ∧ l < W.heap.size ∧ J s pre W ∧ PagesG b j d FD first cnt epoch W ∧ pre ++ pagesF d epoch (first + i) (cnt - i) ch = pagesF d epoch first cnt chain
theorem parse_none (w : World) (j : Nat) (J : JD) (rv : Value) (s chain : ByteArray) (h : Blk w j (jcells J rv) 84) (hc : chain.size ≤ 1000) (hs : s.size ≤ 9223372036854775807) (hp : parseF J.epoch s chain = none) :
    Calls Tryd.prog 56 #[.pointer (some ⟨j, 0, none⟩), .string s, .string chain] w fun e w' =>
      e = .returned (.tuple #[.agg #[.string ByteArray.empty, .string ByteArray.empty, .string ByteArray.empty, .bool false], .bool false]) ∧ Below w.heap.size w w' := by
  have := parse_any w j J rv s chain h hc hs
  rw [hp] at this
  exact this
theorem parse_some (w : World) (j : Nat) (J : JD) (rv : Value) (s chain : ByteArray) (p : PG) (h : Blk w j (jcells J rv) 84) (hc : chain.size ≤ 1000) (hs : s.size ≤ 9223372036854775807) (hp : parseF J.epoch s chain = some p) :
    Calls Tryd.prog 56 #[.pointer (some ⟨j, 0, none⟩), .string s, .string chain] w fun e w' =>
      e = .returned (.tuple #[.agg #[.string p.check, .string p.digest, .string p.data, .bool p.last], .bool true]) ∧ Below w.heap.size w w' := by
  have := parse_any w j J rv s chain h hc hs
  rw [hp] at this
  exact this
theorem pagesF_bad {d : DK} {epoch first : Int} {n : Nat} {chain : ByteArray} (h : (d.read first).2 ≠ 0) : pagesF d epoch first n chain = [] := by
  cases n with
  | zero => rfl
  | succ n => rw [pagesF, if_neg h]
theorem pagesF_none {d : DK} {epoch first : Int} {n : Nat} {chain : ByteArray} (h : parseF epoch (d.read first).1 chain = none) : pagesF d epoch first n chain = [] := by
  cases n with
  | zero => rfl
  | succ n => rw [pagesF, h]; split <;> rfl
theorem pagesF_some {d : DK} {epoch first : Int} {n : Nat} {chain : ByteArray} {p : PG} (h0 : (d.read first).2 = 0) (h : parseF epoch (d.read first).1 chain = some p) : pagesF d epoch first (n + 1) chain = p :: pagesF d epoch (first + 1) n p.check := by
  rw [pagesF, if_pos h0, h]
theorem parseF_check {epoch : Int} {s chain : ByteArray} {p : PG} (h : parseF epoch s chain = some p) : p.check.size ≤ 1000 := by
  unfold parseF at h
  split at h
  · cases h
  · injection h with h
    subst h
    simp only [ByteArray.size_extract]
    omega
set_option maxRecDepth 100000 in
set_option maxHeartbeats 1000000 in
theorem pages_iter (w0 : World) (b j : Nat) (d : DK) (FD : Nat → Prop) (first : Int) (cnt : Nat) (epoch : Int) (chain : ByteArray) (rv : Value) (nx : Int)
    (hD : IsDisk w0 FD b d) (hj : Blk w0 j (jcells ⟨b, first, cnt, epoch, [], nx, chain⟩ rv) 84)
    (h1 : 0 ≤ first) (h2 : first + cnt ≤ 1000000) (hch : chain.size ≤ 1000) (hd1 : ∀ x ∈ d.dur, x.size ≤ 1000000) (hd2 : ∀ x ∈ d.pend, x.data.size ≤ 1000000) :
    IterS Tryd.prog 37 (fun l => #[.pointer (some ⟨j, 0, none⟩), .func (.yield l) #[] #[]]) (fun p : PG => #[.agg #[.string p.check, .string p.digest, .string p.data, .bool p.last]]) (PagesG b j d FD first cnt epoch) (fun xs => xs = pagesF d epoch first cnt chain) (fun pre => pre <+: pagesF d epoch first cnt chain) w0 := by
  intro l J Jx s0 W hW hl hJ hJx hB hY h0
  have HG : Hid (PagesG b j d FD first cnt epoch W) := PagesG.below ⟨hD, rv, nx, chain, hj⟩ hW
  have hjW : Blk W j (jcells ⟨b, first, cnt, epoch, [], nx, chain⟩ rv) 84 := (hW.block j hj.lt).trans hj
  have HS : Hid (∀ p, (d.read p).1.size ≤ 1000000) := read_size d hd1 hd2
  have c6 : W.cell? ⟨j, 6, none⟩ = some (.string chain) := hjW.cell 6 _ rfl
  have c2 : W.cell? ⟨j, 2, none⟩ = some (.int .i64 cnt) := hjW.cell 2 _ rfl
  have HB := Lib.hid hB
  have HY := Lib.hid hY
  have HJ := Lib.hid hJ
  have HL := Lib.hid hl
  have HCH := Lib.hid hch
  clear hB hW hY hJ hJx hD hj hjW hch hd1 hd2 hl
  refine callsIn_of_wp Tryd.func37 rfl trivial ?_
  simp only [Tryd.ntmps37, List.size_toArray, List.length_cons, List.length_nil, Nat.reduceAdd, Nat.reduceSub, Array.replicate_succ, Array.replicate_zero, List.push_toArray, List.append_toArray, List.nil_append, List.cons_append]
  gi_wp2
  gi_loopw [4, 19] (fun c v wr => PagesRel b j d FD first cnt epoch chain J l c v wr) (fun _ v _ => cnt - (intOf v).toNat)
  case atStart => exact ⟨0, s0, [], chain, rfl, rfl, Nat.zero_le _, HCH.out, HL.out, h0, HG.out, by simp⟩
  case round =>
    clear HG h0
    obtain ⟨i, s, pre, ch, rfl, rfl, hi, hcs, hlw, hJ1, hG1, hpre⟩ := hrel
    have HLW := Lib.hid hlw
    clear hlw
    have HJ1 := Lib.hid hJ1
    have HP := Lib.hid hpre
    have HI := Lib.hid hi
    have HCS := Lib.hid hcs
    clear hJ1 hpre hi hcs
    by_cases hlt : i < cnt
    · have hdec : decide ((i : Int) < (cnt : Int)) = true := by simp; omega
      have HG1 := Lib.hid hG1
      obtain ⟨hD, rv', nx', ch', hj⟩ := hG1
      have c0 : wr.cell? ⟨j, 0, none⟩ = some (.pointer (some ⟨b, 0, none⟩)) := hj.cell 0 _ rfl
      have c1 : wr.cell? ⟨j, 1, none⟩ = some (.int .i64 first) := hj.cell 1 _ rfl
      have e1 : IntKind.i64.wrap (first + (i : Int)) = first + i := IntWalk.i64_in _ (by omega)
      have HD := Lib.hid hD
      have HBJ := Lib.hid hj
      clear hD hj
      gi_wp2
      refine wpIn_wide.2 ?_
      go_quiet ((go_at_call 43; exact Calls.quiet_of_same ((read_any _ FD b d (first + i) (HD.out.drewN _)).mono (fun _ _ h => ⟨h.1, h.2.symm⟩))))
      have HD1 : Hid (IsDisk (wr.drewN nq) FD b d) := HD.out.drewN _
      have HBJ1 : Hid (Blk (wr.drewN nq) j (jcells ⟨b, first, cnt, epoch, [], nx', ch'⟩ rv') 84) := HBJ.out.drewN _
      have HJ2 : Hid (J s pre (wr.drewN nq)) := HJ.out _ _ _ _ HJ1.out ((Below.refl _ _).drewN' nq)
      have HG2 : Hid (PagesG b j d FD first cnt epoch (wr.drewN nq)) := HG1.out.below ((Below.refl _ _).drewN' nq)
      have HLX : Hid (l < (wr.drewN nq).heap.size) := HLW.out
      clear HD HBJ c0 c1 e1 c6 c2 HG1 HJ1 HLW
      generalize wr.drewN nq = wx at *
      by_cases hcode : (d.read (first + i)).2 = 0
      · rw [hcode]
        have HC := Lib.hid hcode
        clear hcode
        cases hpf : parseF epoch (d.read (first + i)).1 ch with
        | none =>
          have HPF := Lib.hid hpf
          clear hpf
          gi_wp2_with (refine ⟨trivial, ?_⟩; gi_at_call 56; refine (callsIn_wide.2 (parse_none _ j _ rv' _ _ HBJ1.out HCS.out (Nat.le_trans (HS.out _) (by omega)) HPF.out)).mono ?_; rintro e w2 ⟨rfl, hb2⟩)
          all_goals (refine ⟨(fun f h => by cases h), ?_⟩; gi_wp2)
          refine bodyPost_ret (results_none rfl _ _ _) rfl ?_
          refine ⟨⟨_, rfl⟩, .inl ⟨s, pre, ?_, HJ.out _ _ _ _ HJ2.out (hb2.alloc hb2.size _)⟩⟩
          have := HP.out
          rwa [pagesF_none HPF.out, List.append_nil] at this
        | some p =>
          have HPF := Lib.hid hpf
          clear hpf
          gi_wp2_with (refine ⟨trivial, ?_⟩; gi_at_call 56; refine (callsIn_wide.2 (parse_some _ j _ rv' _ _ p HBJ1.out HCS.out (Nat.le_trans (HS.out _) (by omega)) HPF.out)).mono ?_; rintro e w2 ⟨rfl, hb2⟩)
          have hJ3 : J s pre (w2.alloc (.cells #[.string p.check, .string p.digest, .string p.data, .bool p.last] 90)) := HJ.out _ _ _ _ HJ2.out (hb2.alloc hb2.size _)
          have HG3 : Hid (PagesG b j d FD first cnt epoch (w2.alloc (.cells #[.string p.check, .string p.digest, .string p.data, .bool p.last] 90))) := HG2.out.below (hb2.alloc hb2.size _)
          have hgb : Blk (w2.alloc (.cells #[.string p.check, .string p.digest, .string p.data, .bool p.last] 90)) w2.heap.size #[.string p.check, .string p.digest, .string p.data, .bool p.last] 90 := Blk.new _ _ _
          have hns : ¬ s w2.heap.size := fun h => by have := HB.out _ _ _ HJ2.out _ h; have := hb2.size; omega
          have hnl : w2.heap.size ≠ l := by have := HLX.out; have := hb2.size; omega
          have hl3 : l < (w2.alloc (.cells #[.string p.check, .string p.digest, .string p.data, .bool p.last] 90)).heap.size := by have := HLX.out; have := hb2.size; simp; omega
          have HL3 := Lib.hid hl3
          have hpp : pre ++ [p] <+: pagesF d epoch first cnt chain := by
            have := HP.out
            rw [show cnt - i = (cnt - (i + 1)) + 1 by omega, pagesF_some HC.out HPF.out] at this
            rw [← this]
            exact ⟨pagesF d epoch (first + i + 1) (cnt - (i + 1)) p.check, by rw [List.append_assoc, List.singleton_append]⟩
          obtain ⟨fn, tmps, assign, body, hy, hR⟩ := HY.out s pre p _ hpp hJ3
          have HGB := Lib.hid hgb
          have HNS := Lib.hid hns
          have HNL := Lib.hid hnl
          have HPP := Lib.hid hpp
          clear hJ3 hgb hns hnl hb2 hl3 hpp
          generalize hw3 : w2.alloc _ = w3 at *
          clear hw3
          generalize w2.heap.size = g at *
          rw [hy, Oper.uponIn_round]
          refine ⟨fun _ => by omega, ?_⟩
          refine hR.mono ?_
          rintro e W' (⟨rfl, s', hK, hJ'⟩ | ⟨rfl, hJx'⟩)
          · have HB4 : Hid (Blk W' g #[.string p.check, .string p.digest, .string p.data, .bool p.last] 90) := (hK.2.1 g HGB.out.lt HNS.out HNL.out).trans HGB.out
            have HG4 : Hid (PagesG b j d FD first cnt epoch W') := hK.2.2.2 HG3.out
            have HJ4 := Lib.hid hJ'
            have cg : W'.cell? ⟨g, 0, none⟩ = some (.string p.check) := HB4.out.cell 0 _ rfl
            have HL4 : Hid (l < W'.heap.size) := Nat.lt_of_lt_of_le HL3.out hK.1
            clear hK hJ' hR hy
            gi_wp2
            refine ⟨⟨i + 1, s', pre ++ [p], p.check, rfl, by go_num, by omega, parseF_check HPF.out, HL4.out, HJ4.out, HG4.out, ?_⟩, by simp [intOf]; omega⟩
            have := HP.out
            rw [show cnt - i = (cnt - (i + 1)) + 1 by omega, pagesF_some HC.out HPF.out] at this
            rw [List.append_assoc, List.singleton_append, show first + ((i + 1 : Nat) : Int) = first + i + 1 by omega]
            exact this
          · clear hR hy
            gi_wp2
            refine bodyPost_ret (results_none rfl _ _ _) rfl ?_
            exact ⟨⟨_, rfl⟩, .inr ⟨_, HPP.out, hJx'⟩⟩
      · have hne : ((d.read (first + i)).2 != 0) = true := by simpa using hcode
        have HC := Lib.hid hcode
        clear hcode
        gi_wp2
        refine bodyPost_ret (results_none rfl _ _ _) rfl ?_
        refine ⟨⟨_, rfl⟩, .inl ⟨s, pre, ?_, HJ2.out⟩⟩
        have := HP.out
        rwa [pagesF_bad HC.out, List.append_nil] at this
    · have hdec : decide ((i : Int) < (cnt : Int)) = false := by simp; omega
      have hei : cnt - i = 0 := by omega
      have HEI := Lib.hid hei
      clear hei hG1
      gi_wp2
      refine bodyPost_end (results_none rfl _ _ _) rfl ?_
      refine ⟨⟨_, rfl⟩, .inl ⟨s, pre, ?_, HJ1.out⟩⟩
      have := HP.out
      rwa [HEI.out, pagesF, List.append_nil] at this
end Go.Proofs.YtpmjipokkkkljaaDoor
