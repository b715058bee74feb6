/-
  Part of the proof of cd_card: the lemmas of Pr9 that it uses.
-/
import Derived.Test.YtpmjipokkkkljaaDoorQHeads
import Derived.Test.YtpmjipokkkkljaaDoorQPr7
import Derived.Test.YtpmjipokkkkljaaDoorQPr8
import Derived.Test.YtpmjipokkkkljaaDoorQGiven
set_option linter.all false
namespace Go.Proofs.YtpmjipokkkkljaaDoor.Pr
open Go.RowKit Go.Proofs.YtpmjipokkkkljaaDoorW.PrintWords Go.Proofs.YtpmjipokkkkljaaDoorW.PrintLast Go.Proofs.YtpmjipokkkkljaaDoorW.PrintMore
attribute [local go_sem] max2_int min2_int max_two min_two max_three min_three max_four min_four   -- for this text's walks alone
set_option linter.unusedVariables false
set_option linter.unusedSimpArgs false
set_option maxRecDepth 100000
mutual
def modcertref51_Open.j0 : Nat → Int → Bool → List ByteArray → List (S80) → Int → Int → Option (Int × Int × Int × Int × ByteArray × List ByteArray × Int)
 | 0, _, _, _, _, _, _ => none
 | k + 1, x2, x25, x207000, x207001, x208000, x208001 => if x25 = true then (some (0, 0, 0, 0, (⟨#[]⟩ : ByteArray), ([] : List ByteArray), 2)) else ((modcertref51_Begin.f k x2).bind fun t210 => (modcertref51_Open.l0 k x2 t210 (⟨#[]⟩ : ByteArray) (⟨#[]⟩ : ByteArray) 0 x207000 x207001 x208000 x208001 x208000 x208001 x2 0 t210 ([] : List ByteArray)))
def modcertref51_Open.l0 : Nat → Int → ByteArray → ByteArray → ByteArray → Int → List ByteArray → List (S80) → Int → Int → Int → Int → Int → Int → ByteArray → List ByteArray → Option (Int × Int × Int × Int × ByteArray × List ByteArray × Int)
 | 0, _, _, _, _, _, _, _, _, _, _, _, _, _, _, _ => none
 | k + 1, x2, x9, x10, x11, x12, x207000, x207001, x208000, x208001, x212000, x212001, x212002, x212003, x212004, x212005 => if x12 < x208001 then ((modcertref51_read.f k x207000 x207001 (wrap64 (x208000 + x12)) x9 x2).bind fun bt212 => (if bt212.2.2.2.2 = true then (if x10.toList = ([] : List UInt8) then (modcertref51_Open.j2 k x2 x10 bt212.2.2.1 x12 x207000 x207001 x208000 x208001 x212000 x212001 x212002 x212003 x212004 x212005 bt212.1 bt212.2.1 bt212.2.2.1 bt212.2.2.2.1 bt212.2.2.2.2) else (modcertref51_Open.j2 k x2 x10 x11 x12 x207000 x207001 x208000 x208001 x212000 x212001 x212002 x212003 x212004 x212005 bt212.1 bt212.2.1 bt212.2.2.1 bt212.2.2.2.1 bt212.2.2.2.2)) else (some (x212000, x212001, x212002, x212003, x212004, x212005, 0)))) else (some (x212000, x212001, x212002, x212003, x212004, x212005, 0))
def modcertref51_Open.j2 : Nat → Int → ByteArray → ByteArray → Int → List ByteArray → List (S80) → Int → Int → Int → Int → Int → Int → ByteArray → List ByteArray → ByteArray → Bool → ByteArray → ByteArray → Bool → Option (Int × Int × Int × Int × ByteArray × List ByteArray × Int)
 | 0, _, _, _, _, _, _, _, _, _, _, _, _, _, _, _, _, _, _, _ => none
 | k + 1, x2, x10, x11, x12, x207000, x207001, x208000, x208001, x212000, x212001, x212002, x212003, x212004, x212005, x218000, x218001, x218002, x218003, x218004 => if x10.size + x218003.size ≤ 9223372036854775807 then (if x218002.toList = x11.toList then (if x218001 = true then ((modcertref01_Sum.f (x10 ++ x218003)).bind fun t218 => (if t218.toList = x11.toList then (if x212005.length < 8796093022208 then (modcertref51_Open.l0 k x2 x218000 (⟨#[]⟩ : ByteArray) x11 (wrap64 (x12 + 1)) x207000 x207001 x208000 x208001 x212000 x212001 x212002 (wrap64 (x12 + 1)) x218000 (x212005 ++ [x10 ++ x218003])) else (none)) else (some (x212000, x212001, x212002, x212003, x212004, x212005, 0)))) else (modcertref51_Open.l0 k x2 x218000 (x10 ++ x218003) x11 (wrap64 (x12 + 1)) x207000 x207001 x208000 x208001 x212000 x212001 x212002 x212003 x212004 x212005)) else (some (x212000, x212001, x212002, x212003, x212004, x212005, 0))) else (none)
end
def modcertref51_Open.f (k : Nat) (l0_0 : List ByteArray) (l0_1 : List (S80)) (a1_0 : Int) (a1_1 : Int) (a2 : Int) : Option (Int × Int × Int × Int × ByteArray × List ByteArray × Int) := (modcertref51_ValidRegion.f l0_0 l0_1 a1_0 a1_1).bind fun t209 => (if t209 = true then (if a2 < 0 then (modcertref51_Open.j0 k a2 true l0_0 l0_1 a1_0 a1_1) else (modcertref51_Open.j0 k a2 (decide (a2 ≥ 4611686018427387904)) l0_0 l0_1 a1_0 a1_1)) else (modcertref51_Open.j0 k a2 true l0_0 l0_1 a1_0 a1_1))
def modcertref51_Open.T13 : Bool × List (List Nat × List Nat) := (true, [([], []), ([0], [0]), ([], []), ([], []), ([3], [3]), ([2, 4], [2, 4]), ([1, 0, 1], [1]), ([5, 6, 0, 1, 2, 3, 4, 5, 6], [2, 5])])
def modcertref51_Open.B13 : List Nat := [0, 1, 0, 0, 8, 28, 3, 127]
theorem modcertref51_Open.tab13 : rtab .any (opsOf Tryd.f34 13) = modcertref51_Open.T13 := by kernel_rfl
theorem modcertref51_Open.bits13 : waitsOk modcertref51_Open.T13.2 modcertref51_Open.B13 = true := by kernel_rfl
set_option maxHeartbeats 8000000 in
set_option maxRecDepth 100000 in
theorem modcertref51_Open.calls (k : Nat) (A0_0 : Option Addr) (c0_0 : Nat) (l0_0 : List ByteArray) (A0_1 : Option Addr) (c0_1 : Nat) (l0_1 : List (S80)) (a1_0 : Int) (a1_1 : Int) (a2 : Int) (r1 : Int) (r2 : Int) (r3 : Int) (r4 : Int) (r5 : ByteArray) (r6 : List ByteArray) (r7 : Int) (w : World) (hr0_0 : Kd.C Kd.string w A0_0 l0_0.length l0_0) (hc0_0 : l0_0.length ≤ c0_0) (hr0_1 : Kd.C k80 w A0_1 l0_1.length l0_1) (hc0_1 : l0_1.length ≤ c0_1) (h : modcertref51_Open.f k l0_0 l0_1 a1_0 a1_1 a2 = some (r1, r2, r3, r4, r5, r6, r7)) :
  Calls Tryd.prog 34 #[.agg #[.slice A0_0 l0_0.length c0_0, .slice A0_1 l0_1.length c0_1], .agg #[.int .i64 a1_0, .int .i64 a1_1], .int .i64 a2] w fun e w' => ∃ v5_ : Value, e = .returned (.tuple #[.agg #[.int .i64 r1, .int .i64 r2, .int .i64 r3, .int .i64 r4, .string r5, v5_], .int .i64 r7]) ∧ Kd.R Kd.string 9 w' w.heap.size (fun _ => True) v5_ r6 ∧ Below w.heap.size w w' := by
 have hu29 := Tryd.underlying29
 have hu24 := Tryd.underlying24
 have hu38 := Tryd.underlying38
 have hu114 := Tryd.underlying114
 have HR0_0 := Aside0.mk hr0_0
 have HC0_0 := Aside0.mk hc0_0
 clear hr0_0 hc0_0
 have HR0_1 := Aside0.mk hr0_1
 have HC0_1 := Aside0.mk hc0_1
 clear hr0_1 hc0_1
 have HB := Aside0.mk (Below.refl w.heap.size w)
 have H : ((modcertref51_ValidRegion.f l0_0 l0_1 a1_0 a1_1).bind fun t209 => (if t209 = true then (if a2 < 0 then (modcertref51_Open.j0 k a2 true l0_0 l0_1 a1_0 a1_1) else (modcertref51_Open.j0 k a2 (decide (a2 ≥ 4611686018427387904)) l0_0 l0_1 a1_0 a1_1)) else (modcertref51_Open.j0 k a2 true l0_0 l0_1 a1_0 a1_1))) = some (r1, r2, r3, r4, r5, r6, r7) := h
 clear h
 have HC4 := Aside0.mk H
 clear H
 go_enter Tryd.func34, Tryd.ntmps34
 go_upto_region 1 with (first | ((with_reducible refine gate_dst (N := 3) rfl ?_); refine box_event ?hg (N := 3) ?hd (cs := #[.slice A0_0 l0_0.length c0_0, .slice A0_1 l0_1.length c0_1]) (t := 29) ?hr ?_; (case hd => rfl); (case hg => rfl); (case hr => first | (go_simp; done) | (go_simp; rfl)); intro gb206 hg w5 hbox hb; have n0_ := Aside0.mk (below_step (by repeat (first | (with_reducible first | exact HB.out | apply below_alloc | apply pw_below_drewN | apply below_drew1) | exact HB.out)) hb); have n1_ := Aside0.mk (hbox); have n2_ := Aside0.mk ((by rw [hg]; exact (below_size (by repeat (first | (with_reducible first | exact HB.out | apply below_alloc | apply pw_below_drewN | apply below_drew1) | exact HB.out))) : w.heap.size ≤ gb206)); have n3_ := Aside0.mk ((by rw [hg]; exact (below_size (by repeat (first | (with_reducible first | exact HB.out | apply below_alloc | apply pw_below_drewN | apply below_drew1) | exact HB.out))) : w.heap.size ≤ gb206)); clear HB; have HB := n0_; have BK206 := n1_; have GW206 := n2_; have GE206 := n3_; clear n0_ n1_ n2_ n3_; clear hb hbox hg) | ((with_reducible refine gate_dst (N := 4) rfl ?_); refine box_event ?hg (N := 4) ?hd (cs := #[.int .i64 a1_0, .int .i64 a1_1]) (t := 24) ?hr ?_; (case hd => rfl); (case hg => rfl); (case hr => first | (go_simp; done) | (go_simp; rfl)); intro gb207 hg w6 hbox hb; have n0_ := Aside0.mk (blk_below (g := gb206) (o := .cells #[.slice A0_0 l0_0.length c0_0, .slice A0_1 l0_1.length c0_1] 29 (0, 0)) (by (with_reducible repeat (first | refine blk_drewN ?_ _ | refine blk_drew ?_ | refine blk_alloc ?_ _)); exact BK206.out) hb); have n1_ := Aside0.mk (below_step (by repeat (first | (with_reducible first | exact HB.out | apply below_alloc | apply pw_below_drewN | apply below_drew1 | refine below_set ?_ GE206.out) | exact HB.out)) hb); have n2_ := Aside0.mk (hbox); have n3_ := Aside0.mk ((by rw [hg]; exact (below_size (by repeat (first | (with_reducible first | exact HB.out | apply below_alloc | apply pw_below_drewN | apply below_drew1 | refine below_set ?_ GE206.out) | exact HB.out))) : w.heap.size ≤ gb207)); have n4_ := Aside0.mk ((by rw [hg]; exact (below_size (by repeat (first | (with_reducible first | exact HB.out | apply below_alloc | apply pw_below_drewN | apply below_drew1 | refine below_set ?_ GE206.out) | exact HB.out))) : w.heap.size ≤ gb207)); have n5_ := Aside0.mk ((by rw [hg]; exact Nat.ne_of_lt (blk_lt (g := gb206) (o := .cells #[.slice A0_0 l0_0.length c0_0, .slice A0_1 l0_1.length c0_1] 29 (0, 0)) (by (with_reducible repeat (first | refine blk_drewN ?_ _ | refine blk_drew ?_ | refine blk_alloc ?_ _)); exact BK206.out)) : gb206 ≠ gb207)); have n6_ := Aside0.mk ((by rw [hg]; exact Nat.ne_of_gt (blk_lt (g := gb206) (o := .cells #[.slice A0_0 l0_0.length c0_0, .slice A0_1 l0_1.length c0_1] 29 (0, 0)) (by (with_reducible repeat (first | refine blk_drewN ?_ _ | refine blk_drew ?_ | refine blk_alloc ?_ _)); exact BK206.out)) : gb207 ≠ gb206)); clear BK206; clear HB; have BK206 := n0_; have HB := n1_; have BK207 := n2_; have GW207 := n3_; have GE207 := n4_; have NB206_207 := n5_; have NB207_206 := n6_; clear n0_ n1_ n2_ n3_ n4_ n5_ n6_; clear hb hbox hg) | ((with_reducible refine gate_dst (N := 6) rfl ?_); refine box_event ?hg (N := 6) ?hd (cs := #[.int .i64 0, .int .i64 0, .int .i64 0, .int .i64 0, .string (⟨#[]⟩ : ByteArray), .slice none 0 0]) (t := 38) ?hr ?_; (case hd => rfl); (case hg => rfl); (case hr => first | (go_simp; done) | (go_simp; rfl)); intro gb208 hg w7 hbox hb; have n0_ := Aside0.mk (blk_below (g := gb206) (o := .cells #[.slice A0_0 l0_0.length c0_0, .slice A0_1 l0_1.length c0_1] 29 (0, 0)) (by (with_reducible repeat (first | refine blk_drewN ?_ _ | refine blk_drew ?_ | refine blk_alloc ?_ _)); exact BK206.out) hb); have n1_ := Aside0.mk (blk_below (g := gb207) (o := .cells #[.int .i64 a1_0, .int .i64 a1_1] 24 (0, 0)) (by (with_reducible repeat (first | refine blk_drewN ?_ _ | refine blk_drew ?_ | refine blk_alloc ?_ _)); exact BK207.out) hb); have n2_ := Aside0.mk (below_step (by repeat (first | (with_reducible first | exact HB.out | apply below_alloc | apply pw_below_drewN | apply below_drew1 | refine below_set ?_ GE206.out | refine below_set ?_ GE207.out) | exact HB.out)) hb); have n3_ := Aside0.mk (hbox); have n4_ := Aside0.mk ((by rw [hg]; exact (below_size (by repeat (first | (with_reducible first | exact HB.out | apply below_alloc | apply pw_below_drewN | apply below_drew1 | refine below_set ?_ GE206.out | refine below_set ?_ GE207.out) | exact HB.out))) : w.heap.size ≤ gb208)); have n5_ := Aside0.mk ((by rw [hg]; exact (below_size (by repeat (first | (with_reducible first | exact HB.out | apply below_alloc | apply pw_below_drewN | apply below_drew1 | refine below_set ?_ GE206.out | refine below_set ?_ GE207.out) | exact HB.out))) : w.heap.size ≤ gb208)); have n6_ := Aside0.mk ((by rw [hg]; exact Nat.ne_of_lt (blk_lt (g := gb206) (o := .cells #[.slice A0_0 l0_0.length c0_0, .slice A0_1 l0_1.length c0_1] 29 (0, 0)) (by (with_reducible repeat (first | refine blk_drewN ?_ _ | refine blk_drew ?_ | refine blk_alloc ?_ _)); exact BK206.out)) : gb206 ≠ gb208)); have n7_ := Aside0.mk ((by rw [hg]; exact Nat.ne_of_gt (blk_lt (g := gb206) (o := .cells #[.slice A0_0 l0_0.length c0_0, .slice A0_1 l0_1.length c0_1] 29 (0, 0)) (by (with_reducible repeat (first | refine blk_drewN ?_ _ | refine blk_drew ?_ | refine blk_alloc ?_ _)); exact BK206.out)) : gb208 ≠ gb206)); have n8_ := Aside0.mk ((by rw [hg]; exact Nat.ne_of_lt (blk_lt (g := gb207) (o := .cells #[.int .i64 a1_0, .int .i64 a1_1] 24 (0, 0)) (by (with_reducible repeat (first | refine blk_drewN ?_ _ | refine blk_drew ?_ | refine blk_alloc ?_ _)); exact BK207.out)) : gb207 ≠ gb208)); have n9_ := Aside0.mk ((by rw [hg]; exact Nat.ne_of_gt (blk_lt (g := gb207) (o := .cells #[.int .i64 a1_0, .int .i64 a1_1] 24 (0, 0)) (by (with_reducible repeat (first | refine blk_drewN ?_ _ | refine blk_drew ?_ | refine blk_alloc ?_ _)); exact BK207.out)) : gb208 ≠ gb207)); clear BK206; clear BK207; clear HB; have BK206 := n0_; have BK207 := n1_; have HB := n2_; have BK208 := n3_; have GW208 := n4_; have GE208 := n5_; have NB206_208 := n6_; have NB208_206 := n7_; have NB207_208 := n8_; have NB208_207 := n9_; clear n0_ n1_ n2_ n3_ n4_ n5_ n6_ n7_ n8_ n9_; clear hb hbox hg))
 (try simp only [Act.put, List.setIfInBounds_toArray, List.set_cons_zero, List.set_cons_succ])
 go_cut [25] (fun v25 wc => ∃ (kq : Nat) (x25_3 : Bool), v25 = .bool x25_3 ∧ Aside0 (modcertref51_Open.j0 kq a2 x25_3 l0_0 l0_1 a1_0 a1_1 = some (r1, r2, r3, r4, r5, r6, r7)) ∧ Aside0 (kq ≤ k) ∧ Aside0 (wc.heap[gb206]? = some (.cells #[(.slice A0_0 l0_0.length c0_0), (.slice A0_1 l0_1.length c0_1)] 29 (0, 0))) ∧ Aside0 (wc.heap[gb207]? = some (.cells #[.int .i64 a1_0, .int .i64 a1_1] 24 (0, 0))) ∧ Aside0 (wc.heap[gb208]? = some (.cells #[.int .i64 0, .int .i64 0, .int .i64 0, .int .i64 0, .string (⟨#[]⟩ : ByteArray), (.slice none 0 0)] 38 (0, 0))) ∧ Aside0 (Below w.heap.size w wc))
 case first =>
  have H := HC4.out
  clear HC4
  replace H := Option.bind_eq_some_iff.mp H
  obtain ⟨t209, A80, H⟩ := H
  replace H : (if t209 = true then (if a2 < 0 then (modcertref51_Open.j0 k a2 true l0_0 l0_1 a1_0 a1_1) else (modcertref51_Open.j0 k a2 (decide (a2 ≥ 4611686018427387904)) l0_0 l0_1 a1_0 a1_1)) else (modcertref51_Open.j0 k a2 true l0_0 l0_1 a1_0 a1_1)) = some (r1, r2, r3, r4, r5, r6, r7) := H
  have A8 := Aside0.mk A80
  clear A80
  by_cases c9 : t209 = true
  ·subst c9
   have H1 : (if a2 < 0 then (modcertref51_Open.j0 k a2 true l0_0 l0_1 a1_0 a1_1) else (modcertref51_Open.j0 k a2 (decide (a2 ≥ 4611686018427387904)) l0_0 l0_1 a1_0 a1_1)) = some (r1, r2, r3, r4, r5, r6, r7) := by rw [if_pos rfl] at H; exact H
   clear H
   have H := H1
   clear H1
   by_cases c10 : a2 < 0
   ·rw [if_pos c10] at H
    have c10b0 : decide (a2 < 0) = true := decide_eq_true c10
    clear c10
    (first | rw [c10b0] | (simp only [i64_w, i32_w]; rw [c10b0]) | rw [c10b2] | skip)
    have H' := Aside0.mk H
    clear H
    have hnb11 := NB206_207.out
    have hnc11 := NB207_206.out
    have hnb12 := NB206_208.out
    have hnc12 := NB208_206.out
    have hcz13_0 : w7.cell? ⟨gb206, 0, none⟩ = some (.slice A0_0 l0_0.length c0_0) := (blk_cell BK206.out 0).trans rfl
    have hcz13_1 : w7.cell? ⟨gb206, 1, none⟩ = some (.slice A0_1 l0_1.length c0_1) := (blk_cell BK206.out 1).trans rfl
    have hfz13_0 := blk_frozen BK206.out 0
    have hfz13_1 := blk_frozen BK206.out 1
    have hnb14 := NB207_208.out
    have hnc14 := NB208_207.out
    have hcz15_0 : w7.cell? ⟨gb207, 0, none⟩ = some (.int .i64 a1_0) := (blk_cell BK207.out 0).trans rfl
    have hcz15_1 : w7.cell? ⟨gb207, 1, none⟩ = some (.int .i64 a1_1) := (blk_cell BK207.out 1).trans rfl
    have hfz15_0 := blk_frozen BK207.out 0
    have hfz15_1 := blk_frozen BK207.out 1
    go_wp2_with (first | ((with_reducible refine gate_callee (f := 50) rfl ?_); refine goesL_ (some 16) rfl rfl Tryd.func50 (by kernel_rfl) rfl #[.agg #[.slice A0_0 l0_0.length c0_0, .slice A0_1 l0_1.length c0_1], .agg #[.int .i64 a1_0, .int .i64 a1_1]] rfl (by (try simp only [List.map_toArray, List.map_cons, List.map_nil]); first | done | rfl | (simp only [List.length_drop, List.length_take]; rfl)) ?_; (with_reducible refine (modcertref51_ValidRegion.calls _ _ l0_0 _ _ l0_1 a1_0 a1_1 true _ ?side1 ?side2 ?side3 ?side4 A8.out).mono ?_); (case side1 => repeat (first | exact (Kd.C_below HR0_0.out HB.out) | (with_reducible refine Kd.C_alloc ?_ _) | (with_reducible refine Kd.C_drewN ?_ _) | (with_reducible refine Kd.C_drew ?_))); (case side2 => exact HC0_0.out); (case side3 => repeat (first | exact (Kd.C_below HR0_1.out HB.out) | (with_reducible refine Kd.C_alloc ?_ _) | (with_reducible refine Kd.C_drewN ?_ _) | (with_reducible refine Kd.C_drew ?_))); (case side4 => exact HC0_1.out); rintro e w16 ⟨rfl, hb⟩; refine ⟨_, rfl, ?_⟩; have n0_ := Aside0.mk (blk_below (g := gb206) (o := .cells #[.slice A0_0 l0_0.length c0_0, .slice A0_1 l0_1.length c0_1] 29 (0, 0)) (by (with_reducible repeat (first | refine blk_drewN ?_ _ | refine blk_drew ?_ | refine blk_alloc ?_ _)); exact BK206.out) hb); have n1_ := Aside0.mk (blk_below (g := gb207) (o := .cells #[.int .i64 a1_0, .int .i64 a1_1] 24 (0, 0)) (by (with_reducible repeat (first | refine blk_drewN ?_ _ | refine blk_drew ?_ | refine blk_alloc ?_ _)); exact BK207.out) hb); have n2_ := Aside0.mk (blk_below (g := gb208) (o := .cells #[.int .i64 0, .int .i64 0, .int .i64 0, .int .i64 0, .string (⟨#[]⟩ : ByteArray), .slice none 0 0] 38 (0, 0)) (by (with_reducible repeat (first | refine blk_drewN ?_ _ | refine blk_drew ?_ | refine blk_alloc ?_ _)); exact BK208.out) hb); have n3_ := Aside0.mk (below_step (by repeat (first | (with_reducible first | exact HB.out | apply below_alloc | apply pw_below_drewN | apply below_drew1 | refine below_set ?_ GE206.out | refine below_set ?_ GE207.out | refine below_set ?_ GE208.out) | exact HB.out)) hb); clear BK206; clear BK207; clear BK208; clear HB; have BK206 := n0_; have BK207 := n1_; have BK208 := n2_; have HB := n3_; clear n0_ n1_ n2_ n3_; (try clear hb); (try clear hb2); (try clear hk); (try clear hi)))
    go_meet
    case rel => exact ⟨_, (true), (by first | rfl | (simp; done) | (simp [*]; done) | (simp; rfl)), H', ⟨by first | omega | exact Nat.le_refl _⟩, ⟨by (with_reducible repeat (first | refine blk_drewN ?_ _ | refine blk_drew ?_ | refine blk_alloc ?_ _)); exact BK206.out⟩, ⟨by (with_reducible repeat (first | refine blk_drewN ?_ _ | refine blk_drew ?_ | refine blk_alloc ?_ _)); exact BK207.out⟩, ⟨by (with_reducible repeat (first | refine blk_drewN ?_ _ | refine blk_drew ?_ | refine blk_alloc ?_ _)); exact BK208.out⟩, ⟨by repeat (first | (with_reducible first | exact HB.out | apply below_alloc | apply pw_below_drewN | apply below_drew1 | refine below_set ?_ GE206.out | refine below_set ?_ GE207.out | refine below_set ?_ GE208.out) | exact HB.out)⟩⟩
   ·rw [if_neg c10] at H
    have c10b0 : decide (a2 < 0) = false := decide_eq_false c10
    clear c10
    (first | rw [c10b0] | (simp only [i64_w, i32_w]; rw [c10b0]) | rw [c10b2] | skip)
    have H' := Aside0.mk H
    clear H
    have hnb17 := NB206_207.out
    have hnc17 := NB207_206.out
    have hnb18 := NB206_208.out
    have hnc18 := NB208_206.out
    have hcz19_0 : w7.cell? ⟨gb206, 0, none⟩ = some (.slice A0_0 l0_0.length c0_0) := (blk_cell BK206.out 0).trans rfl
    have hcz19_1 : w7.cell? ⟨gb206, 1, none⟩ = some (.slice A0_1 l0_1.length c0_1) := (blk_cell BK206.out 1).trans rfl
    have hfz19_0 := blk_frozen BK206.out 0
    have hfz19_1 := blk_frozen BK206.out 1
    have hnb20 := NB207_208.out
    have hnc20 := NB208_207.out
    have hcz21_0 : w7.cell? ⟨gb207, 0, none⟩ = some (.int .i64 a1_0) := (blk_cell BK207.out 0).trans rfl
    have hcz21_1 : w7.cell? ⟨gb207, 1, none⟩ = some (.int .i64 a1_1) := (blk_cell BK207.out 1).trans rfl
    have hfz21_0 := blk_frozen BK207.out 0
    have hfz21_1 := blk_frozen BK207.out 1
    go_wp2_with (first | ((with_reducible refine gate_callee (f := 50) rfl ?_); refine goesL_ (some 16) rfl rfl Tryd.func50 (by kernel_rfl) rfl #[.agg #[.slice A0_0 l0_0.length c0_0, .slice A0_1 l0_1.length c0_1], .agg #[.int .i64 a1_0, .int .i64 a1_1]] rfl (by (try simp only [List.map_toArray, List.map_cons, List.map_nil]); first | done | rfl | (simp only [List.length_drop, List.length_take]; rfl)) ?_; (with_reducible refine (modcertref51_ValidRegion.calls _ _ l0_0 _ _ l0_1 a1_0 a1_1 true _ ?side1 ?side2 ?side3 ?side4 A8.out).mono ?_); (case side1 => repeat (first | exact (Kd.C_below HR0_0.out HB.out) | (with_reducible refine Kd.C_alloc ?_ _) | (with_reducible refine Kd.C_drewN ?_ _) | (with_reducible refine Kd.C_drew ?_))); (case side2 => exact HC0_0.out); (case side3 => repeat (first | exact (Kd.C_below HR0_1.out HB.out) | (with_reducible refine Kd.C_alloc ?_ _) | (with_reducible refine Kd.C_drewN ?_ _) | (with_reducible refine Kd.C_drew ?_))); (case side4 => exact HC0_1.out); rintro e w22 ⟨rfl, hb⟩; refine ⟨_, rfl, ?_⟩; have n0_ := Aside0.mk (blk_below (g := gb206) (o := .cells #[.slice A0_0 l0_0.length c0_0, .slice A0_1 l0_1.length c0_1] 29 (0, 0)) (by (with_reducible repeat (first | refine blk_drewN ?_ _ | refine blk_drew ?_ | refine blk_alloc ?_ _)); exact BK206.out) hb); have n1_ := Aside0.mk (blk_below (g := gb207) (o := .cells #[.int .i64 a1_0, .int .i64 a1_1] 24 (0, 0)) (by (with_reducible repeat (first | refine blk_drewN ?_ _ | refine blk_drew ?_ | refine blk_alloc ?_ _)); exact BK207.out) hb); have n2_ := Aside0.mk (blk_below (g := gb208) (o := .cells #[.int .i64 0, .int .i64 0, .int .i64 0, .int .i64 0, .string (⟨#[]⟩ : ByteArray), .slice none 0 0] 38 (0, 0)) (by (with_reducible repeat (first | refine blk_drewN ?_ _ | refine blk_drew ?_ | refine blk_alloc ?_ _)); exact BK208.out) hb); have n3_ := Aside0.mk (below_step (by repeat (first | (with_reducible first | exact HB.out | apply below_alloc | apply pw_below_drewN | apply below_drew1 | refine below_set ?_ GE206.out | refine below_set ?_ GE207.out | refine below_set ?_ GE208.out) | exact HB.out)) hb); clear BK206; clear BK207; clear BK208; clear HB; have BK206 := n0_; have BK207 := n1_; have BK208 := n2_; have HB := n3_; clear n0_ n1_ n2_ n3_; (try clear hb); (try clear hb2); (try clear hk); (try clear hi)))
    go_meet
    case rel => exact ⟨_, (decide (a2 ≥ 4611686018427387904)), (by first | rfl | (simp; done) | (simp [*]; done) | (simp; rfl)), H', ⟨by first | omega | exact Nat.le_refl _⟩, ⟨by (with_reducible repeat (first | refine blk_drewN ?_ _ | refine blk_drew ?_ | refine blk_alloc ?_ _)); exact BK206.out⟩, ⟨by (with_reducible repeat (first | refine blk_drewN ?_ _ | refine blk_drew ?_ | refine blk_alloc ?_ _)); exact BK207.out⟩, ⟨by (with_reducible repeat (first | refine blk_drewN ?_ _ | refine blk_drew ?_ | refine blk_alloc ?_ _)); exact BK208.out⟩, ⟨by repeat (first | (with_reducible first | exact HB.out | apply below_alloc | apply pw_below_drewN | apply below_drew1 | refine below_set ?_ GE206.out | refine below_set ?_ GE207.out | refine below_set ?_ GE208.out) | exact HB.out)⟩⟩
  ·replace c9 := Bool.eq_false_iff.mpr c9
   subst c9
   have H1 : (modcertref51_Open.j0 k a2 true l0_0 l0_1 a1_0 a1_1) = some (r1, r2, r3, r4, r5, r6, r7) := by rw [if_neg (show ¬ (false = true) by decide)] at H; exact H
   clear H
   have H := H1
   clear H1
   have H' := Aside0.mk H
   clear H
   have hnb23 := NB206_207.out
   have hnc23 := NB207_206.out
   have hnb24 := NB206_208.out
   have hnc24 := NB208_206.out
   have hcz25_0 : w7.cell? ⟨gb206, 0, none⟩ = some (.slice A0_0 l0_0.length c0_0) := (blk_cell BK206.out 0).trans rfl
   have hcz25_1 : w7.cell? ⟨gb206, 1, none⟩ = some (.slice A0_1 l0_1.length c0_1) := (blk_cell BK206.out 1).trans rfl
   have hfz25_0 := blk_frozen BK206.out 0
   have hfz25_1 := blk_frozen BK206.out 1
   have hnb26 := NB207_208.out
   have hnc26 := NB208_207.out
   have hcz27_0 : w7.cell? ⟨gb207, 0, none⟩ = some (.int .i64 a1_0) := (blk_cell BK207.out 0).trans rfl
   have hcz27_1 : w7.cell? ⟨gb207, 1, none⟩ = some (.int .i64 a1_1) := (blk_cell BK207.out 1).trans rfl
   have hfz27_0 := blk_frozen BK207.out 0
   have hfz27_1 := blk_frozen BK207.out 1
   go_wp2_with (first | ((with_reducible refine gate_callee (f := 50) rfl ?_); refine goesL_ (some 16) rfl rfl Tryd.func50 (by kernel_rfl) rfl #[.agg #[.slice A0_0 l0_0.length c0_0, .slice A0_1 l0_1.length c0_1], .agg #[.int .i64 a1_0, .int .i64 a1_1]] rfl (by (try simp only [List.map_toArray, List.map_cons, List.map_nil]); first | done | rfl | (simp only [List.length_drop, List.length_take]; rfl)) ?_; (with_reducible refine (modcertref51_ValidRegion.calls _ _ l0_0 _ _ l0_1 a1_0 a1_1 false _ ?side1 ?side2 ?side3 ?side4 A8.out).mono ?_); (case side1 => repeat (first | exact (Kd.C_below HR0_0.out HB.out) | (with_reducible refine Kd.C_alloc ?_ _) | (with_reducible refine Kd.C_drewN ?_ _) | (with_reducible refine Kd.C_drew ?_))); (case side2 => exact HC0_0.out); (case side3 => repeat (first | exact (Kd.C_below HR0_1.out HB.out) | (with_reducible refine Kd.C_alloc ?_ _) | (with_reducible refine Kd.C_drewN ?_ _) | (with_reducible refine Kd.C_drew ?_))); (case side4 => exact HC0_1.out); rintro e w28 ⟨rfl, hb⟩; refine ⟨_, rfl, ?_⟩; have n0_ := Aside0.mk (blk_below (g := gb206) (o := .cells #[.slice A0_0 l0_0.length c0_0, .slice A0_1 l0_1.length c0_1] 29 (0, 0)) (by (with_reducible repeat (first | refine blk_drewN ?_ _ | refine blk_drew ?_ | refine blk_alloc ?_ _)); exact BK206.out) hb); have n1_ := Aside0.mk (blk_below (g := gb207) (o := .cells #[.int .i64 a1_0, .int .i64 a1_1] 24 (0, 0)) (by (with_reducible repeat (first | refine blk_drewN ?_ _ | refine blk_drew ?_ | refine blk_alloc ?_ _)); exact BK207.out) hb); have n2_ := Aside0.mk (blk_below (g := gb208) (o := .cells #[.int .i64 0, .int .i64 0, .int .i64 0, .int .i64 0, .string (⟨#[]⟩ : ByteArray), .slice none 0 0] 38 (0, 0)) (by (with_reducible repeat (first | refine blk_drewN ?_ _ | refine blk_drew ?_ | refine blk_alloc ?_ _)); exact BK208.out) hb); have n3_ := Aside0.mk (below_step (by repeat (first | (with_reducible first | exact HB.out | apply below_alloc | apply pw_below_drewN | apply below_drew1 | refine below_set ?_ GE206.out | refine below_set ?_ GE207.out | refine below_set ?_ GE208.out) | exact HB.out)) hb); clear BK206; clear BK207; clear BK208; clear HB; have BK206 := n0_; have BK207 := n1_; have BK208 := n2_; have HB := n3_; clear n0_ n1_ n2_ n3_; (try clear hb); (try clear hb2); (try clear hk); (try clear hi)))
   go_meet
   case rel => exact ⟨_, (true), (by first | rfl | (simp; done) | (simp [*]; done) | (simp; rfl)), H', ⟨by first | omega | exact Nat.le_refl _⟩, ⟨by (with_reducible repeat (first | refine blk_drewN ?_ _ | refine blk_drew ?_ | refine blk_alloc ?_ _)); exact BK206.out⟩, ⟨by (with_reducible repeat (first | refine blk_drewN ?_ _ | refine blk_drew ?_ | refine blk_alloc ?_ _)); exact BK207.out⟩, ⟨by (with_reducible repeat (first | refine blk_drewN ?_ _ | refine blk_drew ?_ | refine blk_alloc ?_ _)); exact BK208.out⟩, ⟨by repeat (first | (with_reducible first | exact HB.out | apply below_alloc | apply pw_below_drewN | apply below_drew1 | refine below_set ?_ GE206.out | refine below_set ?_ GE207.out | refine below_set ?_ GE208.out) | exact HB.out)⟩⟩
 case rest =>
  clear HC4
  try clear c1
  try clear c2
  try clear p2
  try clear c3
  try clear c5
  try clear c9
  try clear c10
  try clear c10b0
  try clear c10b2
  try clear c11
  try clear c12
  try clear c14
  try clear c17
  try clear c18
  try clear c20
  try clear c23
  try clear c24
  try clear c26
  try clear hcz13_0
  try clear hcz13_1
  try clear hcz15_0
  try clear hcz15_1
  try clear hcz19_0
  try clear hcz19_1
  try clear hcz21_0
  try clear hcz21_1
  try clear hcz25_0
  try clear hcz25_1
  try clear hcz27_0
  try clear hcz27_1
  try clear hfz13_0
  try clear hfz13_1
  try clear hfz15_0
  try clear hfz15_1
  try clear hfz19_0
  try clear hfz19_1
  try clear hfz21_0
  try clear hfz21_1
  try clear hfz25_0
  try clear hfz25_1
  try clear hfz27_0
  try clear hfz27_1
  obtain ⟨kq, x25_3, rfl, HA, HJ3, BK206, BK207, BK208, HB⟩ := hcut
  cases kq with
  | zero => exact absurd HA.out (by simp [modcertref51_Open.j0])
  | succ kj3 =>
   have H := HA.out
   clear HA
   simp only [modcertref51_Open.j0] at H
   by_cases c29 : x25_3 = true
   ·subst c29
    have H1 : (some (0, 0, 0, 0, (⟨#[]⟩ : ByteArray), ([] : List ByteArray), 2)) = some (r1, r2, r3, r4, r5, r6, r7) := by rw [if_pos rfl] at H; exact H
    clear H
    have H := H1
    clear H1
    simp only [Option.some.injEq, Prod.mk.injEq] at H
    obtain ⟨rfl, rfl, rfl, rfl, rfl, rfl, rfl⟩ := H
    have hnb30 := NB208_206.out
    have hnc30 := NB206_208.out
    have hnb31 := NB208_207.out
    have hnc31 := NB207_208.out
    have hcz32_0 : wc.cell? ⟨gb208, 0, none⟩ = some (.int .i64 0) := (blk_cell BK208.out 0).trans rfl
    have hcz32_1 : wc.cell? ⟨gb208, 1, none⟩ = some (.int .i64 0) := (blk_cell BK208.out 1).trans rfl
    have hcz32_2 : wc.cell? ⟨gb208, 2, none⟩ = some (.int .i64 0) := (blk_cell BK208.out 2).trans rfl
    have hcz32_3 : wc.cell? ⟨gb208, 3, none⟩ = some (.int .i64 0) := (blk_cell BK208.out 3).trans rfl
    have hcz32_4 : wc.cell? ⟨gb208, 4, none⟩ = some (.string (⟨#[]⟩ : ByteArray)) := (blk_cell BK208.out 4).trans rfl
    have hcz32_5 : wc.cell? ⟨gb208, 5, none⟩ = some (.slice none 0 0) := (blk_cell BK208.out 5).trans rfl
    have hfz32_0 := blk_frozen BK208.out 0
    have hfz32_1 := blk_frozen BK208.out 1
    have hfz32_2 := blk_frozen BK208.out 2
    have hfz32_3 := blk_frozen BK208.out 3
    have hfz32_4 := blk_frozen BK208.out 4
    have hfz32_5 := blk_frozen BK208.out 5
    go_wp2
    refine bodyPost_ret (results_ct rfl _ _ gb208 38 #[.int .i64 0, .int .i64 0, .int .i64 0, .int .i64 0, .string (⟨#[]⟩ : ByteArray), .slice none 0 0] (0, 0) _ rfl (by (with_reducible repeat (first | refine blk_drewN ?_ _ | refine blk_drew ?_ | refine blk_alloc ?_ _)); refine blk_put (cs := #[.int .i64 0, .int .i64 0, .int .i64 0, .int .i64 0, .string (⟨#[]⟩ : ByteArray), .slice none 0 0]) ?_ 5 _ rfl; (with_reducible repeat (first | refine blk_drewN ?_ _ | refine blk_drew ?_ | refine blk_alloc ?_ _)); refine blk_put (cs := #[.int .i64 0, .int .i64 0, .int .i64 0, .int .i64 0, .string (⟨#[]⟩ : ByteArray), .slice none 0 0]) ?_ 4 _ rfl; (with_reducible repeat (first | refine blk_drewN ?_ _ | refine blk_drew ?_ | refine blk_alloc ?_ _)); refine blk_put (cs := #[.int .i64 0, .int .i64 0, .int .i64 0, .int .i64 0, .string (⟨#[]⟩ : ByteArray), .slice none 0 0]) ?_ 3 _ rfl; (with_reducible repeat (first | refine blk_drewN ?_ _ | refine blk_drew ?_ | refine blk_alloc ?_ _)); refine blk_put (cs := #[.int .i64 0, .int .i64 0, .int .i64 0, .int .i64 0, .string (⟨#[]⟩ : ByteArray), .slice none 0 0]) ?_ 2 _ rfl; (with_reducible repeat (first | refine blk_drewN ?_ _ | refine blk_drew ?_ | refine blk_alloc ?_ _)); refine blk_put (cs := #[.int .i64 0, .int .i64 0, .int .i64 0, .int .i64 0, .string (⟨#[]⟩ : ByteArray), .slice none 0 0]) ?_ 1 _ rfl; (with_reducible repeat (first | refine blk_drewN ?_ _ | refine blk_drew ?_ | refine blk_alloc ?_ _)); refine blk_put (cs := #[.int .i64 0, .int .i64 0, .int .i64 0, .int .i64 0, .string (⟨#[]⟩ : ByteArray), .slice none 0 0]) ?_ 0 _ rfl; (with_reducible repeat (first | refine blk_drewN ?_ _ | refine blk_drew ?_ | refine blk_alloc ?_ _)); exact BK208.out) Tryd.underlying38 rfl (by kernel_rfl)) rfl ?_
    exact ⟨_, by first | rfl | (simp [errW_none, errW_some] <;> rfl) | (simp [*, errW_none, errW_some] <;> rfl), by first | exact Kd.R_nil _ _ _ _ _ | exact Kd.N_nil _ _ _ _ _ | exact Kd.V_nil _ _ _ _ _ | exact Kd.Q_nil _ _ _ _ _ | exact Kd.S_nil _ _ _ _ _, by repeat (first | (with_reducible first | exact HB.out | apply below_alloc | apply pw_below_drewN | apply below_drew1 | refine below_set ?_ GE206.out | refine below_set ?_ GE207.out | refine below_set ?_ GE208.out) | exact HB.out)⟩
   ·replace c29 := Bool.eq_false_iff.mpr c29
    subst c29
    have H1 : ((modcertref51_Begin.f kj3 a2).bind fun t210 => (modcertref51_Open.l0 kj3 a2 t210 (⟨#[]⟩ : ByteArray) (⟨#[]⟩ : ByteArray) 0 l0_0 l0_1 a1_0 a1_1 a1_0 a1_1 a2 0 t210 ([] : List ByteArray))) = some (r1, r2, r3, r4, r5, r6, r7) := by rw [if_neg (show ¬ (false = true) by decide)] at H; exact H
    clear H
    have H := H1
    clear H1
    replace H := Option.bind_eq_some_iff.mp H
    obtain ⟨t210, A330, H⟩ := H
    replace H : (modcertref51_Open.l0 kj3 a2 t210 (⟨#[]⟩ : ByteArray) (⟨#[]⟩ : ByteArray) 0 l0_0 l0_1 a1_0 a1_1 a1_0 a1_1 a2 0 t210 ([] : List ByteArray)) = some (r1, r2, r3, r4, r5, r6, r7) := H
    have A33 := Aside0.mk A330
    clear A330
    have H' := Aside0.mk H
    clear H
    try go_wp2
    have n0_ := Aside0.mk (blk_drew BK206.out)
    have n1_ := Aside0.mk (blk_drew BK207.out)
    have n2_ := Aside0.mk (blk_drew BK208.out)
    have n3_ := Aside0.mk (below_drew1 HB.out)
    clear BK206
    clear BK207
    clear BK208
    clear HB
    have BK206 := n0_
    have BK207 := n1_
    have BK208 := n2_
    have HB := n3_
    clear n0_ n1_ n2_ n3_
    refine start_ (n := 7) (S := fun w' => w'.cell? ⟨gb207, 0, none⟩ = some (.int .i64 a1_0) ∧ w'.cell? ⟨gb207, 1, none⟩ = some (.int .i64 a1_1)) (ds := []) #[Ff,Ff,Ff,Ff,Ff,Ff,Ff] (by kernel_rfl) rfl rfl ⟨(blk_cell BK207.out 0).trans rfl, (blk_cell BK207.out 1).trans rfl⟩ (fun hHeld => ?_)
    generalize wc.drew = w34 at BK206 BK207 BK208 HB hHeld ⊢
    refine pure_ (i := 1) (N := some 28) (v := ?_) (a' := ?_) #[Ff,Tt,Ff,Ff,Ff,Ff,Ff] rfl rfl (by kernel_rfl) (fun _ _ _ h => h) (Or.inl ⟨by rfl, ?_⟩) ?_ ?_
    rotate_left
    ·intro w'
     go_simp
     with_reducible rfl
    rotate_left
    ·simp only [Act.put, List.setIfInBounds_toArray, List.set_cons_zero, List.set_cons_succ, i64_w, i32_w]
     rfl
    refine pure_ (i := 2) (N := some 29) (v := ?_) (a' := ?_) #[Ff,Tt,Tt,Ff,Ff,Ff,Ff] rfl rfl (by kernel_rfl) (fun _ _ _ h => h) (Or.inl ⟨by rfl, ?_⟩) ?_ ?_
    rotate_left
    ·intro w'
     go_simp
     with_reducible rfl
    rotate_left
    ·simp only [Act.put, List.setIfInBounds_toArray, List.set_cons_zero, List.set_cons_succ, i64_w, i32_w]
     rfl
    refine take_ (i := 0) (N := some 27) (v := ?_) (a' := ?_) #[Tt,Tt,Tt,Ff,Ff,Ff,Ff] rfl rfl (by kernel_rfl) (fun _ _ _ h => h) (Or.inl ⟨by rfl, ?_⟩) hHeld ?_ ?_
    rotate_left
    ·rintro w' ⟨s0, s1⟩
     go_simp
     with_reducible rfl
    rotate_left
    ·simp only [Act.put, List.setIfInBounds_toArray, List.set_cons_zero, List.set_cons_succ, i64_w, i32_w]
     rfl
    refine join_ (σ := Nat) 1 #[Tt,Tt,Tt,Tt,Tt,Tt,Ff] (fun s_ => [(30, .string t210), (8, .pointer (some ⟨s_, 0, none⟩)), (31, .agg #[.int .i64 a1_0, .int .i64 a1_1, .int .i64 a2, .int .i64 0, .string t210, .slice none 0 0])]) (fun s_ w' => (w'.cell? ⟨gb207, 0, none⟩ = some (.int .i64 a1_0) ∧ w'.cell? ⟨gb207, 1, none⟩ = some (.int .i64 a1_1)) ∧ (w'.heap[gb206]? = some (.cells #[.slice A0_0 l0_0.length c0_0, .slice A0_1 l0_1.length c0_1] 29 (0, 0))) ∧ (w'.heap[gb207]? = some (.cells #[.int .i64 a1_0, .int .i64 a1_1] 24 (0, 0))) ∧ (w'.heap[gb208]? = some (.cells #[.int .i64 0, .int .i64 0, .int .i64 0, .int .i64 0, .string (⟨#[]⟩ : ByteArray), .slice none 0 0] 38 (0, 0))) ∧ (w'.heap[s_]? = some (.cells #[.int .i64 0, .int .i64 0, .int .i64 0, .int .i64 0, .string (⟨#[]⟩ : ByteArray), .slice none 0 0] 38 (0, 0))) ∧ (w.heap.size ≤ s_) ∧ (w.heap.size ≤ s_) ∧ (gb206 ≠ s_) ∧ (s_ ≠ gb206) ∧ (gb207 ≠ s_) ∧ (s_ ≠ gb207) ∧ (gb208 ≠ s_) ∧ (s_ ≠ gb208) ∧ (Below w.heap.size w w')) ?_ ?_
    rotate_left
    ·intro hCont
     refine two_ (i := 3) (j := 5) (Ni := some 30) (Nj := some 8) #[Tt,Tt,Tt,Tt,Ff,Ff,Ff] #[Tt,Tt,Tt,Ff,Ff,Tt,Ff] rfl rfl rfl rfl (by kernel_rfl) (by decide) (by decide) (fun K hK => ?_) (fun K hK => ?_)
     ·skip
      refine goes_ Tryd.func51 (by kernel_rfl) rfl #[.int .i64 a2] (by rfl) rfl rfl (by (try simp only [List.map_toArray, List.map_cons, List.map_nil]); first | done | rfl | (simp only [List.length_drop, List.length_take]; rfl)) ?_
      with_reducible refine (modcertref51_Begin.calls kj3 a2 t210 _ A33.out).mono ?_
      rintro e w35 ⟨rfl, hb⟩
      refine ⟨_, rfl, ?_⟩
      have n0_ := Aside0.mk (blk_below (g := gb206) (o := .cells #[.slice A0_0 l0_0.length c0_0, .slice A0_1 l0_1.length c0_1] 29 (0, 0)) (by (with_reducible repeat (first | refine blk_drewN ?_ _ | refine blk_drew ?_ | refine blk_alloc ?_ _)); exact BK206.out) hb)
      have n1_ := Aside0.mk (blk_below (g := gb207) (o := .cells #[.int .i64 a1_0, .int .i64 a1_1] 24 (0, 0)) (by (with_reducible repeat (first | refine blk_drewN ?_ _ | refine blk_drew ?_ | refine blk_alloc ?_ _)); exact BK207.out) hb)
      have n2_ := Aside0.mk (blk_below (g := gb208) (o := .cells #[.int .i64 0, .int .i64 0, .int .i64 0, .int .i64 0, .string (⟨#[]⟩ : ByteArray), .slice none 0 0] 38 (0, 0)) (by (with_reducible repeat (first | refine blk_drewN ?_ _ | refine blk_drew ?_ | refine blk_alloc ?_ _)); exact BK208.out) hb)
      have n3_ := Aside0.mk (below_step (by repeat (first | (with_reducible first | exact HB.out | apply below_alloc | apply pw_below_drewN | apply below_drew1 | refine below_set ?_ GE206.out | refine below_set ?_ GE207.out | refine below_set ?_ GE208.out) | exact HB.out)) hb)
      clear BK206
      clear BK207
      clear BK208
      clear HB
      have BK206 := n0_
      have BK207 := n1_
      have BK208 := n2_
      have HB := n3_
      clear n0_ n1_ n2_ n3_
      (try clear hb)
      (try clear hb2)
      (try clear hk)
      (try clear hi)
      refine hK.out _ _ ⟨(blk_cell BK207.out 0).trans rfl, (blk_cell BK207.out 1).trans rfl⟩ (fun hHeld => ?_)
      clear hK K
      refine norm_ (a' := ?_) ?_ ?_
      rotate_left
      ·show Act.put _ (some 30) _ = _
       simp only [Act.put, List.setIfInBounds_toArray, List.set_cons_zero, List.set_cons_succ, i64_w, i32_w]
       rfl
      refine pure_ (i := 4) (N := some 31) (v := ?_) (a' := ?_) #[Tt,Tt,Tt,Tt,Tt,Ff,Ff] rfl rfl (by kernel_rfl) (fun _ _ _ h => h) (Or.inl ⟨by rfl, ?_⟩) ?_ ?_
      rotate_left
      ·intro w'
       go_simp
       with_reducible rfl
      rotate_left
      ·simp only [Act.put, List.setIfInBounds_toArray, List.set_cons_zero, List.set_cons_succ, i64_w, i32_w]
       rfl
      refine one_ (i := 5) (N := some 8) #[Tt,Tt,Tt,Tt,Tt,Tt,Ff] rfl rfl (by kernel_rfl) (by decide) (fun K hK => ?_)
      refine box_step ?hg (N := 8) ?hd (cs := #[.int .i64 0, .int .i64 0, .int .i64 0, .int .i64 0, .string (⟨#[]⟩ : ByteArray), .slice none 0 0]) (t := 38) ?hr ?_; (case hd => rfl); (case hg => rfl); (case hr => first | (go_simp; done) | (go_simp; rfl))
      intro gb211 hg w36 hbox hb
      have n0_ := Aside0.mk (blk_below (g := gb206) (o := .cells #[.slice A0_0 l0_0.length c0_0, .slice A0_1 l0_1.length c0_1] 29 (0, 0)) (by (with_reducible repeat (first | refine blk_drewN ?_ _ | refine blk_drew ?_ | refine blk_alloc ?_ _)); exact BK206.out) hb)
      have n1_ := Aside0.mk (blk_below (g := gb207) (o := .cells #[.int .i64 a1_0, .int .i64 a1_1] 24 (0, 0)) (by (with_reducible repeat (first | refine blk_drewN ?_ _ | refine blk_drew ?_ | refine blk_alloc ?_ _)); exact BK207.out) hb)
      have n2_ := Aside0.mk (blk_below (g := gb208) (o := .cells #[.int .i64 0, .int .i64 0, .int .i64 0, .int .i64 0, .string (⟨#[]⟩ : ByteArray), .slice none 0 0] 38 (0, 0)) (by (with_reducible repeat (first | refine blk_drewN ?_ _ | refine blk_drew ?_ | refine blk_alloc ?_ _)); exact BK208.out) hb)
      have n3_ := Aside0.mk (below_step (by repeat (first | (with_reducible first | exact HB.out | apply below_alloc | apply pw_below_drewN | apply below_drew1 | refine below_set ?_ GE206.out | refine below_set ?_ GE207.out | refine below_set ?_ GE208.out) | exact HB.out)) hb)
      have n4_ := Aside0.mk (hbox)
      have n5_ := Aside0.mk ((by rw [hg]; exact (below_size (by repeat (first | (with_reducible first | exact HB.out | apply below_alloc | apply pw_below_drewN | apply below_drew1 | refine below_set ?_ GE206.out | refine below_set ?_ GE207.out | refine below_set ?_ GE208.out) | exact HB.out))) : w.heap.size ≤ gb211))
      have n6_ := Aside0.mk ((by rw [hg]; exact (below_size (by repeat (first | (with_reducible first | exact HB.out | apply below_alloc | apply pw_below_drewN | apply below_drew1 | refine below_set ?_ GE206.out | refine below_set ?_ GE207.out | refine below_set ?_ GE208.out) | exact HB.out))) : w.heap.size ≤ gb211))
      have n7_ := Aside0.mk ((by rw [hg]; exact Nat.ne_of_lt (blk_lt (g := gb206) (o := .cells #[.slice A0_0 l0_0.length c0_0, .slice A0_1 l0_1.length c0_1] 29 (0, 0)) (by (with_reducible repeat (first | refine blk_drewN ?_ _ | refine blk_drew ?_ | refine blk_alloc ?_ _)); exact BK206.out)) : gb206 ≠ gb211))
      have n8_ := Aside0.mk ((by rw [hg]; exact Nat.ne_of_gt (blk_lt (g := gb206) (o := .cells #[.slice A0_0 l0_0.length c0_0, .slice A0_1 l0_1.length c0_1] 29 (0, 0)) (by (with_reducible repeat (first | refine blk_drewN ?_ _ | refine blk_drew ?_ | refine blk_alloc ?_ _)); exact BK206.out)) : gb211 ≠ gb206))
      have n9_ := Aside0.mk ((by rw [hg]; exact Nat.ne_of_lt (blk_lt (g := gb207) (o := .cells #[.int .i64 a1_0, .int .i64 a1_1] 24 (0, 0)) (by (with_reducible repeat (first | refine blk_drewN ?_ _ | refine blk_drew ?_ | refine blk_alloc ?_ _)); exact BK207.out)) : gb207 ≠ gb211))
      have n10_ := Aside0.mk ((by rw [hg]; exact Nat.ne_of_gt (blk_lt (g := gb207) (o := .cells #[.int .i64 a1_0, .int .i64 a1_1] 24 (0, 0)) (by (with_reducible repeat (first | refine blk_drewN ?_ _ | refine blk_drew ?_ | refine blk_alloc ?_ _)); exact BK207.out)) : gb211 ≠ gb207))
      have n11_ := Aside0.mk ((by rw [hg]; exact Nat.ne_of_lt (blk_lt (g := gb208) (o := .cells #[.int .i64 0, .int .i64 0, .int .i64 0, .int .i64 0, .string (⟨#[]⟩ : ByteArray), .slice none 0 0] 38 (0, 0)) (by (with_reducible repeat (first | refine blk_drewN ?_ _ | refine blk_drew ?_ | refine blk_alloc ?_ _)); exact BK208.out)) : gb208 ≠ gb211))
      have n12_ := Aside0.mk ((by rw [hg]; exact Nat.ne_of_gt (blk_lt (g := gb208) (o := .cells #[.int .i64 0, .int .i64 0, .int .i64 0, .int .i64 0, .string (⟨#[]⟩ : ByteArray), .slice none 0 0] 38 (0, 0)) (by (with_reducible repeat (first | refine blk_drewN ?_ _ | refine blk_drew ?_ | refine blk_alloc ?_ _)); exact BK208.out)) : gb211 ≠ gb208))
      clear BK206
      clear BK207
      clear BK208
      clear HB
      have BK206 := n0_
      have BK207 := n1_
      have BK208 := n2_
      have HB := n3_
      have BK211 := n4_
      have GW211 := n5_
      have GE211 := n6_
      have NB206_211 := n7_
      have NB211_206 := n8_
      have NB207_211 := n9_
      have NB211_207 := n10_
      have NB208_211 := n11_
      have NB211_208 := n12_
      clear n0_ n1_ n2_ n3_ n4_ n5_ n6_ n7_ n8_ n9_ n10_ n11_ n12_
      clear hb hbox hg
      refine hK.out _ _ ⟨(blk_cell BK207.out 0).trans rfl, (blk_cell BK207.out 1).trans rfl⟩ (fun hHeld => ?_)
      clear hK K
      refine norm_ (a' := ?_) ?_ ?_
      rotate_left
      ·show Act.put _ (some 8) _ = _
       simp only [Act.put, List.setIfInBounds_toArray, List.set_cons_zero, List.set_cons_succ, i64_w, i32_w]
       rfl
      exact norm_ (by simp only [putAll, Act.put, List.setIfInBounds_toArray, List.set_cons_zero, List.set_cons_succ]) (hCont (gb211) _ ⟨hHeld, (by (with_reducible repeat (first | refine blk_drewN ?_ _ | refine blk_drew ?_ | refine blk_alloc ?_ _)); exact BK206.out), (by (with_reducible repeat (first | refine blk_drewN ?_ _ | refine blk_drew ?_ | refine blk_alloc ?_ _)); exact BK207.out), (by (with_reducible repeat (first | refine blk_drewN ?_ _ | refine blk_drew ?_ | refine blk_alloc ?_ _)); exact BK208.out), (by (with_reducible repeat (first | refine blk_drewN ?_ _ | refine blk_drew ?_ | refine blk_alloc ?_ _)); exact BK211.out), GW211.out, GE211.out, NB206_211.out, NB211_206.out, NB207_211.out, NB211_207.out, NB208_211.out, NB211_208.out, (by repeat (first | (with_reducible first | exact HB.out | apply below_alloc | apply pw_below_drewN | apply below_drew1 | refine below_set ?_ GE206.out | refine below_set ?_ GE207.out | refine below_set ?_ GE208.out | refine below_set ?_ GE211.out) | exact HB.out))⟩)
     ·skip
      refine box_step ?hg (N := 8) ?hd (cs := #[.int .i64 0, .int .i64 0, .int .i64 0, .int .i64 0, .string (⟨#[]⟩ : ByteArray), .slice none 0 0]) (t := 38) ?hr ?_; (case hd => rfl); (case hg => rfl); (case hr => first | (go_simp; done) | (go_simp; rfl))
      intro gb211 hg w35 hbox hb
      have n0_ := Aside0.mk (blk_below (g := gb206) (o := .cells #[.slice A0_0 l0_0.length c0_0, .slice A0_1 l0_1.length c0_1] 29 (0, 0)) (by (with_reducible repeat (first | refine blk_drewN ?_ _ | refine blk_drew ?_ | refine blk_alloc ?_ _)); exact BK206.out) hb)
      have n1_ := Aside0.mk (blk_below (g := gb207) (o := .cells #[.int .i64 a1_0, .int .i64 a1_1] 24 (0, 0)) (by (with_reducible repeat (first | refine blk_drewN ?_ _ | refine blk_drew ?_ | refine blk_alloc ?_ _)); exact BK207.out) hb)
      have n2_ := Aside0.mk (blk_below (g := gb208) (o := .cells #[.int .i64 0, .int .i64 0, .int .i64 0, .int .i64 0, .string (⟨#[]⟩ : ByteArray), .slice none 0 0] 38 (0, 0)) (by (with_reducible repeat (first | refine blk_drewN ?_ _ | refine blk_drew ?_ | refine blk_alloc ?_ _)); exact BK208.out) hb)
      have n3_ := Aside0.mk (below_step (by repeat (first | (with_reducible first | exact HB.out | apply below_alloc | apply pw_below_drewN | apply below_drew1 | refine below_set ?_ GE206.out | refine below_set ?_ GE207.out | refine below_set ?_ GE208.out) | exact HB.out)) hb)
      have n4_ := Aside0.mk (hbox)
      have n5_ := Aside0.mk ((by rw [hg]; exact (below_size (by repeat (first | (with_reducible first | exact HB.out | apply below_alloc | apply pw_below_drewN | apply below_drew1 | refine below_set ?_ GE206.out | refine below_set ?_ GE207.out | refine below_set ?_ GE208.out) | exact HB.out))) : w.heap.size ≤ gb211))
      have n6_ := Aside0.mk ((by rw [hg]; exact (below_size (by repeat (first | (with_reducible first | exact HB.out | apply below_alloc | apply pw_below_drewN | apply below_drew1 | refine below_set ?_ GE206.out | refine below_set ?_ GE207.out | refine below_set ?_ GE208.out) | exact HB.out))) : w.heap.size ≤ gb211))
      have n7_ := Aside0.mk ((by rw [hg]; exact Nat.ne_of_lt (blk_lt (g := gb206) (o := .cells #[.slice A0_0 l0_0.length c0_0, .slice A0_1 l0_1.length c0_1] 29 (0, 0)) (by (with_reducible repeat (first | refine blk_drewN ?_ _ | refine blk_drew ?_ | refine blk_alloc ?_ _)); exact BK206.out)) : gb206 ≠ gb211))
      have n8_ := Aside0.mk ((by rw [hg]; exact Nat.ne_of_gt (blk_lt (g := gb206) (o := .cells #[.slice A0_0 l0_0.length c0_0, .slice A0_1 l0_1.length c0_1] 29 (0, 0)) (by (with_reducible repeat (first | refine blk_drewN ?_ _ | refine blk_drew ?_ | refine blk_alloc ?_ _)); exact BK206.out)) : gb211 ≠ gb206))
      have n9_ := Aside0.mk ((by rw [hg]; exact Nat.ne_of_lt (blk_lt (g := gb207) (o := .cells #[.int .i64 a1_0, .int .i64 a1_1] 24 (0, 0)) (by (with_reducible repeat (first | refine blk_drewN ?_ _ | refine blk_drew ?_ | refine blk_alloc ?_ _)); exact BK207.out)) : gb207 ≠ gb211))
      have n10_ := Aside0.mk ((by rw [hg]; exact Nat.ne_of_gt (blk_lt (g := gb207) (o := .cells #[.int .i64 a1_0, .int .i64 a1_1] 24 (0, 0)) (by (with_reducible repeat (first | refine blk_drewN ?_ _ | refine blk_drew ?_ | refine blk_alloc ?_ _)); exact BK207.out)) : gb211 ≠ gb207))
      have n11_ := Aside0.mk ((by rw [hg]; exact Nat.ne_of_lt (blk_lt (g := gb208) (o := .cells #[.int .i64 0, .int .i64 0, .int .i64 0, .int .i64 0, .string (⟨#[]⟩ : ByteArray), .slice none 0 0] 38 (0, 0)) (by (with_reducible repeat (first | refine blk_drewN ?_ _ | refine blk_drew ?_ | refine blk_alloc ?_ _)); exact BK208.out)) : gb208 ≠ gb211))
      have n12_ := Aside0.mk ((by rw [hg]; exact Nat.ne_of_gt (blk_lt (g := gb208) (o := .cells #[.int .i64 0, .int .i64 0, .int .i64 0, .int .i64 0, .string (⟨#[]⟩ : ByteArray), .slice none 0 0] 38 (0, 0)) (by (with_reducible repeat (first | refine blk_drewN ?_ _ | refine blk_drew ?_ | refine blk_alloc ?_ _)); exact BK208.out)) : gb211 ≠ gb208))
      clear BK206
      clear BK207
      clear BK208
      clear HB
      have BK206 := n0_
      have BK207 := n1_
      have BK208 := n2_
      have HB := n3_
      have BK211 := n4_
      have GW211 := n5_
      have GE211 := n6_
      have NB206_211 := n7_
      have NB211_206 := n8_
      have NB207_211 := n9_
      have NB211_207 := n10_
      have NB208_211 := n11_
      have NB211_208 := n12_
      clear n0_ n1_ n2_ n3_ n4_ n5_ n6_ n7_ n8_ n9_ n10_ n11_ n12_
      clear hb hbox hg
      refine hK.out _ _ ⟨(blk_cell BK207.out 0).trans rfl, (blk_cell BK207.out 1).trans rfl⟩ (fun hHeld => ?_)
      clear hK K
      refine norm_ (a' := ?_) ?_ ?_
      rotate_left
      ·show Act.put _ (some 8) _ = _
       simp only [Act.put, List.setIfInBounds_toArray, List.set_cons_zero, List.set_cons_succ, i64_w, i32_w]
       rfl
      refine one_ (i := 3) (N := some 30) #[Tt,Tt,Tt,Tt,Ff,Tt,Ff] rfl rfl (by kernel_rfl) (by decide) (fun K hK => ?_)
      refine goes_ Tryd.func51 (by kernel_rfl) rfl #[.int .i64 a2] (by rfl) rfl rfl (by (try simp only [List.map_toArray, List.map_cons, List.map_nil]); first | done | rfl | (simp only [List.length_drop, List.length_take]; rfl)) ?_
      with_reducible refine (modcertref51_Begin.calls kj3 a2 t210 _ A33.out).mono ?_
      rintro e w36 ⟨rfl, hb⟩
      refine ⟨_, rfl, ?_⟩
      have n0_ := Aside0.mk (blk_below (g := gb206) (o := .cells #[.slice A0_0 l0_0.length c0_0, .slice A0_1 l0_1.length c0_1] 29 (0, 0)) (by (with_reducible repeat (first | refine blk_drewN ?_ _ | refine blk_drew ?_ | refine blk_alloc ?_ _)); exact BK206.out) hb)
      have n1_ := Aside0.mk (blk_below (g := gb207) (o := .cells #[.int .i64 a1_0, .int .i64 a1_1] 24 (0, 0)) (by (with_reducible repeat (first | refine blk_drewN ?_ _ | refine blk_drew ?_ | refine blk_alloc ?_ _)); exact BK207.out) hb)
      have n2_ := Aside0.mk (blk_below (g := gb208) (o := .cells #[.int .i64 0, .int .i64 0, .int .i64 0, .int .i64 0, .string (⟨#[]⟩ : ByteArray), .slice none 0 0] 38 (0, 0)) (by (with_reducible repeat (first | refine blk_drewN ?_ _ | refine blk_drew ?_ | refine blk_alloc ?_ _)); exact BK208.out) hb)
      have n3_ := Aside0.mk (blk_below (g := gb211) (o := .cells #[.int .i64 0, .int .i64 0, .int .i64 0, .int .i64 0, .string (⟨#[]⟩ : ByteArray), .slice none 0 0] 38 (0, 0)) (by (with_reducible repeat (first | refine blk_drewN ?_ _ | refine blk_drew ?_ | refine blk_alloc ?_ _)); exact BK211.out) hb)
      have n4_ := Aside0.mk (below_step (by repeat (first | (with_reducible first | exact HB.out | apply below_alloc | apply pw_below_drewN | apply below_drew1 | refine below_set ?_ GE206.out | refine below_set ?_ GE207.out | refine below_set ?_ GE208.out | refine below_set ?_ GE211.out) | exact HB.out)) hb)
      clear BK206
      clear BK207
      clear BK208
      clear BK211
      clear HB
      have BK206 := n0_
      have BK207 := n1_
      have BK208 := n2_
      have BK211 := n3_
      have HB := n4_
      clear n0_ n1_ n2_ n3_ n4_
      (try clear hb)
      (try clear hb2)
      (try clear hk)
      (try clear hi)
      refine hK.out _ _ ⟨(blk_cell BK207.out 0).trans rfl, (blk_cell BK207.out 1).trans rfl⟩ (fun hHeld => ?_)
      clear hK K
      refine norm_ (a' := ?_) ?_ ?_
      rotate_left
      ·show Act.put _ (some 30) _ = _
       simp only [Act.put, List.setIfInBounds_toArray, List.set_cons_zero, List.set_cons_succ, i64_w, i32_w]
       rfl
      refine pure_ (i := 4) (N := some 31) (v := ?_) (a' := ?_) #[Tt,Tt,Tt,Tt,Tt,Tt,Ff] rfl rfl (by kernel_rfl) (fun _ _ _ h => h) (Or.inl ⟨by rfl, ?_⟩) ?_ ?_
      rotate_left
      ·intro w'
       go_simp
       with_reducible rfl
      rotate_left
      ·simp only [Act.put, List.setIfInBounds_toArray, List.set_cons_zero, List.set_cons_succ, i64_w, i32_w]
       rfl
      exact norm_ (by simp only [putAll, Act.put, List.setIfInBounds_toArray, List.set_cons_zero, List.set_cons_succ]) (hCont (gb211) _ ⟨hHeld, (by (with_reducible repeat (first | refine blk_drewN ?_ _ | refine blk_drew ?_ | refine blk_alloc ?_ _)); exact BK206.out), (by (with_reducible repeat (first | refine blk_drewN ?_ _ | refine blk_drew ?_ | refine blk_alloc ?_ _)); exact BK207.out), (by (with_reducible repeat (first | refine blk_drewN ?_ _ | refine blk_drew ?_ | refine blk_alloc ?_ _)); exact BK208.out), (by (with_reducible repeat (first | refine blk_drewN ?_ _ | refine blk_drew ?_ | refine blk_alloc ?_ _)); exact BK211.out), GW211.out, GE211.out, NB206_211.out, NB211_206.out, NB207_211.out, NB211_207.out, NB208_211.out, NB211_208.out, (by repeat (first | (with_reducible first | exact HB.out | apply below_alloc | apply pw_below_drewN | apply below_drew1 | refine below_set ?_ GE206.out | refine below_set ?_ GE207.out | refine below_set ?_ GE208.out | refine below_set ?_ GE211.out) | exact HB.out))⟩)
    rintro gb211 w37 ⟨hS_, h0_, h1_, h2_, h3_, h4_, h5_, h6_, h7_, h8_, h9_, h10_, h11_, h12_⟩
    have n0_ : Aside0 (w37.heap[gb206]? = some (.cells #[.slice A0_0 l0_0.length c0_0, .slice A0_1 l0_1.length c0_1] 29 (0, 0))) := ⟨h0_⟩
    have n1_ : Aside0 (w37.heap[gb207]? = some (.cells #[.int .i64 a1_0, .int .i64 a1_1] 24 (0, 0))) := ⟨h1_⟩
    have n2_ : Aside0 (w37.heap[gb208]? = some (.cells #[.int .i64 0, .int .i64 0, .int .i64 0, .int .i64 0, .string (⟨#[]⟩ : ByteArray), .slice none 0 0] 38 (0, 0))) := ⟨h2_⟩
    have n3_ : Aside0 (w37.heap[gb211]? = some (.cells #[.int .i64 0, .int .i64 0, .int .i64 0, .int .i64 0, .string (⟨#[]⟩ : ByteArray), .slice none 0 0] 38 (0, 0))) := ⟨h3_⟩
    have n4_ : Aside0 (w.heap.size ≤ gb211) := ⟨h4_⟩
    have n5_ : Aside0 (w.heap.size ≤ gb211) := ⟨h5_⟩
    have n6_ : Aside0 (gb206 ≠ gb211) := ⟨h6_⟩
    have n7_ : Aside0 (gb211 ≠ gb206) := ⟨h7_⟩
    have n8_ : Aside0 (gb207 ≠ gb211) := ⟨h8_⟩
    have n9_ : Aside0 (gb211 ≠ gb207) := ⟨h9_⟩
    have n10_ : Aside0 (gb208 ≠ gb211) := ⟨h10_⟩
    have n11_ : Aside0 (gb211 ≠ gb208) := ⟨h11_⟩
    have n12_ : Aside0 (Below w.heap.size w w37) := ⟨h12_⟩
    clear BK206
    clear BK207
    clear BK208
    clear HB
    clear h0_ h1_ h2_ h3_ h4_ h5_ h6_ h7_ h8_ h9_ h10_ h11_ h12_
    have BK206 := n0_
    have BK207 := n1_
    have BK208 := n2_
    have BK211 := n3_
    have GW211 := n4_
    have GE211 := n5_
    have NB206_211 := n6_
    have NB211_206 := n7_
    have NB207_211 := n8_
    have NB211_207 := n9_
    have NB208_211 := n10_
    have NB211_208 := n11_
    have HB := n12_
    clear n0_ n1_ n2_ n3_ n4_ n5_ n6_ n7_ n8_ n9_ n10_ n11_ n12_
    have hHeld : w37.cell? ⟨gb207, 0, none⟩ = some (.int .i64 a1_0) ∧ w37.cell? ⟨gb207, 1, none⟩ = some (.int .i64 a1_1) := hS_
    refine norm_ (a' := ?_) ?_ ?_
    rotate_left
    ·simp only [putAll, Act.put, List.setIfInBounds_toArray, List.set_cons_zero, List.set_cons_succ]
     rfl
    refine one_ (i := 6) (N := none) #[Tt,Tt,Tt,Tt,Tt,Tt,Tt] rfl rfl (by kernel_rfl) (by decide) (fun K hK => ?_)
    have hs38 : w37.cell? ⟨gb211, 0, none⟩ = some (.int .i64 0) := (blk_cell BK211.out 0).trans rfl
    have hfs38 := blk_frozen BK211.out 0
    have hns38_0 := NB206_211.out
    have hns38_1 := NB207_211.out
    have hns38_2 := NB208_211.out
    have hms38_0 := NB211_206.out
    have hms38_1 := NB211_207.out
    have hms38_2 := NB211_208.out
    have hs39 : w37.cell? ⟨gb211, 1, none⟩ = some (.int .i64 0) := (blk_cell BK211.out 1).trans rfl
    have hfs39 := blk_frozen BK211.out 1
    have hns39_0 := NB206_211.out
    have hns39_1 := NB207_211.out
    have hns39_2 := NB208_211.out
    have hms39_0 := NB211_206.out
    have hms39_1 := NB211_207.out
    have hms39_2 := NB211_208.out
    have hs40 : w37.cell? ⟨gb211, 2, none⟩ = some (.int .i64 0) := (blk_cell BK211.out 2).trans rfl
    have hfs40 := blk_frozen BK211.out 2
    have hns40_0 := NB206_211.out
    have hns40_1 := NB207_211.out
    have hns40_2 := NB208_211.out
    have hms40_0 := NB211_206.out
    have hms40_1 := NB211_207.out
    have hms40_2 := NB211_208.out
    have hs41 : w37.cell? ⟨gb211, 3, none⟩ = some (.int .i64 0) := (blk_cell BK211.out 3).trans rfl
    have hfs41 := blk_frozen BK211.out 3
    have hns41_0 := NB206_211.out
    have hns41_1 := NB207_211.out
    have hns41_2 := NB208_211.out
    have hms41_0 := NB211_206.out
    have hms41_1 := NB211_207.out
    have hms41_2 := NB211_208.out
    have hs42 : w37.cell? ⟨gb211, 4, none⟩ = some (.string (⟨#[]⟩ : ByteArray)) := (blk_cell BK211.out 4).trans rfl
    have hfs42 := blk_frozen BK211.out 4
    have hns42_0 := NB206_211.out
    have hns42_1 := NB207_211.out
    have hns42_2 := NB208_211.out
    have hms42_0 := NB211_206.out
    have hms42_1 := NB211_207.out
    have hms42_2 := NB211_208.out
    have hs43 : w37.cell? ⟨gb211, 5, none⟩ = some (.slice none 0 0) := (blk_cell BK211.out 5).trans rfl
    have hfs43 := blk_frozen BK211.out 5
    have hns43_0 := NB206_211.out
    have hns43_1 := NB207_211.out
    have hns43_2 := NB208_211.out
    have hms43_0 := NB211_206.out
    have hms43_1 := NB211_207.out
    have hms43_2 := NB211_208.out
    refine skip_ (w1 := ?_) (by rfl) rfl ?_ ?_
    rotate_left
    ·go_simp
     rfl
    refine hK.out _ _ ⟨((cell_far (p := ⟨gb211, _, none⟩) NB207_211.out _).trans (((cell_far (p := ⟨gb211, _, none⟩) NB207_211.out _).trans (((cell_far (p := ⟨gb211, _, none⟩) NB207_211.out _).trans (((cell_far (p := ⟨gb211, _, none⟩) NB207_211.out _).trans (((cell_far (p := ⟨gb211, _, none⟩) NB207_211.out _).trans (((cell_far (p := ⟨gb211, _, none⟩) NB207_211.out _).trans (hHeld.1)))))))))))), ((cell_far (p := ⟨gb211, _, none⟩) NB207_211.out _).trans (((cell_far (p := ⟨gb211, _, none⟩) NB207_211.out _).trans (((cell_far (p := ⟨gb211, _, none⟩) NB207_211.out _).trans (((cell_far (p := ⟨gb211, _, none⟩) NB207_211.out _).trans (((cell_far (p := ⟨gb211, _, none⟩) NB207_211.out _).trans (((cell_far (p := ⟨gb211, _, none⟩) NB207_211.out _).trans (hHeld.2))))))))))))⟩ (fun hHeld => ?_)
    clear hK K
    refine done_ (by kernel_rfl) ?_
    have hnb44 := NB211_206.out
    have hnc44 := NB206_211.out
    have hnb45 := NB211_207.out
    have hnc45 := NB207_211.out
    have hnb46 := NB211_208.out
    have hnc46 := NB208_211.out
    have hcz47_0 : w37.cell? ⟨gb211, 0, none⟩ = some (.int .i64 0) := (blk_cell BK211.out 0).trans rfl
    have hcz47_1 : w37.cell? ⟨gb211, 1, none⟩ = some (.int .i64 0) := (blk_cell BK211.out 1).trans rfl
    have hcz47_2 : w37.cell? ⟨gb211, 2, none⟩ = some (.int .i64 0) := (blk_cell BK211.out 2).trans rfl
    have hcz47_3 : w37.cell? ⟨gb211, 3, none⟩ = some (.int .i64 0) := (blk_cell BK211.out 3).trans rfl
    have hcz47_4 : w37.cell? ⟨gb211, 4, none⟩ = some (.string (⟨#[]⟩ : ByteArray)) := (blk_cell BK211.out 4).trans rfl
    have hcz47_5 : w37.cell? ⟨gb211, 5, none⟩ = some (.slice none 0 0) := (blk_cell BK211.out 5).trans rfl
    have hfz47_0 := blk_frozen BK211.out 0
    have hfz47_1 := blk_frozen BK211.out 1
    have hfz47_2 := blk_frozen BK211.out 2
    have hfz47_3 := blk_frozen BK211.out 3
    have hfz47_4 := blk_frozen BK211.out 4
    have hfz47_5 := blk_frozen BK211.out 5
    try go_wp2
    go_loopg [9, 10, 11, 12] kj3 (fun kq v9 v10 v11 v12 w' => ∃ (x9_2 : ByteArray) (x10_2 : ByteArray) (x11_2 : ByteArray) (x12_2 : Int) (x209000_2 : Int) (x209001_2 : Int) (x209002_2 : Int) (x209003_2 : Int) (x209004_2 : ByteArray) (x212003_2 : Int) (x212004_2 : ByteArray) (x212005_2 : List ByteArray) (u212005 : Value), v9 = .string x9_2 ∧ v10 = .string x10_2 ∧ v11 = .string x11_2 ∧ v12 = .int .i64 x12_2 ∧ Aside0 (modcertref51_Open.l0 kq a2 x9_2 x10_2 x11_2 x12_2 l0_0 l0_1 a1_0 a1_1 a1_0 a1_1 a2 x212003_2 x212004_2 x212005_2 = some (r1, r2, r3, r4, r5, r6, r7)) ∧ Aside0 (kq ≤ kj3) ∧ Aside0 (Kd.R Kd.string 9 w' w.heap.size (fun _ => True) u212005 x212005_2) ∧ Aside0 (w'.heap[gb206]? = some (.cells #[(.slice A0_0 l0_0.length c0_0), (.slice A0_1 l0_1.length c0_1)] 29 (0, 0))) ∧ Aside0 (w'.heap[gb207]? = some (.cells #[.int .i64 a1_0, .int .i64 a1_1] 24 (0, 0))) ∧ Aside0 (w'.heap[gb208]? = some (.cells #[.int .i64 x209000_2, .int .i64 x209001_2, .int .i64 x209002_2, .int .i64 x209003_2, .string x209004_2, (.slice none 0 0)] 38 (0, 0))) ∧ Aside0 (w'.heap[gb211]? = some (.cells #[.int .i64 a1_0, .int .i64 a1_1, .int .i64 a2, .int .i64 x212003_2, .string x212004_2, u212005] 38 (0, 0))) ∧ Aside0 (Below w.heap.size w w'))
    case atStart => exact ⟨(t210), ((⟨#[]⟩ : ByteArray)), ((⟨#[]⟩ : ByteArray)), (0), (0), (0), (0), (0), ((⟨#[]⟩ : ByteArray)), (0), (t210), (([] : List ByteArray)), (.slice none 0 0), (by first | rfl | (simp; done) | (simp [*]; done) | (simp; rfl)), (by first | rfl | (simp; done) | (simp [*]; done) | (simp; rfl)), (by first | rfl | (simp; done) | (simp [*]; done) | (simp; rfl)), (by first | rfl | (simp; done) | (simp [*]; done) | (simp; rfl)), H', ⟨Nat.le_refl _⟩, ⟨by first | exact Kd.R_nil _ _ _ _ _ | exact Kd.N_nil _ _ _ _ _ | exact Kd.V_nil _ _ _ _ _ | exact Kd.Q_nil _ _ _ _ _ | exact Kd.S_nil _ _ _ _ _⟩, ⟨by (with_reducible repeat (first | refine blk_drewN ?_ _ | refine blk_drew ?_ | refine blk_alloc ?_ _)); refine blk_far ?_ NB206_211.out _; (with_reducible repeat (first | refine blk_drewN ?_ _ | refine blk_drew ?_ | refine blk_alloc ?_ _)); refine blk_far ?_ NB206_211.out _; (with_reducible repeat (first | refine blk_drewN ?_ _ | refine blk_drew ?_ | refine blk_alloc ?_ _)); refine blk_far ?_ NB206_211.out _; (with_reducible repeat (first | refine blk_drewN ?_ _ | refine blk_drew ?_ | refine blk_alloc ?_ _)); refine blk_far ?_ NB206_211.out _; (with_reducible repeat (first | refine blk_drewN ?_ _ | refine blk_drew ?_ | refine blk_alloc ?_ _)); refine blk_far ?_ NB206_211.out _; (with_reducible repeat (first | refine blk_drewN ?_ _ | refine blk_drew ?_ | refine blk_alloc ?_ _)); refine blk_far ?_ NB206_211.out _; (with_reducible repeat (first | refine blk_drewN ?_ _ | refine blk_drew ?_ | refine blk_alloc ?_ _)); exact BK206.out⟩, ⟨by (with_reducible repeat (first | refine blk_drewN ?_ _ | refine blk_drew ?_ | refine blk_alloc ?_ _)); refine blk_far ?_ NB207_211.out _; (with_reducible repeat (first | refine blk_drewN ?_ _ | refine blk_drew ?_ | refine blk_alloc ?_ _)); refine blk_far ?_ NB207_211.out _; (with_reducible repeat (first | refine blk_drewN ?_ _ | refine blk_drew ?_ | refine blk_alloc ?_ _)); refine blk_far ?_ NB207_211.out _; (with_reducible repeat (first | refine blk_drewN ?_ _ | refine blk_drew ?_ | refine blk_alloc ?_ _)); refine blk_far ?_ NB207_211.out _; (with_reducible repeat (first | refine blk_drewN ?_ _ | refine blk_drew ?_ | refine blk_alloc ?_ _)); refine blk_far ?_ NB207_211.out _; (with_reducible repeat (first | refine blk_drewN ?_ _ | refine blk_drew ?_ | refine blk_alloc ?_ _)); refine blk_far ?_ NB207_211.out _; (with_reducible repeat (first | refine blk_drewN ?_ _ | refine blk_drew ?_ | refine blk_alloc ?_ _)); exact BK207.out⟩, ⟨by (with_reducible repeat (first | refine blk_drewN ?_ _ | refine blk_drew ?_ | refine blk_alloc ?_ _)); refine blk_far ?_ NB208_211.out _; (with_reducible repeat (first | refine blk_drewN ?_ _ | refine blk_drew ?_ | refine blk_alloc ?_ _)); refine blk_far ?_ NB208_211.out _; (with_reducible repeat (first | refine blk_drewN ?_ _ | refine blk_drew ?_ | refine blk_alloc ?_ _)); refine blk_far ?_ NB208_211.out _; (with_reducible repeat (first | refine blk_drewN ?_ _ | refine blk_drew ?_ | refine blk_alloc ?_ _)); refine blk_far ?_ NB208_211.out _; (with_reducible repeat (first | refine blk_drewN ?_ _ | refine blk_drew ?_ | refine blk_alloc ?_ _)); refine blk_far ?_ NB208_211.out _; (with_reducible repeat (first | refine blk_drewN ?_ _ | refine blk_drew ?_ | refine blk_alloc ?_ _)); refine blk_far ?_ NB208_211.out _; (with_reducible repeat (first | refine blk_drewN ?_ _ | refine blk_drew ?_ | refine blk_alloc ?_ _)); exact BK208.out⟩, ⟨by (with_reducible repeat (first | refine blk_drewN ?_ _ | refine blk_drew ?_ | refine blk_alloc ?_ _)); refine blk_put (cs := #[.int .i64 a1_0, .int .i64 a1_1, .int .i64 a2, .int .i64 0, .string t210, .slice none 0 0]) ?_ 5 _ rfl; (with_reducible repeat (first | refine blk_drewN ?_ _ | refine blk_drew ?_ | refine blk_alloc ?_ _)); refine blk_put (cs := #[.int .i64 a1_0, .int .i64 a1_1, .int .i64 a2, .int .i64 0, .string (⟨#[]⟩ : ByteArray), .slice none 0 0]) ?_ 4 _ rfl; (with_reducible repeat (first | refine blk_drewN ?_ _ | refine blk_drew ?_ | refine blk_alloc ?_ _)); refine blk_put (cs := #[.int .i64 a1_0, .int .i64 a1_1, .int .i64 a2, .int .i64 0, .string (⟨#[]⟩ : ByteArray), .slice none 0 0]) ?_ 3 _ rfl; (with_reducible repeat (first | refine blk_drewN ?_ _ | refine blk_drew ?_ | refine blk_alloc ?_ _)); refine blk_put (cs := #[.int .i64 a1_0, .int .i64 a1_1, .int .i64 0, .int .i64 0, .string (⟨#[]⟩ : ByteArray), .slice none 0 0]) ?_ 2 _ rfl; (with_reducible repeat (first | refine blk_drewN ?_ _ | refine blk_drew ?_ | refine blk_alloc ?_ _)); refine blk_put (cs := #[.int .i64 a1_0, .int .i64 0, .int .i64 0, .int .i64 0, .string (⟨#[]⟩ : ByteArray), .slice none 0 0]) ?_ 1 _ rfl; (with_reducible repeat (first | refine blk_drewN ?_ _ | refine blk_drew ?_ | refine blk_alloc ?_ _)); refine blk_put (cs := #[.int .i64 0, .int .i64 0, .int .i64 0, .int .i64 0, .string (⟨#[]⟩ : ByteArray), .slice none 0 0]) ?_ 0 _ rfl; (with_reducible repeat (first | refine blk_drewN ?_ _ | refine blk_drew ?_ | refine blk_alloc ?_ _)); exact BK211.out⟩, ⟨by repeat (first | (with_reducible first | exact HB.out | apply below_alloc | apply pw_below_drewN | apply below_drew1 | refine below_set ?_ GE206.out | refine below_set ?_ GE207.out | refine below_set ?_ GE208.out | refine below_set ?_ GE211.out) | exact HB.out)⟩⟩
    case round =>
     clear H'
     try clear c1
     try clear c2
     try clear p2
     try clear c3
     try clear c4
     try clear c5
     try clear c9
     try clear c10
     try clear c10b0
     try clear c10b2
     try clear c11
     try clear c12
     try clear c14
     try clear c17
     try clear c18
     try clear c20
     try clear c23
     try clear c24
     try clear c26
     try clear c29
     try clear c30
     try clear c31
     try clear c34
     try clear c44
     try clear c45
     try clear c46
     try clear hcz13_0
     try clear hcz13_1
     try clear hcz15_0
     try clear hcz15_1
     try clear hcz19_0
     try clear hcz19_1
     try clear hcz21_0
     try clear hcz21_1
     try clear hcz25_0
     try clear hcz25_1
     try clear hcz27_0
     try clear hcz27_1
     try clear hcz32_0
     try clear hcz32_1
     try clear hcz32_2
     try clear hcz32_3
     try clear hcz32_4
     try clear hcz32_5
     try clear hcz47_0
     try clear hcz47_1
     try clear hcz47_2
     try clear hcz47_3
     try clear hcz47_4
     try clear hcz47_5
     try clear hfz13_0
     try clear hfz13_1
     try clear hfz15_0
     try clear hfz15_1
     try clear hfz19_0
     try clear hfz19_1
     try clear hfz21_0
     try clear hfz21_1
     try clear hfz25_0
     try clear hfz25_1
     try clear hfz27_0
     try clear hfz27_1
     try clear hfz32_0
     try clear hfz32_1
     try clear hfz32_2
     try clear hfz32_3
     try clear hfz32_4
     try clear hfz32_5
     try clear hfz47_0
     try clear hfz47_1
     try clear hfz47_2
     try clear hfz47_3
     try clear hfz47_4
     try clear hfz47_5
     try clear p2
     obtain ⟨x9_2, x10_2, x11_2, x12_2, x209000_2, x209001_2, x209002_2, x209003_2, x209004_2, x212003_2, x212004_2, x212005_2, u212005, rfl, rfl, rfl, rfl, HA, HK2, HO_212005, BK206, BK207, BK208, BK211, HB⟩ := hrel
     cases gk with
     | zero => exact absurd HA.out (by simp [modcertref51_Open.l0])
     | succ k2 =>
      have H := HA.out
      clear HA
      simp only [modcertref51_Open.l0] at H
      by_cases c48 : x12_2 < a1_1
      ·rw [if_pos c48] at H
       have c48b0 : decide (x12_2 < a1_1) = true := decide_eq_true c48
       clear c48
       replace H := Option.bind_eq_some_iff.mp H
       obtain ⟨⟨t212, t213, t214, t215, t216⟩, A490, H⟩ := H
       replace H : (if t216 = true then (if x10_2.toList = ([] : List UInt8) then (modcertref51_Open.j2 k2 a2 x10_2 t214 x12_2 l0_0 l0_1 a1_0 a1_1 a1_0 a1_1 a2 x212003_2 x212004_2 x212005_2 t212 t213 t214 t215 t216) else (modcertref51_Open.j2 k2 a2 x10_2 x11_2 x12_2 l0_0 l0_1 a1_0 a1_1 a1_0 a1_1 a2 x212003_2 x212004_2 x212005_2 t212 t213 t214 t215 t216)) else (some (a1_0, a1_1, a2, x212003_2, x212004_2, x212005_2, 0))) = some (r1, r2, r3, r4, r5, r6, r7) := H
       have A49 := Aside0.mk A490
       clear A490
       by_cases c50 : t216 = true
       ·subst c50
        have H1 : (if x10_2.toList = ([] : List UInt8) then (modcertref51_Open.j2 k2 a2 x10_2 t214 x12_2 l0_0 l0_1 a1_0 a1_1 a1_0 a1_1 a2 x212003_2 x212004_2 x212005_2 t212 t213 t214 t215 true) else (modcertref51_Open.j2 k2 a2 x10_2 x11_2 x12_2 l0_0 l0_1 a1_0 a1_1 a1_0 a1_1 a2 x212003_2 x212004_2 x212005_2 t212 t213 t214 t215 true)) = some (r1, r2, r3, r4, r5, r6, r7) := by rw [if_pos rfl] at H; exact H
        clear H
        have H := H1
        clear H1
        have HC51 := Aside0.mk H
        clear H
        have hnb52 := NB207_206.out
        have hnc52 := NB206_207.out
        have hnb53 := NB207_208.out
        have hnc53 := NB208_207.out
        have hnb54 := NB207_211.out
        have hnc54 := NB211_207.out
        have hcz55_0 : wr.cell? ⟨gb207, 0, none⟩ = some (.int .i64 a1_0) := (blk_cell BK207.out 0).trans rfl
        have hcz55_1 : wr.cell? ⟨gb207, 1, none⟩ = some (.int .i64 a1_1) := (blk_cell BK207.out 1).trans rfl
        have hfz55_0 := blk_frozen BK207.out 0
        have hfz55_1 := blk_frozen BK207.out 1
        have hnb56 := NB206_208.out
        have hnc56 := NB208_206.out
        have hnb57 := NB206_211.out
        have hnc57 := NB211_206.out
        have hcz58_0 : wr.cell? ⟨gb206, 0, none⟩ = some (.slice A0_0 l0_0.length c0_0) := (blk_cell BK206.out 0).trans rfl
        have hcz58_1 : wr.cell? ⟨gb206, 1, none⟩ = some (.slice A0_1 l0_1.length c0_1) := (blk_cell BK206.out 1).trans rfl
        have hfz58_0 := blk_frozen BK206.out 0
        have hfz58_1 := blk_frozen BK206.out 1
        go_upto_if 53 with (first | ((with_reducible refine gate_callee (f := 52) rfl ?_); refine goesL_ (some 47) rfl rfl Tryd.func52 (by kernel_rfl) rfl #[.agg #[.slice A0_0 l0_0.length c0_0, .slice A0_1 l0_1.length c0_1], .int .i64 (wrap64 (a1_0 + x12_2)), .string x9_2, .int .i64 a2] rfl (by (try simp only [List.map_toArray, List.map_cons, List.map_nil]); first | done | rfl | (simp only [List.length_drop, List.length_take]; rfl)) ?_; (with_reducible refine (modcertref51_read.calls k2 _ _ l0_0 _ _ l0_1 (wrap64 (a1_0 + x12_2)) x9_2 a2 t212 t213 t214 t215 true _ ?side1 ?side2 ?side3 ?side4 A49.out).mono ?_); (case side1 => repeat (first | exact (Kd.C_below HR0_0.out HB.out) | (with_reducible refine Kd.C_alloc ?_ _) | (with_reducible refine Kd.C_drewN ?_ _) | (with_reducible refine Kd.C_drew ?_))); (case side2 => exact HC0_0.out); (case side3 => repeat (first | exact (Kd.C_below HR0_1.out HB.out) | (with_reducible refine Kd.C_alloc ?_ _) | (with_reducible refine Kd.C_drewN ?_ _) | (with_reducible refine Kd.C_drew ?_))); (case side4 => exact HC0_1.out); rintro e w59 ⟨rfl, hb⟩; refine ⟨_, rfl, ?_⟩; have n0_ := Aside0.mk (Kd.R_below (by (with_reducible repeat (first | apply Kd.R_alloc | apply Kd.R_drewN | apply Kd.R_drew)); exact HO_212005.out) hb); have n1_ := Aside0.mk (blk_below (g := gb206) (o := .cells #[.slice A0_0 l0_0.length c0_0, .slice A0_1 l0_1.length c0_1] 29 (0, 0)) (by (with_reducible repeat (first | refine blk_drewN ?_ _ | refine blk_drew ?_ | refine blk_alloc ?_ _)); exact BK206.out) hb); have n2_ := Aside0.mk (blk_below (g := gb207) (o := .cells #[.int .i64 a1_0, .int .i64 a1_1] 24 (0, 0)) (by (with_reducible repeat (first | refine blk_drewN ?_ _ | refine blk_drew ?_ | refine blk_alloc ?_ _)); exact BK207.out) hb); have n3_ := Aside0.mk (blk_below (g := gb208) (o := .cells #[.int .i64 x209000_2, .int .i64 x209001_2, .int .i64 x209002_2, .int .i64 x209003_2, .string x209004_2, .slice none 0 0] 38 (0, 0)) (by (with_reducible repeat (first | refine blk_drewN ?_ _ | refine blk_drew ?_ | refine blk_alloc ?_ _)); exact BK208.out) hb); have n4_ := Aside0.mk (blk_below (g := gb211) (o := .cells #[.int .i64 a1_0, .int .i64 a1_1, .int .i64 a2, .int .i64 x212003_2, .string x212004_2, u212005] 38 (0, 0)) (by (with_reducible repeat (first | refine blk_drewN ?_ _ | refine blk_drew ?_ | refine blk_alloc ?_ _)); exact BK211.out) hb); have n5_ := Aside0.mk (below_step (by repeat (first | (with_reducible first | exact HB.out | apply below_alloc | apply pw_below_drewN | apply below_drew1 | refine below_set ?_ GE206.out | refine below_set ?_ GE207.out | refine below_set ?_ GE208.out | refine below_set ?_ GE211.out) | exact HB.out)) hb); clear HO_212005; clear BK206; clear BK207; clear BK208; clear BK211; clear HB; have HO_212005 := n0_; have BK206 := n1_; have BK207 := n2_; have BK208 := n3_; have BK211 := n4_; have HB := n5_; clear n0_ n1_ n2_ n3_ n4_ n5_; (try clear hb); (try clear hb2); (try clear hk); (try clear hi)) | ((with_reducible refine gate_dst (N := 13) rfl ?_); refine box_event ?hg (N := 13) ?hd (cs := #[.string (⟨#[]⟩ : ByteArray), .bool false, .string (⟨#[]⟩ : ByteArray), .string (⟨#[]⟩ : ByteArray), .bool false]) (t := 114) ?hr ?_; (case hd => rfl); (case hg => rfl); (case hr => first | (go_simp; done) | (go_simp; rfl)); intro gb217 hg w60 hbox hb; have n0_ := Aside0.mk (Kd.R_below (by (with_reducible repeat (first | apply Kd.R_alloc | apply Kd.R_drewN | apply Kd.R_drew)); exact HO_212005.out) hb); have n1_ := Aside0.mk (blk_below (g := gb206) (o := .cells #[.slice A0_0 l0_0.length c0_0, .slice A0_1 l0_1.length c0_1] 29 (0, 0)) (by (with_reducible repeat (first | refine blk_drewN ?_ _ | refine blk_drew ?_ | refine blk_alloc ?_ _)); exact BK206.out) hb); have n2_ := Aside0.mk (blk_below (g := gb207) (o := .cells #[.int .i64 a1_0, .int .i64 a1_1] 24 (0, 0)) (by (with_reducible repeat (first | refine blk_drewN ?_ _ | refine blk_drew ?_ | refine blk_alloc ?_ _)); exact BK207.out) hb); have n3_ := Aside0.mk (blk_below (g := gb208) (o := .cells #[.int .i64 x209000_2, .int .i64 x209001_2, .int .i64 x209002_2, .int .i64 x209003_2, .string x209004_2, .slice none 0 0] 38 (0, 0)) (by (with_reducible repeat (first | refine blk_drewN ?_ _ | refine blk_drew ?_ | refine blk_alloc ?_ _)); exact BK208.out) hb); have n4_ := Aside0.mk (blk_below (g := gb211) (o := .cells #[.int .i64 a1_0, .int .i64 a1_1, .int .i64 a2, .int .i64 x212003_2, .string x212004_2, u212005] 38 (0, 0)) (by (with_reducible repeat (first | refine blk_drewN ?_ _ | refine blk_drew ?_ | refine blk_alloc ?_ _)); exact BK211.out) hb); have n5_ := Aside0.mk (below_step (by repeat (first | (with_reducible first | exact HB.out | apply below_alloc | apply pw_below_drewN | apply below_drew1 | refine below_set ?_ GE206.out | refine below_set ?_ GE207.out | refine below_set ?_ GE208.out | refine below_set ?_ GE211.out) | exact HB.out)) hb); have n6_ := Aside0.mk (hbox); have n7_ := Aside0.mk ((by rw [hg]; exact (below_size (by repeat (first | (with_reducible first | exact HB.out | apply below_alloc | apply pw_below_drewN | apply below_drew1 | refine below_set ?_ GE206.out | refine below_set ?_ GE207.out | refine below_set ?_ GE208.out | refine below_set ?_ GE211.out) | exact HB.out))) : w.heap.size ≤ gb217)); have n8_ := Aside0.mk ((by rw [hg]; exact (below_size (by repeat (first | (with_reducible first | exact HB.out | apply below_alloc | apply pw_below_drewN | apply below_drew1 | refine below_set ?_ GE206.out | refine below_set ?_ GE207.out | refine below_set ?_ GE208.out | refine below_set ?_ GE211.out) | exact HB.out))) : w.heap.size ≤ gb217)); have n9_ := Aside0.mk ((by rw [hg]; exact Nat.ne_of_lt (blk_lt (g := gb206) (o := .cells #[.slice A0_0 l0_0.length c0_0, .slice A0_1 l0_1.length c0_1] 29 (0, 0)) (by (with_reducible repeat (first | refine blk_drewN ?_ _ | refine blk_drew ?_ | refine blk_alloc ?_ _)); exact BK206.out)) : gb206 ≠ gb217)); have n10_ := Aside0.mk ((by rw [hg]; exact Nat.ne_of_gt (blk_lt (g := gb206) (o := .cells #[.slice A0_0 l0_0.length c0_0, .slice A0_1 l0_1.length c0_1] 29 (0, 0)) (by (with_reducible repeat (first | refine blk_drewN ?_ _ | refine blk_drew ?_ | refine blk_alloc ?_ _)); exact BK206.out)) : gb217 ≠ gb206)); have n11_ := Aside0.mk ((by rw [hg]; exact Nat.ne_of_lt (blk_lt (g := gb207) (o := .cells #[.int .i64 a1_0, .int .i64 a1_1] 24 (0, 0)) (by (with_reducible repeat (first | refine blk_drewN ?_ _ | refine blk_drew ?_ | refine blk_alloc ?_ _)); exact BK207.out)) : gb207 ≠ gb217)); have n12_ := Aside0.mk ((by rw [hg]; exact Nat.ne_of_gt (blk_lt (g := gb207) (o := .cells #[.int .i64 a1_0, .int .i64 a1_1] 24 (0, 0)) (by (with_reducible repeat (first | refine blk_drewN ?_ _ | refine blk_drew ?_ | refine blk_alloc ?_ _)); exact BK207.out)) : gb217 ≠ gb207)); have n13_ := Aside0.mk ((by rw [hg]; exact Nat.ne_of_lt (blk_lt (g := gb208) (o := .cells #[.int .i64 x209000_2, .int .i64 x209001_2, .int .i64 x209002_2, .int .i64 x209003_2, .string x209004_2, .slice none 0 0] 38 (0, 0)) (by (with_reducible repeat (first | refine blk_drewN ?_ _ | refine blk_drew ?_ | refine blk_alloc ?_ _)); exact BK208.out)) : gb208 ≠ gb217)); have n14_ := Aside0.mk ((by rw [hg]; exact Nat.ne_of_gt (blk_lt (g := gb208) (o := .cells #[.int .i64 x209000_2, .int .i64 x209001_2, .int .i64 x209002_2, .int .i64 x209003_2, .string x209004_2, .slice none 0 0] 38 (0, 0)) (by (with_reducible repeat (first | refine blk_drewN ?_ _ | refine blk_drew ?_ | refine blk_alloc ?_ _)); exact BK208.out)) : gb217 ≠ gb208)); have n15_ := Aside0.mk ((by rw [hg]; exact Nat.ne_of_lt (blk_lt (g := gb211) (o := .cells #[.int .i64 a1_0, .int .i64 a1_1, .int .i64 a2, .int .i64 x212003_2, .string x212004_2, u212005] 38 (0, 0)) (by (with_reducible repeat (first | refine blk_drewN ?_ _ | refine blk_drew ?_ | refine blk_alloc ?_ _)); exact BK211.out)) : gb211 ≠ gb217)); have n16_ := Aside0.mk ((by rw [hg]; exact Nat.ne_of_gt (blk_lt (g := gb211) (o := .cells #[.int .i64 a1_0, .int .i64 a1_1, .int .i64 a2, .int .i64 x212003_2, .string x212004_2, u212005] 38 (0, 0)) (by (with_reducible repeat (first | refine blk_drewN ?_ _ | refine blk_drew ?_ | refine blk_alloc ?_ _)); exact BK211.out)) : gb217 ≠ gb211)); clear HO_212005; clear BK206; clear BK207; clear BK208; clear BK211; clear HB; have HO_212005 := n0_; have BK206 := n1_; have BK207 := n2_; have BK208 := n3_; have BK211 := n4_; have HB := n5_; have BK217 := n6_; have GW217 := n7_; have GE217 := n8_; have NB206_217 := n9_; have NB217_206 := n10_; have NB207_217 := n11_; have NB217_207 := n12_; have NB208_217 := n13_; have NB217_208 := n14_; have NB211_217 := n15_; have NB217_211 := n16_; clear n0_ n1_ n2_ n3_ n4_ n5_ n6_ n7_ n8_ n9_ n10_ n11_ n12_ n13_ n14_ n15_ n16_; clear hb hbox hg; have hnb61 := NB217_206.out; have hnc61 := NB206_217.out; have hnb62 := NB217_207.out; have hnc62 := NB207_217.out; have hnb63 := NB217_208.out; have hnc63 := NB208_217.out; have hnb64 := NB217_211.out; have hnc64 := NB211_217.out; have hcz65_0 : w60.cell? ⟨gb217, 0, none⟩ = some (.string (⟨#[]⟩ : ByteArray)) := (blk_cell BK217.out 0).trans rfl; have hcz65_1 : w60.cell? ⟨gb217, 1, none⟩ = some (.bool false) := (blk_cell BK217.out 1).trans rfl; have hcz65_2 : w60.cell? ⟨gb217, 2, none⟩ = some (.string (⟨#[]⟩ : ByteArray)) := (blk_cell BK217.out 2).trans rfl; have hcz65_3 : w60.cell? ⟨gb217, 3, none⟩ = some (.string (⟨#[]⟩ : ByteArray)) := (blk_cell BK217.out 3).trans rfl; have hcz65_4 : w60.cell? ⟨gb217, 4, none⟩ = some (.bool false) := (blk_cell BK217.out 4).trans rfl; have hfz65_0 := blk_frozen BK217.out 0; have hfz65_1 := blk_frozen BK217.out 1; have hfz65_2 := blk_frozen BK217.out 2; have hfz65_3 := blk_frozen BK217.out 3; have hfz65_4 := blk_frozen BK217.out 4))
        (try simp only [Act.put, List.setIfInBounds_toArray, List.set_cons_zero, List.set_cons_succ])
        go_cut [11] (fun v11 wc => ∃ (kq : Nat) (x11_50 : ByteArray), v11 = .string x11_50 ∧ Aside0 (modcertref51_Open.j2 kq a2 x10_2 x11_50 x12_2 l0_0 l0_1 a1_0 a1_1 a1_0 a1_1 a2 x212003_2 x212004_2 x212005_2 t212 t213 t214 t215 true = some (r1, r2, r3, r4, r5, r6, r7)) ∧ Aside0 (kq ≤ k2) ∧ Aside0 (Kd.R Kd.string 9 wc w.heap.size (fun _ => True) u212005 x212005_2) ∧ Aside0 (wc.heap[gb206]? = some (.cells #[(.slice A0_0 l0_0.length c0_0), (.slice A0_1 l0_1.length c0_1)] 29 (0, 0))) ∧ Aside0 (wc.heap[gb207]? = some (.cells #[.int .i64 a1_0, .int .i64 a1_1] 24 (0, 0))) ∧ Aside0 (wc.heap[gb208]? = some (.cells #[.int .i64 x209000_2, .int .i64 x209001_2, .int .i64 x209002_2, .int .i64 x209003_2, .string x209004_2, (.slice none 0 0)] 38 (0, 0))) ∧ Aside0 (wc.heap[gb211]? = some (.cells #[.int .i64 a1_0, .int .i64 a1_1, .int .i64 a2, .int .i64 x212003_2, .string x212004_2, u212005] 38 (0, 0))) ∧ Aside0 (wc.heap[gb217]? = some (.cells #[.string t212, .bool t213, .string t214, .string t215, .bool true] 114 (0, 0))) ∧ Aside0 (Below w.heap.size w wc))
        case first =>
         have H := HC51.out
         clear HC51
         by_cases c66 : x10_2.toList = ([] : List UInt8)
         ·rw [if_pos c66] at H
          have c66b0 : (x10_2.toList == ([] : List UInt8)) = true := beq_iff_eq.mpr c66
          have c66b1 : (x10_2.toList != ([] : List UInt8)) = false := bne_eq_false_iff_eq.mpr c66
          (try (have c66b2 : x10_2.toList.isEmpty = true := by simpa using c66))
          clear c66
          (first | rw [c66b0] | (simp only [i64_w, i32_w]; rw [c66b0]) | rw [c66b2] | skip)
          have H' := Aside0.mk H
          clear H
          have hnb67 := NB217_206.out
          have hnc67 := NB206_217.out
          have hnb68 := NB217_207.out
          have hnc68 := NB207_217.out
          have hnb69 := NB217_208.out
          have hnc69 := NB208_217.out
          have hnb70 := NB217_211.out
          have hnc70 := NB211_217.out
          have hcz71_0 : w60.cell? ⟨gb217, 0, none⟩ = some (.string (⟨#[]⟩ : ByteArray)) := (blk_cell BK217.out 0).trans rfl
          have hcz71_1 : w60.cell? ⟨gb217, 1, none⟩ = some (.bool false) := (blk_cell BK217.out 1).trans rfl
          have hcz71_2 : w60.cell? ⟨gb217, 2, none⟩ = some (.string (⟨#[]⟩ : ByteArray)) := (blk_cell BK217.out 2).trans rfl
          have hcz71_3 : w60.cell? ⟨gb217, 3, none⟩ = some (.string (⟨#[]⟩ : ByteArray)) := (blk_cell BK217.out 3).trans rfl
          have hcz71_4 : w60.cell? ⟨gb217, 4, none⟩ = some (.bool false) := (blk_cell BK217.out 4).trans rfl
          have hfz71_0 := blk_frozen BK217.out 0
          have hfz71_1 := blk_frozen BK217.out 1
          have hfz71_2 := blk_frozen BK217.out 2
          have hfz71_3 := blk_frozen BK217.out 3
          have hfz71_4 := blk_frozen BK217.out 4
          go_wp2
          go_meet
          case rel => exact ⟨_, (t214), (by first | rfl | (simp; done) | (simp [*]; done) | (simp; rfl)), H', ⟨by have := HJ3.out; have := HK2.out; first | omega | exact Nat.le_refl _⟩, ⟨by (with_reducible repeat (first | apply Kd.R_alloc | apply Kd.R_drewN | apply Kd.R_drew)); exact Kd.R_mono (Kd.R_far (p := ⟨gb217, 4, none⟩) (Kd.R_far (p := ⟨gb217, 3, none⟩) (Kd.R_far (p := ⟨gb217, 2, none⟩) (Kd.R_far (p := ⟨gb217, 1, none⟩) (Kd.R_far (p := ⟨gb217, 0, none⟩) (Kd.R_types HO_212005.out BK217.out (by decide)) (fun _ hk => hk.2) (.string t212)) (fun _ hk => hk.2) (.bool t213)) (fun _ hk => hk.2) (.string t214)) (fun _ hk => hk.2) (.string t215)) (fun _ hk => hk.2) (.bool true)) (fun _ hk => trivial)⟩, ⟨by (with_reducible repeat (first | refine blk_drewN ?_ _ | refine blk_drew ?_ | refine blk_alloc ?_ _)); refine blk_far ?_ NB206_217.out _; (with_reducible repeat (first | refine blk_drewN ?_ _ | refine blk_drew ?_ | refine blk_alloc ?_ _)); refine blk_far ?_ NB206_217.out _; (with_reducible repeat (first | refine blk_drewN ?_ _ | refine blk_drew ?_ | refine blk_alloc ?_ _)); refine blk_far ?_ NB206_217.out _; (with_reducible repeat (first | refine blk_drewN ?_ _ | refine blk_drew ?_ | refine blk_alloc ?_ _)); refine blk_far ?_ NB206_217.out _; (with_reducible repeat (first | refine blk_drewN ?_ _ | refine blk_drew ?_ | refine blk_alloc ?_ _)); refine blk_far ?_ NB206_217.out _; (with_reducible repeat (first | refine blk_drewN ?_ _ | refine blk_drew ?_ | refine blk_alloc ?_ _)); exact BK206.out⟩, ⟨by (with_reducible repeat (first | refine blk_drewN ?_ _ | refine blk_drew ?_ | refine blk_alloc ?_ _)); refine blk_far ?_ NB207_217.out _; (with_reducible repeat (first | refine blk_drewN ?_ _ | refine blk_drew ?_ | refine blk_alloc ?_ _)); refine blk_far ?_ NB207_217.out _; (with_reducible repeat (first | refine blk_drewN ?_ _ | refine blk_drew ?_ | refine blk_alloc ?_ _)); refine blk_far ?_ NB207_217.out _; (with_reducible repeat (first | refine blk_drewN ?_ _ | refine blk_drew ?_ | refine blk_alloc ?_ _)); refine blk_far ?_ NB207_217.out _; (with_reducible repeat (first | refine blk_drewN ?_ _ | refine blk_drew ?_ | refine blk_alloc ?_ _)); refine blk_far ?_ NB207_217.out _; (with_reducible repeat (first | refine blk_drewN ?_ _ | refine blk_drew ?_ | refine blk_alloc ?_ _)); exact BK207.out⟩, ⟨by (with_reducible repeat (first | refine blk_drewN ?_ _ | refine blk_drew ?_ | refine blk_alloc ?_ _)); refine blk_far ?_ NB208_217.out _; (with_reducible repeat (first | refine blk_drewN ?_ _ | refine blk_drew ?_ | refine blk_alloc ?_ _)); refine blk_far ?_ NB208_217.out _; (with_reducible repeat (first | refine blk_drewN ?_ _ | refine blk_drew ?_ | refine blk_alloc ?_ _)); refine blk_far ?_ NB208_217.out _; (with_reducible repeat (first | refine blk_drewN ?_ _ | refine blk_drew ?_ | refine blk_alloc ?_ _)); refine blk_far ?_ NB208_217.out _; (with_reducible repeat (first | refine blk_drewN ?_ _ | refine blk_drew ?_ | refine blk_alloc ?_ _)); refine blk_far ?_ NB208_217.out _; (with_reducible repeat (first | refine blk_drewN ?_ _ | refine blk_drew ?_ | refine blk_alloc ?_ _)); exact BK208.out⟩, ⟨by (with_reducible repeat (first | refine blk_drewN ?_ _ | refine blk_drew ?_ | refine blk_alloc ?_ _)); refine blk_far ?_ NB211_217.out _; (with_reducible repeat (first | refine blk_drewN ?_ _ | refine blk_drew ?_ | refine blk_alloc ?_ _)); refine blk_far ?_ NB211_217.out _; (with_reducible repeat (first | refine blk_drewN ?_ _ | refine blk_drew ?_ | refine blk_alloc ?_ _)); refine blk_far ?_ NB211_217.out _; (with_reducible repeat (first | refine blk_drewN ?_ _ | refine blk_drew ?_ | refine blk_alloc ?_ _)); refine blk_far ?_ NB211_217.out _; (with_reducible repeat (first | refine blk_drewN ?_ _ | refine blk_drew ?_ | refine blk_alloc ?_ _)); refine blk_far ?_ NB211_217.out _; (with_reducible repeat (first | refine blk_drewN ?_ _ | refine blk_drew ?_ | refine blk_alloc ?_ _)); exact BK211.out⟩, ⟨by (with_reducible repeat (first | refine blk_drewN ?_ _ | refine blk_drew ?_ | refine blk_alloc ?_ _)); refine blk_put (cs := #[.string t212, .bool t213, .string t214, .string t215, .bool false]) ?_ 4 _ rfl; (with_reducible repeat (first | refine blk_drewN ?_ _ | refine blk_drew ?_ | refine blk_alloc ?_ _)); refine blk_put (cs := #[.string t212, .bool t213, .string t214, .string (⟨#[]⟩ : ByteArray), .bool false]) ?_ 3 _ rfl; (with_reducible repeat (first | refine blk_drewN ?_ _ | refine blk_drew ?_ | refine blk_alloc ?_ _)); refine blk_put (cs := #[.string t212, .bool t213, .string (⟨#[]⟩ : ByteArray), .string (⟨#[]⟩ : ByteArray), .bool false]) ?_ 2 _ rfl; (with_reducible repeat (first | refine blk_drewN ?_ _ | refine blk_drew ?_ | refine blk_alloc ?_ _)); refine blk_put (cs := #[.string t212, .bool false, .string (⟨#[]⟩ : ByteArray), .string (⟨#[]⟩ : ByteArray), .bool false]) ?_ 1 _ rfl; (with_reducible repeat (first | refine blk_drewN ?_ _ | refine blk_drew ?_ | refine blk_alloc ?_ _)); refine blk_put (cs := #[.string (⟨#[]⟩ : ByteArray), .bool false, .string (⟨#[]⟩ : ByteArray), .string (⟨#[]⟩ : ByteArray), .bool false]) ?_ 0 _ rfl; (with_reducible repeat (first | refine blk_drewN ?_ _ | refine blk_drew ?_ | refine blk_alloc ?_ _)); exact BK217.out⟩, ⟨by repeat (first | (with_reducible first | exact HB.out | apply below_alloc | apply pw_below_drewN | apply below_drew1 | refine below_set ?_ GE206.out | refine below_set ?_ GE207.out | refine below_set ?_ GE208.out | refine below_set ?_ GE211.out | refine below_set ?_ GE217.out) | exact HB.out)⟩⟩
         ·rw [if_neg c66] at H
          have c66b0 : (x10_2.toList == ([] : List UInt8)) = false := beq_eq_false_iff_ne.mpr c66
          have c66b1 : (x10_2.toList != ([] : List UInt8)) = true := bne_iff_ne.mpr c66
          (try (have c66b2 : x10_2.toList.isEmpty = false := by simpa using c66))
          (first | rw [c66b0] | (simp only [i64_w, i32_w]; rw [c66b0]) | rw [c66b2] | skip)
          have H' := Aside0.mk H
          clear H
          go_wp2
          go_meet
          case rel => exact ⟨_, (x11_2), (by first | rfl | (simp; done) | (simp [*]; done) | (simp; rfl)), H', ⟨by have := HJ3.out; have := HK2.out; first | omega | exact Nat.le_refl _⟩, ⟨by (with_reducible repeat (first | apply Kd.R_alloc | apply Kd.R_drewN | apply Kd.R_drew)); exact Kd.R_mono (Kd.R_far (p := ⟨gb217, 4, none⟩) (Kd.R_far (p := ⟨gb217, 3, none⟩) (Kd.R_far (p := ⟨gb217, 2, none⟩) (Kd.R_far (p := ⟨gb217, 1, none⟩) (Kd.R_far (p := ⟨gb217, 0, none⟩) (Kd.R_types HO_212005.out BK217.out (by decide)) (fun _ hk => hk.2) (.string t212)) (fun _ hk => hk.2) (.bool t213)) (fun _ hk => hk.2) (.string t214)) (fun _ hk => hk.2) (.string t215)) (fun _ hk => hk.2) (.bool true)) (fun _ hk => trivial)⟩, ⟨by (with_reducible repeat (first | refine blk_drewN ?_ _ | refine blk_drew ?_ | refine blk_alloc ?_ _)); refine blk_far ?_ NB206_217.out _; (with_reducible repeat (first | refine blk_drewN ?_ _ | refine blk_drew ?_ | refine blk_alloc ?_ _)); refine blk_far ?_ NB206_217.out _; (with_reducible repeat (first | refine blk_drewN ?_ _ | refine blk_drew ?_ | refine blk_alloc ?_ _)); refine blk_far ?_ NB206_217.out _; (with_reducible repeat (first | refine blk_drewN ?_ _ | refine blk_drew ?_ | refine blk_alloc ?_ _)); refine blk_far ?_ NB206_217.out _; (with_reducible repeat (first | refine blk_drewN ?_ _ | refine blk_drew ?_ | refine blk_alloc ?_ _)); refine blk_far ?_ NB206_217.out _; (with_reducible repeat (first | refine blk_drewN ?_ _ | refine blk_drew ?_ | refine blk_alloc ?_ _)); exact BK206.out⟩, ⟨by (with_reducible repeat (first | refine blk_drewN ?_ _ | refine blk_drew ?_ | refine blk_alloc ?_ _)); refine blk_far ?_ NB207_217.out _; (with_reducible repeat (first | refine blk_drewN ?_ _ | refine blk_drew ?_ | refine blk_alloc ?_ _)); refine blk_far ?_ NB207_217.out _; (with_reducible repeat (first | refine blk_drewN ?_ _ | refine blk_drew ?_ | refine blk_alloc ?_ _)); refine blk_far ?_ NB207_217.out _; (with_reducible repeat (first | refine blk_drewN ?_ _ | refine blk_drew ?_ | refine blk_alloc ?_ _)); refine blk_far ?_ NB207_217.out _; (with_reducible repeat (first | refine blk_drewN ?_ _ | refine blk_drew ?_ | refine blk_alloc ?_ _)); refine blk_far ?_ NB207_217.out _; (with_reducible repeat (first | refine blk_drewN ?_ _ | refine blk_drew ?_ | refine blk_alloc ?_ _)); exact BK207.out⟩, ⟨by (with_reducible repeat (first | refine blk_drewN ?_ _ | refine blk_drew ?_ | refine blk_alloc ?_ _)); refine blk_far ?_ NB208_217.out _; (with_reducible repeat (first | refine blk_drewN ?_ _ | refine blk_drew ?_ | refine blk_alloc ?_ _)); refine blk_far ?_ NB208_217.out _; (with_reducible repeat (first | refine blk_drewN ?_ _ | refine blk_drew ?_ | refine blk_alloc ?_ _)); refine blk_far ?_ NB208_217.out _; (with_reducible repeat (first | refine blk_drewN ?_ _ | refine blk_drew ?_ | refine blk_alloc ?_ _)); refine blk_far ?_ NB208_217.out _; (with_reducible repeat (first | refine blk_drewN ?_ _ | refine blk_drew ?_ | refine blk_alloc ?_ _)); refine blk_far ?_ NB208_217.out _; (with_reducible repeat (first | refine blk_drewN ?_ _ | refine blk_drew ?_ | refine blk_alloc ?_ _)); exact BK208.out⟩, ⟨by (with_reducible repeat (first | refine blk_drewN ?_ _ | refine blk_drew ?_ | refine blk_alloc ?_ _)); refine blk_far ?_ NB211_217.out _; (with_reducible repeat (first | refine blk_drewN ?_ _ | refine blk_drew ?_ | refine blk_alloc ?_ _)); refine blk_far ?_ NB211_217.out _; (with_reducible repeat (first | refine blk_drewN ?_ _ | refine blk_drew ?_ | refine blk_alloc ?_ _)); refine blk_far ?_ NB211_217.out _; (with_reducible repeat (first | refine blk_drewN ?_ _ | refine blk_drew ?_ | refine blk_alloc ?_ _)); refine blk_far ?_ NB211_217.out _; (with_reducible repeat (first | refine blk_drewN ?_ _ | refine blk_drew ?_ | refine blk_alloc ?_ _)); refine blk_far ?_ NB211_217.out _; (with_reducible repeat (first | refine blk_drewN ?_ _ | refine blk_drew ?_ | refine blk_alloc ?_ _)); exact BK211.out⟩, ⟨by (with_reducible repeat (first | refine blk_drewN ?_ _ | refine blk_drew ?_ | refine blk_alloc ?_ _)); refine blk_put (cs := #[.string t212, .bool t213, .string t214, .string t215, .bool false]) ?_ 4 _ rfl; (with_reducible repeat (first | refine blk_drewN ?_ _ | refine blk_drew ?_ | refine blk_alloc ?_ _)); refine blk_put (cs := #[.string t212, .bool t213, .string t214, .string (⟨#[]⟩ : ByteArray), .bool false]) ?_ 3 _ rfl; (with_reducible repeat (first | refine blk_drewN ?_ _ | refine blk_drew ?_ | refine blk_alloc ?_ _)); refine blk_put (cs := #[.string t212, .bool t213, .string (⟨#[]⟩ : ByteArray), .string (⟨#[]⟩ : ByteArray), .bool false]) ?_ 2 _ rfl; (with_reducible repeat (first | refine blk_drewN ?_ _ | refine blk_drew ?_ | refine blk_alloc ?_ _)); refine blk_put (cs := #[.string t212, .bool false, .string (⟨#[]⟩ : ByteArray), .string (⟨#[]⟩ : ByteArray), .bool false]) ?_ 1 _ rfl; (with_reducible repeat (first | refine blk_drewN ?_ _ | refine blk_drew ?_ | refine blk_alloc ?_ _)); refine blk_put (cs := #[.string (⟨#[]⟩ : ByteArray), .bool false, .string (⟨#[]⟩ : ByteArray), .string (⟨#[]⟩ : ByteArray), .bool false]) ?_ 0 _ rfl; (with_reducible repeat (first | refine blk_drewN ?_ _ | refine blk_drew ?_ | refine blk_alloc ?_ _)); exact BK217.out⟩, ⟨by repeat (first | (with_reducible first | exact HB.out | apply below_alloc | apply pw_below_drewN | apply below_drew1 | refine below_set ?_ GE206.out | refine below_set ?_ GE207.out | refine below_set ?_ GE208.out | refine below_set ?_ GE211.out | refine below_set ?_ GE217.out) | exact HB.out)⟩⟩
        case rest =>
         clear HC51
         try clear c1
         try clear c2
         try clear p2
         try clear c3
         try clear c4
         try clear c5
         try clear c6
         try clear p6
         try clear c7
         try clear c9
         try clear c10
         try clear c10b0
         try clear c10b2
         try clear c11
         try clear c12
         try clear c14
         try clear c17
         try clear c18
         try clear c20
         try clear c23
         try clear c24
         try clear c26
         try clear c29
         try clear c30
         try clear c31
         try clear c34
         try clear c44
         try clear c45
         try clear c46
         try clear c48
         try clear c48b0
         try clear c50
         try clear c51
         try clear c52
         try clear c53
         try clear c54
         try clear c56
         try clear c57
         try clear c61
         try clear c62
         try clear c63
         try clear c64
         try clear p64
         try clear c66
         try clear c66b0
         try clear c66b1
         try clear c66b2
         try clear c67
         try clear c68
         try clear c69
         try clear c70
         try clear hcz13_0
         try clear hcz13_1
         try clear hcz15_0
         try clear hcz15_1
         try clear hcz19_0
         try clear hcz19_1
         try clear hcz21_0
         try clear hcz21_1
         try clear hcz25_0
         try clear hcz25_1
         try clear hcz27_0
         try clear hcz27_1
         try clear hcz32_0
         try clear hcz32_1
         try clear hcz32_2
         try clear hcz32_3
         try clear hcz32_4
         try clear hcz32_5
         try clear hcz47_0
         try clear hcz47_1
         try clear hcz47_2
         try clear hcz47_3
         try clear hcz47_4
         try clear hcz47_5
         try clear hcz55_0
         try clear hcz55_1
         try clear hcz58_0
         try clear hcz58_1
         try clear hcz65_0
         try clear hcz65_1
         try clear hcz65_2
         try clear hcz65_3
         try clear hcz65_4
         try clear hcz71_0
         try clear hcz71_1
         try clear hcz71_2
         try clear hcz71_3
         try clear hcz71_4
         try clear hfz13_0
         try clear hfz13_1
         try clear hfz15_0
         try clear hfz15_1
         try clear hfz19_0
         try clear hfz19_1
         try clear hfz21_0
         try clear hfz21_1
         try clear hfz25_0
         try clear hfz25_1
         try clear hfz27_0
         try clear hfz27_1
         try clear hfz32_0
         try clear hfz32_1
         try clear hfz32_2
         try clear hfz32_3
         try clear hfz32_4
         try clear hfz32_5
         try clear hfz47_0
         try clear hfz47_1
         try clear hfz47_2
         try clear hfz47_3
         try clear hfz47_4
         try clear hfz47_5
         try clear hfz55_0
         try clear hfz55_1
         try clear hfz58_0
         try clear hfz58_1
         try clear hfz65_0
         try clear hfz65_1
         try clear hfz65_2
         try clear hfz65_3
         try clear hfz65_4
         try clear hfz71_0
         try clear hfz71_1
         try clear hfz71_2
         try clear hfz71_3
         try clear hfz71_4
         try clear p2
         obtain ⟨kq, x11_50, rfl, HA, HJ50, HO_212005, BK206, BK207, BK208, BK211, BK217, HB⟩ := hcut
         cases kq with
         | zero => exact absurd HA.out (by simp [modcertref51_Open.j2])
         | succ kj50 =>
          have H := HA.out
          clear HA
          simp only [modcertref51_Open.j2] at H
          by_cases c72 : x10_2.size + t215.size ≤ 9223372036854775807
          ·rw [if_pos c72] at H
           have c72b0 := eq_true c72
           have c72b1 : decide (x10_2.size + t215.size ≤ 9223372036854775807) = true := decide_eq_true c72
           try have c72b2 : (9223372036854775807 < x10_2.size + t215.size) = False := eq_false (Nat.not_lt.2 c72)
           try (have c72b3 := c72b2; simp only [ByteArray.size_append, ByteArray.size_extract, Nat.min_self, (show ∀ x : UInt8, (⟨#[x]⟩ : ByteArray).size = 1 from fun _ => rfl)] at c72b3)
           by_cases c73 : t214.toList = x11_50.toList
           ·rw [if_pos c73] at H
            have c73b0 : (t214.toList == x11_50.toList) = true := beq_iff_eq.mpr c73
            have c73b1 : (t214.toList != x11_50.toList) = false := bne_eq_false_iff_eq.mpr c73
            clear c73
            by_cases c74 : t213 = true
            ·subst c74
             have H1 : ((modcertref01_Sum.f (x10_2 ++ t215)).bind fun t218 => (if t218.toList = x11_50.toList then (if x212005_2.length < 8796093022208 then (modcertref51_Open.l0 kj50 a2 t212 (⟨#[]⟩ : ByteArray) x11_50 (wrap64 (x12_2 + 1)) l0_0 l0_1 a1_0 a1_1 a1_0 a1_1 a2 (wrap64 (x12_2 + 1)) t212 (x212005_2 ++ [x10_2 ++ t215])) else (none)) else (some (a1_0, a1_1, a2, x212003_2, x212004_2, x212005_2, 0)))) = some (r1, r2, r3, r4, r5, r6, r7) := by rw [if_pos rfl] at H; exact H
             clear H
             have H := H1
             clear H1
             replace H := Option.bind_eq_some_iff.mp H
             obtain ⟨t218, A750, H⟩ := H
             replace H : (if t218.toList = x11_50.toList then (if x212005_2.length < 8796093022208 then (modcertref51_Open.l0 kj50 a2 t212 (⟨#[]⟩ : ByteArray) x11_50 (wrap64 (x12_2 + 1)) l0_0 l0_1 a1_0 a1_1 a1_0 a1_1 a2 (wrap64 (x12_2 + 1)) t212 (x212005_2 ++ [x10_2 ++ t215])) else (none)) else (some (a1_0, a1_1, a2, x212003_2, x212004_2, x212005_2, 0))) = some (r1, r2, r3, r4, r5, r6, r7) := H
             have A75 := Aside0.mk A750
             clear A750
             by_cases c76 : t218.toList = x11_50.toList
             ·rw [if_pos c76] at H
              have c76b0 : (t218.toList == x11_50.toList) = true := beq_iff_eq.mpr c76
              have c76b1 : (t218.toList != x11_50.toList) = false := bne_eq_false_iff_eq.mpr c76
              clear c76
              by_cases c77 : x212005_2.length < 8796093022208
              ·rw [if_pos c77] at H
               have LMc77 := Aside0.mk c77
               clear c77
               obtain ⟨y219, hy219⟩ : ∃ y_ : List ByteArray, y_ = (x212005_2 ++ [x10_2 ++ t215]) := ⟨_, rfl⟩
               replace H : (modcertref51_Open.l0 kj50 a2 t212 (⟨#[]⟩ : ByteArray) x11_50 (wrap64 (x12_2 + 1)) l0_0 l0_1 a1_0 a1_1 a1_0 a1_1 a2 (wrap64 (x12_2 + 1)) t212 y219) = some (r1, r2, r3, r4, r5, r6, r7) := by first | (rw [hy219]; with_reducible exact H) | (have H2_ := (Option.bind_some _ _).symm.trans H; rw [hy219]; with_reducible exact H2_) | (have H2_ := (Option.bind_some _ _).symm.trans H; with_reducible exact H2_) | with_reducible exact H | (rw [hy219]; exact H) | exact H
               have Ny219 := Aside0.mk hy219
               clear hy219
               have H' := Aside0.mk H
               clear H
               try go_wp2
               have n0_ := Aside0.mk (Kd.R_drew HO_212005.out)
               have n1_ := Aside0.mk (blk_drew BK206.out)
               have n2_ := Aside0.mk (blk_drew BK207.out)
               have n3_ := Aside0.mk (blk_drew BK208.out)
               have n4_ := Aside0.mk (blk_drew BK211.out)
               have n5_ := Aside0.mk (blk_drew BK217.out)
               have n6_ := Aside0.mk (below_drew1 HB.out)
               clear HO_212005
               clear BK206
               clear BK207
               clear BK208
               clear BK211
               clear BK217
               clear HB
               have HO_212005 := n0_
               have BK206 := n1_
               have BK207 := n2_
               have BK208 := n3_
               have BK211 := n4_
               have BK217 := n5_
               have HB := n6_
               clear n0_ n1_ n2_ n3_ n4_ n5_ n6_
               refine start_ (n := 8) (S := fun w' => w'.cell? ⟨gb217, 0, none⟩ = some (.string t212) ∧ w'.cell? ⟨gb217, 1, none⟩ = some (.bool true) ∧ w'.cell? ⟨gb217, 2, none⟩ = some (.string t214) ∧ w'.cell? ⟨gb217, 3, none⟩ = some (.string t215) ∧ w'.cell? ⟨gb217, 4, none⟩ = some (.bool true)) (ds := []) #[Ff,Ff,Ff,Ff,Ff,Ff,Ff,Ff] (by kernel_rfl) rfl rfl ⟨(blk_cell BK217.out 0).trans rfl, (blk_cell BK217.out 1).trans rfl, (blk_cell BK217.out 2).trans rfl, (blk_cell BK217.out 3).trans rfl, (blk_cell BK217.out 4).trans rfl⟩ (fun hHeld => ?_); refine with_tabW modcertref51_Open.tab13 modcertref51_Open.bits13 (fun HT_ HW_ => ?_)
               generalize wc.drew = w78 at HO_212005 BK206 BK207 BK208 BK211 BK217 HB hHeld ⊢
               refine pure_ (i := 0) (N := some 56) (v := ?_) (a' := ?_) #[Tt,Ff,Ff,Ff,Ff,Ff,Ff,Ff] rfl rfl (any_of HT_.out (by kernel_rfl)) (fun _ _ _ h => h) (Or.inl ⟨by rfl, ?_⟩) ?_ ?_
               rotate_left
               ·intro w'
                go_simp
                with_reducible rfl
               rotate_left
               ·simp only [Act.put, List.setIfInBounds_toArray, List.set_cons_zero, List.set_cons_succ, i64_w, i32_w]
                rfl
               refine pure_ (i := 2) (N := some 58) (v := ?_) (a' := ?_) #[Tt,Ff,Tt,Ff,Ff,Ff,Ff,Ff] rfl rfl (any_of HT_.out (by kernel_rfl)) (fun _ _ _ h => h) (Or.inl ⟨by rfl, ?_⟩) ?_ ?_
               rotate_left
               ·intro w'
                go_simp
                with_reducible rfl
               rotate_left
               ·simp only [Act.put, List.setIfInBounds_toArray, List.set_cons_zero, List.set_cons_succ, i64_w, i32_w]
                rfl
               refine pure_ (i := 3) (N := some 59) (v := ?_) (a' := ?_) #[Tt,Ff,Tt,Tt,Ff,Ff,Ff,Ff] rfl rfl (any_of HT_.out (by kernel_rfl)) (fun _ _ _ h => h) (Or.inl ⟨by rfl, ?_⟩) ?_ ?_
               rotate_left
               ·intro w'
                go_simp
                with_reducible rfl
               rotate_left
               ·simp only [Act.put, List.setIfInBounds_toArray, List.set_cons_zero, List.set_cons_succ, i64_w, i32_w]
                rfl
               refine take_ (i := 1) (N := some 57) (v := ?_) (a' := ?_) #[Tt,Tt,Tt,Tt,Ff,Ff,Ff,Ff] rfl rfl (take_ofW HT_.out HW_.out (by kernel_rfl)) (fun _ _ _ h => h) (Or.inl ⟨by rfl, ?_⟩) hHeld ?_ ?_
               rotate_left
               ·rintro w' ⟨s0, s1, s2, s3, s4⟩
                go_simp
                with_reducible rfl
               rotate_left
               ·simp only [Act.put, List.setIfInBounds_toArray, List.set_cons_zero, List.set_cons_succ, i64_w, i32_w]
                rfl
               refine pure_ (i := 6) (N := some 9) (v := ?_) (a' := ?_) #[Tt,Tt,Tt,Tt,Ff,Ff,Tt,Ff] rfl rfl (any_of HT_.out (by kernel_rfl)) (fun _ _ _ h => h) (Or.inl ⟨by rfl, ?_⟩) ?_ ?_
               rotate_left
               ·intro w'
                go_simp
                with_reducible rfl
               rotate_left
               ·simp only [Act.put, List.setIfInBounds_toArray, List.set_cons_zero, List.set_cons_succ, i64_w, i32_w]
                rfl
               refine take_ (i := 4) (N := some 60) (v := ?_) (a' := ?_) #[Tt,Tt,Tt,Tt,Tt,Ff,Tt,Ff] rfl rfl (take_ofW HT_.out HW_.out (by kernel_rfl)) (fun _ _ _ h => h) (Or.inl ⟨by rfl, ?_⟩) hHeld ?_ ?_
               rotate_left
               ·rintro w' ⟨s0, s1, s2, s3, s4⟩
                go_simp
                with_reducible rfl
               rotate_left
               ·simp only [Act.put, List.setIfInBounds_toArray, List.set_cons_zero, List.set_cons_succ, i64_w, i32_w]
                rfl
               refine pure_ (i := 5) (N := some 61) (v := ?_) (a' := ?_) #[Tt,Tt,Tt,Tt,Tt,Tt,Tt,Ff] rfl rfl (any_of HT_.out (by kernel_rfl)) (fun _ _ _ h => h) (Or.inl ⟨by rfl, ?_⟩) ?_ ?_
               rotate_left
               ·intro w'
                go_simp
                with_reducible rfl
               rotate_left
               ·simp only [Act.put, List.setIfInBounds_toArray, List.set_cons_zero, List.set_cons_succ, i64_w, i32_w]
                rfl
               refine pure_ (i := 7) (N := some 10) (v := ?_) (a' := ?_) #[Tt,Tt,Tt,Tt,Tt,Tt,Tt,Tt] rfl rfl (any_of HT_.out (by kernel_rfl)) (fun _ _ _ h => h) (Or.inl ⟨by rfl, ?_⟩) ?_ ?_
               rotate_left
               ·intro w'
                go_simp
                with_reducible rfl
               rotate_left
               ·simp only [Act.put, List.setIfInBounds_toArray, List.set_cons_zero, List.set_cons_succ, i64_w, i32_w]
                rfl
               refine done_ (done_of HT_.out (by kernel_rfl)) ?_
               have hnb79 := NB217_206.out
               have hnc79 := NB206_217.out
               have hnb80 := NB217_207.out
               have hnc80 := NB207_217.out
               have hnb81 := NB217_208.out
               have hnc81 := NB208_217.out
               have hnb82 := NB217_211.out
               have hnc82 := NB211_217.out
               have hcz83_0 : w78.cell? ⟨gb217, 0, none⟩ = some (.string t212) := (blk_cell BK217.out 0).trans rfl
               have hcz83_1 : w78.cell? ⟨gb217, 1, none⟩ = some (.bool true) := (blk_cell BK217.out 1).trans rfl
               have hcz83_2 : w78.cell? ⟨gb217, 2, none⟩ = some (.string t214) := (blk_cell BK217.out 2).trans rfl
               have hcz83_3 : w78.cell? ⟨gb217, 3, none⟩ = some (.string t215) := (blk_cell BK217.out 3).trans rfl
               have hcz83_4 : w78.cell? ⟨gb217, 4, none⟩ = some (.bool true) := (blk_cell BK217.out 4).trans rfl
               have hfz83_0 := blk_frozen BK217.out 0
               have hfz83_1 := blk_frozen BK217.out 1
               have hfz83_2 := blk_frozen BK217.out 2
               have hfz83_3 := blk_frozen BK217.out 3
               have hfz83_4 := blk_frozen BK217.out 4
               try go_wp2_with (first | ((with_reducible refine gate_callee (f := 45) rfl ?_); refine goesL_ (some 70) rfl rfl Tryd.func45 (by kernel_rfl) rfl #[.string (x10_2 ++ t215)] rfl (by (try simp only [List.map_toArray, List.map_cons, List.map_nil]); first | done | rfl | (simp only [List.length_drop, List.length_take]; rfl)) ?_; (with_reducible refine (modcertref01_Sum.calls (x10_2 ++ t215) t218 _ A75.out).mono ?_); rintro e w84 ⟨rfl, hb⟩; refine ⟨_, rfl, ?_⟩; have n0_ := Aside0.mk (Kd.R_below (by (with_reducible repeat (first | apply Kd.R_alloc | apply Kd.R_drewN | apply Kd.R_drew)); exact HO_212005.out) hb); have n1_ := Aside0.mk (blk_below (g := gb206) (o := .cells #[.slice A0_0 l0_0.length c0_0, .slice A0_1 l0_1.length c0_1] 29 (0, 0)) (by (with_reducible repeat (first | refine blk_drewN ?_ _ | refine blk_drew ?_ | refine blk_alloc ?_ _)); exact BK206.out) hb); have n2_ := Aside0.mk (blk_below (g := gb207) (o := .cells #[.int .i64 a1_0, .int .i64 a1_1] 24 (0, 0)) (by (with_reducible repeat (first | refine blk_drewN ?_ _ | refine blk_drew ?_ | refine blk_alloc ?_ _)); exact BK207.out) hb); have n3_ := Aside0.mk (blk_below (g := gb208) (o := .cells #[.int .i64 x209000_2, .int .i64 x209001_2, .int .i64 x209002_2, .int .i64 x209003_2, .string x209004_2, .slice none 0 0] 38 (0, 0)) (by (with_reducible repeat (first | refine blk_drewN ?_ _ | refine blk_drew ?_ | refine blk_alloc ?_ _)); exact BK208.out) hb); have n4_ := Aside0.mk (blk_below (g := gb211) (o := .cells #[.int .i64 a1_0, .int .i64 a1_1, .int .i64 a2, .int .i64 x212003_2, .string x212004_2, u212005] 38 (0, 0)) (by (with_reducible repeat (first | refine blk_drewN ?_ _ | refine blk_drew ?_ | refine blk_alloc ?_ _)); exact BK211.out) hb); have n5_ := Aside0.mk (blk_below (g := gb217) (o := .cells #[.string t212, .bool true, .string t214, .string t215, .bool true] 114 (0, 0)) (by (with_reducible repeat (first | refine blk_drewN ?_ _ | refine blk_drew ?_ | refine blk_alloc ?_ _)); exact BK217.out) hb); have n6_ := Aside0.mk (below_step (by repeat (first | (with_reducible first | exact HB.out | apply below_alloc | apply pw_below_drewN | apply below_drew1 | refine below_set ?_ GE206.out | refine below_set ?_ GE207.out | refine below_set ?_ GE208.out | refine below_set ?_ GE211.out | refine below_set ?_ GE217.out) | exact HB.out)) hb); clear HO_212005; clear BK206; clear BK207; clear BK208; clear BK211; clear BK217; clear HB; have HO_212005 := n0_; have BK206 := n1_; have BK207 := n2_; have BK208 := n3_; have BK211 := n4_; have BK217 := n5_; have HB := n6_; clear n0_ n1_ n2_ n3_ n4_ n5_ n6_; (try clear hb); (try clear hb2); (try clear hk); (try clear hi); have hnb85 := NB211_206.out; have hnc85 := NB206_211.out; have hnb86 := NB211_207.out; have hnc86 := NB207_211.out; have hnb87 := NB211_208.out; have hnc87 := NB208_211.out; have hcz88_0 : w84.cell? ⟨gb211, 0, none⟩ = some (.int .i64 a1_0) := (blk_cell BK211.out 0).trans rfl; have hcz88_1 : w84.cell? ⟨gb211, 1, none⟩ = some (.int .i64 a1_1) := (blk_cell BK211.out 1).trans rfl; have hcz88_2 : w84.cell? ⟨gb211, 2, none⟩ = some (.int .i64 a2) := (blk_cell BK211.out 2).trans rfl; have hcz88_3 : w84.cell? ⟨gb211, 3, none⟩ = some (.int .i64 x212003_2) := (blk_cell BK211.out 3).trans rfl; have hcz88_4 : w84.cell? ⟨gb211, 4, none⟩ = some (.string x212004_2) := (blk_cell BK211.out 4).trans rfl; have hcz88_5 : w84.cell? ⟨gb211, 5, none⟩ = some (u212005) := (blk_cell BK211.out 5).trans rfl; have hfz88_0 := blk_frozen BK211.out 0; have hfz88_1 := blk_frozen BK211.out 1; have hfz88_2 := blk_frozen BK211.out 2; have hfz88_3 := blk_frozen BK211.out 3; have hfz88_4 := blk_frozen BK211.out 4; have hfz88_5 := blk_frozen BK211.out 5) | ((with_reducible refine gate_builtin (b := .append) (xs := #[.tmp 75, .tmp 77]) rfl ?_); at_builtin; refine Kd.R_append Kd.string (w0 := w) w.heap.size rfl (.tmp 75) (.tmp 77) 22 9 (.string ⟨#[]⟩) 16 rfl Tryd.underlying22 info9 rfl (by decide) (by omega) u212005 x212005_2 (x10_2 ++ t215) [.string (x10_2 ++ t215)] (fun _ => True) (fun _ => False) rfl rfl ?aP (fun _ hk => hk.elim) ?aF ?aO ?aB ?aS ?aL ?_; (case aP => exact rfl); (case aB => exact (by repeat (first | (with_reducible first | exact HB.out | apply below_alloc | apply pw_below_drewN | apply below_drew1 | refine below_set ?_ GE206.out | refine below_set ?_ GE207.out | refine below_set ?_ GE208.out | refine below_set ?_ GE211.out | refine below_set ?_ GE217.out) | exact HB.out))); (case aF => exact (fun _ _ => trivial)); (case aO => exact (by (with_reducible repeat (first | apply Kd.R_alloc | apply Kd.R_drewN | apply Kd.R_drew)); exact HO_212005.out)); (case aS => exact (below_size (by repeat (first | (with_reducible first | exact HB.out | apply below_alloc | apply pw_below_drewN | apply below_drew1 | refine below_set ?_ GE206.out | refine below_set ?_ GE207.out | refine below_set ?_ GE208.out | refine below_set ?_ GE211.out | refine below_set ?_ GE217.out) | exact HB.out)))); (case aL => have := LMc77.out; omega); intro v220 w89 ho hb hg hat; rw [← Ny219.out] at ho; have n0_ := Aside0.mk (blk_grown (g := gb206) (o := .cells #[.slice A0_0 l0_0.length c0_0, .slice A0_1 l0_1.length c0_1] 29 (0, 0)) (by (with_reducible repeat (first | refine blk_drewN ?_ _ | refine blk_drew ?_ | refine blk_alloc ?_ _)); exact BK206.out) hg (Kd.R_ne HO_212005.out BK206.out (by decide))); have n1_ := Aside0.mk (blk_grown (g := gb207) (o := .cells #[.int .i64 a1_0, .int .i64 a1_1] 24 (0, 0)) (by (with_reducible repeat (first | refine blk_drewN ?_ _ | refine blk_drew ?_ | refine blk_alloc ?_ _)); exact BK207.out) hg (Kd.R_ne HO_212005.out BK207.out (by decide))); have n2_ := Aside0.mk (blk_grown (g := gb208) (o := .cells #[.int .i64 x209000_2, .int .i64 x209001_2, .int .i64 x209002_2, .int .i64 x209003_2, .string x209004_2, .slice none 0 0] 38 (0, 0)) (by (with_reducible repeat (first | refine blk_drewN ?_ _ | refine blk_drew ?_ | refine blk_alloc ?_ _)); exact BK208.out) hg (Kd.R_ne HO_212005.out BK208.out (by decide))); have n3_ := Aside0.mk (blk_grown (g := gb211) (o := .cells #[.int .i64 a1_0, .int .i64 a1_1, .int .i64 a2, .int .i64 x212003_2, .string x212004_2, u212005] 38 (0, 0)) (by (with_reducible repeat (first | refine blk_drewN ?_ _ | refine blk_drew ?_ | refine blk_alloc ?_ _)); exact BK211.out) hg (Kd.R_ne HO_212005.out BK211.out (by decide))); have n4_ := Aside0.mk (blk_grown (g := gb217) (o := .cells #[.string t212, .bool true, .string t214, .string t215, .bool true] 114 (0, 0)) (by (with_reducible repeat (first | refine blk_drewN ?_ _ | refine blk_drew ?_ | refine blk_alloc ?_ _)); exact BK217.out) hg (Kd.R_ne HO_212005.out BK217.out (by decide))); have n5_ := Aside0.mk (hb); have n6_ := Aside0.mk (ho); clear BK206; clear BK207; clear BK208; clear BK211; clear BK217; clear HB; clear HO_212005; have BK206 := n0_; have BK207 := n1_; have BK208 := n2_; have BK211 := n3_; have BK217 := n4_; have HB := n5_; have HO221 := n6_; clear n0_ n1_ n2_ n3_ n4_ n5_ n6_; clear ho hb hg hat; obtain ⟨Ao90, co90, eo90⟩ := Kd.R_slice HO221.out; subst eo90; have hcz91_0 : w89.cell? ⟨gb211, 0, none⟩ = some (.int .i64 a1_0) := (blk_cell BK211.out 0).trans rfl; have hcz91_1 : w89.cell? ⟨gb211, 1, none⟩ = some (.int .i64 a1_1) := (blk_cell BK211.out 1).trans rfl; have hcz91_2 : w89.cell? ⟨gb211, 2, none⟩ = some (.int .i64 a2) := (blk_cell BK211.out 2).trans rfl; have hcz91_3 : w89.cell? ⟨gb211, 3, none⟩ = some (.int .i64 x212003_2) := (blk_cell BK211.out 3).trans rfl; have hcz91_4 : w89.cell? ⟨gb211, 4, none⟩ = some (.string x212004_2) := (blk_cell BK211.out 4).trans rfl; have hcz91_5 : w89.cell? ⟨gb211, 5, none⟩ = some (u212005) := (blk_cell BK211.out 5).trans rfl; have hfz91_0 := blk_frozen BK211.out 0; have hfz91_1 := blk_frozen BK211.out 1; have hfz91_2 := blk_frozen BK211.out 2; have hfz91_3 := blk_frozen BK211.out 3; have hfz91_4 := blk_frozen BK211.out 4; have hfz91_5 := blk_frozen BK211.out 5))
               go_roundg kj50
               case measure => have := HJ3.out; have := HK2.out; have := HJ50.out; omega
               case rel => exact ⟨(t212), ((⟨#[]⟩ : ByteArray)), (x11_50), (wrap64 (x12_2 + 1)), (x209000_2), (x209001_2), (x209002_2), (x209003_2), (x209004_2), (wrap64 (x12_2 + 1)), (t212), (y219), (.slice Ao90 y219.length co90), (by first | rfl | (simp; done) | (simp [*]; done) | (simp; rfl)), (by first | rfl | (simp; done) | (simp [*]; done) | (simp; rfl)), (by first | rfl | (simp; done) | (simp [*]; done) | (simp; rfl)), (by first | rfl | (simp; done) | (simp [*]; done) | (simp; rfl)), H', ⟨by have := HJ3.out; have := HK2.out; have := HJ50.out; omega⟩, ⟨by (with_reducible repeat (first | apply Kd.R_alloc | apply Kd.R_drewN | apply Kd.R_drew)); exact Kd.R_mono (Kd.R_far (p := ⟨gb211, 4, none⟩) (Kd.R_far (p := ⟨gb211, 3, none⟩) (Kd.R_far (p := ⟨gb211, 5, none⟩) (Kd.R_types HO221.out BK211.out (by decide)) (fun _ hk => hk.2) (.slice Ao90 y219.length co90)) (fun _ hk => hk.2) (.int .i64 (wrap64 (x12_2 + 1)))) (fun _ hk => hk.2) (.string t212)) (fun _ hk => trivial)⟩, ⟨by (with_reducible repeat (first | refine blk_drewN ?_ _ | refine blk_drew ?_ | refine blk_alloc ?_ _)); refine blk_far ?_ NB206_211.out _; (with_reducible repeat (first | refine blk_drewN ?_ _ | refine blk_drew ?_ | refine blk_alloc ?_ _)); refine blk_far ?_ NB206_211.out _; (with_reducible repeat (first | refine blk_drewN ?_ _ | refine blk_drew ?_ | refine blk_alloc ?_ _)); refine blk_far ?_ NB206_211.out _; (with_reducible repeat (first | refine blk_drewN ?_ _ | refine blk_drew ?_ | refine blk_alloc ?_ _)); exact BK206.out⟩, ⟨by (with_reducible repeat (first | refine blk_drewN ?_ _ | refine blk_drew ?_ | refine blk_alloc ?_ _)); refine blk_far ?_ NB207_211.out _; (with_reducible repeat (first | refine blk_drewN ?_ _ | refine blk_drew ?_ | refine blk_alloc ?_ _)); refine blk_far ?_ NB207_211.out _; (with_reducible repeat (first | refine blk_drewN ?_ _ | refine blk_drew ?_ | refine blk_alloc ?_ _)); refine blk_far ?_ NB207_211.out _; (with_reducible repeat (first | refine blk_drewN ?_ _ | refine blk_drew ?_ | refine blk_alloc ?_ _)); exact BK207.out⟩, ⟨by (with_reducible repeat (first | refine blk_drewN ?_ _ | refine blk_drew ?_ | refine blk_alloc ?_ _)); refine blk_far ?_ NB208_211.out _; (with_reducible repeat (first | refine blk_drewN ?_ _ | refine blk_drew ?_ | refine blk_alloc ?_ _)); refine blk_far ?_ NB208_211.out _; (with_reducible repeat (first | refine blk_drewN ?_ _ | refine blk_drew ?_ | refine blk_alloc ?_ _)); refine blk_far ?_ NB208_211.out _; (with_reducible repeat (first | refine blk_drewN ?_ _ | refine blk_drew ?_ | refine blk_alloc ?_ _)); exact BK208.out⟩, ⟨by (with_reducible repeat (first | refine blk_drewN ?_ _ | refine blk_drew ?_ | refine blk_alloc ?_ _)); refine blk_put (cs := #[.int .i64 a1_0, .int .i64 a1_1, .int .i64 a2, .int .i64 (wrap64 (x12_2 + 1)), .string x212004_2, .slice Ao90 y219.length co90]) ?_ 4 _ rfl; (with_reducible repeat (first | refine blk_drewN ?_ _ | refine blk_drew ?_ | refine blk_alloc ?_ _)); refine blk_put (cs := #[.int .i64 a1_0, .int .i64 a1_1, .int .i64 a2, .int .i64 x212003_2, .string x212004_2, .slice Ao90 y219.length co90]) ?_ 3 _ rfl; (with_reducible repeat (first | refine blk_drewN ?_ _ | refine blk_drew ?_ | refine blk_alloc ?_ _)); refine blk_put (cs := #[.int .i64 a1_0, .int .i64 a1_1, .int .i64 a2, .int .i64 x212003_2, .string x212004_2, u212005]) ?_ 5 _ rfl; (with_reducible repeat (first | refine blk_drewN ?_ _ | refine blk_drew ?_ | refine blk_alloc ?_ _)); exact BK211.out⟩, ⟨by repeat (first | (with_reducible first | exact HB.out | apply below_alloc | apply pw_below_drewN | apply below_drew1 | refine below_set ?_ GE206.out | refine below_set ?_ GE207.out | refine below_set ?_ GE208.out | refine below_set ?_ GE211.out | refine below_set ?_ GE217.out) | exact HB.out)⟩⟩
              ·rw [if_neg c77] at H
               exact absurd H (by simp)
             ·rw [if_neg c76] at H
              have c76b0 : (t218.toList == x11_50.toList) = false := beq_eq_false_iff_ne.mpr c76
              have c76b1 : (t218.toList != x11_50.toList) = true := bne_iff_ne.mpr c76
              simp only [Option.some.injEq, Prod.mk.injEq] at H
              obtain ⟨rfl, rfl, rfl, rfl, rfl, rfl, rfl⟩ := H
              try go_wp2
              have n0_ := Aside0.mk (Kd.R_drew HO_212005.out)
              have n1_ := Aside0.mk (blk_drew BK206.out)
              have n2_ := Aside0.mk (blk_drew BK207.out)
              have n3_ := Aside0.mk (blk_drew BK208.out)
              have n4_ := Aside0.mk (blk_drew BK211.out)
              have n5_ := Aside0.mk (blk_drew BK217.out)
              have n6_ := Aside0.mk (below_drew1 HB.out)
              clear HO_212005
              clear BK206
              clear BK207
              clear BK208
              clear BK211
              clear BK217
              clear HB
              have HO_212005 := n0_
              have BK206 := n1_
              have BK207 := n2_
              have BK208 := n3_
              have BK211 := n4_
              have BK217 := n5_
              have HB := n6_
              clear n0_ n1_ n2_ n3_ n4_ n5_ n6_
              refine start_ (n := 8) (S := fun w' => w'.cell? ⟨gb217, 0, none⟩ = some (.string t212) ∧ w'.cell? ⟨gb217, 1, none⟩ = some (.bool true) ∧ w'.cell? ⟨gb217, 2, none⟩ = some (.string t214) ∧ w'.cell? ⟨gb217, 3, none⟩ = some (.string t215) ∧ w'.cell? ⟨gb217, 4, none⟩ = some (.bool true)) (ds := []) #[Ff,Ff,Ff,Ff,Ff,Ff,Ff,Ff] (by kernel_rfl) rfl rfl ⟨(blk_cell BK217.out 0).trans rfl, (blk_cell BK217.out 1).trans rfl, (blk_cell BK217.out 2).trans rfl, (blk_cell BK217.out 3).trans rfl, (blk_cell BK217.out 4).trans rfl⟩ (fun hHeld => ?_); refine with_tabW modcertref51_Open.tab13 modcertref51_Open.bits13 (fun HT_ HW_ => ?_)
              generalize wc.drew = w92 at HO_212005 BK206 BK207 BK208 BK211 BK217 HB hHeld ⊢
              refine pure_ (i := 0) (N := some 56) (v := ?_) (a' := ?_) #[Tt,Ff,Ff,Ff,Ff,Ff,Ff,Ff] rfl rfl (any_of HT_.out (by kernel_rfl)) (fun _ _ _ h => h) (Or.inl ⟨by rfl, ?_⟩) ?_ ?_
              rotate_left
              ·intro w'
               go_simp
               with_reducible rfl
              rotate_left
              ·simp only [Act.put, List.setIfInBounds_toArray, List.set_cons_zero, List.set_cons_succ, i64_w, i32_w]
               rfl
              refine pure_ (i := 2) (N := some 58) (v := ?_) (a' := ?_) #[Tt,Ff,Tt,Ff,Ff,Ff,Ff,Ff] rfl rfl (any_of HT_.out (by kernel_rfl)) (fun _ _ _ h => h) (Or.inl ⟨by rfl, ?_⟩) ?_ ?_
              rotate_left
              ·intro w'
               go_simp
               with_reducible rfl
              rotate_left
              ·simp only [Act.put, List.setIfInBounds_toArray, List.set_cons_zero, List.set_cons_succ, i64_w, i32_w]
               rfl
              refine pure_ (i := 3) (N := some 59) (v := ?_) (a' := ?_) #[Tt,Ff,Tt,Tt,Ff,Ff,Ff,Ff] rfl rfl (any_of HT_.out (by kernel_rfl)) (fun _ _ _ h => h) (Or.inl ⟨by rfl, ?_⟩) ?_ ?_
              rotate_left
              ·intro w'
               go_simp
               with_reducible rfl
              rotate_left
              ·simp only [Act.put, List.setIfInBounds_toArray, List.set_cons_zero, List.set_cons_succ, i64_w, i32_w]
               rfl
              refine take_ (i := 1) (N := some 57) (v := ?_) (a' := ?_) #[Tt,Tt,Tt,Tt,Ff,Ff,Ff,Ff] rfl rfl (take_ofW HT_.out HW_.out (by kernel_rfl)) (fun _ _ _ h => h) (Or.inl ⟨by rfl, ?_⟩) hHeld ?_ ?_
              rotate_left
              ·rintro w' ⟨s0, s1, s2, s3, s4⟩
               go_simp
               with_reducible rfl
              rotate_left
              ·simp only [Act.put, List.setIfInBounds_toArray, List.set_cons_zero, List.set_cons_succ, i64_w, i32_w]
               rfl
              refine pure_ (i := 6) (N := some 9) (v := ?_) (a' := ?_) #[Tt,Tt,Tt,Tt,Ff,Ff,Tt,Ff] rfl rfl (any_of HT_.out (by kernel_rfl)) (fun _ _ _ h => h) (Or.inl ⟨by rfl, ?_⟩) ?_ ?_
              rotate_left
              ·intro w'
               go_simp
               with_reducible rfl
              rotate_left
              ·simp only [Act.put, List.setIfInBounds_toArray, List.set_cons_zero, List.set_cons_succ, i64_w, i32_w]
               rfl
              refine take_ (i := 4) (N := some 60) (v := ?_) (a' := ?_) #[Tt,Tt,Tt,Tt,Tt,Ff,Tt,Ff] rfl rfl (take_ofW HT_.out HW_.out (by kernel_rfl)) (fun _ _ _ h => h) (Or.inl ⟨by rfl, ?_⟩) hHeld ?_ ?_
              rotate_left
              ·rintro w' ⟨s0, s1, s2, s3, s4⟩
               go_simp
               with_reducible rfl
              rotate_left
              ·simp only [Act.put, List.setIfInBounds_toArray, List.set_cons_zero, List.set_cons_succ, i64_w, i32_w]
               rfl
              refine pure_ (i := 5) (N := some 61) (v := ?_) (a' := ?_) #[Tt,Tt,Tt,Tt,Tt,Tt,Tt,Ff] rfl rfl (any_of HT_.out (by kernel_rfl)) (fun _ _ _ h => h) (Or.inl ⟨by rfl, ?_⟩) ?_ ?_
              rotate_left
              ·intro w'
               go_simp
               with_reducible rfl
              rotate_left
              ·simp only [Act.put, List.setIfInBounds_toArray, List.set_cons_zero, List.set_cons_succ, i64_w, i32_w]
               rfl
              refine pure_ (i := 7) (N := some 10) (v := ?_) (a' := ?_) #[Tt,Tt,Tt,Tt,Tt,Tt,Tt,Tt] rfl rfl (any_of HT_.out (by kernel_rfl)) (fun _ _ _ h => h) (Or.inl ⟨by rfl, ?_⟩) ?_ ?_
              rotate_left
              ·intro w'
               go_simp
               with_reducible rfl
              rotate_left
              ·simp only [Act.put, List.setIfInBounds_toArray, List.set_cons_zero, List.set_cons_succ, i64_w, i32_w]
               rfl
              refine done_ (done_of HT_.out (by kernel_rfl)) ?_
              have hnb93 := NB217_206.out
              have hnc93 := NB206_217.out
              have hnb94 := NB217_207.out
              have hnc94 := NB207_217.out
              have hnb95 := NB217_208.out
              have hnc95 := NB208_217.out
              have hnb96 := NB217_211.out
              have hnc96 := NB211_217.out
              have hcz97_0 : w92.cell? ⟨gb217, 0, none⟩ = some (.string t212) := (blk_cell BK217.out 0).trans rfl
              have hcz97_1 : w92.cell? ⟨gb217, 1, none⟩ = some (.bool true) := (blk_cell BK217.out 1).trans rfl
              have hcz97_2 : w92.cell? ⟨gb217, 2, none⟩ = some (.string t214) := (blk_cell BK217.out 2).trans rfl
              have hcz97_3 : w92.cell? ⟨gb217, 3, none⟩ = some (.string t215) := (blk_cell BK217.out 3).trans rfl
              have hcz97_4 : w92.cell? ⟨gb217, 4, none⟩ = some (.bool true) := (blk_cell BK217.out 4).trans rfl
              have hfz97_0 := blk_frozen BK217.out 0
              have hfz97_1 := blk_frozen BK217.out 1
              have hfz97_2 := blk_frozen BK217.out 2
              have hfz97_3 := blk_frozen BK217.out 3
              have hfz97_4 := blk_frozen BK217.out 4
              try go_wp2_with (first | ((with_reducible refine gate_callee (f := 45) rfl ?_); refine goesL_ (some 70) rfl rfl Tryd.func45 (by kernel_rfl) rfl #[.string (x10_2 ++ t215)] rfl (by (try simp only [List.map_toArray, List.map_cons, List.map_nil]); first | done | rfl | (simp only [List.length_drop, List.length_take]; rfl)) ?_; (with_reducible refine (modcertref01_Sum.calls (x10_2 ++ t215) t218 _ A75.out).mono ?_); rintro e w98 ⟨rfl, hb⟩; refine ⟨_, rfl, ?_⟩; have n0_ := Aside0.mk (Kd.R_below (by (with_reducible repeat (first | apply Kd.R_alloc | apply Kd.R_drewN | apply Kd.R_drew)); exact HO_212005.out) hb); have n1_ := Aside0.mk (blk_below (g := gb206) (o := .cells #[.slice A0_0 l0_0.length c0_0, .slice A0_1 l0_1.length c0_1] 29 (0, 0)) (by (with_reducible repeat (first | refine blk_drewN ?_ _ | refine blk_drew ?_ | refine blk_alloc ?_ _)); exact BK206.out) hb); have n2_ := Aside0.mk (blk_below (g := gb207) (o := .cells #[.int .i64 a1_0, .int .i64 a1_1] 24 (0, 0)) (by (with_reducible repeat (first | refine blk_drewN ?_ _ | refine blk_drew ?_ | refine blk_alloc ?_ _)); exact BK207.out) hb); have n3_ := Aside0.mk (blk_below (g := gb208) (o := .cells #[.int .i64 x209000_2, .int .i64 x209001_2, .int .i64 x209002_2, .int .i64 x209003_2, .string x209004_2, .slice none 0 0] 38 (0, 0)) (by (with_reducible repeat (first | refine blk_drewN ?_ _ | refine blk_drew ?_ | refine blk_alloc ?_ _)); exact BK208.out) hb); have n4_ := Aside0.mk (blk_below (g := gb211) (o := .cells #[.int .i64 a1_0, .int .i64 a1_1, .int .i64 a2, .int .i64 x212003_2, .string x212004_2, u212005] 38 (0, 0)) (by (with_reducible repeat (first | refine blk_drewN ?_ _ | refine blk_drew ?_ | refine blk_alloc ?_ _)); exact BK211.out) hb); have n5_ := Aside0.mk (blk_below (g := gb217) (o := .cells #[.string t212, .bool true, .string t214, .string t215, .bool true] 114 (0, 0)) (by (with_reducible repeat (first | refine blk_drewN ?_ _ | refine blk_drew ?_ | refine blk_alloc ?_ _)); exact BK217.out) hb); have n6_ := Aside0.mk (below_step (by repeat (first | (with_reducible first | exact HB.out | apply below_alloc | apply pw_below_drewN | apply below_drew1 | refine below_set ?_ GE206.out | refine below_set ?_ GE207.out | refine below_set ?_ GE208.out | refine below_set ?_ GE211.out | refine below_set ?_ GE217.out) | exact HB.out)) hb); clear HO_212005; clear BK206; clear BK207; clear BK208; clear BK211; clear BK217; clear HB; have HO_212005 := n0_; have BK206 := n1_; have BK207 := n2_; have BK208 := n3_; have BK211 := n4_; have BK217 := n5_; have HB := n6_; clear n0_ n1_ n2_ n3_ n4_ n5_ n6_; (try clear hb); (try clear hb2); (try clear hk); (try clear hi); have hnb99 := NB211_206.out; have hnc99 := NB206_211.out; have hnb100 := NB211_207.out; have hnc100 := NB207_211.out; have hnb101 := NB211_208.out; have hnc101 := NB208_211.out; have hcz102_0 : w98.cell? ⟨gb211, 0, none⟩ = some (.int .i64 a1_0) := (blk_cell BK211.out 0).trans rfl; have hcz102_1 : w98.cell? ⟨gb211, 1, none⟩ = some (.int .i64 a1_1) := (blk_cell BK211.out 1).trans rfl; have hcz102_2 : w98.cell? ⟨gb211, 2, none⟩ = some (.int .i64 a2) := (blk_cell BK211.out 2).trans rfl; have hcz102_3 : w98.cell? ⟨gb211, 3, none⟩ = some (.int .i64 x212003_2) := (blk_cell BK211.out 3).trans rfl; have hcz102_4 : w98.cell? ⟨gb211, 4, none⟩ = some (.string x212004_2) := (blk_cell BK211.out 4).trans rfl; have hcz102_5 : w98.cell? ⟨gb211, 5, none⟩ = some (u212005) := (blk_cell BK211.out 5).trans rfl; have hfz102_0 := blk_frozen BK211.out 0; have hfz102_1 := blk_frozen BK211.out 1; have hfz102_2 := blk_frozen BK211.out 2; have hfz102_3 := blk_frozen BK211.out 3; have hfz102_4 := blk_frozen BK211.out 4; have hfz102_5 := blk_frozen BK211.out 5; have hnb103 := NB208_206.out; have hnc103 := NB206_208.out; have hnb104 := NB208_207.out; have hnc104 := NB207_208.out; have hcz105_0 : w98.cell? ⟨gb208, 0, none⟩ = some (.int .i64 x209000_2) := (blk_cell BK208.out 0).trans rfl; have hcz105_1 : w98.cell? ⟨gb208, 1, none⟩ = some (.int .i64 x209001_2) := (blk_cell BK208.out 1).trans rfl; have hcz105_2 : w98.cell? ⟨gb208, 2, none⟩ = some (.int .i64 x209002_2) := (blk_cell BK208.out 2).trans rfl; have hcz105_3 : w98.cell? ⟨gb208, 3, none⟩ = some (.int .i64 x209003_2) := (blk_cell BK208.out 3).trans rfl; have hcz105_4 : w98.cell? ⟨gb208, 4, none⟩ = some (.string x209004_2) := (blk_cell BK208.out 4).trans rfl; have hcz105_5 : w98.cell? ⟨gb208, 5, none⟩ = some (.slice none 0 0) := (blk_cell BK208.out 5).trans rfl; have hfz105_0 := blk_frozen BK208.out 0; have hfz105_1 := blk_frozen BK208.out 1; have hfz105_2 := blk_frozen BK208.out 2; have hfz105_3 := blk_frozen BK208.out 3; have hfz105_4 := blk_frozen BK208.out 4; have hfz105_5 := blk_frozen BK208.out 5; obtain ⟨Ao106, co106, eo106⟩ := Kd.R_slice HO_212005.out; subst eo106))
              refine bodyPost_ret (results_ct rfl _ _ gb208 38 #[.int .i64 a1_0, .int .i64 a1_1, .int .i64 a2, .int .i64 x212003_2, .string x212004_2, .slice Ao106 x212005_2.length co106] (0, 0) _ rfl (by (with_reducible repeat (first | refine blk_drewN ?_ _ | refine blk_drew ?_ | refine blk_alloc ?_ _)); refine blk_put (cs := #[.int .i64 a1_0, .int .i64 a1_1, .int .i64 a2, .int .i64 x212003_2, .string x212004_2, .slice none 0 0]) ?_ 5 _ rfl; (with_reducible repeat (first | refine blk_drewN ?_ _ | refine blk_drew ?_ | refine blk_alloc ?_ _)); refine blk_put (cs := #[.int .i64 a1_0, .int .i64 a1_1, .int .i64 a2, .int .i64 x212003_2, .string x209004_2, .slice none 0 0]) ?_ 4 _ rfl; (with_reducible repeat (first | refine blk_drewN ?_ _ | refine blk_drew ?_ | refine blk_alloc ?_ _)); refine blk_put (cs := #[.int .i64 a1_0, .int .i64 a1_1, .int .i64 a2, .int .i64 x209003_2, .string x209004_2, .slice none 0 0]) ?_ 3 _ rfl; (with_reducible repeat (first | refine blk_drewN ?_ _ | refine blk_drew ?_ | refine blk_alloc ?_ _)); refine blk_put (cs := #[.int .i64 a1_0, .int .i64 a1_1, .int .i64 x209002_2, .int .i64 x209003_2, .string x209004_2, .slice none 0 0]) ?_ 2 _ rfl; (with_reducible repeat (first | refine blk_drewN ?_ _ | refine blk_drew ?_ | refine blk_alloc ?_ _)); refine blk_put (cs := #[.int .i64 a1_0, .int .i64 x209001_2, .int .i64 x209002_2, .int .i64 x209003_2, .string x209004_2, .slice none 0 0]) ?_ 1 _ rfl; (with_reducible repeat (first | refine blk_drewN ?_ _ | refine blk_drew ?_ | refine blk_alloc ?_ _)); refine blk_put (cs := #[.int .i64 x209000_2, .int .i64 x209001_2, .int .i64 x209002_2, .int .i64 x209003_2, .string x209004_2, .slice none 0 0]) ?_ 0 _ rfl; (with_reducible repeat (first | refine blk_drewN ?_ _ | refine blk_drew ?_ | refine blk_alloc ?_ _)); exact BK208.out) Tryd.underlying38 rfl (by kernel_rfl)) rfl ?_
              exact ⟨_, by first | rfl | (simp [errW_none, errW_some] <;> rfl) | (simp [*, errW_none, errW_some] <;> rfl), by (with_reducible repeat (first | apply Kd.R_alloc | apply Kd.R_drewN | apply Kd.R_drew)); exact Kd.R_mono (Kd.R_far (p := ⟨gb208, 5, none⟩) (Kd.R_far (p := ⟨gb208, 4, none⟩) (Kd.R_far (p := ⟨gb208, 3, none⟩) (Kd.R_far (p := ⟨gb208, 2, none⟩) (Kd.R_far (p := ⟨gb208, 1, none⟩) (Kd.R_far (p := ⟨gb208, 0, none⟩) (Kd.R_types HO_212005.out BK208.out (by decide)) (fun _ hk => hk.2) (.int .i64 a1_0)) (fun _ hk => hk.2) (.int .i64 a1_1)) (fun _ hk => hk.2) (.int .i64 a2)) (fun _ hk => hk.2) (.int .i64 x212003_2)) (fun _ hk => hk.2) (.string x212004_2)) (fun _ hk => hk.2) (.slice Ao106 x212005_2.length co106)) (fun _ hk => trivial), by repeat (first | (with_reducible first | exact HB.out | apply below_alloc | apply pw_below_drewN | apply below_drew1 | refine below_set ?_ GE206.out | refine below_set ?_ GE207.out | refine below_set ?_ GE208.out | refine below_set ?_ GE211.out | refine below_set ?_ GE217.out) | exact HB.out)⟩
            ·replace c74 := Bool.eq_false_iff.mpr c74
             subst c74
             have H1 : (modcertref51_Open.l0 kj50 a2 t212 (x10_2 ++ t215) x11_50 (wrap64 (x12_2 + 1)) l0_0 l0_1 a1_0 a1_1 a1_0 a1_1 a2 x212003_2 x212004_2 x212005_2) = some (r1, r2, r3, r4, r5, r6, r7) := by rw [if_neg (show ¬ (false = true) by decide)] at H; exact H
             clear H
             have H := H1
             clear H1
             have H' := Aside0.mk H
             clear H
             try go_wp2
             have n0_ := Aside0.mk (Kd.R_drew HO_212005.out)
             have n1_ := Aside0.mk (blk_drew BK206.out)
             have n2_ := Aside0.mk (blk_drew BK207.out)
             have n3_ := Aside0.mk (blk_drew BK208.out)
             have n4_ := Aside0.mk (blk_drew BK211.out)
             have n5_ := Aside0.mk (blk_drew BK217.out)
             have n6_ := Aside0.mk (below_drew1 HB.out)
             clear HO_212005
             clear BK206
             clear BK207
             clear BK208
             clear BK211
             clear BK217
             clear HB
             have HO_212005 := n0_
             have BK206 := n1_
             have BK207 := n2_
             have BK208 := n3_
             have BK211 := n4_
             have BK217 := n5_
             have HB := n6_
             clear n0_ n1_ n2_ n3_ n4_ n5_ n6_
             refine start_ (n := 8) (S := fun w' => w'.cell? ⟨gb217, 0, none⟩ = some (.string t212) ∧ w'.cell? ⟨gb217, 1, none⟩ = some (.bool false) ∧ w'.cell? ⟨gb217, 2, none⟩ = some (.string t214) ∧ w'.cell? ⟨gb217, 3, none⟩ = some (.string t215) ∧ w'.cell? ⟨gb217, 4, none⟩ = some (.bool true)) (ds := []) #[Ff,Ff,Ff,Ff,Ff,Ff,Ff,Ff] (by kernel_rfl) rfl rfl ⟨(blk_cell BK217.out 0).trans rfl, (blk_cell BK217.out 1).trans rfl, (blk_cell BK217.out 2).trans rfl, (blk_cell BK217.out 3).trans rfl, (blk_cell BK217.out 4).trans rfl⟩ (fun hHeld => ?_); refine with_tabW modcertref51_Open.tab13 modcertref51_Open.bits13 (fun HT_ HW_ => ?_)
             generalize wc.drew = w107 at HO_212005 BK206 BK207 BK208 BK211 BK217 HB hHeld ⊢
             refine pure_ (i := 0) (N := some 56) (v := ?_) (a' := ?_) #[Tt,Ff,Ff,Ff,Ff,Ff,Ff,Ff] rfl rfl (any_of HT_.out (by kernel_rfl)) (fun _ _ _ h => h) (Or.inl ⟨by rfl, ?_⟩) ?_ ?_
             rotate_left
             ·intro w'
              go_simp
              with_reducible rfl
             rotate_left
             ·simp only [Act.put, List.setIfInBounds_toArray, List.set_cons_zero, List.set_cons_succ, i64_w, i32_w]
              rfl
             refine pure_ (i := 2) (N := some 58) (v := ?_) (a' := ?_) #[Tt,Ff,Tt,Ff,Ff,Ff,Ff,Ff] rfl rfl (any_of HT_.out (by kernel_rfl)) (fun _ _ _ h => h) (Or.inl ⟨by rfl, ?_⟩) ?_ ?_
             rotate_left
             ·intro w'
              go_simp
              with_reducible rfl
             rotate_left
             ·simp only [Act.put, List.setIfInBounds_toArray, List.set_cons_zero, List.set_cons_succ, i64_w, i32_w]
              rfl
             refine pure_ (i := 3) (N := some 59) (v := ?_) (a' := ?_) #[Tt,Ff,Tt,Tt,Ff,Ff,Ff,Ff] rfl rfl (any_of HT_.out (by kernel_rfl)) (fun _ _ _ h => h) (Or.inl ⟨by rfl, ?_⟩) ?_ ?_
             rotate_left
             ·intro w'
              go_simp
              with_reducible rfl
             rotate_left
             ·simp only [Act.put, List.setIfInBounds_toArray, List.set_cons_zero, List.set_cons_succ, i64_w, i32_w]
              rfl
             refine take_ (i := 1) (N := some 57) (v := ?_) (a' := ?_) #[Tt,Tt,Tt,Tt,Ff,Ff,Ff,Ff] rfl rfl (take_ofW HT_.out HW_.out (by kernel_rfl)) (fun _ _ _ h => h) (Or.inl ⟨by rfl, ?_⟩) hHeld ?_ ?_
             rotate_left
             ·rintro w' ⟨s0, s1, s2, s3, s4⟩
              go_simp
              with_reducible rfl
             rotate_left
             ·simp only [Act.put, List.setIfInBounds_toArray, List.set_cons_zero, List.set_cons_succ, i64_w, i32_w]
              rfl
             refine pure_ (i := 6) (N := some 9) (v := ?_) (a' := ?_) #[Tt,Tt,Tt,Tt,Ff,Ff,Tt,Ff] rfl rfl (any_of HT_.out (by kernel_rfl)) (fun _ _ _ h => h) (Or.inl ⟨by rfl, ?_⟩) ?_ ?_
             rotate_left
             ·intro w'
              go_simp
              with_reducible rfl
             rotate_left
             ·simp only [Act.put, List.setIfInBounds_toArray, List.set_cons_zero, List.set_cons_succ, i64_w, i32_w]
              rfl
             refine take_ (i := 4) (N := some 60) (v := ?_) (a' := ?_) #[Tt,Tt,Tt,Tt,Tt,Ff,Tt,Ff] rfl rfl (take_ofW HT_.out HW_.out (by kernel_rfl)) (fun _ _ _ h => h) (Or.inl ⟨by rfl, ?_⟩) hHeld ?_ ?_
             rotate_left
             ·rintro w' ⟨s0, s1, s2, s3, s4⟩
              go_simp
              with_reducible rfl
             rotate_left
             ·simp only [Act.put, List.setIfInBounds_toArray, List.set_cons_zero, List.set_cons_succ, i64_w, i32_w]
              rfl
             refine pure_ (i := 5) (N := some 61) (v := ?_) (a' := ?_) #[Tt,Tt,Tt,Tt,Tt,Tt,Tt,Ff] rfl rfl (any_of HT_.out (by kernel_rfl)) (fun _ _ _ h => h) (Or.inl ⟨by rfl, ?_⟩) ?_ ?_
             rotate_left
             ·intro w'
              go_simp
              with_reducible rfl
             rotate_left
             ·simp only [Act.put, List.setIfInBounds_toArray, List.set_cons_zero, List.set_cons_succ, i64_w, i32_w]
              rfl
             refine pure_ (i := 7) (N := some 10) (v := ?_) (a' := ?_) #[Tt,Tt,Tt,Tt,Tt,Tt,Tt,Tt] rfl rfl (any_of HT_.out (by kernel_rfl)) (fun _ _ _ h => h) (Or.inl ⟨by rfl, ?_⟩) ?_ ?_
             rotate_left
             ·intro w'
              go_simp
              with_reducible rfl
             rotate_left
             ·simp only [Act.put, List.setIfInBounds_toArray, List.set_cons_zero, List.set_cons_succ, i64_w, i32_w]
              rfl
             refine done_ (done_of HT_.out (by kernel_rfl)) ?_
             have hnb108 := NB217_206.out
             have hnc108 := NB206_217.out
             have hnb109 := NB217_207.out
             have hnc109 := NB207_217.out
             have hnb110 := NB217_208.out
             have hnc110 := NB208_217.out
             have hnb111 := NB217_211.out
             have hnc111 := NB211_217.out
             have hcz112_0 : w107.cell? ⟨gb217, 0, none⟩ = some (.string t212) := (blk_cell BK217.out 0).trans rfl
             have hcz112_1 : w107.cell? ⟨gb217, 1, none⟩ = some (.bool false) := (blk_cell BK217.out 1).trans rfl
             have hcz112_2 : w107.cell? ⟨gb217, 2, none⟩ = some (.string t214) := (blk_cell BK217.out 2).trans rfl
             have hcz112_3 : w107.cell? ⟨gb217, 3, none⟩ = some (.string t215) := (blk_cell BK217.out 3).trans rfl
             have hcz112_4 : w107.cell? ⟨gb217, 4, none⟩ = some (.bool true) := (blk_cell BK217.out 4).trans rfl
             have hfz112_0 := blk_frozen BK217.out 0
             have hfz112_1 := blk_frozen BK217.out 1
             have hfz112_2 := blk_frozen BK217.out 2
             have hfz112_3 := blk_frozen BK217.out 3
             have hfz112_4 := blk_frozen BK217.out 4
             try go_wp2
             go_roundg kj50
             case measure => have := HJ3.out; have := HK2.out; have := HJ50.out; omega
             case rel => exact ⟨(t212), (x10_2 ++ t215), (x11_50), (wrap64 (x12_2 + 1)), (x209000_2), (x209001_2), (x209002_2), (x209003_2), (x209004_2), (x212003_2), (x212004_2), (x212005_2), (u212005), (by first | rfl | (simp; done) | (simp [*]; done) | (simp; rfl)), (by first | rfl | (simp; done) | (simp [*]; done) | (simp; rfl)), (by first | rfl | (simp; done) | (simp [*]; done) | (simp; rfl)), (by first | rfl | (simp; done) | (simp [*]; done) | (simp; rfl)), H', ⟨by have := HJ3.out; have := HK2.out; have := HJ50.out; omega⟩, ⟨by (with_reducible repeat (first | apply Kd.R_alloc | apply Kd.R_drewN | apply Kd.R_drew)); exact HO_212005.out⟩, ⟨by (with_reducible repeat (first | refine blk_drewN ?_ _ | refine blk_drew ?_ | refine blk_alloc ?_ _)); exact BK206.out⟩, ⟨by (with_reducible repeat (first | refine blk_drewN ?_ _ | refine blk_drew ?_ | refine blk_alloc ?_ _)); exact BK207.out⟩, ⟨by (with_reducible repeat (first | refine blk_drewN ?_ _ | refine blk_drew ?_ | refine blk_alloc ?_ _)); exact BK208.out⟩, ⟨by (with_reducible repeat (first | refine blk_drewN ?_ _ | refine blk_drew ?_ | refine blk_alloc ?_ _)); exact BK211.out⟩, ⟨by repeat (first | (with_reducible first | exact HB.out | apply below_alloc | apply pw_below_drewN | apply below_drew1 | refine below_set ?_ GE206.out | refine below_set ?_ GE207.out | refine below_set ?_ GE208.out | refine below_set ?_ GE211.out | refine below_set ?_ GE217.out) | exact HB.out)⟩⟩
           ·rw [if_neg c73] at H
            have c73b0 : (t214.toList == x11_50.toList) = false := beq_eq_false_iff_ne.mpr c73
            have c73b1 : (t214.toList != x11_50.toList) = true := bne_iff_ne.mpr c73
            simp only [Option.some.injEq, Prod.mk.injEq] at H
            obtain ⟨rfl, rfl, rfl, rfl, rfl, rfl, rfl⟩ := H
            try go_wp2
            have n0_ := Aside0.mk (Kd.R_drew HO_212005.out)
            have n1_ := Aside0.mk (blk_drew BK206.out)
            have n2_ := Aside0.mk (blk_drew BK207.out)
            have n3_ := Aside0.mk (blk_drew BK208.out)
            have n4_ := Aside0.mk (blk_drew BK211.out)
            have n5_ := Aside0.mk (blk_drew BK217.out)
            have n6_ := Aside0.mk (below_drew1 HB.out)
            clear HO_212005
            clear BK206
            clear BK207
            clear BK208
            clear BK211
            clear BK217
            clear HB
            have HO_212005 := n0_
            have BK206 := n1_
            have BK207 := n2_
            have BK208 := n3_
            have BK211 := n4_
            have BK217 := n5_
            have HB := n6_
            clear n0_ n1_ n2_ n3_ n4_ n5_ n6_
            refine start_ (n := 8) (S := fun w' => w'.cell? ⟨gb217, 0, none⟩ = some (.string t212) ∧ w'.cell? ⟨gb217, 1, none⟩ = some (.bool t213) ∧ w'.cell? ⟨gb217, 2, none⟩ = some (.string t214) ∧ w'.cell? ⟨gb217, 3, none⟩ = some (.string t215) ∧ w'.cell? ⟨gb217, 4, none⟩ = some (.bool true)) (ds := []) #[Ff,Ff,Ff,Ff,Ff,Ff,Ff,Ff] (by kernel_rfl) rfl rfl ⟨(blk_cell BK217.out 0).trans rfl, (blk_cell BK217.out 1).trans rfl, (blk_cell BK217.out 2).trans rfl, (blk_cell BK217.out 3).trans rfl, (blk_cell BK217.out 4).trans rfl⟩ (fun hHeld => ?_); refine with_tabW modcertref51_Open.tab13 modcertref51_Open.bits13 (fun HT_ HW_ => ?_)
            generalize wc.drew = w113 at HO_212005 BK206 BK207 BK208 BK211 BK217 HB hHeld ⊢
            refine pure_ (i := 0) (N := some 56) (v := ?_) (a' := ?_) #[Tt,Ff,Ff,Ff,Ff,Ff,Ff,Ff] rfl rfl (any_of HT_.out (by kernel_rfl)) (fun _ _ _ h => h) (Or.inl ⟨by rfl, ?_⟩) ?_ ?_
            rotate_left
            ·intro w'
             go_simp
             with_reducible rfl
            rotate_left
            ·simp only [Act.put, List.setIfInBounds_toArray, List.set_cons_zero, List.set_cons_succ, i64_w, i32_w]
             rfl
            refine pure_ (i := 2) (N := some 58) (v := ?_) (a' := ?_) #[Tt,Ff,Tt,Ff,Ff,Ff,Ff,Ff] rfl rfl (any_of HT_.out (by kernel_rfl)) (fun _ _ _ h => h) (Or.inl ⟨by rfl, ?_⟩) ?_ ?_
            rotate_left
            ·intro w'
             go_simp
             with_reducible rfl
            rotate_left
            ·simp only [Act.put, List.setIfInBounds_toArray, List.set_cons_zero, List.set_cons_succ, i64_w, i32_w]
             rfl
            refine pure_ (i := 3) (N := some 59) (v := ?_) (a' := ?_) #[Tt,Ff,Tt,Tt,Ff,Ff,Ff,Ff] rfl rfl (any_of HT_.out (by kernel_rfl)) (fun _ _ _ h => h) (Or.inl ⟨by rfl, ?_⟩) ?_ ?_
            rotate_left
            ·intro w'
             go_simp
             with_reducible rfl
            rotate_left
            ·simp only [Act.put, List.setIfInBounds_toArray, List.set_cons_zero, List.set_cons_succ, i64_w, i32_w]
             rfl
            refine take_ (i := 1) (N := some 57) (v := ?_) (a' := ?_) #[Tt,Tt,Tt,Tt,Ff,Ff,Ff,Ff] rfl rfl (take_ofW HT_.out HW_.out (by kernel_rfl)) (fun _ _ _ h => h) (Or.inl ⟨by rfl, ?_⟩) hHeld ?_ ?_
            rotate_left
            ·rintro w' ⟨s0, s1, s2, s3, s4⟩
             go_simp
             with_reducible rfl
            rotate_left
            ·simp only [Act.put, List.setIfInBounds_toArray, List.set_cons_zero, List.set_cons_succ, i64_w, i32_w]
             rfl
            refine pure_ (i := 6) (N := some 9) (v := ?_) (a' := ?_) #[Tt,Tt,Tt,Tt,Ff,Ff,Tt,Ff] rfl rfl (any_of HT_.out (by kernel_rfl)) (fun _ _ _ h => h) (Or.inl ⟨by rfl, ?_⟩) ?_ ?_
            rotate_left
            ·intro w'
             go_simp
             with_reducible rfl
            rotate_left
            ·simp only [Act.put, List.setIfInBounds_toArray, List.set_cons_zero, List.set_cons_succ, i64_w, i32_w]
             rfl
            refine take_ (i := 4) (N := some 60) (v := ?_) (a' := ?_) #[Tt,Tt,Tt,Tt,Tt,Ff,Tt,Ff] rfl rfl (take_ofW HT_.out HW_.out (by kernel_rfl)) (fun _ _ _ h => h) (Or.inl ⟨by rfl, ?_⟩) hHeld ?_ ?_
            rotate_left
            ·rintro w' ⟨s0, s1, s2, s3, s4⟩
             go_simp
             with_reducible rfl
            rotate_left
            ·simp only [Act.put, List.setIfInBounds_toArray, List.set_cons_zero, List.set_cons_succ, i64_w, i32_w]
             rfl
            refine pure_ (i := 5) (N := some 61) (v := ?_) (a' := ?_) #[Tt,Tt,Tt,Tt,Tt,Tt,Tt,Ff] rfl rfl (any_of HT_.out (by kernel_rfl)) (fun _ _ _ h => h) (Or.inl ⟨by rfl, ?_⟩) ?_ ?_
            rotate_left
            ·intro w'
             go_simp
             with_reducible rfl
            rotate_left
            ·simp only [Act.put, List.setIfInBounds_toArray, List.set_cons_zero, List.set_cons_succ, i64_w, i32_w]
             rfl
            refine pure_ (i := 7) (N := some 10) (v := ?_) (a' := ?_) #[Tt,Tt,Tt,Tt,Tt,Tt,Tt,Tt] rfl rfl (any_of HT_.out (by kernel_rfl)) (fun _ _ _ h => h) (Or.inl ⟨by rfl, ?_⟩) ?_ ?_
            rotate_left
            ·intro w'
             go_simp
             with_reducible rfl
            rotate_left
            ·simp only [Act.put, List.setIfInBounds_toArray, List.set_cons_zero, List.set_cons_succ, i64_w, i32_w]
             rfl
            refine done_ (done_of HT_.out (by kernel_rfl)) ?_
            have hnb114 := NB217_206.out
            have hnc114 := NB206_217.out
            have hnb115 := NB217_207.out
            have hnc115 := NB207_217.out
            have hnb116 := NB217_208.out
            have hnc116 := NB208_217.out
            have hnb117 := NB217_211.out
            have hnc117 := NB211_217.out
            have hcz118_0 : w113.cell? ⟨gb217, 0, none⟩ = some (.string t212) := (blk_cell BK217.out 0).trans rfl
            have hcz118_1 : w113.cell? ⟨gb217, 1, none⟩ = some (.bool t213) := (blk_cell BK217.out 1).trans rfl
            have hcz118_2 : w113.cell? ⟨gb217, 2, none⟩ = some (.string t214) := (blk_cell BK217.out 2).trans rfl
            have hcz118_3 : w113.cell? ⟨gb217, 3, none⟩ = some (.string t215) := (blk_cell BK217.out 3).trans rfl
            have hcz118_4 : w113.cell? ⟨gb217, 4, none⟩ = some (.bool true) := (blk_cell BK217.out 4).trans rfl
            have hfz118_0 := blk_frozen BK217.out 0
            have hfz118_1 := blk_frozen BK217.out 1
            have hfz118_2 := blk_frozen BK217.out 2
            have hfz118_3 := blk_frozen BK217.out 3
            have hfz118_4 := blk_frozen BK217.out 4
            have hnb119 := NB211_206.out
            have hnc119 := NB206_211.out
            have hnb120 := NB211_207.out
            have hnc120 := NB207_211.out
            have hnb121 := NB211_208.out
            have hnc121 := NB208_211.out
            have hcz122_0 : w113.cell? ⟨gb211, 0, none⟩ = some (.int .i64 a1_0) := (blk_cell BK211.out 0).trans rfl
            have hcz122_1 : w113.cell? ⟨gb211, 1, none⟩ = some (.int .i64 a1_1) := (blk_cell BK211.out 1).trans rfl
            have hcz122_2 : w113.cell? ⟨gb211, 2, none⟩ = some (.int .i64 a2) := (blk_cell BK211.out 2).trans rfl
            have hcz122_3 : w113.cell? ⟨gb211, 3, none⟩ = some (.int .i64 x212003_2) := (blk_cell BK211.out 3).trans rfl
            have hcz122_4 : w113.cell? ⟨gb211, 4, none⟩ = some (.string x212004_2) := (blk_cell BK211.out 4).trans rfl
            have hcz122_5 : w113.cell? ⟨gb211, 5, none⟩ = some (u212005) := (blk_cell BK211.out 5).trans rfl
            have hfz122_0 := blk_frozen BK211.out 0
            have hfz122_1 := blk_frozen BK211.out 1
            have hfz122_2 := blk_frozen BK211.out 2
            have hfz122_3 := blk_frozen BK211.out 3
            have hfz122_4 := blk_frozen BK211.out 4
            have hfz122_5 := blk_frozen BK211.out 5
            have hnb123 := NB208_206.out
            have hnc123 := NB206_208.out
            have hnb124 := NB208_207.out
            have hnc124 := NB207_208.out
            have hcz125_0 : w113.cell? ⟨gb208, 0, none⟩ = some (.int .i64 x209000_2) := (blk_cell BK208.out 0).trans rfl
            have hcz125_1 : w113.cell? ⟨gb208, 1, none⟩ = some (.int .i64 x209001_2) := (blk_cell BK208.out 1).trans rfl
            have hcz125_2 : w113.cell? ⟨gb208, 2, none⟩ = some (.int .i64 x209002_2) := (blk_cell BK208.out 2).trans rfl
            have hcz125_3 : w113.cell? ⟨gb208, 3, none⟩ = some (.int .i64 x209003_2) := (blk_cell BK208.out 3).trans rfl
            have hcz125_4 : w113.cell? ⟨gb208, 4, none⟩ = some (.string x209004_2) := (blk_cell BK208.out 4).trans rfl
            have hcz125_5 : w113.cell? ⟨gb208, 5, none⟩ = some (.slice none 0 0) := (blk_cell BK208.out 5).trans rfl
            have hfz125_0 := blk_frozen BK208.out 0
            have hfz125_1 := blk_frozen BK208.out 1
            have hfz125_2 := blk_frozen BK208.out 2
            have hfz125_3 := blk_frozen BK208.out 3
            have hfz125_4 := blk_frozen BK208.out 4
            have hfz125_5 := blk_frozen BK208.out 5
            obtain ⟨Ao126, co126, eo126⟩ := Kd.R_slice HO_212005.out
            subst eo126
            try go_wp2
            refine bodyPost_ret (results_ct rfl _ _ gb208 38 #[.int .i64 a1_0, .int .i64 a1_1, .int .i64 a2, .int .i64 x212003_2, .string x212004_2, .slice Ao126 x212005_2.length co126] (0, 0) _ rfl (by (with_reducible repeat (first | refine blk_drewN ?_ _ | refine blk_drew ?_ | refine blk_alloc ?_ _)); refine blk_put (cs := #[.int .i64 a1_0, .int .i64 a1_1, .int .i64 a2, .int .i64 x212003_2, .string x212004_2, .slice none 0 0]) ?_ 5 _ rfl; (with_reducible repeat (first | refine blk_drewN ?_ _ | refine blk_drew ?_ | refine blk_alloc ?_ _)); refine blk_put (cs := #[.int .i64 a1_0, .int .i64 a1_1, .int .i64 a2, .int .i64 x212003_2, .string x209004_2, .slice none 0 0]) ?_ 4 _ rfl; (with_reducible repeat (first | refine blk_drewN ?_ _ | refine blk_drew ?_ | refine blk_alloc ?_ _)); refine blk_put (cs := #[.int .i64 a1_0, .int .i64 a1_1, .int .i64 a2, .int .i64 x209003_2, .string x209004_2, .slice none 0 0]) ?_ 3 _ rfl; (with_reducible repeat (first | refine blk_drewN ?_ _ | refine blk_drew ?_ | refine blk_alloc ?_ _)); refine blk_put (cs := #[.int .i64 a1_0, .int .i64 a1_1, .int .i64 x209002_2, .int .i64 x209003_2, .string x209004_2, .slice none 0 0]) ?_ 2 _ rfl; (with_reducible repeat (first | refine blk_drewN ?_ _ | refine blk_drew ?_ | refine blk_alloc ?_ _)); refine blk_put (cs := #[.int .i64 a1_0, .int .i64 x209001_2, .int .i64 x209002_2, .int .i64 x209003_2, .string x209004_2, .slice none 0 0]) ?_ 1 _ rfl; (with_reducible repeat (first | refine blk_drewN ?_ _ | refine blk_drew ?_ | refine blk_alloc ?_ _)); refine blk_put (cs := #[.int .i64 x209000_2, .int .i64 x209001_2, .int .i64 x209002_2, .int .i64 x209003_2, .string x209004_2, .slice none 0 0]) ?_ 0 _ rfl; (with_reducible repeat (first | refine blk_drewN ?_ _ | refine blk_drew ?_ | refine blk_alloc ?_ _)); exact BK208.out) Tryd.underlying38 rfl (by kernel_rfl)) rfl ?_
            exact ⟨_, by first | rfl | (simp [errW_none, errW_some] <;> rfl) | (simp [*, errW_none, errW_some] <;> rfl), by (with_reducible repeat (first | apply Kd.R_alloc | apply Kd.R_drewN | apply Kd.R_drew)); exact Kd.R_mono (Kd.R_far (p := ⟨gb208, 5, none⟩) (Kd.R_far (p := ⟨gb208, 4, none⟩) (Kd.R_far (p := ⟨gb208, 3, none⟩) (Kd.R_far (p := ⟨gb208, 2, none⟩) (Kd.R_far (p := ⟨gb208, 1, none⟩) (Kd.R_far (p := ⟨gb208, 0, none⟩) (Kd.R_types HO_212005.out BK208.out (by decide)) (fun _ hk => hk.2) (.int .i64 a1_0)) (fun _ hk => hk.2) (.int .i64 a1_1)) (fun _ hk => hk.2) (.int .i64 a2)) (fun _ hk => hk.2) (.int .i64 x212003_2)) (fun _ hk => hk.2) (.string x212004_2)) (fun _ hk => hk.2) (.slice Ao126 x212005_2.length co126)) (fun _ hk => trivial), by repeat (first | (with_reducible first | exact HB.out | apply below_alloc | apply pw_below_drewN | apply below_drew1 | refine below_set ?_ GE206.out | refine below_set ?_ GE207.out | refine below_set ?_ GE208.out | refine below_set ?_ GE211.out | refine below_set ?_ GE217.out) | exact HB.out)⟩
          ·rw [if_neg c72] at H
           exact absurd H (by simp)
       ·replace c50 := Bool.eq_false_iff.mpr c50
        subst c50
        have H1 : (some (a1_0, a1_1, a2, x212003_2, x212004_2, x212005_2, 0)) = some (r1, r2, r3, r4, r5, r6, r7) := by rw [if_neg (show ¬ (false = true) by decide)] at H; exact H
        clear H
        have H := H1
        clear H1
        simp only [Option.some.injEq, Prod.mk.injEq] at H
        obtain ⟨rfl, rfl, rfl, rfl, rfl, rfl, rfl⟩ := H
        have hnb127 := NB207_206.out
        have hnc127 := NB206_207.out
        have hnb128 := NB207_208.out
        have hnc128 := NB208_207.out
        have hnb129 := NB207_211.out
        have hnc129 := NB211_207.out
        have hcz130_0 : wr.cell? ⟨gb207, 0, none⟩ = some (.int .i64 a1_0) := (blk_cell BK207.out 0).trans rfl
        have hcz130_1 : wr.cell? ⟨gb207, 1, none⟩ = some (.int .i64 a1_1) := (blk_cell BK207.out 1).trans rfl
        have hfz130_0 := blk_frozen BK207.out 0
        have hfz130_1 := blk_frozen BK207.out 1
        have hnb131 := NB206_208.out
        have hnc131 := NB208_206.out
        have hnb132 := NB206_211.out
        have hnc132 := NB211_206.out
        have hcz133_0 : wr.cell? ⟨gb206, 0, none⟩ = some (.slice A0_0 l0_0.length c0_0) := (blk_cell BK206.out 0).trans rfl
        have hcz133_1 : wr.cell? ⟨gb206, 1, none⟩ = some (.slice A0_1 l0_1.length c0_1) := (blk_cell BK206.out 1).trans rfl
        have hfz133_0 := blk_frozen BK206.out 0
        have hfz133_1 := blk_frozen BK206.out 1
        go_wp2_with (first | ((with_reducible refine gate_callee (f := 52) rfl ?_); refine goesL_ (some 47) rfl rfl Tryd.func52 (by kernel_rfl) rfl #[.agg #[.slice A0_0 l0_0.length c0_0, .slice A0_1 l0_1.length c0_1], .int .i64 (wrap64 (a1_0 + x12_2)), .string x9_2, .int .i64 a2] rfl (by (try simp only [List.map_toArray, List.map_cons, List.map_nil]); first | done | rfl | (simp only [List.length_drop, List.length_take]; rfl)) ?_; (with_reducible refine (modcertref51_read.calls k2 _ _ l0_0 _ _ l0_1 (wrap64 (a1_0 + x12_2)) x9_2 a2 t212 t213 t214 t215 false _ ?side1 ?side2 ?side3 ?side4 A49.out).mono ?_); (case side1 => repeat (first | exact (Kd.C_below HR0_0.out HB.out) | (with_reducible refine Kd.C_alloc ?_ _) | (with_reducible refine Kd.C_drewN ?_ _) | (with_reducible refine Kd.C_drew ?_))); (case side2 => exact HC0_0.out); (case side3 => repeat (first | exact (Kd.C_below HR0_1.out HB.out) | (with_reducible refine Kd.C_alloc ?_ _) | (with_reducible refine Kd.C_drewN ?_ _) | (with_reducible refine Kd.C_drew ?_))); (case side4 => exact HC0_1.out); rintro e w134 ⟨rfl, hb⟩; refine ⟨_, rfl, ?_⟩; have n0_ := Aside0.mk (Kd.R_below (by (with_reducible repeat (first | apply Kd.R_alloc | apply Kd.R_drewN | apply Kd.R_drew)); exact HO_212005.out) hb); have n1_ := Aside0.mk (blk_below (g := gb206) (o := .cells #[.slice A0_0 l0_0.length c0_0, .slice A0_1 l0_1.length c0_1] 29 (0, 0)) (by (with_reducible repeat (first | refine blk_drewN ?_ _ | refine blk_drew ?_ | refine blk_alloc ?_ _)); exact BK206.out) hb); have n2_ := Aside0.mk (blk_below (g := gb207) (o := .cells #[.int .i64 a1_0, .int .i64 a1_1] 24 (0, 0)) (by (with_reducible repeat (first | refine blk_drewN ?_ _ | refine blk_drew ?_ | refine blk_alloc ?_ _)); exact BK207.out) hb); have n3_ := Aside0.mk (blk_below (g := gb208) (o := .cells #[.int .i64 x209000_2, .int .i64 x209001_2, .int .i64 x209002_2, .int .i64 x209003_2, .string x209004_2, .slice none 0 0] 38 (0, 0)) (by (with_reducible repeat (first | refine blk_drewN ?_ _ | refine blk_drew ?_ | refine blk_alloc ?_ _)); exact BK208.out) hb); have n4_ := Aside0.mk (blk_below (g := gb211) (o := .cells #[.int .i64 a1_0, .int .i64 a1_1, .int .i64 a2, .int .i64 x212003_2, .string x212004_2, u212005] 38 (0, 0)) (by (with_reducible repeat (first | refine blk_drewN ?_ _ | refine blk_drew ?_ | refine blk_alloc ?_ _)); exact BK211.out) hb); have n5_ := Aside0.mk (below_step (by repeat (first | (with_reducible first | exact HB.out | apply below_alloc | apply pw_below_drewN | apply below_drew1 | refine below_set ?_ GE206.out | refine below_set ?_ GE207.out | refine below_set ?_ GE208.out | refine below_set ?_ GE211.out) | exact HB.out)) hb); clear HO_212005; clear BK206; clear BK207; clear BK208; clear BK211; clear HB; have HO_212005 := n0_; have BK206 := n1_; have BK207 := n2_; have BK208 := n3_; have BK211 := n4_; have HB := n5_; clear n0_ n1_ n2_ n3_ n4_ n5_; (try clear hb); (try clear hb2); (try clear hk); (try clear hi)) | ((with_reducible refine gate_dst (N := 13) rfl ?_); refine box_event ?hg (N := 13) ?hd (cs := #[.string (⟨#[]⟩ : ByteArray), .bool false, .string (⟨#[]⟩ : ByteArray), .string (⟨#[]⟩ : ByteArray), .bool false]) (t := 114) ?hr ?_; (case hd => rfl); (case hg => rfl); (case hr => first | (go_simp; done) | (go_simp; rfl)); intro gb217 hg w135 hbox hb; have n0_ := Aside0.mk (Kd.R_below (by (with_reducible repeat (first | apply Kd.R_alloc | apply Kd.R_drewN | apply Kd.R_drew)); exact HO_212005.out) hb); have n1_ := Aside0.mk (blk_below (g := gb206) (o := .cells #[.slice A0_0 l0_0.length c0_0, .slice A0_1 l0_1.length c0_1] 29 (0, 0)) (by (with_reducible repeat (first | refine blk_drewN ?_ _ | refine blk_drew ?_ | refine blk_alloc ?_ _)); exact BK206.out) hb); have n2_ := Aside0.mk (blk_below (g := gb207) (o := .cells #[.int .i64 a1_0, .int .i64 a1_1] 24 (0, 0)) (by (with_reducible repeat (first | refine blk_drewN ?_ _ | refine blk_drew ?_ | refine blk_alloc ?_ _)); exact BK207.out) hb); have n3_ := Aside0.mk (blk_below (g := gb208) (o := .cells #[.int .i64 x209000_2, .int .i64 x209001_2, .int .i64 x209002_2, .int .i64 x209003_2, .string x209004_2, .slice none 0 0] 38 (0, 0)) (by (with_reducible repeat (first | refine blk_drewN ?_ _ | refine blk_drew ?_ | refine blk_alloc ?_ _)); exact BK208.out) hb); have n4_ := Aside0.mk (blk_below (g := gb211) (o := .cells #[.int .i64 a1_0, .int .i64 a1_1, .int .i64 a2, .int .i64 x212003_2, .string x212004_2, u212005] 38 (0, 0)) (by (with_reducible repeat (first | refine blk_drewN ?_ _ | refine blk_drew ?_ | refine blk_alloc ?_ _)); exact BK211.out) hb); have n5_ := Aside0.mk (below_step (by repeat (first | (with_reducible first | exact HB.out | apply below_alloc | apply pw_below_drewN | apply below_drew1 | refine below_set ?_ GE206.out | refine below_set ?_ GE207.out | refine below_set ?_ GE208.out | refine below_set ?_ GE211.out) | exact HB.out)) hb); have n6_ := Aside0.mk (hbox); have n7_ := Aside0.mk ((by rw [hg]; exact (below_size (by repeat (first | (with_reducible first | exact HB.out | apply below_alloc | apply pw_below_drewN | apply below_drew1 | refine below_set ?_ GE206.out | refine below_set ?_ GE207.out | refine below_set ?_ GE208.out | refine below_set ?_ GE211.out) | exact HB.out))) : w.heap.size ≤ gb217)); have n8_ := Aside0.mk ((by rw [hg]; exact (below_size (by repeat (first | (with_reducible first | exact HB.out | apply below_alloc | apply pw_below_drewN | apply below_drew1 | refine below_set ?_ GE206.out | refine below_set ?_ GE207.out | refine below_set ?_ GE208.out | refine below_set ?_ GE211.out) | exact HB.out))) : w.heap.size ≤ gb217)); have n9_ := Aside0.mk ((by rw [hg]; exact Nat.ne_of_lt (blk_lt (g := gb206) (o := .cells #[.slice A0_0 l0_0.length c0_0, .slice A0_1 l0_1.length c0_1] 29 (0, 0)) (by (with_reducible repeat (first | refine blk_drewN ?_ _ | refine blk_drew ?_ | refine blk_alloc ?_ _)); exact BK206.out)) : gb206 ≠ gb217)); have n10_ := Aside0.mk ((by rw [hg]; exact Nat.ne_of_gt (blk_lt (g := gb206) (o := .cells #[.slice A0_0 l0_0.length c0_0, .slice A0_1 l0_1.length c0_1] 29 (0, 0)) (by (with_reducible repeat (first | refine blk_drewN ?_ _ | refine blk_drew ?_ | refine blk_alloc ?_ _)); exact BK206.out)) : gb217 ≠ gb206)); have n11_ := Aside0.mk ((by rw [hg]; exact Nat.ne_of_lt (blk_lt (g := gb207) (o := .cells #[.int .i64 a1_0, .int .i64 a1_1] 24 (0, 0)) (by (with_reducible repeat (first | refine blk_drewN ?_ _ | refine blk_drew ?_ | refine blk_alloc ?_ _)); exact BK207.out)) : gb207 ≠ gb217)); have n12_ := Aside0.mk ((by rw [hg]; exact Nat.ne_of_gt (blk_lt (g := gb207) (o := .cells #[.int .i64 a1_0, .int .i64 a1_1] 24 (0, 0)) (by (with_reducible repeat (first | refine blk_drewN ?_ _ | refine blk_drew ?_ | refine blk_alloc ?_ _)); exact BK207.out)) : gb217 ≠ gb207)); have n13_ := Aside0.mk ((by rw [hg]; exact Nat.ne_of_lt (blk_lt (g := gb208) (o := .cells #[.int .i64 x209000_2, .int .i64 x209001_2, .int .i64 x209002_2, .int .i64 x209003_2, .string x209004_2, .slice none 0 0] 38 (0, 0)) (by (with_reducible repeat (first | refine blk_drewN ?_ _ | refine blk_drew ?_ | refine blk_alloc ?_ _)); exact BK208.out)) : gb208 ≠ gb217)); have n14_ := Aside0.mk ((by rw [hg]; exact Nat.ne_of_gt (blk_lt (g := gb208) (o := .cells #[.int .i64 x209000_2, .int .i64 x209001_2, .int .i64 x209002_2, .int .i64 x209003_2, .string x209004_2, .slice none 0 0] 38 (0, 0)) (by (with_reducible repeat (first | refine blk_drewN ?_ _ | refine blk_drew ?_ | refine blk_alloc ?_ _)); exact BK208.out)) : gb217 ≠ gb208)); have n15_ := Aside0.mk ((by rw [hg]; exact Nat.ne_of_lt (blk_lt (g := gb211) (o := .cells #[.int .i64 a1_0, .int .i64 a1_1, .int .i64 a2, .int .i64 x212003_2, .string x212004_2, u212005] 38 (0, 0)) (by (with_reducible repeat (first | refine blk_drewN ?_ _ | refine blk_drew ?_ | refine blk_alloc ?_ _)); exact BK211.out)) : gb211 ≠ gb217)); have n16_ := Aside0.mk ((by rw [hg]; exact Nat.ne_of_gt (blk_lt (g := gb211) (o := .cells #[.int .i64 a1_0, .int .i64 a1_1, .int .i64 a2, .int .i64 x212003_2, .string x212004_2, u212005] 38 (0, 0)) (by (with_reducible repeat (first | refine blk_drewN ?_ _ | refine blk_drew ?_ | refine blk_alloc ?_ _)); exact BK211.out)) : gb217 ≠ gb211)); clear HO_212005; clear BK206; clear BK207; clear BK208; clear BK211; clear HB; have HO_212005 := n0_; have BK206 := n1_; have BK207 := n2_; have BK208 := n3_; have BK211 := n4_; have HB := n5_; have BK217 := n6_; have GW217 := n7_; have GE217 := n8_; have NB206_217 := n9_; have NB217_206 := n10_; have NB207_217 := n11_; have NB217_207 := n12_; have NB208_217 := n13_; have NB217_208 := n14_; have NB211_217 := n15_; have NB217_211 := n16_; clear n0_ n1_ n2_ n3_ n4_ n5_ n6_ n7_ n8_ n9_ n10_ n11_ n12_ n13_ n14_ n15_ n16_; clear hb hbox hg; have hnb136 := NB217_206.out; have hnc136 := NB206_217.out; have hnb137 := NB217_207.out; have hnc137 := NB207_217.out; have hnb138 := NB217_208.out; have hnc138 := NB208_217.out; have hnb139 := NB217_211.out; have hnc139 := NB211_217.out; have hcz140_0 : w135.cell? ⟨gb217, 0, none⟩ = some (.string (⟨#[]⟩ : ByteArray)) := (blk_cell BK217.out 0).trans rfl; have hcz140_1 : w135.cell? ⟨gb217, 1, none⟩ = some (.bool false) := (blk_cell BK217.out 1).trans rfl; have hcz140_2 : w135.cell? ⟨gb217, 2, none⟩ = some (.string (⟨#[]⟩ : ByteArray)) := (blk_cell BK217.out 2).trans rfl; have hcz140_3 : w135.cell? ⟨gb217, 3, none⟩ = some (.string (⟨#[]⟩ : ByteArray)) := (blk_cell BK217.out 3).trans rfl; have hcz140_4 : w135.cell? ⟨gb217, 4, none⟩ = some (.bool false) := (blk_cell BK217.out 4).trans rfl; have hfz140_0 := blk_frozen BK217.out 0; have hfz140_1 := blk_frozen BK217.out 1; have hfz140_2 := blk_frozen BK217.out 2; have hfz140_3 := blk_frozen BK217.out 3; have hfz140_4 := blk_frozen BK217.out 4; have hnb141 := NB211_208.out; have hnc141 := NB208_211.out; have hcz142_0 : w135.cell? ⟨gb211, 0, none⟩ = some (.int .i64 a1_0) := (blk_cell BK211.out 0).trans rfl; have hcz142_1 : w135.cell? ⟨gb211, 1, none⟩ = some (.int .i64 a1_1) := (blk_cell BK211.out 1).trans rfl; have hcz142_2 : w135.cell? ⟨gb211, 2, none⟩ = some (.int .i64 a2) := (blk_cell BK211.out 2).trans rfl; have hcz142_3 : w135.cell? ⟨gb211, 3, none⟩ = some (.int .i64 x212003_2) := (blk_cell BK211.out 3).trans rfl; have hcz142_4 : w135.cell? ⟨gb211, 4, none⟩ = some (.string x212004_2) := (blk_cell BK211.out 4).trans rfl; have hcz142_5 : w135.cell? ⟨gb211, 5, none⟩ = some (u212005) := (blk_cell BK211.out 5).trans rfl; have hfz142_0 := blk_frozen BK211.out 0; have hfz142_1 := blk_frozen BK211.out 1; have hfz142_2 := blk_frozen BK211.out 2; have hfz142_3 := blk_frozen BK211.out 3; have hfz142_4 := blk_frozen BK211.out 4; have hfz142_5 := blk_frozen BK211.out 5; have hcz143_0 : w135.cell? ⟨gb208, 0, none⟩ = some (.int .i64 x209000_2) := (blk_cell BK208.out 0).trans rfl; have hcz143_1 : w135.cell? ⟨gb208, 1, none⟩ = some (.int .i64 x209001_2) := (blk_cell BK208.out 1).trans rfl; have hcz143_2 : w135.cell? ⟨gb208, 2, none⟩ = some (.int .i64 x209002_2) := (blk_cell BK208.out 2).trans rfl; have hcz143_3 : w135.cell? ⟨gb208, 3, none⟩ = some (.int .i64 x209003_2) := (blk_cell BK208.out 3).trans rfl; have hcz143_4 : w135.cell? ⟨gb208, 4, none⟩ = some (.string x209004_2) := (blk_cell BK208.out 4).trans rfl; have hcz143_5 : w135.cell? ⟨gb208, 5, none⟩ = some (.slice none 0 0) := (blk_cell BK208.out 5).trans rfl; have hfz143_0 := blk_frozen BK208.out 0; have hfz143_1 := blk_frozen BK208.out 1; have hfz143_2 := blk_frozen BK208.out 2; have hfz143_3 := blk_frozen BK208.out 3; have hfz143_4 := blk_frozen BK208.out 4; have hfz143_5 := blk_frozen BK208.out 5; obtain ⟨Ao144, co144, eo144⟩ := Kd.R_slice HO_212005.out; subst eo144))
        refine bodyPost_ret (results_ct rfl _ _ gb208 38 #[.int .i64 a1_0, .int .i64 a1_1, .int .i64 a2, .int .i64 x212003_2, .string x212004_2, .slice Ao144 x212005_2.length co144] (0, 0) _ rfl (by (with_reducible repeat (first | refine blk_drewN ?_ _ | refine blk_drew ?_ | refine blk_alloc ?_ _)); refine blk_put (cs := #[.int .i64 a1_0, .int .i64 a1_1, .int .i64 a2, .int .i64 x212003_2, .string x212004_2, .slice none 0 0]) ?_ 5 _ rfl; (with_reducible repeat (first | refine blk_drewN ?_ _ | refine blk_drew ?_ | refine blk_alloc ?_ _)); refine blk_put (cs := #[.int .i64 a1_0, .int .i64 a1_1, .int .i64 a2, .int .i64 x212003_2, .string x209004_2, .slice none 0 0]) ?_ 4 _ rfl; (with_reducible repeat (first | refine blk_drewN ?_ _ | refine blk_drew ?_ | refine blk_alloc ?_ _)); refine blk_put (cs := #[.int .i64 a1_0, .int .i64 a1_1, .int .i64 a2, .int .i64 x209003_2, .string x209004_2, .slice none 0 0]) ?_ 3 _ rfl; (with_reducible repeat (first | refine blk_drewN ?_ _ | refine blk_drew ?_ | refine blk_alloc ?_ _)); refine blk_put (cs := #[.int .i64 a1_0, .int .i64 a1_1, .int .i64 x209002_2, .int .i64 x209003_2, .string x209004_2, .slice none 0 0]) ?_ 2 _ rfl; (with_reducible repeat (first | refine blk_drewN ?_ _ | refine blk_drew ?_ | refine blk_alloc ?_ _)); refine blk_put (cs := #[.int .i64 a1_0, .int .i64 x209001_2, .int .i64 x209002_2, .int .i64 x209003_2, .string x209004_2, .slice none 0 0]) ?_ 1 _ rfl; (with_reducible repeat (first | refine blk_drewN ?_ _ | refine blk_drew ?_ | refine blk_alloc ?_ _)); refine blk_put (cs := #[.int .i64 x209000_2, .int .i64 x209001_2, .int .i64 x209002_2, .int .i64 x209003_2, .string x209004_2, .slice none 0 0]) ?_ 0 _ rfl; (with_reducible repeat (first | refine blk_drewN ?_ _ | refine blk_drew ?_ | refine blk_alloc ?_ _)); refine blk_far ?_ NB208_217.out _; (with_reducible repeat (first | refine blk_drewN ?_ _ | refine blk_drew ?_ | refine blk_alloc ?_ _)); refine blk_far ?_ NB208_217.out _; (with_reducible repeat (first | refine blk_drewN ?_ _ | refine blk_drew ?_ | refine blk_alloc ?_ _)); refine blk_far ?_ NB208_217.out _; (with_reducible repeat (first | refine blk_drewN ?_ _ | refine blk_drew ?_ | refine blk_alloc ?_ _)); refine blk_far ?_ NB208_217.out _; (with_reducible repeat (first | refine blk_drewN ?_ _ | refine blk_drew ?_ | refine blk_alloc ?_ _)); refine blk_far ?_ NB208_217.out _; (with_reducible repeat (first | refine blk_drewN ?_ _ | refine blk_drew ?_ | refine blk_alloc ?_ _)); exact BK208.out) Tryd.underlying38 rfl (by kernel_rfl)) rfl ?_
        exact ⟨_, by first | rfl | (simp [errW_none, errW_some] <;> rfl) | (simp [*, errW_none, errW_some] <;> rfl), by (with_reducible repeat (first | apply Kd.R_alloc | apply Kd.R_drewN | apply Kd.R_drew)); exact Kd.R_mono (Kd.R_far (p := ⟨gb208, 5, none⟩) (Kd.R_far (p := ⟨gb208, 4, none⟩) (Kd.R_far (p := ⟨gb208, 3, none⟩) (Kd.R_far (p := ⟨gb208, 2, none⟩) (Kd.R_far (p := ⟨gb208, 1, none⟩) (Kd.R_far (p := ⟨gb208, 0, none⟩) (Kd.R_far (p := ⟨gb217, 4, none⟩) (Kd.R_far (p := ⟨gb217, 3, none⟩) (Kd.R_far (p := ⟨gb217, 2, none⟩) (Kd.R_far (p := ⟨gb217, 1, none⟩) (Kd.R_far (p := ⟨gb217, 0, none⟩) (Kd.R_types (Kd.R_types HO_212005.out BK217.out (by decide)) BK208.out (by decide)) (fun _ hk => hk.1.2) (.string t212)) (fun _ hk => hk.1.2) (.bool t213)) (fun _ hk => hk.1.2) (.string t214)) (fun _ hk => hk.1.2) (.string t215)) (fun _ hk => hk.1.2) (.bool false)) (fun _ hk => hk.2) (.int .i64 a1_0)) (fun _ hk => hk.2) (.int .i64 a1_1)) (fun _ hk => hk.2) (.int .i64 a2)) (fun _ hk => hk.2) (.int .i64 x212003_2)) (fun _ hk => hk.2) (.string x212004_2)) (fun _ hk => hk.2) (.slice Ao144 x212005_2.length co144)) (fun _ hk => trivial), by repeat (first | (with_reducible first | exact HB.out | apply below_alloc | apply pw_below_drewN | apply below_drew1 | refine below_set ?_ GE206.out | refine below_set ?_ GE207.out | refine below_set ?_ GE208.out | refine below_set ?_ GE211.out | refine below_set ?_ GE217.out) | exact HB.out)⟩
      ·rw [if_neg c48] at H
       have c48b0 : decide (x12_2 < a1_1) = false := decide_eq_false c48
       clear c48
       simp only [Option.some.injEq, Prod.mk.injEq] at H
       obtain ⟨rfl, rfl, rfl, rfl, rfl, rfl, rfl⟩ := H
       have hnb145 := NB207_206.out
       have hnc145 := NB206_207.out
       have hnb146 := NB207_208.out
       have hnc146 := NB208_207.out
       have hnb147 := NB207_211.out
       have hnc147 := NB211_207.out
       have hcz148_0 : wr.cell? ⟨gb207, 0, none⟩ = some (.int .i64 a1_0) := (blk_cell BK207.out 0).trans rfl
       have hcz148_1 : wr.cell? ⟨gb207, 1, none⟩ = some (.int .i64 a1_1) := (blk_cell BK207.out 1).trans rfl
       have hfz148_0 := blk_frozen BK207.out 0
       have hfz148_1 := blk_frozen BK207.out 1
       have hnb149 := NB211_206.out
       have hnc149 := NB206_211.out
       have hnb150 := NB211_208.out
       have hnc150 := NB208_211.out
       have hcz151_0 : wr.cell? ⟨gb211, 0, none⟩ = some (.int .i64 a1_0) := (blk_cell BK211.out 0).trans rfl
       have hcz151_1 : wr.cell? ⟨gb211, 1, none⟩ = some (.int .i64 a1_1) := (blk_cell BK211.out 1).trans rfl
       have hcz151_2 : wr.cell? ⟨gb211, 2, none⟩ = some (.int .i64 a2) := (blk_cell BK211.out 2).trans rfl
       have hcz151_3 : wr.cell? ⟨gb211, 3, none⟩ = some (.int .i64 x212003_2) := (blk_cell BK211.out 3).trans rfl
       have hcz151_4 : wr.cell? ⟨gb211, 4, none⟩ = some (.string x212004_2) := (blk_cell BK211.out 4).trans rfl
       have hcz151_5 : wr.cell? ⟨gb211, 5, none⟩ = some (u212005) := (blk_cell BK211.out 5).trans rfl
       have hfz151_0 := blk_frozen BK211.out 0
       have hfz151_1 := blk_frozen BK211.out 1
       have hfz151_2 := blk_frozen BK211.out 2
       have hfz151_3 := blk_frozen BK211.out 3
       have hfz151_4 := blk_frozen BK211.out 4
       have hfz151_5 := blk_frozen BK211.out 5
       have hnb152 := NB208_206.out
       have hnc152 := NB206_208.out
       have hcz153_0 : wr.cell? ⟨gb208, 0, none⟩ = some (.int .i64 x209000_2) := (blk_cell BK208.out 0).trans rfl
       have hcz153_1 : wr.cell? ⟨gb208, 1, none⟩ = some (.int .i64 x209001_2) := (blk_cell BK208.out 1).trans rfl
       have hcz153_2 : wr.cell? ⟨gb208, 2, none⟩ = some (.int .i64 x209002_2) := (blk_cell BK208.out 2).trans rfl
       have hcz153_3 : wr.cell? ⟨gb208, 3, none⟩ = some (.int .i64 x209003_2) := (blk_cell BK208.out 3).trans rfl
       have hcz153_4 : wr.cell? ⟨gb208, 4, none⟩ = some (.string x209004_2) := (blk_cell BK208.out 4).trans rfl
       have hcz153_5 : wr.cell? ⟨gb208, 5, none⟩ = some (.slice none 0 0) := (blk_cell BK208.out 5).trans rfl
       have hfz153_0 := blk_frozen BK208.out 0
       have hfz153_1 := blk_frozen BK208.out 1
       have hfz153_2 := blk_frozen BK208.out 2
       have hfz153_3 := blk_frozen BK208.out 3
       have hfz153_4 := blk_frozen BK208.out 4
       have hfz153_5 := blk_frozen BK208.out 5
       obtain ⟨Ao154, co154, eo154⟩ := Kd.R_slice HO_212005.out
       subst eo154
       go_wp2
       refine bodyPost_ret (results_ct rfl _ _ gb208 38 #[.int .i64 a1_0, .int .i64 a1_1, .int .i64 a2, .int .i64 x212003_2, .string x212004_2, .slice Ao154 x212005_2.length co154] (0, 0) _ rfl (by (with_reducible repeat (first | refine blk_drewN ?_ _ | refine blk_drew ?_ | refine blk_alloc ?_ _)); refine blk_put (cs := #[.int .i64 a1_0, .int .i64 a1_1, .int .i64 a2, .int .i64 x212003_2, .string x212004_2, .slice none 0 0]) ?_ 5 _ rfl; (with_reducible repeat (first | refine blk_drewN ?_ _ | refine blk_drew ?_ | refine blk_alloc ?_ _)); refine blk_put (cs := #[.int .i64 a1_0, .int .i64 a1_1, .int .i64 a2, .int .i64 x212003_2, .string x209004_2, .slice none 0 0]) ?_ 4 _ rfl; (with_reducible repeat (first | refine blk_drewN ?_ _ | refine blk_drew ?_ | refine blk_alloc ?_ _)); refine blk_put (cs := #[.int .i64 a1_0, .int .i64 a1_1, .int .i64 a2, .int .i64 x209003_2, .string x209004_2, .slice none 0 0]) ?_ 3 _ rfl; (with_reducible repeat (first | refine blk_drewN ?_ _ | refine blk_drew ?_ | refine blk_alloc ?_ _)); refine blk_put (cs := #[.int .i64 a1_0, .int .i64 a1_1, .int .i64 x209002_2, .int .i64 x209003_2, .string x209004_2, .slice none 0 0]) ?_ 2 _ rfl; (with_reducible repeat (first | refine blk_drewN ?_ _ | refine blk_drew ?_ | refine blk_alloc ?_ _)); refine blk_put (cs := #[.int .i64 a1_0, .int .i64 x209001_2, .int .i64 x209002_2, .int .i64 x209003_2, .string x209004_2, .slice none 0 0]) ?_ 1 _ rfl; (with_reducible repeat (first | refine blk_drewN ?_ _ | refine blk_drew ?_ | refine blk_alloc ?_ _)); refine blk_put (cs := #[.int .i64 x209000_2, .int .i64 x209001_2, .int .i64 x209002_2, .int .i64 x209003_2, .string x209004_2, .slice none 0 0]) ?_ 0 _ rfl; (with_reducible repeat (first | refine blk_drewN ?_ _ | refine blk_drew ?_ | refine blk_alloc ?_ _)); exact BK208.out) Tryd.underlying38 rfl (by kernel_rfl)) rfl ?_
       exact ⟨_, by first | rfl | (simp [errW_none, errW_some] <;> rfl) | (simp [*, errW_none, errW_some] <;> rfl), by (with_reducible repeat (first | apply Kd.R_alloc | apply Kd.R_drewN | apply Kd.R_drew)); exact Kd.R_mono (Kd.R_far (p := ⟨gb208, 5, none⟩) (Kd.R_far (p := ⟨gb208, 4, none⟩) (Kd.R_far (p := ⟨gb208, 3, none⟩) (Kd.R_far (p := ⟨gb208, 2, none⟩) (Kd.R_far (p := ⟨gb208, 1, none⟩) (Kd.R_far (p := ⟨gb208, 0, none⟩) (Kd.R_types HO_212005.out BK208.out (by decide)) (fun _ hk => hk.2) (.int .i64 a1_0)) (fun _ hk => hk.2) (.int .i64 a1_1)) (fun _ hk => hk.2) (.int .i64 a2)) (fun _ hk => hk.2) (.int .i64 x212003_2)) (fun _ hk => hk.2) (.string x212004_2)) (fun _ hk => hk.2) (.slice Ao154 x212005_2.length co154)) (fun _ hk => trivial), by repeat (first | (with_reducible first | exact HB.out | apply below_alloc | apply pw_below_drewN | apply below_drew1 | refine below_set ?_ GE206.out | refine below_set ?_ GE207.out | refine below_set ?_ GE208.out | refine below_set ?_ GE211.out) | exact HB.out)⟩
end Go.Proofs.YtpmjipokkkkljaaDoor.Pr
