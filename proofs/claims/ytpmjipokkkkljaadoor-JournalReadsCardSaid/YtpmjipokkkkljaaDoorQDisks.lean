/-
  Part of the proof of cd_card: the lemmas of Disks that it uses.
-/
import Derived.Test.YtpmjipokkkkljaaDoorQBase
import Derived.Maps.OwnSet
import Derived.Maps.Views
import Derived.Deep.RegionLaw
import Derived.Deep.RegionLawGrows
import Derived.StillTailTactics
namespace Go.Proofs.YtpmjipokkkkljaaDoor
set_option linter.all false
set_option linter.unusedVariables false
set_option linter.unusedSimpArgs false
open Go.RowKit Go.Proofs.YtpmjipokkkkljaaDoorW.PrintWords Go.Proofs.YtpmjipokkkkljaaDoorW.PrintLast Go.Proofs.YtpmjipokkkkljaaDoorW.PrintMore
open Go.WideMaps Go.WideElems
/-- A pending write. -/
structure Wr where
  page : Int
  data : ByteArray
def kWr : Kd Wr := Kd.iso (Kd.pair (Kd.int .i64) Kd.string) (fun x : Wr => (x.page, x.data))
theorem kWr_open {w : World} {x : Wr} {cs : List Value} (h : kWr.K w x cs) : cs = [.int .i64 x.page, .string x.data] := by
  obtain ⟨_, _, rfl, rfl, rfl⟩ := h
  exact rfl
theorem kWr_mkM (w : World) (base : Nat) (ok : Nat → Prop) (x : Wr) : kWr.M w base ok x [.int .i64 x.page, .string x.data] := ⟨[.int .i64 x.page], [.string x.data], rfl, rfl, rfl⟩
abbrev Op64 := Pr.S64
abbrev kOp : Kd Op64 := Pr.k64
/-- A map from int to int that holds what f says. -/
def IMap (w : World) (bm n : Nat) (f : Int → Option Int) : Prop :=
  ∃ D : DataW Unit, w.ownsMap Tryd.prog 3 (plainElem Tryd.prog 3) bm n D ∧ Maps.IsMap D ∧
    ∀ p : Int, (Lit.int .i64 p).wf = true → Maps.has D (.int .i64 p) = (f p).isSome ∧ ∀ c, f p = some c → D.atKey (.int .i64 p) (.lit (.int .i64 0)) = .lit (.int .i64 c)
/-- The last index at which a page is written. -/
def lastIdx : List Wr → Int → Option Int
  | [], _ => none
  | x :: r, p => match lastIdx r p with
    | some i => some (i + 1)
    | none => if x.page = p then some 0 else none
structure DK where
  dur : List ByteArray
  pend : List Wr
  on : Bool
  recd : List Op64
theorem IMap.lt {w : World} {bm n : Nat} {f : Int → Option Int} (h : IMap w bm n f) : bm < w.heap.size := by
  obtain ⟨D, h, _⟩ := h
  exact h.lt
theorem IMap.no_cells {w : World} {bm n : Nat} {f : Int → Option Int} (h : IMap w bm n f) {cs : Array Value} {t : TypeId} {fz : Nat × Nat} : ¬ w.heap[bm]? = some (.cells cs t fz) := by
  obtain ⟨D, ⟨es, clock, hb, _⟩, _⟩ := h
  rw [hb]; simp
theorem IMap.move {w w1 : World} {bm n : Nat} {f : Int → Option Int} (h : IMap w bm n f) (hm : w1.heap[bm]? = w.heap[bm]?) : IMap w1 bm n f := by
  obtain ⟨D, ⟨es, clock, hb, r⟩, r2⟩ := h
  exact ⟨D, ⟨es, clock, hm.trans hb, r⟩, r2⟩
def IsDisk (w : World) (F : Nat → Prop) (b : Nat) (d : DK) : Prop :=
  ∃ (v0 v1 : Value) (bm : Nat) (v4 : Value), Blk w b #[v0, v1, .map (some bm), .bool d.on, v4] 75 ∧ F b ∧ F bm ∧
    Kd.R Kd.string 9 w 0 F v0 d.dur ∧ Kd.R kWr 77 w 0 F v1 d.pend ∧ Kd.R kOp 64 w 0 F v4 d.recd ∧
    IMap w bm d.pend.length (lastIdx d.pend) ∧ (∀ k, F k → k < w.heap.size)
theorem IsDisk.upd {w w' : World} {F S : Nat → Prop} {b : Nat} {d : DK} (h : IsDisk w F b d) (hu : Upd S w w') (hS : ∀ k, F k → ¬ S k) : IsDisk w' F b d := by
  obtain ⟨v0, v1, bm, v4, hb, hFb, hFm, h0, h1, h4, hm, hlt⟩ := h
  have hst : ∀ k, F k → k < w.heap.size → w'.heap[k]? = w.heap[k]? := fun k hk hl => hu.block k hl (hS k hk)
  exact ⟨v0, v1, bm, v4, hb.upd hu (hS b hFb), hFb, hFm, Kd.R_step h0 hst, Kd.R_step h1 hst, Kd.R_step h4 hst, hm.move (hst bm hFm hm.lt), fun k hk => Nat.lt_of_lt_of_le (hlt k hk) hu.size⟩
theorem IsDisk.alloc {w : World} {F : Nat → Prop} {b : Nat} {d : DK} (h : IsDisk w F b d) (o : Obj) : IsDisk (w.alloc o) F b d := h.upd ((Upd.refl (fun _ => False) w).alloc o) (fun _ _ h => h)
theorem IsDisk.drewN {w : World} {F : Nat → Prop} {b : Nat} {d : DK} (h : IsDisk w F b d) (n : Nat) : IsDisk (w.drewN n) F b d := h.upd ((Upd.refl (fun _ => False) w).drewN n) (fun _ _ h => h)
theorem pages_any (w : World) (b n c : Nat) (A : Option Addr) (hc : w.cell? ⟨b, 0, none⟩ = some (.slice A n c)) :
    Calls Tryd.prog 17 #[.pointer (some ⟨b, 0, none⟩)] w fun e w' => e = .returned (.int .i64 n) ∧ w = w' := by
  go_enter Tryd.func17, Tryd.ntmps17
  go_wp2
  go_ret
  exact ⟨rfl, rfl⟩
theorem has_any (w : World) (b n c : Nat) (A : Option Addr) (p : Int) (hc : w.cell? ⟨b, 0, none⟩ = some (.slice A n c)) :
    Calls Tryd.prog 32 #[.pointer (some ⟨b, 0, none⟩), .int .i64 p] w fun e w' => e = .returned (.bool (decide (0 ≤ p) && decide (p < n))) ∧ w = w' := by
  by_cases h0 : 0 ≤ p
  · go_enter Tryd.func32, Tryd.ntmps32
    go_wp2
    go_ret
    exact ⟨by simp [h0], rfl⟩
  · have h0' : decide (0 ≤ p) = false := by simp; omega
    go_enter Tryd.func32, Tryd.ntmps32
    go_wp2
    go_ret
    exact ⟨by simp, rfl⟩
theorem at_Wr {w : World} {A : Option Addr} {n : Nat} {xs : List Wr} (h : Kd.C kWr w A n xs) (i : Int) (h0 : 0 ≤ i) (h1 : i < n) :
    ∃ ad x, A = some ad ∧ xs[i.toNat]? = some x ∧ w.cell? (ad.add (i.toNat * 2)) = some (.int .i64 x.page) ∧ w.cell? ⟨(ad.add (i.toNat * 2)).block, (ad.add (i.toNat * 2)).off + 1, none⟩ = some (.string x.data) := by
  obtain ⟨hl, _, hr⟩ := h
  obtain ⟨ad, e, hc⟩ := hr (by omega)
  have hlt : i.toNat < xs.length := by omega
  obtain ⟨c, hs, hK, hc0⟩ := hc i.toNat _ (List.getElem?_eq_getElem hlt)
  have hc1 : ∀ j u, c[j]? = some u → w.cell? (ad.add (i.toNat * 2 + j)) = some u := hc0
  obtain rfl := kWr_open hK
  exact ⟨ad, xs[i.toNat], e, List.getElem?_eq_getElem hlt, hc1 0 _ rfl, by rw [← add_field _ _ 1 (by omega)]; exact hc1 1 _ rfl⟩
theorem at_Str {w : World} {A : Option Addr} {n : Nat} {xs : List ByteArray} (h : Kd.C Kd.string w A n xs) (i : Int) (h0 : 0 ≤ i) (h1 : i < n) :
    ∃ ad x, A = some ad ∧ xs[i.toNat]? = some x ∧ w.cell? (ad.add i.toNat) = some (.string x) := by
  obtain ⟨hl, _, hr⟩ := h
  obtain ⟨ad, e, hc⟩ := hr (by omega)
  have hlt : i.toNat < xs.length := by omega
  obtain ⟨c, hs, hK, hc0⟩ := hc i.toNat _ (List.getElem?_eq_getElem hlt)
  have hK' : c = [.string xs[i.toNat]] := hK
  subst hK'
  have := hc0 0 _ rfl
  have e1 : (Kd.string).sz = 1 := rfl
  rw [e1, Nat.mul_one, Nat.add_zero] at this
  exact ⟨ad, xs[i.toNat], e, List.getElem?_eq_getElem hlt, this⟩
/-- What is read of a page. -/
def DK.read (d : DK) (p : Int) : ByteArray × Int :=
  if 0 ≤ p ∧ p < (d.dur.length : Int) then
    match lastIdx d.pend p with
    | some i => (((d.pend[i.toNat]?).map (·.data)).getD ⟨#[]⟩, 0)
    | none => if (((d.dur[p.toNat]?).getD ⟨#[]⟩).toList == [33]) = true then (⟨#[]⟩, 21) else ((d.dur[p.toNat]?).getD ⟨#[]⟩, 0)
  else (⟨#[]⟩, 2)
theorem lastIdx_lt : ∀ (l : List Wr) (p i : Int), lastIdx l p = some i → 0 ≤ i ∧ i < l.length
  | [], _, _, h => by simp [lastIdx] at h
  | x :: r, p, i, h => by
    simp only [lastIdx] at h
    split at h
    · rename_i j hj
      have := lastIdx_lt r p j hj
      simp at h
      subst h
      simp; omega
    · split at h
      · simp at h; subst h; simp
      · simp at h
theorem wf_i64 {p : Int} (h0 : -9223372036854775808 ≤ p) (h1 : p ≤ 9223372036854775807) : (Lit.int .i64 p).wf = true := by
  simp [Lit.wf, IntKind.min, IntKind.max, IntKind.bits, IntKind.signed]; omega
theorem Tryd.zeroValueInt (w : World) : (zeroValue 3).run Tryd.prog w = .ok (.int .i64 0) w := by kernel_rfl
set_option maxRecDepth 100000 in
theorem read_any (w : World) (F : Nat → Prop) (b : Nat) (d : DK) (p : Int) (hd : IsDisk w F b d) :
    Calls Tryd.prog 43 #[.pointer (some ⟨b, 0, none⟩), .int .i64 p] w fun e w' => e = .returned (.tuple #[.string (d.read p).1, .int .i64 (d.read p).2]) ∧ w = w' := by
  obtain ⟨v0, v1, bm, v4, hb, hFb, hFm, h0, h1, h4, hm, hlt⟩ := hd
  obtain ⟨A0, c0, rfl, hc0, hr0⟩ := Kd.R_reads h0
  obtain ⟨A1, c1, rfl, hc1, hr1⟩ := Kd.R_reads h1
  have k0 : w.cell? ⟨b, 0, none⟩ = some (.slice A0 d.dur.length c0) := hb.cell 0 _ rfl
  have k1 : w.cell? ⟨b, 1, none⟩ = some (.slice A1 d.pend.length c1) := hb.cell 1 _ rfl
  have k2 : w.cell? ⟨b, 2, none⟩ = some (.map (some bm)) := hb.cell 2 _ rfl
  have Hhas := has_any w b d.dur.length c0 A0 p k0
  by_cases hp : 0 ≤ p ∧ p < (d.dur.length : Int)
  · have hT : (decide (0 ≤ p) && decide (p < (d.dur.length : Int))) = true := by simp [hp]
    rw [hT] at Hhas
    obtain ⟨hp0, hp1⟩ := hp
    have hwf : (Lit.int .i64 p).wf = true := by
      have := hr0.2.1
      exact wf_i64 (by omega) (by omega)
    obtain ⟨D, hown, _, hD⟩ := hm
    obtain ⟨hhas, hat⟩ := hD p hwf
    have hkey := Maps.keyOf_int_mk Tryd.underlying3 hwf
    cases hl : lastIdx d.pend p with
    | some i =>
      have hi := lastIdx_lt _ _ _ hl
      obtain ⟨ad, x, rfl, hx, hx0, hx1⟩ := at_Wr hr1 i hi.1 hi.2
      have hfin : d.read p = (x.data, 0) := by
        simp only [DK.read]; rw [if_pos ⟨hp0, hp1⟩, hl]; simp [hx]
      have HF := Lib.hid hfin
      have hc := hat i hl
      rw [hl] at hhas
      have HH := Lib.hid hhas
      have HC := Lib.hid hc
      obtain ⟨hi0, hi1⟩ := hi
      clear hfin hT h0 h1 h4 hr0 hr1 hD hat hhas hl hx hc
      go_enter Tryd.func43, Tryd.ntmps43
      go_wp2_with (first | (go_at_call 32; refine Hhas.mono ?_; rintro e w' ⟨rfl, rfl⟩) | (at_lookup; refine wpList_lookup_own_ok_int w rfl _ _ 73 rfl 3 3 .i64 (Maps.int_keyed Tryd.underlying3) Tryd.underlying73 Tryd.underlying3 (Tryd.zeroValueInt _) bm _ _ rfl hown _ _ rfl hkey ?_; intro c hcc hwc; rw [HC.out] at hcc; rw [HH.out]; obtain rfl : i = c := by simpa using hcc))
      go_ret2
      exact ⟨by rw [HF.out]; rfl, rfl⟩
    | none =>
      obtain ⟨ad, y, rfl, hy, hy0⟩ := at_Str hr0 p hp0 hp1
      have hhas : Maps.has D (.int .i64 p) = false := by rw [hhas, hl]; rfl
      have HH := Lib.hid hhas
      have HY := Lib.hid hy
      have HL := Lib.hid hl
      clear hT h0 h1 h4 hr0 hr1 hD hat hhas hl hy
      go_enter Tryd.func43, Tryd.ntmps43
      go_wp2_with (first | (go_at_call 32; refine Hhas.mono ?_; rintro e w' ⟨rfl, rfl⟩) | (at_lookup; refine wpList_lookup_own_ok_int w rfl _ _ 73 rfl 3 3 .i64 (Maps.int_keyed Tryd.underlying3) Tryd.underlying73 Tryd.underlying3 (Tryd.zeroValueInt _) bm _ _ rfl hown _ _ rfl hkey ?_; intro c hcc hwc; rw [HH.out]; clear hcc hwc))
      · have hy1 : (y.toList == [33]) = true := by assumption
        have hfin : d.read p = (⟨#[]⟩, 21) := by
          simp only [DK.read]; rw [if_pos ⟨hp0, hp1⟩, HL.out, HY.out]; simp only [Option.getD_some]; rw [if_pos hy1]
        go_ret2
        exact ⟨by rw [hfin]; rfl, rfl⟩
      · have hy1 : (y.toList == [33]) = false := by assumption
        have hfin : d.read p = (y, 0) := by
          simp only [DK.read]; rw [if_pos ⟨hp0, hp1⟩, HL.out, HY.out]; simp only [Option.getD_some]; rw [if_neg (by rw [hy1]; decide)]
        go_ret2
        exact ⟨by rw [hfin]; rfl, rfl⟩
  · have hT : (decide (0 ≤ p) && decide (p < (d.dur.length : Int))) = false := by simp; omega
    rw [hT] at Hhas
    have hfin : d.read p = (⟨#[]⟩, 2) := by simp only [DK.read]; rw [if_neg hp]
    have HF := Lib.hid hfin
    clear hfin hT hp hm h0 h1 h4 hr0 hr1
    go_enter Tryd.func43, Tryd.ntmps43
    go_wp2_with (go_at_call 32; refine Hhas.mono ?_; rintro e w' ⟨rfl, rfl⟩)
    go_ret2
    exact ⟨by rw [HF.out]; rfl, rfl⟩
end Go.Proofs.YtpmjipokkkkljaaDoor
namespace Go.Proofs.YtpmjipokkkkljaaDoor
set_option linter.all false
set_option linter.unusedVariables false
set_option linter.unusedSimpArgs false
open Go.RowKit Go.Proofs.YtpmjipokkkkljaaDoorW.PrintWords Go.Proofs.YtpmjipokkkkljaaDoorW.PrintLast Go.Proofs.YtpmjipokkkkljaaDoorW.PrintMore
open Go.WideMaps Go.WideElems
def RecPost (w : World) (F : Nat → Prop) (b : Nat) (v0 v1 v4 : Value) (bm : Nat) (l : List Op64) (e : Ending) (w' : World) : Prop :=
  e = .returned (.tuple #[]) ∧ ∃ (v5 : Value), Blk w' b #[v0, v1, .map (some bm), .bool true, v5] 75 ∧
    Kd.R kOp 64 w' 0 (fun k => F k ∨ w.heap.size ≤ k) v5 l ∧ Upd (fun k => k = b ∨ some k = v4.ownBlock ∨ w.heap.size ≤ k) w w'
set_option maxRecDepth 100000 in
set_option maxHeartbeats 1000000 in
theorem record_on (w : World) (F : Nat → Prop) (b bm : Nat) (v0 v1 v4 : Value) (l : List Op64) (x : Op64) (hF : ∀ k, F k → k < w.heap.size)
    (hb : Blk w b #[v0, v1, .map (some bm), .bool true, v4] 75) (h4 : Kd.R kOp 64 w 0 F v4 l) (hl : l.length < 1000000000) :
    Calls Tryd.prog 33 #[.pointer (some ⟨b, 0, none⟩), .agg #[.int .i64 x.f0, .string x.f1, .bool x.f2]] w (RecPost w F b v0 v1 v4 bm (l ++ [x])) := by
  have k3 : w.cell? ⟨b, 3, none⟩ = some (.bool true) := hb.cell 3 _ rfl
  have k4 : w.cell? ⟨b, 4, none⟩ = some v4 := hb.cell 4 _ rfl
  have f4 : w.frozen? ⟨b, 4, none⟩ = false := hb.frozen 4
  have hbl := hb.lt
  have hbn : b ≠ w.heap.size := by omega
  have hne : some b ≠ v4.ownBlock := Kd.R_ne h4 hb (by decide)
  have HO : ∀ W, Below w.heap.size w W → Kd.R kOp 64 W 0 (fun k => F k ∨ w.heap.size ≤ k) v4 l := fun W hW => Kd.R_mono (Kd.R_below h4 hW) (fun k hk => .inl hk)
  replace HO := Lib.hid HO
  have HN := Lib.hid hne
  have HB := Lib.hid hb
  clear hne hb h4 hF
  go_enter Tryd.func33, Tryd.ntmps33
  go_wp2
  go_region_law (first | (refine app_stepD kOp (.tmp 12) (.tmp 14) 58 64 (.agg #[(.int .i64 0), (.string ⟨#[]⟩), (.bool false)]) 32 (by rfl) rfl Tryd.underlying58 Pr.info64 rfl (by decide) (by omega) v4 l x [.int .i64 x.f0, .string x.f1, .bool x.f2] (fun k => F k ∨ w.heap.size ≤ k) (by rfl) _ (by rfl) (by simp) (Pr.k64_mkM _ _ _ x) ?aF ?aO (by omega) ?_; (case aF => exact fun k hk => .inr (by simp at hk; omega)); (case aO => exact HO.out _ (by repeat (first | exact Below.refl _ _ | apply Below.drew | refine Below.alloc ?_ (by simp) _))); intro u1 w1 ho hbel hg hat; obtain ⟨Av, cv, hv, hcv, hrd⟩ := Kd.R_reads ho; rw [List.length_append, List.length_singleton] at hv; subst hv; have hu1 := (((Upd.refl (fun k => k = b ∨ some k = v4.ownBlock ∨ w.heap.size ≤ k) w).alloc (.cells #[.int .i64 x.f0, .string x.f1, .bool x.f2] 64)).drew).app hg (fun k hk => .inl (.inr (.inl hk.symm))); have hb1 : Blk w1 b #[v0, v1, .map (some bm), .bool true, v4] 75 := (hg.block b (by simp; omega) HN.out).trans ((HB.out.alloc _).drew); have e1 : w1.cell? ⟨b, 4, none⟩ = some v4 := hb1.cell 4 _ rfl; have e2 : w1.frozen? ⟨b, 4, none⟩ = false := hb1.frozen 4; have HB1 := Lib.hid hb1; have HR1 := Lib.hid ho; have HU1 := Lib.hid hu1; clear hb1 ho hu1 hbel hg hat hrd))
  all_goals
    go_end0
    exact ⟨rfl, _, HB1.out.set 4 _, Kd.R_set HR1.out HB1.out (by decide) 4 _, HU1.out.setCell (.inl (.inl rfl)) _⟩
/-- What a method of a disk comes to: the disk is another, and what is not the disk's is kept. -/
def DPost (w : World) (F : Nat → Prop) (b : Nat) (d : DK) (v : Value) (e : Ending) (w' : World) : Prop :=
  e = .returned v ∧ ∃ F' : Nat → Prop, (∀ k, F' k → F k ∨ w.heap.size ≤ k) ∧ IsDisk w' F' b d ∧ Upd F w w'
def DK.record (d : DK) (x : Op64) : DK := if d.on then { d with recd := d.recd ++ [x] } else d
theorem record_any (w : World) (F : Nat → Prop) (b : Nat) (d : DK) (x : Op64) (hd : IsDisk w F b d) (hl : d.recd.length < 1000000000) :
    Calls Tryd.prog 33 #[.pointer (some ⟨b, 0, none⟩), .agg #[.int .i64 x.f0, .string x.f1, .bool x.f2]] w (DPost w F b (d.record x) (.tuple #[])) := by
  obtain ⟨v0, v1, bm, v4, hb, hFb, hFm, h0, h1, h4, hm, hlt⟩ := hd
  cases hon : d.on with
  | true =>
    rw [hon] at hb
    refine (record_on w F b bm v0 v1 v4 d.recd x hlt hb h4 hl).mono ?_
    rintro e w' ⟨rfl, v5, hb', h4', hu⟩
    have hty := Kd.R_typed h4
    have hS : ∀ {t : TypeId} {k : Nat} {cells : Array Value}, w.heap[k]? = some (.cells cells t (0, 0)) → t ≠ 75 → t ≠ 64 → ¬ (k = b ∨ some k = v4.ownBlock ∨ w.heap.size ≤ k) := by
      rintro t k cells hk ht1 ht2 (rfl | h | h)
      · unfold Blk at hb; rw [hb] at hk; simp at hk; exact ht1 hk.2.symm
      · obtain ⟨c, hc⟩ := hty k h.symm
        rw [hc] at hk; simp at hk; exact ht2 hk.2.symm
      · have := blk_lt hk; omega
    have hbm : w'.heap[bm]? = w.heap[bm]? := hu.block bm hm.lt (by
      rintro (rfl | h | h)
      · exact hm.no_cells hb
      · obtain ⟨c, hc⟩ := hty bm h.symm
        exact hm.no_cells hc
      · have := hm.lt; omega)
    refine ⟨rfl, fun k => (F k ∨ w.heap.size ≤ k) ∧ k < w'.heap.size, fun k hk => hk.1, ⟨v0, v1, bm, v5, ?_, ⟨.inl hFb, hb'.lt⟩, ⟨.inl hFm, ?_⟩, ?_, ?_, ?_, ?_, fun k hk => hk.2⟩, hu.mono' hlt ?_⟩
    · simpa [DK.record, hon] using hb'
    · have := hm.lt; have := hu.size; omega
    · have := Kd.R_mono (ok' := fun k => (F k ∨ w.heap.size ≤ k) ∧ k < w'.heap.size) (R_upd h0 rfl hu (fun k cells hk => hS hk (by decide) (by decide))) (fun k hk => ⟨.inl hk.1, by have := hu.size; omega⟩)
      simpa [DK.record, hon] using this
    · have := Kd.R_mono (ok' := fun k => (F k ∨ w.heap.size ≤ k) ∧ k < w'.heap.size) (R_upd h1 rfl hu (fun k cells hk => hS hk (by decide) (by decide))) (fun k hk => ⟨.inl hk.1, by have := hu.size; omega⟩)
      simpa [DK.record, hon] using this
    · simpa [DK.record, hon] using R_fit h4'
    · simpa [DK.record, hon] using hm.move hbm
    · rintro k (rfl | h | h)
      · exact .inl hFb
      · exact .inl (h4.1 k h.symm)
      · exact .inr h
  | false =>
    rw [hon] at hb
    have k3 : w.cell? ⟨b, 3, none⟩ = some (.bool false) := hb.cell 3 _ rfl
    have hbl := hb.lt
    have hbn : b ≠ w.heap.size := by omega
    have HD : Hid (IsDisk w F b d) := ⟨v0, v1, bm, v4, by rw [hon]; exact hb, hFb, hFm, h0, h1, h4, hm, hlt⟩
    have HL := Lib.hid hlt
    have HE : Hid (d.record x = d) := by show d.record x = d; simp [DK.record, hon]
    clear hb h0 h1 h4 hm hlt hFb hFm hon hl
    go_enter Tryd.func33, Tryd.ntmps33
    go_wp2
    go_end0
    refine ⟨rfl, F, fun k hk => .inl hk, ?_, (Upd.refl F w).alloc _⟩
    rw [HE.out]
    exact HD.out.alloc _
end Go.Proofs.YtpmjipokkkkljaaDoor
namespace Go.Proofs.YtpmjipokkkkljaaDoor
set_option linter.all false
set_option linter.unusedVariables false
set_option linter.unusedSimpArgs false
open Go.RowKit Go.Proofs.YtpmjipokkkkljaaDoorW.PrintWords Go.Proofs.YtpmjipokkkkljaaDoorW.PrintLast Go.Proofs.YtpmjipokkkkljaaDoorW.PrintMore
open Go.WideMaps Go.WideElems
theorem infoWr : (Tryd.prog.info? 77).map (fun i => (i.zero, i.size, i.bytes)) = some (some (.agg #[(.int .i64 0), (.string ⟨#[]⟩)]), 2, 24) := by kernel_rfl
theorem lastIdx_snoc (x : Wr) (p : Int) : ∀ l : List Wr, lastIdx (l ++ [x]) p = if x.page = p then some (l.length : Int) else lastIdx l p
  | [] => by simp [lastIdx]
  | y :: r => by
    simp only [List.cons_append, lastIdx, lastIdx_snoc x p r]
    by_cases h : x.page = p
    · simp [h]
    · simp [h]
theorem IMap.put {w1 : World} {bm : Nat} {l : List Wr} {D : DataW Unit} (x : Wr)
    (hD : Maps.IsMap D) (hall : ∀ p : Int, (Lit.int .i64 p).wf = true → Maps.has D (.int .i64 p) = (lastIdx l p).isSome ∧ ∀ c, lastIdx l p = some c → D.atKey (.int .i64 p) (.lit (.int .i64 0)) = .lit (.int .i64 c))
    (hown : w1.ownsMap Tryd.prog 3 (plainElem Tryd.prog 3) bm (l.length + 1) (D.put (.int .i64 x.page) (.lit (.int .i64 l.length)))) : IMap w1 bm (l ++ [x]).length (lastIdx (l ++ [x])) := by
  refine ⟨_, by simpa using hown, hD.put _ _, fun p hp => ?_⟩
  rw [lastIdx_snoc]
  by_cases h : x.page = p
  · subst h
    rw [if_pos rfl]
    refine ⟨?_, fun c hc => ?_⟩
    · rw [Maps.has_put_same hD (by simp [WideAt.IsKeyLit])]; rfl
    · rw [Maps.atKey_put_same hD (by simp [WideAt.IsKeyLit])]; simp at hc; rw [hc]
  · have hne : (Lit.int .i64 p) ≠ (Lit.int .i64 x.page) := by simpa using fun e => h e.symm
    rw [if_neg h, Maps.has_put_other hne]
    refine ⟨(hall p hp).1, fun c hc => ?_⟩
    rw [Maps.atKey_put_other hne]
    exact (hall p hp).2 c hc
def DK.write (d : DK) (p : Int) (s : ByteArray) : DK := DK.record { d with pend := d.pend ++ [⟨p, s⟩] } ⟨p, s, false⟩
/-- The disk behind the append of a pending write. -/
theorem write_mid {w2 w1 w3 : World} {F : Nat → Prop} {b bm N : Nat} {d : DK} {p : Int} {s : ByteArray} {A0 A1 Av : Option Addr} {c0 c1 cv : Nat} {v4 : Value} {D : DataW Unit}
    (hd : IsDisk w2 F b d) (hb : Blk w2 b #[.slice A0 d.dur.length c0, .slice A1 d.pend.length c1, .map (some bm), .bool d.on, v4] 75)
    (h0 : Kd.R Kd.string 9 w2 0 F (.slice A0 d.dur.length c0) d.dur) (h4 : Kd.R kOp 64 w2 0 F v4 d.recd)
    (hu : Upd (fun k => k = bm) w2 w1) (hr : Kd.R kWr 77 w1 0 (fun k => F k ∨ w1.heap.size ≤ k) (.slice A1 d.pend.length c1) d.pend)
    (hg : w1.grownBy w3 (Value.slice A1 d.pend.length c1).ownBlock) (hb3 : Blk w3 b #[.slice A0 d.dur.length c0, .slice A1 d.pend.length c1, .map (some bm), .bool d.on, v4] 75)
    (ho : Kd.R kWr 77 w3 0 (fun k => F k ∨ w1.heap.size ≤ k) (.slice Av (d.pend.length + 1) cv) (d.pend ++ [⟨p, s⟩]))
    (hown : w1.ownsMap Tryd.prog 3 (plainElem Tryd.prog 3) bm (d.pend.length + 1) (D.put (.int .i64 p) (.lit (.int .i64 d.pend.length)))) (hD : Maps.IsMap D)
    (hall : ∀ p : Int, (Lit.int .i64 p).wf = true → Maps.has D (.int .i64 p) = (lastIdx d.pend p).isSome ∧ ∀ c, lastIdx d.pend p = some c → D.atKey (.int .i64 p) (.lit (.int .i64 0)) = .lit (.int .i64 c))
    (hbm : bm ≠ b) (hN : w2.heap.size = N) :
    IsDisk (w3.setCell ⟨b, 1, none⟩ (.slice Av (d.pend.length + 1) cv)) (fun k => (F k ∨ N ≤ k) ∧ k < w3.heap.size) b { d with pend := d.pend ++ [⟨p, s⟩] } := by
  subst hN
  obtain ⟨_, _, bm', _, hb', hFb, hFm, _, _, _, hm, hlt⟩ := hd
  have e : some (Obj.cells _ _ _) = some (Obj.cells _ _ _) := hb.symm.trans hb'
  obtain ⟨rfl, rfl, rfl, rfl⟩ : _ ∧ _ ∧ bm = bm' ∧ _ := by simpa using e
  have hty := Kd.R_typed hr
  have hsz1 := hu.size
  have hsz3 := hg.size
  have hmap1 : IMap w1 bm (d.pend ++ [(⟨p, s⟩ : Wr)]).length (lastIdx (d.pend ++ [(⟨p, s⟩ : Wr)])) := IMap.put (⟨p, s⟩ : Wr) hD hall hown
  have hne : some bm ≠ (Value.slice A1 d.pend.length c1).ownBlock := fun e => by
    obtain ⟨c, hc⟩ := hty bm e.symm
    exact hmap1.no_cells hc
  have hnm : ∀ {t : TypeId} (k : Nat) (cells : Array Value), w2.heap[k]? = some (.cells cells t (0, 0)) → ¬ k = bm := by
    rintro t k cells hk rfl
    exact hm.no_cells hk
  have hst : ∀ {α : Type} {K : Kd α} {t : TypeId} {ok : Nat → Prop} {v : Value} {xs : List α}, K.R t w1 0 ok v xs → K.E = [] → t ≠ 77 → t ≠ 75 →
      K.R t (w3.setCell ⟨b, 1, none⟩ (.slice Av (d.pend.length + 1) cv)) 0 ok v xs := fun h1 hE ht1 ht2 =>
    Kd.R_set (Kd.R_over' h1 hty (fun q hq => by rw [hE, List.mem_singleton] at hq; rw [hq]; exact ht1) hg) hb3 (fun q hq => by rw [hE, List.mem_singleton] at hq; rw [hq]; exact ht2) 1 _
  refine ⟨_, _, bm, _, hb3.set 1 _, ⟨.inl hFb, hb3.lt⟩, ⟨.inl hFm, by have := hmap1.lt; omega⟩, ?_, ?_, ?_, ?_, fun k hk => by simpa using hk.2⟩
  · exact Kd.R_mono (hst (R_upd h0 rfl hu hnm) rfl (by decide) (by decide)) (fun k hk => ⟨.inl hk.1, by omega⟩)
  · exact Kd.R_mono (R_fit (Kd.R_set ho hb3 (by decide) 1 _)) (fun k hk => ⟨hk.1.elim .inl (fun h => .inr (by omega)), by simpa using hk.2⟩)
  · exact Kd.R_mono (hst (R_upd h4 rfl hu hnm) rfl (by decide) (by decide)) (fun k hk => ⟨.inl hk.1, by omega⟩)
  · refine hmap1.move ?_
    rw [Below.heap_setCell _ _ _ _ hbm]
    exact hg.block bm hmap1.lt hne
set_option maxRecDepth 100000 in
set_option maxHeartbeats 1000000 in
theorem write_ok (w : World) (F : Nat → Prop) (b : Nat) (d : DK) (p : Int) (s : ByteArray) (hd : IsDisk w F b d) (hp0 : 0 ≤ p) (hp1 : p < (d.dur.length : Int)) (hs : s.size = 512)
    (hl : d.pend.length < 1000000000) (hl2 : d.recd.length < 1000000000) :
    Calls Tryd.prog 11 #[.pointer (some ⟨b, 0, none⟩), .int .i64 p, .string s] w (DPost w F b (d.write p s) (.int .i64 0)) := by
  have hd' := hd
  obtain ⟨v0, v1, bm, v4, hb, hFb, hFm, h0, h1, h4, hm, hlt⟩ := hd'
  obtain ⟨A0, c0, rfl, hc0, hr0⟩ := Kd.R_reads h0
  obtain ⟨A1, c1, rfl, hc1, hr1⟩ := Kd.R_reads h1
  have k0 : w.cell? ⟨b, 0, none⟩ = some (.slice A0 d.dur.length c0) := hb.cell 0 _ rfl
  have k1 : w.cell? ⟨b, 1, none⟩ = some (.slice A1 d.pend.length c1) := hb.cell 1 _ rfl
  have k2 : w.cell? ⟨b, 2, none⟩ = some (.map (some bm)) := hb.cell 2 _ rfl
  have Hhas := has_any w b d.dur.length c0 A0 p k0
  have hT : (decide (0 ≤ p) && decide (p < (d.dur.length : Int))) = true := by simp [hp0, hp1]
  rw [hT] at Hhas
  have hwf : (Lit.int .i64 p).wf = true := by
    have := hr0.2.1
    exact wf_i64 (by omega) (by omega)
  obtain ⟨D, hown, hDm, hD⟩ := hm
  have hkey := Maps.keyOf_int_mk Tryd.underlying3 hwf
  have hs' : ((s.size : Int) == 512) = true := by simp [hs]
  have hs2 : ((s.size : Int) != 512) = false := by simp [hs]
  have HD := Lib.hid hd
  have HH := Lib.hid hD
  have HM := Lib.hid hDm
  have HS := Lib.hid hs
  have hpl : (Lit.int .i64 (d.pend.length : Int)).wf = true := wf_i64 (by omega) (by omega)
  have HPL := Lib.hid hpl
  have HB := Lib.hid hb
  have HR := Lib.hid h1
  have H0 := Lib.hid h0
  have H4 := Lib.hid h4
  clear hD hDm hs hT hr0 hr1 h0 h1 h4 hd hb hpl hlt
  go_enter Tryd.func11, Tryd.ntmps11
  go_wp2_with (first | (go_at_call 32; refine Hhas.mono ?_; rintro e w' ⟨rfl, rfl⟩))
  go_still_tail 10, (by kernel_rfl)
  change wpList _ _ _ _ _ w.drew
  have hown2 : w.drew.ownsMap Tryd.prog 3 (plainElem Tryd.prog 3) bm d.pend.length D := hown
  have HU0 : Hid (Upd F w w.drew) := (Upd.refl F w).drew
  have HB2 : Hid (Blk w.drew b #[.slice A0 d.dur.length c0, .slice A1 d.pend.length c1, .map (some bm), .bool d.on, v4] 75) := HB.out.drew
  have HR2 : Hid (Kd.R kWr 77 w.drew 0 F (.slice A1 d.pend.length c1) d.pend) := HR.out
  have HD2 : Hid (IsDisk w.drew F b d) := HD.out.drewN 1
  have H02 : Hid (Kd.R Kd.string 9 w.drew 0 F (.slice A0 d.dur.length c0) d.dur) := H0.out
  have H42 : Hid (Kd.R kOp 64 w.drew 0 F v4 d.recd) := H4.out
  have hsz : w.drew.heap.size = w.heap.size := rfl
  have HSZ := Lib.hid hsz
  clear hown HB HR HD H0 H4 hsz k0 k1 k2 Hhas
  generalize w.drew = w2 at *
  go_wp2_with first
    | (at_mapUpdate
       refine wpList_mapUpdate_own _ rfl _ _ _ 73 rfl 3 3 (Maps.int_keyed Tryd.underlying3) Tryd.underlying73 _ bm d.pend.length D rfl hown2 (by unfold maxLen; omega) _ _ _ rfl rfl hkey _ [] (plainElem_int Tryd.underlying3 HPL.out) ?_
       intro w1 hown1 hgrow1
       have hbm : bm ≠ b := by rintro rfl; obtain ⟨es, clock, hbb, _⟩ := hown2; rw [HB2.out] at hbb; simp at hbb
       have hb1 : Blk w1 b #[.slice A0 d.dur.length c0, .slice A1 d.pend.length c1, .map (some bm), .bool d.on, v4] 75 := (hgrow1.block b HB2.out.lt (by simpa using fun e => hbm e.symm)).trans HB2.out
       have k1 : w1.cell? ⟨b, 1, none⟩ = some (.slice A1 d.pend.length c1) := hb1.cell 1 _ rfl
       have f1 : w1.frozen? ⟨b, 1, none⟩ = false := hb1.frozen 1
       have hu1 : Upd (fun k => k = bm) w2 w1 := (Upd.refl _ w2).grown hgrow1 (fun k hk => .inl (by simpa using hk.symm))
       have hr1 := Kd.R_mono (ok' := fun k => F k ∨ w1.heap.size ≤ k) (R_upd HR2.out rfl hu1 (fun k cells hk => by rintro rfl; obtain ⟨es, clock, hbb, _⟩ := hown2; rw [hbb] at hk; simp at hk)) (fun k hk => .inl hk.1)
       have HB1 := Lib.hid hb1
       have HU1 := Lib.hid hu1
       have HR1 := Lib.hid hr1
       have HO1 := Lib.hid hown1
       have HO2 := Lib.hid hown2
       have HBM := Lib.hid hbm
       clear hb1 hu1 hr1 hown1 hgrow1 hown2 hbm hkey)
    | (at_builtin
       refine app_list kWr rfl (.tmp 30) (.tmp 34) 72 77 (.agg #[(.int .i64 0), (.string ⟨#[]⟩)]) 24 rfl Tryd.underlying72 infoWr rfl (by decide) (by omega) _ d.pend ⟨p, s⟩ [.int .i64 p, .string s] (fun k => F k ∨ w1.heap.size ≤ k) (by rfl) _ (by rfl) (by simp) (kWr_mkM _ _ _ ⟨p, s⟩) (fun k hk => .inr hk) HR1.out (by omega) ?_
       intro u1 w3 ho hbel hg hat
       obtain ⟨Av, cv, hv, hcv, hrd⟩ := Kd.R_reads ho
       rw [List.length_append, List.length_singleton] at hv
       subst hv
       have hty := Kd.R_typed HR1.out
       have hne1 : some b ≠ (Value.slice A1 d.pend.length c1).ownBlock := Kd.R_ne HR1.out HB1.out (by decide)
       have hb3 : Blk w3 b #[.slice A0 d.dur.length c0, .slice A1 d.pend.length c1, .map (some bm), .bool d.on, v4] 75 := (hg.block b HB1.out.lt hne1).trans HB1.out
       have e1 : w3.cell? ⟨b, 1, none⟩ = some (.slice A1 d.pend.length c1) := hb3.cell 1 _ rfl
       have e2 : w3.frozen? ⟨b, 1, none⟩ = false := hb3.frozen 1
       have HB3 := Lib.hid hb3
       have HG := Lib.hid hg
       have HO3 := Lib.hid ho
       have HT := Lib.hid hty
       clear hb3 hg ho hty hrd hbel hat hne1)
  refine (record_any _ (fun k => (F k ∨ w.heap.size ≤ k) ∧ k < w3.heap.size) b { d with pend := d.pend ++ [⟨p, s⟩] } ⟨p, s, false⟩ (write_mid HD2.out HB2.out H02.out H42.out HU1.out HR1.out HG.out HB3.out HO3.out HO1.out HM.out HH.out HBM.out HSZ.out) hl2).mono ?_
  rintro e w4 ⟨rfl, F', hF', hd4, hu4⟩
  have HF4 := Lib.hid hF'
  have HD4 := Lib.hid hd4
  have HU4 := Lib.hid hu4
  clear hF' hd4 hu4
  go_wp2
  go_ret
  have hz := HSZ.out
  have hz1 := HU1.out.size
  have hz3 := HG.out.size
  have hown : ∀ k, (Value.slice A1 d.pend.length c1).ownBlock = some k → F k := HR2.out.1
  have hu3 : Upd F w (w3.setCell ⟨b, 1, none⟩ (.slice Av (d.pend.length + 1) cv)) :=
    (((HU0.out.trans HU1.out (fun i hi => .inl (hi ▸ hFm))).grown HG.out (fun k hk => .inl (hown k hk)))).setCell (.inl hFb) _
  refine ⟨rfl, F', fun k hk => ?_, HD4.out, hu3.trans HU4.out (fun i hi => hi.1)⟩
  rcases HF4.out k hk with h | h
  · exact h.1
  · simp at h
    exact .inr (by omega)
theorem write_size (w : World) (F : Nat → Prop) (b : Nat) (d : DK) (p : Int) (s : ByteArray) (hd : IsDisk w F b d) (hp0 : 0 ≤ p) (hp1 : p < (d.dur.length : Int)) (hs : s.size ≠ 512) :
    Calls Tryd.prog 11 #[.pointer (some ⟨b, 0, none⟩), .int .i64 p, .string s] w fun e w' => e = .returned (.int .i64 1) ∧ w = w' := by
  obtain ⟨v0, v1, bm, v4, hb, hFb, hFm, h0, h1, h4, hm, hlt⟩ := hd
  obtain ⟨A0, c0, rfl, hc0, hr0⟩ := Kd.R_reads h0
  have k0 : w.cell? ⟨b, 0, none⟩ = some (.slice A0 d.dur.length c0) := hb.cell 0 _ rfl
  have Hhas := has_any w b d.dur.length c0 A0 p k0
  have hT : (decide (0 ≤ p) && decide (p < (d.dur.length : Int))) = true := by simp [hp0, hp1]
  rw [hT] at Hhas
  have hs2 : ((s.size : Int) != 512) = true := by simp; omega
  clear hT hs h0 h1 h4 hr0 hm hlt hb
  go_enter Tryd.func11, Tryd.ntmps11
  go_wp2_with (first | (go_at_call 32; refine Hhas.mono ?_; rintro e w' ⟨rfl, rfl⟩))
  go_ret
  exact ⟨rfl, rfl⟩
end Go.Proofs.YtpmjipokkkkljaaDoor
namespace Go.Proofs.YtpmjipokkkkljaaDoor
set_option linter.all false
set_option linter.unusedVariables false
set_option linter.unusedSimpArgs false
open Go.RowKit Go.Proofs.YtpmjipokkkkljaaDoorW.PrintWords Go.Proofs.YtpmjipokkkkljaaDoorW.PrintLast Go.Proofs.YtpmjipokkkkljaaDoorW.PrintMore
open Go.WideMaps Go.WideElems
/-- 'clear(m)' on a map of the call's own. -/
theorem wpList_clear_map {P : Program} {w : World} {ops : Array Oper} {rest : List Oper} {o : Oper} {a : Act} {Q : Exit → Act → World → Prop} (hg : o.guard = none) (m : Operand) (t : TypeId) (k e : TypeId)
    (hop : o.op = Op.call { callee := Callee.builtin Builtin.clear, args := #[m], argTypes := #[t] }) (ht : P.underlying t = some (.map k e)) (b n : Nat) (R : Value → Option (DataW Unit × List MemPlace)) (D : DataW Unit)
    (hm : a.eval m = .map (some b)) (hown : w.ownsMap P k R b n D)
    (hK : ∀ w', w'.ownsMap P k R b 0 (.map []) → Upd (fun i => i = b) w w' → w'.heap.size = w.heap.size → wpList P ops Q rest (a.put o.dst (.tuple #[])) w') :
    wpList P ops Q (o :: rest) a w := by
  refine wpList_plain hg fun K' hK' => ?_
  obtain ⟨es, clock, hb, _⟩ := hown
  have hrun : (Builtin.clear_ #[t] o.type #[.map (some b)]).run P w = .ok (.tuple #[]) { w with heap := w.heap.setIfInBounds b (.map #[] clock) } := by
    simp [Builtin.clear_, run_underlying ht, MapKept.run_getObj_map hb, MapKept.run_setObj_map _ hb, Result.andThen]
  unfold Oper.wp
  simp [execOp, hop, resolve, invoke, builtin, hm, hrun, Result.andThen]
  refine hK' _ _ (hK _ ⟨#[], clock, (MapKept.heap_set hb).1, ⟨by simp, MapKept.stamped_empty clock, by simp⟩, Nat.le_refl _, rfl⟩ ⟨rfl, rfl, rfl, by simp, fun i _ hi => (MapKept.heap_set hb).2 i hi⟩ (by simp))
def DK.forget (d : DK) : DK := { d with pend := [] }
set_option maxRecDepth 100000 in
theorem forget_any (w : World) (F : Nat → Prop) (b : Nat) (d : DK) (hd : IsDisk w F b d) :
    Calls Tryd.prog 42 #[.pointer (some ⟨b, 0, none⟩)] w (DPost w F b d.forget (.tuple #[])) := by
  obtain ⟨v0, v1, bm, v4, hb, hFb, hFm, h0, h1, h4, hm, hlt⟩ := hd
  have hmlt := hm.lt
  have hmc : ∀ cs t fz, ¬ w.heap[bm]? = some (.cells cs t fz) := fun cs t fz => hm.no_cells
  obtain ⟨D, hown, hDm, hD⟩ := hm
  obtain ⟨A1, c1, rfl, hc1, hr1⟩ := Kd.R_reads h1
  have k1 : w.cell? ⟨b, 1, none⟩ = some (.slice A1 d.pend.length c1) := hb.cell 1 _ rfl
  have f1 : w.frozen? ⟨b, 1, none⟩ = false := hb.frozen 1
  have k2 : w.cell? ⟨b, 2, none⟩ = some (.map (some bm)) := hb.cell 2 _ rfl
  have hbm : bm ≠ b := by rintro rfl; exact hmc _ _ _ hb
  have HOWN : Hid ((w.setCell ⟨b, 1, none⟩ (.slice none 0 0)).ownsMap Tryd.prog 3 (plainElem Tryd.prog 3) bm d.pend.length D) := hown.setCell hbm _
  have HB := Lib.hid hb
  have H0 := Lib.hid h0
  have H4 := Lib.hid h4
  have HMC := Lib.hid hmc
  have HLT := Lib.hid hlt
  clear hb h0 h1 h4 hr1 hD hDm hown hmc hlt hc1
  go_enter Tryd.func42, Tryd.ntmps42
  go_wp2_with ((with_reducible refine gate_builtin (b := .clear) rfl ?_); refine wpList_clear_map rfl _ 73 3 3 rfl Tryd.underlying73 bm _ _ _ rfl HOWN.out ?_; intro w1 hown1 hu1 hsz1)
  go_end0
  have hu2 : Upd (fun i => i = b) w (w.setCell ⟨b, 1, none⟩ (.slice none 0 0)) := Upd.setCell (S := fun i => i = b) (p := ⟨b, 1, none⟩) (Upd.refl _ w) (.inl rfl) _
  have hu : Upd (fun i => i = bm ∨ i = b) w w1 := (hu2.mono (fun _ h => .inr h)).trans hu1 (fun i h => .inl (.inl h))
  have hsz : w1.heap.size = w.heap.size := by simpa using hsz1
  have hS : ∀ {t : TypeId} (k : Nat) (cells : Array Value), t ≠ 75 → w.heap[k]? = some (.cells cells t (0, 0)) → ¬ (k = bm ∨ k = b) := by
    rintro t k cells ht hk (rfl | rfl)
    · exact HMC.out _ _ _ hk
    · rw [HB.out] at hk; simp at hk; exact ht hk.2.symm
  refine ⟨rfl, F, fun k hk => .inl hk, ⟨v0, .slice none 0 0, bm, v4, ?_, hFb, hFm, ?_, Kd.R_nil _ _ _ _ _, ?_, ?_, fun k hk => by rw [hsz]; exact HLT.out k hk⟩, hu.mono (fun k hk => by rcases hk with rfl | rfl <;> assumption)⟩
  · exact (HB.out.set 1 _).upd hu1 (fun e => hbm e.symm)
  · exact Kd.R_mono (R_upd H0.out rfl hu (fun k cells hk => hS k cells (by decide) hk)) (fun k hk => hk.1)
  · exact Kd.R_mono (R_upd H4.out rfl hu (fun k cells hk => hS k cells (by decide) hk)) (fun k hk => hk.1)
  · exact ⟨_, hown1, Maps.isMap_empty, fun p hp => ⟨by simp [Maps.has, lastIdx, DK.forget], fun c hc => by simp [lastIdx, DK.forget] at hc⟩⟩
theorem new_ok (w : World) (n : Nat) (h0 : 1 ≤ n) (h1 : n ≤ 4096) :
    Calls Tryd.prog 29 #[.int .i64 n] w fun e w' => ∃ b F, e = .returned (.tuple #[.pointer (some ⟨b, 0, none⟩), .int .i64 0]) ∧
      IsDisk w' F b ⟨List.replicate n ⟨#[]⟩, [], false, []⟩ ∧ (∀ k, F k → w.heap.size ≤ k) ∧ Below w.heap.size w w' := by
  have a1 : decide ((n : Int) < 1) = false := by simp; omega
  have a2 : decide (4096 < (n : Int)) = false := by simp; omega
  have hmm := @run_makeMap Tryd.prog
  go_enter Tryd.func29, Tryd.ntmps29
  go_wp2_with ((with_reducible refine gate_dst (N := 11) rfl ?_); refine Kd.R_make Kd.string (w0 := w) w.heap.size 9 rfl rfl 22 (.tmp 10) (.tmp 10) rfl n rfl rfl Tryd.underlying22 (.string ⟨#[]⟩) 16 Pr.info9 rfl (by decide) (by omega) (⟨#[]⟩ : ByteArray) (ok := fun k => w.heap.size ≤ k) (okp := fun _ => False) rfl (fun _ h => h.elim) (Nat.le_refl _) (by omega) (by simp; omega) (Below.refl _ _) (Nat.le_refl _) ?_; intro u1 w1 ho hb hg hat; obtain ⟨A0, c0, hv, hcv, hrd⟩ := Kd.R_reads ho; simp only [List.length_replicate, Int.toNat_natCast] at hv; subst hv; have HO1 := Lib.hid ho; have HB1 := Lib.hid hb; clear ho hb hg hat hrd)
  go_ret2
  have hsz := HB1.out.size
  have hb2 : Below w1.heap.size w1 ((w1.alloc (.map #[] 0)).alloc (.cells #[.slice A0 n c0, .slice none 0 0, .map (some w1.heap.size), .bool false, .slice none 0 0] 75)) :=
    ((Below.refl _ w1).alloc (Nat.le_refl _) _).alloc (by simp) _
  refine ⟨w1.heap.size + 1, fun k => w.heap.size ≤ k ∧ k < w1.heap.size + 2, by simp, ⟨.slice A0 n c0, .slice none 0 0, w1.heap.size, .slice none 0 0, ?_, by omega, by omega, ?_, Kd.R_nil _ _ _ _ _, Kd.R_nil _ _ _ _ _, ?_, fun k hk => by simpa using hk.2⟩, fun k hk => hk.1, HB1.out.trans (hb2.mono hsz)⟩
  · have := Blk.new (w1.alloc (.map #[] 0)) #[.slice A0 n c0, .slice none 0 0, .map (some w1.heap.size), .bool false, .slice none 0 0] 75
    simpa using this
  · exact Kd.R_mono (Kd.R_lower (Kd.R_below (R_fit HO1.out) hb2) (Nat.zero_le _)) (fun k hk => ⟨hk.1, by omega⟩)
  · refine ⟨.map [], (World.ownsMap_made w1 Tryd.prog 3 _).alloc _, Maps.isMap_empty, fun p hp => ⟨by simp [Maps.has, lastIdx], fun c hc => by simp [lastIdx] at hc⟩⟩
def DK.sync (d : DK) : DK := DK.record { d with dur := d.pend.foldl (fun l x => l.set x.page.toNat x.data) d.dur, pend := [] } ⟨0, ⟨#[]⟩, true⟩
theorem R_head {α : Type} {d : Kd α} {e base : Nat} {w : World} {ok : Nat → Prop} {A : Option Addr} {n c : Nat} {xs : List α} (h : d.R e w base ok (.slice A n c) xs) (hn : 0 < xs.length) :
    ∃ g, A = some ⟨g, 0, none⟩ ∧ n = xs.length ∧ ok g := by
  obtain ⟨h0, inner, ho, _⟩ := h
  rcases ho.2 with ⟨e, hz⟩ | ⟨g, cap, cur, e, _⟩
  · simp at e; omega
  · injection e with e1 e2 e3
    subst e1; subst e2
    exact ⟨g, rfl, rfl, h0 g rfl⟩
def syncL (d : DK) (k : Nat) : List ByteArray := (d.pend.take k).foldl (fun l x => l.set x.page.toNat x.data) d.dur
theorem syncL_len (d : DK) (k : Nat) : (syncL d k).length = d.dur.length := by
  unfold syncL
  generalize d.pend.take k = l
  generalize d.dur = m
  induction l generalizing m with
  | nil => rfl
  | cons x r ih => rw [List.foldl_cons, ih]; simp
theorem syncL_succ (d : DK) (k : Nat) (x : Wr) (hx : d.pend[k]? = some x) : syncL d (k + 1) = (syncL d k).set x.page.toNat x.data := by
  unfold syncL
  rw [List.take_add_one, hx]
  simp
def SyncRel (w : World) (F : Nat → Prop) (b : Nat) (d : DK) (A0 : Option Addr) (c0 : Nat) (v1 : Value) (bm : Nat) (v4 : Value) (i : Value) (wr : World) : Prop :=
  ∃ k : Nat, k ≤ d.pend.length ∧ i = .int .i64 k ∧ Blk wr b #[.slice A0 d.dur.length c0, v1, .map (some bm), .bool d.on, v4] 75 ∧
    Kd.R Kd.string 9 wr 0 F (.slice A0 d.dur.length c0) (syncL d k) ∧ Upd (fun j => some j = (Value.slice A0 d.dur.length c0).ownBlock) w wr
theorem forget_sync {w wr : World} {F : Nat → Prop} {b : Nat} {d : DK} {A0 A1 : Option Addr} {c0 c1 bm : Nat} {v4 : Value} (hd : IsDisk w F b d)
    (hb : Blk w b #[.slice A0 d.dur.length c0, .slice A1 d.pend.length c1, .map (some bm), .bool d.on, v4] 75) (h : SyncRel w F b d A0 c0 (.slice A1 d.pend.length c1) bm v4 (.int .i64 d.pend.length) wr) :
    IsDisk wr F b { d with dur := syncL d d.pend.length } ∧ Upd F w wr := by
  obtain ⟨k, hk, hi, hb', hr, hu⟩ := h
  obtain rfl : k = d.pend.length := by simp at hi; omega
  obtain ⟨_, _, bm', _, hb2, hFb, hFm, h0, h1, h4, hm, hlt⟩ := hd
  have e : some (Obj.cells _ _ _) = some (Obj.cells _ _ _) := hb.symm.trans hb2
  obtain ⟨rfl, rfl, rfl, rfl⟩ : _ ∧ _ ∧ bm = bm' ∧ _ := by simpa using e
  have hty := Kd.R_typed h0
  have hS : ∀ {t : TypeId} (k : Nat) (cells : Array Value), t ≠ 9 → w.heap[k]? = some (.cells cells t (0, 0)) → ¬ (some k = (Value.slice A0 d.dur.length c0).ownBlock) := by
    intro t k cells ht hk he
    obtain ⟨c, hc⟩ := hty k he.symm
    rw [hc] at hk; simp at hk; exact ht hk.2.symm
  refine ⟨⟨_, _, bm, _, hb', hFb, hFm, hr, ?_, ?_, ?_, fun k hk => Nat.lt_of_lt_of_le (hlt k hk) hu.size⟩, hu.mono (fun k hk => h0.1 k hk.symm)⟩
  · exact Kd.R_mono (R_upd h1 rfl hu (fun k cells hk => hS k cells (by decide) hk)) (fun k hk => hk.1)
  · exact Kd.R_mono (R_upd h4 rfl hu (fun k cells hk => hS k cells (by decide) hk)) (fun k hk => hk.1)
  · refine hm.move (hu.block bm hm.lt (fun he => ?_))
    obtain ⟨c, hc⟩ := hty bm he.symm
    exact hm.no_cells hc
theorem sync_eq (d : DK) : (DK.record (DK.forget { d with dur := syncL d d.pend.length }) ⟨0, ⟨#[]⟩, true⟩) = d.sync := by
  simp [DK.sync, DK.forget, syncL]
set_option maxRecDepth 100000 in
set_option maxHeartbeats 1000000 in
theorem sync_any (w : World) (F : Nat → Prop) (b : Nat) (d : DK) (hd : IsDisk w F b d) (hp : ∀ x ∈ d.pend, 0 ≤ x.page ∧ x.page < (d.dur.length : Int)) (hl : d.recd.length < 1000000000) (hl1 : d.pend.length < 1000000000) :
    Calls Tryd.prog 40 #[.pointer (some ⟨b, 0, none⟩)] w (DPost w F b d.sync (.tuple #[])) := by
  have hd' := hd
  obtain ⟨v0, v1, bm, v4, hb, hFb, hFm, h0, h1, h4, hm, hlt⟩ := hd'
  obtain ⟨A0, c0, rfl, hc0, hr0⟩ := Kd.R_reads h0
  obtain ⟨A1, c1, rfl, hc1, hr1⟩ := Kd.R_reads h1
  have k1 : w.cell? ⟨b, 1, none⟩ = some (.slice A1 d.pend.length c1) := hb.cell 1 _ rfl
  have HD := Lib.hid hd
  have HP := Lib.hid hp
  have HB := Lib.hid hb
  have H0 := Lib.hid h0
  have H1 := Lib.hid h1
  have HLT := Lib.hid hlt
  clear hd hp hb h0 h1 h4 hm hlt hr0 hr1
  go_enter Tryd.func40, Tryd.ntmps40
  go_wp2
  go_loopw [9] (fun i wr => SyncRel w F b d A0 c0 (.slice A1 d.pend.length c1) bm v4 i wr) (fun i _ => d.pend.length - (intOf i).toNat)
  case atStart =>
    exact ⟨0, Nat.zero_le _, rfl, HB.out, by simpa [syncL] using H0.out, Upd.refl _ _⟩
  case round =>
    obtain ⟨k, hk, rfl, hb1, hr, hu⟩ := hrel
    by_cases hlt : k < d.pend.length
    · have hty := Kd.R_typed H0.out
      have hr1 := R_upd H1.out rfl hu (fun j cells hj he => by
        obtain ⟨c, hc⟩ := hty j he.symm
        rw [hc] at hj; simp at hj)
      obtain ⟨_, _, e, _, hr1'⟩ := Kd.R_reads hr1
      obtain ⟨rfl, rfl⟩ : _ ∧ _ := by simpa using e
      obtain ⟨ad, x, rfl, hx, hx0, hx1⟩ := at_Wr hr1' k (by omega) (by omega)
      rw [Int.toNat_natCast] at hx hx0 hx1
      have hxp := HP.out x (List.mem_of_getElem? hx)
      obtain ⟨hp0, hp1⟩ := hxp
      have hlen := syncL_len d k
      obtain ⟨g, rfl, _, hFg⟩ := R_head hr (by omega)
      have hd0 : wr.cell? ⟨b, 0, none⟩ = some (.slice (some ⟨g, 0, none⟩) d.dur.length c0) := hb1.cell 0 _ rfl
      have hbl := hb1.lt
      have hbn : b ≠ wr.heap.size := by omega
      have hgl : g < wr.heap.size := Nat.lt_of_lt_of_le (HLT.out g hFg) hu.size
      have hgn : g ≠ wr.heap.size := by omega
      obtain ⟨hcell, hfro⟩ := Kd.R_celln (⟨#[]⟩ : ByteArray) hr x.page hp0 hp1
      have HX := Lib.hid hx
      have HE := Lib.hid hr1
      have HR := Lib.hid hr
      have HU := Lib.hid hu
      have HB1 := Lib.hid hb1
      have HT := Lib.hid hty
      have HLN := Lib.hid hlen
      clear hx hr1 hr hu hb1 e hr1' hty hlen
      go_wp2
      have hbx := Blk.new wr #[.int .i64 x.page, .string x.data] 77
      have x0 : (wr.alloc (.cells #[.int .i64 x.page, .string x.data] 77)).cell? ⟨wr.heap.size, 0, none⟩ = some (.int .i64 x.page) := hbx.cell 0 _ rfl
      have x1 : (wr.alloc (.cells #[.int .i64 x.page, .string x.data] 77)).cell? ⟨wr.heap.size, 1, none⟩ = some (.string x.data) := hbx.cell 1 _ rfl
      have y0 : (wr.alloc (.cells #[.int .i64 x.page, .string x.data] 77)).cell? ⟨b, 0, none⟩ = some (.slice (some ⟨g, 0, none⟩) d.dur.length c0) := (HB1.out.alloc _).cell 0 _ rfl
      have HR3 : Hid (Kd.R Kd.string 9 (wr.alloc (.cells #[.int .i64 x.page, .string x.data] 77)) 0 F (.slice (some ⟨g, 0, none⟩) d.dur.length c0) (syncL d k)) := Kd.R_below HR.out ((Below.refl _ wr).alloc (Nat.le_refl _) _)
      obtain ⟨hcell2, hfro2⟩ := Kd.R_celln (⟨#[]⟩ : ByteArray) HR3.out x.page hp0 hp1
      have HU3 : Hid (Upd (fun j => some j = (Value.slice (some ⟨g, 0, none⟩) d.dur.length c0).ownBlock) w (wr.alloc (.cells #[.int .i64 x.page, .string x.data] 77))) := HU.out.alloc _
      have HB3 : Hid (Blk (wr.alloc (.cells #[.int .i64 x.page, .string x.data] 77)) b #[.slice (some ⟨g, 0, none⟩) d.dur.length c0, .slice (some ad) d.pend.length c1, .map (some bm), .bool d.on, v4] 75) := HB1.out.alloc _
      clear hbx hx0 hx1 hcell hfro hd0 hbn hgn hbl hgl
      generalize wr.alloc (.cells #[.int .i64 x.page, .string x.data] 77) = W1 at *
      go_still_tail 8, (by kernel_rfl)
      change wpList _ _ _ _ _ W1.drew
      go_wp2
      go_roundw
      case rel =>
        have hgb : b ≠ g := by
          obtain ⟨c, hc⟩ := Kd.R_typed HR3.out g rfl
          rintro rfl
          have := HB3.out
          unfold Blk at this
          rw [this] at hc; simp at hc
        refine ⟨k + 1, by omega, by go_num, (HB3.out.far hgb _).drew, ?_, (Upd.setCell (p := ⟨g, x.page.toNat, none⟩) HU3.out (.inl rfl) _).drew⟩
        rw [syncL_succ d k x HX.out]
        exact Kd.R_drew (Kd.R_putn HR3.out x.page x.data)
      case measure => simp [intOf]; omega
    · obtain rfl : k = d.pend.length := by omega
      obtain ⟨hd2, hu2⟩ := forget_sync HD.out HB.out ⟨_, Nat.le_refl _, rfl, hb1, hr, hu⟩
      have HD2 := Lib.hid hd2
      have HU2 := Lib.hid hu2
      clear hd2 hu2 hb1 hr hu
      go_wp2_with (go_at_call 42; refine (forget_any _ _ _ _ HD2.out).mono ?_; rintro e w2 ⟨rfl, F2, hF2, hd3, hu3⟩; have HF2 := Lib.hid hF2; have HD3 := Lib.hid hd3; have HU3 := Lib.hid hu3; clear hF2 hd3 hu3)
      refine (record_any _ _ _ _ (⟨0, ⟨#[]⟩, true⟩ : Op64) HD3.out hl).mono ?_
      rintro e w4 ⟨rfl, F4, hF4, hd4, hu4⟩
      have HF4 := Lib.hid hF4
      have HD4 := Lib.hid hd4
      have HU4 := Lib.hid hu4
      clear hF4 hd4 hu4
      go_wp2
      go_end0
      have s2 := HU2.out.size
      have s3 := HU3.out.size
      refine ⟨rfl, F4, fun k hk => ?_, by rw [← sync_eq]; exact HD4.out, (HU2.out.trans HU3.out (fun i hi => .inl hi)).trans HU4.out (fun i hi => (HF2.out i hi).elim .inl (fun h => .inr (by omega)))⟩
      rcases HF4.out k hk with h | h
      · exact (HF2.out k h).elim .inl (fun h => .inr (by omega))
      · exact .inr (by omega)
end Go.Proofs.YtpmjipokkkkljaaDoor
