/-
  Part of the proof of cd_card: the lemmas of OpenF that it uses.
-/
import Derived.Test.YtpmjipokkkkljaaDoorQPages
import Derived.Test.YtpmjipokkkkljaaDoorQBuilder
import Derived.Test.YtpmjipokkkkljaaDoorQRegs
namespace Go.Proofs.YtpmjipokkkkljaaDoor
set_option linter.all false
set_option linter.unusedVariables false
set_option linter.unusedSimpArgs false
open Go.RowKit Go.Proofs.YtpmjipokkkkljaaDoorW.PrintWords Go.Proofs.YtpmjipokkkkljaaDoorW.PrintLast Go.Proofs.YtpmjipokkkkljaaDoorW.PrintMore
/-- What Open has so far. -/
structure OSt where
  recs : List ByteArray
  next : Nat
  chain : ByteArray
  opn : List PG
def catD : List PG → ByteArray
  | [] => ByteArray.empty
  | p :: r => p.data ++ catD r
def headBad (opn : List PG) (p : PG) : Bool := match opn with
  | [] => false
  | q :: _ => !(q.digest.toList == p.digest.toList)
def stepO (st : OSt) (p : PG) : Option OSt :=
  if headBad st.opn p then none
  else if p.last then if (sha (catD (st.opn ++ [p]))).toList == p.digest.toList then some ⟨st.recs ++ [catD (st.opn ++ [p])], st.next + (st.opn ++ [p]).length, p.check, []⟩ else none
  else some { st with opn := st.opn ++ [p] }
def runO : OSt → List PG → Option OSt
  | st, [] => some st
  | st, p :: r => (stepO st p).bind fun st' => runO st' r
/-- Up to the first page that does not fit. -/
def openGo : OSt → List PG → OSt
  | st, [] => st
  | st, p :: r => match stepO st p with
    | some st' => openGo st' r
    | none => st
theorem runO_snoc (p : PG) : ∀ (l : List PG) (st : OSt), runO st (l ++ [p]) = (runO st l).bind fun st' => stepO st' p
  | [], st => by
    show (stepO st p).bind (fun st' => runO st' []) = stepO st p
    cases stepO st p <;> rfl
  | q :: l, st => by
    show (stepO st q).bind (fun st' => runO st' (l ++ [p])) = ((stepO st q).bind fun st' => runO st' l).bind fun st' => stepO st' p
    cases h : stepO st q with
    | none => rfl
    | some st' => exact runO_snoc p l st'
theorem openGo_run (r : List PG) : ∀ (l : List PG) (st st' : OSt), runO st l = some st' → openGo st (l ++ r) = openGo st' r
  | [], st, st', h => by injection h with h; subst h; rfl
  | q :: l, st, st', h => by
    have h : (stepO st q).bind (fun st' => runO st' l) = some st' := h
    rw [List.cons_append, openGo]
    cases hq : stepO st q with
    | none => rw [hq] at h; cases h
    | some s1 => rw [hq] at h; exact openGo_run r l s1 st' h
theorem openGo_stop {st st' : OSt} {l r : List PG} {p : PG} (h : runO st l = some st') (hp : stepO st' p = none) : openGo st (l ++ p :: r) = st' := by
  rw [openGo_run _ _ _ _ h, openGo, hp]
/-- What is counted: the pages of records and the open ones are those that came. -/
theorem runO_count : ∀ (l : List PG) (st st' : OSt), runO st l = some st' → st'.next + st'.opn.length = st.next + st.opn.length + l.length
  | [], st, st', h => by injection h with h; subst h; rfl
  | q :: l, st, st', h => by
    have h : (stepO st q).bind (fun st' => runO st' l) = some st' := h
    cases hq : stepO st q with
    | none => rw [hq] at h; cases h
    | some s1 =>
      rw [hq] at h
      have h1 := runO_count l s1 st' h
      have h2 : s1.next + s1.opn.length = st.next + st.opn.length + 1 := by
        unfold stepO at hq
        split at hq
        · cases hq
        · split at hq
          · split at hq
            · injection hq with hq; subst hq; simp; omega
            · cases hq
          · injection hq with hq; subst hq; simp; omega
      rw [h1, h2, List.length_cons]; omega
theorem runO_recs : ∀ (l : List PG) (st st' : OSt), runO st l = some st' → st'.recs.length ≤ st.recs.length + l.length
  | [], st, st', h => by injection h with h; subst h; simp
  | q :: l, st, st', h => by
    have h : (stepO st q).bind (fun st' => runO st' l) = some st' := h
    cases hq : stepO st q with
    | none => rw [hq] at h; cases h
    | some s1 =>
      rw [hq] at h
      have h1 := runO_recs l s1 st' h
      have h2 : s1.recs.length ≤ st.recs.length + 1 := by
        unfold stepO at hq
        split at hq
        · cases hq
        · split at hq
          · split at hq
            · injection hq with hq; subst hq; simp
            · cases hq
          · injection hq with hq; subst hq; simp
      rw [List.length_cons]; omega
theorem runO_opn : ∀ (l : List PG) (st st' : OSt), runO st l = some st' → ∀ q ∈ st'.opn, q ∈ st.opn ∨ q ∈ l
  | [], st, st', h => by injection h with h; subst h; exact fun q hq => .inl hq
  | p :: l, st, st', h => by
    have h : (stepO st p).bind (fun st' => runO st' l) = some st' := h
    cases hq : stepO st p with
    | none => rw [hq] at h; cases h
    | some s1 =>
      rw [hq] at h
      intro q hq1
      rcases runO_opn l s1 st' h q hq1 with h1 | h1
      · have h2 : q ∈ st.opn ∨ q = p := by
          unfold stepO at hq
          split at hq
          · cases hq
          · split at hq
            · split at hq
              · injection hq with hq; subst hq; cases h1
              · cases hq
            · injection hq with hq; subst hq; simpa using h1
        exact h2.imp id (fun e => by rw [e]; exact List.mem_cons_self ..)
      · exact .inr (List.mem_cons_of_mem _ h1)
theorem catD_snoc (p : PG) : ∀ l : List PG, catD (l ++ [p]) = catD l ++ p.data
  | [] => by show p.data ++ ByteArray.empty = ByteArray.empty ++ p.data; rw [ByteArray.append_empty, ByteArray.empty_append]
  | q :: l => by show q.data ++ catD (l ++ [p]) = (q.data ++ catD l) ++ p.data; rw [catD_snoc p l, ByteArray.append_assoc]
theorem catD_size (l : List PG) (h : ∀ p ∈ l, p.data.size ≤ 1000) : (catD l).size ≤ 1000 * l.length := by
  induction l with
  | nil => exact Nat.le_refl _
  | cons q l ih =>
    have h1 := h q (List.mem_cons_self ..)
    have h2 := ih (fun p hp => h p (List.mem_cons_of_mem _ hp))
    show (q.data ++ catD l).size ≤ _
    rw [ByteArray.size_append, List.length_cons]; omega
theorem parseF_data {epoch : Int} {s chain : ByteArray} {p : PG} (h : parseF epoch s chain = some p) : p.data.size ≤ 1000 ∧ p.check.size ≤ 1000 := by
  refine ⟨?_, parseF_check h⟩
  unfold parseF at h
  split at h
  · cases h
  · rename_i hb
    injection h with h
    subst h
    have hl : lenOf s ≤ 437 := by
      simp [badBody] at hb
      omega
    simp only [ByteArray.size_extract]
    omega
theorem pagesF_data {d : DK} {epoch : Int} : ∀ (n : Nat) (first : Int) (chain : ByteArray), ∀ p ∈ pagesF d epoch first n chain, p.data.size ≤ 1000 ∧ p.check.size ≤ 1000
  | 0, _, _, p, hp => by cases hp
  | n + 1, first, chain, p, hp => by
    rw [pagesF] at hp
    split at hp
    · split at hp
      · rename_i q hq
        rcases List.mem_cons.1 hp with rfl | hp
        · exact parseF_data hq
        · exact pagesF_data n _ _ p hp
      · cases hp
    · cases hp
theorem pagesF_len {d : DK} {epoch : Int} : ∀ (n : Nat) (first : Int) (chain : ByteArray), (pagesF d epoch first n chain).length ≤ n
  | 0, _, _ => Nat.le_refl _
  | n + 1, first, chain => by
    rw [pagesF]
    split
    · split
      · rw [List.length_cons]; exact Nat.succ_le_succ (pagesF_len n _ _)
      · exact Nat.zero_le _
    · exact Nat.zero_le _
def chain0 (epoch : Int) : ByteArray := sha (⟨#[9]⟩ ++ bigS epoch 8 : ByteArray)
def st0 (epoch : Int) : OSt := ⟨[], 0, chain0 epoch, []⟩
/-- What Open finds. -/
def openF (d : DK) (epoch first : Int) (cnt : Nat) : OSt := openGo (st0 epoch) (pagesF d epoch first cnt (chain0 epoch))
/-- Pages as elements of a slice. -/
def kPG : Kd PG := Kd.iso (Kd.pair Kd.string (Kd.pair Kd.string (Kd.pair Kd.string Kd.bool))) (fun p : PG => (p.check, (p.digest, (p.data, p.last))))
theorem kPG_open {w : World} {p : PG} {cs : List Value} (h : kPG.K w p cs) : cs = [.string p.check, .string p.digest, .string p.data, .bool p.last] := by
  obtain ⟨_, _, rfl, rfl, _, _, rfl, rfl, _, _, rfl, rfl, rfl⟩ := h
  exact rfl
theorem kPG_mkM (w : World) (base : Nat) (ok : Nat → Prop) (p : PG) : kPG.M w base ok p [.string p.check, .string p.digest, .string p.data, .bool p.last] :=
  ⟨[.string p.check], [.string p.digest, .string p.data, .bool p.last], rfl, rfl, [.string p.digest], [.string p.data, .bool p.last], rfl, rfl, [.string p.data], [.bool p.last], rfl, rfl, rfl⟩
theorem infoPG : (Tryd.prog.info? 90).map (fun i => (i.zero, i.size, i.bytes)) = some (some (.agg #[(.string ⟨#[]⟩), (.string ⟨#[]⟩), (.string ⟨#[]⟩), (.bool false)]), 4, 56) := by kernel_rfl
theorem at_PG {w : World} {A : Option Addr} {n : Nat} {xs : List PG} (h : Kd.C kPG w A n xs) (i : Int) (h0 : 0 ≤ i) (h1 : i < n) :
    ∃ ad x, A = some ad ∧ xs[i.toNat]? = some x ∧ w.cell? (ad.add (i.toNat * 4)) = some (.string x.check) ∧ w.cell? ⟨(ad.add (i.toNat * 4)).block, (ad.add (i.toNat * 4)).off + 1, none⟩ = some (.string x.digest) ∧
      w.cell? ⟨(ad.add (i.toNat * 4)).block, (ad.add (i.toNat * 4)).off + 2, none⟩ = some (.string x.data) ∧ w.cell? ⟨(ad.add (i.toNat * 4)).block, (ad.add (i.toNat * 4)).off + 3, none⟩ = some (.bool x.last) := by
  obtain ⟨hl, _, hr⟩ := h
  obtain ⟨ad, e, hc⟩ := hr (by omega)
  have hlt : i.toNat < xs.length := by omega
  obtain ⟨c, hs, hK, hc0⟩ := hc i.toNat _ (List.getElem?_eq_getElem hlt)
  have hc1 : ∀ j u, c[j]? = some u → w.cell? (ad.add (i.toNat * 4 + j)) = some u := hc0
  obtain rfl := kPG_open hK
  exact ⟨ad, xs[i.toNat], e, List.getElem?_eq_getElem hlt, hc1 0 _ rfl, by rw [← add_field _ _ 1 (by omega)]; exact hc1 1 _ rfl, by rw [← add_field _ _ 2 (by omega)]; exact hc1 2 _ rfl, by rw [← add_field _ _ 3 (by omega)]; exact hc1 3 _ rfl⟩
end Go.Proofs.YtpmjipokkkkljaaDoor
