/-
  Part of the proof of cd_card: the lemmas of RefJ that it uses.
-/
import Derived.Test.YtpmjipokkkkljaaDoorQPr9
import Derived.Test.YtpmjipokkkkljaaDoorQKeeps
namespace Go.Proofs.YtpmjipokkkkljaaDoor
set_option linter.all false
set_option linter.unusedVariables false
set_option linter.unusedSimpArgs false
open Go.RowKit Go.Proofs.YtpmjipokkkkljaaDoorW.PrintWords Go.Proofs.YtpmjipokkkkljaaDoorW.PrintLast Go.Proofs.YtpmjipokkkkljaaDoorW.PrintMore Go.Proofs.YtpmjipokkkkljaaDoor.Pr
abbrev RW := S80
def rws (l : List Wr) : List RW := l.map fun x => ⟨x.page, x.data⟩
def lastData (l : List Wr) (p : Int) (c : ByteArray) : ByteArray := l.foldl (fun c x => if x.page = p then x.data else c) c
theorem lastData_idx (p : Int) : ∀ (l : List Wr) (c : ByteArray), lastData l p c = match lastIdx l p with
    | some i => ((l[i.toNat]?).map (·.data)).getD ⟨#[]⟩
    | none => c
  | [], c => rfl
  | x :: r, c => by
    show lastData r p (if x.page = p then x.data else c) = _
    rw [lastData_idx p r]
    simp only [lastIdx]
    cases h : lastIdx r p with
    | some i =>
      have := lastIdx_lt r p i h
      simp only
      rw [show (i + 1).toNat = i.toNat + 1 by omega, List.getElem?_cons_succ]
    | none =>
      by_cases hx : x.page = p
      · simp [hx]
      · simp [hx]
theorem read_l0 (dur : List ByteArray) (l : List Wr) (p : Int) (hl : l.length ≤ 4611686018427387904) (m : Nat) : ∀ (i k : Nat) (c : ByteArray), i + m = l.length → m < k →
    modcertref50_Read.l0 k p c i dur (rws l) = if (lastData (l.drop i) p c).toList = ([33] : List UInt8) then some (⟨#[]⟩, 21) else some (lastData (l.drop i) p c, 0) := by
  induction m with
  | zero =>
    intro i k c h hk
    obtain ⟨k, rfl⟩ : ∃ n, k = n + 1 := ⟨k - 1, by omega⟩
    have hn : (rws l).length = l.length := by simp [rws]
    rw [modcertref50_Read.l0, hn, if_neg (by omega), List.drop_eq_nil_of_le (by omega)]
    rfl
  | succ m ih =>
    intro i k c h hk
    obtain ⟨k, rfl⟩ : ∃ n, k = n + 1 := ⟨k - 1, by omega⟩
    have hn : (rws l).length = l.length := by simp [rws]
    have hi : i < l.length := by omega
    have e1 : wrap64 ((i : Int) + 1) = ((i + 1 : Nat) : Int) := by unfold wrap64; omega
    have er : rd_T80 (rws l) (i : Int) = ⟨l[i].page, l[i].data⟩ := by simp [rd_T80, rws, hi]
    rw [modcertref50_Read.l0, hn, e1, er]
    clear e1 er
    rw [if_pos (by omega), if_pos (by omega), ih (i + 1) k _ (by omega) (by omega), ih (i + 1) k _ (by omega) (by omega), List.drop_eq_getElem_cons hi]
    have hc : lastData (l[i] :: l.drop (i + 1)) p c = lastData (l.drop (i + 1)) p (if l[i].page = p then l[i].data else c) := rfl
    by_cases hx : l[i].page = p
    · rw [if_pos hx] at hc
      rw [if_pos hx]
      simp only [hc]
    · rw [if_neg hx] at hc
      rw [if_neg hx]
      simp only [hc]
theorem toList_len (s : ByteArray) : s.toList.length = s.size := by rw [ByteArray.toList_eq, Array.length_toList]; rfl
theorem read_f (d : DK) (p : Int) (hl : d.pend.length ≤ 4611686018427387904) (hs : ∀ x ∈ d.pend, x.data.size = 512) (k : Nat) (hk : d.pend.length + 3 ≤ k) : modcertref50_Read.f k d.dur (rws d.pend) p = some (d.read p) := by
  obtain ⟨k, rfl⟩ : ∃ n, k = n + 1 := ⟨k - 1, by omega⟩
  unfold modcertref50_Read.f DK.read
  by_cases h0 : p < 0
  · rw [if_pos h0, modcertref50_Read.j0, if_pos rfl, if_neg (by omega)]
  · rw [if_neg h0, modcertref50_Read.j0]
    by_cases h1 : p < (d.dur.length : Int)
    · rw [if_neg (by simp; omega), if_pos (by omega), if_pos h1, if_pos ⟨by omega, h1⟩]
      have e := read_l0 d.dur d.pend p hl d.pend.length 0 k (rdOf ByteArray.empty d.dur p) (by omega) (by omega)
      rw [List.drop_zero] at e
      refine e.trans ?_
      rw [lastData_idx]
      cases hx : lastIdx d.pend p with
      | some i =>
        have hi := lastIdx_lt d.pend p i hx
        have hi2 : i.toNat < d.pend.length := by omega
        simp only [List.getElem?_eq_getElem hi2, Option.map_some, Option.getD_some]
        have := hs _ (List.getElem_mem hi2)
        rw [if_neg]
        intro h
        have h2 := congrArg List.length h
        rw [toList_len, this] at h2
        simp at h2
      | none =>
        have er : rdOf ByteArray.empty d.dur p = (d.dur[p.toNat]?).getD ⟨#[]⟩ := by
          unfold rdOf
          rw [List.getD_eq_getElem?_getD]; rfl
        simp only [er]
        by_cases hb : ((d.dur[p.toNat]?).getD ⟨#[]⟩ : ByteArray).toList = [33]
        · rw [if_pos hb, if_pos (by simpa using hb)]
        · rw [if_neg hb, if_neg (by simpa using hb)]
    · rw [if_pos (by simp; omega), if_neg (by omega)]
def rb : List UInt8 → Int → Int
  | [], n => n
  | b :: r, n => if n ≥ 18014398509481984 then -1 else rb r (256 * n + b.toNat)
theorem bt_toList (s : ByteArray) (i : Nat) (h : i < s.size) : bt s (i : Int) = ((s.data.toList[i]'h).toNat : Int) := by
  rw [bt_nat s i h]; rfl
theorem readbig_l0 (s : ByteArray) (hs : s.size ≤ 1000000) (m : Nat) : ∀ (i k : Nat) (n : Int), i + m = s.size → m < k → 0 ≤ n → n < 4611686018427387904 →
    modcertref51_ReadBig.l0 k s n i = some (rb (s.data.toList.drop i) n) := by
  have hl : s.data.toList.length = s.size := by simp
  induction m with
  | zero =>
    intro i k n h hk h0 h1
    obtain ⟨k, rfl⟩ : ∃ n, k = n + 1 := ⟨k - 1, by omega⟩
    rw [modcertref51_ReadBig.l0, if_neg (by omega), List.drop_eq_nil_of_le (by omega)]
    rfl
  | succ m ih =>
    intro i k n h hk h0 h1
    obtain ⟨k, rfl⟩ : ∃ n, k = n + 1 := ⟨k - 1, by omega⟩
    have hi : i < s.size := by omega
    rw [modcertref51_ReadBig.l0, if_pos (by omega), List.drop_eq_getElem_cons (by omega)]
    by_cases hn : n ≥ 18014398509481984
    · rw [if_pos hn]
      unfold rb
      rw [if_pos hn]
    · have hb := bt_range s (i : Int)
      have e1 : wrap64 (wrap64 (256 * n) + wrap64 (bt s (i : Int))) = 256 * n + bt s (i : Int) := by unfold wrap64; omega
      have e2 : wrap64 ((i : Int) + 1) = ((i + 1 : Nat) : Int) := by unfold wrap64; omega
      rw [if_neg hn, if_pos (by omega), e1, e2, ih (i + 1) k _ (by omega) (by omega) (by omega) (by omega)]
      rw [rb, if_neg hn, bt_toList s i hi]
theorem readbig_f (s : ByteArray) (hs : s.size ≤ 1000000) (k : Nat) (hk : s.size < k) : modcertref51_ReadBig.f k s = some (rb s.data.toList 0) := by
  have := readbig_l0 s hs s.size 0 k 0 (by omega) hk (by omega) (by omega)
  rw [List.drop_zero] at this
  exact this
theorem rb2 (s : ByteArray) (i : Nat) (h : i + 2 ≤ s.size) : rb (s.extract i (i + 2)).data.toList 0 = ((byteN s i * 256 + byteN s (i + 1) : Nat) : Int) := by
  have e : (s.extract i (i + 2)).data.toList = [s.data.toList[i]'(by simp; show i < s.size; omega), s.data.toList[i + 1]'(by simp; show i + 1 < s.size; omega)] := by
    apply List.ext_getElem
    · simp; show min 2 (s.size - i) = 2; omega
    · intro n h1 h2
      match n, h2 with
      | 0, _ => simp
      | 1, _ => simp
  rw [e]
  have hb : ∀ j (hj : j < s.data.toList.length), ((s.data.toList[j]'hj).toNat) = byteN s j := fun j hj => by
    unfold byteN
    rw [List.getD_eq_getElem?_getD, List.getElem?_eq_getElem hj]; rfl
  have l0 := (s.data.toList[i]'(by simp; show i < s.size; omega)).toNat_lt
  simp only [rb]
  rw [if_neg (by omega), if_neg (by omega), hb, hb]
  omega
theorem rb8 (s : ByteArray) (h : s.size = 8) (e : Int) (h0 : 0 ≤ e) (h1 : e < 4611686018427387904) : (rb s.data.toList 0 = e) ↔ s = bigS e 8 := by
  obtain ⟨a, b, c, d, f, g, i, j, hl⟩ : ∃ a b c d f g i j, s.data.toList = [a, b, c, d, f, g, i, j] := by
    have hl : s.data.toList.length = 8 := by simp; exact h
    match s.data.toList, hl with
    | [a, b, c, d, f, g, i, j], _ => exact ⟨a, b, c, d, f, g, i, j, rfl⟩
  have es : s = ⟨#[a, b, c, d, f, g, i, j]⟩ := by
    apply ByteArray.ext
    apply Array.ext'
    simpa using hl
  have hbig : bigS e 8 = ⟨#[UInt8.ofNat (e / 2 ^ 56 % 256).toNat, UInt8.ofNat (e / 2 ^ 48 % 256).toNat, UInt8.ofNat (e / 2 ^ 40 % 256).toNat, UInt8.ofNat (e / 2 ^ 32 % 256).toNat, UInt8.ofNat (e / 2 ^ 24 % 256).toNat, UInt8.ofNat (e / 2 ^ 16 % 256).toNat, UInt8.ofNat (e / 2 ^ 8 % 256).toNat, UInt8.ofNat (e / 2 ^ 0 % 256).toNat]⟩ := rfl
  rw [hl, hbig, es]
  have la := a.toNat_lt; have lb := b.toNat_lt; have lc := c.toNat_lt; have ld := d.toNat_lt; have lf := f.toNat_lt; have lg := g.toNat_lt; have li := i.toNat_lt; have lj := j.toNat_lt
  have key : ∀ (x : UInt8) (z : Int), 0 ≤ z → z < 256 → (x = UInt8.ofNat z.toNat ↔ (x.toNat : Int) = z) := fun x z hz0 hz1 => by
    constructor
    · rintro rfl
      rw [UInt8.toNat_ofNat']
      omega
    · intro hx
      rw [← hx, Int.toNat_natCast, UInt8.ofNat_toNat]
  have p56 : (2 : Int) ^ 56 = 72057594037927936 := by decide
  have p48 : (2 : Int) ^ 48 = 281474976710656 := by decide
  have p40 : (2 : Int) ^ 40 = 1099511627776 := by decide
  have p32 : (2 : Int) ^ 32 = 4294967296 := by decide
  have p24 : (2 : Int) ^ 24 = 16777216 := by decide
  have p16 : (2 : Int) ^ 16 = 65536 := by decide
  have p8 : (2 : Int) ^ 8 = 256 := by decide
  have p0 : (2 : Int) ^ 0 = 1 := by decide
  rw [p56, p48, p40, p32, p24, p16, p8, p0]
  simp only [ByteArray.mk.injEq, Array.mk.injEq, List.cons.injEq, and_true]
  rw [key a _ (by omega) (by omega), key b _ (by omega) (by omega), key c _ (by omega) (by omega), key d _ (by omega) (by omega), key f _ (by omega) (by omega), key g _ (by omega) (by omega), key i _ (by omega) (by omega), key j _ (by omega) (by omega)]
  clear key hl hbig es
  simp only [rb]
  generalize ha : (a.toNat : Int) = a at *
  generalize hb : (b.toNat : Int) = b at *
  generalize hc : (c.toNat : Int) = c at *
  generalize hd : (d.toNat : Int) = d at *
  generalize hf : (f.toNat : Int) = f at *
  generalize hg : (g.toNat : Int) = g at *
  generalize hi : (i.toNat : Int) = i at *
  generalize hj : (j.toNat : Int) = j at *
  have ra : 0 ≤ a ∧ a < 256 := by omega
  have rb' : 0 ≤ b ∧ b < 256 := by omega
  have rc : 0 ≤ c ∧ c < 256 := by omega
  have rd : 0 ≤ d ∧ d < 256 := by omega
  have rf : 0 ≤ f ∧ f < 256 := by omega
  have rg : 0 ≤ g ∧ g < 256 := by omega
  have ri : 0 ≤ i ∧ i < 256 := by omega
  have rj : 0 ≤ j ∧ j < 256 := by omega
  clear la lb lc ld lf lg li lj ha hb hc hd hf hg hi hj
  rw [if_neg (by omega), if_neg (by omega), if_neg (by omega), if_neg (by omega), if_neg (by omega), if_neg (by omega), if_neg (by omega)]
  obtain ⟨e1, r0, g0, g0a, g0b⟩ : ∃ y r : Int, e = 256 * y + r ∧ 0 ≤ r ∧ r < 256 := ⟨e / 256, e % 256, by omega, by omega, by omega⟩
  obtain ⟨e2, r1, g1, g1a, g1b⟩ : ∃ y r : Int, e1 = 256 * y + r ∧ 0 ≤ r ∧ r < 256 := ⟨e1 / 256, e1 % 256, by omega, by omega, by omega⟩
  obtain ⟨e3, r2, g2, g2a, g2b⟩ : ∃ y r : Int, e2 = 256 * y + r ∧ 0 ≤ r ∧ r < 256 := ⟨e2 / 256, e2 % 256, by omega, by omega, by omega⟩
  obtain ⟨e4, r3, g3, g3a, g3b⟩ : ∃ y r : Int, e3 = 256 * y + r ∧ 0 ≤ r ∧ r < 256 := ⟨e3 / 256, e3 % 256, by omega, by omega, by omega⟩
  obtain ⟨e5, r4, g4, g4a, g4b⟩ : ∃ y r : Int, e4 = 256 * y + r ∧ 0 ≤ r ∧ r < 256 := ⟨e4 / 256, e4 % 256, by omega, by omega, by omega⟩
  obtain ⟨e6, r5, g5, g5a, g5b⟩ : ∃ y r : Int, e5 = 256 * y + r ∧ 0 ≤ r ∧ r < 256 := ⟨e5 / 256, e5 % 256, by omega, by omega, by omega⟩
  obtain ⟨e7, r6, g6, g6a, g6b⟩ : ∃ y r : Int, e6 = 256 * y + r ∧ 0 ≤ r ∧ r < 256 := ⟨e6 / 256, e6 % 256, by omega, by omega, by omega⟩
  have d1 : e / 256 = e1 := by omega
  have d2 : e / 65536 = e2 := by
    rw [show e / 65536 = e / 256 / 256 by rw [Int.ediv_ediv_of_nonneg (by decide)]; rfl, d1]
    omega
  have d3 : e / 16777216 = e3 := by
    rw [show e / 16777216 = e / 65536 / 256 by rw [Int.ediv_ediv_of_nonneg (by decide)]; rfl, d2]
    omega
  have d4 : e / 4294967296 = e4 := by
    rw [show e / 4294967296 = e / 16777216 / 256 by rw [Int.ediv_ediv_of_nonneg (by decide)]; rfl, d3]
    omega
  have d5 : e / 1099511627776 = e5 := by
    rw [show e / 1099511627776 = e / 4294967296 / 256 by rw [Int.ediv_ediv_of_nonneg (by decide)]; rfl, d4]
    omega
  have d6 : e / 281474976710656 = e6 := by
    rw [show e / 281474976710656 = e / 1099511627776 / 256 by rw [Int.ediv_ediv_of_nonneg (by decide)]; rfl, d5]
    omega
  have d7 : e / 72057594037927936 = e7 := by
    rw [show e / 72057594037927936 = e / 281474976710656 / 256 by rw [Int.ediv_ediv_of_nonneg (by decide)]; rfl, d6]
    omega
  have d0 : e / 1 = e := Int.ediv_one e
  rw [d0, d1, d2, d3, d4, d5, d6, d7]
  clear d0 d1 d2 d3 d4 d5 d6 d7
  have m0 : e % 256 = r0 := by omega
  have m1 : e1 % 256 = r1 := by omega
  have m2 : e2 % 256 = r2 := by omega
  have m3 : e3 % 256 = r3 := by omega
  have m4 : e4 % 256 = r4 := by omega
  have m5 : e5 % 256 = r5 := by omega
  have m6 : e6 % 256 = r6 := by omega
  have m7 : e7 % 256 = e7 := by omega
  rw [m0, m1, m2, m3, m4, m5, m6, m7]
  clear m0 m1 m2 m3 m4 m5 m6 m7 p56 p48 p40 p32 p24 p16 p8 p0
  constructor
  · intro h
    split at h
    · omega
    · have hq : 256 * (256 * (256 * (256 * (256 * (256 * (256 * 0 + a) + b) + c) + d) + f) + g) + i = e1 := by omega
      have hj : j = r0 := by omega
      clear h
      subst hj
      have hq2 : 256 * (256 * (256 * (256 * (256 * (256 * 0 + a) + b) + c) + d) + f) + g = e2 := by omega
      have hi : i = r1 := by omega
      have hq3 : 256 * (256 * (256 * (256 * (256 * 0 + a) + b) + c) + d) + f = e3 := by omega
      have hg : g = r2 := by omega
      have hq4 : 256 * (256 * (256 * (256 * 0 + a) + b) + c) + d = e4 := by omega
      have hf : f = r3 := by omega
      have hq5 : 256 * (256 * (256 * 0 + a) + b) + c = e5 := by omega
      have hd : d = r4 := by omega
      have hq6 : 256 * (256 * 0 + a) + b = e6 := by omega
      have hc : c = r5 := by omega
      exact ⟨by omega, by omega, hc, hd, hf, hg, hi, rfl⟩
  · rintro ⟨rfl, rfl, rfl, rfl, rfl, rfl, rfl, rfl⟩
    rw [if_neg (by omega)]
    omega
theorem dropW_nil (l : List UInt8) : l.dropWhile (· == 0) = [] ↔ ∀ x ∈ l, x = 0 := by
  induction l with
  | nil => simp
  | cons a r ih =>
    rw [List.dropWhile_cons]
    by_cases h : a = 0
    · rw [if_pos (by simpa using h), ih]
      simp [h]
    · rw [if_neg (by simpa using h)]
      simp [h]
theorem trimB_nil (l : List UInt8) : Lib.trimB l 0 = [] ↔ ∀ x ∈ l, x = 0 := by
  unfold Lib.trimB Lib.trimLeftB Lib.trimRightB
  rw [dropW_nil]
  constructor
  · intro h
    have h2 : l.reverse.dropWhile (· == 0) = [] := by
      cases hr : l.reverse.dropWhile (· == 0) with
      | nil => rfl
      | cons a r =>
        exfalso
        have h3 := h a (by rw [hr]; simp)
        have h4 := List.head?_dropWhile_not (· == (0 : UInt8)) l.reverse
        rw [hr] at h4
        simp [h3] at h4
    rw [dropW_nil] at h2
    exact fun x hx => h2 x (by simpa using hx)
  · intro h x hx
    have hx2 : x ∈ l.reverse.dropWhile (· == 0) := by simpa using hx
    exact h x (by simpa using (List.dropWhile_sublist _).subset hx2)
abbrev P5 := ByteArray × Bool × ByteArray × ByteArray × Bool
def none5 : P5 := (⟨#[]⟩, false, ⟨#[]⟩, ⟨#[]⟩, false)
def some5 (g : PG) : P5 := (g.check, g.last, g.digest, g.data, true)
theorem trail_l0 (s : ByteArray) (hs : s.size = 512) (n : Nat) (hn : n ≤ 437) (m : Nat) : ∀ (i k : Nat), i + m = 512 → 75 ≤ i → m < k →
    modcertref51_read.l0 k s n i = some (if ∀ x ∈ s.data.toList.drop i, x = 0 then (s.extract 0 32, (bt s 40) == 1, s.extract 43 75, s.extract 75 (75 + n), true) else none5) := by
  have hl : s.data.toList.length = 512 := by simp; exact hs
  have e0 : wrap64 (75 + (n : Int)) = ((75 + n : Nat) : Int) := by unfold wrap64; omega
  induction m with
  | zero =>
    intro i k h h75 hk
    obtain ⟨k, rfl⟩ : ∃ n, k = n + 1 := ⟨k - 1, by omega⟩
    rw [modcertref51_read.l0, hs, if_neg (by omega), e0, if_pos (by decide), if_pos (by decide), if_pos (by decide), if_pos (by decide), if_pos (by decide), if_pos (by omega), if_pos (by omega), List.drop_eq_nil_of_le (by omega), if_pos (by simp), Int.toNat_natCast]
  | succ m ih =>
    intro i k h h75 hk
    obtain ⟨k, rfl⟩ : ∃ n, k = n + 1 := ⟨k - 1, by omega⟩
    have e1 : wrap64 ((i : Int) + 1) = ((i + 1 : Nat) : Int) := by unfold wrap64; omega
    have hi : i < s.size := by omega
    rw [modcertref51_read.l0, if_pos (by omega), if_pos (by omega), e1, bt_toList s i hi, List.drop_eq_getElem_cons (by omega)]
    by_cases hz : s.data.toList[i]'(by omega) = 0
    · rw [if_pos (by rw [hz]; rfl), ih (i + 1) k (by omega) (by omega) (by omega)]
      congr 1
      simp only [List.mem_cons, forall_eq_or_imp, hz, true_and]
    · rw [if_neg (fun h => hz (by
        have : (s.data.toList[i]'(by omega)).toNat = 0 := by omega
        exact UInt8.toNat_inj.1 (by rw [this]; rfl))), if_neg (fun h => hz (h _ (by simp)))]
      rfl
theorem toList_inj {a b : ByteArray} : a.toList = b.toList ↔ a = b := by
  rw [ByteArray.toList_eq, ByteArray.toList_eq]
  constructor
  · intro h
    exact ByteArray.ext (Array.ext' h)
  · rintro rfl; rfl
theorem bt_byteN (s : ByteArray) (i : Nat) (h : i < s.size) : bt s (i : Int) = (byteN s i : Int) := by
  rw [bt_toList s i h]
  unfold byteN
  rw [List.getD_eq_getElem?_getD, List.getElem?_eq_getElem]; rfl
theorem ext_drop (s : ByteArray) (i : Nat) : (s.extract i s.size).data.toList = s.data.toList.drop i := by
  rw [ByteArray.data_extract, Array.toList_extract]
  show List.extract _ _ s.data.size = _
  rw [List.extract_eq_take_drop, List.take_of_length_le (by simp)]
theorem body_f (s : ByteArray) (h512 : s.size = 512) (k : Nat) (hk : 550 ≤ k) :
    modcertref51_read.j0 k s (decide ((bt s 40) > 1)) = some (if badBody s then none5 else (s.extract 0 32, byteN s 40 == 1, s.extract 43 75, s.extract 75 (75 + lenOf s), true)) := by
  obtain ⟨k, rfl⟩ : ∃ n, k = n + 1 := ⟨k - 1, by omega⟩
  have h40 : bt s 40 = (byteN s 40 : Int) := bt_byteN s 40 (by omega)
  have hj : ∀ kk n, 1 ≤ kk → modcertref51_read.j1 kk s n true = some none5 := fun kk n hk => by
    obtain ⟨kk, rfl⟩ : ∃ n, kk = n + 1 := ⟨kk - 1, by omega⟩
    rw [modcertref51_read.j1, if_pos rfl]; rfl
  have h43 : modcertref51_ReadBig.f k (s.extract 41 43) = some ((lenOf s : Nat) : Int) := by
    rw [readbig_f _ (by rw [ByteArray.size_extract]; omega) k (by rw [ByteArray.size_extract]; omega), rb2 s 41 (by omega)]
    rfl
  rw [modcertref51_read.j0, h40]
  unfold badBody
  by_cases c1 : 1 < byteN s 40
  · rw [if_pos (decide_eq_true (by omega))]
    simp [c1, none5]
  · rw [if_neg (by rw [decide_eq_true_eq]; omega), if_pos (by decide), if_pos (by omega), h43]
    simp only [Option.bind_some]
    have d1 : decide (1 < byteN s 40) = false := decide_eq_false c1
    by_cases c2 : 437 < lenOf s
    · rw [if_pos (by omega), hj k _ (by omega)]
      simp [c2]
    · have d2 : decide (437 < lenOf s) = false := decide_eq_false c2
      rw [if_neg (by omega), if_pos (by omega)]
      have ht : modcertref51_read.j1 k s ((lenOf s : Nat) : Int) false = some (if ∀ x ∈ s.data.toList.drop (75 + lenOf s), x = 0 then (s.extract 0 32, (bt s 40) == 1, s.extract 43 75, s.extract 75 (75 + lenOf s), true) else none5) := by
        obtain ⟨k, rfl⟩ : ∃ n, k = n + 1 := ⟨k - 1, by omega⟩
        have e0 : wrap64 (75 + ((lenOf s : Nat) : Int)) = ((75 + lenOf s : Nat) : Int) := by unfold wrap64; omega
        rw [modcertref51_read.j1, if_neg (by decide), e0]
        exact trail_l0 s h512 (lenOf s) (by omega) (437 - lenOf s) (75 + lenOf s) k (by omega) (by omega) (by omega)
      have hb1 : (bt s 40 == 1) = (byteN s 40 == 1) := by
        rw [h40]
        by_cases h : byteN s 40 = 1
        · rw [h]; rfl
        · rw [beq_eq_false_iff_ne.2 (by omega : (byteN s 40 : Int) ≠ 1), beq_eq_false_iff_ne.2 h]
      have hend : (if ∀ x ∈ s.data.toList.drop (75 + lenOf s), x = 0 then ((s.extract 0 32, (bt s 40) == 1, s.extract 43 75, s.extract 75 (75 + lenOf s), true) : P5) else none5) = (if (Lib.trimB (s.extract (75 + lenOf s) s.size).data.toList 0 != []) = true then none5 else (s.extract 0 32, byteN s 40 == 1, s.extract 43 75, s.extract 75 (75 + lenOf s), true)) := by
        rw [ext_drop, hb1]
        by_cases h : ∀ x ∈ s.data.toList.drop (75 + lenOf s), x = 0
        · rw [if_pos h, if_neg (by rw [bne_iff_ne, ne_eq, Decidable.not_not, trimB_nil]; exact h)]
        · rw [if_neg h, if_pos (by rw [bne_iff_ne, ne_eq, trimB_nil]; exact h)]
      by_cases c3 : byteN s 40 = 0
      · rw [if_pos (by omega)]
        by_cases c4 : lenOf s = 437
        · rw [show (((lenOf s : Nat) : Int) != 437) = false by rw [bne_eq_false_iff_eq]; omega, ht, hend]
          simp [d1, d2, c4]
        · rw [show (((lenOf s : Nat) : Int) != 437) = true by rw [bne_iff_ne]; omega, hj k _ (by omega)]
          simp [c3, c4]
      · rw [if_neg (by omega), ht, hend]
        simp [d1, d2, c3]
theorem page_f (e : Int) (h0 : 0 ≤ e) (h1 : e < 4611686018427387904) (d : DK) (p : Int) (c : ByteArray) (hc : c.size ≤ 1000) (hl : d.pend.length ≤ 1000000) (hs : ∀ x ∈ d.pend, x.data.size = 512) (k : Nat) (hk : d.pend.length + 600 ≤ k) :
    modcertref51_read.f k d.dur (rws d.pend) p c e = some (if (d.read p).2 = 0 then (match parseF e (d.read p).1 c with
      | some g => some5 g
      | none => none5) else none5) := by
  unfold modcertref51_read.f
  rw [read_f d p (by omega) hs k (by omega)]
  simp only [Option.bind_some]
  generalize d.read p = r
  obtain ⟨s, er⟩ := r
  have hj : ∀ kk, 1 ≤ kk → modcertref51_read.j0 kk s true = some none5 := fun kk hk => by
    obtain ⟨kk, rfl⟩ : ∃ n, kk = n + 1 := ⟨kk - 1, by omega⟩
    rw [modcertref51_read.j0, if_pos rfl]; rfl
  have hj' := hj k (by omega)
  simp only
  by_cases he : er = 0
  · rw [if_pos he, if_pos he]
    by_cases h512 : s.size = 512
    · rw [if_pos (by omega), if_pos (by decide), if_pos (by omega), if_pos (by omega), if_pos (by
        rw [ByteArray.size_append, ByteArray.size_extract]
        have : ByteArray.size ⟨#[8]⟩ = 1 := rfl
        omega)]
      have hsum : modcertref01_Sum.f (((⟨#[8]⟩ : ByteArray) ++ c) ++ s.extract 32 s.size) = some (sealOf c (s.extract 32 s.size)) := by
        unfold modcertref01_Sum.f sealOf
        rw [if_pos (by
          rw [ByteArray.size_append, ByteArray.size_append, ByteArray.size_extract]
          have : ByteArray.size ⟨#[8]⟩ = 1 := rfl
          omega)]
      rw [hsum]
      simp only [Option.bind_some]
      unfold parseF
      by_cases hseal : sealOf c (s.extract 32 s.size) = s.extract 0 32
      · rw [if_pos (by rw [hseal]), if_pos (by decide), if_pos (by omega), readbig_f _ (by rw [ByteArray.size_extract]; omega) k (by rw [ByteArray.size_extract]; omega), badHead_rest h512 hseal]
        simp only [Option.bind_some]
        have h8 := rb8 (s.extract 32 40) (by rw [ByteArray.size_extract]; omega) e h0 h1
        by_cases hep : s.extract 32 40 = bigS e 8
        · rw [if_pos (h8.2 hep), if_pos (by omega), body_f s h512 k (by omega)]
          have : (s.extract 32 40 != bigS e 8) = false := by rw [hep]; exact ba_eq _
          rw [this, Bool.false_or]
          split <;> rfl
        · rw [if_neg (fun h => hep (h8.1 h)), hj']
          have : (s.extract 32 40 != bigS e 8) = true := ba_ne hep
          rw [this]; rfl
      · rw [if_neg (fun h => hseal (toList_inj.1 h).symm), hj', badHead_seal hseal]
        rfl
    · rw [if_neg (by omega), hj']
      unfold parseF
      rw [badHead_size h512]
      rfl
  · rw [if_neg he, if_neg he, hj']
theorem parse_facts {e : Int} {s c : ByteArray} {g : PG} (h : parseF e s c = some g) : g.check.size = 32 ∧ g.data.size ≤ 437 ∧ (g.last = false → g.data.size = 437) := by
  unfold parseF at h
  split at h
  · cases h
  · rename_i hb
    simp only [Bool.or_eq_true, not_or, Bool.not_eq_true] at hb
    obtain ⟨hh, hb⟩ := hb
    have h512 : s.size = 512 := by
      by_cases hz : s.size = 512
      · exact hz
      · rw [badHead_size hz] at hh; cases hh
    injection h with h
    subst h
    unfold badBody at hb
    simp only [Bool.or_eq_false_iff, decide_eq_false_iff_not, Bool.and_eq_false_iff] at hb
    obtain ⟨⟨⟨b1, b2⟩, b3⟩, _⟩ := hb
    refine ⟨by simp [ByteArray.size_extract]; omega, by simp [ByteArray.size_extract]; omega, fun hl => ?_⟩
    have hl : (byteN s 40 == 1) = false := hl
    rw [beq_eq_false_iff_ne] at hl
    have h0 : byteN s 40 = 0 := by omega
    rcases b3 with b3 | b3
    · rw [beq_eq_false_iff_ne] at b3; exact absurd h0 b3
    · rw [bne_eq_false_iff_eq] at b3
      simp [ByteArray.size_extract]
      omega
theorem catD_size437 : ∀ (l : List PG), (∀ q ∈ l, q.data.size = 437) → (catD l).size = 437 * l.length
  | [], _ => rfl
  | q :: r, h => by
    rw [catD, ByteArray.size_append, catD_size437 r (fun q hq => h q (by simp [hq])), h q (by simp), List.length_cons]
    omega
set_option maxHeartbeats 2000000 in
theorem open_l0 (e : Int) (h0 : 0 ≤ e) (h1 : e < 4611686018427387904) (d : DK) (first : Int) (cnt : Nat) (hf0 : 0 ≤ first) (hf1 : first + cnt ≤ 1000000) (hl : d.pend.length ≤ 1000000) (hs : ∀ x ∈ d.pend, x.data.size = 512) (m : Nat) :
    ∀ (i k : Nat) (st : OSt) (x9 x11 : ByteArray), i + m = cnt → 2 * m + d.pend.length + 700 ≤ k → x9.size ≤ 1000 → st.next + st.opn.length = i → (∀ q ∈ st.opn, q.data.size = 437) → (∀ q r, st.opn = q :: r → x11 = q.digest) → st.recs.length ≤ i →
      modcertref51_Open.l0 k e x9 (catD st.opn) x11 i d.dur (rws d.pend) first cnt first cnt e st.next st.chain st.recs =
        some (first, (cnt : Int), e, ((openGo st (pagesF d e (first + i) m x9)).next : Int), (openGo st (pagesF d e (first + i) m x9)).chain, (openGo st (pagesF d e (first + i) m x9)).recs, 0) := by
  induction m with
  | zero =>
    intro i k st x9 x11 hi hk h9 hn hd hx hr
    obtain ⟨k, rfl⟩ : ∃ n, k = n + 1 := ⟨k - 1, by omega⟩
    rw [modcertref51_Open.l0, if_neg (by omega)]
    rfl
  | succ m ih =>
    intro i k st x9 x11 hi hk h9 hn hd hx hr
    obtain ⟨k, rfl⟩ : ∃ n, k = n + 2 := ⟨k - 2, by omega⟩
    have e1 : wrap64 (first + (i : Int)) = first + i := by unfold wrap64; omega
    have e2 : wrap64 ((i : Int) + 1) = ((i + 1 : Nat) : Int) := by unfold wrap64; omega
    rw [modcertref51_Open.l0, if_pos (by omega), e1, page_f e h0 h1 d (first + i) x9 h9 hl hs (k + 1) (by omega)]
    clear e1
    simp only [Option.bind_some]
    by_cases hrd : (d.read (first + i)).2 = 0
    · rw [if_pos hrd]
      cases hp : parseF e (d.read (first + i)).1 x9 with
      | none =>
        refine (if_neg (show ¬ (false = true) by decide)).trans ?_
        rw [pagesF_none hp]
        rfl
      | some g =>
        obtain ⟨f1, f2, f3⟩ := parse_facts hp
        rw [pagesF_some hrd hp]
        simp only [some5]
        have hcat := catD_size437 st.opn hd
        obtain ⟨x11', h11, hj⟩ : ∃ x11', x11' = (match st.opn with | [] => g.digest | q :: _ => q.digest) ∧
            (if true = true then (if (catD st.opn).toList = ([] : List UInt8) then (modcertref51_Open.j2 (k + 1) e (catD st.opn) g.digest i d.dur (rws d.pend) first cnt first cnt e st.next st.chain st.recs g.check g.last g.digest g.data true) else (modcertref51_Open.j2 (k + 1) e (catD st.opn) x11 i d.dur (rws d.pend) first cnt first cnt e st.next st.chain st.recs g.check g.last g.digest g.data true)) else (some (first, (cnt : Int), e, (st.next : Int), st.chain, st.recs, 0))) =
              modcertref51_Open.j2 (k + 1) e (catD st.opn) x11' i d.dur (rws d.pend) first cnt first cnt e st.next st.chain st.recs g.check g.last g.digest g.data true := by
          refine ⟨_, rfl, ?_⟩
          rw [if_pos (rfl : true = true)]
          cases ho : st.opn with
          | nil => rw [if_pos (show (catD []).toList = ([] : List UInt8) by rw [ByteArray.toList_eq]; rfl)]
          | cons q r =>
            rw [ho] at hcat
            rw [if_neg (fun h => by
              have := congrArg List.length h
              rw [toList_len, hcat] at this
              simp at this)]
            rw [hx q r ho]
        refine hj.trans ?_
        rw [modcertref51_Open.j2, e2]
        clear e2
        have hsz : (catD st.opn).size + g.data.size ≤ 9223372036854775807 := by rw [hcat]; clear ih hj; omega
        rw [if_pos hsz]
        have hhead : headBad st.opn g = !(g.digest.toList == x11'.toList) := by
          rw [h11]
          unfold headBad
          cases st.opn with
          | nil => simp
          | cons q r =>
            simp only
            by_cases hq : q.digest.toList = g.digest.toList
            · simp [hq]
            · rw [beq_eq_false_iff_ne.2 hq, beq_eq_false_iff_ne.2 (fun h => hq h.symm)]
        have hcs : catD (st.opn ++ [g]) = catD st.opn ++ g.data := catD_snoc _ _
        by_cases hdg : g.digest.toList = x11'.toList
        · have hh : headBad st.opn g = false := by rw [hhead, hdg]; simp
          rw [if_pos hdg]
          cases hlast : g.last with
          | true =>
            have hsum : modcertref01_Sum.f (catD st.opn ++ g.data) = some (sha (catD st.opn ++ g.data)) := by
              unfold modcertref01_Sum.f
              rw [if_pos (by rw [ByteArray.size_append, hcat]; omega)]
            rw [if_pos (rfl : true = true), hsum]
            simp only [Option.bind_some]
            by_cases hsh : (sha (catD st.opn ++ g.data)).toList = x11'.toList
            · have hstep : stepO st g = some ⟨st.recs ++ [catD st.opn ++ g.data], st.next + (st.opn ++ [g]).length, g.check, []⟩ := by
                unfold stepO
                rw [hh, hlast, hcs, hsh, hdg]
                simp
              rw [if_pos hsh, if_pos (by omega), openGo, hstep]
              have hnx : st.next + (st.opn ++ [g]).length = i + 1 := by simp; omega
              rw [hnx]
              have := ih (i + 1) k ⟨st.recs ++ [catD st.opn ++ g.data], i + 1, g.check, []⟩ g.check x11' (by omega) (by omega) (by omega) (by simp) (by simp) (by simp) (by simp; omega)
              rw [show first + ((i + 1 : Nat) : Int) = first + i + 1 by push_cast; omega] at this
              exact this
            · have hstep : stepO st g = none := by
                unfold stepO
                rw [hh, hlast, hcs]
                have : ((sha (catD st.opn ++ g.data)).toList == g.digest.toList) = false := by rw [beq_eq_false_iff_ne, hdg]; exact hsh
                simp [this]
              rw [if_neg hsh, openGo, hstep]
          | false =>
            have hstep : stepO st g = some { st with opn := st.opn ++ [g] } := by
              unfold stepO
              rw [hh, hlast]; simp
            rw [if_neg (show ¬ (false = true) by decide), openGo, hstep]
            have := ih (i + 1) k { st with opn := st.opn ++ [g] } g.check x11' (by omega) (by omega) (by omega) (by simp; omega) (fun q hq => by
              rcases List.mem_append.1 hq with h | h
              · exact hd q h
              · rw [List.mem_singleton.1 h]; exact f3 hlast) (fun q r hqr => by
              have hqr : st.opn ++ [g] = q :: r := hqr
              rw [h11]
              cases ho : st.opn with
              | nil => rw [ho] at hqr; injection hqr with hqr _; rw [hqr]
              | cons q2 r2 => rw [ho] at hqr; injection hqr with hqr _; rw [hqr]) (by simp; omega)
            rw [show first + ((i + 1 : Nat) : Int) = first + i + 1 by push_cast; omega] at this
            simp only [hcs] at this
            exact this
        · have hh : headBad st.opn g = true := by rw [hhead, beq_eq_false_iff_ne.2 hdg]; rfl
          have hstep : stepO st g = none := by unfold stepO; rw [hh]; rfl
          rw [if_neg hdg, openGo, hstep]
    · rw [if_neg hrd, pagesF_bad hrd]
      rfl
theorem big_l0 (i : Nat) : ∀ (k : Nat) (x : Int) (tl : List Int), 0 ≤ x → x < 9223372036854775808 → i + 1 < k → i + tl.length ≤ 1000 →
    modcertref51_Big.l0 k x (List.replicate (i + 1) 0 ++ tl) i = some (strOfNums ((List.range (i + 1)).map (fun j => x / 2 ^ (8 * (i - j)) % 256) ++ tl)) := by
  induction i with
  | zero =>
    intro k x tl h0 h1 hk hl
    obtain ⟨k, rfl⟩ : ∃ n, k = n + 2 := ⟨k - 2, by omega⟩
    have e1 : wrap64 ((0 : Nat) - 1 : Int) = -1 := by unfold wrap64; omega
    rw [modcertref51_Big.l0, if_pos (by omega), if_pos (by omega), if_pos (by simp), e1, modcertref51_Big.l0, if_neg (by decide)]
    congr 2
    simp only [Int.tmod_eq_emod_of_nonneg h0]
    simp
  | succ i ih =>
    intro k x tl h0 h1 hk hl
    obtain ⟨k, rfl⟩ : ∃ n, k = n + 1 := ⟨k - 1, by omega⟩
    have e1 : wrap64 (((i + 1 : Nat) : Int) - 1) = (i : Int) := by unfold wrap64; omega
    have e2 : wrap64 (x.tdiv 256) = x / 256 := by rw [Int.tdiv_eq_ediv_of_nonneg h0]; unfold wrap64; omega
    have e3 : (x.tmod 256) % 256 = x % 256 := by rw [Int.tmod_eq_emod_of_nonneg h0]; omega
    have e4 : (List.replicate (i + 1 + 1) 0 ++ tl).set (((i + 1 : Nat) : Int)).toNat (x % 256) = List.replicate (i + 1) 0 ++ (x % 256 :: tl) := by
      rw [Int.toNat_natCast, List.replicate_succ', List.append_assoc, List.set_append_right _ _ (by simp)]
      simp
    rw [modcertref51_Big.l0, e1, e2, e3, e4]
    clear e1 e2 e3 e4
    rw [if_pos (by omega), if_pos (by omega), if_pos (by simp; omega), ih k (x / 256) (x % 256 :: tl) (by omega) (by omega) (by omega) (by simp; omega)]
    congr 2
    rw [List.range_succ (n := i + 1), List.map_append, List.append_assoc]
    congr 1
    · apply List.map_congr_left
      intro j hj
      have hj : j < i + 1 := by simpa using hj
      have p : (2 : Int) ^ (8 * (i + 1 - j)) = 256 * 2 ^ (8 * (i - j)) := by
        rw [show 8 * (i + 1 - j) = 8 * (i - j) + 8 by omega, Int.pow_add, Int.mul_comm]; rfl
      rw [p, Int.ediv_ediv_of_nonneg (by decide)]
    · simp
theorem big_f (x : Int) (m : Nat) (h0 : 0 ≤ x) (h1 : x < 9223372036854775808) (hm : 1 ≤ m) (hm2 : m ≤ 100) (k : Nat) (hk : 110 ≤ k) : modcertref51_Big.f k x m = some (bigS x m) := by
  obtain ⟨i, rfl⟩ : ∃ i, m = i + 1 := ⟨m - 1, by omega⟩
  have e1 : wrap64 (((i + 1 : Nat) : Int) - 1) = (i : Int) := by unfold wrap64; omega
  unfold modcertref51_Big.f
  rw [e1, if_pos (by omega), Int.toNat_natCast, if_pos (by omega)]
  have := big_l0 i k x [] h0 h1 (by omega) (by simp; omega)
  rw [List.append_nil, List.append_nil] at this
  rw [this]
  rfl
/-- A journal's numbers, as the reference gives them. -/
def refJ (first : Int) (cnt : Nat) (e : Int) (st : OSt) : Int × Int × Int × Int × ByteArray × List ByteArray × Int := (first, (cnt : Int), e, (st.next : Int), st.chain, st.recs, 0)
theorem open_f (e : Int) (h0 : 0 ≤ e) (h1 : e < 4611686018427387904) (d : DK) (first : Int) (cnt : Nat) (hf0 : 0 ≤ first) (hc : 1 ≤ cnt) (hf1 : first + cnt ≤ d.dur.length) (hz : d.dur.length ≤ 1000000) (hl : d.pend.length ≤ 1000000) (hs : ∀ x ∈ d.pend, x.data.size = 512) (k : Nat) (hk : 2 * cnt + d.pend.length + 800 ≤ k) :
    modcertref51_Open.f k d.dur (rws d.pend) first cnt e = some (refJ first cnt e (openF d e first cnt)) := by
  obtain ⟨k, rfl⟩ : ∃ n, k = n + 1 := ⟨k - 1, by omega⟩
  have e1 : wrap64 ((d.dur.length : Int) - first) = (d.dur.length : Int) - first := by unfold wrap64; omega
  have hb : modcertref51_Begin.f k e = some (chain0 e) := by
    unfold modcertref51_Begin.f
    have := big_f e 8 h0 (by omega) (by omega) (by omega) k (by omega)
    rw [show ((8 : Nat) : Int) = 8 from rfl] at this
    rw [this]
    simp only [Option.bind_some]
    rw [if_pos (by rw [bigS_size]; omega)]
    unfold modcertref01_Sum.f
    rw [if_pos (by rw [ByteArray.size_append, bigS_size]; have : ByteArray.size ⟨#[9]⟩ = 1 := rfl; omega)]
    rfl
  unfold modcertref51_Open.f modcertref51_ValidRegion.f
  rw [e1]
  clear e1
  rw [if_pos (by omega), if_pos (by omega), if_pos (by omega)]
  simp only [Option.bind_some]
  rw [if_pos (decide_eq_true (by omega)), if_neg (by omega), modcertref51_Open.j0, if_neg (by rw [decide_eq_true_eq]; omega), hb]
  simp only [Option.bind_some]
  have := open_l0 e h0 h1 d first cnt hf0 (by omega) hl hs cnt 0 k (st0 e) (chain0 e) ⟨#[]⟩ (by omega) (by omega) (by rw [chain0, sha_size]; omega) rfl (by simp [st0]) (by simp [st0]) (by simp [st0])
  rw [show first + ((0 : Nat) : Int) = first by simp] at this
  exact this
theorem open_bad (e : Int) (d : DK) (first cnt : Int) (h : ¬ (0 ≤ first ∧ 1 ≤ cnt ∧ first + cnt ≤ d.dur.length ∧ 0 ≤ e ∧ e < 4611686018427387904)) (hc : -9223372036854775808 ≤ cnt ∧ cnt ≤ 9223372036854775807) (hz : d.dur.length ≤ 1000000) (k : Nat) (hk : 2 ≤ k) :
    modcertref51_Open.f k d.dur (rws d.pend) first cnt e = some (0, 0, 0, 0, ⟨#[]⟩, [], 2) := by
  obtain ⟨k, rfl⟩ : ∃ n, k = n + 1 := ⟨k - 1, by omega⟩
  have hj : modcertref51_Open.j0 (k + 1) e true d.dur (rws d.pend) first cnt = some (0, 0, 0, 0, ⟨#[]⟩, [], 2) := by
    rw [modcertref51_Open.j0, if_pos rfl]
  unfold modcertref51_Open.f modcertref51_ValidRegion.f
  by_cases c1 : first ≥ 0
  · rw [if_pos c1]
    by_cases c2 : first < (d.dur.length : Int)
    · have e1 : wrap64 ((d.dur.length : Int) - first) = (d.dur.length : Int) - first := by unfold wrap64; omega
      rw [if_pos c2, e1]
      clear e1
      by_cases c3 : cnt ≥ 1
      · rw [if_pos c3]
        simp only [Option.bind_some]
        by_cases c4 : cnt ≤ (d.dur.length : Int) - first
        · rw [if_pos (decide_eq_true c4)]
          by_cases c5 : e < 0
          · rw [if_pos c5, hj]
          · rw [if_neg c5, decide_eq_true (by omega), hj]
        · rw [if_neg (by rw [decide_eq_true_eq]; exact c4), hj]
      · rw [if_neg c3]
        simp only [Option.bind_some]
        rw [if_neg (by decide), hj]
    · rw [if_neg c2]
      simp only [Option.bind_some]
      rw [if_neg (by decide), hj]
  · rw [if_neg c1]
    simp only [Option.bind_some]
    rw [if_neg (by decide), hj]
end Go.Proofs.YtpmjipokkkkljaaDoor
