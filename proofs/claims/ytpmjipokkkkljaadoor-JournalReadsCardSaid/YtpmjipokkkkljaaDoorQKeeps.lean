/-
  Part of the proof of cd_card: the lemmas of Keeps that it uses.
-/
import Derived.Test.YtpmjipokkkkljaaDoorQAppendT
import Derived.Test.YtpmjipokkkkljaaDoorQOpenF
import Derived.Test.YtpmjipokkkkljaaDoorQOpen
import Derived.Test.YtpmjipokkkkljaaDoorQCrash
namespace Go.Proofs.YtpmjipokkkkljaaDoor
set_option linter.all false
set_option linter.unusedVariables false
set_option linter.unusedSimpArgs false
open Go.RowKit
theorem ext_right {a b : ByteArray} {i j : Nat} (h : a.size ≤ i) : (a ++ b).extract i j = b.extract (i - a.size) (j - a.size) := by
  rw [ByteArray.extract_append, ByteArray.extract_eq_empty_iff.2 (by omega), ByteArray.empty_append]
theorem ext_left {a b : ByteArray} {i j : Nat} (h : j ≤ a.size) : (a ++ b).extract i j = a.extract i j := by
  rw [ByteArray.extract_append, ByteArray.extract_eq_empty_iff.2 (by omega : min (j - a.size) b.size ≤ i - a.size), ByteArray.append_empty]
theorem ext_all {a : ByteArray} {j : Nat} (h : a.size ≤ j) : a.extract 0 j = a := by
  apply ByteArray.ext
  rw [ByteArray.data_extract, Array.extract_eq_self_of_le h]
/-- The pieces of a page. -/
structure Img (ch E L N D P Z img : ByteArray) : Prop where
  e : img = ch ++ (((((E ++ L) ++ N) ++ D) ++ P) ++ Z)
  c : ch.size = 32
  e8 : E.size = 8
  l : L.size = 1
  n : N.size = 2
  d : D.size = 32
  p : P.size ≤ 437
  z : Z.size = 437 - P.size
namespace Img
variable {ch E L N D P Z img : ByteArray}
theorem body_size (h : Img ch E L N D P Z img) : (((((E ++ L) ++ N) ++ D) ++ P) ++ Z).size = 480 := by
  simp only [ByteArray.size_append, h.e8, h.l, h.n, h.d, h.z]; have := h.p; omega
theorem size (h : Img ch E L N D P Z img) : img.size = 512 := by rw [h.e, ByteArray.size_append, h.body_size, h.c]
theorem check (h : Img ch E L N D P Z img) : img.extract 0 32 = ch := by
  rw [h.e, ext_left (by rw [h.c]; omega), ext_all (by rw [h.c]; omega)]
theorem body (h : Img ch E L N D P Z img) : img.extract 32 img.size = ((((E ++ L) ++ N) ++ D) ++ P) ++ Z := by
  rw [h.size, h.e, ext_right (by rw [h.c]; omega), h.c, ext_all (by rw [h.body_size]; omega)]
theorem epoch (h : Img ch E L N D P Z img) : img.extract 32 40 = E := by
  rw [h.e, ext_right (by rw [h.c]; omega), h.c, ext_left (by simp only [ByteArray.size_append, h.e8, h.l, h.n, h.d]; omega), ext_left (by simp only [ByteArray.size_append, h.e8, h.l, h.n, h.d]; omega),
    ext_left (by simp only [ByteArray.size_append, h.e8, h.l, h.n]; omega), ext_left (by simp only [ByteArray.size_append, h.e8, h.l]; omega), ext_left (by rw [h.e8]; omega), ext_all (by rw [h.e8]; omega)]
theorem last (h : Img ch E L N D P Z img) : img.extract 40 41 = L := by
  rw [h.e, ext_right (by rw [h.c]; omega), h.c, ext_left (by simp only [ByteArray.size_append, h.e8, h.l, h.n, h.d]; omega), ext_left (by simp only [ByteArray.size_append, h.e8, h.l, h.n, h.d]; omega),
    ext_left (by simp only [ByteArray.size_append, h.e8, h.l, h.n]; omega), ext_left (by simp only [ByteArray.size_append, h.e8, h.l]; omega), ext_right (by rw [h.e8]; omega), h.e8, ext_all (by rw [h.l]; omega)]
theorem len (h : Img ch E L N D P Z img) : img.extract 41 43 = N := by
  rw [h.e, ext_right (by rw [h.c]; omega), h.c, ext_left (by simp only [ByteArray.size_append, h.e8, h.l, h.n, h.d]; omega), ext_left (by simp only [ByteArray.size_append, h.e8, h.l, h.n, h.d]; omega),
    ext_left (by simp only [ByteArray.size_append, h.e8, h.l, h.n]; omega), ext_right (by simp only [ByteArray.size_append, h.e8, h.l]; omega), ByteArray.size_append, h.e8, h.l, ext_all (by rw [h.n]; omega)]
theorem digest (h : Img ch E L N D P Z img) : img.extract 43 75 = D := by
  rw [h.e, ext_right (by rw [h.c]; omega), h.c, ext_left (by simp only [ByteArray.size_append, h.e8, h.l, h.n, h.d]; omega), ext_left (by simp only [ByteArray.size_append, h.e8, h.l, h.n, h.d]; omega),
    ext_right (by simp only [ByteArray.size_append, h.e8, h.l, h.n]; omega), ByteArray.size_append, ByteArray.size_append, h.e8, h.l, h.n, ext_all (by rw [h.d]; omega)]
theorem data (h : Img ch E L N D P Z img) : img.extract 75 (75 + P.size) = P := by
  rw [h.e, ext_right (by rw [h.c]; omega), h.c, ext_left (by simp only [ByteArray.size_append, h.e8, h.l, h.n, h.d]; omega), ext_right (by simp only [ByteArray.size_append, h.e8, h.l, h.n, h.d]; omega)]
  simp only [ByteArray.size_append, h.e8, h.l, h.n, h.d]
  exact ext_all (by omega)
theorem rest (h : Img ch E L N D P Z img) : img.extract (75 + P.size) img.size = Z := by
  rw [h.size, h.e, ext_right (by rw [h.c]; omega), h.c, ext_right (by simp only [ByteArray.size_append, h.e8, h.l, h.n, h.d]; omega)]
  simp only [ByteArray.size_append, h.e8, h.l, h.n, h.d]
  rw [show 75 + P.size - 32 - (8 + 1 + 2 + 32 + P.size) = 0 by omega]
  exact ext_all (by rw [h.z]; omega)
end Img
theorem byteN_ext (s : ByteArray) (i j k : Nat) (h : i + k < j) (hj : j ≤ s.size) : byteN s (i + k) = byteN (s.extract i j) k := by
  unfold byteN
  rw [List.getD_eq_getElem?_getD, List.getD_eq_getElem?_getD]
  congr 2
  have h1 : i + k < s.data.size := by have : s.data.size = s.size := rfl; omega
  simp only [ByteArray.data_extract, Array.getElem?_toList, Array.getElem?_extract]
  rw [if_pos (by have : s.data.size = s.size := rfl; omega)]
theorem byteN_nums (l : List Int) (k : Nat) (x : Int) (h : l[k]? = some x) (h1 : x < 256) : byteN (strOfNums l) k = x.toNat := by
  unfold byteN strOfNums
  rw [List.getD_eq_getElem?_getD]
  simp [h]
  omega
theorem trim_zeros (k : Nat) : Lib.trimB (Lib.repeatL [(0 : UInt8)] k) 0 = [] := by
  have h : Lib.repeatL [(0 : UInt8)] k = List.replicate k 0 := by
    induction k with
    | zero => rfl
    | succ k ih => rw [Lib.repeatL, ih, List.replicate_succ]; rfl
  rw [h]
  unfold Lib.trimB Lib.trimRightB Lib.trimLeftB
  rw [List.reverse_replicate]
  have : (List.replicate k (0 : UInt8)).dropWhile (· == 0) = [] := by
    induction k with
    | zero => rfl
    | succ k ih => rw [List.replicate_succ, List.dropWhile_cons]; simp [ih]
  rw [this]; rfl
theorem parse_image (epoch l : Int) (c : ByteArray) (dg piece : ByteArray) (h1 : dg.size = 32) (h2 : piece.size ≤ 437) (hl : l = 0 ∨ l = 1) (hl2 : l = 0 → piece.size = 437) :
    parseF epoch (sealOf c (bodyOf epoch l dg piece) ++ bodyOf epoch l dg piece) c = some ⟨sealOf c (bodyOf epoch l dg piece), dg, piece, l == 1⟩ := by
  have I : Img (sealOf c (bodyOf epoch l dg piece)) (bigS epoch 8) (strOfNums [l]) (bigS piece.size 2) dg piece (zerosS (437 - piece.size)) (sealOf c (bodyOf epoch l dg piece) ++ bodyOf epoch l dg piece) :=
    ⟨rfl, sealOf_size _ _, bigS_size _ _, strOfNums_one _, bigS_size _ _, h1, h2, zerosS_size _⟩
  generalize hb : sealOf c (bodyOf epoch l dg piece) ++ bodyOf epoch l dg piece = img at I
  have hsz := I.size
  have hbody : img.extract 32 img.size = bodyOf epoch l dg piece := I.body
  have hlast : byteN img 40 = l.toNat := by
    have := byteN_ext img 40 41 0 (by omega) (by omega)
    rw [this, I.last]
    exact byteN_nums [l] 0 l rfl (by omega)
  have hlen : lenOf img = piece.size := by
    unfold lenOf
    have e1 := byteN_ext img 41 43 0 (by omega) (by omega)
    have e2 := byteN_ext img 41 43 1 (by omega) (by omega)
    rw [show byteN img 41 = byteN img (41 + 0) from rfl, show byteN img 42 = byteN img (41 + 1) from rfl, e1, e2, I.len]
    unfold bigS
    rw [byteN_nums _ 0 ((piece.size : Int) / 2 ^ (8 * (2 - 1 - 0)) % 256) rfl (by omega), byteN_nums _ 1 ((piece.size : Int) / 2 ^ (8 * (2 - 1 - 1)) % 256) rfl (by omega)]
    have p1 : (2 : Int) ^ (8 * (2 - 1 - 0)) = 256 := by rfl
    have p2 : (2 : Int) ^ (8 * (2 - 1 - 1)) = 1 := by rfl
    rw [p1, p2]
    omega
  have hbh : badHead epoch img c = false := by
    rw [badHead_rest hsz (by rw [hbody, I.check]), I.epoch]
    exact ba_eq _
  have hbb : badBody img = false := by
    unfold badBody
    have hr : (img.extract (75 + piece.size) img.size).data.toList = Lib.repeatL [0] (437 - piece.size) := by rw [I.rest]; rfl
    rw [hlast, hlen, hr, trim_zeros]
    rcases hl with rfl | rfl
    · have := hl2 rfl
      simp [this]
    · have : ¬ 437 < piece.size := by omega
      simp [this]
  unfold parseF
  rw [hbh, hbb, I.check, I.digest, hlen, I.data, hlast]
  rcases hl with rfl | rfl <;> rfl
theorem ext_min (s : ByteArray) (i j j' : Nat) (h : min j s.size = min j' s.size) : s.extract i j = s.extract i j' := by
  apply ByteArray.ext
  rw [ByteArray.data_extract, ByteArray.data_extract, Array.extract_eq_extract_right]
  have : s.data.size = s.size := rfl
  omega
def pgI (epoch : Int) (s c : ByteArray) (i : Nat) : PG := ⟨chainI epoch s c (i + 1), sha s, pieceI s i, lastI s i == 1⟩
theorem parse_I (epoch : Int) (s c : ByteArray) (i : Nat) : parseF epoch (imageI epoch s c i) (chainI epoch s c i) = some (pgI epoch s c i) := by
  refine parse_image epoch (lastI s i) (chainI epoch s c i) (sha s) (pieceI s i) (sha_size s) (by rw [pieceI_size]; omega) ?_ ?_
  · unfold lastI; split <;> simp
  · intro h
    unfold lastI at h
    split at h
    · cases h
    · rw [pieceI_size]; omega
theorem pieceI_ext (s : ByteArray) (i : Nat) : pieceI s i = s.extract (437 * i) (437 * (i + 1)) := by
  unfold pieceI restI
  rw [ByteArray.extract_extract, ByteArray.size_extract, Nat.add_zero]
  by_cases h : 437 * i ≤ s.size
  · exact ext_min _ _ _ _ (by omega)
  · rw [ByteArray.extract_eq_empty_iff.2 (by omega), ByteArray.extract_eq_empty_iff.2 (by omega)]
theorem catD_pieces (epoch : Int) (s c : ByteArray) : ∀ i, catD ((List.range i).map (pgI epoch s c)) = s.extract 0 (437 * i)
  | 0 => by simp [catD, ByteArray.extract_same]
  | i + 1 => by
    rw [List.range_succ, List.map_append, List.map_singleton, catD_snoc, catD_pieces epoch s c i]
    show _ ++ pieceI s i = _
    rw [pieceI_ext, ByteArray.extract_append_extract]
    rw [show min 0 (437 * i) = 0 by omega, show max (437 * i) (437 * (i + 1)) = 437 * (i + 1) by omega]
theorem bb (a : ByteArray) : (a.toList == a.toList) = true := by simp
theorem headBad_rec (epoch : Int) (s c : ByteArray) (i k : Nat) : headBad ((List.range i).map (pgI epoch s c)) (pgI epoch s c k) = false := by
  cases i with
  | zero => rfl
  | succ i =>
    rw [List.range_succ_eq_map, List.map_cons]
    show (!((sha s).toList == (sha s).toList)) = false
    rw [bb]; rfl
theorem step_mid (epoch : Int) (s c : ByteArray) (recs : List ByteArray) (next : Nat) (ch : ByteArray) (i : Nat) (h : 437 * (i + 1) < s.size) :
    stepO ⟨recs, next, ch, (List.range i).map (pgI epoch s c)⟩ (pgI epoch s c i) = some ⟨recs, next, ch, (List.range (i + 1)).map (pgI epoch s c)⟩ := by
  have hl : (pgI epoch s c i).last = false := by
    show (lastI s i == 1) = false
    unfold lastI
    rw [if_neg (by rw [restI_size]; omega)]; rfl
  rw [stepO, headBad_rec, hl, List.range_succ, List.map_append, List.map_singleton]; rfl
theorem step_end (epoch : Int) (s c : ByteArray) (recs : List ByteArray) (next : Nat) (ch : ByteArray) (i : Nat) (h : s.size ≤ 437 * (i + 1)) :
    stepO ⟨recs, next, ch, (List.range i).map (pgI epoch s c)⟩ (pgI epoch s c i) = some ⟨recs ++ [s], next + (i + 1), chainI epoch s c (i + 1), []⟩ := by
  have hl : (pgI epoch s c i).last = true := by
    show (lastI s i == 1) = true
    unfold lastI
    rw [if_pos (by rw [restI_size]; omega)]; rfl
  have e : (List.range i).map (pgI epoch s c) ++ [pgI epoch s c i] = (List.range (i + 1)).map (pgI epoch s c) := by rw [List.range_succ, List.map_append, List.map_singleton]
  have hc : catD ((List.range (i + 1)).map (pgI epoch s c)) = s := by rw [catD_pieces]; exact ext_all h
  rw [stepO, headBad_rec, hl]
  simp only [e, hc]
  rw [show (pgI epoch s c i).digest = sha s from rfl, bb]
  simp
  rfl
theorem run_record (epoch : Int) (s c : ByteArray) (recs : List ByteArray) (next : Nat) : ∀ i, 437 * i < s.size ∨ i = 0 → ∀ ch, runO ⟨recs, next, ch, []⟩ ((List.range i).map (pgI epoch s c)) = some ⟨recs, next, ch, (List.range i).map (pgI epoch s c)⟩
  | 0, _, ch => rfl
  | i + 1, h, ch => by
    rw [List.range_succ, List.map_append, List.map_singleton, runO_snoc, run_record epoch s c recs next i (by omega) ch]
    show stepO _ _ = _
    rw [step_mid epoch s c recs next ch i (by omega), List.range_succ, List.map_append, List.map_singleton]
theorem run_all (epoch : Int) (s c : ByteArray) (recs : List ByteArray) (next : Nat) (ch : ByteArray) :
    runO ⟨recs, next, ch, []⟩ ((List.range (needN s.size)).map (pgI epoch s c)) = some ⟨recs ++ [s], next + needN s.size, chainI epoch s c (needN s.size), []⟩ := by
  obtain ⟨i, hi⟩ : ∃ i, needN s.size = i + 1 := ⟨needN s.size - 1, by unfold needN; omega⟩
  rw [hi, List.range_succ, List.map_append, List.map_singleton, runO_snoc, run_record epoch s c recs next i (by unfold needN at hi; omega) ch]
  show stepO _ _ = _
  rw [step_end epoch s c recs next ch i (by unfold needN at hi; omega)]
/-- Pages that follow each other from page p on. -/
def Seg (d : DK) (epoch : Int) : Int → ByteArray → List PG → ByteArray → Prop
  | _, c, [], c' => c = c'
  | p, c, x :: r, c' => (d.read p).2 = 0 ∧ parseF epoch (d.read p).1 c = some x ∧ Seg d epoch (p + 1) x.check r c'
theorem Seg.pages {d : DK} {epoch : Int} (k : Nat) : ∀ {l : List PG} {p : Int} {c c' : ByteArray}, Seg d epoch p c l c' → pagesF d epoch p (l.length + k) c = l ++ pagesF d epoch (p + l.length) k c'
  | [], p, c, c', h => by
    have h : c = c' := h
    subst h
    simp
  | x :: r, p, c, c', ⟨h1, h2, h3⟩ => by
    rw [List.length_cons, show r.length + 1 + k = (r.length + k) + 1 by omega, pagesF_some h1 h2, Seg.pages k h3, List.cons_append]
    congr 3
    push_cast
    omega
theorem Seg.append {d : DK} {epoch : Int} : ∀ {l m : List PG} {p : Int} {c c1 c' : ByteArray}, Seg d epoch p c l c1 → Seg d epoch (p + l.length) c1 m c' → Seg d epoch p c (l ++ m) c'
  | [], m, p, c, c1, c', h, h' => by
    have h : c = c1 := h
    subst h
    simpa using h'
  | x :: r, m, p, c, c1, c', ⟨h1, h2, h3⟩, h' => ⟨h1, h2, Seg.append h3 (by
      rw [List.length_cons] at h'
      rw [show p + 1 + (r.length : Int) = p + ((r.length + 1 : Nat) : Int) by push_cast; omega]
      exact h')⟩
theorem Seg.congr {d d' : DK} {epoch : Int} : ∀ {l : List PG} {p : Int} {c c' : ByteArray}, Seg d epoch p c l c' → (∀ q, p ≤ q → q < p + l.length → d'.read q = d.read q) → Seg d' epoch p c l c'
  | [], _, _, _, h, _ => h
  | x :: r, p, c, c', ⟨h1, h2, h3⟩, h => by
    have e := h p (Int.le_refl _) (by rw [List.length_cons]; push_cast; omega)
    exact ⟨by rw [e]; exact h1, by rw [e]; exact h2, Seg.congr h3 (fun q hq1 hq2 => h q (by omega) (by rw [List.length_cons]; push_cast; omega))⟩
end Go.Proofs.YtpmjipokkkkljaaDoor
namespace Go.Proofs.YtpmjipokkkkljaaDoor
set_option linter.all false
set_option linter.unusedVariables false
set_option linter.unusedSimpArgs false
open Go.RowKit
theorem record_dur (d : DK) (x : Op64) : (d.record x).dur = d.dur := by unfold DK.record; split <;> rfl
theorem record_pend (d : DK) (x : Op64) : (d.record x).pend = d.pend := by unfold DK.record; split <;> rfl
theorem sync_pend (d : DK) : d.sync.pend = [] := record_pend _ _
theorem sync_dur (d : DK) : d.sync.dur = d.pend.foldl (fun l x => l.set x.page.toNat x.data) d.dur := record_dur _ _
theorem fold_len (l : List Wr) : ∀ m : List ByteArray, (l.foldl (fun l x => l.set x.page.toNat x.data) m).length = m.length := by
  induction l with
  | nil => intro m; rfl
  | cons x r ih => intro m; rw [List.foldl_cons, ih]; simp
/-- What is read of a synced disk. -/
def readD (l : List ByteArray) (p : Int) : ByteArray × Int :=
  if 0 ≤ p ∧ p < (l.length : Int) then if (((l[p.toNat]?).getD ⟨#[]⟩).toList == [33]) = true then (⟨#[]⟩, 21) else ((l[p.toNat]?).getD ⟨#[]⟩, 0) else (⟨#[]⟩, 2)
theorem read_synced {d : DK} (h : d.pend = []) (p : Int) : d.read p = readD d.dur p := by
  unfold DK.read readD
  split
  · rw [h]; rfl
  · rfl
/-- Writing m pages from p on. -/
theorem fold_range (p m : Nat) (f : Nat → ByteArray) : ∀ (l : List ByteArray), p + m ≤ l.length → ∀ q, (((List.range m).map fun (k : Nat) => (⟨(p : Int) + (k : Int), f k⟩ : Wr)).foldl (fun l x => l.set x.page.toNat x.data) l)[q]? = if p ≤ q ∧ q < p + m then some (f (q - p)) else l[q]? := by
  induction m with
  | zero => intro l _ q; simp; intro h1 h2; omega
  | succ m ih =>
    intro l hl q
    rw [List.range_succ, List.map_append, List.map_singleton, List.foldl_append, List.foldl_cons, List.foldl_nil]
    rw [List.getElem?_set, fold_len]
    have e : ((p : Int) + (m : Nat)).toNat = p + m := by omega
    show (if ((p : Int) + (m : Nat)).toNat = q then _ else _) = _
    rw [e]
    by_cases h : p + m = q
    · have c1 : p ≤ q ∧ q < p + (m + 1) := by omega
      have c2 : p + m < l.length := by omega
      have c3 : q - p = m := by omega
      rw [if_pos h, if_pos c1, c3]
      simp [c2]
    · rw [if_neg h, ih l (by omega) q]
      by_cases h2 : p ≤ q ∧ q < p + m
      · have c1 : p ≤ q ∧ q < p + (m + 1) := by omega
        rw [if_pos h2, if_pos c1]
      · have c1 : ¬ (p ≤ q ∧ q < p + (m + 1)) := by omega
        rw [if_neg h2, if_neg c1]
/-- The disk behind an append. -/
def appD (d : DK) (J : JD) (s : ByteArray) : DK := (diskI d J.epoch s J.chain (J.first + J.next) (needN s.size)).sync
def appJ (J : JD) (s : ByteArray) : JD := { J with recs := J.recs ++ [s], next := J.next + needN s.size, chain := chainI J.epoch s J.chain (needN s.size) }
theorem appD_len (d : DK) (J : JD) (s : ByteArray) : (appD d J s).dur.length = d.dur.length := by
  unfold appD
  rw [sync_dur, fold_len, diskI_dur]
theorem appD_read {d : DK} {J : JD} {s : ByteArray} (hp : d.pend = []) (h0 : 0 ≤ J.first + J.next) (h1 : J.first + J.next + needN s.size ≤ d.dur.length) (q : Int) :
    (appD d J s).read q = if J.first + J.next ≤ q ∧ q < J.first + J.next + needN s.size then (imageI J.epoch s J.chain (q - (J.first + J.next)).toNat, 0) else d.read q := by
  rw [read_synced (show (appD d J s).pend = [] from sync_pend _), read_synced hp]
  obtain ⟨p, hpp⟩ := Int.eq_ofNat_of_zero_le h0
  have hdur : ∀ q, (appD d J s).dur[q]? = if p ≤ q ∧ q < p + needN s.size then some (imageI J.epoch s J.chain (q - p)) else d.dur[q]? := by
    intro q
    have := fold_range p (needN s.size) (imageI J.epoch s J.chain) d.dur (by omega) q
    unfold appD
    rw [sync_dur, diskI_pend, diskI_dur, hp, hpp]
    exact this
  have hlen := appD_len d J s
  unfold readD
  rw [hlen]
  by_cases hq : 0 ≤ q ∧ q < (d.dur.length : Int)
  · rw [if_pos hq, if_pos hq, hdur]
    by_cases h2 : J.first + J.next ≤ q ∧ q < J.first + J.next + needN s.size
    · have c1 : p ≤ q.toNat ∧ q.toNat < p + needN s.size := by omega
      have e : q.toNat - p = (q - (J.first + J.next)).toNat := by omega
      have h3 : ((imageI J.epoch s J.chain (q - (J.first + J.next)).toNat).toList == [33]) = false := by
        rw [beq_eq_false_iff_ne]
        intro h
        have h4 := imageI_size J.epoch s J.chain (q - (J.first + J.next)).toNat
        have h5 := congrArg List.length h
        rw [ByteArray.toList_eq, Array.length_toList] at h5
        have : (imageI J.epoch s J.chain (q - (J.first + J.next)).toNat).data.size = (imageI J.epoch s J.chain (q - (J.first + J.next)).toNat).size := rfl
        rw [this, h4] at h5
        simp at h5
      rw [if_pos h2, if_pos c1, e, Option.getD_some, h3]; rfl
    · have c1 : ¬ (p ≤ q.toNat ∧ q.toNat < p + needN s.size) := by omega
      rw [if_neg h2, if_neg c1]
  · have c1 : ¬ (J.first + J.next ≤ q ∧ q < J.first + J.next + needN s.size) := by omega
    rw [if_neg hq, if_neg hq, if_neg c1]
/-- No journal of the epoch reads a page here. -/
def Bad (d : DK) (epoch : Int) (q : Int) : Prop := (d.read q).2 ≠ 0 ∨ ∀ c, parseF epoch (d.read q).1 c = none
theorem bad_pages {d : DK} {epoch p : Int} (h : Bad d epoch p) (n : Nat) (c : ByteArray) : pagesF d epoch p n c = [] := h.elim (fun h => pagesF_bad h) (fun h => pagesF_none (h c))
theorem bad_blank {d : DK} {epoch q : Int} (h : (d.read q).1.size ≠ 512) : Bad d epoch q := .inr (fun c => by
  unfold parseF
  rw [badHead_size h]; rfl)
theorem bad_epoch {d : DK} {e e' : Int} {s c : ByteArray} {i : Nat} {q : Int} (h : (d.read q).1 = imageI e s c i) (hne : bigS e 8 ≠ bigS e' 8) : Bad d e' q := .inr (fun c' => by
  have I : Img (sealOf (chainI e s c i) (bodyI e s i)) (bigS e 8) (strOfNums [lastI s i]) (bigS (pieceI s i).size 2) (sha s) (pieceI s i) (zerosS (437 - (pieceI s i).size)) (imageI e s c i) :=
    ⟨rfl, sealOf_size _ _, bigS_size _ _, strOfNums_one _, bigS_size _ _, sha_size _, by rw [pieceI_size]; omega, zerosS_size _⟩
  rw [h]
  unfold parseF
  have : badHead e' (imageI e s c i) c' = true := by
    unfold badHead
    rw [I.epoch, ba_ne hne]; simp
  rw [this]; rfl)
/-- A journal whose pages stand on the disk, and behind which there is none of its epoch. -/
structure JOk (d : DK) (J : JD) : Prop where
  pend : d.pend = []
  first : 0 ≤ J.first
  fits : J.first + J.count ≤ d.dur.length
  next : 0 ≤ J.next
  room : J.next ≤ J.count
  chain : J.chain.size ≤ 1000
  seg : ∃ ps, Seg d J.epoch J.first (chain0 J.epoch) ps J.chain ∧ (ps.length : Int) = J.next ∧ runO (st0 J.epoch) ps = some ⟨J.recs, J.next.toNat, J.chain, []⟩
  bad : ∀ q, J.first + J.next ≤ q → q < J.first + J.count → Bad d J.epoch q
theorem JOk.opens {d : DK} {J : JD} (h : JOk d J) : openF d J.epoch J.first J.count.toNat = ⟨J.recs, J.next.toNat, J.chain, []⟩ := by
  obtain ⟨ps, h1, h2, h3⟩ := h.seg
  have := h.next; have := h.room
  unfold openF
  rw [show J.count.toNat = ps.length + (J.count - J.next).toNat by omega, h1.pages]
  have : pagesF d J.epoch (J.first + ps.length) (J.count - J.next).toNat J.chain = [] := by
    by_cases e : J.next = J.count
    · rw [show (J.count - J.next).toNat = 0 by omega]; rfl
    · exact bad_pages (h.bad _ (by omega) (by omega)) _ _
  rw [this, openGo_run _ _ _ _ h3]; rfl
theorem seg_record (d : DK) (epoch : Int) (s c : ByteArray) (p : Int) : ∀ (k i : Nat), (∀ j, i ≤ j → j < i + k → d.read (p + j) = (imageI epoch s c j, 0)) → Seg d epoch (p + i) (chainI epoch s c i) ((List.range' i k).map (pgI epoch s c)) (chainI epoch s c (i + k))
  | 0, i, _ => rfl
  | k + 1, i, h => by
    rw [List.range'_succ, List.map_cons]
    have h0 := h i (Nat.le_refl _) (by omega)
    refine ⟨by rw [h0], by rw [h0]; exact parse_I epoch s c i, ?_⟩
    have ih := seg_record d epoch s c p k (i + 1) (fun j h1 h2 => h j (by omega) (by omega))
    rw [show p + (i : Int) + 1 = p + ((i + 1 : Nat) : Int) by push_cast; omega, show i + (k + 1) = i + 1 + k by omega]
    exact ih
theorem JOk.app {d : DK} {J : JD} {s : ByteArray} (h : JOk d J) (hf : needN s.size ≤ J.count - J.next) : JOk (appD d J s) (appJ J s) := by
  obtain ⟨ps, h1, h2, h3⟩ := h.seg
  have hn := h.next; have hr := h.room; have hfi := h.fits; have h0 := h.first
  have hread := fun q => appD_read (s := s) h.pend (by omega : 0 ≤ J.first + J.next) (by omega) q
  have hseg : Seg (appD d J s) J.epoch (J.first + J.next + (0 : Nat)) (chainI J.epoch s J.chain 0) ((List.range' 0 (needN s.size)).map (pgI J.epoch s J.chain)) (chainI J.epoch s J.chain (0 + needN s.size)) := by
    refine seg_record _ _ _ _ _ _ _ (fun j _ hj => ?_)
    rw [hread, if_pos (by omega)]
    congr 2; omega
  rw [Nat.zero_add] at hseg
  refine ⟨sync_pend _, h.first, by rw [appD_len]; exact h.fits, by show 0 ≤ J.next + _; omega, by show J.next + _ ≤ J.count; omega, chainI_size _ _ _ h.chain _, ⟨ps ++ (List.range (needN s.size)).map (pgI J.epoch s J.chain), ?_, ?_, ?_⟩, ?_⟩
  · refine Seg.append (h1.congr (fun q hq1 hq2 => ?_)) ?_
    · rw [hread, if_neg (by omega)]
    · rw [h2, List.range_eq_range']
      have e0 : J.first + J.next + ((0 : Nat) : Int) = J.first + J.next := by simp
      rw [e0] at hseg
      exact hseg
  · rw [List.length_append, List.length_map, List.length_range]; show _ = J.next + _; push_cast; omega
  · have e : ∀ (l m : List PG) (st st' : OSt), runO st l = some st' → runO st (l ++ m) = runO st' m := by
      intro l
      induction l with
      | nil => intro m st st' h; injection h with h; subst h; rfl
      | cons x r ih =>
        intro m st st' h
        show (stepO st x).bind _ = _
        have h : (stepO st x).bind (fun st' => runO st' r) = some st' := h
        cases hx : stepO st x with
        | none => rw [hx] at h; cases h
        | some s1 => rw [hx] at h; exact ih m s1 st' h
    show runO (st0 J.epoch) _ = _
    rw [e _ _ _ _ h3, run_all]
    show some _ = some _
    congr 2
    show J.next.toNat + needN s.size = (J.next + needN s.size).toNat
    omega
  · intro q hq1 hq2
    have hq1 : J.first + (J.next + needN s.size) ≤ q := hq1
    have := h.bad q (by omega) hq2
    unfold Bad at *
    rw [hread, if_neg (by omega)]
    exact this
theorem JOk.new {d : DK} {b : Nat} {first count epoch : Int} (hp : d.pend = []) (h0 : 0 ≤ first) (hc : 0 ≤ count) (hf : first + count ≤ d.dur.length) (hb : ∀ q, first ≤ q → q < first + count → Bad d epoch q) : JOk d ⟨b, first, count, epoch, [], 0, chain0 epoch⟩ :=
  ⟨hp, h0, hf, Int.le_refl _, hc, by rw [chain0, sha_size]; omega, ⟨[], rfl, rfl, rfl⟩, fun q h1 h2 => hb q (by simpa using h1) h2⟩
end Go.Proofs.YtpmjipokkkkljaaDoor
namespace Go.Proofs.YtpmjipokkkkljaaDoor
set_option linter.all false
set_option linter.unusedVariables false
set_option linter.unusedSimpArgs false
open Go.RowKit Go.Proofs.YtpmjipokkkkljaaDoorW.PrintWords Go.Proofs.YtpmjipokkkkljaaDoorW.PrintLast Go.Proofs.YtpmjipokkkkljaaDoorW.PrintMore
/-- A disk that is synced and not recorded. -/
structure DOk (d : DK) : Prop where
  pend : d.pend = []
  on : d.on = false
  recd : d.recd = []
  len : d.dur.length ≤ 1000
  small : ∀ x ∈ d.dur, x.size ≤ 1000000
theorem diskI_off {d : DK} (h : d.on = false) (epoch : Int) (s c : ByteArray) (p : Int) : ∀ i, (diskI d epoch s c p i).on = false ∧ (diskI d epoch s c p i).recd = d.recd
  | 0 => ⟨h, rfl⟩
  | i + 1 => by
    obtain ⟨h1, h2⟩ := diskI_off h epoch s c p i
    show (DK.record _ _).on = false ∧ (DK.record _ _).recd = _
    unfold DK.record
    rw [if_neg (by show ¬ (diskI d epoch s c p i).on = true; rw [h1]; decide)]
    exact ⟨h1, h2⟩
theorem DOk.app {d : DK} {J : JD} {s : ByteArray} (h : DOk d) (h0 : 0 ≤ J.first + J.next) (h1 : J.first + J.next + needN s.size ≤ d.dur.length) : DOk (appD d J s) := by
  obtain ⟨ho, hr⟩ := diskI_off h.on J.epoch s J.chain (J.first + J.next) (needN s.size)
  have e : (appD d J s).on = false ∧ (appD d J s).recd = [] := by
    show (DK.record _ _).on = false ∧ (DK.record _ _).recd = _
    unfold DK.record
    rw [if_neg (by show ¬ (diskI d J.epoch s J.chain (J.first + J.next) (needN s.size)).on = true; rw [ho]; decide)]
    exact ⟨ho, hr.trans h.recd⟩
  refine ⟨sync_pend _, e.1, e.2, by rw [appD_len]; exact h.len, fun x hx => ?_⟩
  obtain ⟨q, hq, rfl⟩ := List.mem_iff_getElem.1 hx
  have hq' : q < d.dur.length := by rw [appD_len] at hq; exact hq
  have hg := fold_range (J.first + J.next).toNat (needN s.size) (imageI J.epoch s J.chain) d.dur (by omega) q
  have e2 : (appD d J s).dur[q]? = some ((appD d J s).dur[q]) := List.getElem?_eq_getElem hq
  have e3 : (appD d J s).dur[q]? = if (J.first + J.next).toNat ≤ q ∧ q < (J.first + J.next).toNat + needN s.size then some (imageI J.epoch s J.chain (q - (J.first + J.next).toNat)) else d.dur[q]? := by
    unfold appD
    rw [sync_dur, diskI_pend, diskI_dur, h.pend]
    rw [show (((J.first + J.next).toNat : Nat) : Int) = J.first + J.next by omega] at hg
    exact hg
  rw [e3] at e2
  split at e2
  · injection e2 with e2; rw [← e2, imageI_size]; omega
  · rw [List.getElem?_eq_getElem hq'] at e2; injection e2 with e2; rw [← e2]; exact h.small _ (List.getElem_mem _)
structure Live (W : World) (FD FJ : Nat → Prop) (b j : Nat) (d : DK) (J : JD) : Prop where
  disk : IsDisk W FD b d
  jour : IsJ W FJ j J
  ok : JOk d J
  dok : DOk d
  dsk : J.dsk = b
  dis : ∀ k, FD k → ¬ FJ k
theorem JOk.recs_le {d : DK} {J : JD} (h : JOk d J) : (J.recs.length : Int) ≤ J.next := by
  obtain ⟨ps, _, h2, h3⟩ := h.seg
  have := runO_recs _ _ _ h3
  have h4 : J.recs.length ≤ (st0 J.epoch).recs.length + ps.length := this
  have h5 : (st0 J.epoch).recs.length = 0 := rfl
  omega
theorem live_append {W : World} {FD FJ : Nat → Prop} {b j : Nat} {d : DK} {J : JD} (s : ByteArray) (h : Live W FD FJ b j d J) (hs : s.size ≤ 65536) (hf : needN s.size ≤ J.count - J.next) :
    Calls Tryd.prog 19 #[.pointer (some ⟨j, 0, none⟩), .string s] W fun e w' => e = .returned (.int .i64 0) ∧ ∃ FD' FJ' : Nat → Prop, (∀ k, FD' k → FD k ∨ W.heap.size ≤ k) ∧ (∀ k, FJ' k → FJ k ∨ W.heap.size ≤ k) ∧
      Live w' FD' FJ' b j (appD d J s) (appJ J s) ∧ Upd (fun k => FD k ∨ FJ k) W w' := by
  have h1 := h.ok.first; have h2 := h.ok.next; have h3 := h.ok.fits; have h4 := h.dok.len; have h5 := h.ok.recs_le; have h6 := h.ok.room
  refine (append_ok W FD FJ b j d J s h.disk h.jour h.dsk h.dis hs hf h.ok.chain h1 h2 h3 (by omega) h.dok.pend (by rw [h.dok.recd]; simp) (by omega)).mono ?_
  rintro e w' ⟨rfl, FD', FJ', a1, a2, a3, a4, a5, a6⟩
  exact ⟨rfl, FD', FJ', a1, a2, ⟨a4, a5, h.ok.app hf, h.dok.app (by omega) (by omega), h.dsk, a3⟩, a6⟩
theorem live_full {W : World} {FD FJ : Nat → Prop} {b j : Nat} {d : DK} {J : JD} (s : ByteArray) (h : Live W FD FJ b j d J) (hs : s.size ≤ 65536) (hf : J.count - J.next < needN s.size) :
    Calls Tryd.prog 19 #[.pointer (some ⟨j, 0, none⟩), .string s] W fun e w' => e = .returned (.int .i64 22) ∧ Drawn0 W w' := by
  have h1 := h.ok.first; have h2 := h.ok.next; have h3 := h.ok.fits; have h4 := h.dok.len; have h6 := h.ok.room
  exact append_full W FJ j J s h.jour hs hf (by omega) (by omega)
theorem live_open {W : World} {FD : Nat → Prop} {b : Nat} {d : DK} {first : Int} {cnt : Nat} {epoch : Int} {J : JD} (hd : IsDisk W FD b d) (hk : DOk d) (hc : 1 ≤ cnt) (h4 : 0 ≤ epoch) (h5 : epoch ≤ 4611686018427387903) (hJ : JOk d J) (e1 : J.dsk = b) (e2 : J.first = first) (e3 : J.count = cnt) (e4 : J.epoch = epoch) :
    Calls Tryd.prog 18 #[.pointer (some ⟨b, 0, none⟩), .agg #[.int .i64 first, .int .i64 cnt], .int .i64 epoch] W fun e w' => ∃ jb FJ, e = .returned (.tuple #[.pointer (some ⟨jb, 0, none⟩), .int .i64 0]) ∧ (∀ k, FJ k → W.heap.size ≤ k) ∧
      Live w' FD FJ b jb d J ∧ Below W.heap.size W w' := by
  have h1 := hJ.first; have h3 := hJ.fits; have hl := hk.len
  subst e1 e2 e4
  refine (open_ok W J.dsk d FD J.first cnt J.epoch hd h1 hc (by omega) h4 h5 (by omega) hk.small (by rw [hk.pend]; simp)).mono ?_
  rintro e w' ⟨jb, F, rfl, hj, hF, hb⟩
  have ho := hJ.opens
  rw [e3, Int.toNat_natCast] at ho
  rw [ho] at hj
  have hn := hJ.next
  have : (⟨J.dsk, J.first, cnt, J.epoch, J.recs, (J.next.toNat : Int), J.chain⟩ : JD) = J := by
    cases J
    simp only at e3 hn ⊢
    subst e3
    congr 1
    omega
  rw [this] at hj
  have hlt : ∀ k, FD k → k < W.heap.size := by obtain ⟨_, _, _, _, _, _, _, _, _, _, _, h⟩ := hd; exact h
  exact ⟨jb, F, rfl, hF, ⟨hd.upd (Upd.of_below hb (fun _ => False)) (fun _ _ h => h), hj, hJ, hk, rfl, fun k h1 h2 => by have := hlt k h1; have := hF k h2; omega⟩, hb⟩
theorem Live.upd {W W' : World} {FD FJ S : Nat → Prop} {b j : Nat} {d : DK} {J : JD} (h : Live W FD FJ b j d J) (hu : Upd S W W') (hS : ∀ k, S k → ¬ FD k ∧ ¬ FJ k) : Live W' FD FJ b j d J := by
  obtain ⟨rv, h1, h2, h3, h4⟩ := h.jour
  exact ⟨h.disk.upd hu (fun k hk hs => (hS k hs).1 hk), ⟨rv, h1.upd hu (fun hs => (hS _ hs).2 h2), h2, Kd.R_step h3 (fun k hk hl => hu.block k hl (fun hs => (hS k hs).2 hk)), fun k hk => Nat.lt_of_lt_of_le (h4 k hk) hu.size⟩, h.ok, h.dok, h.dsk, h.dis⟩
theorem Live.below {W W' : World} {FD FJ : Nat → Prop} {b j : Nat} {d : DK} {J : JD} (h : Live W FD FJ b j d J) (hb : Below W.heap.size W W') : Live W' FD FJ b j d J := h.upd (Upd.of_below hb (fun _ => False)) (fun _ h => h.elim)
end Go.Proofs.YtpmjipokkkkljaaDoor
