/- The document's Same and the law's great, by their printed functions. -/
import Derived.Test.YtcfjooeagfollaaNoteRead
import Derived.Test.YtcfjooeagfollaaPDiaryExactx6
import Derived.Test.YtcfjooeagfollaaPDiaryExactx9
namespace Go.Proofs.Ytcfjooeagfollaa.Note
open Go.RowKit Go.Proofs.Ytcfjooeagfollaa.Mem Go.Proofs.Ytcfjooeagfollaa.Bytes Go.Proofs.Ytcfjooeagfollaa.PDiaryExact Go.Proofs.YtcfjooeagfollaaW.PrintWords
set_option linter.unusedSimpArgs false
set_option linter.unusedVariables false
set_option maxRecDepth 20000

def mkI (x : Int × ByteArray) : S161 := ⟨x.1, x.2⟩
def mkO (x : Int × Int) : S163 := ⟨x.1, x.2⟩
def mkD (x : Int × Int) : S165 := ⟨x.1, x.2⟩
theorem rdI {l : List (Int × ByteArray)} {i : Nat} (h : i < l.length) : rd_T161 (l.map mkI) (i : Int) = mkI l[i] := by simp [rd_T161, h]
theorem rdO {l : List (Int × Int)} {i : Nat} (h : i < l.length) : rd_T163 (l.map mkO) (i : Int) = mkO l[i] := by simp [rd_T163, h]
theorem rdD {l : List (Int × Int)} {i : Nat} (h : i < l.length) : rd_T165 (l.map mkD) (i : Int) = mkD l[i] := by simp [rd_T165, h]
theorem pairs_kd {Y S : Type} {g : Y → Value} {w : World} {a : Option Addr} {n : Nat} {xs : List (Int × Y)} (K : Kd S) (mk : Int × Y → S) (hsz : K.sz = 2) (hK : ∀ w x, K.K w (mk x) [.int .i64 x.1, g x.2]) (h : Pairs g w a n xs) : Kd.C K w a (xs.map mk).length (xs.map mk) := by
  refine ⟨rfl, by rw [List.length_map, h.1]; exact h.2.1, fun h0 => ?_⟩
  rw [List.length_map] at h0
  obtain ⟨ad, rfl, _, _⟩ := h.2.2 0 xs[0] (List.getElem?_eq_getElem h0)
  refine ⟨ad, rfl, fun j p hj => ?_⟩
  have hl : j < xs.length := by
    rcases Nat.lt_or_ge j xs.length with h' | h'
    · exact h'
    · rw [List.getElem?_eq_none (by simpa using h')] at hj; cases hj
  obtain ⟨ad', e, c0, c1⟩ := h.2.2 j xs[j] (List.getElem?_eq_getElem hl)
  cases e
  rw [List.getElem?_map, List.getElem?_eq_getElem hl] at hj
  cases hj
  refine ⟨_, by rw [hsz]; rfl, hK w xs[j], fun i u hu => ?_⟩
  rw [hsz]
  match i, hu with
  | 0, hu => cases hu; exact c0
  | 1, hu =>
    cases hu
    rw [← c1]
    congr 1
    unfold Addr.add
    split <;> split <;> simp_all <;> omega
  | i + 2, hu => simp at hu

theorem wrap_step {i n : Nat} (h : i < n) (hn : n ≤ 9223372036854775807) : wrap64 ((i : Int) + 1) = ((i + 1 : Nat) : Int) := by
  unfold wrap64
  omega
theorem any_drop {α : Type} {l : List α} {i : Nat} (f : α → Bool) (h : i < l.length) : (l.drop i).any f = (f l[i] || (l.drop (i + 1)).any f) := by
  rw [List.drop_eq_getElem_cons h, List.any_cons]

theorem great_l0 (p0 p1 p2 p3 p5 p6 : Int) (p7 p8 : ByteArray) (ps : List (Int × ByteArray)) (os ds : List (Int × Int)) (hp : ps.length ≤ 9223372036854775807) (ho : os.length ≤ 9223372036854775807) (hd : ds.length ≤ 9223372036854775807) (d : Nat) : ∀ (k i : Nat), i + d = ps.length → d + 0 < k → gaugerlaw07_great.l0 k (i : Int) p0 p1 p2 p3 (ps.map mkI) p5 p6 p7 p8 (os.map mkO) (ds.map mkD) = some ((ps.drop i).any fun x => decide (300 < x.2.size)) := by
  induction d with
  | zero =>
    intro k i h1 h2
    obtain ⟨k, rfl⟩ : ∃ m, k = m + 1 := ⟨k - 1, by omega⟩
    simp only [gaugerlaw07_great.l0]
    rw [if_neg (by simp; omega), List.drop_of_length_le (by omega)]
    simp
  | succ d ih =>
    intro k i h1 h2
    obtain ⟨k, rfl⟩ : ∃ m, k = m + 1 := ⟨k - 1, by omega⟩
    have hl : i < ps.length := by omega
    simp only [gaugerlaw07_great.l0]
    rw [if_pos (by simp; omega), if_pos (by omega), rdI hl, any_drop _ hl, wrap_step hl (by assumption)]
    have hi := ih k (i + 1) (by omega) (by omega)
    generalize ps[i] = x at *
    obtain ⟨a, b⟩ := x
    by_cases hb : ((mkI (a, b)).f1.size : Int) > 300
    · rw [if_pos hb]
      have hb' : 300 < b.size := by simp only [mkI] at hb; omega
      simp [hb']
    · rw [if_neg hb, hi]
      have hb' : ¬ 300 < b.size := by simp only [mkI] at hb; omega
      simp [hb']

/-- More than is asked. -/
def Rec.great (r : Rec) : Bool := decide (8 < r.pages.length) || decide (20 < r.opens.length) || decide (20 < r.dirts.length) || decide (300 < r.key.size) || decide (300 < r.val.size) || r.pages.any fun x => decide (300 < x.2.size)
theorem great_f (r : Rec) (hp : r.pages.length ≤ 9223372036854775807) (ho : r.opens.length ≤ 9223372036854775807) (hd : r.dirts.length ≤ 9223372036854775807) (k : Nat) (hk : r.pages.length + 3 < k) :
    gaugerlaw07_great.f k r.kind r.deal r.prev r.next (r.pages.map mkI) r.ukind r.utree r.key r.val (r.opens.map mkO) (r.dirts.map mkD) = some r.great := by
  have h : ∀ b, gaugerlaw07_great.j0 k b r.kind r.deal r.prev r.next (r.pages.map mkI) r.ukind r.utree r.key r.val (r.opens.map mkO) (r.dirts.map mkD) = some (b || r.pages.any fun x => decide (300 < x.2.size)) := fun b => by
    obtain ⟨k, rfl⟩ : ∃ m, k = m + 1 := ⟨k - 1, by omega⟩
    simp only [gaugerlaw07_great.j0]
    cases b
    · have h := great_l0 r.kind r.deal r.prev r.next r.ukind r.utree r.key r.val r.pages r.opens r.dirts hp ho hd r.pages.length k 0 (by omega) (by omega)
      simpa using h
    · simp
  simp only [gaugerlaw07_great.f, h, List.length_map, Rec.great]
  by_cases f0 : 8 < r.pages.length
  · have f0' : (r.pages.length : Int) > 8 := by omega
    simp [f0, f0']
  · have f0' : ¬ (r.pages.length : Int) > 8 := by omega
    by_cases f1 : 20 < r.opens.length
    · have f1' : (r.opens.length : Int) > 20 := by omega
      simp [f0, f0', f1, f1']
    · have f1' : ¬ (r.opens.length : Int) > 20 := by omega
      by_cases f2 : 20 < r.dirts.length
      · have f2' : (r.dirts.length : Int) > 20 := by omega
        simp [f0, f0', f1, f1', f2, f2']
      · have f2' : ¬ (r.dirts.length : Int) > 20 := by omega
        by_cases f3 : 300 < r.key.size
        · have f3' : (r.key.size : Int) > 300 := by omega
          simp [f0, f0', f1, f1', f2, f2', f3, f3']
        · have f3' : ¬ (r.key.size : Int) > 300 := by omega
          by_cases f4 : 300 < r.val.size
          · have f4' : (r.val.size : Int) > 300 := by omega
            simp [f0, f0', f1, f1', f2, f2', f3, f3', f4, f4']
          · have f4' : ¬ (r.val.size : Int) > 300 := by omega
            simp [f0, f0', f1, f1', f2, f2', f3, f3', f4, f4']

theorem same_l2 (p0 p1 p2 p3 p5 p6 : Int) (p7 p8 : ByteArray) (ps : List (Int × ByteArray)) (os ds : List (Int × Int)) (q0 q1 q2 q3 q5 q6 : Int) (q7 q8 : ByteArray) (qs : List (Int × ByteArray)) (us es : List (Int × Int)) (hp : ps.length ≤ 9223372036854775807) (ho : os.length ≤ 9223372036854775807) (hd : ds.length ≤ 9223372036854775807) (gp : qs.length = ps.length) (go : us.length = os.length) (gd : es.length = ds.length) (d : Nat) : ∀ (k i : Nat), i + d = ds.length → d + 0 < k → gaugerref06_Same.l2 k (i : Int) p0 p1 p2 p3 (ps.map mkI) p5 p6 p7 p8 (os.map mkO) (ds.map mkD) q0 q1 q2 q3 (qs.map mkI) q5 q6 q7 q8 (us.map mkO) (es.map mkD) = some (decide (ds.drop i = es.drop i)) := by
  induction d with
  | zero =>
    intro k i h1 h2
    obtain ⟨k, rfl⟩ : ∃ m, k = m + 1 := ⟨k - 1, by omega⟩
    simp only [gaugerref06_Same.l2]
    rw [if_neg (by simp; omega), List.drop_of_length_le (by omega), List.drop_of_length_le (by omega)]
    simp
  | succ d ih =>
    intro k i h1 h2
    obtain ⟨k, rfl⟩ : ∃ m, k = m + 1 := ⟨k - 1, by omega⟩
    have hl : i < ds.length := by omega
    have hl2 : i < es.length := by omega
    simp only [gaugerref06_Same.l2]
    rw [if_pos (by simp; omega), if_pos (by omega), if_pos (by simp; omega), rdD hl, rdD hl2, wrap_step hl (by assumption)]
    have hi := ih k (i + 1) (by omega) (by omega)
    rw [List.drop_eq_getElem_cons hl, List.drop_eq_getElem_cons hl2]
    generalize ds[i] = x at *
    generalize es[i] = y at *
    obtain ⟨a, b⟩ := x
    obtain ⟨c, e⟩ := y
    simp only [mkD]
    by_cases h1 : a = c
    · by_cases h2 : b = e
      · subst h1 h2
        simpa using hi
      · simp [h1, h2]
    · simp [h1]
theorem same_l1 (p0 p1 p2 p3 p5 p6 : Int) (p7 p8 : ByteArray) (ps : List (Int × ByteArray)) (os ds : List (Int × Int)) (q0 q1 q2 q3 q5 q6 : Int) (q7 q8 : ByteArray) (qs : List (Int × ByteArray)) (us es : List (Int × Int)) (hp : ps.length ≤ 9223372036854775807) (ho : os.length ≤ 9223372036854775807) (hd : ds.length ≤ 9223372036854775807) (gp : qs.length = ps.length) (go : us.length = os.length) (gd : es.length = ds.length) (d : Nat) : ∀ (k i : Nat), i + d = os.length → d + ds.length + 1 < k → gaugerref06_Same.l1 k (i : Int) p0 p1 p2 p3 (ps.map mkI) p5 p6 p7 p8 (os.map mkO) (ds.map mkD) q0 q1 q2 q3 (qs.map mkI) q5 q6 q7 q8 (us.map mkO) (es.map mkD) = some (decide (os.drop i = us.drop i) && decide (ds = es)) := by
  induction d with
  | zero =>
    intro k i h1 h2
    obtain ⟨k, rfl⟩ : ∃ m, k = m + 1 := ⟨k - 1, by omega⟩
    simp only [gaugerref06_Same.l1]
    rw [if_neg (by simp; omega), List.drop_of_length_le (by omega), List.drop_of_length_le (by omega)]
    have h := same_l2 p0 p1 p2 p3 p5 p6 p7 p8 ps os ds q0 q1 q2 q3 q5 q6 q7 q8 qs us es hp ho hd gp go gd ds.length k 0 (by omega) (by omega)
    simpa using h
  | succ d ih =>
    intro k i h1 h2
    obtain ⟨k, rfl⟩ : ∃ m, k = m + 1 := ⟨k - 1, by omega⟩
    have hl : i < os.length := by omega
    have hl2 : i < us.length := by omega
    simp only [gaugerref06_Same.l1]
    rw [if_pos (by simp; omega), if_pos (by omega), if_pos (by simp; omega), rdO hl, rdO hl2, wrap_step hl (by assumption)]
    have hi := ih k (i + 1) (by omega) (by omega)
    rw [List.drop_eq_getElem_cons hl, List.drop_eq_getElem_cons hl2]
    generalize os[i] = x at *
    generalize us[i] = y at *
    obtain ⟨a, b⟩ := x
    obtain ⟨c, e⟩ := y
    simp only [mkO]
    by_cases h1 : a = c
    · by_cases h2 : b = e
      · subst h1 h2
        simpa using hi
      · simp [h1, h2]
    · simp [h1]
theorem same_l0 (p0 p1 p2 p3 p5 p6 : Int) (p7 p8 : ByteArray) (ps : List (Int × ByteArray)) (os ds : List (Int × Int)) (q0 q1 q2 q3 q5 q6 : Int) (q7 q8 : ByteArray) (qs : List (Int × ByteArray)) (us es : List (Int × Int)) (hp : ps.length ≤ 9223372036854775807) (ho : os.length ≤ 9223372036854775807) (hd : ds.length ≤ 9223372036854775807) (gp : qs.length = ps.length) (go : us.length = os.length) (gd : es.length = ds.length) (d : Nat) : ∀ (k i : Nat), i + d = ps.length → d + os.length + ds.length + 2 < k → gaugerref06_Same.l0 k (i : Int) p0 p1 p2 p3 (ps.map mkI) p5 p6 p7 p8 (os.map mkO) (ds.map mkD) q0 q1 q2 q3 (qs.map mkI) q5 q6 q7 q8 (us.map mkO) (es.map mkD) = some (decide (ps.drop i = qs.drop i) && decide (os = us) && decide (ds = es)) := by
  induction d with
  | zero =>
    intro k i h1 h2
    obtain ⟨k, rfl⟩ : ∃ m, k = m + 1 := ⟨k - 1, by omega⟩
    simp only [gaugerref06_Same.l0]
    rw [if_neg (by simp; omega), List.drop_of_length_le (by omega), List.drop_of_length_le (by omega)]
    have h := same_l1 p0 p1 p2 p3 p5 p6 p7 p8 ps os ds q0 q1 q2 q3 q5 q6 q7 q8 qs us es hp ho hd gp go gd os.length k 0 (by omega) (by omega)
    simpa using h
  | succ d ih =>
    intro k i h1 h2
    obtain ⟨k, rfl⟩ : ∃ m, k = m + 1 := ⟨k - 1, by omega⟩
    have hl : i < ps.length := by omega
    have hl2 : i < qs.length := by omega
    simp only [gaugerref06_Same.l0]
    rw [if_pos (by simp; omega), if_pos (by omega), if_pos (by simp; omega), rdI hl, rdI hl2, wrap_step hl (by assumption)]
    have hi := ih k (i + 1) (by omega) (by omega)
    rw [List.drop_eq_getElem_cons hl, List.drop_eq_getElem_cons hl2]
    generalize ps[i] = x at *
    generalize qs[i] = y at *
    obtain ⟨a, b⟩ := x
    obtain ⟨c, e⟩ := y
    simp only [mkI]
    by_cases h1 : a = c
    · by_cases h2 : b = e
      · subst h1 h2
        simpa using hi
      · simp [h1, h2, Bytes.toList_inj]
    · simp [h1]

def Rec.same (a b : Rec) : Bool := decide (a.kind = b.kind) && decide (a.deal = b.deal) && decide (a.prev = b.prev) && decide (a.next = b.next) && decide (a.ukind = b.ukind) && decide (a.utree = b.utree) && decide (a.key = b.key) && decide (a.val = b.val) && decide (a.pages = b.pages) && decide (a.opens = b.opens) && decide (a.dirts = b.dirts)
theorem Rec.same_iff {a b : Rec} : a.same b = true ↔ a = b := by
  obtain ⟨a0, a1, a2, a3, a4, a5, a6, a7, a8, a9, a10⟩ := a
  obtain ⟨b0, b1, b2, b3, b4, b5, b6, b7, b8, b9, b10⟩ := b
  simp [Rec.same, and_assoc]
theorem same_f (a b : Rec) (hp : a.pages.length ≤ 9223372036854775807) (ho : a.opens.length ≤ 9223372036854775807) (hd : a.dirts.length ≤ 9223372036854775807) (k : Nat) (hk : a.pages.length + a.opens.length + a.dirts.length + 5 < k) :
    gaugerref06_Same.f k a.kind a.deal a.prev a.next (a.pages.map mkI) a.ukind a.utree a.key a.val (a.opens.map mkO) (a.dirts.map mkD) b.kind b.deal b.prev b.next (b.pages.map mkI) b.ukind b.utree b.key b.val (b.opens.map mkO) (b.dirts.map mkD) = some (a.same b) := by
  have hF : gaugerref06_Same.j0 k true a.kind a.deal a.prev a.next (a.pages.map mkI) a.ukind a.utree a.key a.val (a.opens.map mkO) (a.dirts.map mkD) b.kind b.deal b.prev b.next (b.pages.map mkI) b.ukind b.utree b.key b.val (b.opens.map mkO) (b.dirts.map mkD) = some false := by
    obtain ⟨k, rfl⟩ : ∃ m, k = m + 1 := ⟨k - 1, by omega⟩
    simp only [gaugerref06_Same.j0, if_true]
  have hT : b.pages.length = a.pages.length → b.opens.length = a.opens.length → b.dirts.length = a.dirts.length → gaugerref06_Same.j0 k false a.kind a.deal a.prev a.next (a.pages.map mkI) a.ukind a.utree a.key a.val (a.opens.map mkO) (a.dirts.map mkD) b.kind b.deal b.prev b.next (b.pages.map mkI) b.ukind b.utree b.key b.val (b.opens.map mkO) (b.dirts.map mkD) = some (decide (a.pages = b.pages) && decide (a.opens = b.opens) && decide (a.dirts = b.dirts)) := fun gp go gd => by
    obtain ⟨k, rfl⟩ : ∃ m, k = m + 1 := ⟨k - 1, by omega⟩
    have h := same_l0 a.kind a.deal a.prev a.next a.ukind a.utree a.key a.val a.pages a.opens a.dirts b.kind b.deal b.prev b.next b.ukind b.utree b.key b.val b.pages b.opens b.dirts hp ho hd gp go gd a.pages.length k 0 (by omega) (by omega)
    simp only [gaugerref06_Same.j0]
    simpa using h
  simp only [gaugerref06_Same.f, hF, List.length_map]
  unfold Rec.same
  by_cases h0 : a.kind = b.kind
  · by_cases h1 : a.deal = b.deal
    · by_cases h2 : a.prev = b.prev
      · by_cases h3 : a.next = b.next
        · by_cases h5 : a.ukind = b.ukind
          · by_cases h6 : a.utree = b.utree
            · by_cases h7 : a.key = b.key
              · by_cases h8 : a.val = b.val
                · by_cases gp : a.pages.length = b.pages.length
                  · by_cases go : a.opens.length = b.opens.length
                    · by_cases gd : a.dirts.length = b.dirts.length
                      · have hT' := hT gp.symm go.symm gd.symm
                        have e : (((a.dirts.length : Int) != (b.dirts.length : Int)) : Bool) = false := by simp [gd]
                        rw [e]
                        simp [h0, h1, h2, h3, h5, h6, h7, h8, gp, go] at hT' ⊢
                        first | (rw [hT']; done) | (rw [hT']; simp [Bool.and_assoc])
                      · have e : (((a.dirts.length : Int) != (b.dirts.length : Int)) : Bool) = true := by simp; omega
                        have hne : ¬ a.dirts = b.dirts := fun h => gd (by rw [h])
                        rw [e]
                        simp [hF, hne]
                    · have hne : ¬ a.opens = b.opens := fun h => go (by rw [h])
                      have go' : ¬ (a.opens.length : Int) = (b.opens.length : Int) := by omega
                      simp [go', hne]
                  · have hne : ¬ a.pages = b.pages := fun h => gp (by rw [h])
                    have gp' : ¬ (a.pages.length : Int) = (b.pages.length : Int) := by omega
                    simp [gp', hne]
                · have : ¬ a.val.toList = b.val.toList := fun h => h8 (Bytes.toList_inj.1 h)
                  simp [h8, this]
              · have : ¬ a.key.toList = b.key.toList := fun h => h7 (Bytes.toList_inj.1 h)
                simp [h7, this]
            · simp [h6]
          · simp [h5]
        · simp [h3]
      · simp [h2]
    · simp [h1]
  · simp [h0]
/-- So many parts at most. -/
def Small (r : Rec) : Prop := r.pages.length ≤ 100000 ∧ r.opens.length ≤ 100000 ∧ r.dirts.length ≤ 100000 ∧ r.key.size ≤ 100000 ∧ r.val.size ≤ 100000
theorem great_calls (v : Value) (r : Rec) (w : World) (h : HasRec w v r) : Calls Try.prog 51 #[v] w fun e w' => e = .returned (.bool r.great) ∧ Below w.heap.size w w' := by
  obtain ⟨a0, n0, c0, a1, n1, c1, a2, n2, c2, rfl, h0, h1, h2, z0, z1, z2⟩ := h
  have s0 : r.pages.length ≤ 9223372036854775807 := by rw [h0.1]; exact h0.2.1
  have s1 : r.opens.length ≤ 9223372036854775807 := by rw [h1.1]; exact h1.2.1
  have s2 : r.dirts.length ≤ 9223372036854775807 := by rw [h2.1]; exact h2.2.1
  have e0 : (r.pages.map mkI).length = n0 := by rw [List.length_map, h0.1]
  have e1 : (r.opens.map mkO).length = n1 := by rw [List.length_map, h1.1]
  have e2 : (r.dirts.map mkD).length = n2 := by rw [List.length_map, h2.1]
  have k0 := pairs_kd k161 mkI rfl (fun w x => k161_mk w (mkI x)) h0
  have k1 := pairs_kd k163 mkO rfl (fun w x => k163_mk w (mkO x)) h1
  have k2 := pairs_kd k165 mkD rfl (fun w x => k165_mk w (mkD x)) h2
  have hf := great_f r s0 s1 s2 _ (Nat.lt_succ_self _)
  have h := gaugerlaw07_great.calls _ r.kind r.deal r.prev r.next a0 c0 (r.pages.map mkI) r.ukind r.utree r.key r.val a1 c1 (r.opens.map mkO) a2 c2 (r.dirts.map mkD) r.great w k0 (by omega) k1 (by omega) k2 (by omega) hf
  rw [e0, e1, e2] at h
  exact h
theorem same_calls (v u : Value) (r q : Rec) (w : World) (h : HasRec w v r) (g : HasRec w u q) (hs : Small r) : Calls Try.prog 31 #[v, u] w fun e w' => e = .returned (.bool (r.same q)) ∧ Below w.heap.size w w' := by
  obtain ⟨a0, n0, c0, a1, n1, c1, a2, n2, c2, rfl, h0, h1, h2, z0, z1, z2⟩ := h
  obtain ⟨b0, m0, d0, b1, m1, d1, b2, m2, d2, rfl, g0, g1, g2, y0, y1, y2⟩ := g
  obtain ⟨s0, s1, s2, _⟩ := hs
  have e0 : (r.pages.map mkI).length = n0 := by rw [List.length_map, h0.1]
  have e1 : (r.opens.map mkO).length = n1 := by rw [List.length_map, h1.1]
  have e2 : (r.dirts.map mkD).length = n2 := by rw [List.length_map, h2.1]
  have i0 : (q.pages.map mkI).length = m0 := by rw [List.length_map, g0.1]
  have i1 : (q.opens.map mkO).length = m1 := by rw [List.length_map, g1.1]
  have i2 : (q.dirts.map mkD).length = m2 := by rw [List.length_map, g2.1]
  have k0 := pairs_kd k161 mkI rfl (fun w x => k161_mk w (mkI x)) h0
  have k1 := pairs_kd k163 mkO rfl (fun w x => k163_mk w (mkO x)) h1
  have k2 := pairs_kd k165 mkD rfl (fun w x => k165_mk w (mkD x)) h2
  have l0 := pairs_kd k161 mkI rfl (fun w x => k161_mk w (mkI x)) g0
  have l1 := pairs_kd k163 mkO rfl (fun w x => k163_mk w (mkO x)) g1
  have l2 := pairs_kd k165 mkD rfl (fun w x => k165_mk w (mkD x)) g2
  have hf := same_f r q (by omega) (by omega) (by omega) _ (Nat.lt_succ_self _)
  have h := gaugerref06_Same.calls _ r.kind r.deal r.prev r.next a0 c0 (r.pages.map mkI) r.ukind r.utree r.key r.val a1 c1 (r.opens.map mkO) a2 c2 (r.dirts.map mkD) q.kind q.deal q.prev q.next b0 d0 (q.pages.map mkI) q.ukind q.utree q.key q.val b1 d1 (q.opens.map mkO) b2 d2 (q.dirts.map mkD) (r.same q) w k0 (by omega) k1 (by omega) k2 (by omega) l0 (by omega) l1 (by omega) l2 (by omega) hf
  rw [e0, e1, e2, i0, i1, i2] at h
  exact h

/-! num -/
end Go.Proofs.Ytcfjooeagfollaa.Note
