/- The document's Good, Same, num, cursor and the law's great, by their printed functions. -/
import Derived.Test.YthfpliiknifgdaaNoteRead
import Derived.Test.YthfpliiknifgdaaPNoteExactx6
import Derived.Test.YthfpliiknifgdaaPNoteExactx7
import Derived.Test.YthfpliiknifgdaaPNoteExactx8
import Derived.Test.YthfpliiknifgdaaPNoteExactx10
import Derived.Test.YthfpliiknifgdaaPNoteExactx11
namespace Go.Proofs.Ythfpliiknifgdaa.Note
open Go.RowKit Go.Proofs.Ythfpliiknifgdaa.Mem Go.Proofs.Ythfpliiknifgdaa.Bytes Go.Proofs.Ythfpliiknifgdaa.PNoteExact Go.Proofs.YthfpliiknifgdaaW.PrintWords
set_option linter.unusedSimpArgs false
set_option linter.unusedVariables false

def mkI (x : Int × ByteArray) : S77 := ⟨x.1, x.2⟩
def mkO (x : Int × Int) : S80 := ⟨x.1, x.2⟩
def mkD (x : Int × Int) : S82 := ⟨x.1, x.2⟩
theorem rdI {l : List (Int × ByteArray)} {i : Nat} (h : i < l.length) : rd_T77 (l.map mkI) (i : Int) = mkI l[i] := by simp [rd_T77, h]
theorem rdO {l : List (Int × Int)} {i : Nat} (h : i < l.length) : rd_T80 (l.map mkO) (i : Int) = mkO l[i] := by simp [rd_T80, h]
theorem rdD {l : List (Int × Int)} {i : Nat} (h : i < l.length) : rd_T82 (l.map mkD) (i : Int) = mkD l[i] := by simp [rd_T82, h]
theorem pairs_kd {Y S : Type} {g : Y → Value} {w : World} {a : Option Addr} {n : Nat} {xs : List (Int × Y)} (K : Kd S) (mk : Int × Y → S) (hsz : K.sz = 2) (hK : ∀ w x, K.K w (mk x) [.int .i64 x.1, g x.2]) (h : Pairs g w a n xs) : Kd.C K w a (xs.map mk).length (xs.map mk) := by
  refine ⟨rfl, by rw [List.length_map, h.1]; exact h.2.1, fun h0 => ?_⟩
  rw [List.length_map] at h0
  obtain ⟨ad, rfl, _, _⟩ := h.2.2 0 xs[0] (List.getElem?_eq_getElem h0)
  refine ⟨ad, rfl, fun j p hj => ?_⟩
  have hl : j < xs.length := by
    rcases Nat.lt_or_ge j xs.length with h' | h'
    · exact h'
    · rw [List.getElem?_eq_none (by simpa using h')] at hj; cases hj
  obtain ⟨ad', e, c0, c1⟩ := h.2.2 j xs[j] (List.getElem?_eq_getElem hl)
  cases e
  rw [List.getElem?_map, List.getElem?_eq_getElem hl] at hj
  cases hj
  refine ⟨_, by rw [hsz]; rfl, hK w xs[j], fun i u hu => ?_⟩
  rw [hsz]
  match i, hu with
  | 0, hu => cases hu; exact c0
  | 1, hu =>
    cases hu
    rw [← c1]
    congr 1
    unfold Addr.add
    split <;> split <;> simp_all <;> omega
  | i + 2, hu => simp at hu

theorem in_f (a b : Int) : gaugerref06_in.f a b = some (inb a b) := by
  unfold gaugerref06_in.f inb
  by_cases h : 0 ≤ a <;> simp [h]
theorem wrap_step {i n : Nat} (h : i < n) (hn : n ≤ 9223372036854775807) : wrap64 ((i : Int) + 1) = ((i + 1 : Nat) : Int) := by
  unfold wrap64
  omega
theorem any_drop {α : Type} {l : List α} {i : Nat} (f : α → Bool) (h : i < l.length) : (l.drop i).any f = (f l[i] || (l.drop (i + 1)).any f) := by
  rw [List.drop_eq_getElem_cons h, List.any_cons]

theorem good_l2 (p0 p1 p2 p3 p5 p6 : Int) (p7 p8 : ByteArray) (ps : List (Int × ByteArray)) (os ds : List (Int × Int)) (hp : ps.length ≤ 9223372036854775807) (ho : os.length ≤ 9223372036854775807) (hd : ds.length ≤ 9223372036854775807) (d : Nat) : ∀ (k i : Nat), i + d = ds.length → d + 0 < k → gaugerref06_Good.l2 k 2147483647 (i : Int) p0 p1 p2 p3 (ps.map mkI) p5 p6 p7 p8 (os.map mkO) (ds.map mkD) = some (!(ds.drop i).any badDirty) := by
  induction d with
  | zero =>
    intro k i h1 h2
    obtain ⟨k, rfl⟩ : ∃ m, k = m + 1 := ⟨k - 1, by omega⟩
    simp only [gaugerref06_Good.l2]
    rw [if_neg (by simp; omega), List.drop_of_length_le (by omega)]
    simp
  | succ d ih =>
    intro k i h1 h2
    obtain ⟨k, rfl⟩ : ∃ m, k = m + 1 := ⟨k - 1, by omega⟩
    have hl : i < ds.length := by omega
    simp only [gaugerref06_Good.l2]
    rw [if_pos (by simp; omega), if_pos (by omega), rdD hl, any_drop _ hl, wrap_step hl (by assumption)]
    have hi := ih k (i + 1) (by omega) (by omega)
    generalize ds[i] = x at *
    obtain ⟨a, b⟩ := x
    simp only [mkD, in_f, Option.bind_some, badDirty]
    cases inb a 255
    · simp
    · cases inb b 2147483647
      · simp
      · simpa using hi
theorem good_l1 (p0 p1 p2 p3 p5 p6 : Int) (p7 p8 : ByteArray) (ps : List (Int × ByteArray)) (os ds : List (Int × Int)) (hp : ps.length ≤ 9223372036854775807) (ho : os.length ≤ 9223372036854775807) (hd : ds.length ≤ 9223372036854775807) (d : Nat) : ∀ (k i : Nat), i + d = os.length → d + ds.length + 1 < k → gaugerref06_Good.l1 k 2147483647 (i : Int) p0 p1 p2 p3 (ps.map mkI) p5 p6 p7 p8 (os.map mkO) (ds.map mkD) = some (!(os.drop i).any badOpen && !ds.any badDirty) := by
  induction d with
  | zero =>
    intro k i h1 h2
    obtain ⟨k, rfl⟩ : ∃ m, k = m + 1 := ⟨k - 1, by omega⟩
    simp only [gaugerref06_Good.l1]
    rw [if_neg (by simp; omega), List.drop_of_length_le (by omega)]
    have h := good_l2 p0 p1 p2 p3 p5 p6 p7 p8 ps os ds hp ho hd ds.length k 0 (by omega) (by omega)
    simpa using h
  | succ d ih =>
    intro k i h1 h2
    obtain ⟨k, rfl⟩ : ∃ m, k = m + 1 := ⟨k - 1, by omega⟩
    have hl : i < os.length := by omega
    simp only [gaugerref06_Good.l1]
    rw [if_pos (by simp; omega), if_pos (by omega), rdO hl, any_drop _ hl, wrap_step hl (by assumption)]
    have hi := ih k (i + 1) (by omega) (by omega)
    generalize os[i] = x at *
    obtain ⟨a, b⟩ := x
    simp only [mkO, in_f, Option.bind_some, badOpen]
    cases inb a 2147483647
    · simp
    · cases inb b 2147483647
      · simp
      · simpa using hi
theorem good_l0 (p0 p1 p2 p3 p5 p6 : Int) (p7 p8 : ByteArray) (ps : List (Int × ByteArray)) (os ds : List (Int × Int)) (hp : ps.length ≤ 9223372036854775807) (ho : os.length ≤ 9223372036854775807) (hd : ds.length ≤ 9223372036854775807) (d : Nat) : ∀ (k i : Nat), i + d = ps.length → d + os.length + ds.length + 2 < k → gaugerref06_Good.l0 k 2147483647 (i : Int) p0 p1 p2 p3 (ps.map mkI) p5 p6 p7 p8 (os.map mkO) (ds.map mkD) = some (!(ps.drop i).any badPage && !os.any badOpen && !ds.any badDirty) := by
  induction d with
  | zero =>
    intro k i h1 h2
    obtain ⟨k, rfl⟩ : ∃ m, k = m + 1 := ⟨k - 1, by omega⟩
    simp only [gaugerref06_Good.l0]
    rw [if_neg (by simp; omega), List.drop_of_length_le (by omega)]
    have h := good_l1 p0 p1 p2 p3 p5 p6 p7 p8 ps os ds hp ho hd os.length k 0 (by omega) (by omega)
    simpa using h
  | succ d ih =>
    intro k i h1 h2
    obtain ⟨k, rfl⟩ : ∃ m, k = m + 1 := ⟨k - 1, by omega⟩
    have hl : i < ps.length := by omega
    simp only [gaugerref06_Good.l0]
    rw [if_pos (by simp; omega), if_pos (by omega), rdI hl, any_drop _ hl, wrap_step hl (by assumption)]
    have hi := ih k (i + 1) (by omega) (by omega)
    generalize ps[i] = x at *
    obtain ⟨a, b⟩ := x
    simp only [mkI, in_f, Option.bind_some, badPage]
    cases inb a 255
    · simp
    · by_cases hb : b.size = 256
      · simpa [hb] using hi
      · have hb' : ¬ (b.size : Int) = 256 := by omega
        simp [hb, hb']
theorem great_l0 (p0 p1 p2 p3 p5 p6 : Int) (p7 p8 : ByteArray) (ps : List (Int × ByteArray)) (os ds : List (Int × Int)) (hp : ps.length ≤ 9223372036854775807) (ho : os.length ≤ 9223372036854775807) (hd : ds.length ≤ 9223372036854775807) (d : Nat) : ∀ (k i : Nat), i + d = ps.length → d + 0 < k → gaugerlaw06_great.l0 k (i : Int) p0 p1 p2 p3 (ps.map mkI) p5 p6 p7 p8 (os.map mkO) (ds.map mkD) = some ((ps.drop i).any fun x => decide (300 < x.2.size)) := by
  induction d with
  | zero =>
    intro k i h1 h2
    obtain ⟨k, rfl⟩ : ∃ m, k = m + 1 := ⟨k - 1, by omega⟩
    simp only [gaugerlaw06_great.l0]
    rw [if_neg (by simp; omega), List.drop_of_length_le (by omega)]
    simp
  | succ d ih =>
    intro k i h1 h2
    obtain ⟨k, rfl⟩ : ∃ m, k = m + 1 := ⟨k - 1, by omega⟩
    have hl : i < ps.length := by omega
    simp only [gaugerlaw06_great.l0]
    rw [if_pos (by simp; omega), if_pos (by omega), rdI hl, any_drop _ hl, wrap_step hl (by assumption)]
    have hi := ih k (i + 1) (by omega) (by omega)
    generalize ps[i] = x at *
    obtain ⟨a, b⟩ := x
    by_cases hb : ((mkI (a, b)).f1.size : Int) > 300
    · rw [if_pos hb]
      have hb' : 300 < b.size := by simp only [mkI] at hb; omega
      simp [hb']
    · rw [if_neg hb, hi]
      have hb' : ¬ 300 < b.size := by simp only [mkI] at hb; omega
      simp [hb']

theorem j1_f (b : Bool) (r : Rec) (hp : r.pages.length ≤ 9223372036854775807) (ho : r.opens.length ≤ 9223372036854775807) (hd : r.dirts.length ≤ 9223372036854775807) (k : Nat) (hk : r.pages.length + r.opens.length + r.dirts.length + 3 < k) :
    gaugerref06_Good.j1 k 2147483647 b r.kind r.deal r.prev r.next (r.pages.map mkI) r.ukind r.utree r.key r.val (r.opens.map mkO) (r.dirts.map mkD) = some (!b && (!r.pages.any badPage && !r.opens.any badOpen && !r.dirts.any badDirty)) := by
  obtain ⟨k, rfl⟩ : ∃ m, k = m + 1 := ⟨k - 1, by omega⟩
  simp only [gaugerref06_Good.j1]
  cases b
  · have h := good_l0 r.kind r.deal r.prev r.next r.ukind r.utree r.key r.val r.pages r.opens r.dirts hp ho hd r.pages.length k 0 (by omega) (by omega)
    simpa using h
  · simp
theorem j0_f (b : Bool) (r : Rec) (hp : r.pages.length ≤ 9223372036854775807) (ho : r.opens.length ≤ 9223372036854775807) (hd : r.dirts.length ≤ 9223372036854775807) (k : Nat) (hk : r.pages.length + r.opens.length + r.dirts.length + 4 < k) :
    gaugerref06_Good.j0 k 2147483647 b r.kind r.deal r.prev r.next (r.pages.map mkI) r.ukind r.utree r.key r.val (r.opens.map mkO) (r.dirts.map mkD) = some (!b && undoGood r.ukind r.utree r.key r.val && (!r.pages.any badPage && !r.opens.any badOpen && !r.dirts.any badDirty)) := by
  obtain ⟨k, rfl⟩ : ∃ m, k = m + 1 := ⟨k - 1, by omega⟩
  simp only [gaugerref06_Good.j0, in_f, Option.bind_some]
  cases b
  · have h := fun b => j1_f b r hp ho hd k (by omega)
    simp only [h, undoGood]
    cases inb r.ukind 4
    · simp
    · cases inb r.utree 255
      · simp
      · by_cases h1 : r.key.size ≤ 255
        · have h1' : ¬ (r.key.size : Int) > 255 := by omega
          by_cases h2 : r.val.size ≤ 255
          · have h2' : ¬ (r.val.size : Int) > 255 := by omega
            simp [h1, h1', h2, h2']
          · have h2' : (r.val.size : Int) > 255 := by omega
            simp [h1, h1', h2, h2']
        · have h1' : (r.key.size : Int) > 255 := by omega
          simp [h1, h1']
  · simp
theorem good_f (r : Rec) (hp : r.pages.length ≤ 9223372036854775807) (ho : r.opens.length ≤ 9223372036854775807) (hd : r.dirts.length ≤ 9223372036854775807) (k : Nat) (hk : r.pages.length + r.opens.length + r.dirts.length + 5 < k) :
    gaugerref06_Good.f k r.kind r.deal r.prev r.next (r.pages.map mkI) r.ukind r.utree r.key r.val (r.opens.map mkO) (r.dirts.map mkD) = some r.good := by
  have h := fun b => j0_f b r hp ho hd k (by omega)
  simp only [gaugerref06_Good.f, in_f, Option.bind_some, h, List.length_map, Rec.good, Rec.fits]
  by_cases k1 : r.kind < 1
  · have : ¬ 1 ≤ r.kind := by omega
    simp [k1, this]
  · have e1 : 1 ≤ r.kind := by omega
    by_cases k2 : r.kind > 6
    · have : ¬ r.kind ≤ 6 := by omega
      simp [k1, k2, this]
    · have e2 : r.kind ≤ 6 := by omega
      cases inb r.deal 2147483647
      · simp [k1, k2, e1, e2]
      · cases inb r.prev 2147483647
        · simp [k1, k2, e1, e2]
        · cases inb r.next 2147483647
          · simp [k1, k2, e1, e2]
          · by_cases f0 : r.pages.length ≤ 8
            · have f0' : ¬ (r.pages.length : Int) > 8 := by omega
              by_cases f1 : r.opens.length ≤ 16
              · have f1' : ¬ (r.opens.length : Int) > 16 := by omega
                by_cases f2 : r.dirts.length ≤ 256
                · have f2' : ¬ (r.dirts.length : Int) > 256 := by omega
                  simp [k1, k2, e1, e2, f0, f0', f1, f1', f2, f2', Bool.and_assoc]
                · have f2' : (r.dirts.length : Int) > 256 := by omega
                  simp [k1, k2, e1, e2, f0, f0', f1, f1', f2, f2']
              · have f1' : (r.opens.length : Int) > 16 := by omega
                simp [k1, k2, e1, e2, f0, f0', f1, f1']
            · have f0' : (r.pages.length : Int) > 8 := by omega
              simp [k1, k2, e1, e2, f0, f0']

/-- More than is asked. -/
def Rec.great (r : Rec) : Bool := decide (12 < r.pages.length) || decide (20 < r.opens.length) || decide (300 < r.dirts.length) || decide (300 < r.key.size) || decide (300 < r.val.size) || r.pages.any fun x => decide (300 < x.2.size)
theorem great_f (r : Rec) (hp : r.pages.length ≤ 9223372036854775807) (ho : r.opens.length ≤ 9223372036854775807) (hd : r.dirts.length ≤ 9223372036854775807) (k : Nat) (hk : r.pages.length + 3 < k) :
    gaugerlaw06_great.f k r.kind r.deal r.prev r.next (r.pages.map mkI) r.ukind r.utree r.key r.val (r.opens.map mkO) (r.dirts.map mkD) = some r.great := by
  have h : ∀ b, gaugerlaw06_great.j0 k b r.kind r.deal r.prev r.next (r.pages.map mkI) r.ukind r.utree r.key r.val (r.opens.map mkO) (r.dirts.map mkD) = some (b || r.pages.any fun x => decide (300 < x.2.size)) := fun b => by
    obtain ⟨k, rfl⟩ : ∃ m, k = m + 1 := ⟨k - 1, by omega⟩
    simp only [gaugerlaw06_great.j0]
    cases b
    · have h := great_l0 r.kind r.deal r.prev r.next r.ukind r.utree r.key r.val r.pages r.opens r.dirts hp ho hd r.pages.length k 0 (by omega) (by omega)
      simpa using h
    · simp
  simp only [gaugerlaw06_great.f, h, List.length_map, Rec.great]
  by_cases f0 : 12 < r.pages.length
  · have f0' : (r.pages.length : Int) > 12 := by omega
    simp [f0, f0']
  · have f0' : ¬ (r.pages.length : Int) > 12 := by omega
    by_cases f1 : 20 < r.opens.length
    · have f1' : (r.opens.length : Int) > 20 := by omega
      simp [f0, f0', f1, f1']
    · have f1' : ¬ (r.opens.length : Int) > 20 := by omega
      by_cases f2 : 300 < r.dirts.length
      · have f2' : (r.dirts.length : Int) > 300 := by omega
        simp [f0, f0', f1, f1', f2, f2']
      · have f2' : ¬ (r.dirts.length : Int) > 300 := by omega
        by_cases f3 : 300 < r.key.size
        · have f3' : (r.key.size : Int) > 300 := by omega
          simp [f0, f0', f1, f1', f2, f2', f3, f3']
        · have f3' : ¬ (r.key.size : Int) > 300 := by omega
          by_cases f4 : 300 < r.val.size
          · have f4' : (r.val.size : Int) > 300 := by omega
            simp [f0, f0', f1, f1', f2, f2', f3, f3', f4, f4']
          · have f4' : ¬ (r.val.size : Int) > 300 := by omega
            simp [f0, f0', f1, f1', f2, f2', f3, f3', f4, f4']

theorem same_l2 (p0 p1 p2 p3 p5 p6 : Int) (p7 p8 : ByteArray) (ps : List (Int × ByteArray)) (os ds : List (Int × Int)) (q0 q1 q2 q3 q5 q6 : Int) (q7 q8 : ByteArray) (qs : List (Int × ByteArray)) (us es : List (Int × Int)) (hp : ps.length ≤ 9223372036854775807) (ho : os.length ≤ 9223372036854775807) (hd : ds.length ≤ 9223372036854775807) (gp : qs.length = ps.length) (go : us.length = os.length) (gd : es.length = ds.length) (d : Nat) : ∀ (k i : Nat), i + d = ds.length → d + 0 < k → gaugerref06_Same.l2 k (i : Int) p0 p1 p2 p3 (ps.map mkI) p5 p6 p7 p8 (os.map mkO) (ds.map mkD) q0 q1 q2 q3 (qs.map mkI) q5 q6 q7 q8 (us.map mkO) (es.map mkD) = some (decide (ds.drop i = es.drop i)) := by
  induction d with
  | zero =>
    intro k i h1 h2
    obtain ⟨k, rfl⟩ : ∃ m, k = m + 1 := ⟨k - 1, by omega⟩
    simp only [gaugerref06_Same.l2]
    rw [if_neg (by simp; omega), List.drop_of_length_le (by omega), List.drop_of_length_le (by omega)]
    simp
  | succ d ih =>
    intro k i h1 h2
    obtain ⟨k, rfl⟩ : ∃ m, k = m + 1 := ⟨k - 1, by omega⟩
    have hl : i < ds.length := by omega
    have hl2 : i < es.length := by omega
    simp only [gaugerref06_Same.l2]
    rw [if_pos (by simp; omega), if_pos (by omega), if_pos (by simp; omega), rdD hl, rdD hl2, wrap_step hl (by assumption)]
    have hi := ih k (i + 1) (by omega) (by omega)
    rw [List.drop_eq_getElem_cons hl, List.drop_eq_getElem_cons hl2]
    generalize ds[i] = x at *
    generalize es[i] = y at *
    obtain ⟨a, b⟩ := x
    obtain ⟨c, e⟩ := y
    simp only [mkD]
    by_cases h1 : a = c
    · by_cases h2 : b = e
      · subst h1 h2
        simpa using hi
      · simp [h1, h2]
    · simp [h1]
theorem same_l1 (p0 p1 p2 p3 p5 p6 : Int) (p7 p8 : ByteArray) (ps : List (Int × ByteArray)) (os ds : List (Int × Int)) (q0 q1 q2 q3 q5 q6 : Int) (q7 q8 : ByteArray) (qs : List (Int × ByteArray)) (us es : List (Int × Int)) (hp : ps.length ≤ 9223372036854775807) (ho : os.length ≤ 9223372036854775807) (hd : ds.length ≤ 9223372036854775807) (gp : qs.length = ps.length) (go : us.length = os.length) (gd : es.length = ds.length) (d : Nat) : ∀ (k i : Nat), i + d = os.length → d + ds.length + 1 < k → gaugerref06_Same.l1 k (i : Int) p0 p1 p2 p3 (ps.map mkI) p5 p6 p7 p8 (os.map mkO) (ds.map mkD) q0 q1 q2 q3 (qs.map mkI) q5 q6 q7 q8 (us.map mkO) (es.map mkD) = some (decide (os.drop i = us.drop i) && decide (ds = es)) := by
  induction d with
  | zero =>
    intro k i h1 h2
    obtain ⟨k, rfl⟩ : ∃ m, k = m + 1 := ⟨k - 1, by omega⟩
    simp only [gaugerref06_Same.l1]
    rw [if_neg (by simp; omega), List.drop_of_length_le (by omega), List.drop_of_length_le (by omega)]
    have h := same_l2 p0 p1 p2 p3 p5 p6 p7 p8 ps os ds q0 q1 q2 q3 q5 q6 q7 q8 qs us es hp ho hd gp go gd ds.length k 0 (by omega) (by omega)
    simpa using h
  | succ d ih =>
    intro k i h1 h2
    obtain ⟨k, rfl⟩ : ∃ m, k = m + 1 := ⟨k - 1, by omega⟩
    have hl : i < os.length := by omega
    have hl2 : i < us.length := by omega
    simp only [gaugerref06_Same.l1]
    rw [if_pos (by simp; omega), if_pos (by omega), if_pos (by simp; omega), rdO hl, rdO hl2, wrap_step hl (by assumption)]
    have hi := ih k (i + 1) (by omega) (by omega)
    rw [List.drop_eq_getElem_cons hl, List.drop_eq_getElem_cons hl2]
    generalize os[i] = x at *
    generalize us[i] = y at *
    obtain ⟨a, b⟩ := x
    obtain ⟨c, e⟩ := y
    simp only [mkO]
    by_cases h1 : a = c
    · by_cases h2 : b = e
      · subst h1 h2
        simpa using hi
      · simp [h1, h2]
    · simp [h1]
theorem same_l0 (p0 p1 p2 p3 p5 p6 : Int) (p7 p8 : ByteArray) (ps : List (Int × ByteArray)) (os ds : List (Int × Int)) (q0 q1 q2 q3 q5 q6 : Int) (q7 q8 : ByteArray) (qs : List (Int × ByteArray)) (us es : List (Int × Int)) (hp : ps.length ≤ 9223372036854775807) (ho : os.length ≤ 9223372036854775807) (hd : ds.length ≤ 9223372036854775807) (gp : qs.length = ps.length) (go : us.length = os.length) (gd : es.length = ds.length) (d : Nat) : ∀ (k i : Nat), i + d = ps.length → d + os.length + ds.length + 2 < k → gaugerref06_Same.l0 k (i : Int) p0 p1 p2 p3 (ps.map mkI) p5 p6 p7 p8 (os.map mkO) (ds.map mkD) q0 q1 q2 q3 (qs.map mkI) q5 q6 q7 q8 (us.map mkO) (es.map mkD) = some (decide (ps.drop i = qs.drop i) && decide (os = us) && decide (ds = es)) := by
  induction d with
  | zero =>
    intro k i h1 h2
    obtain ⟨k, rfl⟩ : ∃ m, k = m + 1 := ⟨k - 1, by omega⟩
    simp only [gaugerref06_Same.l0]
    rw [if_neg (by simp; omega), List.drop_of_length_le (by omega), List.drop_of_length_le (by omega)]
    have h := same_l1 p0 p1 p2 p3 p5 p6 p7 p8 ps os ds q0 q1 q2 q3 q5 q6 q7 q8 qs us es hp ho hd gp go gd os.length k 0 (by omega) (by omega)
    simpa using h
  | succ d ih =>
    intro k i h1 h2
    obtain ⟨k, rfl⟩ : ∃ m, k = m + 1 := ⟨k - 1, by omega⟩
    have hl : i < ps.length := by omega
    have hl2 : i < qs.length := by omega
    simp only [gaugerref06_Same.l0]
    rw [if_pos (by simp; omega), if_pos (by omega), if_pos (by simp; omega), rdI hl, rdI hl2, wrap_step hl (by assumption)]
    have hi := ih k (i + 1) (by omega) (by omega)
    rw [List.drop_eq_getElem_cons hl, List.drop_eq_getElem_cons hl2]
    generalize ps[i] = x at *
    generalize qs[i] = y at *
    obtain ⟨a, b⟩ := x
    obtain ⟨c, e⟩ := y
    simp only [mkI]
    by_cases h1 : a = c
    · by_cases h2 : b = e
      · subst h1 h2
        simpa using hi
      · simp [h1, h2, Bytes.toList_inj]
    · simp [h1]

def Rec.same (a b : Rec) : Bool := decide (a.kind = b.kind) && decide (a.deal = b.deal) && decide (a.prev = b.prev) && decide (a.next = b.next) && decide (a.ukind = b.ukind) && decide (a.utree = b.utree) && decide (a.key = b.key) && decide (a.val = b.val) && decide (a.pages = b.pages) && decide (a.opens = b.opens) && decide (a.dirts = b.dirts)
theorem Rec.same_iff {a b : Rec} : a.same b = true ↔ a = b := by
  obtain ⟨a0, a1, a2, a3, a4, a5, a6, a7, a8, a9, a10⟩ := a
  obtain ⟨b0, b1, b2, b3, b4, b5, b6, b7, b8, b9, b10⟩ := b
  simp [Rec.same, and_assoc]
theorem same_f (a b : Rec) (hp : a.pages.length ≤ 9223372036854775807) (ho : a.opens.length ≤ 9223372036854775807) (hd : a.dirts.length ≤ 9223372036854775807) (k : Nat) (hk : a.pages.length + a.opens.length + a.dirts.length + 5 < k) :
    gaugerref06_Same.f k a.kind a.deal a.prev a.next (a.pages.map mkI) a.ukind a.utree a.key a.val (a.opens.map mkO) (a.dirts.map mkD) b.kind b.deal b.prev b.next (b.pages.map mkI) b.ukind b.utree b.key b.val (b.opens.map mkO) (b.dirts.map mkD) = some (a.same b) := by
  have hF : gaugerref06_Same.j0 k true a.kind a.deal a.prev a.next (a.pages.map mkI) a.ukind a.utree a.key a.val (a.opens.map mkO) (a.dirts.map mkD) b.kind b.deal b.prev b.next (b.pages.map mkI) b.ukind b.utree b.key b.val (b.opens.map mkO) (b.dirts.map mkD) = some false := by
    obtain ⟨k, rfl⟩ : ∃ m, k = m + 1 := ⟨k - 1, by omega⟩
    simp only [gaugerref06_Same.j0, if_true]
  have hT : b.pages.length = a.pages.length → b.opens.length = a.opens.length → b.dirts.length = a.dirts.length → gaugerref06_Same.j0 k false a.kind a.deal a.prev a.next (a.pages.map mkI) a.ukind a.utree a.key a.val (a.opens.map mkO) (a.dirts.map mkD) b.kind b.deal b.prev b.next (b.pages.map mkI) b.ukind b.utree b.key b.val (b.opens.map mkO) (b.dirts.map mkD) = some (decide (a.pages = b.pages) && decide (a.opens = b.opens) && decide (a.dirts = b.dirts)) := fun gp go gd => by
    obtain ⟨k, rfl⟩ : ∃ m, k = m + 1 := ⟨k - 1, by omega⟩
    have h := same_l0 a.kind a.deal a.prev a.next a.ukind a.utree a.key a.val a.pages a.opens a.dirts b.kind b.deal b.prev b.next b.ukind b.utree b.key b.val b.pages b.opens b.dirts hp ho hd gp go gd a.pages.length k 0 (by omega) (by omega)
    simp only [gaugerref06_Same.j0]
    simpa using h
  simp only [gaugerref06_Same.f, hF, List.length_map]
  unfold Rec.same
  by_cases h0 : a.kind = b.kind
  · by_cases h1 : a.deal = b.deal
    · by_cases h2 : a.prev = b.prev
      · by_cases h3 : a.next = b.next
        · by_cases h5 : a.ukind = b.ukind
          · by_cases h6 : a.utree = b.utree
            · by_cases h7 : a.key = b.key
              · by_cases h8 : a.val = b.val
                · by_cases gp : a.pages.length = b.pages.length
                  · by_cases go : a.opens.length = b.opens.length
                    · by_cases gd : a.dirts.length = b.dirts.length
                      · have hT' := hT gp.symm go.symm gd.symm
                        have e : (((a.dirts.length : Int) != (b.dirts.length : Int)) : Bool) = false := by simp [gd]
                        rw [e]
                        simp [h0, h1, h2, h3, h5, h6, h7, h8, gp, go] at hT' ⊢
                        first | (rw [hT']; done) | (rw [hT']; simp [Bool.and_assoc])
                      · have e : (((a.dirts.length : Int) != (b.dirts.length : Int)) : Bool) = true := by simp; omega
                        have hne : ¬ a.dirts = b.dirts := fun h => gd (by rw [h])
                        rw [e]
                        simp [hF, hne]
                    · have hne : ¬ a.opens = b.opens := fun h => go (by rw [h])
                      have go' : ¬ (a.opens.length : Int) = (b.opens.length : Int) := by omega
                      simp [go', hne]
                  · have hne : ¬ a.pages = b.pages := fun h => gp (by rw [h])
                    have gp' : ¬ (a.pages.length : Int) = (b.pages.length : Int) := by omega
                    simp [gp', hne]
                · have : ¬ a.val.toList = b.val.toList := fun h => h8 (Bytes.toList_inj.1 h)
                  simp [h8, this]
              · have : ¬ a.key.toList = b.key.toList := fun h => h7 (Bytes.toList_inj.1 h)
                simp [h7, this]
            · simp [h6]
          · simp [h5]
        · simp [h3]
      · simp [h2]
    · simp [h1]
  · simp [h0]
end Go.Proofs.Ythfpliiknifgdaa.Note
