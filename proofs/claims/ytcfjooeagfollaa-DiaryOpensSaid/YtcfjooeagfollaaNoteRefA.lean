/- The document's Good, num, cursor, by their printed functions. -/
import Derived.Test.YtcfjooeagfollaaNoteRead
import Derived.Test.YtcfjooeagfollaaNoteRefS
import Derived.Test.YtcfjooeagfollaaPDiaryExactx6
import Derived.Test.YtcfjooeagfollaaPDiaryExactx7
import Derived.Test.YtcfjooeagfollaaPDiaryExactx9
import Derived.Test.YtcfjooeagfollaaPDiaryExactx10
namespace Go.Proofs.Ytcfjooeagfollaa.Note
open Go.RowKit Go.Proofs.Ytcfjooeagfollaa.Mem Go.Proofs.Ytcfjooeagfollaa.Bytes Go.Proofs.Ytcfjooeagfollaa.PDiaryExact Go.Proofs.YtcfjooeagfollaaW.PrintWords
set_option linter.unusedSimpArgs false
set_option linter.unusedVariables false
set_option maxRecDepth 20000

theorem in_f (a b : Int) : gaugerref06_in.f a b = some (inb a b) := by
  unfold gaugerref06_in.f inb
  by_cases h : 0 ≤ a <;> simp [h]
theorem good_l2 (p0 p1 p2 p3 p5 p6 : Int) (p7 p8 : ByteArray) (ps : List (Int × ByteArray)) (os ds : List (Int × Int)) (hp : ps.length ≤ 9223372036854775807) (ho : os.length ≤ 9223372036854775807) (hd : ds.length ≤ 9223372036854775807) (d : Nat) : ∀ (k i : Nat), i + d = ds.length → d + 0 < k → gaugerref06_Good.l2 k 2147483647 (i : Int) p0 p1 p2 p3 (ps.map mkI) p5 p6 p7 p8 (os.map mkO) (ds.map mkD) = some (!(ds.drop i).any badDirty) := by
  induction d with
  | zero =>
    intro k i h1 h2
    obtain ⟨k, rfl⟩ : ∃ m, k = m + 1 := ⟨k - 1, by omega⟩
    simp only [gaugerref06_Good.l2]
    rw [if_neg (by simp; omega), List.drop_of_length_le (by omega)]
    simp
  | succ d ih =>
    intro k i h1 h2
    obtain ⟨k, rfl⟩ : ∃ m, k = m + 1 := ⟨k - 1, by omega⟩
    have hl : i < ds.length := by omega
    simp only [gaugerref06_Good.l2]
    rw [if_pos (by simp; omega), if_pos (by omega), rdD hl, any_drop _ hl, wrap_step hl (by assumption)]
    have hi := ih k (i + 1) (by omega) (by omega)
    generalize ds[i] = x at *
    obtain ⟨a, b⟩ := x
    simp only [mkD, in_f, Option.bind_some, badDirty]
    cases inb a 255
    · simp
    · cases inb b 2147483647
      · simp
      · simpa using hi
theorem good_l1 (p0 p1 p2 p3 p5 p6 : Int) (p7 p8 : ByteArray) (ps : List (Int × ByteArray)) (os ds : List (Int × Int)) (hp : ps.length ≤ 9223372036854775807) (ho : os.length ≤ 9223372036854775807) (hd : ds.length ≤ 9223372036854775807) (d : Nat) : ∀ (k i : Nat), i + d = os.length → d + ds.length + 1 < k → gaugerref06_Good.l1 k 2147483647 (i : Int) p0 p1 p2 p3 (ps.map mkI) p5 p6 p7 p8 (os.map mkO) (ds.map mkD) = some (!(os.drop i).any badOpen && !ds.any badDirty) := by
  induction d with
  | zero =>
    intro k i h1 h2
    obtain ⟨k, rfl⟩ : ∃ m, k = m + 1 := ⟨k - 1, by omega⟩
    simp only [gaugerref06_Good.l1]
    rw [if_neg (by simp; omega), List.drop_of_length_le (by omega)]
    have h := good_l2 p0 p1 p2 p3 p5 p6 p7 p8 ps os ds hp ho hd ds.length k 0 (by omega) (by omega)
    simpa using h
  | succ d ih =>
    intro k i h1 h2
    obtain ⟨k, rfl⟩ : ∃ m, k = m + 1 := ⟨k - 1, by omega⟩
    have hl : i < os.length := by omega
    simp only [gaugerref06_Good.l1]
    rw [if_pos (by simp; omega), if_pos (by omega), rdO hl, any_drop _ hl, wrap_step hl (by assumption)]
    have hi := ih k (i + 1) (by omega) (by omega)
    generalize os[i] = x at *
    obtain ⟨a, b⟩ := x
    simp only [mkO, in_f, Option.bind_some, badOpen]
    cases inb a 2147483647
    · simp
    · cases inb b 2147483647
      · simp
      · simpa using hi
theorem good_l0 (p0 p1 p2 p3 p5 p6 : Int) (p7 p8 : ByteArray) (ps : List (Int × ByteArray)) (os ds : List (Int × Int)) (hp : ps.length ≤ 9223372036854775807) (ho : os.length ≤ 9223372036854775807) (hd : ds.length ≤ 9223372036854775807) (d : Nat) : ∀ (k i : Nat), i + d = ps.length → d + os.length + ds.length + 2 < k → gaugerref06_Good.l0 k 2147483647 (i : Int) p0 p1 p2 p3 (ps.map mkI) p5 p6 p7 p8 (os.map mkO) (ds.map mkD) = some (!(ps.drop i).any badPage && !os.any badOpen && !ds.any badDirty) := by
  induction d with
  | zero =>
    intro k i h1 h2
    obtain ⟨k, rfl⟩ : ∃ m, k = m + 1 := ⟨k - 1, by omega⟩
    simp only [gaugerref06_Good.l0]
    rw [if_neg (by simp; omega), List.drop_of_length_le (by omega)]
    have h := good_l1 p0 p1 p2 p3 p5 p6 p7 p8 ps os ds hp ho hd os.length k 0 (by omega) (by omega)
    simpa using h
  | succ d ih =>
    intro k i h1 h2
    obtain ⟨k, rfl⟩ : ∃ m, k = m + 1 := ⟨k - 1, by omega⟩
    have hl : i < ps.length := by omega
    simp only [gaugerref06_Good.l0]
    rw [if_pos (by simp; omega), if_pos (by omega), rdI hl, any_drop _ hl, wrap_step hl (by assumption)]
    have hi := ih k (i + 1) (by omega) (by omega)
    generalize ps[i] = x at *
    obtain ⟨a, b⟩ := x
    simp only [mkI, in_f, Option.bind_some, badPage]
    cases inb a 255
    · simp
    · by_cases hb : b.size = 256
      · simpa [hb] using hi
      · have hb' : ¬ (b.size : Int) = 256 := by omega
        simp [hb, hb']
theorem j1_f (b : Bool) (r : Rec) (hp : r.pages.length ≤ 9223372036854775807) (ho : r.opens.length ≤ 9223372036854775807) (hd : r.dirts.length ≤ 9223372036854775807) (k : Nat) (hk : r.pages.length + r.opens.length + r.dirts.length + 3 < k) :
    gaugerref06_Good.j1 k 2147483647 b r.kind r.deal r.prev r.next (r.pages.map mkI) r.ukind r.utree r.key r.val (r.opens.map mkO) (r.dirts.map mkD) = some (!b && (!r.pages.any badPage && !r.opens.any badOpen && !r.dirts.any badDirty)) := by
  obtain ⟨k, rfl⟩ : ∃ m, k = m + 1 := ⟨k - 1, by omega⟩
  simp only [gaugerref06_Good.j1]
  cases b
  · have h := good_l0 r.kind r.deal r.prev r.next r.ukind r.utree r.key r.val r.pages r.opens r.dirts hp ho hd r.pages.length k 0 (by omega) (by omega)
    simpa using h
  · simp
theorem j0_f (b : Bool) (r : Rec) (hp : r.pages.length ≤ 9223372036854775807) (ho : r.opens.length ≤ 9223372036854775807) (hd : r.dirts.length ≤ 9223372036854775807) (k : Nat) (hk : r.pages.length + r.opens.length + r.dirts.length + 4 < k) :
    gaugerref06_Good.j0 k 2147483647 b r.kind r.deal r.prev r.next (r.pages.map mkI) r.ukind r.utree r.key r.val (r.opens.map mkO) (r.dirts.map mkD) = some (!b && undoGood r.ukind r.utree r.key r.val && (!r.pages.any badPage && !r.opens.any badOpen && !r.dirts.any badDirty)) := by
  obtain ⟨k, rfl⟩ : ∃ m, k = m + 1 := ⟨k - 1, by omega⟩
  simp only [gaugerref06_Good.j0, in_f, Option.bind_some]
  cases b
  · have h := fun b => j1_f b r hp ho hd k (by omega)
    simp only [h, undoGood]
    cases inb r.ukind 4
    · simp
    · cases inb r.utree 255
      · simp
      · by_cases h1 : r.key.size ≤ 255
        · have h1' : ¬ (r.key.size : Int) > 255 := by omega
          by_cases h2 : r.val.size ≤ 255
          · have h2' : ¬ (r.val.size : Int) > 255 := by omega
            simp [h1, h1', h2, h2']
          · have h2' : (r.val.size : Int) > 255 := by omega
            simp [h1, h1', h2, h2']
        · have h1' : (r.key.size : Int) > 255 := by omega
          simp [h1, h1']
  · simp
theorem good_f (r : Rec) (hp : r.pages.length ≤ 9223372036854775807) (ho : r.opens.length ≤ 9223372036854775807) (hd : r.dirts.length ≤ 9223372036854775807) (k : Nat) (hk : r.pages.length + r.opens.length + r.dirts.length + 5 < k) :
    gaugerref06_Good.f k r.kind r.deal r.prev r.next (r.pages.map mkI) r.ukind r.utree r.key r.val (r.opens.map mkO) (r.dirts.map mkD) = some r.good := by
  have h := fun b => j0_f b r hp ho hd k (by omega)
  simp only [gaugerref06_Good.f, in_f, Option.bind_some, h, List.length_map, Rec.good, Rec.fits]
  by_cases k1 : r.kind < 1
  · have : ¬ 1 ≤ r.kind := by omega
    simp [k1, this]
  · have e1 : 1 ≤ r.kind := by omega
    by_cases k2 : r.kind > 6
    · have : ¬ r.kind ≤ 6 := by omega
      simp [k1, k2, this]
    · have e2 : r.kind ≤ 6 := by omega
      cases inb r.deal 2147483647
      · simp [k1, k2, e1, e2]
      · cases inb r.prev 2147483647
        · simp [k1, k2, e1, e2]
        · cases inb r.next 2147483647
          · simp [k1, k2, e1, e2]
          · by_cases f0 : r.pages.length ≤ 8
            · have f0' : ¬ (r.pages.length : Int) > 8 := by omega
              by_cases f1 : r.opens.length ≤ 16
              · have f1' : ¬ (r.opens.length : Int) > 16 := by omega
                by_cases f2 : r.dirts.length ≤ 256
                · have f2' : ¬ (r.dirts.length : Int) > 256 := by omega
                  simp [k1, k2, e1, e2, f0, f0', f1, f1', f2, f2', Bool.and_assoc]
                · have f2' : (r.dirts.length : Int) > 256 := by omega
                  simp [k1, k2, e1, e2, f0, f0', f1, f1', f2, f2']
              · have f1' : (r.opens.length : Int) > 16 := by omega
                simp [k1, k2, e1, e2, f0, f0', f1, f1']
            · have f0' : (r.pages.length : Int) > 8 := by omega
              simp [k1, k2, e1, e2, f0, f0']

end Go.Proofs.Ytcfjooeagfollaa.Note
