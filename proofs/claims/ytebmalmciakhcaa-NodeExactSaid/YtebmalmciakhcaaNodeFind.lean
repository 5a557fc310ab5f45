/- node.Find, gaugerref08.Find. -/
import Derived.Test.YtebmalmciakhcaaNodeEq
import Derived.Lib.Bytealg
namespace Go.Proofs.Ytebmalmciakhcaa.Node
open Go.RowKit Go.Proofs.Ytebmalmciakhcaa.Mem Go.Proofs.Ytebmalmciakhcaa.Bytes Go.Proofs.Ytebmalmciakhcaa.Ord
set_option linter.unusedSimpArgs false
set_option linter.unusedVariables false

theorem compare_eq : ∀ a b, Lib.compareBytes a b = cmpB a b
  | [], [] => by simp [Lib.compareBytes, cmpB]
  | [], _ :: _ => by simp [Lib.compareBytes, cmpB]
  | _ :: _, [] => by simp [Lib.compareBytes, cmpB]
  | a :: r, b :: s => by rw [cmpB_cons, Lib.compareBytes, compare_eq r s]
theorem cmpB_trans : ∀ a b c, cmpB a b = -1 → cmpB b c = -1 → cmpB a c = -1
  | [], [], _, h, _ => by simp [cmpB] at h
  | [], _ :: _, [], _, h => by simp [cmpB] at h
  | [], _ :: _, _ :: _, _, _ => by simp [cmpB]
  | _ :: _, [], _, h, _ => by simp [cmpB] at h
  | _ :: _, _ :: _, [], _, h => by simp [cmpB] at h
  | a :: r, b :: s, c :: t, h1, h2 => by
    rw [cmpB_cons] at h1 h2 ⊢
    have ih := cmpB_trans r s t
    simp only [UInt8.lt_iff_toNat_lt] at h1 h2 ⊢
    by_cases p1 : a.toNat < b.toNat
    · by_cases p2 : b.toNat < c.toNat
      · rw [if_pos (by omega)]
      · rw [if_neg p2] at h2
        by_cases p3 : c.toNat < b.toNat
        · rw [if_pos p3] at h2; omega
        · rw [if_pos (by omega)]
    · rw [if_neg p1] at h1
      by_cases p3 : b.toNat < a.toNat
      · rw [if_pos p3] at h1; omega
      · rw [if_neg p3] at h1
        by_cases p2 : b.toNat < c.toNat
        · rw [if_pos (by omega)]
        · rw [if_neg p2] at h2
          by_cases p4 : c.toNat < b.toNat
          · rw [if_pos p4] at h2; omega
          · rw [if_neg p4] at h2
            rw [if_neg (by omega), if_neg (by omega)]
            exact ih h1 h2

/-- How entry i's key stands to a key. -/
def cm (es : List Ent) (key : ByteArray) (i : Nat) : Int := cmpB (es.getD i noE).key.data.toList key.data.toList
def Rises (es : List Ent) : Prop := ∀ i, i + 1 < es.length → cmpB (es.getD i noE).key.data.toList (es.getD (i + 1) noE).key.data.toList = -1
theorem rises_lt {es : List Ent} (h : Rises es) : ∀ d i, i + (d + 1) < es.length → cmpB (es.getD i noE).key.data.toList (es.getD (i + (d + 1)) noE).key.data.toList = -1
  | 0, i, hi => h i hi
  | d + 1, i, hi => cmpB_trans _ _ _ (rises_lt h d i (by omega)) (h (i + (d + 1)) (by omega))
theorem rises_at {es : List Ent} (h : Rises es) {i j : Nat} (hij : i < j) (hj : j < es.length) : cmpB (es.getD i noE).key.data.toList (es.getD j noE).key.data.toList = -1 := by
  have := rises_lt h (j - i - 1) i (by omega)
  rwa [show i + (j - i - 1 + 1) = j by omega] at this
theorem cm_below {es : List Ent} (h : Rises es) {key : ByteArray} {i j : Nat} (hij : i ≤ j) (hj : j < es.length) (hc : cm es key j = -1) : cm es key i = -1 := by
  rcases Nat.lt_or_ge i j with h' | h'
  · exact cmpB_trans _ _ _ (rises_at h h' hj) hc
  · obtain rfl : i = j := by omega
    exact hc
theorem cm_above {es : List Ent} (h : Rises es) {key : ByteArray} {i j : Nat} (hij : i < j) (hj : j < es.length) (hc : ¬ cm es key i = -1) : cm es key j = 1 := by
  rcases cmpB_three (es.getD j noE).key.data.toList key.data.toList with h1 | h1 | h1
  · exact absurd (cm_below h (Nat.le_of_lt hij) hj h1) hc
  · have := cmpB_zero h1
    exact absurd (by unfold cm; rw [← this]; exact rises_at h hij hj) hc
  · exact h1
/-- The last of the first k entries whose key isn't above one. -/
def lastTo (es : List Ent) (key : ByteArray) : Nat → Int
  | 0 => -1
  | k + 1 => if cm es key k ≤ 0 then (k : Int) else lastTo es key k
theorem lastTo_above {es : List Ent} {key : ByteArray} {m : Nat} : ∀ {n : Nat}, m ≤ n → (∀ p, m ≤ p → p < n → ¬ cm es key p ≤ 0) → lastTo es key n = lastTo es key m
  | 0, hm, _ => by rw [show m = 0 by omega]
  | n + 1, hm, h => by
    rcases Nat.lt_or_ge m (n + 1) with h' | h'
    · rw [lastTo, if_neg (h n (by omega) (by omega)), lastTo_above (n := n) (by omega) (fun p h1 h2 => h p h1 (by omega))]
    · rw [show m = n + 1 by omega]
/-- What the search finds is the last. -/
theorem lastTo_is {es : List Ent} (h : Rises es) {key : ByteArray} {i : Nat} (hi : i ≤ es.length) (hlo : ∀ p, p < i → cm es key p = -1) (hhi : ∀ p, i ≤ p → p < es.length → ¬ cm es key p = -1) :
    lastTo es key es.length = if i < es.length ∧ cm es key i = 0 then (i : Int) else (i : Int) - 1 := by
  have hlast : ∀ i, (∀ p, p < i → cm es key p = -1) → lastTo es key i = (i : Int) - 1 := fun i hlo => by
    cases i with
    | zero => rfl
    | succ i => rw [lastTo, if_pos (by rw [hlo i (by omega)]; omega)]; omega
  by_cases hc : i < es.length ∧ cm es key i = 0
  · rw [if_pos hc, lastTo_above (m := i + 1) (by omega) (fun p h1 h2 => by rw [cm_above h (show i < p by omega) h2 (hhi i (Nat.le_refl _) hc.1)]; omega), lastTo, if_pos (by rw [hc.2]; omega)]
  · rw [if_neg hc, lastTo_above hi (fun p h1 h2 => ?_), hlast i hlo]
    rcases cmpB_three (es.getD p noE).key.data.toList key.data.toList with q | q | q
    · exact absurd q (hhi p h1 h2)
    · rcases Nat.lt_or_ge i p with h' | h'
      · have := cm_above h h' h2 (hhi i (Nat.le_refl _) (by omega))
        unfold cm at this
        omega
      · obtain rfl : p = i := by omega
        exact absurd ⟨h2, q⟩ hc
    · show ¬ cmpB _ _ ≤ 0
      omega

set_option maxHeartbeats 1000000 in
theorem find1_calls (e : Ent) (key : ByteArray) (w : World) : Calls Try.prog 45 #[.agg #[.string e.key, .string e.val, .bool e.ghost], .string key] w fun x w' => x = .returned (.int .i64 (cmpB e.key.data.toList key.data.toList)) ∧ Below w.heap.size w w' := by
  obtain ⟨k, v, g⟩ := e
  have hX : Row (w.alloc (.cells #[.string k, .string v, .bool g] 44)) w.heap.size 44 [.string k, .string v, .bool g] := new_at rfl
  have hb : Below w.heap.size w (w.alloc (.cells #[.string k, .string v, .bool g] 44)) := (Below.refl _ _).alloc (Nat.le_refl _) _
  have x0 := hX.cell (i := 0) rfl
  have hc := fun w => Try.strings_Compare k key w
  rw [compare_eq] at hc
  have C := Lib.hid hc
  clear hc hX
  go_enter Try.func45, Try.ntmps45
  go_wp2_with fail
  refine (C.out _).mono ?_
  rintro e w1 ⟨rfl, rfl⟩
  go_wp2_with fail
  go_ret
  exact ⟨rfl, hb⟩

def bsPost (es : List Ent) (key : ByteArray) (e : Ending) : Prop := ∃ i : Nat, i ≤ es.length ∧ (∀ p, p < i → cm es key p = -1) ∧ (∀ p, i ≤ p → p < es.length → ¬ cm es key p = -1) ∧ e = .returned (.tuple #[.int .i64 i, .bool (decide (i < es.length ∧ cm es key i = 0))])
set_option maxHeartbeats 2000000 in
theorem search_calls (es : List Ent) (a : Option Addr) (cap : Nat) (key : ByteArray) (w : World) (hE : Es w a es) (hl : es.length ≤ 1000000) (hr : Rises es) :
    Calls Try.prog 44 #[.slice a es.length cap, .string key, .func (.func 45) #[] #[]] w fun e w' => bsPost es key e ∧ Below w.heap.size w w' := by
  go_enter Try.func44, Try.ntmps44
  go_wp2_with fail
  go_loopw [9, 10] (fun iv jv wr => ∃ i j : Nat, i ≤ j ∧ j ≤ es.length ∧ iv = .int .i64 i ∧ jv = .int .i64 j ∧ (∀ p, p < i → cm es key p = -1) ∧ (∀ p, j ≤ p → p < es.length → ¬ cm es key p = -1) ∧ Below w.heap.size w wr) (fun iv jv _ => (intOf jv).toNat - (intOf iv).toNat)
  case atStart => exact ⟨0, es.length, by omega, by omega, rfl, rfl, fun p h => by omega, fun p h1 h2 => by omega, Below.refl _ _⟩
  case round =>
    obtain ⟨i, j, hij, hj, rfl, rfl, hlo, hhi, hb⟩ := hrel
    have HLO := Lib.hid hlo
    have HHI := Lib.hid hhi
    have HB := Lib.hid hb
    clear hlo hhi hb
    by_cases hlt : i < j
    · obtain ⟨h, hh⟩ : ∃ h, h = (i + j) / 2 := ⟨_, rfl⟩
      have hu : IntKind.u64.wrap ((i : Int) + (j : Int)) = (i : Int) + (j : Int) := by simp [IntKind.wrap, IntKind.bits, IntKind.signed]; omega
      have hw : wrap64 ((i : Int) + (j : Int)) = (i : Int) + (j : Int) := by unfold wrap64; omega
      have hw2 : wrap64 (((i : Int) + (j : Int)) / 2) = (h : Int) := by unfold wrap64; omega
      have hd2 : ((i : Int) + (j : Int)) / 2 = (h : Int) := by omega
      have hhl : h < es.length := by omega
      obtain ⟨ad, rfl, _, hx⟩ := hE h hhl
      obtain ⟨z0, z1, z2⟩ := hx _ HB.out
      have hhl' : (h : Int) < (es.length : Int) := by omega
      have heq : es.getD h noE = es[h] := by rw [List.getD_eq_getElem?_getD, List.getElem?_eq_getElem hhl]; rfl
      have hcm : cm es key h = cmpB (es[h]).key.data.toList key.data.toList := by unfold cm; rw [heq]
      generalize es[h] = e at *
      have F1 := Lib.hid (fun w => find1_calls e key w)
      rw [← hcm] at F1
      have CM := Lib.hid (show cm es key h = -1 ∨ cm es key h = 0 ∨ cm es key h = 1 from by rw [hcm]; exact cmpB_three _ _)
      obtain ⟨ek, ev, eg⟩ := e
      simp only at z0 z1 z2
      have hrl := fun hc => fun p (hp : p ≤ h) => cm_below hr (key := key) hp hhl hc
      have hru := fun (hc : ¬ cm es key h = -1) => fun p (hp : h ≤ p) (h2 : p < es.length) (hq : cm es key p = -1) => hc (cm_below hr hp h2 hq)
      have HRL := Lib.hid hrl
      have HRU := Lib.hid hru
      have HH := Lib.hid hh
      have h1i : i ≤ h := by omega
      have h2j : h < j := by omega
      clear hx heq hcm hrl hru hh
      go_wp2_with fail
      refine (F1.out _).mono ?_
      rintro e w1 ⟨rfl, h1⟩
      replace HB := Lib.hid (HB.out.trans (h1.mono HB.out.size))
      clear h1 z0 z1 z2
      by_cases hc : cm es key h = -1
      · have hc' : cm es key h < 0 := by omega
        have HL2 := Lib.hid (HRL.out hc)
        clear hc
        go_wp2_with fail
        exact ⟨⟨h + 1, j, by omega, hj, by go_num, rfl, fun p hp => HL2.out p (by omega), HHI.out, HB.out⟩, by simp [intOf]; omega⟩
      · have hc' : ¬ cm es key h < 0 := by rcases CM.out with q | q | q <;> omega
        have HU2 := Lib.hid (HRU.out hc)
        clear hc
        go_wp2_with fail
        exact ⟨⟨i, h, by omega, by omega, rfl, rfl, HLO.out, HU2.out, HB.out⟩, by simp [intOf]; omega⟩
    · obtain rfl : i = j := by omega
      by_cases hin : i < es.length
      · obtain ⟨ad, rfl, _, hx⟩ := hE i hin
        obtain ⟨z0, z1, z2⟩ := hx _ HB.out
        have hin' : (i : Int) < (es.length : Int) := by omega
        have heq : es.getD i noE = es[i] := by rw [List.getD_eq_getElem?_getD, List.getElem?_eq_getElem hin]; rfl
        have hcm : cm es key i = cmpB (es[i]).key.data.toList key.data.toList := by unfold cm; rw [heq]
        generalize es[i] = e at *
        have F1 := Lib.hid (fun w => find1_calls e key w)
        rw [← hcm] at F1
        obtain ⟨ek, ev, eg⟩ := e
        simp only at z0 z1 z2
        clear hx heq hcm
        go_wp2_with fail
        refine (F1.out _).mono ?_
        rintro e w1 ⟨rfl, h1⟩
        replace HB := Lib.hid (HB.out.trans (h1.mono HB.out.size))
        clear h1
        go_wp2_with fail
        go_ret2
        exact ⟨⟨i, by omega, HLO.out, HHI.out, by simp [hin]; rfl⟩, HB.out⟩
      · have hin' : ¬ (i : Int) < (es.length : Int) := by omega
        go_wp2_with fail
        go_ret2
        exact ⟨⟨i, by omega, HLO.out, HHI.out, by simp [hin]⟩, HB.out⟩

set_option maxHeartbeats 2000000 in
theorem find_calls (n : Nd) (a : Option Addr) (cap : Nat) (key : ByteArray) (w : World) (hE : Es w a n.list) (hl : n.list.length ≤ 1000000) (hr : Rises n.list) :
    Calls Try.prog 24 #[.agg (n.cells (.slice a n.list.length cap)).toArray, .string key] w fun e w' => e = .returned (.int .i64 (lastTo n.list key n.list.length)) ∧ Below w.heap.size w w' := by
  obtain ⟨t, l, s, h, hi, r, es⟩ := n
  simp only at hE hl hr
  have hX : Row (w.alloc (.cells #[.int .i64 t, .int .i64 l, .int .i64 s, .bool h, .string hi, .int .i64 r, .slice a es.length cap] 24)) w.heap.size 24 [.int .i64 t, .int .i64 l, .int .i64 s, .bool h, .string hi, .int .i64 r, .slice a es.length cap] := new_at rfl
  have hb : Below w.heap.size w (w.alloc (.cells #[.int .i64 t, .int .i64 l, .int .i64 s, .bool h, .string hi, .int .i64 r, .slice a es.length cap] 24)) := (Below.refl _ _).alloc (Nat.le_refl _) _
  have x6 := hX.cell (i := 6) rfl
  have S := Lib.hid (search_calls es a cap key _ (hE.keep hb) hl hr)
  have B := Lib.hid hb
  show Calls Try.prog 24 #[.agg #[.int .i64 t, .int .i64 l, .int .i64 s, .bool h, .string hi, .int .i64 r, .slice a es.length cap], .string key] w _
  clear hX hb
  go_enter Try.func24, Try.ntmps24
  go_wp2_with fail
  refine S.out.mono ?_
  rintro e w1 ⟨⟨i, hi1, hlo, hhi, rfl⟩, h1⟩
  have hlt := lastTo_is hr hi1 hlo hhi
  have B1 := Lib.hid (B.out.trans (h1.mono B.out.size))
  show _
  by_cases hc : i < es.length ∧ cm es key i = 0
  · rw [if_pos hc] at hlt
    rw [decide_eq_true hc]
    have LT := Lib.hid hlt
    clear hlt hc hlo hhi
    go_wp2_with fail
    go_ret
    exact ⟨by rw [LT.out]; rfl, B1.out⟩
  · rw [if_neg hc] at hlt
    rw [decide_eq_false hc]
    have LT := Lib.hid hlt
    clear hlt hc hlo hhi
    go_wp2_with fail
    go_ret
    exact ⟨by rw [LT.out]; first | rfl | simp, B1.out⟩

set_option maxHeartbeats 2000000 in
theorem reffind_calls (n : Nd) (a : Option Addr) (cap : Nat) (key : ByteArray) (w : World) (hE : Es w a n.list) (hl : n.list.length ≤ 1000000) (hk : ∀ i (h : i < n.list.length), n.list[i].key.size ≤ 1000) (hks : key.size ≤ 1000) :
    Calls Try.prog 25 #[.agg (n.cells (.slice a n.list.length cap)).toArray, .string key] w fun e w' => e = .returned (.int .i64 (lastTo n.list key n.list.length)) ∧ Below w.heap.size w w' := by
  obtain ⟨t, l, s, h, hi, r, es⟩ := n
  simp only at hE hl hk
  have hX : Row (w.alloc (.cells #[.int .i64 t, .int .i64 l, .int .i64 s, .bool h, .string hi, .int .i64 r, .slice a es.length cap] 24)) w.heap.size 24 [.int .i64 t, .int .i64 l, .int .i64 s, .bool h, .string hi, .int .i64 r, .slice a es.length cap] := new_at rfl
  have hb : Below w.heap.size w (w.alloc (.cells #[.int .i64 t, .int .i64 l, .int .i64 s, .bool h, .string hi, .int .i64 r, .slice a es.length cap] 24)) := (Below.refl _ _).alloc (Nat.le_refl _) _
  have x6 := hX.cell (i := 6) rfl
  show Calls Try.prog 25 #[.agg #[.int .i64 t, .int .i64 l, .int .i64 s, .bool h, .string hi, .int .i64 r, .slice a es.length cap], .string key] w _
  clear hX
  go_enter Try.func25, Try.ntmps25
  go_wp2_with fail
  go_loopw [5, 6] (fun av iv wr => ∃ k : Nat, k ≤ es.length ∧ iv = .int .i64 k ∧ av = .int .i64 (lastTo es key k) ∧ wr.cell? ⟨w.heap.size, 6, none⟩ = some (.slice a es.length cap) ∧ Below w.heap.size w wr) (fun _ iv _ => es.length - (intOf iv).toNat)
  case atStart => exact ⟨0, by omega, rfl, rfl, x6, hb⟩
  case round =>
    clear x6 hb
    obtain ⟨k, hkl, rfl, rfl, x6, hb⟩ := hrel
    have HB := Lib.hid hb
    clear hb
    by_cases hlt : k < es.length
    · obtain ⟨ad, rfl, _, hx⟩ := hE k hlt
      obtain ⟨z0, z1, z2⟩ := hx _ HB.out
      have hlt' : (k : Int) < (es.length : Int) := by omega
      have heq : es.getD k noE = es[k] := by rw [List.getD_eq_getElem?_getD, List.getElem?_eq_getElem hlt]; rfl
      have hcm : cm es key k = cmpB (es[k]).key.data.toList key.data.toList := by unfold cm; rw [heq]
      have hsz := hk k hlt
      generalize es[k] = e at *
      have T := Lib.hid (fun w => texts_calls e.key key w hsz hks)
      rw [← hcm] at T
      have hx6 : ∀ w', Below wr.heap.size wr w' → w'.cell? ⟨w.heap.size, 6, none⟩ = some (.slice (some ad) es.length cap) := fun w' h => (h.cell (World.block_lt_of_cell? wr _ x6)).trans x6
      have HX6 := Lib.hid hx6
      obtain ⟨ek, ev, eg⟩ := e
      simp only at z0 z1 z2
      have hnx : lastTo es key (k + 1) = if cm es key k ≤ 0 then (k : Int) else lastTo es key k := rfl
      have HN := Lib.hid hnx
      clear hx heq hcm hx6 hnx
      go_wp2_with fail
      refine (T.out _).mono ?_
      rintro e w1 ⟨rfl, h1⟩
      have y6 := HX6.out _ h1
      replace HB := Lib.hid (HB.out.trans (h1.mono HB.out.size))
      clear h1 z0 z1 z2 x6 HX6
      by_cases hc : cm es key k ≤ 0
      · have hn := HN.out
        rw [if_pos hc] at hn
        have HN2 := Lib.hid hn
        clear hn
        go_wp2_with fail
        exact ⟨⟨k + 1, by omega, by go_num, by rw [HN2.out], y6, HB.out⟩, by simp [intOf]; omega⟩
      · have hn := HN.out
        rw [if_neg hc] at hn
        have HN2 := Lib.hid hn
        clear hn
        go_wp2_with fail
        exact ⟨⟨k + 1, by omega, by go_num, by rw [HN2.out], y6, HB.out⟩, by simp [intOf]; omega⟩
    · obtain rfl : k = es.length := by omega
      go_wp2_with fail
      go_ret
      exact ⟨rfl, HB.out⟩
end Go.Proofs.Ytebmalmciakhcaa.Node
