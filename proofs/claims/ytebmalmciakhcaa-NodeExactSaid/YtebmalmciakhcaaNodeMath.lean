/- What a page's bytes are: plain. -/
import Derived.Test.YtebmalmciakhcaaNodeBytesG
namespace Go.Proofs.Ytebmalmciakhcaa.Node
open Go.RowKit Go.Proofs.Ytebmalmciakhcaa.Mem Go.Proofs.Ytebmalmciakhcaa.Bytes Go.Proofs.Ytebmalmciakhcaa.Ord
set_option linter.unusedSimpArgs false
set_option linter.unusedVariables false

/-- The number of the bytes from i on. -/
def num (t : List UInt8) (i k : Nat) : Nat := lev ((t.drop i).take k)
def entLen (l : List UInt8) : Nat := 11 + num l 10 1
def entFits (l : List UInt8) : Bool := decide (11 ≤ l.length) && decide (entLen l ≤ l.length)
def entOf (l : List UInt8) : Ent := ⟨bs (l.take 9), bs ((l.drop 11).take (num l 10 1)), num l 9 1 == 1⟩
def entsN : Nat → List UInt8 → Option (List Ent)
  | 0, _ => some []
  | n + 1, l => if entFits l = true then (entsN n (l.drop (entLen l))).map (entOf l :: ·) else none
theorem entsN_none {n : Nat} {l : List UInt8} (h : entFits l = false) : entsN (n + 1) l = none := by rw [entsN, if_neg (by rw [h]; simp)]
theorem entsN_some {n : Nat} {l : List UInt8} (h : entFits l = true) : entsN (n + 1) l = (entsN n (l.drop (entLen l))).map (entOf l :: ·) := by rw [entsN, if_pos h]
theorem entsN_len : ∀ {n : Nat} {l : List UInt8} {es : List Ent}, entsN n l = some es → es.length = n ∧ 11 * n ≤ l.length
  | 0, l, es, h => by cases h; exact ⟨rfl, by omega⟩
  | n + 1, l, es, h => by
    cases hf : entFits l with
    | false => rw [entsN_none hf] at h; cases h
    | true =>
      rw [entsN_some hf] at h
      obtain ⟨us, hu, rfl⟩ := Option.map_eq_some_iff.1 h
      obtain ⟨h1, h2⟩ := entsN_len hu
      rw [List.length_drop] at h2
      simp only [entFits, Bool.and_eq_true, decide_eq_true_eq] at hf
      have : 11 ≤ entLen l := by unfold entLen; omega
      exact ⟨by simp [h1], by omega⟩
/-- One round more. -/
theorem entsN_next {m k : Nat} {L D : List UInt8} {vs : List Ent} (hlt : k < m) (hf : entFits D = true) (hI : entsN m L = (entsN (m - k) D).map (vs ++ ·)) :
    entsN m L = (entsN (m - (k + 1)) (D.drop (entLen D))).map ((vs ++ [entOf D]) ++ ·) := by
  rw [hI, show m - k = (m - (k + 1)) + 1 by omega, entsN_some hf, Option.map_map]
  congr 1
  funext x
  simp
theorem entsN_stop {m k : Nat} {L D : List UInt8} {vs : List Ent} (hlt : k < m) (hf : entFits D = false) (hI : entsN m L = (entsN (m - k) D).map (vs ++ ·)) : entsN m L = none := by
  rw [hI, show m - k = (m - (k + 1)) + 1 by omega, entsN_none hf]
  rfl
theorem num_le (n k : Nat) (t x : List UInt8) (h : n < 256 ^ k) : num (x ++ (le n k ++ t)) x.length k = n := by
  unfold num
  rw [List.drop_append_of_le_length (Nat.le_refl _), List.drop_of_length_le (Nat.le_refl _), List.nil_append, List.take_append_of_le_length (by rw [le_length]; exact Nat.le_refl _), List.take_of_length_le (by rw [le_length]; exact Nat.le_refl _), lev_le, Nat.mod_eq_of_lt h]
theorem num_at {n k i : Nat} {t x l : List UInt8} (hl : l = x ++ (le n k ++ t)) (hx : x.length = i) (h : n < 256 ^ k) : num l i k = n := by
  rw [hl, ← hx]
  exact num_le n k t x h
theorem one_lt (b : Bool) : one b < 256 ^ 1 := by cases b <;> decide
theorem one_eq (b : Bool) : (one b == 1) = b := by cases b <;> rfl
theorem ent_app (e : Ent) (t : List UInt8) (hk : e.key.size = 9) (hv : e.val.size ≤ 255) : entFits (entBytes e ++ t) = true ∧ entOf (entBytes e ++ t) = e ∧ (entBytes e ++ t).drop (entLen (entBytes e ++ t)) = t := by
  obtain ⟨key, val, g⟩ := e
  simp only at hk hv
  have lk : key.data.toList.length = 9 := hk
  have lv : val.data.toList.length = val.size := rfl
  have e1 : entBytes ⟨key, val, g⟩ ++ t = key.data.toList ++ (le (one g) 1 ++ (le val.size 1 ++ (val.data.toList ++ t))) := by simp [entBytes, List.append_assoc]
  have e2 : entBytes ⟨key, val, g⟩ ++ t = (key.data.toList ++ le (one g) 1) ++ (le val.size 1 ++ (val.data.toList ++ t)) := by simp [entBytes, List.append_assoc]
  have e3 : entBytes ⟨key, val, g⟩ ++ t = (key.data.toList ++ le (one g) 1 ++ le val.size 1) ++ (val.data.toList ++ t) := by simp [entBytes, List.append_assoc]
  have e4 : entBytes ⟨key, val, g⟩ ++ t = (key.data.toList ++ le (one g) 1 ++ le val.size 1 ++ val.data.toList) ++ t := by simp [entBytes, List.append_assoc]
  have n9 : num (entBytes ⟨key, val, g⟩ ++ t) 9 1 = one g := num_at e1 lk (one_lt g)
  have n10 : num (entBytes ⟨key, val, g⟩ ++ t) 10 1 = val.size := num_at e2 (by rw [List.length_append, lk, le_length]) (by omega)
  have l3 : (key.data.toList ++ le (one g) 1 ++ le val.size 1).length = 11 := by rw [List.length_append, List.length_append, lk, le_length, le_length]
  have l4 : (key.data.toList ++ le (one g) 1 ++ le val.size 1 ++ val.data.toList).length = 11 + val.size := by rw [List.length_append, l3, lv]
  have hlen : (entBytes ⟨key, val, g⟩ ++ t).length = 11 + val.size + t.length := by rw [e4, List.length_append, l4]
  have hel : entLen (entBytes ⟨key, val, g⟩ ++ t) = 11 + val.size := by unfold entLen; rw [n10]
  refine ⟨?_, ?_, ?_⟩
  · unfold entFits
    rw [hel, hlen]
    simp
    omega
  · unfold entOf
    rw [n9, n10, one_eq]
    congr 1
    · rw [e1, List.take_append_of_le_length (by omega), List.take_of_length_le (by omega)]
      rfl
    · rw [e3, List.drop_append_of_le_length (by omega), List.drop_of_length_le (by omega), List.nil_append, List.take_append_of_le_length (by omega), List.take_of_length_le (by omega)]
      rfl
  · rw [hel, e4, List.drop_append_of_le_length (by omega), List.drop_of_length_le (by omega), List.nil_append]
theorem entsN_app : ∀ (es : List Ent) (t : List UInt8), (∀ e ∈ es, e.key.size = 9 ∧ e.val.size ≤ 255) → entsN es.length (es.flatMap entBytes ++ t) = some es
  | [], _, _ => rfl
  | e :: es, t, h => by
    obtain ⟨h1, h2⟩ := h e (by simp)
    obtain ⟨k1, k2, k3⟩ := ent_app e (es.flatMap entBytes ++ t) h1 h2
    rw [List.flatMap_cons, List.append_assoc, List.length_cons, entsN_some k1, k2, k3, entsN_app es t (fun x hx => h x (by simp [hx]))]
    rfl

/-- A page's node. -/
def hd (t : List UInt8) (es : List Ent) : Nd := ⟨(num t 0 1 : Int), (num t 1 1 : Int), (num t 2 4 : Int), num t 6 1 == 1, if num t 6 1 = 1 then bs ((t.drop 7).take 9) else ⟨#[]⟩, (num t 16 2 : Int), es⟩
def parse (t : List UInt8) : Option Nd := (entsN (num t 18 2) (t.drop 20)).map (hd t)
def nRead (s : List UInt8) : Option Nd := match Crc.opened s with
  | none => none
  | some t => if t.length = 252 then (match parse t with
    | none => none
    | some n => if n.fits = true ∧ n.bytes = s then some n else none) else none
theorem size_zero' {s : ByteArray} (h : s.size = 0) : s = ⟨#[]⟩ := size_zero h
theorem parse_body (n : Nd) (h : n.good = true) (t : List UInt8) : parse (n.body ++ t) = some n := by
  obtain ⟨tr, lv, st, hh, hi, ri, es⟩ := n
  obtain ⟨⟨t1, t2⟩, ⟨l1, l2⟩, ⟨s1, s2⟩, ⟨r1, r2⟩, c100, hhg, heg⟩ := good_nums h
  simp only at t1 t2 l1 l2 s1 s2 r1 r2 c100 heg
  obtain ⟨tr, rfl⟩ := Int.eq_ofNat_of_zero_le t1
  obtain ⟨lv, rfl⟩ := Int.eq_ofNat_of_zero_le l1
  obtain ⟨st, rfl⟩ := Int.eq_ofNat_of_zero_le s1
  obtain ⟨ri, rfl⟩ := Int.eq_ofNat_of_zero_le r1
  have h9 : (high9 ⟨tr, lv, st, hh, hi, ri, es⟩).length = 9 := by unfold high9 low9; rw [List.length_take, List.length_append, List.length_replicate]; omega
  obtain ⟨H, hH⟩ : ∃ H, high9 ⟨tr, lv, st, hh, hi, ri, es⟩ = H := ⟨_, rfl⟩
  obtain ⟨T, hT⟩ : ∃ T, T = es.flatMap entBytes ++ t := ⟨_, rfl⟩
  have eb : Nd.body ⟨tr, lv, st, hh, hi, ri, es⟩ ++ t = le tr 1 ++ (le lv 1 ++ (le st 4 ++ (le (one hh) 1 ++ (H ++ (le ri 2 ++ (le es.length 2 ++ T)))))) := by
    simp [Nd.body, headBytes, hH, hT, List.append_assoc]
  rw [hH] at h9
  rw [eb]
  generalize hL : le tr 1 ++ (le lv 1 ++ (le st 4 ++ (le (one hh) 1 ++ (H ++ (le ri 2 ++ (le es.length 2 ++ T)))))) = L
  have n0 : num L 0 1 = tr := num_at (x := []) hL.symm rfl (by omega)
  have n1 : num L 1 1 = lv := num_at (x := le tr 1) (t := le st 4 ++ (le (one hh) 1 ++ (H ++ (le ri 2 ++ (le es.length 2 ++ T))))) (by rw [← hL]) (by rw [le_length]) (by omega)
  have n2 : num L 2 4 = st := num_at (x := le tr 1 ++ le lv 1) (t := le (one hh) 1 ++ (H ++ (le ri 2 ++ (le es.length 2 ++ T)))) (by rw [← hL]; simp [List.append_assoc]) (by simp [le_length]) (by omega)
  have n6 : num L 6 1 = one hh := num_at (x := le tr 1 ++ le lv 1 ++ le st 4) (t := H ++ (le ri 2 ++ (le es.length 2 ++ T))) (by rw [← hL]; simp [List.append_assoc]) (by simp [le_length]) (one_lt hh)
  have n16 : num L 16 2 = ri := num_at (x := le tr 1 ++ le lv 1 ++ le st 4 ++ le (one hh) 1 ++ H) (t := le es.length 2 ++ T) (by rw [← hL]; simp [List.append_assoc]) (by simp [le_length, h9]) (by omega)
  have n18 : num L 18 2 = es.length := num_at (x := le tr 1 ++ le lv 1 ++ le st 4 ++ le (one hh) 1 ++ H ++ le ri 2) (t := T) (by rw [← hL]; simp [List.append_assoc]) (by simp [le_length, h9]) (by omega)
  have d20 : L.drop 20 = T := by
    have : L = (le tr 1 ++ le lv 1 ++ le st 4 ++ le (one hh) 1 ++ H ++ le ri 2 ++ le es.length 2) ++ T := by rw [← hL]; simp [List.append_assoc]
    rw [this, List.drop_append_of_le_length (by simp [le_length, h9]), List.drop_of_length_le (by simp [le_length, h9]), List.nil_append]
  have d7 : (L.drop 7).take 9 = H := by
    have : L = (le tr 1 ++ le lv 1 ++ le st 4 ++ le (one hh) 1) ++ (H ++ (le ri 2 ++ (le es.length 2 ++ T))) := by rw [← hL]; simp [List.append_assoc]
    rw [this, List.drop_append_of_le_length (by simp [le_length]), List.drop_of_length_le (by simp [le_length]), List.nil_append, List.take_append_of_le_length (by omega), List.take_of_length_le (by omega)]
  unfold parse
  rw [n18, d20, hT, entsN_app es t (fun e he => by have := ent_nums (heg e he); omega)]
  show some (hd L es) = _
  unfold hd
  rw [n0, n1, n2, n6, n16, d7, one_eq]
  congr 2
  unfold highGood at hhg
  simp only at hhg
  cases hh with
  | false =>
    rw [if_neg (by decide)]
    simp at hhg
    exact hhg.symm
  | true =>
    rw [if_pos (by rfl)]
    simp at hhg
    have lh : hi.data.toList.length = 9 := hhg
    rw [← hH]
    unfold high9
    simp only
    rw [List.take_append_of_le_length (by omega), List.take_of_length_le (by omega)]
    rfl
theorem fits_good {n : Nd} (h : n.fits = true) : n.good = true ∧ n.size ≤ 252 := by
  unfold Nd.fits at h
  rw [Bool.and_eq_true, decide_eq_true_eq] at h
  exact h
theorem page_length {n : Nd} (h : n.fits = true) : n.page.length = 252 := by
  obtain ⟨h1, h2⟩ := fits_good h
  have := body_length h1
  unfold Nd.page
  rw [List.length_append, List.length_replicate]
  omega
theorem bytes_length {n : Nd} (h : n.fits = true) : n.bytes.length = 256 := by
  unfold Nd.bytes
  rw [sealed_length, page_length h]
theorem nRead_iff (s : List UInt8) (n : Nd) : nRead s = some n ↔ n.fits = true ∧ n.bytes = s := by
  constructor
  · intro h
    unfold nRead at h
    split at h
    · cases h
    · split at h
      · split at h
        · cases h
        · split at h
          · rename_i hc
            cases h
            exact hc
          · cases h
      · cases h
  · rintro ⟨hf, rfl⟩
    have hp : parse n.page = some n := parse_body n (fits_good hf).1 _
    unfold nRead
    rw [show Crc.opened n.bytes = some n.page from opened_sealed _]
    simp only
    rw [if_pos (page_length hf), hp]
    simp only
    rw [if_pos (by simp [hf])]
end Go.Proofs.Ytebmalmciakhcaa.Node
