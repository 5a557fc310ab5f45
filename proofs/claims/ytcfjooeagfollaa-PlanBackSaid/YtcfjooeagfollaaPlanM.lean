/- Rows and entries: plain laws. -/
import Derived.Test.YtcfjooeagfollaaPlanB
import Derived.Test.YtcfjooeagfollaaSignMath
import Derived.Test.YtcfjooeagfollaaNodeBytes
namespace Go.Proofs.Ytcfjooeagfollaa.Plan
open Go.RowKit Go.Proofs.Ytcfjooeagfollaa.Mem Go.Proofs.Ytcfjooeagfollaa.Bytes Go.Proofs.Ytcfjooeagfollaa.Num Go.Proofs.Ytcfjooeagfollaa.Sign Go.Proofs.Ytcfjooeagfollaa.Ord
set_option linter.unusedSimpArgs false
set_option linter.unusedVariables false
set_option maxRecDepth 20000

theorem bs_cat (l m : List UInt8) : (bs l ++ bs m).data.toList = l ++ m := by rw [bs_append, bs_data]
theorem rowKey_size {l : List V} (hg : ∀ v ∈ l, v.good = true) (h1 : 1 ≤ l.length) : (bs (rowKey l)).size = 9 := by
  have := codes_length hg
  rw [bs_size, rowKey, List.length_take]
  omega
/-- An entry of a row is read as the row. -/
theorem read_ent {p : Pl} {n : Int} {l : List V} (hf : ∀ v ∈ l, v.fits) (h : p.ent n l = some l) : p.read n (bs (rowKey l)) (bs (rowVal l)) = some l := by
  unfold Pl.ent at h
  split at h
  · rename_i c
    obtain ⟨c1, c2, c3⟩ := c
    have hg : ∀ v ∈ l, v.good = true := by
      unfold Pl.fit at c1
      simp only [Bool.and_eq_true] at c1
      exact fitL_good _ _ c1.2
    unfold Pl.read
    rw [bs_cat, rowKey, rowVal, List.take_append_drop, readRow_codes (fun v hv => ⟨hg v hv, hf v hv⟩) c2]
    have hk := rowKey_size hg c3
    rw [rowKey] at hk
    exact if_pos ⟨hk, c1⟩
  · cases h
/-- What is read is of its entry. -/
theorem ent_read {p : Pl} {n : Int} {k v : ByteArray} {l : List V} (h : p.read n k v = some l) : p.ent n l = some l ∧ bs (rowKey l) = k ∧ bs (rowVal l) = v ∧ (∀ v ∈ l, v.fits) := by
  unfold Pl.read at h
  split at h
  · cases h
  · rename_i r hr
    split at h
    · rename_i c
      cases h
      obtain ⟨a, b, c', d⟩ := readRow_is hr
      have hkv : (k ++ v).data.toList = k.data.toList ++ v.data.toList := by simp
      rw [hkv] at d b
      have hk9 : k.data.toList.length = 9 := c.1
      rw [List.length_append] at b
      refine ⟨if_pos ⟨c.2, a, by omega⟩, ?_, ?_, fun v hv => (c' v hv).2⟩
      · rw [rowKey, d, List.take_append_of_le_length (by omega), List.take_of_length_le (by omega), bs_of]
      · rw [rowVal, d, List.drop_append_of_le_length (by omega), List.drop_of_length_le (by omega), List.nil_append, bs_of]
    · cases h
theorem codes_inj {l m : List V} (hl : ∀ v ∈ l, v.good = true ∧ v.fits) (hm : ∀ v ∈ m, v.good = true ∧ v.fits) (h4 : l.length ≤ 4) (g4 : m.length ≤ 4) (h : codes l = codes m) : l = m := by
  have h1 := readRow_codes hl h4
  rw [h, readRow_codes hm g4] at h1
  exact (Option.some.inj h1).symm
theorem entry_inj {l m : List V} (hl : ∀ v ∈ l, v.good = true ∧ v.fits) (hm : ∀ v ∈ m, v.good = true ∧ v.fits) (h4 : l.length ≤ 4) (g4 : m.length ≤ 4) (h : rowKey l = rowKey m) (g : rowVal l = rowVal m) : l = m := by
  refine codes_inj hl hm h4 g4 ?_
  rw [← List.take_append_drop 9 (codes l), ← List.take_append_drop 9 (codes m)]
  unfold rowKey at h
  unfold rowVal at g
  rw [h, g]
theorem rowKey_cons {v : V} {l : List V} (h : v.good = true) : rowKey (v :: l) = v.code := by
  have h9 := codes_length (l := [v]) (by intro u hu; rw [List.mem_singleton.1 hu]; exact h)
  have e : codes (v :: l) = v.code ++ codes l := by simp [codes]
  have e1 : codes [v] = v.code := by simp [codes]
  rw [e1] at h9
  rw [rowKey, e, List.take_append_of_le_length (by rw [h9]; simp), List.take_of_length_le (by rw [h9]; simp)]
theorem key_order {v u : V} {l m : List V} (hv : v.good = true) (hu : u.good = true) (fv : v.fits) (fu : u.fits) : cmpB (rowKey (v :: l)) (rowKey (u :: m)) = cmpG v u := by
  rw [rowKey_cons hv, rowKey_cons hu, code_order hv hu fv fu]
def ff9 : List UInt8 := List.replicate 9 255
theorem code_low {v : V} (h : v.good = true) : cmpB v.code ff9 = -1 := by
  unfold V.code ff9
  split
  · rw [List.replicate_succ, cmpB_cons, if_pos (by decide)]
  · rw [List.replicate_succ, cmpB_cons, if_pos (by decide)]
/-- The node of one entry. -/
def oneNd (e : Node.Ent) : Node.Nd := ⟨0, 0, 0, true, bs ff9, 0, [e]⟩
theorem one_fits {l : List V} (hg : ∀ v ∈ l, v.good = true) (h1 : 1 ≤ l.length) (h4 : l.length ≤ 4) : (oneNd ⟨bs (rowKey l), bs (rowVal l), false⟩).fits = true := by
  have hk := rowKey_size hg h1
  have hc := codes_length hg
  have hv : (bs (rowVal l)).size ≤ 27 := by rw [bs_size, rowVal, List.length_drop]; omega
  obtain ⟨v, r, rfl⟩ := List.exists_cons_of_length_pos (show 0 < l.length by omega)
  have hlow : cmpB (bs (rowKey (v :: r))).data.toList (bs ff9).data.toList = -1 := by
    rw [bs_data, bs_data, rowKey_cons (hg v List.mem_cons_self)]
    exact code_low (hg v List.mem_cons_self)
  unfold Node.Nd.fits
  have hs : (oneNd ⟨bs (rowKey (v :: r)), bs (rowVal (v :: r)), false⟩).size ≤ 252 := by
    show 20 + (11 + (bs (rowVal (v :: r))).size + 0) ≤ 252
    omega
  have hgood : (oneNd ⟨bs (rowKey (v :: r)), bs (rowVal (v :: r)), false⟩).good = true := by
    refine (Node.good_iff _).2 ⟨rfl, rfl, fun i hi => ?_⟩
    obtain rfl : i = 0 := by
      have : i < 1 := hi
      omega
    have hd : decide ((bs (rowVal (v :: r))).size ≤ 100) = true := by simp; omega
    have hk2 : ((bs (rowKey (v :: r))).size == 9) = true := by simp [hk]
    have hl2 : decide (cmpB (bs (rowKey (v :: r))).data.toList (bs ff9).data.toList = -1) = true := by rw [hlow]; rfl
    show ((!(decide ((0 : Int) < 0) && (((bs (rowVal (v :: r))).size != 2) || false)) && (((bs (rowKey (v :: r))).size == 9) && decide ((bs (rowVal (v :: r))).size ≤ 100))) && ((decide (0 = 0) || _) && (!true || decide (cmpB (bs (rowKey (v :: r))).data.toList (bs ff9).data.toList = -1)))) = true
    rw [hd, hk2, hl2]
    rfl
  rw [hgood]
  simp [hs]
/-- A row of a good plan. -/
theorem good_len {p : Pl} {n : Int} {l : List V} (h : p.good = true) (hf : p.fit n l = true) : 1 ≤ l.length ∧ l.length ≤ 4 := by
  unfold Pl.fit at hf
  simp only [Bool.and_eq_true, Bool.not_eq_true', Bool.or_eq_false_iff, decide_eq_false_iff_not] at hf
  obtain ⟨⟨h0, h1⟩, hl⟩ := hf
  have hn : n.toNat < p.tables.length := by omega
  have e := fitL_len _ _ hl
  have hc : colsOf p.tables n = p.tables[n.toNat].cols := by unfold colsOf; rw [List.getD_eq_getElem?_getD, List.getElem?_eq_getElem hn]; rfl
  rw [hc] at e
  unfold Pl.good at h
  simp only [Bool.and_eq_true, Bool.not_eq_true'] at h
  have hb := List.any_eq_false.1 h.2.1 _ (List.getElem_mem hn)
  have ho : okCols p.tables[n.toNat].cols = true := by simpa [badTb] using hb
  unfold okCols at ho
  simp only [Bool.and_eq_true, decide_eq_true_eq] at ho
  omega
theorem ent_or {p : Pl} {n : Int} {l : List V} (h : p.good = true) : 1 ≤ l.length ∨ p.fit n l = false := by
  by_cases c : p.fit n l = true
  · exact .inl (good_len h c).1
  · exact .inr (by simpa using c)
/-- Of an entry: the row fits, is good, is short. -/
theorem ent_is {p : Pl} {n : Int} {l m : List V} (h : p.ent n l = some m) : m = l ∧ p.fit n l = true ∧ l.length ≤ 4 ∧ 1 ≤ l.length ∧ ∀ v ∈ l, v.good = true := by
  unfold Pl.ent at h
  split at h
  · rename_i c
    refine ⟨(Option.some.inj h).symm, c.1, c.2.1, c.2.2, ?_⟩
    have c1 := c.1
    unfold Pl.fit at c1
    simp only [Bool.and_eq_true] at c1
    exact fitL_good _ _ c1.2
  · cases h
end Go.Proofs.Ytcfjooeagfollaa.Plan
