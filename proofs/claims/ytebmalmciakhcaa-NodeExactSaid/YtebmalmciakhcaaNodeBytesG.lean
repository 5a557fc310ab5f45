/- node.Bytes. Printed by node_bytes.py -/
import Derived.Test.YtebmalmciakhcaaNodeBytes
namespace Go.Proofs.Ytebmalmciakhcaa.Node
open Go.RowKit Go.Proofs.Ytebmalmciakhcaa.Mem Go.Proofs.Ytebmalmciakhcaa.Bytes Go.Proofs.Ytebmalmciakhcaa.Ord
set_option linter.unusedSimpArgs false
set_option linter.unusedVariables false

set_option maxHeartbeats 4000000 in
set_option maxRecDepth 8000 in
theorem bytes_good (n : Nd) (hg : n.good = true) (hfit : n.fits = true) (a : Option Addr) (cap : Nat) (w : World) (hE : Es w a n.list) :
    Calls Try.prog 12 #[.agg (n.cells (.slice a n.list.length cap)).toArray] w fun e w' => e = .returned (.tuple #[.string (bs n.bytes), .int .i64 0]) ∧ Below w.heap.size w w' := by
  have hnums := good_nums hg
  have hfs : n.size ≤ 252 := by simp [Nd.fits] at hfit; exact hfit.2
  have hbl := body_length hg
  have hX := Row.new w 24 (n.cells (.slice a n.list.length cap))
  have hb : Below w.heap.size w (w.alloc (.cells (n.cells (.slice a n.list.length cap)).toArray 24)) := (Below.refl _ _).alloc (Nat.le_refl _) _
  have hgc := good_calls n a cap _ (hE.keep hb) (by have := hnums.2.2.2.2.1; omega)
  have hfc := fun (w1 : World) (h1 : Below w.heap.size w w1) => fits_calls n a cap w1 (hE.keep h1) (by have := hnums.2.2.2.2.1; omega)
  rw [hg] at hgc
  rw [hfit] at hfc
  obtain ⟨N, hN⟩ : ∃ N, n.bytes = N := ⟨_, rfl⟩
  rw [hN]
  have HN := Lib.hid hN
  have HNUM := Lib.hid hnums
  have G := Lib.hid hgc
  have FI := Lib.hid hfc
  have X := Lib.hid hX
  have B := Lib.hid hb
  have BL := Lib.hid hbl
  have ES := Lib.hid hE
  clear hg hfit hgc hfc hX hb hbl hE hnums hN
  go_enter Try.func12, Try.ntmps12
  go_wp2_with (refine load_row X.out 24 Try.underlying24 rfl (by kernel_rfl) rfl rfl rfl ?_)
  refine G.out.mono ?_
  rintro e w1 ⟨rfl, h1⟩
  have X1 := Lib.hid (X.out.below h1 X.out.lt)
  have B1 := Lib.hid (B.out.trans (h1.mono B.out.size))
  clear h1 X B G
  go_wp2_with (refine load_row X1.out 24 Try.underlying24 rfl (by kernel_rfl) rfl rfl rfl ?_)
  refine (FI.out _ B1.out).mono ?_
  rintro e w4 ⟨rfl, h4⟩
  have X4 := X1.out.below h4 X1.out.lt
  have B4 := B1.out.trans (h4.mono B1.out.size)
  have hlP : w.heap.size < w4.heap.size := X4.lt
  clear h4 X1 B1 FI
  have hwb : w.heap.size ≤ w4.heap.size := Nat.le_of_lt hlP
  have hbw := B4.alloc hwb (.cells #[.pointer none, .slice none 0 0] 55)
  have hX5 := X4.alloc (.cells #[.pointer none, .slice none 0 0] 55)
  have hp : Pen (w4.alloc (.cells #[.pointer none, .slice none 0 0] 55)) (Past w4.heap.size) w4.heap.size [] := Bld.Is.fresh (new_at rfl) (Nat.lt_irrefl _) (fun k hk => Nat.lt_of_lt_of_le (by simp) hk)
  have hB : Below w4.heap.size (w4.alloc (.cells #[.pointer none, .slice none 0 0] 55)) (w4.alloc (.cells #[.pointer none, .slice none 0 0] 55)) := Below.refl _ _
  have hl : ([] : List UInt8).length ≤ 0 := Nat.le_refl _
  clear X4 B4
  have HBW := Lib.hid hbw
  clear hbw
  obtain ⟨⟨t1, t2⟩, ⟨l1, l2⟩, ⟨s1, s2⟩, ⟨r1, r2⟩, c100, hhg, heg⟩ := HNUM.out
  have xx := (hX5.below hB hlP).cell (i := 0) rfl
  go_wp2_with fail
  clear xx
  refine (numI_calls _ w4.heap.size _ n.tree 1 _ hp (by omega) (by omega) (by omega) (by omega)).mono ?_
  rintro e wk ⟨rfl, hp', hc⟩
  replace hB := past_below hB hc (Nat.le_of_lt (pen_lt hp))
  replace hp := hp'
  replace hl := len_le (n := (n.tree : Int).toNat) (k := 1) hl
  clear hp' hc
  have xx := (hX5.below hB hlP).cell (i := 1) rfl
  go_wp2_with fail
  clear xx
  refine (numI_calls _ w4.heap.size _ n.level 1 _ hp (by omega) (by omega) (by omega) (by omega)).mono ?_
  rintro e wk ⟨rfl, hp', hc⟩
  replace hB := past_below hB hc (Nat.le_of_lt (pen_lt hp))
  replace hp := hp'
  replace hl := len_le (n := (n.level : Int).toNat) (k := 1) hl
  clear hp' hc
  have xx := (hX5.below hB hlP).cell (i := 2) rfl
  go_wp2_with fail
  clear xx
  refine (numI_calls _ w4.heap.size _ n.stamp 4 _ hp (by omega) (by omega) (by omega) (by omega)).mono ?_
  rintro e wk ⟨rfl, hp', hc⟩
  replace hB := past_below hB hc (Nat.le_of_lt (pen_lt hp))
  replace hp := hp'
  replace hl := len_le (n := (n.stamp : Int).toNat) (k := 4) hl
  clear hp' hc
  have xx := (hX5.below hB hlP).cell (i := 3) rfl
  go_wp2_with fail
  clear xx
  refine (truth_calls _ w4.heap.size _ n.hasHigh _ hp (by omega)).mono ?_
  rintro e wk ⟨rfl, hp', hc⟩
  replace hB := past_below hB hc (Nat.le_of_lt (pen_lt hp))
  replace hp := hp'
  replace hl := len_le (n := one n.hasHigh) (k := 1) hl
  clear hp' hc
  have xx := (hX5.below hB hlP).cell (i := 4) rfl
  have hhs : n.high.size ≤ 9 := by
    unfold highGood at hhg
    split at hhg <;> (rw [beq_iff_eq] at hhg; omega)
  have hsx : (n.high ++ ⟨#[0, 0, 0, 0, 0, 0, 0, 0, 0]⟩).size = n.high.size + 9 := by rw [ByteArray.size_append]; rfl
  have hh9 : (n.high ++ ⟨#[0, 0, 0, 0, 0, 0, 0, 0, 0]⟩).extract 0 9 = bs (high9 n) := by
    rw [extract_take]
    unfold high9
    congr 2
  have hadd : ¬ 9223372036854775807 < n.high.size + (⟨#[0, 0, 0, 0, 0, 0, 0, 0, 0]⟩ : ByteArray).size := by
    have : (⟨#[0, 0, 0, 0, 0, 0, 0, 0, 0]⟩ : ByteArray).size = 9 := rfl
    omega
  have hadd3 : ¬ 9223372036854775807 < n.high.size + 9 := by omega
  have hadd4 : n.high.size + 9 ≤ 9223372036854775807 := by omega
  have hadd5 : ∀ wx : World, (binOp .add 9 (.string n.high) (.string ⟨#[0, 0, 0, 0, 0, 0, 0, 0, 0]⟩)).run Try.prog wx = .ok (.string (n.high ++ ⟨#[0, 0, 0, 0, 0, 0, 0, 0, 0]⟩)) wx := fun wx => by
    simp [go_sem, hadd, hadd3]
  have hadd6 : ∀ wx : World, (Instr.slice 9 (.string (n.high ++ ⟨#[0, 0, 0, 0, 0, 0, 0, 0, 0]⟩)) none (some (.int .i64 9)) none).run Try.prog wx = .ok (.string (bs (high9 n))) wx := fun wx => by
    rw [run_slice_string_h wx 9 _ Try.underlying9 .i64 9 (by omega) (by omega), ← hh9]
    rfl
  have hadd2 : (9 : Int) ≤ ((n.high ++ ⟨#[0, 0, 0, 0, 0, 0, 0, 0, 0]⟩).size : Int) := by omega
  have hl9 : (bs (high9 n)).size = 9 := by unfold high9 low9; rw [bs_size, List.length_take, List.length_append, List.length_replicate]; omega
  go_wp2_with fail
  go_still_tail 7, (by kernel_rfl)
  repeat still_step
  try refine wpStill_nil ?_
  change wpList _ _ _ _ _ wk.drew
  replace hp := hp.drew
  replace hB := hB.drew
  generalize wk.drew = wk at *
  clear xx
  go_wp2_with fail
  refine (Bld.string_calls _ 55 pen_lies _ _ (bs (high9 n)) _ hp (by omega) (by omega)).mono ?_
  rintro e wk2 ⟨rfl, hp', hc⟩
  replace hB := past_below hB hc (Nat.le_of_lt (pen_lt hp))
  replace hp := hp'
  rw [bs_data] at hp
  replace hl : _ ≤ 16 := show ([] ++ le n.tree.toNat 1 ++ le n.level.toNat 1 ++ le n.stamp.toNat 4 ++ le (one n.hasHigh) 1 ++ high9 n).length ≤ 16 by rw [List.length_append]; rw [bs_size] at hl9; omega
  clear hp' hc hh9 hadd hadd2 hadd3 hadd4 hadd5 hadd6 hsx
  have xx := (hX5.below hB hlP).cell (i := 5) rfl
  go_wp2_with fail
  clear xx
  refine (numI_calls _ w4.heap.size _ n.right 2 _ hp (by omega) (by omega) (by omega) (by omega)).mono ?_
  rintro e wk ⟨rfl, hp', hc⟩
  replace hB := past_below hB hc (Nat.le_of_lt (pen_lt hp))
  replace hp := hp'
  replace hl := len_le (n := (n.right : Int).toNat) (k := 2) hl
  clear hp' hc
  have xx := (hX5.below hB hlP).cell (i := 6) rfl
  go_wp2_with fail
  clear xx
  refine (num_calls _ w4.heap.size _ n.list.length 2 _ hp (by omega) (by omega) (by omega)).mono ?_
  rintro e wk ⟨rfl, hp', hc⟩
  replace hB := past_below hB hc (Nat.le_of_lt (pen_lt hp))
  replace hp := hp'
  replace hl := len_le (n := n.list.length) (k := 2) hl
  clear hp' hc
  have xx := (hX5.below hB hlP).cell (i := 6) rfl
  go_wp2_with fail
  clear xx
  have hh0 : [] ++ le n.tree.toNat 1 ++ le n.level.toNat 1 ++ le n.stamp.toNat 4 ++ le (one n.hasHigh) 1 ++ high9 n ++ le n.right.toNat 2 ++ le n.list.length 2 = headBytes n := rfl
  rw [hh0] at hp hl
  clear hh0
  have hflat : ∀ k, k ≤ n.list.length → ((n.list.take k).flatMap entBytes).length ≤ 232 := fun k hk => by
    rw [flat_len (fun e he => (ent_nums (heg e (List.mem_of_mem_take he))).1)]
    have := size0_le (l := n.list) (k := k)
    unfold Nd.size at hfs
    omega
  have FL := Lib.hid hflat
  clear hflat
  go_loopw [53] (fun i wr => ∃ j : Nat, j ≤ n.list.length ∧ i = .int .i64 j ∧ Pen wr (Past w4.heap.size) w4.heap.size (headBytes n ++ (n.list.take j).flatMap entBytes) ∧ Below w4.heap.size (w4.alloc (.cells #[.pointer none, .slice none 0 0] 55)) wr) (fun i _ => n.list.length - (intOf i).toNat)
  case atStart => exact ⟨0, by omega, rfl, by simpa using hp, hB⟩
  case round =>
    clear hp hB hl
    obtain ⟨j, hj, rfl, hp, hB⟩ := hrel
    have hll := FL.out j hj
    have hl : (headBytes n ++ (n.list.take j).flatMap entBytes).length ≤ 252 := by rw [List.length_append, head_length]; omega
    clear hll
    by_cases hlt : j < n.list.length
    · obtain ⟨ad, hae, hlb, hx⟩ := ES.out j hlt
      have hlt' : (j : Int) < (n.list.length : Int) := by omega
      subst hae
      have hsn : (n.list.take (j + 1)).flatMap entBytes = (n.list.take j).flatMap entBytes ++ entBytes n.list[j] := by rw [List.take_succ_eq_append_getElem hlt, List.flatMap_append]; simp
      have hen := ent_nums (heg _ (List.getElem_mem hlt))
      obtain ⟨x0, x1, x2⟩ := hx _ (HBW.out.trans (hB.mono hwb))
      generalize n.list[j] = e at *
      obtain ⟨key, val, g⟩ := e
      obtain ⟨hk9, hv100⟩ := hen
      simp only at x0 x1 x2 hk9 hv100
      have HSN := Lib.hid hsn
      clear hsn hx
      obtain ⟨eb, heb⟩ : ∃ eb, eb = wr.heap.size := ⟨_, rfl⟩
      have hY : Row (wr.alloc (.cells #[.string key, .string val, .bool g] 44)) eb 44 [.string key, .string val, .bool g] := new_at heb
      have hp6 := hp.beside (.cells #[.string key, .string val, .bool g] 44)
      have hB6 := hB.alloc (Nat.le_of_lt (pen_lt hp)) (.cells #[.string key, .string val, .bool g] 44)
      have hplt : w4.heap.size < eb := by rw [heb]; exact pen_lt hp
      have hbX := hX5.below hB hlP
      go_wp2_with fail
      clear x0 x1 x2 hp hB
      rw [← heb] at hp6 ⊢
      clear heb
      generalize wr.alloc (.cells #[.string key, .string val, .bool g] 44) = wk at *
      have y0 := hY.cell (i := 0) rfl
      go_wp2_with fail
      go_still_tail 5, (by kernel_rfl)
      repeat still_step
      try refine wpStill_nil ?_
      change wpList _ _ _ _ _ wk.drew
      replace hY := hY.drew
      replace hp6 := hp6.drew
      replace hB6 := hB6.drew
      clear y0
      generalize wk.drew = wk at *
      go_wp2_with fail
      refine (Bld.string_calls _ 55 pen_lies _ _ key _ hp6 (by omega) (by omega)).mono ?_
      rintro e w7 ⟨rfl, hp7, hc7⟩
      replace hY := hY.chg hc7 (by rintro (h | h) <;> omega)
      replace hB6 := past_below_but hB6 hc7 (Nat.le_of_lt (pen_lt hp6))
      have hl7 : (headBytes n ++ (n.list.take j).flatMap entBytes ++ key.data.toList).length ≤ 261 := by
        have : key.data.toList.length = key.size := rfl
        rw [List.length_append]; omega
      clear hc7 hp6 hl
      have y2 := hY.cell (i := 2) rfl
      go_wp2_with fail
      clear y2
      refine (truth_calls _ w4.heap.size _ g _ hp7 (by omega)).mono ?_
      rintro e w8 ⟨rfl, hp8, hc8⟩
      replace hY := hY.chg hc8 (by rintro (h | h) <;> omega)
      replace hB6 := past_below_but hB6 hc8 (Nat.le_of_lt (pen_lt hp7))
      have hl8 := len_le (n := one g) (k := 1) hl7
      clear hc8 hp7 hl7
      have y1 := hY.cell (i := 1) rfl
      go_wp2_with fail
      clear y1
      refine (num_calls _ w4.heap.size _ val.size 1 _ hp8 (by omega) (by omega) (by omega)).mono ?_
      rintro e w9 ⟨rfl, hp9, hc9⟩
      replace hY := hY.chg hc9 (by rintro (h | h) <;> omega)
      replace hB6 := past_below_but hB6 hc9 (Nat.le_of_lt (pen_lt hp8))
      have hl9 := len_le (n := val.size) (k := 1) hl8
      clear hc9 hp8 hl8
      have y1 := hY.cell (i := 1) rfl
      go_wp2_with fail
      go_still_tail 5, (by kernel_rfl)
      repeat still_step
      try refine wpStill_nil ?_
      change wpList _ _ _ _ _ w9.drew
      replace hp9 := hp9.drew
      replace hB6 := hB6.drew
      clear y1 hY
      generalize w9.drew = w9 at *
      go_wp2_with fail
      refine (Bld.string_calls _ 55 pen_lies _ _ val _ hp9 (by omega) (by omega)).mono ?_
      rintro e w10 ⟨rfl, hp10, hc10⟩
      replace hB6 := past_below_but hB6 hc10 (Nat.le_of_lt (pen_lt hp9))
      have hp11 := hp10.wider (F' := Past w4.heap.size) (fun k hk => hk.1) (Nat.lt_irrefl _)
      clear hc10 hp9 hp10 hl9
      go_wp2_with fail
      exact ⟨⟨j + 1, by omega, by go_num, by rw [HSN.out]; simpa [entBytes, List.append_assoc] using hp11, hB6⟩, by simp [intOf]; omega⟩
    · obtain rfl : j = n.list.length := by omega
      rw [List.take_length] at hp hl
      have hbd : headBytes n ++ n.list.flatMap entBytes = n.body := rfl
      rw [hbd] at hp hl
      have hple : n.body.length ≤ 252 := hl
      go_wp2_with fail
      have hwr : wrap64 (252 - (n.body.length : Int)) = 252 - (n.body.length : Int) := by unfold wrap64; omega
      have hwr2 : IntKind.i64.wrap (252 - (n.body.length : Int)) = 252 - (n.body.length : Int) := by rw [IntKind.wrap_i64]; omega
      have hpd := hp.drew
      have hBd := hB.drew
      have hlt4 := Nat.le_of_lt (pen_lt hp)
      clear hp hB
      go_region_held3 (fun _ => True) (trivial)
        (first
          | (go_at_call 31
             refine (len_calls _ _ _ _ _ hpd).mono ?_
             rintro e wy ⟨rfl, rfl⟩)
          | (go_at_call 30
             refine (rep_calls _ _ (by omega) (by omega)).mono ?_
             rintro e wy ⟨rfl, h1⟩
             have hp2 := hpd.below h1
             have hB2 := hBd.trans (h1.mono hlt4)
             clear h1)
          | (go_at_call 29
             refine (Bld.string_calls _ 55 pen_lies _ _ _ _ hp2 (by omega) (by rw [bs_size, List.length_replicate]; omega)).mono ?_
             rintro e wz ⟨rfl, hp3, hc3⟩
             have hB3 := past_below hB2 hc3 (Nat.le_of_lt (pen_lt hp2))
             clear hc3))
      have hpg : n.body ++ (bs (List.replicate (252 - n.body.length) 0)).data.toList = n.page := rfl
      have hpg2 : n.body ++ (bs (List.replicate (252 - (n.body.length : Int)).toNat 0)).data.toList = n.page := by
        rw [bs_data, show (252 - (n.body.length : Int)).toNat = 252 - n.body.length by omega]
        rfl
      first | rw [hpg] at hp3 | rw [hpg2] at hp3
      have hpl : n.page.length = 252 := by unfold Nd.page; rw [List.length_append, List.length_replicate]; omega
      have hne : n.page ≠ [] := fun h => by rw [h] at hpl; simp at hpl
      clear hpd hBd hp2 hB2 hpg hpg2
      go_wp2_with fail
      refine (Bld.text_calls _ _ _ _ _ hp3 hne).mono ?_
      rintro e wa ⟨rfl, hca⟩
      have hB4 := past_below hB3 hca (Nat.le_of_lt (pen_lt hp3))
      go_wp2_with fail
      refine (Crc.seal_calls (bs n.page) _ (by rw [bs_size, hpl]; omega)).mono ?_
      rintro e wb ⟨rfl, hbb⟩
      go_wp2_with fail
      go_ret2
      exact ⟨by rw [← HN.out]; rfl, (HBW.out.trans (hB4.mono hwb)).trans (hbb.mono (HBW.out.trans (hB4.mono hwb)).size)⟩

def bytesOut (n : Nd) : List UInt8 × Int := if n.good then (if n.fits then (n.bytes, 0) else ([], 5)) else ([], 1)
theorem bytesOut_ok {n : Nd} (h : n.fits = true) : bytesOut n = (n.bytes, 0) := by
  have : n.good = true := by unfold Nd.fits at h; rw [Bool.and_eq_true] at h; exact h.1
  unfold bytesOut
  rw [if_pos this, if_pos h]
theorem bytesOut_full {n : Nd} (hg : n.good = true) (h : n.fits = false) : bytesOut n = ([], 5) := by
  unfold bytesOut
  rw [if_pos hg, if_neg (by rw [h]; simp)]
theorem bytesOut_bad {n : Nd} (h : n.good = false) : bytesOut n = ([], 1) := by
  unfold bytesOut
  rw [if_neg (by rw [h]; simp)]
set_option maxHeartbeats 1000000 in
theorem bytes_calls (n : Nd) (a : Option Addr) (cap : Nat) (w : World) (hE : Es w a n.list) (hl : n.list.length ≤ 9223372036854775807) :
    Calls Try.prog 12 #[.agg (n.cells (.slice a n.list.length cap)).toArray] w fun e w' => e = .returned (.tuple #[.string (bs (bytesOut n).1), .int .i64 (bytesOut n).2]) ∧ Below w.heap.size w w' := by
  by_cases hf : n.fits = true
  · rw [bytesOut_ok hf]
    have : n.good = true := by unfold Nd.fits at hf; rw [Bool.and_eq_true] at hf; exact hf.1
    exact bytes_good n this hf a cap w hE
  · rw [Bool.not_eq_true] at hf
    have hX := Row.new w 24 (n.cells (.slice a n.list.length cap))
    have hb : Below w.heap.size w (w.alloc (.cells (n.cells (.slice a n.list.length cap)).toArray 24)) := (Below.refl _ _).alloc (Nat.le_refl _) _
    have hgc := good_calls n a cap _ (hE.keep hb) hl
    have hfc := fun (w1 : World) (h1 : Below w.heap.size w w1) => fits_calls n a cap w1 (hE.keep h1) hl
    rw [hf] at hfc
    have FI := Lib.hid hfc
    have X := Lib.hid hX
    have B := Lib.hid hb
    by_cases hg : n.good = true
    · rw [bytesOut_full hg hf]
      rw [hg] at hgc
      have G := Lib.hid hgc
      clear hg hf hgc hfc hX hb
      go_enter Try.func12, Try.ntmps12
      go_wp2_with (refine load_row X.out 24 Try.underlying24 rfl (by kernel_rfl) rfl rfl rfl ?_)
      refine G.out.mono ?_
      rintro e w1 ⟨rfl, h1⟩
      have X1 := Lib.hid (X.out.below h1 X.out.lt)
      have B1 := Lib.hid (B.out.trans (h1.mono B.out.size))
      clear h1
      go_wp2_with (refine load_row X1.out 24 Try.underlying24 rfl (by kernel_rfl) rfl rfl rfl ?_)
      refine (FI.out _ B1.out).mono ?_
      rintro e w2 ⟨rfl, h2⟩
      have B2 := Lib.hid (B1.out.trans (h2.mono B1.out.size))
      clear h2
      go_wp2_with fail
      go_ret2
      exact ⟨rfl, B2.out⟩
    · rw [Bool.not_eq_true] at hg
      rw [bytesOut_bad hg]
      rw [hg] at hgc
      have G := Lib.hid hgc
      clear hg hf hgc hfc hX hb
      go_enter Try.func12, Try.ntmps12
      go_wp2_with (refine load_row X.out 24 Try.underlying24 rfl (by kernel_rfl) rfl rfl rfl ?_)
      refine G.out.mono ?_
      rintro e w1 ⟨rfl, h1⟩
      have B1 := Lib.hid (B.out.trans (h1.mono B.out.size))
      clear h1
      go_wp2_with fail
      go_ret2
      exact ⟨rfl, B1.out⟩
end Go.Proofs.Ytebmalmciakhcaa.Node
