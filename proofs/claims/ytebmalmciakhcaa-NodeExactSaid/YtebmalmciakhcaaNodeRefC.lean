/- gaugerref08.Bytes, the other half. -/
import Derived.Test.YtebmalmciakhcaaNodeRefB
import Derived.Test.YtebmalmciakhcaaAnyI
import Derived.Test.YtebmalmciakhcaaCrcRef
namespace Go.Proofs.Ytebmalmciakhcaa.Node
open Go.RowKit Go.Proofs.Ytebmalmciakhcaa.AnyI Go.Proofs.Ytebmalmciakhcaa.Mem Go.Proofs.Ytebmalmciakhcaa.Bytes Go.Proofs.Ytebmalmciakhcaa.Ord
set_option linter.unusedSimpArgs false
set_option linter.unusedVariables false

set_option maxHeartbeats 20000000 in
set_option maxRecDepth 8000 in
theorem refbytes_true (n : Nd) (hfit : n.fits = true) (hh : n.hasHigh = true) (a : Option Addr) (cap : Nat) (w : World) (hE : Es w a n.list) :
    Calls Try.prog 16 #[.agg (n.cells (.slice a n.list.length cap)).toArray] w fun e w' => e = .returned (.string (bs n.bytes)) ∧ Below w.heap.size w w' := by
  obtain ⟨hg, hfs⟩ := fits_good hfit
  have hnums := good_nums hg
  have hbl := body_length hg
  have hpl := page_length hfit
  obtain ⟨N, hN⟩ : ∃ N, n.bytes = N := ⟨_, rfl⟩
  rw [hN]
  have HN := Lib.hid hN
  have BL := Lib.hid hbl
  have PL := Lib.hid hpl
  have ES := Lib.hid hE
  obtain ⟨⟨t1, t2⟩, ⟨l1, l2⟩, ⟨s1, s2⟩, ⟨r1, r2⟩, c100, hhg, heg⟩ := hnums
  obtain ⟨t, l, s, h, hi, r, es⟩ := n
  simp only at t1 t2 l1 l2 s1 s2 r1 r2 c100 heg
  obtain rfl : h = true := hh
  have hX : Row (w.alloc (.cells #[.int .i64 t, .int .i64 l, .int .i64 s, .bool true, .string hi, .int .i64 r, .slice a es.length cap] 24)) w.heap.size 24 [.int .i64 t, .int .i64 l, .int .i64 s, .bool true, .string hi, .int .i64 r, .slice a es.length cap] := new_at rfl
  have hb : Below w.heap.size w (w.alloc (.cells #[.int .i64 t, .int .i64 l, .int .i64 s, .bool true, .string hi, .int .i64 r, .slice a es.length cap] 24)) := (Below.refl _ _).alloc (Nat.le_refl _) _
  have x0 := hX.cell (i := 0) rfl
  have x1 := hX.cell (i := 1) rfl
  have x2 := hX.cell (i := 2) rfl
  have x3 := hX.cell (i := 3) rfl
  show Calls Try.prog 16 #[.agg #[.int .i64 t, .int .i64 l, .int .i64 s, .bool true, .string hi, .int .i64 r, .slice a es.length cap]] w _
  clear hN hbl hpl hE hg hfit
  go_enter Try.func16, Try.ntmps16
  go_wp2_with fail
  have hlX := hX.lt
  generalize w.alloc (.cells #[.int .i64 t, .int .i64 l, .int .i64 s, .bool true, .string hi, .int .i64 r, .slice a es.length cap] 24) = w0 at *
  go_still_tail 24, (by kernel_rfl)
  still_call (one_calls _ _)
  repeat still_step
  try refine wpStill_nil ?_
  change wpList _ _ _ _ _ w0.drew
  go_wp2_with fail
  have X := Lib.hid hX
  have B := Lib.hid hb
  have hO0 := World.ownsRow_lit (e := 5) (size := 1) (base := w0.heap.size) w0 #[.int .u8 t, .int .u8 l, .int .u8 (s % 256), .int .u8 (s / 256 % 256), .int .u8 (s / 65536 % 256), .int .u8 (s / 16777216), .int .u8 (one true : Int)] 7 (Nat.le_refl _) (by unfold maxLen; omega) rfl
  have hO1 := cast_own hO0 (head7 t1 t2 l1 l2 s1 s2 true).symm
  have O0 := Lib.hid hO1
  have hBB := ((Below.refl w0.heap.size w0).alloc (Nat.le_refl _) (.cells #[.int .u8 t, .int .u8 l, .int .u8 (s % 256), .int .u8 (s / 256 % 256), .int .u8 (s / 65536 % 256), .int .u8 (s / 16777216), .int .u8 (one true : Int)] 5)).drew
  have BB0 := Lib.hid hBB
  obtain ⟨L0, hL0⟩ : ∃ L0, le t.toNat 1 ++ le l.toNat 1 ++ le s.toNat 4 ++ le (one true) 1 = L0 := ⟨_, rfl⟩
  rw [hL0] at O0
  have LL := Lib.hid hL0
  have h9l : (high9 ⟨t, l, s, true, hi, r, es⟩).length = 9 := by unfold high9 low9; rw [List.length_take, List.length_append, List.length_replicate]; omega
  have h9g : ∀ k, k < 9 → (high9 ⟨t, l, s, true, hi, r, es⟩)[k]? = some (if hk : k < hi.size then hi[k] else 0) := fun k hk => by
    unfold high9 low9
    have lh : hi.data.toList.length = hi.size := rfl
    rw [List.getElem?_take_of_lt hk]
    by_cases hks : k < hi.size
    · rw [dif_pos hks, List.getElem?_append_left (by simp only; omega), List.getElem?_eq_getElem (by simp only; omega)]
      rfl
    · rw [dif_neg hks, List.getElem?_append_right (by simp only; omega), List.getElem?_replicate, if_pos (by simp only; omega)]
  obtain ⟨H9, hH9⟩ : ∃ H9, high9 ⟨t, l, s, true, hi, r, es⟩ = H9 := ⟨_, rfl⟩
  rw [hH9] at h9l h9g
  have HH9 := Lib.hid hH9
  have H9L := Lib.hid h9l
  have H9G := Lib.hid h9g
  have hR9 := Lib.hid (And.intro r1 (And.intro r2 c100))
  clear hX hb hO0 hO1 hBB hL0 hH9 h9l h9g x0 x1 x2 x3 t1 t2 l1 l2 s1 s2 r1 r2 c100
  generalize IntKind.u8.wrap t = q0
  generalize IntKind.u8.wrap l = q1
  generalize IntKind.u8.wrap s = q2
  generalize IntKind.u8.wrap (s / 256) = q3
  generalize IntKind.u8.wrap (s / 65536) = q4
  generalize IntKind.u8.wrap (s / 16777216) = q5
  go_loopw [3, 4] (fun bv' i wr => ∃ k : Nat, k ≤ 9 ∧ i = .int .i64 k ∧ wr.ownsRow w0.heap.size 5 1 bv' (7 + k) ((L0 ++ H9.take k).map bv) ∧ Below w0.heap.size w0 wr) (fun _ i _ => 9 - (intOf i).toNat)
  case atStart => exact ⟨0, by omega, rfl, cast_own (show (World.drew _).ownsRow _ _ _ _ _ _ from O0.out) (by simp), BB0.out⟩
  case round =>
    obtain ⟨k, hk, rfl, ho, hbw⟩ := hrel
    clear O0 BB0
    have XX := Lib.hid (X.out.below hbw hlX)
    have OO := Lib.hid ho
    have BB := Lib.hid hbw
    clear ho hbw
    by_cases hlt : k < 9
    · have hlt' : (k : Int) < 9 := by omega
      have hg := H9G.out k hlt
      have x3 := XX.out.cell (i := 3) rfl
      have x4 := XX.out.cell (i := 4) rfl
      have h0 : hi.size = 9 := by
        have := hhg
        unfold highGood at this
        rw [if_pos rfl] at this
        exact beq_iff_eq.1 this
      have hks : k < hi.size := by omega
      have hks' : (k : Int) < (hi.size : Int) := by omega
      rw [dif_pos hks] at hg
      have GG := Lib.hid hg
      clear hg
      go_wp2_with (refine app1 (news := [.int .u8 (hi[k].toNat : Int)]) OO.out BB.out BB.out.size 41 Try.underlying41 Reel.info_u8 rfl (by decide) (by decide) (by omega) rfl (by simp [Value.oneCell']) rfl rfl rfl rfl ?_; intro v' w3 ho3 hb3 _)
      exact ⟨⟨k + 1, by omega, by go_num, cast_own ho3 (by rw [List.take_add_one, GG.out]; simp [bv]), hb3⟩, by simp [intOf]; omega⟩
    · obtain rfl : k = 9 := by omega
      have hO := OO.out
      rw [List.take_of_length_le (Nat.le_of_eq H9L.out)] at hO
      have O9 := Lib.hid hO
      have x5 := XX.out.cell (i := 5) rfl
      have x6 := XX.out.cell (i := 6) rfl
      clear hO OO
      obtain ⟨r1, r2, c100⟩ := hR9.out
      go_wp2_with (refine appM (news := [.int .u8 r, .int .u8 (r / 256), .int .u8 es.length, .int .u8 (es.length / 256)]) 4 4 O9.out BB.out BB.out.size 41 Try.underlying41 Reel.info_u8 rfl (by decide) (by decide) (by omega) rfl (by simp [Value.oneCell']) rfl rfl rfl rfl ?_; intro v' w3 ho3 hb3 _)
      have hO : OwnB w3 w0.heap.size v' (headBytes ⟨t, l, s, true, hi, r, es⟩) := by
        unfold OwnB
        rw [head_length]
        refine cast_own ho3 ?_
        rw [← LL.out, ← HH9.out, ← tail4 r1 r2 c100, ← List.map_append]
        unfold headBytes
        simp only [List.append_assoc]
      clear ho3 x5 x6 O9 LL HH9 H9L H9G XX BB
      have hflat : ∀ k, k ≤ es.length → ((es.take k).flatMap entBytes).length ≤ 232 := fun k hk => by
        rw [flat_len (fun e he => (ent_nums (heg e (List.mem_of_mem_take he))).1)]
        have := size0_le (l := es) (k := k)
        unfold Nd.size at hfs
        simp only at hfs
        omega
      have hpg : (headBytes ⟨t, l, s, true, hi, r, es⟩ ++ es.flatMap entBytes) ++ List.replicate (252 - (headBytes ⟨t, l, s, true, hi, r, es⟩ ++ es.flatMap entBytes).length) 0 = Nd.page ⟨t, l, s, true, hi, r, es⟩ := rfl
      have hhl := head_length ⟨t, l, s, true, hi, r, es⟩
      have hNN : N = Crc.sealed (Nd.page ⟨t, l, s, true, hi, r, es⟩) := HN.out.symm
      have hpl := PL.out
      rw [← hpg] at hNN hpl
      clear hpg PL BL HN
      generalize headBytes ⟨t, l, s, true, hi, r, es⟩ = HD at *
      have FL := Lib.hid hflat
      have NN := Lib.hid hNN
      have HL := Lib.hid hhl
      have PL := Lib.hid hpl
      have O3 := Lib.hid hO
      have B3 := Lib.hid hb3
      have HEG := Lib.hid heg
      clear hflat hNN hhl hO hb3 r1 r2 heg hpl
      go_loopw [3, 5] (fun bv' i wr => ∃ j : Nat, j ≤ es.length ∧ i = .int .i64 j ∧ OwnB wr w0.heap.size bv' (HD ++ (es.take j).flatMap entBytes) ∧ Below w0.heap.size w0 wr) (fun _ i _ => es.length - (intOf i).toNat)
      case atStart => exact ⟨0, by omega, rfl, by simpa using O3.out, B3.out⟩
      case round =>
        clear O3 B3
        obtain ⟨j, hj, rfl, hp, hB⟩ := hrel
        have X3 := Lib.hid (X.out.below hB hlX)
        have x6 := X3.out.cell (i := 6) rfl
        by_cases hlt : j < es.length
        · have hll := FL.out j hj
          have hl : (HD ++ (es.take j).flatMap entBytes).length ≤ 252 := by have := HL.out; rw [List.length_append]; omega
          clear hll
          obtain ⟨ad, hae, hlb, hx⟩ := ES.out j hlt
          have hlt' : (j : Int) < (es.length : Int) := by omega
          subst hae
          have hsn : HD ++ (es.take (j + 1)).flatMap entBytes = HD ++ (es.take j).flatMap entBytes ++ entBytes es[j] := by rw [List.take_succ_eq_append_getElem hlt, List.flatMap_append]; simp
          have hen := ent_nums (HEG.out _ (List.getElem_mem hlt))
          obtain ⟨y0, y1, y2⟩ := hx _ (B.out.trans (hB.mono B.out.size))
          generalize es[j] = e at *
          obtain ⟨key, val, g⟩ := e
          obtain ⟨hk9, hv100⟩ := hen
          simp only at y0 y1 y2 hk9 hv100
          generalize HD ++ (es.take j).flatMap entBytes = L at *
          have HSN := Lib.hid hsn
          clear hsn hx
          obtain ⟨eb, heb⟩ : ∃ eb, eb = wr.heap.size := ⟨_, rfl⟩
          have RY : Row (wr.alloc (.cells #[.string key, .string val, .bool g] 44)) eb 44 [.string key, .string val, .bool g] := new_at heb
          have AY := hp.apart (Nat.le_of_eq heb.symm)
          have hba := (Below.refl wr.heap.size wr).alloc (Nat.le_refl _) (.cells #[.string key, .string val, .bool g] 44)
          have OW := hp.below hba (Nat.le_refl _)
          have HB2 := hB.trans (hba.mono hB.size)
          go_wp2_with fail
          clear y0 y1 y2 x6 hp hB X3 hba
          rw [← heb] at *
          clear heb
          generalize wr.alloc (.cells #[.string key, .string val, .bool g] 44) = wr at *
          have HWV := Lib.hid (show IntKind.u8.wrap (val.size : Int) = (val.size : Int) from by simp [IntKind.wrap, IntKind.bits, IntKind.signed]; omega)
          have hkl : key.data.toList.length = key.size := rfl
          have hvl : val.data.toList.length = val.size := rfl
          have hml : (le (one g) 1 ++ le val.size 1).length = 2 := rfl
          replace RY := RY.drew
          replace OW : OwnB wr.drew w0.heap.size _ _ := OW
          replace HB2 := HB2.drew
          refine AnyI.start (S := fun w' => w'.cell? ⟨eb, 0, none⟩ = some (.string key) ∧ w'.cell? ⟨eb, 1, none⟩ = some (.string val) ∧ w'.cell? ⟨eb, 2, none⟩ = some (.bool g)) (by kernel_rfl) ⟨RY.cell rfl, RY.cell rfl, RY.cell rfl⟩ (fun hHeld => ?_)
          refine takeI 0 (v := ?_) rfl (by kernel_rfl) (by kernel_rfl) (by kernel_rfl) (fun _ _ _ h => h) (by rfl) ?_ (by assumption) ?_
          rotate_left 1
          · (intro w hSw; (try dsimp only at hSw); go_simp; try with_reducible rfl)
          try simp only [Act.put, List.setIfInBounds_toArray, List.set_cons_zero, List.set_cons_succ]
          refine takeI 1 (v := ?_) rfl (by kernel_rfl) (by kernel_rfl) (by kernel_rfl) (fun _ _ _ h => h) (by rfl) ?_ (by assumption) ?_
          rotate_left 1
          · (intro w hSw; (try dsimp only at hSw); go_simp; try with_reducible rfl)
          try simp only [Act.put, List.setIfInBounds_toArray, List.set_cons_zero, List.set_cons_succ]
          refine takeI 2 (v := ?_) rfl (by kernel_rfl) (by kernel_rfl) (by kernel_rfl) (fun _ _ _ h => h) (by rfl) ?_ (by assumption) ?_
          rotate_left 1
          · (intro w hSw; (try dsimp only at hSw); go_simp; try with_reducible rfl)
          try simp only [Act.put, List.setIfInBounds_toArray, List.set_cons_zero, List.set_cons_succ]
          refine takeI 5 (v := ?_) rfl (by kernel_rfl) (by kernel_rfl) (by kernel_rfl) (fun _ _ _ h => h) (by rfl) ?_ (by assumption) ?_
          rotate_left 1
          · (intro w hSw; (try dsimp only at hSw); go_simp; try with_reducible rfl)
          try simp only [Act.put, List.setIfInBounds_toArray, List.set_cons_zero, List.set_cons_succ]
          refine takeI 6 (v := ?_) rfl (by kernel_rfl) (by kernel_rfl) (by kernel_rfl) (fun _ _ _ h => h) (by rfl) ?_ (by assumption) ?_
          rotate_left 1
          · (intro w hSw; (try dsimp only at hSw); go_simp; try with_reducible rfl)
          try simp only [Act.put, List.setIfInBounds_toArray, List.set_cons_zero, List.set_cons_succ]
          refine takeI 8 (v := ?_) rfl (by kernel_rfl) (by kernel_rfl) (by kernel_rfl) (fun _ _ _ h => h) (by rfl) ?_ (by assumption) ?_
          rotate_left 1
          · (intro w hSw; (try dsimp only at hSw); go_simp; try with_reducible rfl)
          try simp only [Act.put, List.setIfInBounds_toArray, List.set_cons_zero, List.set_cons_succ]
          refine takeI 9 (v := ?_) rfl (by kernel_rfl) (by kernel_rfl) (by kernel_rfl) (fun _ _ _ h => h) (by rfl) ?_ (by assumption) ?_
          rotate_left 1
          · (intro w hSw; (try dsimp only at hSw); go_simp; try with_reducible rfl)
          try simp only [Act.put, List.setIfInBounds_toArray, List.set_cons_zero, List.set_cons_succ]
          refine takeI 10 (v := ?_) rfl (by kernel_rfl) (by kernel_rfl) (by kernel_rfl) (fun _ _ _ h => h) (by rfl) ?_ (by assumption) ?_
          rotate_left 1
          · (intro w hSw; (try dsimp only at hSw); go_simp; try with_reducible rfl)
          try simp only [Act.put, List.setIfInBounds_toArray, List.set_cons_zero, List.set_cons_succ]
          refine takeI 11 (v := ?_) rfl (by kernel_rfl) (by kernel_rfl) (by kernel_rfl) (fun _ _ _ h => h) (by rfl) ?_ (by assumption) ?_
          rotate_left 1
          · (intro w hSw; (try dsimp only at hSw); go_simp; try with_reducible rfl)
          try simp only [Act.put, List.setIfInBounds_toArray, List.set_cons_zero, List.set_cons_succ]
          refine takeI 14 (v := ?_) rfl (by kernel_rfl) (by kernel_rfl) (by kernel_rfl) (fun _ _ _ h => h) (by rfl) ?_ (by assumption) ?_
          rotate_left 1
          · (intro w hSw; (try dsimp only at hSw); go_simp; try with_reducible rfl)
          try simp only [Act.put, List.setIfInBounds_toArray, List.set_cons_zero, List.set_cons_succ]
          refine takeI 15 (v := ?_) rfl (by kernel_rfl) (by kernel_rfl) (by kernel_rfl) (fun _ _ _ h => h) (by rfl) ?_ (by assumption) ?_
          rotate_left 1
          · (intro w hSw; (try dsimp only at hSw); go_simp; try with_reducible rfl)
          try simp only [Act.put, List.setIfInBounds_toArray, List.set_cons_zero, List.set_cons_succ]
          refine twoI 3 16 rfl rfl (by kernel_rfl) (by rfl) (by rfl) (fun K hK => ?_) (fun K hK => ?_)
          · refine conv_step key rfl rfl (fun c w_1 RK hb => ?_)
            replace OW := OW.below hb (Nat.le_refl _)
            replace RY := RY.below hb RY.lt
            replace HB2 := HB2.trans (hb.mono HB2.size)
            clear hb
            refine hK.out _ _ ⟨RY.cell rfl, RY.cell rfl, RY.cell rfl⟩ (fun hHeld => ?_)
            clear hK K
            try simp only [Act.put, List.setIfInBounds_toArray, List.set_cons_zero, List.set_cons_succ]
            refine twoI 4 16 rfl rfl (by kernel_rfl) (by rfl) (by rfl) (fun K hK => ?_) (fun K hK => ?_)
            · refine app_step OW HB2 HB2.size RK rfl rfl rfl rfl (by simp only [List.length_append] at *; omega) (by simp only [List.length_append] at *; omega) (fun v' w_2 OW' HB2' hg hat => ?_)
              have hE := RY.lt
              replace RY := apart_grown RY hg AY
              replace AY := AY.next hE hat
              have OW := OW'
              have HB2 := HB2'
              clear OW' HB2' hg hat
              refine hK.out _ _ ⟨RY.cell rfl, RY.cell rfl, RY.cell rfl⟩ (fun hHeld => ?_)
              clear hK K
              try simp only [Act.put, List.setIfInBounds_toArray, List.set_cons_zero, List.set_cons_succ]
              refine twoI 7 16 rfl rfl (by kernel_rfl) (by rfl) (by rfl) (fun K hK => ?_) (fun K hK => ?_)
              · go_simp
                go_at_call 36
                refine (one_calls g _).mono ?_
                rintro e w_2 ⟨rfl, rfl⟩
                try go_wp2_with fail
                refine hK.out _ _ ⟨RY.cell rfl, RY.cell rfl, RY.cell rfl⟩ (fun hHeld => ?_)
                clear hK K
                try simp only [Act.put, List.setIfInBounds_toArray, List.set_cons_zero, List.set_cons_succ]
                refine twoI 12 16 rfl rfl (by kernel_rfl) (by rfl) (by rfl) (fun K hK => ?_) (fun K hK => ?_)
                · go_simp
                  rw [HWV.out]
                  have hb := (Below.refl w_2.heap.size w_2).alloc (Nat.le_refl _) (.cells #[.int .u8 (one g : Int), .int .u8 (val.size : Int)] 5)
                  have RM : Row (w_2.alloc (.cells #[.int .u8 (one g : Int), .int .u8 (val.size : Int)] 5)) w_2.heap.size 5 ((le (one g) 1 ++ le val.size 1).map bv ++ []) := (new_at rfl).cast (by rw [List.append_nil, two_bytes g val.size (by omega)])
                  replace OW := OW.below hb (Nat.le_refl _)
                  replace RY := RY.below hb RY.lt
                  replace HB2 := HB2.trans (hb.mono HB2.size)
                  clear hb
                  generalize w_2.alloc (.cells #[.int .u8 (one g : Int), .int .u8 (val.size : Int)] 5) = w_4 at *
                  refine hK.out _ _ ⟨RY.cell rfl, RY.cell rfl, RY.cell rfl⟩ (fun hHeld => ?_)
                  clear hK K
                  try simp only [Act.put, List.setIfInBounds_toArray, List.set_cons_zero, List.set_cons_succ]
                  refine twoI 13 16 rfl rfl (by kernel_rfl) (by rfl) (by rfl) (fun K hK => ?_) (fun K hK => ?_)
                  · refine app_step OW HB2 HB2.size RM rfl rfl rfl rfl (by simp only [List.length_append] at *; omega) (by simp only [List.length_append] at *; omega) (fun v' w_5 OW' HB2' hg hat => ?_)
                    have hE := RY.lt
                    replace RY := apart_grown RY hg AY
                    replace AY := AY.next hE hat
                    have OW := OW'
                    have HB2 := HB2'
                    clear OW' HB2' hg hat
                    refine hK.out _ _ ⟨RY.cell rfl, RY.cell rfl, RY.cell rfl⟩ (fun hHeld => ?_)
                    clear hK K
                    try simp only [Act.put, List.setIfInBounds_toArray, List.set_cons_zero, List.set_cons_succ]
                    refine oneI 16 rfl (by kernel_rfl) (by rfl) (fun K hK => ?_)
                    refine conv_step val rfl rfl (fun c2 w_6 RV hb => ?_)
                    have AV := OW.apart (Nat.le_refl _)
                    replace OW := OW.below hb (Nat.le_refl _)
                    replace RY := RY.below hb RY.lt
                    replace HB2 := HB2.trans (hb.mono HB2.size)
                    clear hb
                    refine hK.out _ _ ⟨RY.cell rfl, RY.cell rfl, RY.cell rfl⟩ (fun hHeld => ?_)
                    clear hK K
                    try simp only [Act.put, List.setIfInBounds_toArray, List.set_cons_zero, List.set_cons_succ]
                    refine oneI 17 rfl (by kernel_rfl) (by rfl) (fun K hK => ?_)
                    refine app_step OW HB2 HB2.size RV rfl rfl rfl rfl (by simp only [List.length_append] at *; omega) (by simp only [List.length_append] at *; omega) (fun v' w_7 OW' HB2' hg hat => ?_)
                    have hE := RY.lt
                    replace RY := apart_grown RY hg AY
                    replace AY := AY.next hE hat
                    have OW := OW'
                    have HB2 := HB2'
                    clear OW' HB2' hg hat
                    refine hK.out _ _ ⟨RY.cell rfl, RY.cell rfl, RY.cell rfl⟩ (fun hHeld => ?_)
                    clear hK K
                    try simp only [Act.put, List.setIfInBounds_toArray, List.set_cons_zero, List.set_cons_succ]
                    refine takeI 18 (v := ?_) rfl (by kernel_rfl) (by kernel_rfl) (by kernel_rfl) (fun _ _ _ h => h) (by rfl) ?_ (by assumption) ?_
                    rotate_left 1
                    · (intro w hSw; (try dsimp only at hSw); go_simp; try with_reducible rfl)
                    try simp only [Act.put, List.setIfInBounds_toArray, List.set_cons_zero, List.set_cons_succ]
                    refine doneI (by kernel_rfl) ?_
                    go_wp2_with fail
                    exact ⟨⟨j + 1, by omega, by go_num, by rw [HSN.out]; simpa [entBytes, List.append_assoc] using OW, HB2⟩, by simp [intOf]; omega⟩
                  · refine conv_step val rfl rfl (fun c2 w_8 RV hb => ?_)
                    have AV := OW.apart (Nat.le_refl _)
                    replace OW := OW.below hb (Nat.le_refl _)
                    replace RY := RY.below hb RY.lt
                    replace HB2 := HB2.trans (hb.mono HB2.size)
                    replace RM := RM.below hb RM.lt
                    clear hb
                    refine hK.out _ _ ⟨RY.cell rfl, RY.cell rfl, RY.cell rfl⟩ (fun hHeld => ?_)
                    clear hK K
                    try simp only [Act.put, List.setIfInBounds_toArray, List.set_cons_zero, List.set_cons_succ]
                    refine oneI 13 rfl (by kernel_rfl) (by rfl) (fun K hK => ?_)
                    refine app_step OW HB2 HB2.size RM rfl rfl rfl rfl (by simp only [List.length_append] at *; omega) (by simp only [List.length_append] at *; omega) (fun v' w_9 OW' HB2' hg hat => ?_)
                    have hE := RY.lt
                    replace RY := apart_grown RY hg AY
                    replace AY := AY.next hE hat
                    have hV := RV.lt
                    replace RV := apart_grown RV hg AV
                    replace AV := AV.next hV hat
                    have OW := OW'
                    have HB2 := HB2'
                    clear OW' HB2' hg hat
                    refine hK.out _ _ ⟨RY.cell rfl, RY.cell rfl, RY.cell rfl⟩ (fun hHeld => ?_)
                    clear hK K
                    try simp only [Act.put, List.setIfInBounds_toArray, List.set_cons_zero, List.set_cons_succ]
                    refine oneI 17 rfl (by kernel_rfl) (by rfl) (fun K hK => ?_)
                    refine app_step OW HB2 HB2.size RV rfl rfl rfl rfl (by simp only [List.length_append] at *; omega) (by simp only [List.length_append] at *; omega) (fun v' w_10 OW' HB2' hg hat => ?_)
                    have hE := RY.lt
                    replace RY := apart_grown RY hg AY
                    replace AY := AY.next hE hat
                    have OW := OW'
                    have HB2 := HB2'
                    clear OW' HB2' hg hat
                    refine hK.out _ _ ⟨RY.cell rfl, RY.cell rfl, RY.cell rfl⟩ (fun hHeld => ?_)
                    clear hK K
                    try simp only [Act.put, List.setIfInBounds_toArray, List.set_cons_zero, List.set_cons_succ]
                    refine takeI 18 (v := ?_) rfl (by kernel_rfl) (by kernel_rfl) (by kernel_rfl) (fun _ _ _ h => h) (by rfl) ?_ (by assumption) ?_
                    rotate_left 1
                    · (intro w hSw; (try dsimp only at hSw); go_simp; try with_reducible rfl)
                    try simp only [Act.put, List.setIfInBounds_toArray, List.set_cons_zero, List.set_cons_succ]
                    refine doneI (by kernel_rfl) ?_
                    go_wp2_with fail
                    exact ⟨⟨j + 1, by omega, by go_num, by rw [HSN.out]; simpa [entBytes, List.append_assoc] using OW, HB2⟩, by simp [intOf]; omega⟩
                · refine conv_step val rfl rfl (fun c2 w_11 RV hb => ?_)
                  have AV := OW.apart (Nat.le_refl _)
                  replace OW := OW.below hb (Nat.le_refl _)
                  replace RY := RY.below hb RY.lt
                  replace HB2 := HB2.trans (hb.mono HB2.size)
                  clear hb
                  refine hK.out _ _ ⟨RY.cell rfl, RY.cell rfl, RY.cell rfl⟩ (fun hHeld => ?_)
                  clear hK K
                  try simp only [Act.put, List.setIfInBounds_toArray, List.set_cons_zero, List.set_cons_succ]
                  refine oneI 12 rfl (by kernel_rfl) (by rfl) (fun K hK => ?_)
                  go_simp
                  rw [HWV.out]
                  have hb := (Below.refl w_11.heap.size w_11).alloc (Nat.le_refl _) (.cells #[.int .u8 (one g : Int), .int .u8 (val.size : Int)] 5)
                  have RM : Row (w_11.alloc (.cells #[.int .u8 (one g : Int), .int .u8 (val.size : Int)] 5)) w_11.heap.size 5 ((le (one g) 1 ++ le val.size 1).map bv ++ []) := (new_at rfl).cast (by rw [List.append_nil, two_bytes g val.size (by omega)])
                  replace OW := OW.below hb (Nat.le_refl _)
                  replace RY := RY.below hb RY.lt
                  replace HB2 := HB2.trans (hb.mono HB2.size)
                  replace RV := RV.below hb RV.lt
                  clear hb
                  generalize w_11.alloc (.cells #[.int .u8 (one g : Int), .int .u8 (val.size : Int)] 5) = w_12 at *
                  refine hK.out _ _ ⟨RY.cell rfl, RY.cell rfl, RY.cell rfl⟩ (fun hHeld => ?_)
                  clear hK K
                  try simp only [Act.put, List.setIfInBounds_toArray, List.set_cons_zero, List.set_cons_succ]
                  refine oneI 13 rfl (by kernel_rfl) (by rfl) (fun K hK => ?_)
                  refine app_step OW HB2 HB2.size RM rfl rfl rfl rfl (by simp only [List.length_append] at *; omega) (by simp only [List.length_append] at *; omega) (fun v' w_13 OW' HB2' hg hat => ?_)
                  have hE := RY.lt
                  replace RY := apart_grown RY hg AY
                  replace AY := AY.next hE hat
                  have hV := RV.lt
                  replace RV := apart_grown RV hg AV
                  replace AV := AV.next hV hat
                  have OW := OW'
                  have HB2 := HB2'
                  clear OW' HB2' hg hat
                  refine hK.out _ _ ⟨RY.cell rfl, RY.cell rfl, RY.cell rfl⟩ (fun hHeld => ?_)
                  clear hK K
                  try simp only [Act.put, List.setIfInBounds_toArray, List.set_cons_zero, List.set_cons_succ]
                  refine oneI 17 rfl (by kernel_rfl) (by rfl) (fun K hK => ?_)
                  refine app_step OW HB2 HB2.size RV rfl rfl rfl rfl (by simp only [List.length_append] at *; omega) (by simp only [List.length_append] at *; omega) (fun v' w_14 OW' HB2' hg hat => ?_)
                  have hE := RY.lt
                  replace RY := apart_grown RY hg AY
                  replace AY := AY.next hE hat
                  have OW := OW'
                  have HB2 := HB2'
                  clear OW' HB2' hg hat
                  refine hK.out _ _ ⟨RY.cell rfl, RY.cell rfl, RY.cell rfl⟩ (fun hHeld => ?_)
                  clear hK K
                  try simp only [Act.put, List.setIfInBounds_toArray, List.set_cons_zero, List.set_cons_succ]
                  refine takeI 18 (v := ?_) rfl (by kernel_rfl) (by kernel_rfl) (by kernel_rfl) (fun _ _ _ h => h) (by rfl) ?_ (by assumption) ?_
                  rotate_left 1
                  · (intro w hSw; (try dsimp only at hSw); go_simp; try with_reducible rfl)
                  try simp only [Act.put, List.setIfInBounds_toArray, List.set_cons_zero, List.set_cons_succ]
                  refine doneI (by kernel_rfl) ?_
                  go_wp2_with fail
                  exact ⟨⟨j + 1, by omega, by go_num, by rw [HSN.out]; simpa [entBytes, List.append_assoc] using OW, HB2⟩, by simp [intOf]; omega⟩
              · refine conv_step val rfl rfl (fun c2 w_15 RV hb => ?_)
                have AV := OW.apart (Nat.le_refl _)
                replace OW := OW.below hb (Nat.le_refl _)
                replace RY := RY.below hb RY.lt
                replace HB2 := HB2.trans (hb.mono HB2.size)
                clear hb
                refine hK.out _ _ ⟨RY.cell rfl, RY.cell rfl, RY.cell rfl⟩ (fun hHeld => ?_)
                clear hK K
                try simp only [Act.put, List.setIfInBounds_toArray, List.set_cons_zero, List.set_cons_succ]
                refine oneI 7 rfl (by kernel_rfl) (by rfl) (fun K hK => ?_)
                go_simp
                go_at_call 36
                refine (one_calls g _).mono ?_
                rintro e w_15 ⟨rfl, rfl⟩
                try go_wp2_with fail
                refine hK.out _ _ ⟨RY.cell rfl, RY.cell rfl, RY.cell rfl⟩ (fun hHeld => ?_)
                clear hK K
                try simp only [Act.put, List.setIfInBounds_toArray, List.set_cons_zero, List.set_cons_succ]
                refine oneI 12 rfl (by kernel_rfl) (by rfl) (fun K hK => ?_)
                go_simp
                rw [HWV.out]
                have hb := (Below.refl w_15.heap.size w_15).alloc (Nat.le_refl _) (.cells #[.int .u8 (one g : Int), .int .u8 (val.size : Int)] 5)
                have RM : Row (w_15.alloc (.cells #[.int .u8 (one g : Int), .int .u8 (val.size : Int)] 5)) w_15.heap.size 5 ((le (one g) 1 ++ le val.size 1).map bv ++ []) := (new_at rfl).cast (by rw [List.append_nil, two_bytes g val.size (by omega)])
                replace OW := OW.below hb (Nat.le_refl _)
                replace RY := RY.below hb RY.lt
                replace HB2 := HB2.trans (hb.mono HB2.size)
                replace RV := RV.below hb RV.lt
                clear hb
                generalize w_15.alloc (.cells #[.int .u8 (one g : Int), .int .u8 (val.size : Int)] 5) = w_17 at *
                refine hK.out _ _ ⟨RY.cell rfl, RY.cell rfl, RY.cell rfl⟩ (fun hHeld => ?_)
                clear hK K
                try simp only [Act.put, List.setIfInBounds_toArray, List.set_cons_zero, List.set_cons_succ]
                refine oneI 13 rfl (by kernel_rfl) (by rfl) (fun K hK => ?_)
                refine app_step OW HB2 HB2.size RM rfl rfl rfl rfl (by simp only [List.length_append] at *; omega) (by simp only [List.length_append] at *; omega) (fun v' w_18 OW' HB2' hg hat => ?_)
                have hE := RY.lt
                replace RY := apart_grown RY hg AY
                replace AY := AY.next hE hat
                have hV := RV.lt
                replace RV := apart_grown RV hg AV
                replace AV := AV.next hV hat
                have OW := OW'
                have HB2 := HB2'
                clear OW' HB2' hg hat
                refine hK.out _ _ ⟨RY.cell rfl, RY.cell rfl, RY.cell rfl⟩ (fun hHeld => ?_)
                clear hK K
                try simp only [Act.put, List.setIfInBounds_toArray, List.set_cons_zero, List.set_cons_succ]
                refine oneI 17 rfl (by kernel_rfl) (by rfl) (fun K hK => ?_)
                refine app_step OW HB2 HB2.size RV rfl rfl rfl rfl (by simp only [List.length_append] at *; omega) (by simp only [List.length_append] at *; omega) (fun v' w_19 OW' HB2' hg hat => ?_)
                have hE := RY.lt
                replace RY := apart_grown RY hg AY
                replace AY := AY.next hE hat
                have OW := OW'
                have HB2 := HB2'
                clear OW' HB2' hg hat
                refine hK.out _ _ ⟨RY.cell rfl, RY.cell rfl, RY.cell rfl⟩ (fun hHeld => ?_)
                clear hK K
                try simp only [Act.put, List.setIfInBounds_toArray, List.set_cons_zero, List.set_cons_succ]
                refine takeI 18 (v := ?_) rfl (by kernel_rfl) (by kernel_rfl) (by kernel_rfl) (fun _ _ _ h => h) (by rfl) ?_ (by assumption) ?_
                rotate_left 1
                · (intro w hSw; (try dsimp only at hSw); go_simp; try with_reducible rfl)
                try simp only [Act.put, List.setIfInBounds_toArray, List.set_cons_zero, List.set_cons_succ]
                refine doneI (by kernel_rfl) ?_
                go_wp2_with fail
                exact ⟨⟨j + 1, by omega, by go_num, by rw [HSN.out]; simpa [entBytes, List.append_assoc] using OW, HB2⟩, by simp [intOf]; omega⟩
            · refine conv_step val rfl rfl (fun c2 w_20 RV hb => ?_)
              have AV := OW.apart (Nat.le_refl _)
              replace OW := OW.below hb (Nat.le_refl _)
              replace RY := RY.below hb RY.lt
              replace HB2 := HB2.trans (hb.mono HB2.size)
              replace RK := RK.below hb RK.lt
              clear hb
              refine hK.out _ _ ⟨RY.cell rfl, RY.cell rfl, RY.cell rfl⟩ (fun hHeld => ?_)
              clear hK K
              try simp only [Act.put, List.setIfInBounds_toArray, List.set_cons_zero, List.set_cons_succ]
              refine oneI 4 rfl (by kernel_rfl) (by rfl) (fun K hK => ?_)
              refine app_step OW HB2 HB2.size RK rfl rfl rfl rfl (by simp only [List.length_append] at *; omega) (by simp only [List.length_append] at *; omega) (fun v' w_21 OW' HB2' hg hat => ?_)
              have hE := RY.lt
              replace RY := apart_grown RY hg AY
              replace AY := AY.next hE hat
              have hV := RV.lt
              replace RV := apart_grown RV hg AV
              replace AV := AV.next hV hat
              have OW := OW'
              have HB2 := HB2'
              clear OW' HB2' hg hat
              refine hK.out _ _ ⟨RY.cell rfl, RY.cell rfl, RY.cell rfl⟩ (fun hHeld => ?_)
              clear hK K
              try simp only [Act.put, List.setIfInBounds_toArray, List.set_cons_zero, List.set_cons_succ]
              refine oneI 7 rfl (by kernel_rfl) (by rfl) (fun K hK => ?_)
              go_simp
              go_at_call 36
              refine (one_calls g _).mono ?_
              rintro e w_21 ⟨rfl, rfl⟩
              try go_wp2_with fail
              refine hK.out _ _ ⟨RY.cell rfl, RY.cell rfl, RY.cell rfl⟩ (fun hHeld => ?_)
              clear hK K
              try simp only [Act.put, List.setIfInBounds_toArray, List.set_cons_zero, List.set_cons_succ]
              refine oneI 12 rfl (by kernel_rfl) (by rfl) (fun K hK => ?_)
              go_simp
              rw [HWV.out]
              have hb := (Below.refl w_21.heap.size w_21).alloc (Nat.le_refl _) (.cells #[.int .u8 (one g : Int), .int .u8 (val.size : Int)] 5)
              have RM : Row (w_21.alloc (.cells #[.int .u8 (one g : Int), .int .u8 (val.size : Int)] 5)) w_21.heap.size 5 ((le (one g) 1 ++ le val.size 1).map bv ++ []) := (new_at rfl).cast (by rw [List.append_nil, two_bytes g val.size (by omega)])
              replace OW := OW.below hb (Nat.le_refl _)
              replace RY := RY.below hb RY.lt
              replace HB2 := HB2.trans (hb.mono HB2.size)
              replace RV := RV.below hb RV.lt
              clear hb
              generalize w_21.alloc (.cells #[.int .u8 (one g : Int), .int .u8 (val.size : Int)] 5) = w_23 at *
              refine hK.out _ _ ⟨RY.cell rfl, RY.cell rfl, RY.cell rfl⟩ (fun hHeld => ?_)
              clear hK K
              try simp only [Act.put, List.setIfInBounds_toArray, List.set_cons_zero, List.set_cons_succ]
              refine oneI 13 rfl (by kernel_rfl) (by rfl) (fun K hK => ?_)
              refine app_step OW HB2 HB2.size RM rfl rfl rfl rfl (by simp only [List.length_append] at *; omega) (by simp only [List.length_append] at *; omega) (fun v' w_24 OW' HB2' hg hat => ?_)
              have hE := RY.lt
              replace RY := apart_grown RY hg AY
              replace AY := AY.next hE hat
              have hV := RV.lt
              replace RV := apart_grown RV hg AV
              replace AV := AV.next hV hat
              have OW := OW'
              have HB2 := HB2'
              clear OW' HB2' hg hat
              refine hK.out _ _ ⟨RY.cell rfl, RY.cell rfl, RY.cell rfl⟩ (fun hHeld => ?_)
              clear hK K
              try simp only [Act.put, List.setIfInBounds_toArray, List.set_cons_zero, List.set_cons_succ]
              refine oneI 17 rfl (by kernel_rfl) (by rfl) (fun K hK => ?_)
              refine app_step OW HB2 HB2.size RV rfl rfl rfl rfl (by simp only [List.length_append] at *; omega) (by simp only [List.length_append] at *; omega) (fun v' w_25 OW' HB2' hg hat => ?_)
              have hE := RY.lt
              replace RY := apart_grown RY hg AY
              replace AY := AY.next hE hat
              have OW := OW'
              have HB2 := HB2'
              clear OW' HB2' hg hat
              refine hK.out _ _ ⟨RY.cell rfl, RY.cell rfl, RY.cell rfl⟩ (fun hHeld => ?_)
              clear hK K
              try simp only [Act.put, List.setIfInBounds_toArray, List.set_cons_zero, List.set_cons_succ]
              refine takeI 18 (v := ?_) rfl (by kernel_rfl) (by kernel_rfl) (by kernel_rfl) (fun _ _ _ h => h) (by rfl) ?_ (by assumption) ?_
              rotate_left 1
              · (intro w hSw; (try dsimp only at hSw); go_simp; try with_reducible rfl)
              try simp only [Act.put, List.setIfInBounds_toArray, List.set_cons_zero, List.set_cons_succ]
              refine doneI (by kernel_rfl) ?_
              go_wp2_with fail
              exact ⟨⟨j + 1, by omega, by go_num, by rw [HSN.out]; simpa [entBytes, List.append_assoc] using OW, HB2⟩, by simp [intOf]; omega⟩
          · refine conv_step val rfl rfl (fun c2 w_26 RV hb => ?_)
            have AV := OW.apart (Nat.le_refl _)
            replace OW := OW.below hb (Nat.le_refl _)
            replace RY := RY.below hb RY.lt
            replace HB2 := HB2.trans (hb.mono HB2.size)
            clear hb
            refine hK.out _ _ ⟨RY.cell rfl, RY.cell rfl, RY.cell rfl⟩ (fun hHeld => ?_)
            clear hK K
            try simp only [Act.put, List.setIfInBounds_toArray, List.set_cons_zero, List.set_cons_succ]
            refine oneI 3 rfl (by kernel_rfl) (by rfl) (fun K hK => ?_)
            refine conv_step key rfl rfl (fun c w_27 RK hb => ?_)
            replace OW := OW.below hb (Nat.le_refl _)
            replace RY := RY.below hb RY.lt
            replace HB2 := HB2.trans (hb.mono HB2.size)
            replace RV := RV.below hb RV.lt
            clear hb
            refine hK.out _ _ ⟨RY.cell rfl, RY.cell rfl, RY.cell rfl⟩ (fun hHeld => ?_)
            clear hK K
            try simp only [Act.put, List.setIfInBounds_toArray, List.set_cons_zero, List.set_cons_succ]
            refine oneI 4 rfl (by kernel_rfl) (by rfl) (fun K hK => ?_)
            refine app_step OW HB2 HB2.size RK rfl rfl rfl rfl (by simp only [List.length_append] at *; omega) (by simp only [List.length_append] at *; omega) (fun v' w_28 OW' HB2' hg hat => ?_)
            have hE := RY.lt
            replace RY := apart_grown RY hg AY
            replace AY := AY.next hE hat
            have hV := RV.lt
            replace RV := apart_grown RV hg AV
            replace AV := AV.next hV hat
            have OW := OW'
            have HB2 := HB2'
            clear OW' HB2' hg hat
            refine hK.out _ _ ⟨RY.cell rfl, RY.cell rfl, RY.cell rfl⟩ (fun hHeld => ?_)
            clear hK K
            try simp only [Act.put, List.setIfInBounds_toArray, List.set_cons_zero, List.set_cons_succ]
            refine oneI 7 rfl (by kernel_rfl) (by rfl) (fun K hK => ?_)
            go_simp
            go_at_call 36
            refine (one_calls g _).mono ?_
            rintro e w_28 ⟨rfl, rfl⟩
            try go_wp2_with fail
            refine hK.out _ _ ⟨RY.cell rfl, RY.cell rfl, RY.cell rfl⟩ (fun hHeld => ?_)
            clear hK K
            try simp only [Act.put, List.setIfInBounds_toArray, List.set_cons_zero, List.set_cons_succ]
            refine oneI 12 rfl (by kernel_rfl) (by rfl) (fun K hK => ?_)
            go_simp
            rw [HWV.out]
            have hb := (Below.refl w_28.heap.size w_28).alloc (Nat.le_refl _) (.cells #[.int .u8 (one g : Int), .int .u8 (val.size : Int)] 5)
            have RM : Row (w_28.alloc (.cells #[.int .u8 (one g : Int), .int .u8 (val.size : Int)] 5)) w_28.heap.size 5 ((le (one g) 1 ++ le val.size 1).map bv ++ []) := (new_at rfl).cast (by rw [List.append_nil, two_bytes g val.size (by omega)])
            replace OW := OW.below hb (Nat.le_refl _)
            replace RY := RY.below hb RY.lt
            replace HB2 := HB2.trans (hb.mono HB2.size)
            replace RV := RV.below hb RV.lt
            clear hb
            generalize w_28.alloc (.cells #[.int .u8 (one g : Int), .int .u8 (val.size : Int)] 5) = w_30 at *
            refine hK.out _ _ ⟨RY.cell rfl, RY.cell rfl, RY.cell rfl⟩ (fun hHeld => ?_)
            clear hK K
            try simp only [Act.put, List.setIfInBounds_toArray, List.set_cons_zero, List.set_cons_succ]
            refine oneI 13 rfl (by kernel_rfl) (by rfl) (fun K hK => ?_)
            refine app_step OW HB2 HB2.size RM rfl rfl rfl rfl (by simp only [List.length_append] at *; omega) (by simp only [List.length_append] at *; omega) (fun v' w_31 OW' HB2' hg hat => ?_)
            have hE := RY.lt
            replace RY := apart_grown RY hg AY
            replace AY := AY.next hE hat
            have hV := RV.lt
            replace RV := apart_grown RV hg AV
            replace AV := AV.next hV hat
            have OW := OW'
            have HB2 := HB2'
            clear OW' HB2' hg hat
            refine hK.out _ _ ⟨RY.cell rfl, RY.cell rfl, RY.cell rfl⟩ (fun hHeld => ?_)
            clear hK K
            try simp only [Act.put, List.setIfInBounds_toArray, List.set_cons_zero, List.set_cons_succ]
            refine oneI 17 rfl (by kernel_rfl) (by rfl) (fun K hK => ?_)
            refine app_step OW HB2 HB2.size RV rfl rfl rfl rfl (by simp only [List.length_append] at *; omega) (by simp only [List.length_append] at *; omega) (fun v' w_32 OW' HB2' hg hat => ?_)
            have hE := RY.lt
            replace RY := apart_grown RY hg AY
            replace AY := AY.next hE hat
            have OW := OW'
            have HB2 := HB2'
            clear OW' HB2' hg hat
            refine hK.out _ _ ⟨RY.cell rfl, RY.cell rfl, RY.cell rfl⟩ (fun hHeld => ?_)
            clear hK K
            try simp only [Act.put, List.setIfInBounds_toArray, List.set_cons_zero, List.set_cons_succ]
            refine takeI 18 (v := ?_) rfl (by kernel_rfl) (by kernel_rfl) (by kernel_rfl) (fun _ _ _ h => h) (by rfl) ?_ (by assumption) ?_
            rotate_left 1
            · (intro w hSw; (try dsimp only at hSw); go_simp; try with_reducible rfl)
            try simp only [Act.put, List.setIfInBounds_toArray, List.set_cons_zero, List.set_cons_succ]
            refine doneI (by kernel_rfl) ?_
            go_wp2_with fail
            exact ⟨⟨j + 1, by omega, by go_num, by rw [HSN.out]; simpa [entBytes, List.append_assoc] using OW, HB2⟩, by simp [intOf]; omega⟩
        · obtain rfl : j = es.length := by omega
          rw [List.take_length] at hp
          have hMl := FL.out es.length (Nat.le_refl _)
          rw [List.take_length] at hMl
          replace hMl : (HD ++ es.flatMap entBytes).length ≤ 252 := by have := HL.out; rw [List.length_append]; omega
          have hlt0 : ¬ (es.length : Int) < (es.length : Int) := by omega
          clear FL HL PL HEG ES hlt
          generalize HD ++ es.flatMap entBytes = M at *
          have HP := Lib.hid hp
          have HBB := Lib.hid hB
          clear hp hB
          go_wp2_with fail
          go_loopw [3] (fun bx wx => ∃ m : Nat, m ≤ 252 - M.length ∧ OwnB wx w0.heap.size bx (M ++ List.replicate m 0) ∧ Below w0.heap.size w0 wx) (fun bx _ => 252 - slen bx)
          case atStart => exact ⟨0, by omega, by simpa using HP.out, HBB.out⟩
          case round =>
            clear HP HBB x6 X3
            obtain ⟨m, hm, hp, hB⟩ := hrel
            have hML : (M ++ List.replicate m (0 : UInt8)).length = M.length + m := by rw [List.length_append, List.length_replicate]
            unfold OwnB at hp
            rw [hML] at hp
            obtain ⟨a2, cap2, rfl, _⟩ := Reel.own_shape hp
            by_cases hlt : M.length + m < 252
            · have hlt' : ((M.length + m : Nat) : Int) < 252 := by omega
              have HP := Lib.hid hp
              have HBB := Lib.hid hB
              clear hp hB hML
              go_wp2_with (refine app1 (news := [.int .u8 0]) HP.out HBB.out HBB.out.size 41 Try.underlying41 Reel.info_u8 rfl (by decide) (by decide) (by omega) rfl (by simp [Value.oneCell']) rfl rfl rfl rfl ?_; intro v' w3 ho3 hb3 _)
              have hfin : OwnB w3 w0.heap.size v' (M ++ List.replicate (m + 1) 0) := by
                have e : (M ++ List.replicate (m + 1) (0 : UInt8)).length = M.length + m + 1 := by rw [List.length_append, List.length_replicate]; omega
                unfold OwnB
                rw [e]
                exact cast_own ho3 (by rw [List.replicate_succ', ← List.append_assoc, List.map_append, List.map_append, List.map_append]; rfl)
              obtain ⟨a3, cap3, rfl, _⟩ := Reel.own_shape ho3
              exact ⟨⟨m + 1, by omega, hfin, hb3⟩, by show 252 - (M.length + m + 1) < 252 - (M.length + m); omega⟩
            · have h252 : M.length + m = 252 := by omega
              rw [h252] at hp hML ⊢
              obtain rfl : m = 252 - M.length := by omega
              have hlt' : ¬ ((252 : Nat) : Int) < 252 := by omega
              obtain ⟨L, hL⟩ : ∃ L, M ++ List.replicate (252 - M.length) (0 : UInt8) = L := ⟨_, rfl⟩
              rw [hL] at hp
              rw [hL] at hML
              have hLl : L.length = 252 := hML
              replace hp : OwnB wr w0.heap.size (.slice a2 252 cap2) L := by unfold OwnB; rw [hML]; exact hp
              have hNL : N = Crc.sealed L := by rw [← hL]; exact NN.out
              have HP := Lib.hid hp
              have HBB := Lib.hid hB
              have HN := Lib.hid hNL
              have LL := Lib.hid hLl
              clear hp hB hNL hLl hL NN hML h252
              go_wp2_with fail
              obtain ⟨Z, f, hfb, ⟨z0, hz0⟩, hcl⟩ := class_of Try.prog wr
              haveI : Nonempty Z := ⟨z0⟩
              have cv := fun z => string_of (HP.out.below (hfb z) (Nat.le_refl _))
              have hrs := fun w1 => Crc.refsum_calls (bs L) w1 (by rw [bs_size, LL.out]; omega)
              simp only [bs_data] at hrs
              have C1 := Lib.hid (hcl _ _ _ (fun w1 _ => (hrs w1).mono (fun e w' h => ⟨h.1, h.2 ▸ Below.refl _ _⟩)))
              have C2 := Lib.hid (hcl _ _ _ (fun w1 _ => Crc.reftail_calls (Crc.sum L) w1))
              have HFB := Lib.hid hfb
              have s1 : (bs L).size = 252 := LL.out
              have s2 : (bs (Crc.tail (Crc.sum L))).size = 4 := rfl
              clear hfb hcl hrs
              refine Lex.region_class hz0 (by kernel_rfl) (by kernel_rfl) ?_
              repeat (go_big_quiet_step (first | (go_at_call 38; with_reducible exact C1.out _) | (go_at_call 37; with_reducible exact C2.out _)))
              refine wpQuiet_nil ?_
              rintro w5 ⟨z, rfl⟩
              have h1 := HFB.out z
              have hres : bs L ++ bs (Crc.tail (Crc.sum L)) = bs N := by rw [bs_append, HN.out]; rfl
              go_wp2_with fail
              go_ret
              exact ⟨congrArg (fun x => Ending.returned (.string x)) hres, B.out.trans ((HBB.out.trans (h1.mono HBB.out.size)).mono B.out.size)⟩

theorem refbytes_calls (n : Nd) (hfit : n.fits = true) (a : Option Addr) (cap : Nat) (w : World) (hE : Es w a n.list) :
    Calls Try.prog 16 #[.agg (n.cells (.slice a n.list.length cap)).toArray] w fun e w' => e = .returned (.string (bs n.bytes)) ∧ Below w.heap.size w w' := by
  cases hh : n.hasHigh
  · exact refbytes_false n hfit hh a cap w hE
  · exact refbytes_true n hfit hh a cap w hE
end Go.Proofs.Ytebmalmciakhcaa.Node
