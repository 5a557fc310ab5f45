/- sign.Read. -/
import Derived.Test.YtcfjooeagfollaaSign
namespace Go.Proofs.Ytcfjooeagfollaa.Sign
open Go.RowKit Go.Proofs.Ytcfjooeagfollaa.Mem Go.Proofs.Ytcfjooeagfollaa.Bytes Go.Proofs.Ytcfjooeagfollaa.Num
set_option linter.unusedSimpArgs false
set_option linter.unusedVariables false
set_option maxRecDepth 20000

/-- What bytes would be the code of. -/
def cand (l : List UInt8) : V :=
  if (l.getD 0 0).toNat = 1 then ⟨1, (bev (l.drop 1) : Int) - 9223372036854775808, ⟨#[]⟩⟩ else
  if (l.getD 0 0).toNat = 2 ∧ (l.getD 8 0).toNat ≤ 7 then ⟨2, 0, bs ((l.drop 1).take (l.getD 8 0).toNat)⟩ else ⟨((l.getD 0 0).toNat : Int), 0, ⟨#[]⟩⟩
def readV (l : List UInt8) : Option V := if l.length = 9 ∧ (cand l).good = true ∧ (cand l).code = l then some (cand l) else none
theorem cand_code {v : V} (hg : v.good = true) (hf : v.fits) : cand v.code = v := by
  obtain ⟨k, n, s⟩ := v
  obtain ⟨f1, f2⟩ := hf
  simp only at f1 f2
  rcases (V.good_iff _).1 hg with ⟨h1, h2⟩ | ⟨h1, h2, h3⟩
  · simp only at h1 h2
    subst h1
    obtain rfl := size_zero h2
    have hu := up_lt f1 f2
    have e : V.code ⟨1, n, ⟨#[]⟩⟩ = 1 :: be (up n) 8 := rfl
    rw [e]
    have hb : bev (be (up n) 8) = up n := bev_be (by omega)
    unfold cand
    rw [if_pos (show ((1 :: be (up n) 8).getD 0 0).toNat = 1 from rfl), List.drop_succ_cons, List.drop_zero, hb]
    congr 1
    unfold up
    omega
  · simp only at h1 h2 h3
    subst h1 h2
    have es : s.data.toList.length = s.size := rfl
    have e : V.code ⟨2, 0, s⟩ = 2 :: (s.data.toList ++ List.replicate (7 - s.size) 0 ++ [UInt8.ofNat s.size]) := rfl
    rw [e]
    have e8 : (2 :: (s.data.toList ++ List.replicate (7 - s.size) 0 ++ [UInt8.ofNat s.size])).getD 8 0 = UInt8.ofNat s.size := by
      have : (s.data.toList ++ List.replicate (7 - s.size) (0 : UInt8)).length = 7 := by rw [List.length_append, es, List.length_replicate]; omega
      rw [List.getD_eq_getElem?_getD, List.getElem?_cons_succ, List.getElem?_append_right (by omega), this]
      rfl
    have en : (UInt8.ofNat s.size).toNat = s.size := by simp; omega
    unfold cand
    rw [if_neg (by simp), e8, en, if_pos ⟨rfl, h3⟩, List.drop_succ_cons, List.drop_zero]
    congr 1
    rw [List.append_assoc, List.take_append_of_le_length (by omega), List.take_of_length_le (by omega)]
    rfl
theorem cand_fits {l : List UInt8} (h : l.length = 9) : (cand l).fits := by
  have hb := bev_lt (l.drop 1)
  rw [List.length_drop, h] at hb
  unfold cand V.fits
  split
  · simp only; omega
  · split <;> (simp only; omega)
theorem readV_iff (l : List UInt8) (v : V) : readV l = some v ↔ v.good = true ∧ v.fits ∧ v.code = l := by
  constructor
  · intro h
    unfold readV at h
    split at h
    · rename_i hc
      cases h
      exact ⟨hc.2.1, cand_fits hc.1, hc.2.2⟩
    · cases h
  · rintro ⟨hg, hf, rfl⟩
    unfold readV
    rw [cand_code hg hf, if_pos ⟨V.code_length hg, hg, rfl⟩]
def readOut (l : List UInt8) : V × Int := match readV l with
  | none => (noV, 3)
  | some v => (v, 0)
theorem readOut_none {l : List UInt8} (h : readV l = none) : readOut l = (noV, 3) := by rw [readOut, h]
theorem readOut_some {l : List UInt8} {v : V} (h : readV l = some v) : readOut l = (v, 0) := by rw [readOut, h]

theorem new_at {w : World} {b : Nat} {e : TypeId} {cs : List Value} (h : b = w.heap.size) : Row (w.alloc (.cells cs.toArray e)) b e cs := h ▸ Row.new w e cs
theorem below_one' {B b : Nat} {w w1 w2 : World} (h : Below B w w1) (k : Chg (One b) w1 w2) (hB : B ≤ w1.heap.size) (hb : B ≤ b) : Below B w w2 := h.trans (k.below hB (fun x hx => by rw [show x = b from hx]; exact hb))
theorem cells_one (v : V) : ∀ x ∈ v.cells, x.oneCell' = true := by simp [V.cells, Value.oneCell']

theorem or_byte (u : Nat) (b : UInt8) (h : u < 72057594037927936) : Go.bits .or .u64 (IntKind.u64.wrap ((u : Int) * 256)) (b.toNat : Int) = ((u * 256 + b.toNat : Nat) : Int) := by
  have hb := b.toNat_lt
  have hw : IntKind.u64.wrap ((u : Int) * 256) = ((u * 256 : Nat) : Int) := by rw [wrap_u64]; omega
  rw [hw]
  have hk : ∀ n : Int, 0 ≤ n → n < 2 ^ 64 → IntKind.u64.wrap n = n := fun n h0 h1 => by
    rw [wrap_u64]
    omega
  have h2 := (bits_nat .u64 64 (by decide) hk (u * 256) b.toNat (by omega) (by omega)).2
  rw [h2]
  congr 1
  have := Nat.two_pow_add_eq_or_of_lt (i := 8) (b := b.toNat) (by omega) u
  rw [Nat.mul_comm u 256]
  exact this.symm

set_option maxHeartbeats 2000000 in
theorem read_calls (s : ByteArray) (w : World) (hs : s.size ≤ 9223372036854775000) : Calls Try.prog 143 #[.string s] w fun e w' => e = .returned (.tuple #[(readOut s.data.toList).1.val, .int .i64 (readOut s.data.toList).2]) ∧ Below w.heap.size w w' := by
  have hl : s.data.toList.length = s.size := rfl
  have hR : Row (w.alloc (.cells noV.cells.toArray 81)) w.heap.size 81 noV.cells := new_at rfl
  have hb : Below w.heap.size w (w.alloc (.cells noV.cells.toArray 81)) := (Below.refl _ _).alloc (Nat.le_refl _) _
  have fin : ∀ (w' : World) (a : Act), readV s.data.toList = none → Row w' w.heap.size 81 noV.cells → Below w.heap.size w w' → a.tmps.getD 2 undef = .pointer (some ⟨w.heap.size, 0, none⟩) → a.tmps.getD 3 undef = .int .i64 3 → a.defers = [] →
      bodyPost Try.prog Try.f143 (fun e w' => e = .returned (.tuple #[(readOut s.data.toList).1.val, .int .i64 (readOut s.data.toList).2]) ∧ Below w.heap.size w w') .ret a w' := fun w' a hnn hr hbb h2 h3 hd =>
    ret_row2 hr Try.results143 Try.underlying81 rfl (by kernel_rfl) h2 hd ⟨by rw [readOut_none hnn, h3], hbb⟩
  have FIN := Lib.hid fin
  clear fin
  by_cases h9 : s.size = 9
  · have d9 : ((s.size : Int) != 9) = false := by simp; omega
    have i8 : 8 < s.size := by omega
    have i0 : 0 < s.size := by omega
    have i8' : (8 : Int) < (s.size : Int) := by omega
    obtain ⟨a, ha⟩ : ∃ a, (s[0]'i0).toNat = a := ⟨_, rfl⟩
    obtain ⟨c, hc⟩ : ∃ c, (s[8]'i8).toNat = c := ⟨_, rfl⟩
    have ha2 : a < 256 := by rw [← ha]; exact (s[0]'i0).toNat_lt
    have hc2 : c < 256 := by rw [← hc]; exact (s[8]'i8).toNat_lt
    have hga : (s.data.toList.getD 0 0).toNat = a := by rw [← ha, List.getD_eq_getElem?_getD, List.getElem?_eq_getElem (by rw [hl]; exact i0)]; rfl
    have hgc : (s.data.toList.getD 8 0).toNat = c := by rw [← hc, List.getD_eq_getElem?_getD, List.getElem?_eq_getElem (by rw [hl]; exact i8)]; rfl
    have HGA := Lib.hid hga
    have HGC := Lib.hid hgc
    have HL := Lib.hid hl
    have hfit := Lib.hid (cand_fits (show s.data.toList.length = 9 by rw [hl, h9]))
    have hext : s.extract 1 9 = bs (s.data.toList.drop 1) := by have := extract_drop s 1; rwa [h9] at this
    clear hga hgc hl
    by_cases a1 : a = 1
    · subst a1
      have hcand : cand s.data.toList = ⟨1, (bev (s.data.toList.drop 1) : Int) - 9223372036854775808, ⟨#[]⟩⟩ := by unfold cand; rw [if_pos HGA.out]
      have hX : Row ((w.alloc (.cells noV.cells.toArray 81)).alloc (.cells [.int .i64 1, .int .i64 0, .string ⟨#[]⟩].toArray 81)) (w.heap.size + 1) 81 [.int .i64 1, .int .i64 0, .string ⟨#[]⟩] := new_at (by simp)
      have hR2 := hR.alloc (.cells [.int .i64 1, .int .i64 0, .string ⟨#[]⟩].toArray 81)
      have hb2 := hb.alloc hb.size (.cells [.int .i64 1, .int .i64 0, .string ⟨#[]⟩].toArray 81)
      have hl8 : (s.data.toList.drop 1).length = 8 := by rw [List.length_drop, HL.out, h9]
      obtain ⟨l, hl1⟩ : ∃ l, l = s.data.toList.drop 1 := ⟨_, rfl⟩
      rw [← hl1] at hl8 hcand hext
      have HL1 := Lib.hid hl1
      clear hl1
      have hb8 : (bs l).size = 8 := hl8
      have hrb := run_bytes (P := Try.prog) ((w.alloc (.cells #[.int .i64 0, .int .i64 0, .string ⟨#[]⟩] 81)).alloc (.cells #[.int .i64 1, .int .i64 0, .string ⟨#[]⟩] 81)) 9 112 5 (bs l) Try.underlying9 Try.underlying112 Try.underlying5
      rw [show ((w.alloc (.cells #[.int .i64 0, .int .i64 0, .string ⟨#[]⟩] 81)).alloc (.cells #[.int .i64 1, .int .i64 0, .string ⟨#[]⟩] 81)).heap.size = w.heap.size + 2 by simp] at hrb
      obtain ⟨cc, w3, hrun, hcc, hrow, hbw, hsz⟩ := hrb
      rw [hb8] at hrun
      rw [bs_data] at hrow
      have hX' : Row ((w.alloc (.cells #[.int .i64 0, .int .i64 0, .string ⟨#[]⟩] 81)).alloc (.cells #[.int .i64 1, .int .i64 0, .string ⟨#[]⟩] 81)) (w.heap.size + 1) 81 [.int .i64 1, .int .i64 0, .string ⟨#[]⟩] := hX
      have hR2' : Row ((w.alloc (.cells #[.int .i64 0, .int .i64 0, .string ⟨#[]⟩] 81)).alloc (.cells #[.int .i64 1, .int .i64 0, .string ⟨#[]⟩] 81)) w.heap.size 81 noV.cells := hR2
      have hb2' : Below w.heap.size w ((w.alloc (.cells #[.int .i64 0, .int .i64 0, .string ⟨#[]⟩] 81)).alloc (.cells #[.int .i64 1, .int .i64 0, .string ⟨#[]⟩] 81)) := hb2
      have X3 := Lib.hid (hX'.below hbw (by omega))
      have R3 := Lib.hid (hR2'.below hbw (by omega))
      have B3 := Lib.hid (hb2'.trans (hbw.mono (by omega)))
      have x0 := hX'.cell (i := 0) rfl
      clear hX hX' hR2 hR2' hb2 hb2'
      have ROW := Lib.hid hrow
      have CAND := Lib.hid hcand
      have xx0 := X3.out.cell (i := 0) rfl
      have xx1 := X3.out.cell (i := 1) rfl
      have ff1 := X3.out.frozen 1 (by simp)
      have HL8 := Lib.hid hl8
      clear hbw hrow hcand hcc hsz hb8 hl8 hR hb
      go_enter Try.func143, Try.ntmps143
      go_wp2_with fail
      go_loop [6, 30] (fun u i => ∃ j : Nat, j ≤ 8 ∧ i = .int .i64 j ∧ u = .int .u64 (bev (l.take j) : Int)) (fun u i => 8 - (intOf i).toNat)
      case atStart => exact ⟨0, by omega, rfl, rfl⟩
      case round =>
        obtain ⟨j, hj, rfl, rfl⟩ := hrel
        by_cases hlt : j < 8
        · have hjl : j < l.length := by rw [HL8.out]; exact hlt
          have hcell := ROW.out.cell (i := j) (v := .int .u8 (l[j].toNat : Int)) (by rw [List.getElem?_append_left (by rw [List.length_map]; exact hjl)]; simp [hjl, bv])
          have hb0 := l[j].toNat_lt
          -- LOOP
          have hblt := bev_lt (l.take j)
          rw [List.length_take_of_le (by omega)] at hblt
          have hp : (256 : Nat) ^ j ≤ 256 ^ 7 := Nat.pow_le_pow_right (by omega) (by omega)
          have hor := or_byte (bev (l.take j)) l[j] (Nat.lt_of_lt_of_le hblt hp)
          rw [← bev_snoc, ← List.take_succ_eq_append_getElem hjl] at hor
          have HOR := Lib.hid hor
          clear hor hblt hp
          go_wp2_with fail
          exact ⟨⟨j + 1, by omega, by go_num, by rw [HOR.out]⟩, by simp [intOf]; omega⟩
        · obtain rfl : j = 8 := by omega
          rw [List.take_of_length_le (Nat.le_of_eq HL8.out)]
          have hbl := bev_lt l
          rw [HL8.out] at hbl
          have hdx := down_xor (show bev l < 18446744073709551616 by omega)
          have hff : V.fits (⟨1, (bev l : Int) - 9223372036854775808, ⟨#[]⟩⟩ : V) := by have := hfit.out; rwa [CAND.out] at this
          have hgood : V.good (⟨1, (bev l : Int) - 9223372036854775808, ⟨#[]⟩⟩ : V) = true := by simp [V.good]; rfl
          have hset := X3.out.set 1 (.int .i64 ((bev l : Int) - 9223372036854775808))
          have hchg : Chg (One (w.heap.size + 1)) w3 (w3.setCell ⟨w.heap.size + 1, 1, none⟩ (.int .i64 ((bev l : Int) - 9223372036854775808))) := (Chg.refl _ _).put _ _
          have X4 : Row (w3.setCell ⟨w.heap.size + 1, 1, none⟩ (.int .i64 ((bev l : Int) - 9223372036854775808))) (w.heap.size + 1) 81 (V.cells (⟨1, (bev l : Int) - 9223372036854775808, ⟨#[]⟩⟩ : V)) := hset.cast rfl
          have R4 := R3.out.chg hchg (by show ¬ w.heap.size = w.heap.size + 1; omega)
          have B4 := below_one' B3.out hchg B3.out.size (by omega)
          have ho : codeOut (⟨1, (bev l : Int) - 9223372036854775808, ⟨#[]⟩⟩ : V) = (V.code (⟨1, (bev l : Int) - 9223372036854775808, ⟨#[]⟩⟩ : V), 0) := by unfold codeOut; rw [if_pos hgood]
          have hcc := code_calls (⟨1, (bev l : Int) - 9223372036854775808, ⟨#[]⟩⟩ : V)
          have e0 := X4.cell (i := 0) rfl
          have e1 := X4.cell (i := 1) rfl
          have e2 := X4.cell (i := 2) rfl
          rw [ho] at hcc
          have XX4 := Lib.hid X4
          have RR4 := Lib.hid R4
          have BB4 := Lib.hid B4
          have HCC := Lib.hid hcc
          clear hset hchg X4 R4 B4 hcc ho hbl
          go_wp2_with fail
          clear e0 e1 e2 xx0 xx1 ff1 hdx
          refine (HCC.out _ hff).mono ?_
          rintro e w5 ⟨rfl, hb5⟩
          have X5 := Lib.hid (XX4.out.below hb5 XX4.out.lt)
          have R5 := Lib.hid (RR4.out.below hb5 RR4.out.lt)
          have B5 := Lib.hid (BB4.out.trans (hb5.mono BB4.out.size))
          clear hb5
          by_cases hq : V.code (⟨1, (bev l : Int) - 9223372036854775808, ⟨#[]⟩⟩ : V) = s.data.toList
          · have hss : readV s.data.toList = some (⟨1, (bev l : Int) - 9223372036854775808, ⟨#[]⟩⟩ : V) := (readV_iff _ _).2 ⟨hgood, hff, hq⟩
            have hq1 : ((bs (V.code (⟨1, (bev l : Int) - 9223372036854775808, ⟨#[]⟩⟩ : V))).toList == s.toList) = true := by rw [beq_iff_eq, hq]; rfl
            have SS := Lib.hid hss
            clear hss hq
            go_wp2_with (first
              | (refine store_row R5.out (V.cells (⟨1, (bev l : Int) - 9223372036854775808, ⟨#[]⟩⟩ : V)) 81 (by kernel_rfl) rfl (cells_one _) rfl rfl rfl rfl ?_; intro wz hRz hcz hsz)
              | (refine load_row X5.out 81 Try.underlying81 rfl (by kernel_rfl) rfl rfl rfl ?_))
            exact ret_row2 hRz Try.results143 Try.underlying81 rfl (by kernel_rfl) rfl rfl ⟨by rw [readOut_some SS.out]; rfl, below_one' B5.out hcz B5.out.size (Nat.le_refl _)⟩
          · have hnn : readV s.data.toList = none := by
              cases h : readV s.data.toList with
              | none => rfl
              | some u =>
                exfalso
                obtain ⟨_, _, h3⟩ := (readV_iff _ _).1 h
                have hcu : readV s.data.toList = some (cand s.data.toList) := by
                  unfold readV at h ⊢
                  split at h
                  · rename_i hc; rw [if_pos hc]
                  · cases h
                rw [hcu] at h
                cases h
                rw [CAND.out] at h3
                exact hq h3
            have hq1 : ((bs (V.code (⟨1, (bev l : Int) - 9223372036854775808, ⟨#[]⟩⟩ : V))).toList == s.toList) = false := by
              rw [beq_eq_false_iff_ne]
              intro h
              exact hq (congrArg (fun s => s.data.toList) (Bytes.toList_inj.1 h))
            have NN := Lib.hid hnn
            clear hnn hq
            go_wp2_with (refine store_row R5.out noV.cells 81 (by kernel_rfl) rfl (cells_one _) rfl rfl rfl rfl ?_; intro wz hRz hcz hsz)
            exact FIN.out _ _ NN.out hRz (below_one' B5.out hcz B5.out.size (Nat.le_refl _)) rfl rfl rfl
    · by_cases a2 : a = 2 ∧ c ≤ 7
      · obtain ⟨rfl, c7⟩ := a2
        obtain ⟨m, hm⟩ : ∃ m, m = (s.data.toList.drop 1).take c := ⟨_, rfl⟩
        have hcand : cand s.data.toList = ⟨2, 0, bs m⟩ := by unfold cand; rw [if_neg (by rw [HGA.out]; omega), HGA.out, HGC.out, if_pos ⟨rfl, c7⟩, hm]
        have hsl : ∀ wx : World, (Instr.slice 9 (.string s) (some (.int .i64 1)) (some (.int .i64 (1 + (c : Int)))) none).run Try.prog wx = .ok (.string (bs m)) wx := fun wx => by
          have h := run_slice_string (P := Try.prog) wx 9 s .i64 .i64 1 (1 + (c : Int)) Try.underlying9 (by omega) (by omega) (by omega)
          rw [h, show (1 + (c : Int)).toNat = 1 + c by omega]
          have e : s.extract 1 (1 + c) = bs m := by
            rw [hm, ← bs_of (s.extract 1 (1 + c))]
            congr 1
            simp [ByteArray.data_extract, List.drop_take]
          exact congrArg (fun x => Result.ok (Value.string x) wx) e
        have X4 : Row ((w.alloc (.cells #[.int .i64 0, .int .i64 0, .string ⟨#[]⟩] 81)).alloc (.cells #[.int .i64 2, .int .i64 0, .string (bs m)] 81)) (w.heap.size + 1) 81 (V.cells (⟨2, 0, bs m⟩ : V)) := new_at (w := w.alloc (.cells noV.cells.toArray 81)) (by simp)
        have R4 : Row ((w.alloc (.cells #[.int .i64 0, .int .i64 0, .string ⟨#[]⟩] 81)).alloc (.cells #[.int .i64 2, .int .i64 0, .string (bs m)] 81)) w.heap.size 81 noV.cells := hR.alloc _
        have B4 : Below w.heap.size w ((w.alloc (.cells #[.int .i64 0, .int .i64 0, .string ⟨#[]⟩] 81)).alloc (.cells #[.int .i64 2, .int .i64 0, .string (bs m)] 81)) := hb.alloc hb.size _
        have hff : V.fits (⟨2, 0, bs m⟩ : V) := by have := hfit.out; rwa [hcand] at this
        have hml : (bs m).size ≤ 7 := by rw [bs_size, hm, List.length_take]; omega
        have hgood : V.good (⟨2, 0, bs m⟩ : V) = true := by simp [V.good]; exact hml
        have ho : codeOut (⟨2, 0, bs m⟩ : V) = (V.code (⟨2, 0, bs m⟩ : V), 0) := by unfold codeOut; rw [if_pos hgood]
        have hcc := code_calls (⟨2, 0, bs m⟩ : V)
        rw [ho] at hcc
        have CAND := Lib.hid hcand
        have XX4 := Lib.hid X4
        have RR4 := Lib.hid R4
        have BB4 := Lib.hid B4
        have HCC := Lib.hid hcc
        have c7' : (c : Int) ≤ 7 := by omega
        clear X4 R4 B4 hcc ho hm hcand hR hb hml
        go_enter Try.func143, Try.ntmps143
        go_wp2_with fail
        refine (HCC.out _ hff).mono ?_
        rintro e w5 ⟨rfl, hb5⟩
        have X5 := Lib.hid (XX4.out.below hb5 XX4.out.lt)
        have R5 := Lib.hid (RR4.out.below hb5 RR4.out.lt)
        have B5 := Lib.hid (BB4.out.trans (hb5.mono BB4.out.size))
        clear hb5
        by_cases hq : V.code (⟨2, 0, bs m⟩ : V) = s.data.toList
        · have hss : readV s.data.toList = some (⟨2, 0, bs m⟩ : V) := (readV_iff _ _).2 ⟨hgood, hff, hq⟩
          have hq1 : ((bs (V.code (⟨2, 0, bs m⟩ : V))).toList == s.toList) = true := by rw [beq_iff_eq, hq]; rfl
          have SS := Lib.hid hss
          clear hss hq
          go_wp2_with (first
            | (refine store_row R5.out (V.cells (⟨2, 0, bs m⟩ : V)) 81 (by kernel_rfl) rfl (cells_one _) rfl rfl rfl rfl ?_; intro wz hRz hcz hsz)
            | (refine load_row X5.out 81 Try.underlying81 rfl (by kernel_rfl) rfl rfl rfl ?_))
          exact ret_row2 hRz Try.results143 Try.underlying81 rfl (by kernel_rfl) rfl rfl ⟨by rw [readOut_some SS.out]; rfl, below_one' B5.out hcz B5.out.size (Nat.le_refl _)⟩
        · have hnn : readV s.data.toList = none := by
            cases h : readV s.data.toList with
            | none => rfl
            | some u =>
              exfalso
              obtain ⟨_, _, h3⟩ := (readV_iff _ _).1 h
              have hcu : readV s.data.toList = some (cand s.data.toList) := by
                unfold readV at h ⊢
                split at h
                · rename_i hc; rw [if_pos hc]
                · cases h
              rw [hcu] at h
              cases h
              rw [CAND.out] at h3
              exact hq h3
          have hq1 : ((bs (V.code (⟨2, 0, bs m⟩ : V))).toList == s.toList) = false := by
            rw [beq_eq_false_iff_ne]
            intro h
            exact hq (congrArg (fun s => s.data.toList) (Bytes.toList_inj.1 h))
          have NN := Lib.hid hnn
          clear hnn hq
          go_wp2_with (refine store_row R5.out noV.cells 81 (by kernel_rfl) rfl (cells_one _) rfl rfl rfl rfl ?_; intro wz hRz hcz hsz)
          exact FIN.out _ _ NN.out hRz (below_one' B5.out hcz B5.out.size (Nat.le_refl _)) rfl rfl rfl
      · by_cases a3 : a = 2
        · subst a3
          have hcand : cand s.data.toList = ⟨2, 0, ⟨#[]⟩⟩ := by unfold cand; rw [if_neg (by rw [HGA.out]; exact a1), HGA.out, HGC.out, if_neg a2]; rfl
          have hX : Row ((w.alloc (.cells #[.int .i64 0, .int .i64 0, .string ⟨#[]⟩] 81)).alloc (.cells #[.int .i64 2, .int .i64 0, .string ⟨#[]⟩] 81)) (w.heap.size + 1) 81 [.int .i64 2, .int .i64 0, .string ⟨#[]⟩] := new_at (w := w.alloc (.cells noV.cells.toArray 81)) (by simp)
          have hR2 : Row ((w.alloc (.cells #[.int .i64 0, .int .i64 0, .string ⟨#[]⟩] 81)).alloc (.cells #[.int .i64 2, .int .i64 0, .string ⟨#[]⟩] 81)) w.heap.size 81 noV.cells := hR.alloc _
          have hb2 : Below w.heap.size w ((w.alloc (.cells #[.int .i64 0, .int .i64 0, .string ⟨#[]⟩] 81)).alloc (.cells #[.int .i64 2, .int .i64 0, .string ⟨#[]⟩] 81)) := hb.alloc hb.size _
          have hff : V.fits (⟨2, 0, ⟨#[]⟩⟩ : V) := by have := hfit.out; rwa [hcand] at this
          have hcc := code_calls (⟨2, 0, ⟨#[]⟩⟩ : V)
          have CAND := Lib.hid hcand
          have XX4 := Lib.hid hX
          have RR4 := Lib.hid hR2
          have BB4 := Lib.hid hb2
          have HCC := Lib.hid hcc
          have c7' : ¬ (c : Int) ≤ 7 := by omega
          have c8' : decide ((c : Int) ≤ 7) = false := by simp; omega
          have hgood : V.good (⟨2, 0, ⟨#[]⟩⟩ : V) = true := rfl
          have ho : codeOut (⟨2, 0, ⟨#[]⟩⟩ : V) = (V.code (⟨2, 0, ⟨#[]⟩⟩ : V), 0) := by unfold codeOut; rw [if_pos hgood]
          rw [ho] at hcc
          have HC2 := Lib.hid hcc
          clear hcc ho hX hR2 hb2 hcand hR hb HCC
          go_enter Try.func143, Try.ntmps143
          go_wp2_with fail
          refine (HC2.out _ hff).mono ?_
          rintro e w5 ⟨rfl, hb5⟩
          have X5 := Lib.hid (XX4.out.below hb5 XX4.out.lt)
          have R5 := Lib.hid (RR4.out.below hb5 RR4.out.lt)
          have B5 := Lib.hid (BB4.out.trans (hb5.mono BB4.out.size))
          clear hb5
          by_cases hq : V.code (⟨2, 0, ⟨#[]⟩⟩ : V) = s.data.toList
          · have hss : readV s.data.toList = some (⟨2, 0, ⟨#[]⟩⟩ : V) := (readV_iff _ _).2 ⟨hgood, hff, hq⟩
            have hq1 : ((bs (V.code (⟨2, 0, ⟨#[]⟩⟩ : V))).toList == s.toList) = true := by rw [beq_iff_eq, hq]; rfl
            have SS := Lib.hid hss
            clear hss hq
            go_wp2_with (first
              | (refine store_row R5.out (V.cells (⟨2, 0, ⟨#[]⟩⟩ : V)) 81 (by kernel_rfl) rfl (cells_one _) rfl rfl rfl rfl ?_; intro wz hRz hcz hsz)
              | (refine load_row X5.out 81 Try.underlying81 rfl (by kernel_rfl) rfl rfl rfl ?_))
            exact ret_row2 hRz Try.results143 Try.underlying81 rfl (by kernel_rfl) rfl rfl ⟨by rw [readOut_some SS.out]; rfl, below_one' B5.out hcz B5.out.size (Nat.le_refl _)⟩
          · have hnn : readV s.data.toList = none := by
              cases h : readV s.data.toList with
              | none => rfl
              | some u =>
                exfalso
                obtain ⟨_, _, h3⟩ := (readV_iff _ _).1 h
                have hcu : readV s.data.toList = some (cand s.data.toList) := by
                  unfold readV at h ⊢
                  split at h
                  · rename_i hc; rw [if_pos hc]
                  · cases h
                rw [hcu] at h
                cases h
                rw [CAND.out] at h3
                exact hq h3
            have hq1 : ((bs (V.code (⟨2, 0, ⟨#[]⟩⟩ : V))).toList == s.toList) = false := by
              rw [beq_eq_false_iff_ne]
              intro h
              exact hq (congrArg (fun s => s.data.toList) (Bytes.toList_inj.1 h))
            have NN := Lib.hid hnn
            clear hnn hq
            go_wp2_with (refine store_row R5.out noV.cells 81 (by kernel_rfl) rfl (cells_one _) rfl rfl rfl rfl ?_; intro wz hRz hcz hsz)
            exact FIN.out _ _ NN.out hRz (below_one' B5.out hcz B5.out.size (Nat.le_refl _)) rfl rfl rfl
        · have hcand : cand s.data.toList = ⟨(a : Int), 0, ⟨#[]⟩⟩ := by unfold cand; rw [if_neg (by rw [HGA.out]; exact a1), HGA.out, HGC.out, if_neg a2]
          have hX : Row ((w.alloc (.cells #[.int .i64 0, .int .i64 0, .string ⟨#[]⟩] 81)).alloc (.cells #[.int .i64 (a : Int), .int .i64 0, .string ⟨#[]⟩] 81)) (w.heap.size + 1) 81 [.int .i64 (a : Int), .int .i64 0, .string ⟨#[]⟩] := new_at (w := w.alloc (.cells noV.cells.toArray 81)) (by simp)
          have hR2 : Row ((w.alloc (.cells #[.int .i64 0, .int .i64 0, .string ⟨#[]⟩] 81)).alloc (.cells #[.int .i64 (a : Int), .int .i64 0, .string ⟨#[]⟩] 81)) w.heap.size 81 noV.cells := hR.alloc _
          have hb2 : Below w.heap.size w ((w.alloc (.cells #[.int .i64 0, .int .i64 0, .string ⟨#[]⟩] 81)).alloc (.cells #[.int .i64 (a : Int), .int .i64 0, .string ⟨#[]⟩] 81)) := hb.alloc hb.size _
          have hff : V.fits (⟨(a : Int), 0, ⟨#[]⟩⟩ : V) := by have := hfit.out; rwa [hcand] at this
          have hcc := code_calls (⟨(a : Int), 0, ⟨#[]⟩⟩ : V)
          have CAND := Lib.hid hcand
          have XX4 := Lib.hid hX
          have RR4 := Lib.hid hR2
          have BB4 := Lib.hid hb2
          have a1' : ((a : Int) == 1) = false := by simp; omega
          have HCC := Lib.hid hcc
          have hbad : V.good (⟨(a : Int), 0, ⟨#[]⟩⟩ : V) = false := by
            simp [V.good]
            omega
          have a3' : ((a : Int) == 2) = false := by simp; omega
          have ho : codeOut (⟨(a : Int), 0, ⟨#[]⟩⟩ : V) = ([], 1) := by unfold codeOut; rw [hbad]; rfl
          rw [ho] at hcc
          have hnn : readV s.data.toList = none := by unfold readV; rw [CAND.out, hbad, if_neg (by simp)]
          have NN := Lib.hid hnn
          have HC2 := Lib.hid hcc
          clear hcc ho hX hR2 hb2 hcand hR hb HCC hnn hbad
          go_enter Try.func143, Try.ntmps143
          go_wp2_with fail
          refine (HC2.out _ hff).mono ?_
          rintro e w5 ⟨rfl, hb5⟩
          have X5 := Lib.hid (XX4.out.below hb5 XX4.out.lt)
          have R5 := Lib.hid (RR4.out.below hb5 RR4.out.lt)
          have B5 := Lib.hid (BB4.out.trans (hb5.mono BB4.out.size))
          clear hb5
          go_wp2_with (refine store_row R5.out noV.cells 81 (by kernel_rfl) rfl (cells_one _) rfl rfl rfl rfl ?_; intro wz hRz hcz hsz)
          exact FIN.out _ _ NN.out hRz (below_one' B5.out hcz B5.out.size (Nat.le_refl _)) rfl rfl rfl
  · have hn : readV s.data.toList = none := by unfold readV; rw [if_neg (by rw [hl]; simp [h9])]
    rw [readOut_none hn]
    have d9 : ((s.size : Int) != 9) = true := by simp; omega
    clear hn h9
    go_enter Try.func143, Try.ntmps143
    go_wp2_with (refine store_row hR noV.cells 81 (by kernel_rfl) rfl (cells_one _) rfl rfl rfl rfl ?_; intro wz hRz hcz hsz)
    exact ret_row2 hRz Try.results143 Try.underlying81 rfl (by kernel_rfl) rfl rfl ⟨rfl, below_one' hb hcz hb.size (Nat.le_refl _)⟩
end Go.Proofs.Ytcfjooeagfollaa.Sign
