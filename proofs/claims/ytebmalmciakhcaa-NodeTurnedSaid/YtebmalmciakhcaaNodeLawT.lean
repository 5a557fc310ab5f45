/- The law NodeTurned. -/
import Derived.Test.YtebmalmciakhcaaNodeLawB
import Derived.Test.YtebmalmciakhcaaFlip
namespace Go.Proofs.Ytebmalmciakhcaa.Node
open Go.RowKit Go.Proofs.Ytebmalmciakhcaa.Mem Go.Proofs.Ytebmalmciakhcaa.Bytes Go.Proofs.Ytebmalmciakhcaa.Ord
set_option linter.unusedSimpArgs false
set_option linter.unusedVariables false

theorem nRead_flip {n : Nd} (hf : n.fits = true) {k : Nat} (hk : k + 4 ≤ n.bytes.length) (m : BitVec 32) (hm : m ≠ 0) : nRead (Crc.flip n.bytes k 4 m) = none := by
  have hcl := Crc.flip_closed n.bytes k m hk (by rw [show Crc.opened n.bytes = some n.page from opened_sealed _]; rfl) hm
  unfold nRead
  rw [hcl]
theorem xor_u8 (a b : UInt8) : Go.bits .xor .u8 (a.toNat : Int) (b.toNat : Int) = ((a ^^^ b).toNat : Int) := by
  show IntKind.u8.wrap ((BitVec.ofInt 8 (a.toNat : Int) ^^^ BitVec.ofInt 8 (b.toNat : Int)).toNat : Int) = _
  have e : ∀ x : UInt8, BitVec.ofInt 8 (x.toNat : Int) = x.toBitVec := fun x => by
    rw [BitVec.ofInt_natCast]
    apply BitVec.eq_of_toNat_eq
    rw [BitVec.toNat_ofNat]
    exact Nat.mod_eq_of_lt x.toBitVec.isLt
  rw [e, e, IntKind.wrap_u8]
  show (((a ^^^ b).toBitVec.toNat : Nat) : Int) % 256 = ((a ^^^ b).toBitVec.toNat : Int)
  have := (a ^^^ b).toBitVec.isLt
  omega

set_option maxHeartbeats 4000000 in
set_option maxRecDepth 8000 in
theorem turned_calls (n : Nd) (a : Option Addr) (cap : Nat) (at_ : Int) (m : BitVec 32) (w : World) (hE : Es w a n.list) (hl : n.list.length ≤ 9223372036854775807) (hp : wf64 at_) :
    Calls Try.prog 5 #[.agg (n.cells (.slice a n.list.length cap)).toArray, .int .i64 at_, .int .u32 (Crc.num m)] w fun e w' => e = .returned (.bool true) ∧ Below w.heap.size w w' := by
  have hX := Row.new w 24 (n.cells (.slice a n.list.length cap))
  have hb : Below w.heap.size w (w.alloc (.cells (n.cells (.slice a n.list.length cap)).toArray 24)) := (Below.refl _ _).alloc (Nat.le_refl _) _
  have X := Lib.hid hX
  have B0 := Lib.hid hb
  have EN := Lib.hid (fun (w1 : World) (h : Below w.heap.size w w1) => hE.keep h)
  have GR := Lib.hid (fun (w1 : World) (h : Below w.heap.size w w1) => great_calls n a cap w1 (hE.keep h) hl)
  have BY := Lib.hid (fun (w1 : World) (h : Below w.heap.size w w1) => bytes_calls n a cap w1 (hE.keep h) hl)
  clear hX hb hE
  go_enter Try.func5, Try.ntmps5
  go_wp2_with fail
  refine (awake_calls _).mono ?_
  rintro e w1 ⟨rfl, h1⟩
  replace X := Lib.hid (X.out.below h1 X.out.lt)
  replace B0 := Lib.hid (B0.out.trans (h1.mono B0.out.size))
  clear h1
  go_wp2_with (refine load_row X.out 24 Try.underlying24 rfl (by kernel_rfl) rfl rfl rfl ?_)
  refine (GR.out _ B0.out).mono ?_
  rintro e w2 ⟨⟨b1, rfl, _⟩, h1⟩
  replace X := Lib.hid (X.out.below h1 X.out.lt)
  replace B0 := Lib.hid (B0.out.trans (h1.mono B0.out.size))
  clear h1
  cases b1
  rotate_left
  · go_wp2_with fail
    go_ret
    exact ⟨rfl, B0.out⟩
  by_cases hn : n.fits = true
  rotate_left
  · obtain ⟨cd, hbo, hcd⟩ := bytesOut_not hn
    rw [hbo] at BY
    replace BY : RowKit.Hid (∀ (w1 : World), Below w.heap.size w w1 → Calls Try.prog 12 #[.agg (n.cells (.slice a n.list.length cap)).toArray] w1 fun e w' => e = .returned (.tuple #[.string ⟨#[]⟩, .int .i64 cd]) ∧ Below w1.heap.size w1 w') := BY
    rcases hcd with rfl | rfl
    all_goals
      go_wp2_with (refine load_row X.out 24 Try.underlying24 rfl (by kernel_rfl) rfl rfl rfl ?_)
      refine (BY.out _ B0.out).mono ?_
      rintro e w3 ⟨rfl, h1⟩
      replace B0 := Lib.hid (B0.out.trans (h1.mono B0.out.size))
      go_wp2_with fail
      go_ret
      exact ⟨by first | rfl | simp, B0.out⟩
  have hlen := bytes_length hn
  have hflip := fun (k : Nat) (hk : k + 4 ≤ 256) (hm : m ≠ 0) => nRead_flip hn (k := k) (by rw [hlen]; exact hk) m hm
  have hwhole := (nRead_iff n.bytes n).2 ⟨hn, rfl⟩
  rw [bytesOut_ok hn] at BY
  have SNN := Lib.hid (fun (w1 : World) (a1 : Option Addr) (c1 : Nat) (h1 : Es w1 a1 n.list) (h : Below w.heap.size w w1) => refsame_calls n n a1 a c1 cap w1 h1 (EN.out _ h) hl hl)
  rw [same_self] at SNN
  obtain ⟨L, hL⟩ : ∃ L, n.bytes = L := ⟨_, rfl⟩
  rw [hL] at hlen hflip hwhole BY
  obtain ⟨k, hk1, hk2⟩ := idx_mod at_ 253 (by omega) (by omega)
  have hk3 : k + 4 ≤ 256 := by omega
  have FL := Lib.hid hflip
  have WH := Lib.hid hwhole
  have LE := Lib.hid hlen
  clear hflip hwhole hL hlen
  go_wp2_with (refine load_row X.out 24 Try.underlying24 rfl (by kernel_rfl) rfl rfl rfl ?_)
  refine (BY.out _ B0.out).mono ?_
  rintro e w6 ⟨rfl, h1⟩
  replace X := Lib.hid (X.out.below h1 X.out.lt)
  replace B0 := Lib.hid (B0.out.trans (h1.mono B0.out.size))
  clear h1 BY GR
  obtain ⟨cc, w7, hrun, hcc, hrow, hbw, hsz⟩ := run_bytes (P := Try.prog) w6 9 41 5 (bs L) Try.underlying9 Try.underlying41 Try.underlying5
  have hWl : w.heap.size < w6.heap.size := X.out.lt
  have hBsz : w.heap.size ≤ w6.heap.size := B0.out.size
  have za : (bs L).size = 256 := LE.out
  rw [za] at hrun hcc hrow
  rw [bs_data] at hrow
  have hxa := X.out.below hbw X.out.lt
  have HBW := B0.out.trans (hbw.mono B0.out.size)
  have hrow' : Row w7 w6.heap.size 5 ((Crc.flip L k 0 m).map bv ++ List.replicate (cc - 256) (.int .u8 0)) := by
    rw [Crc.flip_zero]
    exact hrow
  clear hrow hbw hsz X B0 hcc
  generalize List.replicate (cc - 256) (Value.int .u8 0) = rr at *
  go_wp2_with fail
  rw [hk1]
  generalize w6.heap.size = B at *
  clear hrun hk1
  go_loopw [11] (fun i wr => ∃ q : Nat, q ≤ 4 ∧ i = .int .i64 q ∧ Row wr B 5 ((Crc.flip L k q m).map bv ++ rr) ∧ Row wr w.heap.size 24 (n.cells (.slice a n.list.length cap)) ∧ Below w.heap.size w wr) (fun i _ => 4 - (intOf i).toNat)
  case atStart => exact ⟨0, by omega, rfl, hrow', hxa, HBW⟩
  case round =>
    clear hrow' HBW hxa
    obtain ⟨q, hq, rfl, hrow, hxa, hbw⟩ := hrel
    by_cases hlt : q < 4
    · have hkj : k + q < L.length := by have := LE.out; omega
      have hx : L[k + q]? = some L[k + q] := List.getElem?_eq_getElem hkj
      have hcell : wr.cell? ⟨B, k + q, none⟩ = some (.int .u8 (L[k + q].toNat : Int)) := by
        refine hrow.cell ?_
        rw [List.getElem?_append_left (by rw [List.length_map, Crc.flip_length]; exact hkj), List.getElem?_map, Crc.flip_at, hx]
        rfl
      have hfz : wr.frozen? ⟨B, k + q, none⟩ = false := hrow.frozen _ (by rw [List.length_append, List.length_map, Crc.flip_length]; omega)
      have hi1 : (0 : Int) ≤ (k : Int) + (q : Int) := by omega
      have hi2 : (k : Int) + (q : Int) < 256 := by omega
      have hwr : IntKind.i64.wrap ((k : Int) + (q : Int)) = (k : Int) + (q : Int) := by rw [IntKind.wrap_i64]; omega
      have htn : ((k : Int) + (q : Int)).toNat = k + q := by omega
      go_wp2
      go_region
      all_goals
        go_wp2
        go_roundw
        case rel =>
          refine ⟨q + 1, by omega, by go_num, ?_, ((hxa.set_ne _ _ (by show B ≠ w.heap.size; omega)) : Row _ _ _ _), (hbw.setCell hBsz _).drew⟩
          refine Row.drew ((hrow.set (k + q) _).cast ?_)
          rw [Crc.flip_succ _ _ _ _ _ hx, ← Crc.byteOf_num, xor_u8, List.set_append_left _ _ (by rw [List.length_map, Crc.flip_length]; exact hkj), List.map_set]
          rfl
        case measure => simp [intOf]; omega
    · obtain rfl : q = 4 := by omega
      have hcv : (convert 41 9 (.slice (some ⟨B, 0, none⟩) 256 cc)).run Try.prog wr = .ok (.string (bs (Crc.flip L k 4 m))) wr := by
        have h := run_string_row (P := Try.prog) (l := Crc.flip L k 4 m) hrow Try.underlying41 Try.underlying5 Try.underlying9 cc
        rwa [Crc.flip_length, LE.out] at h
      have hsz2 : (bs (Crc.flip L k 4 m)).size ≤ 100000 := by rw [bs_size, Crc.flip_length, LE.out]; omega
      have RD := Lib.hid (fun w => read_calls (bs (Crc.flip L k 4 m)) w hsz2)
      rw [bs_data] at RD
      clear hrow hsz2
      by_cases hm : m = 0
      · have hm1 : (Crc.num m == 0) = true := by rw [hm]; rfl
        rw [show nRead (Crc.flip L k 4 m) = some n by rw [hm, Crc.flip_nothing, WH.out]] at RD
        clear hm
        generalize bs (Crc.flip L k 4 m) = FF at *
        go_wp2_with fail
        refine (RD.out _).mono ?_
        rintro e w8 ⟨a1, c1, rfl, hes, h1⟩
        have X := Lib.hid (hxa.below h1 hxa.lt)
        have B0 := Lib.hid (hbw.trans (h1.mono hbw.size))
        clear h1 hxa hbw
        have hZ : Row (w8.alloc (.cells (n.cells (.slice a1 n.list.length c1)).toArray 24)) w8.heap.size 24 (n.cells (.slice a1 n.list.length c1)) := new_at rfl
        have Z := Lib.hid hZ
        have hbel : Below w8.heap.size w8 (w8.alloc (.cells (n.cells (.slice a1 n.list.length c1)).toArray 24)) := (Below.refl _ _).alloc (Nat.le_refl _) _
        have ESN := Lib.hid (hes.keep hbel)
        replace X := Lib.hid (X.out.alloc (.cells (n.cells (.slice a1 n.list.length c1)).toArray 24))
        replace B0 := Lib.hid (B0.out.alloc B0.out.size (.cells (n.cells (.slice a1 n.list.length c1)).toArray 24))
        replace SNN := Lib.hid (SNN.out _ a1 c1 ESN.out B0.out)
        clear hes hZ hbel ESN RD
        obtain ⟨n1, n2, n3, n4, n5, n6, n7⟩ := n
        simp only [Nd.cells] at X B0 Z SNN ⊢
        go_wp2_with (first
          | (refine load_row_g Z.out 24 Try.underlying24 rfl (by kernel_rfl) (by rfl) rfl rfl ?_)
          | (refine load_row_g X.out 24 Try.underlying24 rfl (by kernel_rfl) (by rfl) rfl rfl ?_))
        refine SNN.out.mono ?_
        rintro e w9 ⟨rfl, h1⟩
        replace B0 := Lib.hid (B0.out.trans (h1.mono B0.out.size))
        clear h1
        go_wp2_with fail
        go_ret
        exact ⟨by first | rfl | simp, B0.out⟩
      · have hm1 : (Crc.num m == 0) = false := by
          rw [beq_eq_false_iff_ne]
          intro h
          exact hm (Crc.num_inj (b := 0#32) h)
        rw [FL.out k hk3 hm] at RD
        clear hm
        generalize bs (Crc.flip L k 4 m) = FF at *
        go_wp2_with fail
        refine (RD.out _).mono ?_
        rintro e w8 ⟨rfl, h1⟩
        have B0 := hbw.trans (h1.mono hbw.size)
        go_wp2_with fail
        go_ret
        exact ⟨by first | rfl | simp, B0.alloc B0.size _⟩
theorem wf_u32 {z : Int} (h : (Lit.int .u32 z).wf = true) : 0 ≤ z ∧ z < 4294967296 := by
  simp [Lit.wf, IntKind.min, IntKind.max, IntKind.signed, IntKind.bits] at h
  omega
theorem turned_row (cs : List Value) (y : Int × Int × Int × Bool × ByteArray × Int × List (ByteArray × ByteArray × Bool × Unit) × Unit) (at_ mask : Int) (W : World) (h : nodeC.R W cs y) (hp : (Lit.int .i64 at_).wf = true) (hm : (Lit.int .u32 mask).wf = true) :
    Calls Try.prog 5 #[.agg cs.toArray, .int .i64 at_, .int .u32 mask] W fun e w' => e = .returned (.bool true) ∧ Below W.heap.size W w' := by
  obtain ⟨n, hn⟩ := node_of h
  obtain ⟨a, cap, e1, k1⟩ := hn.ex
  rw [e1]
  have hx := turned_calls n a cap at_ (BitVec.ofInt 32 mask) W k1 hn.len (wf64_of hp)
  rwa [Crc.num_of (wf_u32 hm).1 (wf_u32 hm).2] at hx
end Go.Proofs.Ytebmalmciakhcaa.Node
