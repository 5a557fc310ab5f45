/- Contracts of the document's side: gaugerref06. -/
import Derived.Test.YtcfjooeagfollaaNoteRefA
import Derived.Test.YtcfjooeagfollaaNoteRead
import Derived.Test.YtcfjooeagfollaaCrcRef
namespace Go.Proofs.Ytcfjooeagfollaa.Note
open Go.RowKit Go.Proofs.Ytcfjooeagfollaa.Mem Go.Proofs.Ytcfjooeagfollaa.Bytes Go.Proofs.Ytcfjooeagfollaa.PDiaryExact Go.Proofs.YtcfjooeagfollaaW.PrintWords
set_option linter.unusedSimpArgs false
set_option linter.unusedVariables false
set_option maxRecDepth 20000

theorem refgood_calls (v : Value) (r : Rec) (w : World) (h : HasRec w v r) (hs : Small r) : Calls Try.prog 53 #[v] w fun e w' => e = .returned (.bool r.good) ∧ Below w.heap.size w w' := by
  obtain ⟨a0, n0, c0, a1, n1, c1, a2, n2, c2, rfl, h0, h1, h2, z0, z1, z2⟩ := h
  obtain ⟨s0, s1, s2, _⟩ := hs
  have e0 : (r.pages.map mkI).length = n0 := by rw [List.length_map, h0.1]
  have e1 : (r.opens.map mkO).length = n1 := by rw [List.length_map, h1.1]
  have e2 : (r.dirts.map mkD).length = n2 := by rw [List.length_map, h2.1]
  have k0 := pairs_kd k161 mkI rfl (fun w x => k161_mk w (mkI x)) h0
  have k1 := pairs_kd k163 mkO rfl (fun w x => k163_mk w (mkO x)) h1
  have k2 := pairs_kd k165 mkD rfl (fun w x => k165_mk w (mkD x)) h2
  have hf := good_f r (by omega) (by omega) (by omega) _ (Nat.lt_succ_self _)
  have h := gaugerref06_Good.calls _ r.kind r.deal r.prev r.next a0 c0 (r.pages.map mkI) r.ukind r.utree r.key r.val a1 c1 (r.opens.map mkO) a2 c2 (r.dirts.map mkD) r.good w k0 (by omega) k1 (by omega) k2 (by omega) hf
  rw [e0, e1, e2] at h
  exact h
theorem num_l0 (n m : Nat) (hm : m ≤ 7) (d : Nat) : ∀ (k j : Nat), j + d = m → d < k → gaugerref06_num.l0 k (n : Int) (m : Int) ((le n j).map fun b => (b.toNat : Int)) (j : Int) = some (bs (le n m)) := by
  induction d with
  | zero =>
    intro k j h1 h2
    obtain ⟨k, rfl⟩ : ∃ m, k = m + 1 := ⟨k - 1, by omega⟩
    obtain rfl : j = m := by omega
    simp only [gaugerref06_num.l0]
    rw [if_neg (by omega), strOf_bytes]
  | succ d ih =>
    intro k j h1 h2
    obtain ⟨k, rfl⟩ : ∃ m, k = m + 1 := ⟨k - 1, by omega⟩
    have hw : wrap64 (8 * (j : Int)) = ((8 * j : Nat) : Int) := by unfold wrap64; omega
    have hsh : shr .i64 (n : Int) ((8 * j : Nat) : Int) % 256 = (((UInt8.ofNat (n / 256 ^ j)).toNat : Nat) : Int) := by
      have e : (256 : Nat) ^ j = 2 ^ (8 * j) := by rw [show (256 : Nat) = 2 ^ 8 from rfl, ← Nat.pow_mul]
      have hm : min ((8 * j : Nat) : Int).toNat IntKind.i64.bits = 8 * j := by
        rw [Int.toNat_natCast]
        show min (8 * j) 64 = 8 * j
        omega
      unfold shr
      rw [hm, e]
      simp
    simp only [gaugerref06_num.l0]
    rw [if_pos (by omega), hw, if_pos (by omega), if_pos (by rw [List.length_map, le_length]; omega), hsh]
    have hi := ih k (j + 1) (by omega) (by omega)
    have hs : wrap64 ((j : Int) + 1) = ((j + 1 : Nat) : Int) := by unfold wrap64; omega
    rw [hs]
    rw [le, List.map_append] at hi
    exact hi
theorem refnum_calls (n : Int) (m : Nat) (w : World) (h0 : 0 ≤ n) (hm : m ≤ 7) : Calls Try.prog 87 #[.int .i64 n, .int .i64 (m : Int)] w fun e w' => e = .returned (.string (bs (le n.toNat m))) ∧ Below w.heap.size w w' := by
  obtain ⟨k, rfl⟩ := Int.eq_ofNat_of_zero_le h0
  exact gaugerref06_num.calls _ k m _ w (num_l0 k m hm m (m + 1) 0 (by omega) (by omega))

/-! cursor -/
abbrev Cur (w : World) (b : Nat) (s : St) : Prop := Row w b 220 [.string (bs s.1), .bool s.2]
set_option maxHeartbeats 400000 in
theorem ctake_calls (b : Nat) (s : St) (n : Nat) (w : World) (h : Cur w b s) (hn : n ≤ 9223372036854775807) (hs : s.1.length ≤ 9223372036854775807) :
    Calls Try.prog 134 #[.pointer (some ⟨b, 0, none⟩), .int .i64 (n : Int)] w fun e w' => e = .returned (.string (bs (eTake s n).1)) ∧ Cur w' b (eTake s n).2 ∧ Chg (One b) w w' := by
  obtain ⟨l, bad⟩ := s
  have x0 := h.cell (i := 0) rfl
  have x1 := h.cell (i := 1) rfl
  have f0 := h.frozen 0 (by simp)
  have f1 := h.frozen 1 (by simp)
  have hsz : (bs l).size = l.length := rfl
  by_cases hlt : l.length < n
  · have e : eTake (l, bad) n = ([], (l, true)) := by simp [eTake, hlt]
    rw [e]
    have hq : (bs l).size < n := hlt
    have H := Lib.hid h
    clear h e hsz
    go_enter Try.func134, Try.ntmps134
    go_wp2
    go_ret
    exact ⟨rfl, (H.out.set 1 _).cast rfl, (Chg.refl _ _).put _ _⟩
  · have e : eTake (l, bad) n = (l.take n, (l.drop n, bad)) := by simp [eTake, hlt]
    rw [e]
    have hq : ¬ (bs l).size < n := hlt
    have hq' : n ≤ (bs l).size := Nat.le_of_not_lt hlt
    have e1 : (bs l).extract 0 n = bs (l.take n) := extract_take _ _
    have e2 : (bs l).extract n (bs l).size = bs (l.drop n) := extract_drop _ _
    have H := Lib.hid h
    have E1 := Lib.hid e1
    have E2 := Lib.hid e2
    clear h e hsz e1 e2
    go_enter Try.func134, Try.ntmps134
    go_wp2
    go_ret
    exact ⟨by rw [E1.out]; rfl, (H.out.set 0 _).cast (by rw [E2.out]; rfl), (Chg.refl _ _).put _ _⟩
theorem lev_drop {l : List UInt8} {j : Nat} (h : j < l.length) : lev (l.drop j) = l[j].toNat + 256 * lev (l.drop (j + 1)) := by
  rw [List.drop_eq_getElem_cons h, lev]
set_option maxHeartbeats 400000 in
theorem cnum_calls (b : Nat) (s : St) (k : Nat) (w : World) (h : Cur w b s) (hk : k ≤ 4) (hs : s.1.length ≤ 9223372036854775807) :
    Calls Try.prog 133 #[.pointer (some ⟨b, 0, none⟩), .int .i64 (k : Int)] w fun e w' => e = .returned (.int .i64 ((eNum s k).1 : Int)) ∧ Cur w' b (eNum s k).2 ∧ Chg (One b) w w' := by
  have hlen := eTake_len s k
  have he : eNum s k = (lev (eTake s k).1, (eTake s k).2) := rfl
  have ht := ctake_calls b s k w h (by omega) hs
  rw [he]
  clear he
  generalize eTake s k = q at *
  obtain ⟨l, s1⟩ := q
  have hl : l.length ≤ k := hlen
  have hsz : (bs l).size = l.length := rfl
  go_enter Try.func133, Try.ntmps133
  go_wp2_with fail
  refine ht.mono ?_
  rintro e w1 ⟨rfl, h1, hc1⟩
  have H1 := Lib.hid h1
  have HC := Lib.hid hc1
  clear h1 hc1 h
  go_wp2_with fail
  go_loop [6, 7] (fun q i => ∃ j : Nat, j ≤ l.length ∧ i = .int .i64 ((j : Int) - 1) ∧ q = .int .i64 (lev (l.drop j) : Int)) (fun q i => (intOf i + 1).toNat)
  case atStart => exact ⟨l.length, Nat.le_refl _, by simp [bs_size], by simp [lev]⟩
  case round =>
    obtain ⟨j, hj, rfl, rfl⟩ := hrel
    by_cases hlt : 0 < j
    · obtain ⟨i, rfl⟩ : ∃ i, j = i + 1 := ⟨j - 1, by omega⟩
      have hi : i < l.length := by omega
      have hld := lev_drop hi
      have hb0 := l[i].toNat_lt
      have hlv := lev_lt (l.drop i)
      have hl4 : (l.drop i).length ≤ 4 := by rw [List.length_drop]; omega
      have hp : (256 : Nat) ^ (l.drop i).length ≤ 256 ^ 4 := Nat.pow_le_pow_right (by omega) hl4
      have hlv2 : lev (l.drop i) < 4294967296 := Nat.lt_of_lt_of_le hlv hp
      have hlv3 : lev (l.drop (i + 1)) < 4294967296 := by omega
      have e1 : ((i + 1 : Nat) : Int) - 1 = (i : Int) := by omega
      rw [e1]
      have HLD := Lib.hid hld
      clear e1 hld hlv hp hl4
      have e : wrap64 ((lev (l.drop (i + 1)) : Int) * 256 + wrap64 (l[i].toNat : Int)) = (lev (l.drop i) : Int) := by
        have h1 := HLD.out
        unfold wrap64
        omega
      have E := Lib.hid e
      clear e
      go_wp2_with fail
      exact ⟨⟨i, by omega, rfl, congrArg (Value.int IntKind.i64) E.out⟩, by simp only [intOf]; omega⟩
    · obtain rfl : j = 0 := by omega
      go_wp2_with fail
      go_ret
      exact ⟨rfl, H1.out, HC.out⟩
end Go.Proofs.Ytcfjooeagfollaa.Note

namespace Go.Proofs.Ytcfjooeagfollaa.Note
open Go.RowKit Go.Proofs.Ytcfjooeagfollaa.Mem Go.Proofs.Ytcfjooeagfollaa.Bytes
set_option linter.unusedSimpArgs false
set_option linter.unusedVariables false
set_option maxRecDepth 20000

theorem below_step {B : Nat} {w0 w w' : World} (h : Below B w0 w) (k : Below w.heap.size w w') (hB : B ≤ w0.heap.size) : Below B w0 w' := h.trans (k.mono (Nat.le_trans hB h.size))
theorem below_step' {B : Nat} {w0 w w' : World} (h : Below B w0 w) (k : Below w.drew.heap.size w.drew w') (hB : B ≤ w0.heap.size) : Below B w0 w' := h.trans (below_of_drew (k.mono (Nat.le_trans hB h.size)))

theorem app_bs (l : List UInt8) (a : ByteArray) : bs l ++ a = bs (l ++ a.data.toList) := by rw [← bs_of a, bs_append]; rfl
theorem refnum2_calls (n m : Int) (w : World) (h0 : 0 ≤ n) (hm0 : 0 ≤ m) (hm : m ≤ 7) : Calls Try.prog 87 #[.int .i64 n, .int .i64 m] w fun e w' => e = .returned (.string (bs (le n.toNat m.toNat))) ∧ Below w.heap.size w w' := by
  obtain ⟨k, rfl⟩ := Int.eq_ofNat_of_zero_le hm0
  exact refnum_calls n k w h0 (by omega)

set_option maxHeartbeats 4000000 in
set_option maxRecDepth 8000 in
theorem refbytes_aux (r : Rec) (hg : r.good = true) (a0 : Option Addr) (n0 c0 : Nat) (a1 : Option Addr) (n1 c1 : Nat) (a2 : Option Addr) (n2 c2 : Nat) (w : World) (h0 : Pairs Value.string w a0 n0 r.pages) (h1 : Pairs (Value.int .i64) w a1 n1 r.opens) (h2 : Pairs (Value.int .i64) w a2 n2 r.dirts) :
    Calls Try.prog 32 #[.agg (r.cells (.slice a0 n0 c0) (.slice a1 n1 c1) (.slice a2 n2 c2)).toArray] w fun e w' => e = .returned (.string (bs r.bytes)) ∧ Below w.heap.size w w' := by
  have hnums := Lib.hid (good_nums hg)
  have hX := Row.new w 58 (r.cells (.slice a0 n0 c0) (.slice a1 n1 c1) (.slice a2 n2 c2))
  have hbx : Below w.heap.size w (w.alloc (.cells (r.cells (.slice a0 n0 c0) (.slice a1 n1 c1) (.slice a2 n2 c2)).toArray 58)) := (Below.refl _ _).alloc (Nat.le_refl _) _
  have hXg : ∀ i v, (r.cells (.slice a0 n0 c0) (.slice a1 n1 c1) (.slice a2 n2 c2))[i]? = some v → World.cell? (w.alloc (.cells (r.cells (.slice a0 n0 c0) (.slice a1 n1 c1) (.slice a2 n2 c2)).toArray 58)) ⟨w.heap.size, i, none⟩ = some v := fun i v h => hX.cell h
  have x0 := hXg 0 _ rfl
  have x1 := hXg 1 _ rfl
  have x2 := hXg 2 _ rfl
  have x3 := hXg 3 _ rfl
  have x5 := hXg 5 _ rfl
  have x6 := hXg 6 _ rfl
  obtain ⟨hk1, hk2⟩ := hnums.out.1
  obtain ⟨hd1, hd2⟩ := hnums.out.2.1
  obtain ⟨hv1, hv2⟩ := hnums.out.2.2.1
  obtain ⟨hn1, hn2⟩ := hnums.out.2.2.2.1
  obtain ⟨hu1, hu2⟩ := hnums.out.2.2.2.2.1
  obtain ⟨ht1, ht2⟩ := hnums.out.2.2.2.2.2.1
  have hks := hnums.out.2.2.2.2.2.2.1
  have hvs := hnums.out.2.2.2.2.2.2.2.1
  have hn0 : n0 ≤ 8 := by have := hnums.out.2.2.2.2.2.2.2.2.1; have := h0.1; omega
  have hn1' : n1 ≤ 16 := by have := hnums.out.2.2.2.2.2.2.2.2.2.1; have := h1.1; omega
  have hn2' : n2 ≤ 256 := by have := hnums.out.2.2.2.2.2.2.2.2.2.2.1; have := h2.1; omega
  have hsz : ∀ n k, (bs (le n k)).size = k := fun n k => le_length n k
  have hbb : Below (w.heap.size + 1) (w.alloc (.cells (r.cells (.slice a0 n0 c0) (.slice a1 n1 c1) (.slice a2 n2 c2)).toArray 58)) (w.alloc (.cells (r.cells (.slice a0 n0 c0) (.slice a1 n1 c1) (.slice a2 n2 c2)).toArray 58)) := Below.refl _ _
  have hlt : w.heap.size < w.heap.size + 1 := Nat.lt_succ_self _
  have hle : w.heap.size + 1 ≤ (w.alloc (.cells (r.cells (.slice a0 n0 c0) (.slice a1 n1 c1) (.slice a2 n2 c2)).toArray 58)).heap.size := by simp
  clear hXg
  go_enter Try.func32, Try.ntmps32
  go_wp2_with fail
  go_region_held3 (fun w' => w'.cell? ⟨w.heap.size, 0, none⟩ = some (.int .i64 r.kind) ∧ w'.cell? ⟨w.heap.size, 1, none⟩ = some (.int .i64 r.deal) ∧ w'.cell? ⟨w.heap.size, 2, none⟩ = some (.int .i64 r.prev) ∧ w'.cell? ⟨w.heap.size, 3, none⟩ = some (.int .i64 r.next) ∧ w'.cell? ⟨w.heap.size, 5, none⟩ = some (.int .i64 r.ukind) ∧ w'.cell? ⟨w.heap.size, 6, none⟩ = some (.int .i64 r.utree))
    (first
      | exact ⟨(hX.below hbb hlt).cell rfl, (hX.below hbb hlt).cell rfl, (hX.below hbb hlt).cell rfl, (hX.below hbb hlt).cell rfl, (hX.below hbb hlt).cell rfl, (hX.below hbb hlt).cell rfl⟩
      | go_keep)
    (first
      | (go_at_call 87
         refine (refnum2_calls _ _ _ (by omega) (by omega) (by omega)).mono ?_
         rintro e wy ⟨rfl, hb⟩
         replace hbb := (by first | exact below_step hbb hb hle | exact below_step' hbb hb hle)
         clear hb))
  clear x0 x1 x2 x3 x5 x6
  have x7 := (hX.below hbb hlt).cell (i := 7) rfl
  have x8 := (hX.below hbb hlt).cell (i := 8) rfl
  have x4 := (hX.below hbb hlt).cell (i := 4) rfl
  have hks' : (r.key.size : Int) ≤ 255 := by omega
  have hvs' : (r.val.size : Int) ≤ 255 := by omega
  have k1 : ¬ 9223372036854775807 < 16 + r.key.size := by omega
  have k2 : ¬ 9223372036854775807 < 16 + r.key.size + 1 := by omega
  have k3 : ¬ 9223372036854775807 < 16 + r.key.size + 1 + r.val.size := by omega
  have k4 : ¬ 9223372036854775807 < 16 + r.key.size + 1 + r.val.size + 1 := by omega
  go_wp2_with fail
  go_region_held3 (fun w' => w'.cell? ⟨w.heap.size, 7, none⟩ = some (.string r.key) ∧ w'.cell? ⟨w.heap.size, 8, none⟩ = some (.string r.val) ∧ w'.cell? ⟨w.heap.size, 4, none⟩ = some (.slice a0 n0 c0))
    (first
      | exact ⟨(hX.below hbb hlt).cell rfl, (hX.below hbb hlt).cell rfl, (hX.below hbb hlt).cell rfl⟩
      | go_keep)
    (first
      | (go_at_call 87
         refine (refnum2_calls _ _ _ (by omega) (by omega) (by omega)).mono ?_
         rintro e wy ⟨rfl, hb⟩
         replace hbb := (by first | exact below_step hbb hb hle | exact below_step' hbb hb hle)
         clear hb))
  clear x7 x8 x4
  generalize w.alloc (.cells (r.cells (.slice a0 n0 c0) (.slice a1 n1 c1) (.slice a2 n2 c2)).toArray 58) = w1 at hX hbx hbb hle
  have hcat : bs (le r.kind.toNat 1) ++ bs (le r.deal.toNat 4) ++ bs (le r.prev.toNat 4) ++ bs (le r.next.toNat 4) ++ bs (le r.ukind.toNat 1) ++ bs (le r.utree.toNat 1) ++ bs (le r.key.size 1) ++ r.key ++ bs (le r.val.size 1) ++ r.val ++ bs (le n0 1) = bs (le r.kind.toNat 1 ++ le r.deal.toNat 4 ++ le r.prev.toNat 4 ++ le r.next.toNat 4 ++ le r.ukind.toNat 1 ++ le r.utree.toNat 1 ++ le r.key.size 1 ++ r.key.data.toList ++ le r.val.size 1 ++ r.val.data.toList ++ le n0 1) := by
    simp only [app_bs, bs_data]
  rw [hcat]
  obtain ⟨l1, hl1⟩ : ∃ l1, l1 = le r.kind.toNat 1 ++ le r.deal.toNat 4 ++ le r.prev.toNat 4 ++ le r.next.toNat 4 ++ le r.ukind.toNat 1 ++ le r.utree.toNat 1 ++ le r.key.size 1 ++ r.key.data.toList ++ le r.val.size 1 ++ r.val.data.toList ++ le n0 1 := ⟨_, rfl⟩
  rw [← hl1]
  have hll1 : l1.length ≤ 600 := by
    have e1 : r.key.data.toList.length = r.key.size := rfl
    have e2 : r.val.data.toList.length = r.val.size := rfl
    rw [hl1]
    simp only [List.length_append, le_length, e1, e2]
    omega
  have HL1 := Lib.hid hl1
  clear hl1 hcat k1 k2 k3 k4
  have hlp : ∀ j, j ≤ n0 → ((r.pages.take j).flatMap pageBytes).length = 258 * j := fun j hj => by
    have e0 := h0.1
    have := flat_len pageBytes 258 (r.pages.take j) (fun x hx => page_len (by
      have := List.any_eq_false.1 hnums.out.2.2.2.2.2.2.2.2.2.2.2.1 x (List.mem_of_mem_take hx)
      simpa using this))
    rw [this, List.length_take]
    omega
  have HLP := Lib.hid hlp
  clear hlp
  have x4 := (hX.below hbb hlt).cell (i := 4) rfl
  go_wp2_with fail
  clear x4
  go_loopw [3, 4] (fun q i wr => ∃ j : Nat, j ≤ n0 ∧ i = .int .i64 j ∧ q = .string (bs (l1 ++ (r.pages.take j).flatMap pageBytes)) ∧ Below (w.heap.size + 1) w1 wr) (fun q i _ => n0 - (intOf i).toNat)
  case atStart => exact ⟨0, by omega, rfl, by simp, hbb⟩
  case round =>
    clear hbb
    obtain ⟨j, hj, rfl, rfl, hbb⟩ := hrel
    have x4 := (hX.below hbb hlt).cell (i := 4) rfl
    have hll := HLP.out j hj
    have hl2 : (bs (l1 ++ (r.pages.take j).flatMap pageBytes)).size ≤ 6000 := by rw [bs_size, List.length_append, hll]; omega
    clear hll
    by_cases hlt2 : j < n0
    · have hBw : ∀ W, Below (w.heap.size + 1) w1 W → Below w.heap.size w W := fun W h => hbx.trans (h.mono (Nat.le_succ _))
      obtain ⟨ad, x, rfl, hx, _, _⟩ := h0.at hlt2 (hBw _ hbb)
      have hy : ∀ W, Below (w.heap.size + 1) w1 W → W.cell? (ad.add (j * 2)) = some (.int .i64 x.1) ∧ W.cell? ⟨(ad.add (j * 2)).block, (ad.add (j * 2)).off + 1, none⟩ = some (.string x.2) := fun W hW => by
        obtain ⟨ad', x', e, hx', y0, y1⟩ := h0.at hlt2 (hBw _ hW)
        cases e
        rw [hx] at hx'
        cases hx'
        exact ⟨y0, y1⟩
      have hj2 : (j : Int) < (n0 : Int) := by omega
      have hbadx : badPage x = false := by simpa using List.any_eq_false.1 hnums.out.2.2.2.2.2.2.2.2.2.2.2.1 x (List.mem_of_getElem? hx)
      have hxs : x.2.size = 256 := by
        simp only [badPage, Bool.or_eq_false_iff] at hbadx
        simpa using hbadx.2
      have hxn : 0 ≤ x.1 ∧ x.1 ≤ 255 := by
        simp only [badPage, Bool.or_eq_false_iff, Bool.not_eq_false'] at hbadx
        exact inb_iff.1 hbadx.1
      obtain ⟨hxn1, hxn2⟩ := hxn
      have hsn : (r.pages.take (j + 1)).flatMap pageBytes = (r.pages.take j).flatMap pageBytes ++ (le x.1.toNat 2 ++ x.2.data.toList) := by
        rw [List.take_add_one, hx, List.flatMap_append]; simp [pageBytes]
      have HSN := Lib.hid hsn
      have k1 : ¬ 9223372036854775807 < (bs (l1 ++ (r.pages.take j).flatMap pageBytes)).size + 2 := by omega
      have k2 : ¬ 9223372036854775807 < (bs (l1 ++ (r.pages.take j).flatMap pageBytes)).size + 2 + x.2.size := by rw [hxs]; omega
      have HY := Lib.hid hy
      clear hy hbadx hsn hx hxs
      obtain ⟨y0, y1⟩ := HY.out _ hbb
      obtain ⟨lj, hlj⟩ : ∃ lj, lj = l1 ++ (r.pages.take j).flatMap pageBytes := ⟨_, rfl⟩
      rw [← hlj] at k1 k2 hl2 ⊢
      have HLJ := Lib.hid hlj
      clear hlj
      go_wp2_with fail
      go_region_held3 (fun w' => w'.cell? ⟨w.heap.size, 4, none⟩ = some (.slice (some ad) n0 c0) ∧ w'.cell? (ad.add (j * 2)) = some (.int .i64 x.1) ∧ w'.cell? ⟨(ad.add (j * 2)).block, (ad.add (j * 2)).off + 1, none⟩ = some (.string x.2))
        (first
          | exact ⟨(hX.below hbb hlt).cell rfl, (HY.out _ hbb).1, (HY.out _ hbb).2⟩
          | go_keep)
        (first
          | (go_at_call 87
             refine (refnum2_calls _ _ _ (by omega) (by omega) (by omega)).mono ?_
             rintro e wy ⟨rfl, hb⟩
             replace hbb := (by first | exact below_step hbb hb hle | exact below_step' hbb hb hle)
             clear hb))
      clear x4 y0 y1 k1 k2
      go_wp2_with fail
      refine ⟨⟨j + 1, by omega, by go_num, ?_, hbb⟩, by simp only [intOf]; omega⟩
      rw [HSN.out, ← List.append_assoc, ← HLJ.out]
      simp only [app_bs, bs_data, List.append_assoc]
    · obtain rfl : j = n0 := by omega
      rw [List.take_of_length_le (Nat.le_of_eq h0.1)] at hl2 ⊢
      have x9 := (hX.below hbb hlt).cell (i := 9) rfl
      obtain ⟨lp, hlp⟩ : ∃ lp, lp = l1 ++ r.pages.flatMap pageBytes := ⟨_, rfl⟩
      rw [← hlp] at hl2 ⊢
      have kk : ¬ 9223372036854775807 < (bs lp).size + 1 := by omega
      have HLQ := Lib.hid hlp
      clear hlp
      go_wp2_with fail
      refine (refnum_calls (n1 : Int) 1 _ (by omega) (by omega)).mono ?_
      rintro e wy ⟨rfl, hb⟩
      replace hbb := below_step hbb hb hle
      clear hb x9 x4
      go_wp2_with fail
      clear kk
      rw [bs_append]
      obtain ⟨l2, hql2⟩ : ∃ l2, l2 = lp ++ le n1 1 := ⟨_, rfl⟩
      rw [← hql2]
      have hll2 : l2.length ≤ 6010 := by rw [hql2, List.length_append, le_length]; have : (bs lp).size = lp.length := rfl; omega
      rw [HLQ.out] at hql2
      have HQl2 := Lib.hid hql2
      clear hql2 HLQ hl2
      have hlp : ∀ j, j ≤ n1 → ((r.opens.take j).flatMap openBytes).length = 8 * j := fun j hj => by
        have e0 := h1.1
        have := flat_len openBytes 8 (r.opens.take j) (fun x _ => by simp [openBytes, le_length])
        rw [this, List.length_take]
        omega
      have HLP2 := Lib.hid hlp
      clear hlp
      have x9 := (hX.below hbb hlt).cell (i := 9) rfl
      go_wp2_with fail
      clear x9
      go_loopw [3, 5] (fun q i wr => ∃ j : Nat, j ≤ n1 ∧ i = .int .i64 j ∧ q = .string (bs (l2 ++ (r.opens.take j).flatMap openBytes)) ∧ Below (w.heap.size + 1) w1 wr) (fun q i _ => n1 - (intOf i).toNat)
      case atStart => exact ⟨0, by omega, rfl, by simp, hbb⟩
      case round =>
        clear hbb
        obtain ⟨j, hj, rfl, rfl, hbb⟩ := hrel
        have x9 := (hX.below hbb hlt).cell (i := 9) rfl
        have hll := HLP2.out j hj
        have hl2 : (bs (l2 ++ (r.opens.take j).flatMap openBytes)).size ≤ 7000 := by rw [bs_size, List.length_append, hll]; omega
        clear hll
        by_cases hlt2 : j < n1
        · have hBw : ∀ W, Below (w.heap.size + 1) w1 W → Below w.heap.size w W := fun W h => hbx.trans (h.mono (Nat.le_succ _))
          obtain ⟨ad, x, rfl, hx, _, _⟩ := h1.at hlt2 (hBw _ hbb)
          have hy : ∀ W, Below (w.heap.size + 1) w1 W → W.cell? (ad.add (j * 2)) = some (.int .i64 x.1) ∧ W.cell? ⟨(ad.add (j * 2)).block, (ad.add (j * 2)).off + 1, none⟩ = some (.int .i64 x.2) := fun W hW => by
            obtain ⟨ad', x', e, hx', y0, y1⟩ := h1.at hlt2 (hBw _ hW)
            cases e
            rw [hx] at hx'
            cases hx'
            exact ⟨y0, y1⟩
          have hj2 : (j : Int) < (n1 : Int) := by omega
          have hbadx : badOpen x = false := by simpa using List.any_eq_false.1 hnums.out.2.2.2.2.2.2.2.2.2.2.2.2.1 x (List.mem_of_getElem? hx)
          obtain ⟨⟨hxn1, hxn2⟩, hym1, hym2⟩ : (0 ≤ x.1 ∧ x.1 ≤ 2147483647) ∧ 0 ≤ x.2 ∧ x.2 ≤ 2147483647 := by
            simp only [badOpen, Bool.or_eq_false_iff, Bool.not_eq_false'] at hbadx
            exact ⟨inb_iff.1 hbadx.1, inb_iff.1 hbadx.2⟩
          have hsn : (r.opens.take (j + 1)).flatMap openBytes = (r.opens.take j).flatMap openBytes ++ (le x.1.toNat 4 ++ le x.2.toNat 4) := by
            rw [List.take_add_one, hx, List.flatMap_append]; simp [openBytes]
          have HSN := Lib.hid hsn
          have k1 : ¬ 9223372036854775807 < (bs (l2 ++ (r.opens.take j).flatMap openBytes)).size + 4 := by omega
          have k2 : ¬ 9223372036854775807 < (bs (l2 ++ (r.opens.take j).flatMap openBytes)).size + 4 + 4 := by omega
          have HY := Lib.hid hy
          clear hy hbadx hsn hx
          obtain ⟨y0, y1⟩ := HY.out _ hbb
          obtain ⟨lj, hlj⟩ : ∃ lj, lj = l2 ++ (r.opens.take j).flatMap openBytes := ⟨_, rfl⟩
          rw [← hlj] at k1 k2 hl2 ⊢
          have HLJ := Lib.hid hlj
          clear hlj
          go_wp2_with fail
          go_region_held3 (fun w' => w'.cell? ⟨w.heap.size, 9, none⟩ = some (.slice (some ad) n1 c1) ∧ w'.cell? (ad.add (j * 2)) = some (.int .i64 x.1) ∧ w'.cell? ⟨(ad.add (j * 2)).block, (ad.add (j * 2)).off + 1, none⟩ = some (.int .i64 x.2))
            (first
              | exact ⟨(hX.below hbb hlt).cell rfl, (HY.out _ hbb).1, (HY.out _ hbb).2⟩
              | go_keep)
            (first
              | (go_at_call 87
                 refine (refnum2_calls _ _ _ (by omega) (by omega) (by omega)).mono ?_
                 rintro e wy ⟨rfl, hb⟩
                 replace hbb := (by first | exact below_step hbb hb hle | exact below_step' hbb hb hle)
                 clear hb))
          clear x9 y0 y1 k1 k2
          go_wp2_with fail
          refine ⟨⟨j + 1, by omega, by go_num, ?_, hbb⟩, by simp only [intOf]; omega⟩
          rw [HSN.out, ← List.append_assoc, ← HLJ.out]
          simp only [app_bs, bs_data, List.append_assoc]
        · obtain rfl : j = n1 := by omega
          rw [List.take_of_length_le (Nat.le_of_eq h1.1)] at hl2 ⊢
          have x10 := (hX.below hbb hlt).cell (i := 10) rfl
          obtain ⟨lp, hlp⟩ : ∃ lp, lp = l2 ++ r.opens.flatMap openBytes := ⟨_, rfl⟩
          rw [← hlp] at hl2 ⊢
          have kk : ¬ 9223372036854775807 < (bs lp).size + 2 := by omega
          have HLQ := Lib.hid hlp
          clear hlp
          go_wp2_with fail
          refine (refnum_calls (n2 : Int) 2 _ (by omega) (by omega)).mono ?_
          rintro e wy ⟨rfl, hb⟩
          replace hbb := below_step hbb hb hle
          clear hb x10 x9
          go_wp2_with fail
          clear kk
          rw [bs_append]
          obtain ⟨l3, hql3⟩ : ∃ l3, l3 = lp ++ le n2 2 := ⟨_, rfl⟩
          rw [← hql3]
          have hll3 : l3.length ≤ 7010 := by rw [hql3, List.length_append, le_length]; have : (bs lp).size = lp.length := rfl; omega
          rw [HLQ.out] at hql3
          have HQl3 := Lib.hid hql3
          clear hql3 HLQ hl2
          have hlp : ∀ j, j ≤ n2 → ((r.dirts.take j).flatMap dirtBytes).length = 6 * j := fun j hj => by
            have e0 := h2.1
            have := flat_len dirtBytes 6 (r.dirts.take j) (fun x _ => by simp [dirtBytes, le_length])
            rw [this, List.length_take]
            omega
          have HLP3 := Lib.hid hlp
          clear hlp
          have x10 := (hX.below hbb hlt).cell (i := 10) rfl
          go_wp2_with fail
          clear x10
          go_loopw [3, 6] (fun q i wr => ∃ j : Nat, j ≤ n2 ∧ i = .int .i64 j ∧ q = .string (bs (l3 ++ (r.dirts.take j).flatMap dirtBytes)) ∧ Below (w.heap.size + 1) w1 wr) (fun q i _ => n2 - (intOf i).toNat)
          case atStart => exact ⟨0, by omega, rfl, by simp, hbb⟩
          case round =>
            clear hbb
            obtain ⟨j, hj, rfl, rfl, hbb⟩ := hrel
            have x10 := (hX.below hbb hlt).cell (i := 10) rfl
            have hll := HLP3.out j hj
            have hl2 : (bs (l3 ++ (r.dirts.take j).flatMap dirtBytes)).size ≤ 9000 := by rw [bs_size, List.length_append, hll]; omega
            clear hll
            by_cases hlt2 : j < n2
            · have hBw : ∀ W, Below (w.heap.size + 1) w1 W → Below w.heap.size w W := fun W h => hbx.trans (h.mono (Nat.le_succ _))
              obtain ⟨ad, x, rfl, hx, _, _⟩ := h2.at hlt2 (hBw _ hbb)
              have hy : ∀ W, Below (w.heap.size + 1) w1 W → W.cell? (ad.add (j * 2)) = some (.int .i64 x.1) ∧ W.cell? ⟨(ad.add (j * 2)).block, (ad.add (j * 2)).off + 1, none⟩ = some (.int .i64 x.2) := fun W hW => by
                obtain ⟨ad', x', e, hx', y0, y1⟩ := h2.at hlt2 (hBw _ hW)
                cases e
                rw [hx] at hx'
                cases hx'
                exact ⟨y0, y1⟩
              have hj2 : (j : Int) < (n2 : Int) := by omega
              have hbadx : badDirty x = false := by simpa using List.any_eq_false.1 hnums.out.2.2.2.2.2.2.2.2.2.2.2.2.2 x (List.mem_of_getElem? hx)
              obtain ⟨⟨hxn1, hxn2⟩, hym1, hym2⟩ : (0 ≤ x.1 ∧ x.1 ≤ 255) ∧ 0 ≤ x.2 ∧ x.2 ≤ 2147483647 := by
                simp only [badDirty, Bool.or_eq_false_iff, Bool.not_eq_false'] at hbadx
                exact ⟨inb_iff.1 hbadx.1, inb_iff.1 hbadx.2⟩
              have hsn : (r.dirts.take (j + 1)).flatMap dirtBytes = (r.dirts.take j).flatMap dirtBytes ++ (le x.1.toNat 2 ++ le x.2.toNat 4) := by
                rw [List.take_add_one, hx, List.flatMap_append]; simp [dirtBytes]
              have HSN := Lib.hid hsn
              have k1 : ¬ 9223372036854775807 < (bs (l3 ++ (r.dirts.take j).flatMap dirtBytes)).size + 2 := by omega
              have k2 : ¬ 9223372036854775807 < (bs (l3 ++ (r.dirts.take j).flatMap dirtBytes)).size + 2 + 4 := by omega
              have HY := Lib.hid hy
              clear hy hbadx hsn hx
              obtain ⟨y0, y1⟩ := HY.out _ hbb
              obtain ⟨lj, hlj⟩ : ∃ lj, lj = l3 ++ (r.dirts.take j).flatMap dirtBytes := ⟨_, rfl⟩
              rw [← hlj] at k1 k2 hl2 ⊢
              have HLJ := Lib.hid hlj
              clear hlj
              go_wp2_with fail
              go_region_held3 (fun w' => w'.cell? ⟨w.heap.size, 10, none⟩ = some (.slice (some ad) n2 c2) ∧ w'.cell? (ad.add (j * 2)) = some (.int .i64 x.1) ∧ w'.cell? ⟨(ad.add (j * 2)).block, (ad.add (j * 2)).off + 1, none⟩ = some (.int .i64 x.2))
                (first
                  | exact ⟨(hX.below hbb hlt).cell rfl, (HY.out _ hbb).1, (HY.out _ hbb).2⟩
                  | go_keep)
                (first
                  | (go_at_call 87
                     refine (refnum2_calls _ _ _ (by omega) (by omega) (by omega)).mono ?_
                     rintro e wy ⟨rfl, hb⟩
                     replace hbb := (by first | exact below_step hbb hb hle | exact below_step' hbb hb hle)
                     clear hb))
              clear x10 y0 y1 k1 k2
              go_wp2_with fail
              refine ⟨⟨j + 1, by omega, by go_num, ?_, hbb⟩, by simp only [intOf]; omega⟩
              rw [HSN.out, ← List.append_assoc, ← HLJ.out]
              simp only [app_bs, bs_data, List.append_assoc]
            · obtain rfl : j = n2 := by omega
              rw [List.take_of_length_le (Nat.le_of_eq h2.1)] at hl2 ⊢
              obtain ⟨lp, hlp⟩ : ∃ lp, lp = l3 ++ r.dirts.flatMap dirtBytes := ⟨_, rfl⟩
              rw [← hlp] at hl2 ⊢
              have hbody : r.body = lp := by
                have e0 := h0.1
                have e1 := h1.1
                have e2 := h2.1
                rw [hlp, HQl3.out, HQl2.out, HL1.out]
                simp only [Rec.body, List.append_assoc, e0, e1, e2]
              have HBO := Lib.hid hbody
              clear hbody hlp
              have hss : (bs lp).size = lp.length := rfl
              rw [hss] at hl2
              have kk : ¬ 9223372036854775807 < 4 + lp.length := by omega
              go_wp2_with fail
              refine (refnum_calls ((bs lp).size : Int) 4 _ (by omega) (by omega)).mono ?_
              rintro e wy ⟨rfl, hb⟩
              replace hbb := below_step hbb hb hle
              rw [show (((bs lp).size : Nat) : Int).toNat = lp.length from Int.toNat_natCast _]
              clear hb x10 hss
              go_wp2_with fail
              rw [bs_append]
              have kz : (bs (le lp.length 4 ++ lp)).size ≤ 9010 := by rw [bs_size, List.length_append, le_length]; omega
              go_wp2_with fail
              refine (Crc.refsum_calls _ _ (by omega)).mono ?_
              rintro e wz ⟨rfl, rfl⟩
              go_wp2_with fail
              refine (Crc.reftail_calls _ _).mono ?_
              rintro e wz ⟨rfl, hb⟩
              have ky : ¬ 9223372036854775807 < (bs (le lp.length 4 ++ lp)).size + (bs (Crc.tail (Crc.sum (bs (le lp.length 4 ++ lp)).data.toList))).size := by rw [bs_size (Crc.tail _), Crc.tail_length]; omega
              have hfin : bs (le lp.length 4 ++ lp) ++ bs (Crc.tail (Crc.sum (bs (le lp.length 4 ++ lp)).data.toList)) = bs r.bytes := by
                rw [bs_append, bs_data]
                unfold Rec.bytes Crc.sealed
                rw [HBO.out]
              have HFIN := Lib.hid hfin
              clear hfin
              go_wp2_with fail
              go_ret
              exact ⟨by rw [HFIN.out]; rfl, hbx.trans ((below_step hbb hb hle).mono (Nat.le_succ _))⟩
end Go.Proofs.Ytcfjooeagfollaa.Note
