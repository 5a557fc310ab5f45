/- diary.scan: the records with which bytes begin, with their stamps. -/
import Derived.Test.YtcfjooeagfollaaDiaC
import Derived.Test.YtcfjooeagfollaaEls
import Derived.Test.YtcfjooeagfollaaAppAt
import Derived.Great.BuildSlice
namespace Go.Proofs.Ytcfjooeagfollaa.Note
open Go.RowKit Go.Proofs.Ytcfjooeagfollaa.Mem Go.Proofs.Ytcfjooeagfollaa.Bytes
set_option linter.unusedSimpArgs false
set_option linter.unusedVariables false
set_option maxRecDepth 20000

/-- A stamped record, and where its lists lie. -/
structure Sr where
  t : Int
  r : Rec
  a0 : Option Addr
  c0 : Nat
  a1 : Option Addr
  c1 : Nat
  a2 : Option Addr
  c2 : Nat
def Sr.recCells (x : Sr) : List Value := x.r.cells (.slice x.a0 x.r.pages.length x.c0) (.slice x.a1 x.r.opens.length x.c1) (.slice x.a2 x.r.dirts.length x.c2)
def Sr.cells (x : Sr) : List Value := .int .i64 x.t :: x.recCells
def Sr.Has (w : World) (x : Sr) : Prop := Pairs Value.string w x.a0 x.r.pages.length x.r.pages ∧ Pairs (Value.int .i64) w x.a1 x.r.opens.length x.r.opens ∧ Pairs (Value.int .i64) w x.a2 x.r.dirts.length x.r.dirts
def Sr.Caps (x : Sr) : Prop := x.r.pages.length ≤ x.c0 ∧ x.r.opens.length ≤ x.c1 ∧ x.r.dirts.length ≤ x.c2
/-- None of its lists lies in such a block. -/
def Sr.Off (S : Nat → Prop) (x : Sr) : Prop := (∀ ad, x.a0 = some ad → x.r.pages ≠ [] → ¬ S ad.block) ∧ (∀ ad, x.a1 = some ad → x.r.opens ≠ [] → ¬ S ad.block) ∧ ∀ ad, x.a2 = some ad → x.r.dirts ≠ [] → ¬ S ad.block
theorem pairs_chg' {Y : Type} {g : Y → Value} {S : Nat → Prop} {w w' : World} {a : Option Addr} {n : Nat} {xs : List (Int × Y)} (h : Pairs g w a n xs) (hc : Chg S w w') (hn : ∀ ad, a = some ad → xs ≠ [] → ¬ S ad.block) : Pairs g w' a n xs := by
  by_cases hx : xs = []
  · subst hx
    exact ⟨h.1, h.2.1, fun i x hx => by simp at hx⟩
  · exact pairs_chg h hc (fun ad e => hn ad e hx)
theorem pairs_lt {Y : Type} {g : Y → Value} {w : World} {ad : Addr} {n : Nat} {xs : List (Int × Y)} (h : Pairs g w (some ad) n xs) (hx : xs ≠ []) : ad.block < w.heap.size := by
  obtain ⟨ad', e, c, _⟩ := h.2.2 0 (xs[0]'(List.length_pos_iff.2 hx)) (List.getElem?_eq_getElem _)
  cases e
  have := World.block_lt_of_cell? w _ c
  have hb : (ad.add (0 * 2)).block = ad.block := by unfold Addr.add; split <;> rfl
  rwa [hb] at this
theorem Sr.Off.mono {S S2 : Nat → Prop} {x : Sr} (h : x.Off S) (hs : ∀ k, S2 k → S k) : x.Off S2 := ⟨fun ad e z q => h.1 ad e z (hs _ q), fun ad e z q => h.2.1 ad e z (hs _ q), fun ad e z q => h.2.2 ad e z (hs _ q)⟩
theorem Sr.Off.both {S S2 : Nat → Prop} {x : Sr} (h : x.Off S) (g : x.Off S2) : x.Off (fun k => S k ∨ S2 k) := ⟨fun ad e z q => q.elim (h.1 ad e z) (g.1 ad e z), fun ad e z q => q.elim (h.2.1 ad e z) (g.2.1 ad e z), fun ad e z q => q.elim (h.2.2 ad e z) (g.2.2 ad e z)⟩
theorem Sr.Has.off {w : World} {x : Sr} (h : x.Has w) : x.Off (fun k => w.heap.size ≤ k) := by
  obtain ⟨h0, h1, h2⟩ := h
  exact ⟨fun ad e z q => by rw [e] at h0; have := pairs_lt h0 z; have q : w.heap.size ≤ ad.block := q; omega, fun ad e z q => by rw [e] at h1; have := pairs_lt h1 z; have q : w.heap.size ≤ ad.block := q; omega, fun ad e z q => by rw [e] at h2; have := pairs_lt h2 z; have q : w.heap.size ≤ ad.block := q; omega⟩
theorem Sr.Has.keep {w w' : World} {x : Sr} (h : x.Has w) (hb : Below w.heap.size w w') : x.Has w' := ⟨h.1.keep hb, h.2.1.keep hb, h.2.2.keep hb⟩
theorem Sr.Has.chg {S : Nat → Prop} {w w' : World} {x : Sr} (h : x.Has w) (hc : Chg S w w') (ho : x.Off S) : x.Has w' := ⟨pairs_chg' h.1 hc ho.1, pairs_chg' h.2.1 hc ho.2.1, pairs_chg' h.2.2 hc ho.2.2⟩
theorem Sr.Has.rec {w : World} {x : Sr} (h : x.Has w) (hc : x.Caps) : HasRec w (.agg x.recCells.toArray) x.r := ⟨_, _, _, _, _, _, _, _, _, rfl, h.1, h.2.1, h.2.2, hc.1, hc.2.1, hc.2.2⟩
theorem sr_of_new {B : Nat} {w : World} {v : Value} {r : Rec} (h : NewRec B w v r) (t : Int) : ∃ x : Sr, x.t = t ∧ x.r = r ∧ v = .agg x.recCells.toArray ∧ x.Has w ∧ x.Caps ∧ x.Off (fun k => k < B) := by
  obtain ⟨a0, n0, c0, a1, n1, c1, a2, n2, c2, rfl, ⟨p0, p1, p2⟩, ⟨z0, z1, z2⟩, u0, u1, u2⟩ := h
  obtain rfl := p0.1
  obtain rfl := p1.1
  obtain rfl := p2.1
  exact ⟨⟨t, r, a0, c0, a1, c1, a2, c2⟩, rfl, rfl, rfl, ⟨p0, p1, p2⟩, ⟨z0, z1, z2⟩, fun ad e _ => by have := u0 ad e; omega, fun ad e _ => by have := u1 ad e; omega, fun ad e _ => by have := u2 ad e; omega⟩
/-- The records with which bytes begin, and what is left behind them (fuel n). -/
def scanL : Nat → List UInt8 → List Rec × List UInt8
  | 0, l => ([], l)
  | n + 1, l => match nRead l with
    | none => ([], l)
    | some (r, k) => (r :: (scanL n (l.drop k)).1, (scanL n (l.drop k)).2)
/-- With their stamps. -/
def stamped : Nat → List Rec → List (Int × Rec)
  | _, [] => []
  | k, r :: l => ((k : Int) + 1, r) :: stamped (k + r.bytes.length) l
theorem nRead_len {l : List UInt8} {r : Rec} {k : Nat} (h : nRead l = some (r, k)) : r.good = true ∧ k = r.bytes.length ∧ 8 ≤ k ∧ k ≤ l.length ∧ l = r.bytes ++ l.drop k := by
  obtain ⟨h1, h2, t, h3⟩ := (nRead_iff l r k).1 h
  have hb := bytes_length r
  refine ⟨h1, h2, by omega, by rw [h3, List.length_append]; omega, ?_⟩
  rw [h3, h2]
  simp
theorem scanL_fuel : ∀ (n m : Nat) (l : List UInt8), l.length ≤ n → l.length ≤ m → scanL n l = scanL m l
  | 0, 0, _, _, _ => rfl
  | 0, m + 1, l, h, _ => by
    obtain rfl : l = [] := List.eq_nil_of_length_eq_zero (by omega)
    have : nRead [] = none := by
      cases h : nRead [] with
      | none => rfl
      | some p => have := nRead_len h; simp at this; omega
    simp [scanL, this]
  | n + 1, 0, l, _, h => by
    obtain rfl : l = [] := List.eq_nil_of_length_eq_zero (by omega)
    have : nRead [] = none := by
      cases h : nRead [] with
      | none => rfl
      | some p => have := nRead_len h; simp at this; omega
    simp [scanL, this]
  | n + 1, m + 1, l, h1, h2 => by
    unfold scanL
    cases h : nRead l with
    | none => rfl
    | some p =>
      obtain ⟨r, k⟩ := p
      obtain ⟨_, _, h8, hk, _⟩ := nRead_len h
      have := scanL_fuel n m (l.drop k) (by rw [List.length_drop]; omega) (by rw [List.length_drop]; omega)
      simp only [this]
theorem scanL_some {n : Nat} {l : List UInt8} {r : Rec} {k : Nat} (h : nRead l = some (r, k)) (hn : l.length ≤ n) : scanL n l = (r :: (scanL n (l.drop k)).1, (scanL n (l.drop k)).2) := by
  obtain ⟨_, _, h8, hk, _⟩ := nRead_len h
  obtain ⟨m, rfl⟩ : ∃ m, n = m + 1 := ⟨n - 1, by omega⟩
  rw [scanL, h]
  simp only
  rw [scanL_fuel m (m + 1) (l.drop k) (by rw [List.length_drop]; omega) (by rw [List.length_drop]; omega)]
theorem scanL_none {n : Nat} {l : List UInt8} (h : nRead l = none) : scanL n l = ([], l) := by
  cases n with
  | zero => rfl
  | succ n => rw [scanL, h]
theorem info_sr : (Try.prog.info? 60).map (fun i => (i.zero, i.size, i.bytes)) = some (some (.agg #[.int .i64 0, .int .i64 0, .int .i64 0, .int .i64 0, .int .i64 0, .slice none 0 0, .int .i64 0, .int .i64 0, .string ⟨#[]⟩, .string ⟨#[]⟩, .slice none 0 0, .slice none 0 0]), 12, 160) := by kernel_rfl
theorem sr_size : (Value.agg #[.int .i64 0, .int .i64 0, .int .i64 0, .int .i64 0, .int .i64 0, .slice none 0 0, .int .i64 0, .int .i64 0, .string ⟨#[]⟩, .string ⟨#[]⟩, .slice none 0 0, .slice none 0 0]).cells.size = 12 := by rfl
theorem rc_one (x : Sr) : ∀ u ∈ x.recCells, u.oneCell' = true := by simp [Sr.recCells, Rec.cells, Value.oneCell']
def ScanRes (B0 : Nat) (R : List Rec × List UInt8) (N : Nat) (e : Ending) (w' : World) : Prop := ∃ (ls : List Sr) (a : Option Addr) (cap : Nat), e = .returned (.tuple #[.slice a ls.length cap, .int .i64 ((N : Int) - (R.2.length : Int))]) ∧ Els Sr.cells 12 w' a ls ∧ (∀ x ∈ ls, x.Has w' ∧ x.Caps) ∧ ls.map (fun x => (x.t, x.r)) = stamped 0 R.1 ∧ R.2.length ≤ N ∧ (∀ ad, a = some ad → B0 ≤ ad.block) ∧ ∀ x ∈ ls, x.Off (fun j => j < B0)
theorem stamped_snoc : ∀ (l : List Rec) (k : Nat) (r : Rec), stamped k (l ++ [r]) = stamped k l ++ [(((k + (l.flatMap Rec.bytes).length : Nat) : Int) + 1, r)]
  | [], k, r => by simp [stamped]
  | x :: l, k, r => by
    rw [List.cons_append, stamped, stamped_snoc l, stamped, List.flatMap_cons, List.length_append, Nat.add_assoc]
    rfl
set_option maxHeartbeats 8000000 in
theorem scan_calls (s : ByteArray) (w : World) (hs : s.size ≤ 100000) :
    Calls Try.prog 84 #[.string s] w fun e w' => ScanRes w.heap.size (scanL s.size s.data.toList) s.size e w' ∧ Below w.heap.size w w' := by
  have hss : s.data.toList.length = s.size := rfl
  obtain ⟨R, hR⟩ : ∃ R, scanL s.size s.data.toList = R := ⟨_, rfl⟩
  rw [hR]
  have HR := Lib.hid hR
  have SS := Lib.hid hss
  clear hR hss
  go_enter Try.func84, Try.ntmps84
  go_wp2_with fail
  go_loopw [4, 5] (fun o i wr => ∃ (ls : List Sr) (rs : List Rec) (k : Nat), i = .int .i64 (k : Int) ∧ k ≤ s.size ∧ 8 * rs.length ≤ k ∧ k = (rs.flatMap Rec.bytes).length ∧ ls.map (fun x => (x.t, x.r)) = stamped 0 rs ∧ ls.length = rs.length ∧ wr.ownsRow w.heap.size 60 12 o ls.length (ls.flatMap Sr.cells) ∧ (∀ x ∈ ls, x.Has wr ∧ x.Caps) ∧ (∀ x ∈ ls, x.Off (fun j => o.ownBlock = some j) ∧ x.Off (fun j => j < w.heap.size)) ∧ (rs ++ (scanL s.size (s.data.toList.drop k)).1 = R.1 ∧ (scanL s.size (s.data.toList.drop k)).2 = R.2) ∧ Below w.heap.size w wr) (fun _ i _ => s.size - (intOf i).toNat)
  case atStart => exact ⟨[], [], 0, rfl, Nat.zero_le _, Nat.le_refl _, rfl, rfl, rfl, World.ownsRow_nil _ _ _ _, fun x hx => (by cases hx), fun x hx => (by cases hx), ⟨by simp [HR.out], by simp [HR.out]⟩, Below.refl _ _⟩
  case round =>
    obtain ⟨ls, rs, k, rfl, hks, h8, hkk, hst, hll, hO, hV, hD, hI, hB⟩ := hrel
    have O := Lib.hid hO
    have VV := Lib.hid hV
    have DD := Lib.hid hD
    have II := Lib.hid hI
    have B := Lib.hid hB
    have ST := Lib.hid hst
    have KK := Lib.hid hkk
    have LL := Lib.hid hll
    clear hO hV hD hI hB hst hkk hll HR
    obtain ⟨oa, ocap, rfl, _⟩ := Reel.own_shape O.out
    obtain ⟨rest, hrest⟩ : ∃ r, s.data.toList.drop k = r := ⟨_, rfl⟩
    have hrl : rest.length + k = s.size := by rw [← hrest, List.length_drop, SS.out]; omega
    have x1 : s.extract k s.size = bs rest := by rw [extract_drop, hrest]
    have d1 : decide ((k : Int) < 0) = false := by simp
    have d2 : decide ((s.size : Int) < (k : Int)) = false := by simp; omega
    have HRE := Lib.hid hrest
    rw [hrest] at II
    have RC := read_new (bs rest) wr (by rw [bs_size]; omega)
    rw [show (bs rest).data.toList = rest from rfl] at RC
    have RCH := Lib.hid RC
    clear RC hrest
    go_wp2_with fail
    clear x1 d1 d2
    refine RCH.out.mono ?_
    rintro e w2 ⟨⟨v, rfl, hN⟩, kc⟩
    have LB := Lib.hid (fun j hj => O.out.lt j hj)
    have O2 := Lib.hid (own_below O.out kc)
    have V2 := Lib.hid (fun x hx => ⟨(VV.out x hx).1.keep kc, (VV.out x hx).2⟩ : ∀ x ∈ ls, x.Has w2 ∧ x.Caps)
    have B2 := Lib.hid (B.out.trans (kc.mono B.out.size))
    have NN := Lib.hid hN
    have SZ := Lib.hid kc.size
    clear kc hN RCH
    cases hq : nRead rest with
    | none =>
      have HN := NN.out
      rw [nOut_none hq] at HN
      rw [nOut_none hq]
      have hI1 := II.out.1
      have hI2 := II.out.2
      rw [scanL_none hq] at hI1 hI2
      obtain ⟨ea, ecap, he, _, hEls, hEb⟩ := els_own (enc := Sr.cells) (fun x => rfl) O2.out rfl
      cases he
      have hr2 : R.2.length = rest.length := by rw [← hI2]
      have FIN := Lib.hid (show ∀ wz, Below w2.heap.size w2 wz → ScanRes w.heap.size R s.size (.returned (.tuple #[.slice oa ls.length ocap, .int .i64 (k : Int)])) wz from fun wz hz => ⟨ls, _, _, by rw [hr2, show (s.size : Int) - (rest.length : Int) = (k : Int) by omega], hEls.keep hz, fun x hx => ⟨(V2.out x hx).1.keep hz, (V2.out x hx).2⟩, by rw [ST.out, ← hI1]; simp, by omega, hEb, fun x hx => (DD.out x hx).2⟩)
      obtain ⟨x, _, hxr, rfl, _, _, _⟩ := sr_of_new HN 0
      clear HN NN hI1 hI2 hr2 hEls hEb hq
      have Z := Lib.hid (Row.new w2 58 [.int .i64 0, .int .i64 0, .int .i64 0, .int .i64 0, .slice none 0 0, .int .i64 0, .int .i64 0, .string ⟨#[]⟩, .string ⟨#[]⟩, .slice none 0 0, .slice none 0 0])
      have B3 := Lib.hid ((Below.refl w2.heap.size w2).alloc (Nat.le_refl _) (.cells #[.int .i64 0, .int .i64 0, .int .i64 0, .int .i64 0, .slice none 0 0, .int .i64 0, .int .i64 0, .string ⟨#[]⟩, .string ⟨#[]⟩, .slice none 0 0, .slice none 0 0] 58))
      go_wp2_with (refine store_row Z.out x.recCells 58 (by kernel_rfl) rfl (rc_one x) rfl rfl rfl rfl ?_; intro w3 h3 k3 z3; have B4 := Lib.hid (B3.out.trans (k3.below (B := w2.heap.size) B3.out.size (fun i e => by have e : i = w2.heap.size := e; omega))); clear h3 k3 z3)
      go_ret2
      exact ⟨FIN.out _ B4.out, B2.out.trans (B4.out.mono B2.out.size)⟩
    | some p =>
      obtain ⟨r, n⟩ := p
      have HN := NN.out
      rw [nOut_some hq] at HN
      rw [nOut_some hq]
      obtain ⟨hgood, hn, hn8, hnl, hloop⟩ := nRead_len hq
      clear hloop
      have hsc := scanL_some (n := s.size) hq (by omega)
      have hI1 := II.out.1
      have hI2 := II.out.2
      rw [hsc] at hI1 hI2
      have I1 := Lib.hid hI1
      have I2 := Lib.hid hI2
      obtain ⟨x, hxt, hxr, hv, hxH, hxC, hxO⟩ := sr_of_new HN ((k : Int) + 1)
      have XT := Lib.hid hxt
      have XR := Lib.hid hxr
      have XH := Lib.hid hxH
      have XC := Lib.hid hxC
      have XO := Lib.hid hxO
      have HNB := Lib.hid hn
      clear HN NN hI1 hI2 hsc hq hgood hxt hxr hxH hxC hxO hn
      obtain ⟨t, ⟨kd, de, pv, nx, uk, ut, ky, vl, ps, os, ds⟩, a0, c0, a1, c1, a2, c2⟩ := x
      obtain rfl : t = (k : Int) + 1 := XT.out
      have hv2 : v = .agg #[.int .i64 kd, .int .i64 de, .int .i64 pv, .int .i64 nx, .slice a0 ps.length c0, .int .i64 uk, .int .i64 ut, .string ky, .string vl, .slice a1 os.length c1, .slice a2 ds.length c2] := hv
      clear hv XT
      subst hv2
      have Z := Lib.hid (Row.new w2 58 [.int .i64 0, .int .i64 0, .int .i64 0, .int .i64 0, .slice none 0 0, .int .i64 0, .int .i64 0, .string ⟨#[]⟩, .string ⟨#[]⟩, .slice none 0 0, .slice none 0 0])
      have B3 := Lib.hid ((Below.refl w2.heap.size w2).alloc (Nat.le_refl _) (.cells #[.int .i64 0, .int .i64 0, .int .i64 0, .int .i64 0, .slice none 0 0, .int .i64 0, .int .i64 0, .string ⟨#[]⟩, .string ⟨#[]⟩, .slice none 0 0, .slice none 0 0] 58))
      have BS := Lib.hid (show w.heap.size ≤ w2.heap.size from B2.out.size)
      go_wp2_with (first | (refine store_row Z.out [.int .i64 kd, .int .i64 de, .int .i64 pv, .int .i64 nx, .slice a0 ps.length c0, .int .i64 uk, .int .i64 ut, .string ky, .string vl, .slice a1 os.length c1, .slice a2 ds.length c2] 58 (by kernel_rfl) rfl (by simp [Value.oneCell']) rfl rfl rfl rfl ?_; intro w3 h3 k3 z3; have R3 := Lib.hid h3; have B4 := Lib.hid (B3.out.trans (k3.below (B := w2.heap.size) B3.out.size (fun i e => by have e : i = w2.heap.size := e; omega))); have O3 := Lib.hid (own_below O2.out B4.out); have BS3 := Lib.hid (Nat.le_trans BS.out B4.out.size); clear h3 k3 z3) | (refine load_row R3.out 58 Try.underlying58 rfl (by kernel_rfl) rfl rfl rfl ?_) | (refine app1_at (news := [.int .i64 ((k : Int) + 1), .int .i64 kd, .int .i64 de, .int .i64 pv, .int .i64 nx, .slice a0 ps.length c0, .int .i64 uk, .int .i64 ut, .string ky, .string vl, .slice a1 os.length c1, .slice a2 ds.length c2]) O3.out BS3.out 48 Try.underlying48 info_sr sr_size (by decide) (by decide) (by have := LL.out; omega) rfl (by simp [Value.oneCell']) rfl rfl rfl rfl ?_; intro v' w5 O5 G5 A5; have C5 := Lib.hid (chg_grown (S := fun j => (Value.slice oa ls.length ocap).ownBlock = some j) G5 (fun k h => h)); have O5' := Lib.hid O5; have A5' := Lib.hid A5; clear O5 G5 A5))
      have hown : ∀ j, (Value.slice oa ls.length ocap).ownBlock = some j → j < wr.heap.size := fun j hj => (LB.out j hj).2
      have V5 := Lib.hid (fun x hx => ⟨((V2.out x hx).1.keep B4.out).chg C5.out (DD.out x hx).1, (V2.out x hx).2⟩ : ∀ x ∈ ls, x.Has w5 ∧ x.Caps)
      have N5 := Lib.hid ((XH.out.keep B4.out).chg C5.out (XO.out.mono (fun j hj => hown j hj)))
      have H3 := Lib.hid (fun x hx => ((V2.out x hx).1.keep B4.out).off : ∀ x ∈ ls, x.Off _)
      have H3n := Lib.hid (XH.out.keep B4.out).off
      have B5 := Lib.hid ((B2.out.trans (B4.out.mono BS.out)).trans (C5.out.below (B := w.heap.size) BS3.out (fun j hj => (LB.out j hj).1)))
      obtain ⟨a5, cap5, rfl, _⟩ := Reel.own_shape O5'.out
      have HON := Lib.hid hown
      clear hown
      go_wp2_with fail
      obtain ⟨xe, hxe⟩ : ∃ xe : Sr, xe = ⟨(k : Int) + 1, ⟨kd, de, pv, nx, uk, ut, ky, vl, ps, os, ds⟩, a0, c0, a1, c1, a2, c2⟩ := ⟨_, rfl⟩
      have hxc : xe.cells = [.int .i64 ((k : Int) + 1), .int .i64 kd, .int .i64 de, .int .i64 pv, .int .i64 nx, .slice a0 ps.length c0, .int .i64 uk, .int .i64 ut, .string ky, .string vl, .slice a1 os.length c1, .slice a2 ds.length c2] := by rw [hxe]; rfl
      have hxtr : (xe.t, xe.r) = ((k : Int) + 1, r) := by rw [hxe, ← XR.out]
      rw [← hxe] at N5 H3n XC XO
      refine ⟨⟨ls ++ [xe], rs ++ [r], k + n, by go_num, by omega, by rw [List.length_append]; simp; omega, ?_, ?_, by rw [List.length_append, List.length_append, LL.out]; rfl, ?_, fun x hx => ?_, fun x hx => ?_, ⟨?_, ?_⟩, B5.out⟩, ?_⟩
      · rw [List.flatMap_append, List.length_append, ← KK.out, HNB.out]
        simp
      · rw [List.map_append, ST.out, stamped_snoc, ← KK.out]
        simp only [List.map_cons, List.map_nil, hxtr, Nat.zero_add]
      · rw [List.flatMap_append, List.length_append, List.flatMap_cons, List.flatMap_nil, List.append_nil, hxc]
        exact O5'.out
      · rcases List.mem_append.1 hx with hx | hx
        · exact V5.out x hx
        · rw [List.mem_singleton.1 hx]; exact ⟨N5.out, XC.out⟩
      · rcases List.mem_append.1 hx with hx | hx
        · refine ⟨?_, (DD.out x hx).2⟩
          rcases A5'.out with h | ⟨j, h, hj⟩
          · rw [h]; exact (DD.out x hx).1
          · rw [h]; exact (H3.out x hx).mono (fun i e => by have e := Option.some.inj e; omega)
        · rw [List.mem_singleton.1 hx]
          refine ⟨?_, XO.out.mono (fun j hj => by have hj : j < w.heap.size := hj; have := B.out.size; show j < wr.heap.size; omega)⟩
          rcases A5'.out with h | ⟨j, h, hj⟩
          · rw [h]; exact XO.out.mono (fun j hj => HON.out j hj)
          · rw [h]; exact H3n.out.mono (fun i e => by have e := Option.some.inj e; omega)
      · rw [← List.drop_drop, HRE.out, ← I1.out, List.append_assoc]
        rfl
      · rw [← List.drop_drop, HRE.out]
        exact I2.out
      · simp [intOf]
        omega
end Go.Proofs.Ytcfjooeagfollaa.Note
