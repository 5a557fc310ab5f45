/- bill.Read. -/
import Derived.Test.YtcfjooeagfollaaBillH
import Derived.Test.YtcfjooeagfollaaBillB
import Derived.Great.BuildSlice
namespace Go.Proofs.Ytcfjooeagfollaa.Bill
open Go.RowKit Go.Proofs.Ytcfjooeagfollaa.Mem Go.Proofs.Ytcfjooeagfollaa.Bytes Go.Proofs.Ytcfjooeagfollaa.Num Go.Proofs.Ytcfjooeagfollaa.Sign
set_option linter.unusedSimpArgs false
set_option linter.unusedVariables false
set_option maxRecDepth 20000

def Mv.strip (m : Mv) : Mv := m.at none 0
/-- The moves of bytes, at most n; what is left behind them. -/
noncomputable def rd : Nat → List UInt8 → List Mv × List UInt8
  | 0, l => ([], l)
  | n + 1, l => if ((eMove (l, false)).2.2 || !(eMove (l, false)).1.good) = true then ([], l) else ((eMove (l, false)).1 :: (rd n (eMove (l, false)).2.1).1, (rd n (eMove (l, false)).2.1).2)
theorem at_eqv (m : Mv) (a : Option Addr) (c : Nat) : (m.at a c).told.eqv (m.at a c) ↔ m.told.eqv m := by
  obtain ⟨k, n, x, ⟨wk, wt, key, high, ra, rc, row, wc, val, wn⟩, p, q⟩ := m
  unfold Mv.at Mv.eqv Wsh.eqv Mv.told Wsh.told Wsh.only Mv.only noW
  simp only
  repeat' split
  all_goals exact Iff.rfl
theorem at_good (m : Mv) (a : Option Addr) (c : Nat) : (m.at a c).good = m.good := by
  unfold Mv.good Mv.same
  have hb : (m.at a c).bad = m.bad := by
    obtain ⟨k, n, x, ⟨wk, wt, key, high, ra, rc, row, wc, val, wn⟩, p, q⟩ := m
    rfl
  rw [hb]
  congr 1
  exact decide_eq_decide.2 (at_eqv m a c)
theorem readOut_fits (l : List UInt8) : (readOut l).1.fits := by
  cases h : readV l with
  | none => rw [readOut_none h]; exact ⟨by decide, by decide⟩
  | some v => rw [readOut_some h]; exact ((readV_iff _ _).1 h).2.1
theorem eVals_props : ∀ (n : Nat) (s : St), (∀ v ∈ (eVals n s).1, v.fits) ∧ (eVals n s).1.length ≤ n ∧ (eVals n s).2.1.length ≤ s.1.length
  | 0, s => ⟨fun v h => (by cases h), Nat.le_refl _, Nat.le_refl _⟩
  | n + 1, s => by
    unfold eVals
    split
    · exact ⟨fun v h => (by cases h), Nat.zero_le _, Nat.le_refl _⟩
    · obtain ⟨h1, h2, h3⟩ := eVals_props n (eVal s).2
      refine ⟨fun v h => ?_, by simp; omega, Nat.le_trans h3 (eVal_rest s)⟩
      rcases List.mem_cons.1 h with rfl | h
      · exact readOut_fits _
      · exact h1 v h
theorem noV_fits : V.fits noV := ⟨by decide, by decide⟩
theorem noW_fits : noW.fits := ⟨noV_fits, noV_fits, noV_fits, fun v h => (by cases h)⟩
theorem eWish_props (s : St) : (eWish s).1.fits ∧ (eWish s).1.row.length ≤ 1000 ∧ (eWish s).2.1.length ≤ s.1.length := by
  have o := eOne_rest
  have v := eVal_rest
  have vf : ∀ s, (eVal s).1.fits := fun s => readOut_fits _
  unfold eWish
  have h0 := o s
  generalize eOne s = x0 at h0 ⊢
  obtain ⟨k, s0⟩ := x0
  have h1 := o s0
  simp only at h0 h1 ⊢
  generalize eOne s0 = x1 at h1 ⊢
  obtain ⟨t, s1⟩ := x1
  have h2 := o s1
  have hl := eOne_lt s1
  have h3 := v s1
  have f3 := vf s1
  simp only at h1 h2 hl h3 f3 ⊢
  generalize eOne s1 = x2 at h2 hl ⊢
  generalize eVal s1 = x3 at h3 f3 ⊢
  obtain ⟨n, s2⟩ := x2
  obtain ⟨v1, s3⟩ := x3
  obtain ⟨ea, eb, ec⟩ := eVals_props n s2
  have h4 := v s3
  have f4 := vf s3
  have h5 := o s3
  simp only at h2 hl h3 f3 h4 h5 f4 ea eb ec ⊢
  generalize eVals n s2 = x4 at ea eb ec ⊢
  generalize eVal s3 = x5 at h4 f4 ⊢
  generalize eOne s3 = x6 at h5 ⊢
  obtain ⟨n6, s6⟩ := x6
  have h7 := v s6
  have f7 := vf s6
  simp only at h5 h7 f7 ⊢
  generalize eVal s6 = x7 at h7 f7 ⊢
  split
  · exact ⟨⟨noV_fits, noV_fits, noV_fits, ea⟩, by simp only; omega, by simp only; omega⟩
  · split
    · exact ⟨⟨f3, noV_fits, noV_fits, fun v h => (by cases h)⟩, Nat.zero_le _, by simp only; omega⟩
    · split
      · exact ⟨⟨f3, noV_fits, f7, fun v h => (by cases h)⟩, Nat.zero_le _, by simp only; omega⟩
      · split
        · exact ⟨⟨f3, f4, noV_fits, fun v h => (by cases h)⟩, Nat.zero_le _, by simp only; omega⟩
        · split
          · exact ⟨⟨noV_fits, noV_fits, noV_fits, fun v h => (by cases h)⟩, Nat.zero_le _, by simp only; omega⟩
          · exact ⟨⟨noV_fits, noV_fits, noV_fits, fun v h => (by cases h)⟩, Nat.zero_le _, by simp only; omega⟩
theorem eMove_props (s : St) : (eMove s).1.w.fits ∧ (eMove s).1.w.row.length ≤ 1000 ∧ (eMove s).2.1.length ≤ s.1.length := by
  have o := eOne_rest
  unfold eMove
  have h0 := o s
  generalize eOne s = x0 at h0 ⊢
  obtain ⟨k, s0⟩ := x0
  have h1 := o s0
  simp only at h0 h1 ⊢
  generalize eOne s0 = x1 at h1 ⊢
  obtain ⟨t, s1⟩ := x1
  have h2 := o s1
  have h3 := eNum_rest s1 8
  simp only at h1 h2 h3 ⊢
  generalize eOne s1 = x2 at h2 ⊢
  generalize eNum s1 8 = x3 at h3 ⊢
  obtain ⟨n, s2⟩ := x2
  obtain ⟨p, s3⟩ := x3
  obtain ⟨wa, wb, wc⟩ := eWish_props s2
  have h4 := eNum_rest s3 8
  simp only at h2 h3 h4 wa wb wc ⊢
  generalize eWish s2 = x4 at wa wb wc ⊢
  generalize eNum s3 8 = x5 at h4 ⊢
  split
  · split
    · exact ⟨wa, wb, by simp only; omega⟩
    · exact ⟨noW_fits, Nat.zero_le _, by simp only; omega⟩
  · split
    · exact ⟨noW_fits, Nat.zero_le _, by simp only; omega⟩
    · split
      · exact ⟨noW_fits, Nat.zero_le _, by simp only; omega⟩
      · exact ⟨noW_fits, Nat.zero_le _, by simp only; omega⟩
theorem info_mv : (Try.prog.info? 94).map (fun i => (i.zero, i.size, i.bytes)) = some (some (.agg #[.int .i64 0, .int .i64 0, .int .i64 0, .int .i64 0, .int .i64 0, .int .i64 0, .int .i64 0, .string ⟨#[]⟩, .int .i64 0, .int .i64 0, .string ⟨#[]⟩, .slice none 0 0, .int .i64 0, .int .i64 0, .int .i64 0, .string ⟨#[]⟩, .int .i64 0, .int .i64 0, .int .i64 0]), 19, 192) := by kernel_rfl
theorem mv_size : (Value.agg #[.int .i64 0, .int .i64 0, .int .i64 0, .int .i64 0, .int .i64 0, .int .i64 0, .int .i64 0, .string ⟨#[]⟩, .int .i64 0, .int .i64 0, .string ⟨#[]⟩, .slice none 0 0, .int .i64 0, .int .i64 0, .int .i64 0, .string ⟨#[]⟩, .int .i64 0, .int .i64 0, .int .i64 0]).cells.size = 19 := by rfl
theorem list_19 {α : Type} (z : List α) (h : z.length = 19) : ∃ a0 a1 a2 a3 a4 a5 a6 a7 a8 a9 a10 a11 a12 a13 a14 a15 a16 a17 a18, z = [a0, a1, a2, a3, a4, a5, a6, a7, a8, a9, a10, a11, a12, a13, a14, a15, a16, a17, a18] := by
  match z, h with
  | [a0, a1, a2, a3, a4, a5, a6, a7, a8, a9, a10, a11, a12, a13, a14, a15, a16, a17, a18], _ => exact ⟨_, _, _, _, _, _, _, _, _, _, _, _, _, _, _, _, _, _, _, rfl⟩
theorem fill_mv (m : Mv) (z : Array Value) (hz : z.size = 19) : Instr.fill (fun i => some (i * 19, 19)) z [(0, Value.agg m.cells.toArray)] = some m.cells.toArray := by
  obtain ⟨l⟩ := z
  obtain ⟨a0, a1, a2, a3, a4, a5, a6, a7, a8, a9, a10, a11, a12, a13, a14, a15, a16, a17, a18, rfl⟩ := list_19 l (by simpa using hz)
  kernel_rfl
theorem build_mv {ops : Array Oper} {rest : List Oper} {o : Oper} {a : Act} {w : World} {Q : Exit → Act → World → Prop} (m : Mv) (hg : o.guard = none) (x : Operand) (ho : o.op = .buildSlice 87 1 #[(0, x)]) (hx : a.eval x = .agg m.cells.toArray)
    (h : wpList Try.prog ops Q rest (a.put o.dst (.slice (some ⟨w.heap.size, 0, none⟩) 1 1)) (w.alloc (.cells m.cells.toArray 94))) : wpList Try.prog ops Q (o :: rest) a w := by
  have hi : (Try.prog.info? 94).map (fun i => (i.zero.map (·.cells.size), i.size)) = some (some 19, 19) := by kernel_rfl
  obtain ⟨ie, hie, he⟩ := Option.map_eq_some_iff.1 hi
  simp only [Prod.mk.injEq] at he
  obtain ⟨hz, hs⟩ := he
  obtain ⟨z, hz, hz2⟩ := Option.map_eq_some_iff.1 hz
  refine wpList_buildSlice hg 87 94 1 #[(0, x)] ho m.cells.toArray ie z Try.underlying87 hie hz (by rw [hs]; decide) (by rw [hs]; decide) ?_ h
  rw [hs]
  have e : (#[(0, x)].map fun (i, x) => (i, a.eval x)).toList = [(0, Value.agg m.cells.toArray)] := by simp [hx]
  rw [e]
  exact fill_mv m _ (by simp)
/-- append of one element, and where the new row lies. -/
theorem app1_at {P : Program} {ops : Array Oper} {rest : List Oper} {o : Oper} {a : Act} {Q : Exit → Act → World → Prop} {W0 : World} {base : Nat} {e : TypeId} {sz : Nat} {v : Value} {n : Nat} {xs news : List Value}
    (hown : W0.ownsRow base e sz v n xs) (hbase : base ≤ W0.heap.size) (t : TypeId) {z : Value} {bytes : Nat} (ht : P.underlying t = some (.slice e)) (hinfo : (P.info? e).map (fun i => (i.zero, i.size, i.bytes)) = some (some z, sz, bytes))
    (hzs : z.cells.size = sz) (hsz : 0 < sz) (hb0 : 0 < bytes) (hbytes : (n + 1) * bytes ≤ 140737488355328) (hl : news.length = sz) (h1 : ∀ u ∈ news, u.oneCell' = true)
    (hgd : o.guard = none) {s x : Operand} (ho : o.op = .call { callee := .builtin .append, args := #[s, x], argTypes := #[t, t] }) (hs : a.eval s = v) (hx : a.eval x = .slice (some ⟨W0.heap.size, 0, none⟩) 1 1)
    (h : ∀ v' w', w'.ownsRow base e sz v' (n + 1) (xs ++ news) → W0.grownBy w' v.ownBlock → (v'.ownBlock = v.ownBlock ∨ ∃ k, v'.ownBlock = some k ∧ W0.heap.size ≤ k) → wpList P ops Q rest (a.put o.dst v') w') :
    wpList P ops Q (o :: rest) a (W0.alloc (.cells news.toArray e)) := by
  obtain ⟨i0, hi, hzz⟩ := Option.map_eq_some_iff.1 hinfo
  simp only [Prod.mk.injEq] at hzz
  obtain ⟨hz0, hz1, hz2⟩ := hzz
  have hm : n + 1 ≤ maxLen := by
    have := Nat.le_trans (Nat.le_mul_of_pos_right (n + 1) hb0) hbytes
    unfold maxLen
    omega
  refine wpList_append_own_at _ hgd s x t ho base e i0 z sz bytes ht hi hz0 hz1 hz2 hzs hsz v n xs hs (hown.alloc _) ⟨W0.heap.size, 0, none⟩ 1 1 news hx (by omega) (fun j u hu => ?_) h1 hm hbytes (by simp; omega) ?_
  · have ha : (⟨W0.heap.size, 0, none⟩ : Addr).add j = ⟨W0.heap.size, j, none⟩ := by unfold Addr.add; split <;> simp_all
    rw [ha]
    exact (Row.new W0 e news).cell hu
  · intro v' w' h2 h3 _ h5
    exact h v' w' h2 (grown_of_alloc h3) (h5.imp id (fun e => ⟨_, e, by simp⟩))
def ReadRes (R : List Mv × List UInt8) (N : Nat) (e : Ending) (w' : World) : Prop := ∃ (ls : List Mv) (a : Option Addr) (cap : Nat), e = .returned (.tuple #[.slice a ls.length cap, .int .i64 ((N : Int) - (R.2.length : Int))]) ∧ Els Mv.cells 19 w' a ls ∧ (∀ m ∈ ls, Vs w' m.w.ra m.w.row) ∧ ls.map Mv.strip = R.1 ∧ R.2.length ≤ N
theorem vs_all {S : Nat → Prop} {w w' : World} {ls : List Mv} (h : ∀ m ∈ ls, Vs w m.w.ra m.w.row) (hc : Chg S w w') (hn : ∀ m ∈ ls, ∀ ad, m.w.ra = some ad → m.w.row ≠ [] → ad.block < w.heap.size → ¬ S ad.block) : ∀ m ∈ ls, Vs w' m.w.ra m.w.row := fun m hm =>
  vs_chg (h m hm) hc (fun ad e z => hn m hm ad e z (vs_block (h m hm) ad e z))
theorem strip_eWish (s : St) : (eWish s).1.ra = none ∧ (eWish s).1.rc = 0 := by
  unfold eWish
  generalize eOne s = x0
  obtain ⟨k, s0⟩ := x0
  simp only
  generalize eOne s0 = x1
  obtain ⟨t, s1⟩ := x1
  simp only
  generalize eOne s1 = x2
  generalize eVal s1 = x3
  obtain ⟨n, s2⟩ := x2
  obtain ⟨v1, s3⟩ := x3
  simp only
  generalize eVals n s2 = x4
  generalize eVal s3 = x5
  generalize eOne s3 = x6
  obtain ⟨n6, s6⟩ := x6
  simp only
  generalize eVal s6 = x7
  repeat' split
  all_goals exact ⟨rfl, rfl⟩
theorem strip_eMove (s : St) : (eMove s).1.w.ra = none ∧ (eMove s).1.w.rc = 0 := by
  unfold eMove
  generalize eOne s = x0
  obtain ⟨k, s0⟩ := x0
  simp only
  generalize eOne s0 = x1
  obtain ⟨t, s1⟩ := x1
  simp only
  generalize eOne s1 = x2
  generalize eNum s1 8 = x3
  obtain ⟨n, s2⟩ := x2
  obtain ⟨p, s3⟩ := x3
  simp only
  have h := strip_eWish s2
  generalize eWish s2 = x4 at h ⊢
  generalize eNum s3 8 = x5
  repeat' split
  all_goals first | exact h | exact ⟨rfl, rfl⟩
theorem strip_at {m : Mv} (h : m.w.ra = none ∧ m.w.rc = 0) (a : Option Addr) (c : Nat) : (m.at a c).strip = m := by
  obtain ⟨k, n, x, ⟨wk, wt, key, high, ra, rc, row, wc, val, wn⟩, p, q⟩ := m
  simp only at h
  obtain ⟨rfl, rfl⟩ := h
  rfl
set_option maxHeartbeats 8000000 in
theorem read_calls (s : ByteArray) (w : World) (hs : s.size ≤ 1000000) :
    Calls Try.prog 48 #[.string s] w fun e w' => ReadRes (rd 400 s.data.toList) s.size e w' ∧ Below w.heap.size w w' := by
  have hss : s.data.toList.length = s.size := rfl
  obtain ⟨R, hR⟩ : ∃ R, rd 400 s.data.toList = R := ⟨_, rfl⟩
  rw [hR]
  have hE0 : Row (w.alloc (.cells #[.string s, .bool false] 194)) w.heap.size 194 [.string (bs s.data.toList), .bool false] := Row.new w _ [.string s, .bool false]
  have hB0 := (Below.refl w.heap.size w).alloc (Nat.le_refl _) (.cells #[.string s, .bool false] 194)
  have E0 := Lib.hid hE0
  have B0 := Lib.hid hB0
  have HR := Lib.hid hR
  have SS := Lib.hid hss
  clear hE0 hB0 hR hss
  go_enter Try.func48, Try.ntmps48
  go_wp2_with fail
  generalize hb : w.heap.size = b at *
  have HB := Lib.hid hb
  clear hb
  go_loopw [4, 6] (fun o i wr => ∃ (ls : List Mv) (rest : List UInt8), ls.length ≤ 400 ∧ i = .int .i64 ((s.size : Int) - (rest.length : Int)) ∧ rest.length ≤ s.size ∧ Row wr b 194 [.string (bs rest), .bool false] ∧ wr.ownsRow (b + 1) 94 19 o ls.length (ls.flatMap Mv.cells) ∧ (∀ m ∈ ls, Vs wr m.w.ra m.w.row) ∧ (∀ m ∈ ls, ∀ ad, m.w.ra = some ad → m.w.row ≠ [] → b + 1 ≤ ad.block ∧ o.ownBlock ≠ some ad.block) ∧ (ls.map Mv.strip ++ (rd (400 - ls.length) rest).1 = R.1 ∧ (rd (400 - ls.length) rest).2 = R.2) ∧ Below b w wr) (fun o i wr => 400 - (match o with | .slice _ n _ => n | _ => 0))
  case atStart => exact ⟨[], s.data.toList, by simp, by rw [SS.out]; simp, by rw [SS.out]; exact Nat.le_refl _, E0.out, World.ownsRow_nil _ _ _ _, fun m hm => (by cases hm), fun m hm => (by cases hm), ⟨by simp [HR.out], by simp [HR.out]⟩, B0.out⟩
  case round =>
    clear E0 B0 HR
    obtain ⟨ls, rest, hll, rfl, hrl, hE, hO, hV, hD, hI, hB⟩ := hrel
    have E := Lib.hid hE
    have O := Lib.hid hO
    have VV := Lib.hid hV
    have DD := Lib.hid hD
    have II := Lib.hid hI
    have B := Lib.hid hB
    clear hE hO hV hD hI hB
    have hlen : (ls.length : Int) = (ls.length : Int) := rfl
    clear hlen
    obtain ⟨oa, ocap, rfl, _⟩ := Reel.own_shape O.out
    by_cases hlt : ls.length < 400
    · have hlt' : decide ((ls.length : Int) < 400) = true := decide_eq_true (by omega)
      have hpr := eMove_props (rest, false)
      have hst := strip_eMove (rest, false)
      have hMR := move_reads b (rest, false) wr E.out (by simp only; have : rest.length ≤ s.size := hrl; omega)
      obtain ⟨⟨m, rest', bad⟩, hq⟩ : ∃ r, eMove (rest, false) = r := ⟨_, rfl⟩
      obtain ⟨q, hqq⟩ : ∃ q, 400 - ls.length = q + 1 := ⟨400 - ls.length - 1, by omega⟩
      have hrd : rd (400 - ls.length) rest = if (bad || !m.good) = true then ([], rest) else (m :: (rd q rest').1, (rd q rest').2) := by rw [hqq, rd, hq]
      rw [hq] at hpr hst hMR
      simp only at hpr
      obtain ⟨pf, pl, pr⟩ := hpr
      have RD := Lib.hid hrd
      have QQ := Lib.hid hqq
      have ST := Lib.hid hst
      have PF := Lib.hid pf
      unfold MReads at hMR
      have MR := Lib.hid hMR
      have LB := Lib.hid (fun k hk => (O.out.lt k hk))
      clear hrd hqq hst hMR hq pf
      go_wp2_with fail
      refine MR.out.mono ?_
      rintro e w2 ⟨⟨ra, rc, rfl, hV, hVB⟩, hE, kc⟩
      have hbl := E.out.lt
      have E2 := Lib.hid hE
      have O2 := Lib.hid (Reel.own_chg O.out kc (fun k hk e => by have a := (O.out.lt k hk).1; have e : k = b := e; omega))
      have V2 := Lib.hid (vs_all VV.out kc (fun x hx ad e z _ h => by have a := (DD.out x hx ad e z).1; have h : ad.block = b := h; omega))
      have B2 := Lib.hid (B.out.trans (kc.below (B := b) (by omega) (fun k e => by have e : k = b := e; omega)))
      have NV := Lib.hid hV
      have NB := Lib.hid hVB
      have SZ := Lib.hid kc.size
      have BL := Lib.hid hbl
      clear hE kc hV hVB MR hbl
      have zz := Lib.hid (Row.new w2 94 [.int .i64 0, .int .i64 0, .int .i64 0, .int .i64 0, .int .i64 0, .int .i64 0, .int .i64 0, .string ⟨#[]⟩, .int .i64 0, .int .i64 0, .string ⟨#[]⟩, .slice none 0 0, .int .i64 0, .int .i64 0, .int .i64 0, .string ⟨#[]⟩, .int .i64 0, .int .i64 0, .int .i64 0])
      have KA := Lib.hid (Chg.alloc (Chg.refl (One w2.heap.size) w2) (.cells #[.int .i64 0, .int .i64 0, .int .i64 0, .int .i64 0, .int .i64 0, .int .i64 0, .int .i64 0, .string ⟨#[]⟩, .int .i64 0, .int .i64 0, .string ⟨#[]⟩, .slice none 0 0, .int .i64 0, .int .i64 0, .int .i64 0, .string ⟨#[]⟩, .int .i64 0, .int .i64 0, .int .i64 0] 94))
      obtain ⟨mm, hmm⟩ : ∃ x, m.at ra rc = x := ⟨_, rfl⟩
      have HMM := Lib.hid hmm
      rw [hmm]
      clear hmm
      have zz2 := zz
      have RS := Lib.hid (fun (wx : World) (hv : ∀ m ∈ ls, Vs wx m.w.ra m.w.row) (ho : wx.ownsRow (b + 1) 94 19 (.slice oa ls.length ocap) ls.length (ls.flatMap Mv.cells)) (h1 : (ls.map Mv.strip ++ ([] : List Mv)) = R.1) (h2 : rest = R.2) => (show ReadRes R s.size (.returned (.tuple #[.slice oa ls.length ocap, .int .i64 ((s.size : Int) - (rest.length : Int))])) wx from by
        obtain ⟨ea, ecap, he, _, hEls, _⟩ := els_own (enc := Mv.cells) (fun x => rfl) ho rfl
        cases he
        exact ⟨ls, _, _, by rw [← h2], hEls, hv, by rw [← h1]; simp, by rw [← h2]; exact hrl⟩))
      cases bad
      · by_cases hg : m.good = true
        · have hI : ls.map Mv.strip ++ (m :: (rd q rest').1) = R.1 ∧ (rd q rest').2 = R.2 := by
            have h1 := II.out.1
            have h2 := II.out.2
            rw [RD.out, hg] at h1 h2
            exact ⟨h1, h2⟩
          have I2 := Lib.hid hI
          have GC := Lib.hid (fun wx hx => good_calls mm wx hx (by rw [← HMM.out]; exact PF.out) (by rw [← HMM.out]; exact pl))
          have hgm : mm.good = true := by rw [← HMM.out, at_good]; exact hg
          rw [hgm] at GC
          clear hI hg hgm
          go_wp2_with (first | (refine store_row zz2.out mm.cells 94 (by kernel_rfl) rfl (mcells_one _) rfl rfl rfl rfl ?_; intro w3 h3 k3 z3; have KZ := Lib.hid (KA.out.trans k3); have X3 := Lib.hid h3; have E3 := Lib.hid (E2.out.chg KZ.out (fun e => by have e : b = w2.heap.size := e; have := E2.out.lt; omega)); have O3 := Lib.hid (Reel.own_chg O2.out KZ.out (fun k hk e => by have a := (O2.out.lt k hk).2; have e : k = w2.heap.size := e; omega)); have V3 := Lib.hid (vs_all V2.out KZ.out (fun x hx ad e z l h => by have h : ad.block = w2.heap.size := h; omega)); have NV3 := Lib.hid (vs_chg NV.out KZ.out (fun ad e z h => by have l := vs_block NV.out ad e z; have h : ad.block = w2.heap.size := h; omega)); have B3 := Lib.hid (B2.out.trans (KZ.out.below (B := b) (Nat.le_of_lt E2.out.lt) (fun k e => by have e : k = w2.heap.size := e; have := E2.out.lt; omega))); have SZ3 := Lib.hid (Nat.le_trans SZ.out KZ.out.size); clear h3 k3 z3; have p1 := E3.out.cell (i := 1) rfl) | (refine load_row_g X3.out 94 Try.underlying94 rfl (by kernel_rfl) (by rfl) rfl rfl ?_))
          clear p1
          refine (GC.out _ (by rw [← HMM.out]; exact NV3.out)).mono ?_
          rintro e w4 ⟨rfl, k4⟩
          have X4 := Lib.hid (X3.out.below k4 X3.out.lt)
          have E4 := Lib.hid (E3.out.below k4 E3.out.lt)
          have O4 := Lib.hid (own_below O3.out k4)
          have V4 := Lib.hid (fun x hx => (V3.out x hx).keep k4)
          have NV4 := Lib.hid (NV3.out.keep k4)
          have B4 := Lib.hid (B3.out.trans (k4.mono (Nat.le_of_lt E3.out.lt)))
          have SZ4 := Lib.hid (Nat.le_trans SZ3.out k4.size)
          have BE4 := Lib.hid (show b + 1 ≤ w4.heap.size from by have := E4.out.lt; omega)
          clear k4 GC
          have hz1 : rest'.length ≤ 1000000 := by omega
          go_wp2_with (first | (refine load_row X4.out 94 Try.underlying94 rfl (by kernel_rfl) rfl rfl rfl ?_) | (refine build_mv mm rfl _ rfl rfl ?_) | (refine app1_at (news := mm.cells) O4.out BE4.out 87 Try.underlying87 info_mv mv_size (by decide) (by decide) (by omega) rfl (mcells_one _) rfl rfl rfl rfl ?_; intro v' w5 O5 G5 A5; have C5 := Lib.hid (chg_grown (S := fun k => (Value.slice oa ls.length ocap).ownBlock = some k) G5 (fun k h => h)); have E5 := Lib.hid (E4.out.chg C5.out (fun e => by have := (O4.out.lt b e).1; omega)); have V5 := Lib.hid (vs_all V4.out C5.out (fun x hx ad e z l h => (DD.out x hx ad e z).2 h)); have NV5 := Lib.hid (vs_chg NV4.out C5.out (fun ad e z h => by have a := NB.out ad e z; have c := (LB.out ad.block h).2; omega)); have B5 := Lib.hid (B4.out.trans (C5.out.below (B := b) (Nat.le_of_lt E4.out.lt) (fun k e => by have := (O4.out.lt k e).1; omega))); have O5' := Lib.hid O5; have A5' := Lib.hid A5; clear O5 G5 A5; have y0 := E5.out.cell (i := 0) rfl))
          clear y0
          have hq0 := QQ.out
          obtain ⟨a5, cap5, rfl, _⟩ := Reel.own_shape O5'.out
          refine ⟨⟨ls ++ [mm], rest', by simp; omega, by rw [bs_size, show wrap64 ((s.size : Int) - (rest'.length : Int)) = (s.size : Int) - (rest'.length : Int) from by unfold wrap64; omega], by omega, E5.out, by rw [List.flatMap_append, List.length_append]; simpa using O5'.out, fun x hx => ?_, fun x hx ad e z => ?_, ⟨?_, ?_⟩, B5.out⟩, ?_⟩
          · rcases List.mem_append.1 hx with hx | hx
            · exact V5.out x hx
            · rw [List.mem_singleton.1 hx, ← HMM.out]; exact NV5.out
          · rcases List.mem_append.1 hx with hx | hx
            · refine ⟨(DD.out x hx ad e z).1, ?_⟩
              rcases A5'.out with h | ⟨k, h, hk⟩
              · rw [h]; exact (DD.out x hx ad e z).2
              · rw [h]
                intro h2
                have h2 := Option.some.inj h2
                have := vs_block (V4.out x hx) ad e z
                omega
            · obtain rfl := List.mem_singleton.1 hx
              rw [← HMM.out] at e z
              have hb1 := NB.out ad e z
              have hb2 := vs_block NV4.out ad e z
              refine ⟨by have := BL.out; omega, ?_⟩
              rcases A5'.out with h | ⟨k, h, hk⟩
              · rw [h]
                intro h2
                have := (LB.out ad.block h2).2
                omega
              · rw [h]
                intro h2
                have h2 := Option.some.inj h2
                omega
          · rw [List.map_append, List.length_append, show 400 - (ls.length + [mm].length) = q from by simp; omega]
            rw [List.map_cons, List.map_nil, ← HMM.out, strip_at ST.out, List.append_assoc]
            exact I2.out.1
          · rw [List.length_append, show 400 - (ls.length + [mm].length) = q from by simp; omega]
            exact I2.out.2
          · simp
            omega
        · have hI1 := II.out.1
          have hI2 := II.out.2
          rw [RD.out] at hI1 hI2
          simp only [hg, Bool.false_or, Bool.not_false, if_true] at hI1 hI2
          have H1 := Lib.hid hI1
          have H2 := Lib.hid hI2
          have GC := Lib.hid (fun wx hx => good_calls mm wx hx (by rw [← HMM.out]; exact PF.out) (by rw [← HMM.out]; exact pl))
          have hgm : mm.good = false := by rw [← HMM.out, at_good]; simpa using hg
          rw [hgm] at GC
          clear hI1 hI2 hg hgm
          go_wp2_with (first | (refine store_row zz2.out mm.cells 94 (by kernel_rfl) rfl (mcells_one _) rfl rfl rfl rfl ?_; intro w3 h3 k3 z3; have KZ := Lib.hid (KA.out.trans k3); have X3 := Lib.hid h3; have E3 := Lib.hid (E2.out.chg KZ.out (fun e => by have e : b = w2.heap.size := e; have := E2.out.lt; omega)); have O3 := Lib.hid (Reel.own_chg O2.out KZ.out (fun k hk e => by have a := (O2.out.lt k hk).2; have e : k = w2.heap.size := e; omega)); have V3 := Lib.hid (vs_all V2.out KZ.out (fun x hx ad e z l h => by have h : ad.block = w2.heap.size := h; omega)); have NV3 := Lib.hid (vs_chg NV.out KZ.out (fun ad e z h => by have l := vs_block NV.out ad e z; have h : ad.block = w2.heap.size := h; omega)); have B3 := Lib.hid (B2.out.trans (KZ.out.below (B := b) (Nat.le_of_lt E2.out.lt) (fun k e => by have e : k = w2.heap.size := e; have := E2.out.lt; omega))); have SZ3 := Lib.hid (Nat.le_trans SZ.out KZ.out.size); clear h3 k3 z3; have p1 := E3.out.cell (i := 1) rfl) | (refine load_row_g X3.out 94 Try.underlying94 rfl (by kernel_rfl) (by rfl) rfl rfl ?_))
          clear p1
          refine (GC.out _ (by rw [← HMM.out]; exact NV3.out)).mono ?_
          rintro e w4 ⟨rfl, k4⟩
          have O4 := Lib.hid (own_below O3.out k4)
          have V4 := Lib.hid (fun x hx => (V3.out x hx).keep k4)
          have B4 := Lib.hid (B3.out.trans (k4.mono (Nat.le_of_lt E3.out.lt)))
          clear k4 GC
          go_wp2_with fail
          go_ret2
          exact ⟨RS.out _ V4.out O4.out H1.out H2.out, by rw [HB.out]; exact B4.out⟩
      · have hI1 := II.out.1
        have hI2 := II.out.2
        rw [RD.out] at hI1 hI2
        simp only [Bool.true_or, if_true] at hI1 hI2
        have H1 := Lib.hid hI1
        have H2 := Lib.hid hI2
        clear hI1 hI2
        go_wp2_with (refine store_row zz2.out mm.cells 94 (by kernel_rfl) rfl (mcells_one _) rfl rfl rfl rfl ?_; intro w3 h3 k3 z3; have KZ := Lib.hid (KA.out.trans k3); have X3 := Lib.hid h3; have E3 := Lib.hid (E2.out.chg KZ.out (fun e => by have e : b = w2.heap.size := e; have := E2.out.lt; omega)); have O3 := Lib.hid (Reel.own_chg O2.out KZ.out (fun k hk e => by have a := (O2.out.lt k hk).2; have e : k = w2.heap.size := e; omega)); have V3 := Lib.hid (vs_all V2.out KZ.out (fun x hx ad e z l h => by have h : ad.block = w2.heap.size := h; omega)); have NV3 := Lib.hid (vs_chg NV.out KZ.out (fun ad e z h => by have l := vs_block NV.out ad e z; have h : ad.block = w2.heap.size := h; omega)); have B3 := Lib.hid (B2.out.trans (KZ.out.below (B := b) (Nat.le_of_lt E2.out.lt) (fun k e => by have e : k = w2.heap.size := e; have := E2.out.lt; omega))); have SZ3 := Lib.hid (Nat.le_trans SZ.out KZ.out.size); clear h3 k3 z3; have p1 := E3.out.cell (i := 1) rfl)
        go_ret2
        exact ⟨RS.out _ V3.out O3.out H1.out H2.out, by rw [HB.out]; exact B3.out⟩
    · obtain rfl' : ls.length = 400 := by omega
      have hlt' : decide ((ls.length : Int) < 400) = false := by simp; omega
      have hrd0 : rd (400 - ls.length) rest = ([], rest) := by rw [rfl']; rfl
      have hI1 := II.out.1
      have hI2 := II.out.2
      rw [hrd0] at hI1 hI2
      obtain ⟨ea, ecap, he, _, hEls, _⟩ := els_own (enc := Mv.cells) (fun x => rfl) O.out rfl
      cases he
      have FIN := Lib.hid (show ReadRes R s.size (.returned (.tuple #[.slice oa ls.length ocap, .int .i64 ((s.size : Int) - (rest.length : Int))])) wr from ⟨ls, _, _, by rw [← hI2], hEls, VV.out, by rw [← hI1]; simp, by rw [← hI2]; exact hrl⟩)
      clear hI1 hI2 hrd0 hEls rfl'
      go_wp2_with fail
      go_ret2
      exact ⟨FIN.out, by rw [HB.out]; exact B.out⟩
end Go.Proofs.Ytcfjooeagfollaa.Bill
