/- note.Read. -/
import Derived.Test.YtcfjooeagfollaaNoteRec
namespace Go.Proofs.Ytcfjooeagfollaa.Note
open Go.RowKit Go.Proofs.Ytcfjooeagfollaa.Mem Go.Proofs.Ytcfjooeagfollaa.Bytes
set_option linter.unusedSimpArgs false
set_option linter.unusedVariables false
set_option maxRecDepth 20000

theorem eText_rest (s : St) : (eText s).2.1.length ≤ s.1.length := Nat.le_trans (eTake_rest _ _) (eNum_rest _ _)

theorem record_calls (b : Nat) (s : St) (w : World) (h : Eye w b s) (hs : s.1.length ≤ 100000) :
    Calls Try.prog 168 #[.pointer (some ⟨b, 0, none⟩)] w fun e w' => (∃ a0 n0 c0 a1 n1 c1 a2 n2 c2, e = .returned (.agg ((parse s).1.cells (.slice a0 n0 c0) (.slice a1 n1 c1) (.slice a2 n2 c2)).toArray) ∧ Pairs Value.string w' a0 n0 (parse s).1.pages ∧ Pairs (Value.int .i64) w' a1 n1 (parse s).1.opens ∧ Pairs (Value.int .i64) w' a2 n2 (parse s).1.dirts ∧ Above w a0 ∧ Above w a1 ∧ Above w a2 ∧ n0 ≤ c0 ∧ n1 ≤ c1 ∧ n2 ≤ c2) ∧ Eye w' b (parse s).2 ∧ Chg (One b) w w' := by
  obtain ⟨v1, s1, e1⟩ : ∃ v s', eNum s 1 = (v, s') := ⟨_, _, rfl⟩
  have r1 := eNum_rest s 1
  rw [e1] at r1
  obtain ⟨v2, s2, e2⟩ : ∃ v s', eNum s1 4 = (v, s') := ⟨_, _, rfl⟩
  have r2 := eNum_rest s1 4
  rw [e2] at r2
  obtain ⟨v3, s3, e3⟩ : ∃ v s', eNum s2 4 = (v, s') := ⟨_, _, rfl⟩
  have r3 := eNum_rest s2 4
  rw [e3] at r3
  obtain ⟨v4, s4, e4⟩ : ∃ v s', eNum s3 4 = (v, s') := ⟨_, _, rfl⟩
  have r4 := eNum_rest s3 4
  rw [e4] at r4
  obtain ⟨v5, s5, e5⟩ : ∃ v s', eNum s4 1 = (v, s') := ⟨_, _, rfl⟩
  have r5 := eNum_rest s4 1
  rw [e5] at r5
  obtain ⟨v6, s6, e6⟩ : ∃ v s', eNum s5 1 = (v, s') := ⟨_, _, rfl⟩
  have r6 := eNum_rest s5 1
  rw [e6] at r6
  obtain ⟨ky, s7, e7⟩ : ∃ v s', eText s6 = (v, s') := ⟨_, _, rfl⟩
  have r7 := eText_rest s6
  rw [e7] at r7
  obtain ⟨vl, s8, e8⟩ : ∃ v s', eText s7 = (v, s') := ⟨_, _, rfl⟩
  have r8 := eText_rest s7
  rw [e8] at r8
  obtain ⟨np, s9, e9⟩ : ∃ v s', eNum s8 1 = (v, s') := ⟨_, _, rfl⟩
  have r9 := eNum_rest s8 1
  rw [e9] at r9
  have b9 := eNum_lt s8 1
  rw [e9] at b9
  obtain ⟨ps, sp, e10⟩ : ∃ v s', loopP getImage np s9 = (v, s') := ⟨_, _, rfl⟩
  have r10 := (loopP_rest getImage getImage_rest np s9).1
  rw [e10] at r10
  obtain ⟨no, s10, e11⟩ : ∃ v s', eNum sp 1 = (v, s') := ⟨_, _, rfl⟩
  have r11 := eNum_rest sp 1
  rw [e11] at r11
  have b11 := eNum_lt sp 1
  rw [e11] at b11
  obtain ⟨os, so, e12⟩ : ∃ v s', loopP (getPair 4 4) no s10 = (v, s') := ⟨_, _, rfl⟩
  have r12 := (loopP_rest (getPair 4 4) (getPair_rest 4 4) no s10).1
  rw [e12] at r12
  obtain ⟨nd, s11, e13⟩ : ∃ v s', eNum so 2 = (v, s') := ⟨_, _, rfl⟩
  have r13 := eNum_rest so 2
  rw [e13] at r13
  have b13 := eNum_lt so 2
  rw [e13] at b13
  obtain ⟨ds, sd, e14⟩ : ∃ v s', loopP (getPair 2 4) nd s11 = (v, s') := ⟨_, _, rfl⟩
  have r14 := (loopP_rest (getPair 2 4) (getPair_rest 2 4) nd s11).1
  rw [e14] at r14
  have hp : parse s = (⟨v1, v2, v3, v4, v5, v6, bs ky, bs vl, ps, os, ds⟩, sd) := by simp only [parse, e1, e2, e3, e4, e5, e6, e7, e8, e9, e10, e11, e12, e13, e14]
  rw [hp]
  simp only at r1 r2 r3 r4 r5 r6 r7 r8 r9 r10 r11 r12 r13 r14 b9 b11 b13
  exact record_aux b s s1 s2 s3 s4 s5 s6 s7 s8 s9 sp s10 so s11 sd v1 v2 v3 v4 v5 v6 np no nd ky vl ps os ds w h hs (Lib.hid e1) (Lib.hid e2) (Lib.hid e3) (Lib.hid e4) (Lib.hid e5) (Lib.hid e6) (Lib.hid e7) (Lib.hid e8) (Lib.hid e9) (Lib.hid e10) (Lib.hid e11) (Lib.hid e12) (Lib.hid e13) (Lib.hid e14)
    ⟨by omega, by omega, by omega, by omega, by omega, by omega, by omega, by omega, by omega, by omega, by omega, by omega, by omega, by omega, by omega, by omega⟩

theorem Pairs.chg {Y : Type} {g : Y → Value} {w w' : World} {a : Option Addr} {n : Nat} {xs : List (Int × Y)} {S : Nat → Prop} (h : Pairs g w a n xs) (hc : Chg S w w') (hn : ∀ ad, a = some ad → ¬ S ad.block) : Pairs g w' a n xs := by
  refine ⟨h.1, h.2.1, fun i x hx => ?_⟩
  obtain ⟨ad, rfl, c1, c2⟩ := h.2.2 i x hx
  have hb : ∀ (p : Addr) (v : Value), p.block = ad.block → w.cell? p = some v → w'.cell? p = some v := fun p v hp hv => by
    have hl := World.block_lt_of_cell? w _ hv
    have := hc.block p.block hl (by rw [hp]; exact hn ad rfl)
    simpa [World.cell?, this] using hv
  have ha : (ad.add (i * 2)).block = ad.block := by unfold Addr.add; split <;> rfl
  exact ⟨ad, rfl, hb _ _ ha c1, hb _ _ ha c2⟩
def nRead (s : List UInt8) : Option (Rec × Nat) :=
  if s.length < 4 then none else
  if s.length < lev (s.take 4) + 8 then none else
  match Crc.opened (s.take (lev (s.take 4) + 8)) with
  | none => none
  | some t => if (parse (t.drop 4, false)).2 = ([], false) ∧ (parse (t.drop 4, false)).1.good = true then some ((parse (t.drop 4, false)).1, lev (s.take 4) + 8) else none
def noRec : Rec := ⟨0, 0, 0, 0, 0, 0, ⟨#[]⟩, ⟨#[]⟩, [], [], []⟩
def nOut (s : List UInt8) : Rec × Nat × Int := match nRead s with
  | none => (noRec, 0, 3)
  | some (r, n) => (r, n, 0)
/-- A record as a value in memory. -/
def HasRec (w : World) (v : Value) (r : Rec) : Prop := ∃ a0 n0 c0 a1 n1 c1 a2 n2 c2, v = .agg (r.cells (.slice a0 n0 c0) (.slice a1 n1 c1) (.slice a2 n2 c2)).toArray ∧ Pairs Value.string w a0 n0 r.pages ∧ Pairs (Value.int .i64) w a1 n1 r.opens ∧ Pairs (Value.int .i64) w a2 n2 r.dirts ∧ n0 ≤ c0 ∧ n1 ≤ c1 ∧ n2 ≤ c2
theorem HasRec.keep {w w' : World} {v : Value} {r : Rec} (h : HasRec w v r) (hb : Below w.heap.size w w') : HasRec w' v r := by
  obtain ⟨a0, n0, c0, a1, n1, c1, a2, n2, c2, e, h0, h1, h2, hz⟩ := h
  exact ⟨a0, n0, c0, a1, n1, c1, a2, n2, c2, e, h0.keep hb, h1.keep hb, h2.keep hb, hz⟩
theorem noRec_has (w : World) : HasRec w (.agg (noRec.cells (.slice none 0 0) (.slice none 0 0) (.slice none 0 0)).toArray) noRec :=
  ⟨none, 0, 0, none, 0, 0, none, 0, 0, rfl, ⟨rfl, by omega, fun i x hx => by simp [noRec] at hx⟩, ⟨rfl, by omega, fun i x hx => by simp [noRec] at hx⟩, ⟨rfl, by omega, fun i x hx => by simp [noRec] at hx⟩, Nat.le_refl _, Nat.le_refl _, Nat.le_refl _⟩
/-- A record whose lists lie from block B on. -/
def NewRec (B : Nat) (w : World) (v : Value) (r : Rec) : Prop := ∃ a0 n0 c0 a1 n1 c1 a2 n2 c2, v = .agg (r.cells (.slice a0 n0 c0) (.slice a1 n1 c1) (.slice a2 n2 c2)).toArray ∧ (Pairs Value.string w a0 n0 r.pages ∧ Pairs (Value.int .i64) w a1 n1 r.opens ∧ Pairs (Value.int .i64) w a2 n2 r.dirts) ∧ (n0 ≤ c0 ∧ n1 ≤ c1 ∧ n2 ≤ c2) ∧ (∀ ad, a0 = some ad → B ≤ ad.block) ∧ (∀ ad, a1 = some ad → B ≤ ad.block) ∧ ∀ ad, a2 = some ad → B ≤ ad.block
theorem NewRec.has {B : Nat} {w : World} {v : Value} {r : Rec} (h : NewRec B w v r) : HasRec w v r := by
  obtain ⟨a0, n0, c0, a1, n1, c1, a2, n2, c2, e, ⟨p0, p1, p2⟩, ⟨z0, z1, z2⟩, _⟩ := h
  exact ⟨a0, n0, c0, a1, n1, c1, a2, n2, c2, e, p0, p1, p2, z0, z1, z2⟩
theorem noRec_new (B : Nat) (w : World) : NewRec B w (.agg (noRec.cells (.slice none 0 0) (.slice none 0 0) (.slice none 0 0)).toArray) noRec :=
  ⟨none, 0, 0, none, 0, 0, none, 0, 0, rfl, ⟨⟨rfl, by omega, fun i x hx => by simp [noRec] at hx⟩, ⟨rfl, by omega, fun i x hx => by simp [noRec] at hx⟩, ⟨rfl, by omega, fun i x hx => by simp [noRec] at hx⟩⟩, ⟨Nat.le_refl _, Nat.le_refl _, Nat.le_refl _⟩, (fun _ e => by cases e), (fun _ e => by cases e), (fun _ e => by cases e)⟩
def ReadNew (B : Nat) (o : Rec × Nat × Int) (e : Ending) (w : World) : Prop := ∃ v, e = .returned (.tuple #[v, .int .i64 (o.2.1 : Int), .int .i64 o.2.2]) ∧ NewRec B w v o.1
/-- What Read gives back. -/
def ReadOut (o : Rec × Nat × Int) (e : Ending) (w : World) : Prop := ∃ v, e = .returned (.tuple #[v, .int .i64 (o.2.1 : Int), .int .i64 o.2.2]) ∧ HasRec w v o.1

theorem new_at {w : World} {b : Nat} {e : TypeId} {cs : List Value} (h : b = w.heap.size) : Row (w.alloc (.cells cs.toArray e)) b e cs := h ▸ Row.new w e cs
def noCells : List Value := noRec.cells (.slice none 0 0) (.slice none 0 0) (.slice none 0 0)
theorem nOut_none {l : List UInt8} (h : nRead l = none) : nOut l = (noRec, 0, 3) := by rw [nOut, h]
theorem nOut_some {l : List UInt8} {r : Rec} {n : Nat} (h : nRead l = some (r, n)) : nOut l = (r, n, 0) := by rw [nOut, h]

set_option maxHeartbeats 4000000 in
set_option maxRecDepth 8000 in
theorem read_new (s : ByteArray) (w : World) (hs : s.size ≤ 100000) :
    Calls Try.prog 135 #[.string s] w fun e w' => ReadNew w.heap.size (nOut s.data.toList) e w' ∧ Below w.heap.size w w' := by
  have hR : Row (w.alloc (.cells noCells.toArray 58)) w.heap.size 58 noCells := new_at rfl
  have hb : Below w.heap.size w (w.alloc (.cells noCells.toArray 58)) := (Below.refl _ _).alloc (Nat.le_refl _) _
  have hE : Eye ((w.alloc (.cells noCells.toArray 58)).alloc (.cells [.string s, .bool false].toArray 254)) (w.heap.size + 1) (s.data.toList, false) := new_at (by simp)
  replace hR := hR.alloc (.cells [.string s, .bool false].toArray 254)
  replace hb := hb.alloc (by simp) (.cells [.string s, .bool false].toArray 254)
  obtain ⟨n, s1, q⟩ : ∃ n s1, eNum (s.data.toList, false) 4 = (n, s1) := ⟨_, _, rfl⟩
  have hn := eNum_lt (s.data.toList, false) 4
  rw [q] at hn
  simp only at hn
  have hl : s.data.toList.length = s.size := rfl
  have hle : s.data.toList.length ≤ 100000 := hs
  have Q := Lib.hid q
  have HL := Lib.hid hl
  clear q hl
  have fin : ∀ (w' : World) (a : Act), nRead s.data.toList = none → Row w' w.heap.size 58 noCells → Below w.heap.size w w' → a.tmps.getD 2 undef = .pointer (some ⟨w.heap.size, 0, none⟩) → a.tmps.getD 3 undef = .int .i64 0 → a.tmps.getD 4 undef = .int .i64 3 → a.defers = [] →
      bodyPost Try.prog Try.f135 (fun e w' => ReadNew w.heap.size (nOut s.data.toList) e w' ∧ Below w.heap.size w w') .ret a w' := fun w' a hnn hr hbb h2 h3 h4 hd =>
    ret_row3 hr Try.results135 Try.underlying58 rfl (by kernel_rfl) h2 hd ⟨by rw [nOut_none hnn]; exact ⟨_, by rw [h3, h4]; rfl, noRec_new _ w'⟩, hbb⟩
  have FIN := Lib.hid fin
  clear fin
  by_cases h4 : s.size < 4
  · have hnn : nRead s.data.toList = none := by unfold nRead; rw [if_pos (by rw [HL.out]; exact h4)]
    have hq := Q.out
    have e1 : eNum (s.data.toList, false) 4 = (0, (s.data.toList, true)) := by
      unfold eNum eTake
      rw [if_pos (by show s.data.toList.length < 4; rw [HL.out]; exact h4)]
      rfl
    rw [e1, Prod.mk.injEq] at hq
    obtain ⟨rfl, rfl⟩ := hq
    have HN := Lib.hid hnn
    clear hnn e1
    go_enter Try.func135, Try.ntmps135
    go_wp2_with fail
    refine (enum_of Q.out _ hE (by omega) (by show s.data.toList.length ≤ _; omega)).mono ?_
    rintro e w1 ⟨rfl, h1, hc1⟩
    have hR1 := hR.chg hc1 (by show ¬ w.heap.size = w.heap.size + 1; omega)
    have hb1 := hb.trans (hc1.below (B := w.heap.size) (by simp; omega) (fun k hk => by have hk' : k = w.heap.size + 1 := hk; omega))
    have x1 := h1.cell (i := 1) rfl
    clear h1 hc1 hR hb hE
    go_wp2_with (refine store_row hR1 noCells 58 (by kernel_rfl) rfl (by simp [noCells, noRec, Rec.cells, Value.oneCell']) rfl rfl rfl rfl ?_; intro wz hRz hcz hsz)
    exact FIN.out _ _ HN.out hRz (hb1.trans (hcz.below (by have := hb1.size; omega) (fun k hk => Nat.le_of_eq (Eq.symm hk)))) rfl rfl rfl rfl
  · have hq := Q.out
    have e1 : eNum (s.data.toList, false) 4 = (lev (s.data.toList.take 4), (s.data.toList.drop 4, false)) := by
      unfold eNum eTake
      rw [if_neg (by show ¬ s.data.toList.length < 4; rw [HL.out]; exact h4)]
    rw [e1, Prod.mk.injEq] at hq
    obtain ⟨hq1, rfl⟩ := hq
    have HQ1 := Lib.hid hq1
    clear hq1 e1
    by_cases hN : s.size < n + 8
    · have hN' : (s.size : Int) < (n : Int) + 4 + 4 := by omega
      have hnn : nRead s.data.toList = none := by unfold nRead; rw [if_neg (by rw [HL.out]; exact h4), HQ1.out, if_pos (by rw [HL.out]; exact hN)]
      have HN := Lib.hid hnn
      clear hnn
      go_enter Try.func135, Try.ntmps135
      go_wp2_with fail
      refine (enum_of Q.out _ hE (by omega) (by show s.data.toList.length ≤ _; omega)).mono ?_
      rintro e w1 ⟨rfl, h1, hc1⟩
      have hR1 := hR.chg hc1 (by show ¬ w.heap.size = w.heap.size + 1; omega)
      have hb1 := hb.trans (hc1.below (B := w.heap.size) (by simp; omega) (fun k hk => by have hk' : k = w.heap.size + 1 := hk; omega))
      have x1 := h1.cell (i := 1) rfl
      clear h1 hc1 hR hb hE
      go_wp2_with (refine store_row hR1 noCells 58 (by kernel_rfl) rfl (by simp [noCells, noRec, Rec.cells, Value.oneCell']) rfl rfl rfl rfl ?_; intro wz hRz hcz hsz)
      exact FIN.out _ _ HN.out hRz (hb1.trans (hcz.below (by have := hb1.size; omega) (fun k hk => Nat.le_of_eq (Eq.symm hk)))) rfl rfl rfl rfl
    · have hN' : ¬ ((s.size : Int) < (n : Int) + 4 + 4) := by omega
      have hN3 : decide ((s.size : Int) < (n : Int) + 4 + 4) = false := by simp; omega
      have hN2 : n + 8 ≤ s.size := by omega
      have hx : s.extract 0 (n + 4 + 4) = bs (s.data.toList.take (n + 8)) := extract_take _ _
      have HX := Lib.hid hx
      clear hx
      go_enter Try.func135, Try.ntmps135
      go_wp2_with fail
      refine (enum_of Q.out _ hE (by omega) (by show s.data.toList.length ≤ _; omega)).mono ?_
      rintro e w1 ⟨rfl, h1, hc1⟩
      have hR1 := hR.chg hc1 (by show ¬ w.heap.size = w.heap.size + 1; omega)
      have hb1 := hb.trans (hc1.below (B := w.heap.size) (by simp; omega) (fun k hk => by have hk' : k = w.heap.size + 1 := hk; omega))
      have x1 := h1.cell (i := 1) rfl
      clear hc1 hR hb hE
      go_wp2_with fail
      rw [HX.out]
      have hop := Crc.open_calls (bs (s.data.toList.take (n + 8))) w1 (by rw [bs_size, List.length_take]; omega)
      rw [bs_data] at hop
      have htl : (s.data.toList.take (n + 8)).length = n + 8 := by rw [List.length_take, HL.out]; omega
      cases hO : Crc.opened (s.data.toList.take (n + 8)) with
      | none =>
        have hnn : nRead s.data.toList = none := by unfold nRead; rw [if_neg (by rw [HL.out]; exact h4), HQ1.out, if_neg (by rw [HL.out]; exact hN), hO]
        have HN := Lib.hid hnn
        clear hnn
        rw [show Crc.openedV (s.data.toList.take (n + 8)) = .tuple #[.string (bs []), .bool false] by unfold Crc.openedV; rw [hO]] at hop
        clear hO htl
        refine hop.mono ?_
        rintro e w2 ⟨rfl, hb2⟩
        have hR2 := hR1.below hb2 hR1.lt
        have hb2' := hb1.trans (hb2.mono hb1.size)
        clear x1 h1
        go_wp2_with (refine store_row hR2 noCells 58 (by kernel_rfl) rfl (by simp [noCells, noRec, Rec.cells, Value.oneCell']) rfl rfl rfl rfl ?_; intro wz hRz hcz hsz)
        exact FIN.out _ _ HN.out hRz (hb2'.trans (hcz.below hb2'.size (fun k hk => Nat.le_of_eq (Eq.symm hk)))) rfl rfl rfl rfl
      | some t =>
        have htt : t = (s.data.toList.take (n + 8)).take (n + 4) ∧ t.length = n + 4 := by
          unfold Crc.opened at hO
          rw [if_neg (by omega), htl] at hO
          split at hO
          · cases hO
            exact ⟨rfl, by rw [List.length_take, htl]; omega⟩
          · cases hO
        have htn := htt.2
        have ht4 : (4 : Nat) ≤ (bs t).size := by rw [bs_size]; omega
        have ht5 : (bs t).extract 4 (bs t).size = bs (t.drop 4) := extract_drop _ _
        have HT5 := Lib.hid ht5
        rw [show Crc.openedV (s.data.toList.take (n + 8)) = .tuple #[.string (bs t), .bool true] by unfold Crc.openedV; rw [hO]] at hop
        have HO := Lib.hid hO
        have HTL := Lib.hid htl
        have HTT := Lib.hid htt
        have HTN := Lib.hid htn
        clear hO htl htt htn ht5
        refine hop.mono ?_
        rintro e w2 ⟨rfl, hb2⟩
        have hR2 := hR1.below hb2 hR1.lt
        have hE2 := h1.below hb2 h1.lt
        have hb2' := hb1.trans (hb2.mono hb1.size)
        have zc := hE2.cell (i := 0) rfl
        have zf := hE2.frozen 0 (by simp)
        clear x1 h1
        have hnr : nRead s.data.toList = if (parse (t.drop 4, false)).2 = ([], false) ∧ (parse (t.drop 4, false)).1.good = true then some ((parse (t.drop 4, false)).1, n + 8) else none := by
          unfold nRead
          rw [if_neg (by rw [HL.out]; exact h4), HQ1.out, if_neg (by rw [HL.out]; exact hN), HO.out]
        have hE3 : Eye (w2.setCell ⟨w.heap.size + 1, 0, none⟩ (.string ((bs t).extract 4 (bs t).size))) (w.heap.size + 1) (t.drop 4, false) := (hE2.set 0 _).cast (by rw [HT5.out]; rfl)
        have hset : Chg (One (w.heap.size + 1)) w2 (w2.setCell ⟨w.heap.size + 1, 0, none⟩ (.string ((bs t).extract 4 (bs t).size))) := (Chg.refl _ _).put _ _
        have hR3 := hR2.chg hset (by show ¬ w.heap.size = w.heap.size + 1; omega)
        have hb3 := hb2'.trans (hset.below hb2'.size (fun k hk => by have hk' : k = w.heap.size + 1 := hk; omega))
        have hrc := record_calls _ _ _ hE3 (by show (t.drop 4).length ≤ 100000; have := HTN.out; rw [List.length_drop]; omega)
        generalize parse (t.drop 4, false) = p at hnr hrc
        obtain ⟨r, rest, bad⟩ := p
        have HNR := Lib.hid hnr
        have HR3 := Lib.hid hR3
        have HWL := Lib.hid hR3.lt
        have HB3 := Lib.hid hb3
        clear hnr hset hE3 hR2 hE2 hb2 hb2' hop hR1 hb1 hR3 hb3
        go_wp2_with fail
        clear zc zf
        refine hrc.mono ?_
        rintro e w3 ⟨⟨a0, n0, c0, a1, n1, c1, a2, n2, c2, rfl, p0, p1, p2, u0, u1, u2, z0, z1, z2⟩, hE4, hc4⟩
        have hR4 := (HR3.out.chg hc4 (by show ¬ w.heap.size = w.heap.size + 1; omega)).alloc (.cells noCells.toArray 58)
        have hb4 := (HB3.out.trans (hc4.below HB3.out.size (fun k hk => by have hk' : k = w.heap.size + 1 := hk; omega)))
        have hlt4 := hE4.lt
        replace hE4 := hE4.alloc (.cells noCells.toArray 58)
        have hZ : Row (w3.alloc (.cells noCells.toArray 58)) w3.heap.size 58 noCells := new_at rfl
        have hba := (Below.refl w3.heap.size w3).alloc (Nat.le_refl _) (.cells noCells.toArray 58)
        have hzl : ∀ v ∈ noCells, v.oneCell' = true := by simp [noCells, noRec, Rec.cells, Value.oneCell']
        have hrl : ∀ v ∈ r.cells (.slice a0 n0 c0) (.slice a1 n1 c1) (.slice a2 n2 c2), v.oneCell' = true := by simp [Rec.cells, Value.oneCell']
        have ZL := Lib.hid hzl
        have RL := Lib.hid hrl
        have HR4 := Lib.hid hR4
        have HE4 := Lib.hid hE4
        have HZ := Lib.hid hZ
        have hb3 := hb4.trans (hba.mono hb4.size)
        have HB4 := Lib.hid hb3
        have HBA := Lib.hid hba
        have P0 := Lib.hid p0
        have P1 := Lib.hid p1
        have P2 := Lib.hid p2
        clear hrc HR3 HB3 hzl hrl hR4 hE4 hZ p0 p1 p2 hba hb4 hb3 hc4
        cases bad
        · by_cases hre : rest = []
          · subst hre
            have hne : (bs []).toList = [] := bs_toList []
            go_wp2_with (first
            | (refine store_row HZ.out (r.cells (.slice a0 n0 c0) (.slice a1 n1 c1) (.slice a2 n2 c2)) 58 (by kernel_rfl) rfl RL.out rfl rfl rfl rfl ?_
               intro w5 hX hc5 hz5
               have hE5 := HE4.out.chg hc5 (by show ¬ w.heap.size + 1 = w3.heap.size; omega)
               have x0 := hE5.cell (i := 0) rfl
               have x1 := hE5.cell (i := 1) rfl
               try simp only at x0
               have hR5 := HR4.out.chg hc5 (by show ¬ w.heap.size = w3.heap.size; omega)
               have hb5 := HB4.out.trans (hc5.below HB4.out.size (fun k hk => by have hk' : k = w3.heap.size := hk; omega))
               have HR5 := Lib.hid hR5
               have HB5 := Lib.hid hb5
               have hbs := HBA.out.trans (hc5.below HBA.out.size (fun k hk => Nat.le_of_eq (Eq.symm hk)))
               have HBS := Lib.hid hbs
               have k0 := hX.cell (i := 0) rfl
               have k1 := hX.cell (i := 1) rfl
               have k2 := hX.cell (i := 2) rfl
               have k3 := hX.cell (i := 3) rfl
               have k4 := hX.cell (i := 4) rfl
               have k5 := hX.cell (i := 5) rfl
               have k6 := hX.cell (i := 6) rfl
               have k7 := hX.cell (i := 7) rfl
               have k8 := hX.cell (i := 8) rfl
               have k9 := hX.cell (i := 9) rfl
               have k10 := hX.cell (i := 10) rfl
               clear hE5 hR5 hb5 hc5 hbs))
            clear k0 k1 k2 k3 k4 k5 k6 k7 k8 k9 k10
            refine (good_calls r a0 n0 c0 a1 n1 c1 a2 n2 c2 _ (P0.out.keep HBS.out) (P1.out.keep HBS.out) (P2.out.keep HBS.out)).mono ?_
            rintro e w6 ⟨rfl, hb6⟩
            have hR6 := HR5.out.below hb6 HR5.out.lt
            have hX6 := hX.below hb6 hX.lt
            have hbb6 := HB5.out.trans (hb6.mono HB5.out.size)
            have hbs6 := HBS.out.trans (hb6.mono HBS.out.size)
            cases hg : r.good
            · have hnn : nRead s.data.toList = none := by rw [HNR.out, if_neg (by simp [hg])]
              have HN := Lib.hid hnn
              clear hnn hg x0 x1
              go_wp2_with (refine store_row hR6 noCells 58 (by kernel_rfl) rfl ZL.out rfl rfl rfl rfl ?_; intro wz hRz hcz hsz)
              exact FIN.out _ _ HN.out hRz (hbb6.trans (hcz.below hbb6.size (fun k hk => Nat.le_of_eq (Eq.symm hk)))) rfl rfl rfl rfl
            · have hss : nRead s.data.toList = some (r, n + 8) := by rw [HNR.out, if_pos (by simp [hg])]
              have HN := Lib.hid hss
              clear hss hg x0 x1
              go_wp2_with (first
                | (refine store_row hR6 (r.cells (.slice a0 n0 c0) (.slice a1 n1 c1) (.slice a2 n2 c2)) 58 (by kernel_rfl) rfl RL.out rfl rfl rfl rfl ?_; intro wz hRz hcz hsz)
                | (refine load_row hX6 58 Try.underlying58 rfl (by kernel_rfl) rfl rfl rfl ?_))
              refine ret_row3 hRz Try.results135 Try.underlying58 rfl (by kernel_rfl) rfl rfl ⟨?_, hbb6.trans (hcz.below hbb6.size (fun k hk => Nat.le_of_eq (Eq.symm hk)))⟩
              rw [nOut_some HN.out]
              have hwl := HWL.out
              exact ⟨_, rfl, a0, n0, c0, a1, n1, c1, a2, n2, c2, rfl, ⟨(P0.out.keep hbs6).chg hcz (fun ad h hx => by have := u0 ad h; have hx' : ad.block = w.heap.size := hx; omega), (P1.out.keep hbs6).chg hcz (fun ad h hx => by have := u1 ad h; have hx' : ad.block = w.heap.size := hx; omega), (P2.out.keep hbs6).chg hcz (fun ad h hx => by have := u2 ad h; have hx' : ad.block = w.heap.size := hx; omega)⟩, ⟨z0, z1, z2⟩, (fun ad h => by have := u0 ad h; omega), (fun ad h => by have := u1 ad h; omega), (fun ad h => by have := u2 ad h; omega)⟩
          · have hnn : nRead s.data.toList = none := by rw [HNR.out, if_neg (by simp [hre])]
            have HN := Lib.hid hnn
            have hne : (bs rest).toList = rest := bs_toList rest
            have hne2 : rest.isEmpty = false := by simpa using hre
            clear hnn
            go_wp2_with (first
            | (refine store_row HZ.out (r.cells (.slice a0 n0 c0) (.slice a1 n1 c1) (.slice a2 n2 c2)) 58 (by kernel_rfl) rfl RL.out rfl rfl rfl rfl ?_
               intro w5 hX hc5 hz5
               have hE5 := HE4.out.chg hc5 (by show ¬ w.heap.size + 1 = w3.heap.size; omega)
               have x0 := hE5.cell (i := 0) rfl
               have x1 := hE5.cell (i := 1) rfl
               try simp only at x0
               have hR5 := HR4.out.chg hc5 (by show ¬ w.heap.size = w3.heap.size; omega)
               have hb5 := HB4.out.trans (hc5.below HB4.out.size (fun k hk => by have hk' : k = w3.heap.size := hk; omega))
               have HR5 := Lib.hid hR5
               have HB5 := Lib.hid hb5
               clear hE5 hX hR5 hb5 hc5)
            | (refine store_row HR5.out noCells 58 (by kernel_rfl) rfl ZL.out rfl rfl rfl rfl ?_; intro wz hRz hcz hsz))
            exact FIN.out _ _ HN.out hRz (HB5.out.trans (hcz.below HB5.out.size (fun k hk => Nat.le_of_eq (Eq.symm hk)))) rfl rfl rfl rfl
        · have hnn : nRead s.data.toList = none := by rw [HNR.out, if_neg (by simp)]
          have HN := Lib.hid hnn
          clear hnn
          go_wp2_with (first
            | (refine store_row HZ.out (r.cells (.slice a0 n0 c0) (.slice a1 n1 c1) (.slice a2 n2 c2)) 58 (by kernel_rfl) rfl RL.out rfl rfl rfl rfl ?_
               intro w5 hX hc5 hz5
               have hE5 := HE4.out.chg hc5 (by show ¬ w.heap.size + 1 = w3.heap.size; omega)
               have x1 := hE5.cell (i := 1) rfl
               have hR5 := HR4.out.chg hc5 (by show ¬ w.heap.size = w3.heap.size; omega)
               have hb5 := HB4.out.trans (hc5.below HB4.out.size (fun k hk => by have hk' : k = w3.heap.size := hk; omega))
               have HR5 := Lib.hid hR5
               have HB5 := Lib.hid hb5
               clear hE5 hX hR5 hb5 hc5)
            | (refine store_row HR5.out noCells 58 (by kernel_rfl) rfl ZL.out rfl rfl rfl rfl ?_; intro wz hRz hcz hsz))
          exact FIN.out _ _ HN.out hRz (HB5.out.trans (hcz.below HB5.out.size (fun k hk => Nat.le_of_eq (Eq.symm hk)))) rfl rfl rfl rfl
theorem read_calls (s : ByteArray) (w : World) (hs : s.size ≤ 100000) :
    Calls Try.prog 135 #[.string s] w fun e w' => ReadOut (nOut s.data.toList) e w' ∧ Below w.heap.size w w' :=
  (read_new s w hs).mono fun e w' ⟨⟨v, h1, h2⟩, h3⟩ => ⟨⟨v, h1, h2.has⟩, h3⟩
end Go.Proofs.Ytcfjooeagfollaa.Note

namespace Go.Proofs.Ytcfjooeagfollaa.Note
open Go.RowKit Go.Proofs.Ytcfjooeagfollaa.Mem Go.Proofs.Ytcfjooeagfollaa.Bytes
set_option linter.unusedSimpArgs false
set_option linter.unusedVariables false
set_option maxRecDepth 20000

theorem lev_le (n k : Nat) : lev (le n k) = n % 256 ^ k := by
  induction k with
  | zero => simp [le, lev, Nat.mod_one]
  | succ k ih =>
    rw [le, lev_snoc, ih, le_length, Nat.pow_succ, Nat.mod_mul]
    have : (UInt8.ofNat (n / 256 ^ k)).toNat = n / 256 ^ k % 256 := by simp
    rw [this, Nat.mul_comm]
theorem le_head (k : Nat) : ∀ n, le n (k + 1) = UInt8.ofNat n :: le (n / 256) k := by
  induction k with
  | zero => intro n; simp [le]
  | succ k ih =>
    intro n
    rw [le, ih, le, List.cons_append, Nat.pow_succ, Nat.mul_comm, Nat.div_div_eq_div_mul]
theorem le_lev (l : List UInt8) : le (lev l) l.length = l := by
  induction l with
  | nil => rfl
  | cons b l ih =>
    rw [List.length_cons, le_head, lev]
    have h := b.toNat_lt
    have e : (b.toNat + 256 * lev l) / 256 = lev l := by omega
    rw [e, ih]
    congr 1
    apply UInt8.toNat_inj.1
    simp

theorem eTake_app (x t : List UInt8) (b : Bool) (n : Nat) (h : x.length = n) : eTake (x ++ t, b) n = (x, (t, b)) := by
  unfold eTake
  simp only [List.length_append]
  rw [if_neg (by omega)]
  subst h
  simp
theorem eNum_app (n k : Nat) (t : List UInt8) (b : Bool) (h : n < 256 ^ k) : eNum (le n k ++ t, b) k = (n, (t, b)) := by
  unfold eNum
  rw [eTake_app _ _ _ _ (le_length n k)]
  simp only [lev_le, Nat.mod_eq_of_lt h]
theorem eText_app (x t : List UInt8) (b : Bool) (h : x.length ≤ 255) : eText (le x.length 1 ++ (x ++ t), b) = (x, (t, b)) := by
  unfold eText
  rw [eNum_app _ _ _ _ (by omega)]
  exact eTake_app _ _ _ _ rfl
theorem images_app (ps : List (Int × ByteArray)) (t : List UInt8) (h : ∀ x ∈ ps, badPage x = false) : loopP getImage ps.length (ps.flatMap pageBytes ++ t, false) = (ps, (t, false)) := by
  induction ps with
  | nil => rfl
  | cons x ps ih =>
    have hx := h x (by simp)
    simp only [badPage, Bool.or_eq_false_iff, Bool.not_eq_false'] at hx
    obtain ⟨h1, h2⟩ := hx
    obtain ⟨h3, h4⟩ := inb_iff.1 h1
    have h5 : x.2.size = 256 := by simpa using h2
    have hg : getImage (pageBytes x ++ (ps.flatMap pageBytes ++ t), false) = (x, (ps.flatMap pageBytes ++ t, false)) := by
      unfold getImage pageBytes
      rw [List.append_assoc, eNum_app _ _ _ _ (by omega)]
      simp only
      rw [eTake_app _ _ _ _ (show x.2.data.toList.length = 256 from h5)]
      simp only [bs_of]
      rw [Int.toNat_of_nonneg h3]
    rw [List.length_cons, List.flatMap_cons, List.append_assoc]
    simp only [loopP, hg, Bool.false_eq_true, if_false]
    rw [ih (fun y hy => h y (by simp [hy]))]
theorem pairs_app (k1 k2 : Nat) (u1 u2 : Int) (hu1 : u1.toNat < 256 ^ k1) (hu2 : u2.toNat < 256 ^ k2) (ps : List (Int × Int)) (t : List UInt8) (h : ∀ x ∈ ps, (inb x.1 u1 && inb x.2 u2) = true) : loopP (getPair k1 k2) ps.length (ps.flatMap (fun x => le x.1.toNat k1 ++ le x.2.toNat k2) ++ t, false) = (ps, (t, false)) := by
  induction ps with
  | nil => rfl
  | cons x ps ih =>
    have hx := h x (by simp)
    rw [Bool.and_eq_true] at hx
    obtain ⟨h3, h4⟩ := inb_iff.1 hx.1
    obtain ⟨h5, h6⟩ := inb_iff.1 hx.2
    have b1 : x.1.toNat < 256 ^ k1 := Nat.lt_of_le_of_lt (by omega) hu1
    have b2 : x.2.toNat < 256 ^ k2 := Nat.lt_of_le_of_lt (by omega) hu2
    have hg : getPair k1 k2 (le x.1.toNat k1 ++ (le x.2.toNat k2 ++ (ps.flatMap (fun x => le x.1.toNat k1 ++ le x.2.toNat k2) ++ t)), false) = (x, (ps.flatMap (fun x => le x.1.toNat k1 ++ le x.2.toNat k2) ++ t, false)) := by
      unfold getPair
      rw [eNum_app _ _ _ _ b1]
      simp only
      rw [eNum_app _ _ _ _ b2]
      simp only
      rw [Int.toNat_of_nonneg h3, Int.toNat_of_nonneg h5]
    rw [List.length_cons, List.flatMap_cons, List.append_assoc, List.append_assoc]
    simp only [loopP, hg, Bool.false_eq_true, if_false]
    rw [ih (fun y hy => h y (by simp [hy]))]

theorem parse_body (r : Rec) (h : r.good = true) (t : List UInt8) : parse (r.body ++ t, false) = (r, (t, false)) := by
  obtain ⟨⟨k1, k2⟩, ⟨d1, d2⟩, ⟨p1, p2⟩, ⟨n1, n2⟩, ⟨u1, u2⟩, ⟨t1, t2⟩, ks, vs, c1, c2, c3, hp, ho, hd⟩ := good_nums h
  have ek : r.key.data.toList.length = r.key.size := rfl
  have ev : r.val.data.toList.length = r.val.size := rfl
  have g1 := images_app r.pages (le r.opens.length 1 ++ (r.opens.flatMap openBytes ++ (le r.dirts.length 2 ++ (r.dirts.flatMap dirtBytes ++ t)))) (fun x hx => by simpa using List.any_eq_false.1 hp x hx)
  have g2 := pairs_app 4 4 2147483647 2147483647 (by decide) (by decide) r.opens (le r.dirts.length 2 ++ (r.dirts.flatMap dirtBytes ++ t)) (fun x hx => by have := List.any_eq_false.1 ho x hx; simpa [badOpen] using this)
  have g3 := pairs_app 2 4 255 2147483647 (by decide) (by decide) r.dirts t (fun x hx => by have := List.any_eq_false.1 hd x hx; simpa [badDirty] using this)
  have t1' := eText_app r.key.data.toList (le r.val.size 1 ++ (r.val.data.toList ++ (le r.pages.length 1 ++ (r.pages.flatMap pageBytes ++ (le r.opens.length 1 ++ (r.opens.flatMap openBytes ++ (le r.dirts.length 2 ++ (r.dirts.flatMap dirtBytes ++ t)))))))) false (by omega)
  have t2' := eText_app r.val.data.toList (le r.pages.length 1 ++ (r.pages.flatMap pageBytes ++ (le r.opens.length 1 ++ (r.opens.flatMap openBytes ++ (le r.dirts.length 2 ++ (r.dirts.flatMap dirtBytes ++ t)))))) false (by omega)
  rw [ek] at t1'
  rw [ev] at t2'
  change loopP (getPair 4 4) r.opens.length (r.opens.flatMap openBytes ++ _, false) = _ at g2
  change loopP (getPair 2 4) r.dirts.length (r.dirts.flatMap dirtBytes ++ _, false) = _ at g3
  unfold parse Rec.body
  simp only [List.append_assoc]
  rw [eNum_app r.kind.toNat 1 _ _ (by omega)]
  simp only
  rw [eNum_app r.deal.toNat 4 _ _ (by omega)]
  simp only
  rw [eNum_app r.prev.toNat 4 _ _ (by omega)]
  simp only
  rw [eNum_app r.next.toNat 4 _ _ (by omega)]
  simp only
  rw [eNum_app r.ukind.toNat 1 _ _ (by omega)]
  simp only
  rw [eNum_app r.utree.toNat 1 _ _ (by omega)]
  simp only
  rw [t1']
  simp only
  rw [t2']
  simp only
  rw [eNum_app r.pages.length 1 _ _ (by omega)]
  simp only
  rw [g1]
  simp only
  rw [eNum_app r.opens.length 1 _ _ (by omega)]
  simp only
  rw [g2]
  simp only
  rw [eNum_app r.dirts.length 2 _ _ (by omega)]
  simp only
  rw [g3]
  simp only [bs_of]
  rw [Int.toNat_of_nonneg (by omega), Int.toNat_of_nonneg d1, Int.toNat_of_nonneg p1, Int.toNat_of_nonneg n1, Int.toNat_of_nonneg u1, Int.toNat_of_nonneg t1]

/-! the other way round -/
theorem eTake_inv {l x l' : List UInt8} {b : Bool} {n : Nat} (h : eTake (l, b) n = (x, (l', false))) : b = false ∧ l = x ++ l' ∧ x.length = n := by
  unfold eTake at h
  split at h
  · simp at h
  · rename_i hlt
    simp only [Prod.mk.injEq] at h
    obtain ⟨rfl, rfl, rfl⟩ := h
    exact ⟨rfl, by simp, by simp at hlt; simp; omega⟩
theorem eNum_inv {l l' : List UInt8} {b : Bool} {n k : Nat} (h : eNum (l, b) k = (n, (l', false))) : b = false ∧ l = le n k ++ l' := by
  unfold eNum at h
  obtain ⟨x, s, hx⟩ : ∃ x s, eTake (l, b) k = (x, s) := ⟨_, _, rfl⟩
  rw [hx, Prod.mk.injEq] at h
  simp only at h
  obtain ⟨rfl, rfl⟩ := h
  obtain ⟨h1, h2, h3⟩ := eTake_inv hx
  exact ⟨h1, by rw [h2, ← h3, le_lev]⟩
theorem eText_inv {l x l' : List UInt8} {b : Bool} (h : eText (l, b) = (x, (l', false))) : b = false ∧ l = le x.length 1 ++ x ++ l' := by
  unfold eText at h
  obtain ⟨n, ⟨l1, b1⟩, hx⟩ : ∃ n s, eNum (l, b) 1 = (n, s) := ⟨_, _, rfl⟩
  rw [hx] at h
  obtain ⟨rfl, h2, h3⟩ := eTake_inv h
  obtain ⟨rfl, h4⟩ := eNum_inv hx
  exact ⟨rfl, by rw [h4, h2, h3, List.append_assoc]⟩
theorem loop_inv {α : Type} {f : St → α × St} {g : α → List UInt8} (hf : ∀ l b x l', f (l, b) = (x, (l', false)) → b = false ∧ l = g x ++ l') :
    ∀ (n : Nat) (l : List UInt8) (b : Bool) (xs : List α) (l' : List UInt8), loopP f n (l, b) = (xs, (l', false)) → b = false ∧ xs.length = n ∧ l = xs.flatMap g ++ l' := by
  intro n
  induction n with
  | zero =>
    intro l b xs l' h
    simp only [loopP, Prod.mk.injEq] at h
    obtain ⟨rfl, rfl, rfl⟩ := h
    exact ⟨rfl, rfl, rfl⟩
  | succ n ih =>
    intro l b xs l' h
    simp only [loopP] at h
    split at h
    · rename_i hb
      simp only [Prod.mk.injEq] at h
      simp_all
    · rename_i hb
      obtain ⟨x, ⟨l1, b1⟩, hx⟩ : ∃ x s, f (l, b) = (x, s) := ⟨_, _, rfl⟩
      obtain ⟨ys, ⟨l2, b2⟩, hy⟩ : ∃ ys s, loopP f n (l1, b1) = (ys, s) := ⟨_, _, rfl⟩
      rw [hx] at h
      simp only [hy, Prod.mk.injEq] at h
      obtain ⟨rfl, rfl, rfl⟩ := h
      obtain ⟨rfl, h1, h2⟩ := ih _ _ _ _ hy
      obtain ⟨rfl, h3⟩ := hf _ _ _ _ hx
      exact ⟨rfl, by simp [h1], by rw [h3, h2, List.flatMap_cons, List.append_assoc]⟩
theorem getImage_inv : ∀ l b x l', getImage (l, b) = (x, (l', false)) → b = false ∧ l = pageBytes x ++ l' := by
  intro l b x l' h
  unfold getImage at h
  obtain ⟨n, ⟨l1, b1⟩, hx⟩ : ∃ n s, eNum (l, b) 2 = (n, s) := ⟨_, _, rfl⟩
  obtain ⟨d, ⟨l2, b2⟩, hy⟩ : ∃ d s, eTake (l1, b1) 256 = (d, s) := ⟨_, _, rfl⟩
  rw [hx] at h
  simp only [hy, Prod.mk.injEq] at h
  obtain ⟨rfl, rfl, rfl⟩ := h
  obtain ⟨rfl, h1, h2⟩ := eTake_inv hy
  obtain ⟨rfl, h3⟩ := eNum_inv hx
  exact ⟨rfl, by rw [h3, h1]; simp [pageBytes, bs_data]⟩
theorem getPair_inv (k1 k2 : Nat) : ∀ l b x l', getPair k1 k2 (l, b) = (x, (l', false)) → b = false ∧ l = (le x.1.toNat k1 ++ le x.2.toNat k2) ++ l' := by
  intro l b x l' h
  unfold getPair at h
  obtain ⟨n, ⟨l1, b1⟩, hx⟩ : ∃ n s, eNum (l, b) k1 = (n, s) := ⟨_, _, rfl⟩
  obtain ⟨d, ⟨l2, b2⟩, hy⟩ : ∃ d s, eNum (l1, b1) k2 = (d, s) := ⟨_, _, rfl⟩
  rw [hx] at h
  simp only [hy, Prod.mk.injEq] at h
  obtain ⟨rfl, rfl, rfl⟩ := h
  obtain ⟨rfl, h1⟩ := eNum_inv hy
  obtain ⟨rfl, h3⟩ := eNum_inv hx
  exact ⟨rfl, by rw [h3, h1]; simp⟩

theorem parse_inv {l l' : List UInt8} {r : Rec} (h : parse (l, false) = (r, (l', false))) : l = r.body ++ l' := by
  obtain ⟨v1, ⟨l1, b1⟩, e1⟩ : ∃ v s', eNum (l, false) 1 = (v, s') := ⟨_, _, rfl⟩
  obtain ⟨v2, ⟨l2, b2⟩, e2⟩ : ∃ v s', eNum (l1, b1) 4 = (v, s') := ⟨_, _, rfl⟩
  obtain ⟨v3, ⟨l3, b3⟩, e3⟩ : ∃ v s', eNum (l2, b2) 4 = (v, s') := ⟨_, _, rfl⟩
  obtain ⟨v4, ⟨l4, b4⟩, e4⟩ : ∃ v s', eNum (l3, b3) 4 = (v, s') := ⟨_, _, rfl⟩
  obtain ⟨v5, ⟨l5, b5⟩, e5⟩ : ∃ v s', eNum (l4, b4) 1 = (v, s') := ⟨_, _, rfl⟩
  obtain ⟨v6, ⟨l6, b6⟩, e6⟩ : ∃ v s', eNum (l5, b5) 1 = (v, s') := ⟨_, _, rfl⟩
  obtain ⟨ky, ⟨l7, b7⟩, e7⟩ : ∃ v s', eText (l6, b6) = (v, s') := ⟨_, _, rfl⟩
  obtain ⟨vl, ⟨l8, b8⟩, e8⟩ : ∃ v s', eText (l7, b7) = (v, s') := ⟨_, _, rfl⟩
  obtain ⟨np, ⟨l9, b9⟩, e9⟩ : ∃ v s', eNum (l8, b8) 1 = (v, s') := ⟨_, _, rfl⟩
  obtain ⟨ps, ⟨lp, bp⟩, e10⟩ : ∃ v s', loopP getImage np (l9, b9) = (v, s') := ⟨_, _, rfl⟩
  obtain ⟨no, ⟨l10, b10⟩, e11⟩ : ∃ v s', eNum (lp, bp) 1 = (v, s') := ⟨_, _, rfl⟩
  obtain ⟨os, ⟨lo, bo⟩, e12⟩ : ∃ v s', loopP (getPair 4 4) no (l10, b10) = (v, s') := ⟨_, _, rfl⟩
  obtain ⟨nd, ⟨l11, b11⟩, e13⟩ : ∃ v s', eNum (lo, bo) 2 = (v, s') := ⟨_, _, rfl⟩
  obtain ⟨ds, ⟨ld, bd⟩, e14⟩ : ∃ v s', loopP (getPair 2 4) nd (l11, b11) = (v, s') := ⟨_, _, rfl⟩
  simp only [parse, e1, e2, e3, e4, e5, e6, e7, e8, e9, e10, e11, e12, e13, e14, Prod.mk.injEq] at h
  obtain ⟨rfl, rfl, rfl⟩ := h
  obtain ⟨rfl, n14, h14⟩ := loop_inv (getPair_inv 2 4) _ _ _ _ _ e14
  obtain ⟨rfl, h13⟩ := eNum_inv e13
  obtain ⟨rfl, n12, h12⟩ := loop_inv (getPair_inv 4 4) _ _ _ _ _ e12
  obtain ⟨rfl, h11⟩ := eNum_inv e11
  obtain ⟨rfl, n10, h10⟩ := loop_inv getImage_inv _ _ _ _ _ e10
  obtain ⟨rfl, h9⟩ := eNum_inv e9
  obtain ⟨rfl, h8⟩ := eText_inv e8
  obtain ⟨rfl, h7⟩ := eText_inv e7
  obtain ⟨rfl, h6⟩ := eNum_inv e6
  obtain ⟨rfl, h5⟩ := eNum_inv e5
  obtain ⟨rfl, h4⟩ := eNum_inv e4
  obtain ⟨rfl, h3⟩ := eNum_inv e3
  obtain ⟨rfl, h2⟩ := eNum_inv e2
  obtain ⟨_, h1⟩ := eNum_inv e1
  rw [h1, h2, h3, h4, h5, h6, h7, h8, h9, h10, h11, h12, h13, h14]
  simp only [Rec.body, List.append_assoc, Int.toNat_natCast, bs_data, bs_size, n10, n12, n14]
  rfl

/-! ### the bytes of a record -/
def Rec.bytes (r : Rec) : List UInt8 := Crc.sealed (le r.body.length 4 ++ r.body)
theorem sealed_length (l : List UInt8) : (Crc.sealed l).length = l.length + 4 := by simp [Crc.sealed, Crc.tail]
theorem bytes_length (r : Rec) : r.bytes.length = r.body.length + 8 := by rw [Rec.bytes, sealed_length, List.length_append, le_length]; omega
theorem good_size {r : Rec} (h : r.good = true) : r.size ≤ 4300 := by
  obtain ⟨_, _, _, _, _, _, ks, vs, c1, c2, c3, _⟩ := good_nums h
  simp only [Rec.size, h, if_true]
  omega
theorem good_bytes {r : Rec} (h : r.good = true) : r.bytes.length = r.size ∧ r.bytes.length ≤ 4300 := by
  have := bytes_length r
  have := body_len r h
  have := good_size h
  omega
theorem opened_sealed (l : List UInt8) : Crc.opened (Crc.sealed l) = some l := by
  unfold Crc.opened
  rw [if_neg (by rw [sealed_length]; omega)]
  have e : (Crc.sealed l).take ((Crc.sealed l).length - 4) = l := by
    rw [sealed_length, Nat.add_sub_cancel]
    simp [Crc.sealed]
  rw [e, if_pos rfl]
theorem opened_inv {l t : List UInt8} (h : Crc.opened l = some t) : l = Crc.sealed t ∧ t.length + 4 = l.length := by
  unfold Crc.opened at h
  split at h
  · cases h
  · split at h
    · rename_i h1 h2
      cases h
      exact ⟨h2.symm, by rw [List.length_take]; omega⟩
    · cases h

/-- Read gives a record just where its bytes stand. -/
theorem nRead_iff (s : List UInt8) (r : Rec) (n : Nat) : nRead s = some (r, n) ↔ r.good = true ∧ n = r.bytes.length ∧ ∃ t, s = r.bytes ++ t := by
  constructor
  · intro h
    unfold nRead at h
    split at h
    · cases h
    · split at h
      · cases h
      · rename_i h4 hn
        split at h
        · cases h
        · rename_i t ht
          split at h
          · rename_i hc
            obtain ⟨hc1, hc2⟩ := hc
            cases h
            generalize hq : parse (t.drop 4, false) = q at *
            obtain ⟨r, st⟩ := q
            simp only at hc1 hc2 ⊢
            subst hc1
            have hb := parse_inv hq
            rw [List.append_nil] at hb
            obtain ⟨h1, h2⟩ := opened_inv ht
            have hl : (s.take (lev (s.take 4) + 8)).length = lev (s.take 4) + 8 := by rw [List.length_take]; omega
            rw [hl] at h2
            have hd : r.body.length = lev (s.take 4) := by rw [← hb, List.length_drop]; omega
            have ht4 : t.take 4 = s.take 4 := by
              have e1 : (s.take (lev (s.take 4) + 8)).take 4 = s.take 4 := by rw [List.take_take, Nat.min_eq_left (by omega)]
              rw [← e1, h1]
              unfold Crc.sealed
              rw [List.take_append_of_le_length (by omega)]
            have hle : le r.body.length 4 = s.take 4 := by
              rw [hd]
              have e := le_lev (s.take 4)
              rwa [show (s.take 4).length = 4 by rw [List.length_take]; omega] at e
            have hby : r.bytes = s.take (lev (s.take 4) + 8) := by
              unfold Rec.bytes
              rw [h1, hle, ← ht4, ← hb, List.take_append_drop]
            refine ⟨hc2, by rw [bytes_length, hd], s.drop (lev (s.take 4) + 8), ?_⟩
            rw [hby, List.take_append_drop]
          · cases h
  · rintro ⟨hg, rfl, t, rfl⟩
    have hb := (good_bytes hg).2
    have hbl := bytes_length r
    have h4 : (r.bytes ++ t).take 4 = le r.body.length 4 := by
      unfold Rec.bytes Crc.sealed
      rw [List.append_assoc, List.append_assoc, List.take_append_of_le_length (by rw [le_length]; omega), List.take_of_length_le (by rw [le_length]; omega)]
    have hl : lev ((r.bytes ++ t).take 4) = r.body.length := by rw [h4, lev_le, Nat.mod_eq_of_lt (by omega)]
    unfold nRead
    rw [if_neg (by rw [List.length_append]; omega), hl, if_neg (by rw [List.length_append]; omega)]
    have ht : (r.bytes ++ t).take (r.body.length + 8) = r.bytes := by rw [← hbl]; simp
    rw [ht]
    unfold Rec.bytes
    rw [opened_sealed]
    have hd : (le r.body.length 4 ++ r.body).drop 4 = r.body := by
      rw [List.drop_append_of_le_length (by rw [le_length]; omega), List.drop_of_length_le (by rw [le_length]; omega), List.nil_append]
    have hp := parse_body r hg []
    rw [List.append_nil] at hp
    simp only [hd, hp, hg, and_self, if_true]
    have e := bytes_length r
    unfold Rec.bytes at e
    rw [e]

/-- The document's Read. -/
def refRead (l : List UInt8) : Option (Rec × Nat) :=
  if l.length < 4 then none else
  if l.length < lev (l.take 4) + 8 then none else
  if (parse ((l.take (lev (l.take 4) + 4)).drop 4, false)).2.2 = false ∧ (parse ((l.take (lev (l.take 4) + 4)).drop 4, false)).1.good = true ∧ (parse ((l.take (lev (l.take 4) + 4)).drop 4, false)).1.bytes = l.take (lev (l.take 4) + 8) then
    some ((parse ((l.take (lev (l.take 4) + 4)).drop 4, false)).1, lev (l.take 4) + 8) else none
theorem refRead_eq (l : List UInt8) : refRead l = nRead l := by
  have key : ∀ r n, refRead l = some (r, n) ↔ nRead l = some (r, n) := by
    intro r n
    rw [nRead_iff]
    constructor
    · intro h
      unfold refRead at h
      split at h
      · cases h
      · split at h
        · cases h
        · rename_i h4 hn
          split at h
          · rename_i hc
            cases h
            refine ⟨hc.2.1, ?_, l.drop (lev (l.take 4) + 8), ?_⟩
            · rw [hc.2.2, List.length_take]; omega
            · rw [hc.2.2, List.take_append_drop]
          · cases h
    · rintro ⟨hg, rfl, t, rfl⟩
      have hb := (good_bytes hg).2
      have hbl := bytes_length r
      have h4 : (r.bytes ++ t).take 4 = le r.body.length 4 := by
        unfold Rec.bytes Crc.sealed
        rw [List.append_assoc, List.append_assoc, List.take_append_of_le_length (by rw [le_length]; omega), List.take_of_length_le (by rw [le_length]; omega)]
      have hl : lev ((r.bytes ++ t).take 4) = r.body.length := by rw [h4, lev_le, Nat.mod_eq_of_lt (by omega)]
      have hd : ((r.bytes ++ t).take (r.body.length + 4)).drop 4 = r.body := by
        unfold Rec.bytes Crc.sealed
        rw [List.append_assoc, List.take_append_of_le_length (by rw [List.length_append, le_length]; omega), List.take_of_length_le (by rw [List.length_append, le_length]; omega)]
        rw [List.drop_append_of_le_length (by rw [le_length]; omega), List.drop_of_length_le (by rw [le_length]; omega), List.nil_append]
      have hp := parse_body r hg []
      rw [List.append_nil] at hp
      have ht : (r.bytes ++ t).take (r.body.length + 8) = r.bytes := by rw [← hbl]; simp
      unfold refRead
      rw [if_neg (by rw [List.length_append]; omega), hl, if_neg (by rw [List.length_append]; omega), hd, hp, ht]
      simp only [hg, and_self, if_true, hbl]
  cases h : nRead l with
  | none =>
    cases h2 : refRead l with
    | none => rfl
    | some p =>
      obtain ⟨r, n⟩ := p
      rw [(key r n).1 h2] at h
      cases h
  | some p =>
    obtain ⟨r, n⟩ := p
    exact (key r n).2 h
end Go.Proofs.Ytcfjooeagfollaa.Note
