/- diary.Open. -/
import Derived.Test.YtcfjooeagfollaaDiaF
namespace Go.Proofs.Ytcfjooeagfollaa.Dia
open Go.RowKit Go.Proofs.Ytcfjooeagfollaa.Mem Go.Proofs.Ytcfjooeagfollaa.Bytes Go.Proofs.Ytcfjooeagfollaa.Mains Go.Proofs.Ytcfjooeagfollaa.Reel Go.Proofs.Ytcfjooeagfollaa.Note
set_option linter.unusedSimpArgs false
set_option linter.unusedVariables false
set_option maxRecDepth 20000

theorem add_two (ad : Addr) (n j : Nat) : (ad.add n).add j = ad.add (n + j) := by
  unfold Addr.add
  split <;> split <;> simp_all <;> omega
/-- An element of a row is loaded. -/
theorem load_els {P : Program} {ops : Array Oper} {rest : List Oper} {o : Oper} {a : Act} {w0 w : World} {Q : Exit → Act → World → Prop} {α : Type} {enc : α → List Value} {sz : Nat} {ad : Addr} {l : List α} (hE : Els enc sz w0 (some ad) l) (hb : Below w0.heap.size w0 w) (i : Nat) (hi : i < l.length) (x : α) (hx : l[i] = x) (ty : TypeId) {d : TypeDesc} (hu : P.underlying ty = some d) (hd : d.isRow = true) (hs : (P.info? ty).map (·.size) = some (enc x).length)
    (hgd : o.guard = none) {y : Operand} (ho : o.op = .load ty y) (hy : a.eval y = .pointer (some (ad.add (i * sz))))
    (h : wpList P ops Q rest (a.put o.dst (.agg (enc x).toArray)) w) : wpList P ops Q (o :: rest) a w := by
  subst hx
  obtain ⟨ad', e, _, hc⟩ := hE i hi
  cases e
  have hl : (loadCells (ad.add (i * sz)) (enc l[i]).length).run P w = .ok (enc l[i]).toArray w :=
    run_loadCells_list (P := P) w _ _ (fun j v hv => by rw [add_two]; exact hc w hb j v hv)
  have hv : (loadVar ty (ad.add (i * sz))).run P w = .ok (.agg (enc l[i]).toArray) w := by
    cases hq : P.info? ty with
    | none => simp [hq] at hs
    | some i0 =>
      have hs' : i0.size = (enc l[i]).length := by simpa [hq] using hs
      have hagg : (isAgg ty).run P w = .ok true w := by
        unfold isAgg
        rw [Sem.run_bind, run_underlying hu w]
        cases d <;> simp_all
      simp [loadVar, Sem.run_bind, hagg, sizeOf, typeInfo, hq, hs', hl]
  refine wpList_plain hgd fun _ hK => ?_
  unfold Oper.wp execOp
  simp only [ho, hy, Instr.loadAt, Instr.sureAddr, Sem.run_bind, Sem.run_pure, Result.andThen_ok, hv]
  exact hK _ _ h
/-- A part of a row is loaded, in whatever world. -/
theorem exec_mid {P : Program} {o : Oper} {a : Act} {w : World} {b : Nat} {e : TypeId} (pre cs post : List Value) (hr : Row w b e (pre ++ (cs ++ post))) (ty : TypeId) {d : TypeDesc} (hu : P.underlying ty = some d) (hd : d.isRow = true) (hs : (P.info? ty).map (·.size) = some cs.length) (n : Nat) (hn : n = pre.length)
    {y : Operand} (ho : o.op = .load ty y) (hy : a.eval y = .pointer (some ⟨b, n, none⟩)) : (execOp a.eval o).run P w = .ok (.value (.agg cs.toArray)) w := by
  subst hn
  have hl : (loadCells ⟨b, pre.length, none⟩ cs.length).run P w = .ok cs.toArray w :=
    run_loadCells_list (P := P) w _ _ (fun j v hv => by
      have ha : (⟨b, pre.length, none⟩ : Addr).add j = ⟨b, pre.length + j, none⟩ := by unfold Addr.add; split <;> simp_all
      rw [ha]
      refine hr.cell ?_
      obtain ⟨hj, _⟩ := List.getElem?_eq_some_iff.1 hv
      rw [List.getElem?_append_right (by omega), Nat.add_sub_cancel_left, List.getElem?_append_left hj]
      exact hv)
  have hv : (loadVar ty ⟨b, pre.length, none⟩).run P w = .ok (.agg cs.toArray) w := by
    cases hq : P.info? ty with
    | none => simp [hq] at hs
    | some i0 =>
      have hs' : i0.size = cs.length := by simpa [hq] using hs
      have hagg : (isAgg ty).run P w = .ok true w := by
        unfold isAgg
        rw [Sem.run_bind, run_underlying hu w]
        cases d <;> simp_all
      simp [loadVar, Sem.run_bind, hagg, sizeOf, typeInfo, hq, hs', hl]
  unfold execOp
  simp only [ho, hy, Instr.loadAt, Instr.sureAddr, Sem.run_bind, Sem.run_pure, Result.andThen_ok, hv]
/-- The record at a stamp. -/
def gOf (l : List (Int × Rec)) (k : Int) : Option Rec := ((l.reverse).find? (fun p => p.1 == k)).map Prod.snd
theorem gOf_snoc (l : List (Int × Rec)) (t : Int) (q : Rec) (k : Int) : gOf (l ++ [(t, q)]) k = if k = t then some q else gOf l k := by
  unfold gOf
  rw [List.reverse_append]
  simp only [List.reverse_cons, List.reverse_nil, List.nil_append, List.singleton_append, List.find?_cons]
  by_cases h : k = t
  · subst h; simp
  · have : (t == k) = false := by simpa using fun e => h e.symm
    simp [this, h]
def lastOf (l : List (Int × Rec)) : Int := (l.getLast?.map Prod.fst).getD 0
theorem lastOf_snoc (l : List (Int × Rec)) (t : Int) (q : Rec) : lastOf (l ++ [(t, q)]) = t := by simp [lastOf]
/-- A map that is being filled. -/
theorem Held.step {S : Nat → Prop} {w w' : World} {f : Int → Option Value} {g : Int → Option Rec} (h : Held w S f g) {C : Nat → Prop} (hc : Chg C w w') (hs : ∀ k, k < w.heap.size → C k → S k) {k : Int} {x : Sr} (h1 : x.Has w') (h2 : x.Caps) (h3 : x.Off S) (h4 : x.r.small) :
    Held w' S (fun j => if j = k then some (.agg x.recCells.toArray) else f j) (fun j => if j = k then some x.r else g j) := by
  have hh := h.chg hc hs
  intro j
  by_cases e : j = k
  · simp only [e, if_true]
    exact ⟨x, rfl, rfl, h1, h2, h3, h4⟩
  · simp only [e, if_false]
    exact hh j
def OpenPost (w : World) (d : Option Nat) (B b : Nat) (m : M) (r : R) (rs : List Rec) (e : Ending) (w' : World) : Prop :=
  ∃ (ls : List Sr) (a : Option Addr) (cap L mb n : Nat) (d' : Option Nat), e = .returned (.tuple #[.pointer (some ⟨L, 0, none⟩), .slice a ls.length cap, .int .i64 0]) ∧ Els Sr.cells 12 w' a ls ∧ (∀ x ∈ ls, x.Has w' ∧ x.Caps) ∧ ls.map (fun x => (x.t, x.r)) = stamped 0 rs ∧
    Dia w' d' B b L mb m r n (gOf (stamped 0 rs)) (lastOf (stamped 0 rs)) 0 ∧ Chg (Reel.Own (Tight d w) B b) w w' ∧ w.heap.size ≤ L ∧ w.heap.size ≤ mb ∧ n = ls.length ∧ ∀ k, d' = some k → d = some k ∨ w.heap.size ≤ k
theorem good_small {q : Rec} (h : q.good = true) : q.small := by
  have h2 := good_size h
  unfold Rec.size at h2
  rw [if_pos h] at h2
  refine ⟨?_, ?_, ?_, ?_, ?_⟩ <;> omega
theorem stamped_good {n : Nat} : ∀ {l : List UInt8} (x : Rec), x ∈ (scanL n l).1 → x.good = true := by
  induction n with
  | zero => intro l x hx; simp [scanL] at hx
  | succ n ih =>
    intro l x hx
    unfold scanL at hx
    cases h : nRead l with
    | none => rw [h] at hx; simp at hx
    | some p =>
      obtain ⟨q, k⟩ := p
      rw [h] at hx
      simp only [List.mem_cons] at hx
      rcases hx with rfl | hx
      · exact (nRead_len h).1
      · exact ih x hx
theorem stamped_mem : ∀ {l : List Rec} {k : Nat} {t : Int} {q : Rec}, (t, q) ∈ stamped k l → q ∈ l ∧ (k : Int) < t ∧ t ≤ ((k + (l.flatMap Rec.bytes).length : Nat) : Int) + 1
  | [], _, _, _, h => by simp [stamped] at h
  | r :: l, k, t, q, h => by
    simp only [stamped, List.mem_cons, Prod.mk.injEq] at h
    rw [List.flatMap_cons, List.length_append]
    rcases h with ⟨rfl, rfl⟩ | h
    · exact ⟨List.mem_cons_self, by omega, by omega⟩
    · obtain ⟨h1, h2, h3⟩ := stamped_mem h
      exact ⟨List.mem_cons_of_mem _ h1, by omega, by omega⟩
theorem stamped_len : ∀ (k : Nat) (l : List Rec), (stamped k l).length = l.length
  | _, [] => rfl
  | k, r :: l => by simp [stamped, stamped_len]
theorem flat8 {l : List Rec} (h : ∀ x ∈ l, x.good = true) : 8 * l.length ≤ (l.flatMap Rec.bytes).length := by
  induction l with
  | nil => simp
  | cons r l ih =>
    have hb := bytes_length r
    have := ih (fun x hx => h x (List.mem_cons_of_mem _ hx))
    rw [List.flatMap_cons, List.length_append, List.length_cons]
    omega
theorem scanL_bytes : ∀ (n : Nat) (l : List UInt8), l = (scanL n l).1.flatMap Rec.bytes ++ (scanL n l).2
  | 0, l => rfl
  | n + 1, l => by
    unfold scanL
    cases h : nRead l with
    | none => rfl
    | some p =>
      obtain ⟨q, k⟩ := p
      obtain ⟨_, _, _, _, e⟩ := nRead_len h
      simp only [List.flatMap_cons, List.append_assoc]
      rw [← scanL_bytes n (l.drop k)]
      exact e
theorem last_bd {rs : List Rec} (h : (rs.flatMap Rec.bytes).length ≤ 100000) : -9223372036854775808 ≤ lastOf (stamped 0 rs) ∧ lastOf (stamped 0 rs) ≤ 9223372036854775807 := by
  unfold lastOf
  cases hl : (stamped 0 rs).getLast? with
  | none => simp
  | some p =>
    obtain ⟨t, q⟩ := p
    obtain ⟨_, h2, h3⟩ := stamped_mem (List.mem_of_getLast? hl)
    simp only [Option.map_some, Option.getD_some]
    omega
theorem sr_one (x : Sr) : ∀ u ∈ x.cells, u.oneCell' = true := by simp [Sr.cells, Sr.recCells, Rec.cells, Value.oneCell']
set_option maxHeartbeats 4000000 in
theorem open_calls (w : World) (d : Option Nat) (B b : Nat) (m : M) (r : R) (hR : Reel.Is w (Tight d w) B b r) (hM : Row w B 147 m.cells) (hon : m.on = true) (hfu : m.fuse = -1) (hd : ∀ k, d = some k → k < w.heap.size) (hl : r.data.length ≤ 100000) :
    Calls Try.prog 28 #[.pointer (some ⟨b, 0, none⟩)] w fun e w' => OpenPost w d B b m (if (scanL r.data.length r.data).2 = [] then r else r.cut (r.data.length - (scanL r.data.length r.data).2.length)) (scanL r.data.length r.data).1 e w' := by
  have RC := Lib.hid (read_calls _ _ _ _ _ _ hR hM)
  have hrs : readS m r = bs r.data := by unfold readS; rw [hon]; rfl
  have hre : readE m = 0 := by unfold readE; rw [hon]; rfl
  rw [hrs, hre] at RC
  have hus : m.errUse = 0 ∧ m.used = m := by
    obtain ⟨on, fu, bo⟩ := m
    simp only at hon hfu
    subst hon hfu
    exact ⟨by simp [M.errUse], by simp [M.used]⟩
  have SC := Lib.hid (fun wx => scan_calls (bs r.data) wx (by rw [bs_size]; exact hl))
  have hz : (bs r.data).size = r.data.length := bs_size _
  have hdd : (bs r.data).data.toList = r.data := rfl
  rw [hz, hdd] at SC
  have hgood := fun x hx => @stamped_good r.data.length r.data x hx
  have hby := scanL_bytes r.data.length r.data
  obtain ⟨A, hA⟩ : ∃ A, scanL r.data.length r.data = A := ⟨_, rfl⟩
  rw [hA] at SC hgood hby ⊢
  obtain ⟨rs, rest⟩ := A
  simp only at hgood ⊢
  obtain ⟨rX, hrX⟩ : ∃ rX, (if rest = [] then r else r.cut (r.data.length - rest.length)) = rX := ⟨_, rfl⟩
  rw [hrX]
  have HRX := Lib.hid hrX
  clear hrX
  simp only at hby
  have hbz := congrArg List.length hby
  rw [List.length_append] at hbz
  have BZ := Lib.hid (show (rs.flatMap Rec.bytes).length ≤ 100000 from by omega)
  clear hby hbz
  have GD := Lib.hid hgood
  have RR := Lib.hid hR
  have MM := Lib.hid hM
  have US := Lib.hid hus
  have HD := Lib.hid hd
  clear hA hgood hR hM hus hrs hre hdd hd
  have mk := @run_makeMap Try.prog
  go_enter Try.func28, Try.ntmps28
  go_wp2_with fail
  refine RC.out.mono ?_
  rintro e w1 ⟨rfl, rfl⟩
  go_wp2_with fail
  refine (SC.out _).mono ?_
  rintro e w2 ⟨⟨ls, la, lcap, rfl, hE, hV, hst, hn, hEb, hVb⟩, k2⟩
  have E2 := Lib.hid hE
  have V2 := Lib.hid hV
  have ST := Lib.hid hst
  have R2 := Lib.hid (is_below RR.out MM.out.lt k2)
  have M2 := Lib.hid (MM.out.below k2 MM.out.lt)
  have C2 := Lib.hid (Chg.of_below (S := Reel.Own (Tight d w1) B b) k2)
  have K2 := Lib.hid k2
  simp only at hn
  clear hE hV hst k2 RC SC
  have hb1 := MM.out.lt
  by_cases hz0 : rest.length = 0
  · have d1 : decide ((r.data.length : Int) - (rest.length : Int) < (r.data.length : Int)) = false := by simp; omega
    have hnil : rest = [] := List.eq_nil_of_length_eq_zero hz0
    have hrx := HRX.out
    rw [if_pos hnil] at hrx
    have RX := R2
    have PX := M2
    have CX := C2
    have EX := E2
    have VX := V2
    have DX := Lib.hid (fun k (e : d = some k) => Nat.lt_of_lt_of_le (HD.out k e) K2.out.size)
    clear hnil R2 M2 C2 E2 V2 K2 HD hEb hVb US
    rename World => w3
    obtain ⟨dX, hdX⟩ : ∃ dX, d = dX := ⟨_, rfl⟩
    have TX := Lib.hid (fun k (e : dX = some k) => (show d = some k ∨ w1.heap.size ≤ k from .inl (hdX.trans e)))
    rw [hdX, hrx] at RX
    rw [hdX] at DX
    clear hdX hrx
    go_wp2_with fail
    clear d1
    as_aux_lemma =>
      have hI0 := (IMap.made Try.prog 3 w3).alloc (.cells #[.pointer (some ⟨b, 0, none⟩), .map (some w3.heap.size), .int .i64 0, .int .i64 0] 158)
      have hL0 : Row ((w3.alloc (.map #[] 0)).alloc (.cells #[.pointer (some ⟨b, 0, none⟩), .map (some w3.heap.size), .int .i64 0, .int .i64 0] 158)) (w3.heap.size + 1) 158 (lcells b w3.heap.size 0 0) := new_at (by simp)
      have hB0 := ((Below.refl w3.heap.size w3).alloc (Nat.le_refl _) (.map #[] 0)).alloc (by simp) (.cells #[.pointer (some ⟨b, 0, none⟩), .map (some w3.heap.size), .int .i64 0, .int .i64 0] 158)
      have hbl : b < w3.heap.size := by
        rcases Nat.lt_or_ge b w3.heap.size with h | h
        · exact h
        · exact absurd (.inr h) RX.out.2.2.1
      have hBl := PX.out.lt
      go_loopw [42] (fun i wr => ∃ j : Nat, j ≤ ls.length ∧ i = .int .i64 (j : Int) ∧ (∃ f, IMap Try.prog 3 wr w3.heap.size j f ∧ Held wr (Own dX B b (w3.heap.size + 1) w3.heap.size) f (gOf ((ls.take j).map (fun x => (x.t, x.r))))) ∧ Row wr (w3.heap.size + 1) 158 (lcells b w3.heap.size (lastOf ((ls.take j).map (fun x => (x.t, x.r)))) 0) ∧ Below w3.heap.size w3 wr) (fun i _ => ls.length - (intOf i).toNat)
      case atStart => exact ⟨0, by omega, rfl, ⟨_, hI0, fun k => rfl⟩, hL0, hB0⟩
      case round =>
        clear hI0 hL0 hB0
        obtain ⟨j, hj, rfl, ⟨f, hI, hH⟩, hL, hB⟩ := hrel
        have MI := Lib.hid hI
        have MH := Lib.hid hH
        have ML := Lib.hid hL
        have MB := Lib.hid hB
        have hLl := hL.lt
        clear hI hH hL hB
        by_cases hlt : j < ls.length
        · have hlt' : (j : Int) < (ls.length : Int) := by omega
          obtain ⟨ad, rfl, _, _⟩ := EX.out j hlt
          obtain ⟨x, hxx⟩ : ∃ x, ls[j] = x := ⟨_, rfl⟩
          have hmem : x ∈ ls := by rw [← hxx]; exact List.getElem_mem hlt
          have htk := List.take_succ_eq_append_getElem hlt
          rw [hxx] at htk
          obtain ⟨hxH, hxC⟩ := VX.out x hmem
          have hxm : (x.t, x.r) ∈ stamped 0 rs := by rw [← ST.out]; exact List.mem_map_of_mem (f := fun x : Sr => (x.t, x.r)) hmem
          obtain ⟨hq1, hq2, hq3⟩ := stamped_mem hxm
          have hwf : (Lit.int .i64 x.t).wf = true := wf_i64 (by have := BZ.out; omega) (by have := BZ.out; omega)
          have SM := Lib.hid (good_small (GD.out _ hq1))
          have HX := Lib.hid hxx
          have TK := Lib.hid htk
          have XH := Lib.hid hxH
          have XC := Lib.hid hxC
          have ONE := Lib.hid (sr_one x)
          have LS := Lib.hid (show ls.length ≤ 100000 from by have h1 := congrArg List.length ST.out; rw [List.length_map, stamped_len] at h1; have h2 := BZ.out; have h3 := flat8 GD.out; omega)
          clear hxx htk hmem hxH hxC hxm hq1 hq2 hq3
          have ZB := Lib.hid (Row.new wr 60 [.int .i64 0, .int .i64 0, .int .i64 0, .int .i64 0, .int .i64 0, .slice none 0 0, .int .i64 0, .int .i64 0, .string ⟨#[]⟩, .string ⟨#[]⟩, .slice none 0 0, .slice none 0 0])
          have B0 := Lib.hid ((Below.refl wr.heap.size wr).alloc (Nat.le_refl _) (.cells #[.int .i64 0, .int .i64 0, .int .i64 0, .int .i64 0, .int .i64 0, .slice none 0 0, .int .i64 0, .int .i64 0, .string ⟨#[]⟩, .string ⟨#[]⟩, .slice none 0 0, .slice none 0 0] 60))
          go_wp2_with (first | (refine load_els EX.out MB.out j hlt x HX.out 60 Try.underlying60 rfl (by kernel_rfl) rfl rfl rfl ?_) | (refine store_row ZB.out x.cells 60 (by kernel_rfl) rfl ONE.out rfl rfl rfl rfl ?_; intro w4 h4 k4 z4; have X4 := Lib.hid h4; have B4 := Lib.hid (B0.out.trans (k4.below (B := wr.heap.size) B0.out.size (fun i e => by have e : i = wr.heap.size := e; omega))); clear h4 k4 z4))
          have L4 := Lib.hid (ML.out.below B4.out ML.out.lt)
          have I4 := Lib.hid (MI.out.below B4.out MI.out.lt)
          have y1 := L4.out.cell (i := 1) rfl
          have y0 := X4.out.cell (i := 0) (v := .int .i64 x.t) rfl
          have SZ4 := Lib.hid (show w3.heap.size + 2 ≤ w4.heap.size from by have := B4.out.size; omega)
          have XG := Lib.hid X4.out.lt
          have KB := Lib.hid (show Below w4.heap.size w4 w4.drew ∧ w4.drew.cell? ⟨w3.heap.size + 1, 1, none⟩ = some (.map (some w3.heap.size)) ∧ w4.drew.cell? ⟨wr.heap.size, 0, none⟩ = some (.int .i64 x.t) from ⟨(Below.refl w4.heap.size w4).drew, y1, y0⟩)
          have KX := Lib.hid (fun (wx : World) (hb : Below w4.heap.size w4 wx) => (show wx.cell? ⟨w3.heap.size + 1, 1, none⟩ = some (.map (some w3.heap.size)) ∧ wx.cell? ⟨wr.heap.size, 0, none⟩ = some (.int .i64 x.t) from ⟨(L4.out.below hb L4.out.lt).cell rfl, (X4.out.below hb X4.out.lt).cell rfl⟩))
          clear y0 y1 ZB B0
          refine Reg.start (fun w' => Below w4.heap.size w4 w' ∧ w'.cell? ⟨w3.heap.size + 1, 1, none⟩ = some (.map (some w3.heap.size)) ∧ w'.cell? ⟨wr.heap.size, 0, none⟩ = some (.int .i64 x.t)) (fun i => i == 9) (by kernel_rfl) KB.out (fun hHeld => ?_)
          generalize w4.drew = wd at *
          refine Reg.takeI 0 (v := ?_) rfl (by kernel_rfl) (by kernel_rfl) (by kernel_rfl) (by kernel_rfl) (fun _ _ _ h => h) (by rfl) ?_ hHeld ?_
          rotate_left 1
          · (intro w hSw; (try dsimp only at hSw); go_simp; try with_reducible rfl)
          try simp only [Act.put, List.setIfInBounds_toArray, List.set_cons_zero, List.set_cons_succ]
          refine Reg.takeI 1 (v := ?_) rfl (by kernel_rfl) (by kernel_rfl) (by kernel_rfl) (by kernel_rfl) (fun _ _ _ h => h) (by rfl) ?_ hHeld ?_
          rotate_left 1
          · (intro w hSw; (try dsimp only at hSw); go_simp; try with_reducible rfl)
          try simp only [Act.put, List.setIfInBounds_toArray, List.set_cons_zero, List.set_cons_succ]
          refine Reg.takeI 2 (v := ?_) rfl (by kernel_rfl) (by kernel_rfl) (by kernel_rfl) (by kernel_rfl) (fun _ _ _ h => h) (by rfl) ?_ hHeld ?_
          rotate_left 1
          · (intro w hSw; (try dsimp only at hSw); go_simp; try with_reducible rfl)
          try simp only [Act.put, List.setIfInBounds_toArray, List.set_cons_zero, List.set_cons_succ]
          refine Reg.takeI 3 (v := ?_) rfl (by kernel_rfl) (by kernel_rfl) (by kernel_rfl) (by kernel_rfl) (fun _ _ _ h => h) (by rfl) ?_ hHeld ?_
          rotate_left 1
          · (intro w hSw; (try dsimp only at hSw); go_simp; try with_reducible rfl)
          try simp only [Act.put, List.setIfInBounds_toArray, List.set_cons_zero, List.set_cons_succ]
          refine Reg.takeI 4 (v := ?_) rfl (by kernel_rfl) (by kernel_rfl) (by kernel_rfl) (by kernel_rfl) (fun _ _ _ h => h) (by rfl) ?_ hHeld ?_
          rotate_left 1
          · (intro w hSw; (try dsimp only at hSw); go_simp; try with_reducible rfl)
          try simp only [Act.put, List.setIfInBounds_toArray, List.set_cons_zero, List.set_cons_succ]
          refine Reg.takeI 5 (v := ?_) rfl (by kernel_rfl) (by kernel_rfl) (by kernel_rfl) (by kernel_rfl) (fun _ _ _ h => h) (by rfl) ?_ hHeld ?_
          rotate_left 1
          · (intro w hSw; (try dsimp only at hSw); go_simp; try with_reducible rfl)
          try simp only [Act.put, List.setIfInBounds_toArray, List.set_cons_zero, List.set_cons_succ]
          refine Reg.takeI 6 (v := ?_) rfl (by kernel_rfl) (by kernel_rfl) (by kernel_rfl) (by kernel_rfl) (fun _ _ _ h => h) (by rfl) ?_ hHeld ?_
          rotate_left 1
          · (intro w hSw; (try dsimp only at hSw); go_simp; try with_reducible rfl)
          try simp only [Act.put, List.setIfInBounds_toArray, List.set_cons_zero, List.set_cons_succ]
          refine Reg.takeI 7 (v := .agg x.recCells.toArray) rfl (by kernel_rfl) (by kernel_rfl) (by kernel_rfl) (by kernel_rfl) (fun _ _ _ h => h) (by rfl) ?_ hHeld ?_
          · intro w hSw
            exact exec_mid [.int .i64 x.t] x.recCells [] (by rw [List.append_nil]; exact (X4.out.below hSw.1 X4.out.lt)) 58 Try.underlying58 rfl (by kernel_rfl) 1 rfl (by rfl) (by rfl)
          try simp only [Act.put, List.setIfInBounds_toArray, List.set_cons_zero, List.set_cons_succ]
          refine Reg.oneI 8 rfl (by kernel_rfl) (by rfl) (fun K hK => ?_)
          go_simp
          go_at_call 86
          refine (copied_calls _ _ _ (((XH.out.keep MB.out).keep B4.out).keep KB.out.1 |>.rec XC.out) SM.out).mono ?_
          rintro e w8 ⟨⟨v, rfl, hN⟩, k8⟩
          have SZ8 := Lib.hid KB.out.1.size
          replace KB := Lib.hid (show Below w4.heap.size w4 w8 ∧ _ from ⟨KB.out.1.trans (k8.mono KB.out.1.size), KX.out _ (KB.out.1.trans (k8.mono KB.out.1.size))⟩)
          obtain ⟨z, _, hzr, hzv, hzH, hzC, hzO⟩ := sr_of_new hN 0
          subst hzv
          have ZR := Lib.hid hzr
          have ZH := Lib.hid hzH
          have ZC := Lib.hid hzC
          have ZO := Lib.hid (hzO.mono (S2 := fun k => k < w4.heap.size) (fun k hk => Nat.lt_of_lt_of_le hk SZ8.out))
          clear k8 hN hzr hzH hzC hzO SZ8
          go_wp2_with fail
          refine hK.out _ _ (fun _ => KB.out) (fun hHeld => ?_)
          replace hHeld := hHeld (by first | rfl | trivial)
          clear hK K
          try simp only [Act.put, List.setIfInBounds_toArray, List.set_cons_zero, List.set_cons_succ]
          refine Reg.oneI 9 rfl (by kernel_rfl) (by rfl) (fun K hK => ?_)
          obtain ⟨w9, hrun, hI9, hC9, hz9⟩ := (I4.out.below KB.out.1 I4.out.lt).put (t := 156) (e := 58) Try.underlying3 Try.underlying156 (by have := LS.out; unfold maxLen; omega) hwf (.agg z.recCells.toArray)
          go_simp
          refine hK.out _ _ (fun h => by cases h) (fun _ => ?_)
          clear hK K
          try simp only [Act.put, List.setIfInBounds_toArray, List.set_cons_zero, List.set_cons_succ]
          refine Reg.doneI (by kernel_rfl) ?_
          as_aux_lemma =>
            have hX9 := (X4.out.below KB.out.1 X4.out.lt).chg hC9 (fun e => by have e : wr.heap.size = w3.heap.size := e; have := MB.out.size; have := MI.out.lt; omega)
            have hL9 := (L4.out.below KB.out.1 L4.out.lt).chg hC9 (fun e => by have e : w3.heap.size + 1 = w3.heap.size := e; omega)
            have y0 := hX9.cell (i := 0) (v := .int .i64 x.t) rfl
            have y2 := hL9.cell (i := 2) rfl
            have f2 := hL9.frozen 2 (by simp [lcells])
            have c1 : Chg (fun k => k = w3.heap.size ∨ k = w3.heap.size + 1) wr w8 := Chg.of_below (B4.out.trans (KB.out.1.mono B4.out.size))
            have c2 := c1.next hC9 (fun k hk e => .inl e)
            have hput : Chg (One (w3.heap.size + 1)) w9 (w9.setCell ⟨w3.heap.size + 1, 2, none⟩ (.int .i64 x.t)) := (Chg.refl _ _).put 2 _
            have c3 := c2.next hput (fun k hk e => .inr e)
            have hzz := (ZH.out.chg hC9 (ZO.out.mono (fun k e => by have e : k = w3.heap.size := e; have := SZ4.out; show k < w4.heap.size; omega))).chg hput (ZO.out.mono (fun k e => by have e : k = w3.heap.size + 1 := e; have := SZ4.out; show k < w4.heap.size; omega))
            have hstep := Held.step MH.out c3 (fun k hk e => by
              rcases e with e | e
              · exact .inr (.inr (.inr (.inr e)))
              · exact .inr (.inr (.inr (.inl e)))) (k := x.t) hzz ZC.out (ZO.out.mono (fun k e => by
              have h4 := SZ4.out
              show k < w4.heap.size
              rcases e with e | e | e | e | e
              · have := DX.out k e; omega
              · omega
              · omega
              · omega
              · omega)) (by rw [ZR.out]; exact SM.out)
            have hg : (fun i => if i = x.t then some z.r else gOf ((ls.take j).map (fun x => (x.t, x.r))) i) = gOf ((ls.take (j + 1)).map (fun x => (x.t, x.r))) := by
              funext i
              rw [TK.out, List.map_append, ZR.out]
              exact (gOf_snoc _ _ _ _).symm
            rw [hg] at hstep
            have hlast : lastOf ((ls.take (j + 1)).map (fun x => (x.t, x.r))) = x.t := by
              rw [TK.out, List.map_append]
              exact lastOf_snoc _ _ _
            have FIN := Lib.hid (And.intro (⟨_, hI9.chg hput (fun e => by have e : w3.heap.size = w3.heap.size + 1 := e; omega), hstep⟩ : ∃ f, IMap Try.prog 3 _ w3.heap.size (j + 1) f ∧ Held _ _ f _) (And.intro (show Row _ _ _ (lcells b w3.heap.size (lastOf ((ls.take (j + 1)).map (fun x => (x.t, x.r)))) 0) from by rw [hlast]; exact (hL9.set 2 (.int .i64 x.t)).cast rfl) (MB.out.trans (c3.below (B := w3.heap.size) MB.out.size (fun k e => by rcases e with e | e <;> omega)))))
            clear hX9 hL9 c1 c2 c3 hput hzz hstep hg hlast hI9 hC9 hz9 hrun
            have hj1 : (j : Int) < 1000000 := by have := LS.out; omega
            go_wp2_with fail
            obtain ⟨g1, g2, g3⟩ := FIN.out
            exact ⟨⟨j + 1, by omega, by go_num, g1, g2, g3⟩, by simp [intOf]; omega⟩
        · as_aux_lemma =>
          obtain rfl : j = ls.length := by omega
          have hst := ST.out
          have hIx := MI.out
          have hHx := MH.out
          have hLx := ML.out
          rw [List.take_length, hst] at hHx hLx
          obtain ⟨hk1, hk2, hk3⟩ := RX.out.2.2.2.2.1
          have HDX := Lib.hid (show Dia wr dX B b (w3.heap.size + 1) w3.heap.size m rX ls.length (gOf (stamped 0 rs)) (lastOf (stamped 0 rs)) 0 from ⟨is_below RX.out PX.out.lt MB.out, PX.out.below MB.out PX.out.lt, hLx, ⟨f, hIx, hHx⟩, fun k e => ⟨Nat.lt_of_lt_of_le (DX.out k e) MB.out.size, by have := DX.out k e; omega, by have := DX.out k e; omega⟩, ⟨by omega, by omega, by omega, by omega, by omega⟩, ⟨by omega, by omega⟩, last_bd BZ.out, by
            have h1 := congrArg List.length ST.out
            rw [List.length_map, stamped_len] at h1
            have h2 := BZ.out
            have h3 := flat8 GD.out
            omega⟩)
          have FIN := Lib.hid (show OpenPost w1 d B b m rX rs (.returned (.tuple #[.pointer (some ⟨w3.heap.size + 1, 0, none⟩), .slice la ls.length lcap, .int .i64 0])) wr from ⟨ls, la, lcap, w3.heap.size + 1, w3.heap.size, ls.length, dX, rfl, EX.out.keep MB.out, fun x hx => ⟨(VX.out x hx).1.keep MB.out, (VX.out x hx).2⟩, hst, HDX.out, CX.out.next (Chg.of_below (S := fun _ => False) MB.out) (fun _ _ x => x.elim), by have := CX.out.size; omega, CX.out.size, rfl, TX.out⟩)
          clear hst hIx hHx hLx HDX hk1 hk2 hk3
          go_wp2_with fail
          exact bodyPost_ret (by simp [results, Try.results28, go_sem]) rfl FIN.out
  · have d1 : decide ((r.data.length : Int) - (rest.length : Int) < (r.data.length : Int)) = true := by simp; omega
    have hnn2 : ¬ rest = [] := fun e => hz0 (by rw [e]; rfl)
    have hrx := HRX.out
    rw [if_neg hnn2] at hrx
    obtain ⟨nn, hnn⟩ : ∃ nn : Nat, (r.data.length : Int) - (rest.length : Int) = (nn : Int) := ⟨r.data.length - rest.length, by omega⟩
    have hnn3 : r.data.length - rest.length = nn := by omega
    rw [hnn] at d1 ⊢
    have d2 : decide (nn < r.data.length) = true := by simp; omega
    rw [hnn3] at hrx
    have HRZ := Lib.hid hrx
    clear hrx
    have TE : trimErr m r (nn : Int) = 0 := by unfold trimErr R.has; rw [show (decide (0 ≤ (nn : Int)) && decide ((nn : Int) ≤ (r.data.length : Int))) = true by simp; omega]; exact US.out.1
    have TM : trimM m r (nn : Int) = m := by unfold trimM; split; exact US.out.2; rfl
    have TR : trimR m r (nn : Int) = r.cut nn := by unfold trimR R.has; rw [show (decide (0 ≤ (nn : Int)) && decide ((nn : Int) ≤ (r.data.length : Int))) = true by simp; omega, US.out.1]; simp
    have TC := trim_calls _ _ _ _ _ (nn : Int) _ R2.out M2.out (by omega)
    rw [TE, TM, TR] at TC
    have TCH := Lib.hid TC
    clear TE TM TR TC hnn hnn2 hnn3 d1
    go_wp2_with fail
    refine TCH.out.mono ?_
    rintro e w3 ⟨rfl, hR3, hM3, hC3⟩
    obtain ⟨dX, hdX, hT⟩ := is_tight hR3
    have RX := Lib.hid hT
    have PX := Lib.hid hM3
    have HB2 := Lib.hid (Nat.lt_of_lt_of_le hb1 K2.out.size)
    have CX := Lib.hid (C2.out.next hC3 (fun k hk e => by
      rcases e with e | e | e | e
      · exact .inl e
      · exact .inr (.inl e)
      · exact .inr (.inr (.inl e))
      · have := K2.out.size; omega))
    have hbb := RR.out.2.2.1
    have hblt : b < w1.heap.size := by
      rcases Nat.lt_or_ge b w1.heap.size with h | h
      · exact h
      · exact absurd (.inr h) hbb
    have hS : ∀ k, Reel.Own (Tight d w2) B b k → k < w1.heap.size ∨ w2.heap.size ≤ k := fun k e => by
      rcases e with e | e | e | e
      · left; omega
      · left; omega
      · exact .inl (HD.out k e)
      · exact .inr e
    have EX := Lib.hid (show Els Sr.cells 12 w3 la ls from by
      by_cases hls : ls = []
      · rw [hls]; exact Els.nil _ _ _ _
      · obtain ⟨ad, e0, hlt, _⟩ := E2.out 0 (List.length_pos_iff.2 hls)
        exact E2.out.chg hC3 (fun ad' e' hk => by
          rw [e0] at e'
          cases e'
          have := hEb ad e0
          rcases hS _ hk with h | h <;> omega))
    have VX := Lib.hid (fun x hx => ⟨(V2.out x hx).1.chg hC3 (((hVb x hx).both (V2.out x hx).1.off).mono hS), (V2.out x hx).2⟩ : ∀ x ∈ ls, x.Has w3 ∧ x.Caps)
    have DX := Lib.hid (fun k (e : dX = some k) => (hdX k e).2)
    have TX := Lib.hid (fun k (e : dX = some k) => (show d = some k ∨ w1.heap.size ≤ k from (hdX k e).1.imp id (fun h => Nat.le_trans K2.out.size h)))
    rw [HRZ.out] at RX
    clear hR3 hM3 hC3 hdX hT R2 M2 C2 E2 V2 K2 HD hEb hVb US TCH hbb hblt hS HB2
    go_wp2_with fail
    clear d2
    as_aux_lemma =>
      have hI0 := (IMap.made Try.prog 3 w3).alloc (.cells #[.pointer (some ⟨b, 0, none⟩), .map (some w3.heap.size), .int .i64 0, .int .i64 0] 158)
      have hL0 : Row ((w3.alloc (.map #[] 0)).alloc (.cells #[.pointer (some ⟨b, 0, none⟩), .map (some w3.heap.size), .int .i64 0, .int .i64 0] 158)) (w3.heap.size + 1) 158 (lcells b w3.heap.size 0 0) := new_at (by simp)
      have hB0 := ((Below.refl w3.heap.size w3).alloc (Nat.le_refl _) (.map #[] 0)).alloc (by simp) (.cells #[.pointer (some ⟨b, 0, none⟩), .map (some w3.heap.size), .int .i64 0, .int .i64 0] 158)
      have hbl : b < w3.heap.size := by
        rcases Nat.lt_or_ge b w3.heap.size with h | h
        · exact h
        · exact absurd (.inr h) RX.out.2.2.1
      have hBl := PX.out.lt
      go_loopw [42] (fun i wr => ∃ j : Nat, j ≤ ls.length ∧ i = .int .i64 (j : Int) ∧ (∃ f, IMap Try.prog 3 wr w3.heap.size j f ∧ Held wr (Own dX B b (w3.heap.size + 1) w3.heap.size) f (gOf ((ls.take j).map (fun x => (x.t, x.r))))) ∧ Row wr (w3.heap.size + 1) 158 (lcells b w3.heap.size (lastOf ((ls.take j).map (fun x => (x.t, x.r)))) 0) ∧ Below w3.heap.size w3 wr) (fun i _ => ls.length - (intOf i).toNat)
      case atStart => exact ⟨0, by omega, rfl, ⟨_, hI0, fun k => rfl⟩, hL0, hB0⟩
      case round =>
        clear hI0 hL0 hB0
        obtain ⟨j, hj, rfl, ⟨f, hI, hH⟩, hL, hB⟩ := hrel
        have MI := Lib.hid hI
        have MH := Lib.hid hH
        have ML := Lib.hid hL
        have MB := Lib.hid hB
        have hLl := hL.lt
        clear hI hH hL hB
        by_cases hlt : j < ls.length
        · have hlt' : (j : Int) < (ls.length : Int) := by omega
          obtain ⟨ad, rfl, _, _⟩ := EX.out j hlt
          obtain ⟨x, hxx⟩ : ∃ x, ls[j] = x := ⟨_, rfl⟩
          have hmem : x ∈ ls := by rw [← hxx]; exact List.getElem_mem hlt
          have htk := List.take_succ_eq_append_getElem hlt
          rw [hxx] at htk
          obtain ⟨hxH, hxC⟩ := VX.out x hmem
          have hxm : (x.t, x.r) ∈ stamped 0 rs := by rw [← ST.out]; exact List.mem_map_of_mem (f := fun x : Sr => (x.t, x.r)) hmem
          obtain ⟨hq1, hq2, hq3⟩ := stamped_mem hxm
          have hwf : (Lit.int .i64 x.t).wf = true := wf_i64 (by have := BZ.out; omega) (by have := BZ.out; omega)
          have SM := Lib.hid (good_small (GD.out _ hq1))
          have HX := Lib.hid hxx
          have TK := Lib.hid htk
          have XH := Lib.hid hxH
          have XC := Lib.hid hxC
          have ONE := Lib.hid (sr_one x)
          have LS := Lib.hid (show ls.length ≤ 100000 from by have h1 := congrArg List.length ST.out; rw [List.length_map, stamped_len] at h1; have h2 := BZ.out; have h3 := flat8 GD.out; omega)
          clear hxx htk hmem hxH hxC hxm hq1 hq2 hq3
          have ZB := Lib.hid (Row.new wr 60 [.int .i64 0, .int .i64 0, .int .i64 0, .int .i64 0, .int .i64 0, .slice none 0 0, .int .i64 0, .int .i64 0, .string ⟨#[]⟩, .string ⟨#[]⟩, .slice none 0 0, .slice none 0 0])
          have B0 := Lib.hid ((Below.refl wr.heap.size wr).alloc (Nat.le_refl _) (.cells #[.int .i64 0, .int .i64 0, .int .i64 0, .int .i64 0, .int .i64 0, .slice none 0 0, .int .i64 0, .int .i64 0, .string ⟨#[]⟩, .string ⟨#[]⟩, .slice none 0 0, .slice none 0 0] 60))
          go_wp2_with (first | (refine load_els EX.out MB.out j hlt x HX.out 60 Try.underlying60 rfl (by kernel_rfl) rfl rfl rfl ?_) | (refine store_row ZB.out x.cells 60 (by kernel_rfl) rfl ONE.out rfl rfl rfl rfl ?_; intro w4 h4 k4 z4; have X4 := Lib.hid h4; have B4 := Lib.hid (B0.out.trans (k4.below (B := wr.heap.size) B0.out.size (fun i e => by have e : i = wr.heap.size := e; omega))); clear h4 k4 z4))
          have L4 := Lib.hid (ML.out.below B4.out ML.out.lt)
          have I4 := Lib.hid (MI.out.below B4.out MI.out.lt)
          have y1 := L4.out.cell (i := 1) rfl
          have y0 := X4.out.cell (i := 0) (v := .int .i64 x.t) rfl
          have SZ4 := Lib.hid (show w3.heap.size + 2 ≤ w4.heap.size from by have := B4.out.size; omega)
          have XG := Lib.hid X4.out.lt
          have KB := Lib.hid (show Below w4.heap.size w4 w4.drew ∧ w4.drew.cell? ⟨w3.heap.size + 1, 1, none⟩ = some (.map (some w3.heap.size)) ∧ w4.drew.cell? ⟨wr.heap.size, 0, none⟩ = some (.int .i64 x.t) from ⟨(Below.refl w4.heap.size w4).drew, y1, y0⟩)
          have KX := Lib.hid (fun (wx : World) (hb : Below w4.heap.size w4 wx) => (show wx.cell? ⟨w3.heap.size + 1, 1, none⟩ = some (.map (some w3.heap.size)) ∧ wx.cell? ⟨wr.heap.size, 0, none⟩ = some (.int .i64 x.t) from ⟨(L4.out.below hb L4.out.lt).cell rfl, (X4.out.below hb X4.out.lt).cell rfl⟩))
          clear y0 y1 ZB B0
          refine Reg.start (fun w' => Below w4.heap.size w4 w' ∧ w'.cell? ⟨w3.heap.size + 1, 1, none⟩ = some (.map (some w3.heap.size)) ∧ w'.cell? ⟨wr.heap.size, 0, none⟩ = some (.int .i64 x.t)) (fun i => i == 9) (by kernel_rfl) KB.out (fun hHeld => ?_)
          generalize w4.drew = wd at *
          refine Reg.takeI 0 (v := ?_) rfl (by kernel_rfl) (by kernel_rfl) (by kernel_rfl) (by kernel_rfl) (fun _ _ _ h => h) (by rfl) ?_ hHeld ?_
          rotate_left 1
          · (intro w hSw; (try dsimp only at hSw); go_simp; try with_reducible rfl)
          try simp only [Act.put, List.setIfInBounds_toArray, List.set_cons_zero, List.set_cons_succ]
          refine Reg.takeI 1 (v := ?_) rfl (by kernel_rfl) (by kernel_rfl) (by kernel_rfl) (by kernel_rfl) (fun _ _ _ h => h) (by rfl) ?_ hHeld ?_
          rotate_left 1
          · (intro w hSw; (try dsimp only at hSw); go_simp; try with_reducible rfl)
          try simp only [Act.put, List.setIfInBounds_toArray, List.set_cons_zero, List.set_cons_succ]
          refine Reg.takeI 2 (v := ?_) rfl (by kernel_rfl) (by kernel_rfl) (by kernel_rfl) (by kernel_rfl) (fun _ _ _ h => h) (by rfl) ?_ hHeld ?_
          rotate_left 1
          · (intro w hSw; (try dsimp only at hSw); go_simp; try with_reducible rfl)
          try simp only [Act.put, List.setIfInBounds_toArray, List.set_cons_zero, List.set_cons_succ]
          refine Reg.takeI 3 (v := ?_) rfl (by kernel_rfl) (by kernel_rfl) (by kernel_rfl) (by kernel_rfl) (fun _ _ _ h => h) (by rfl) ?_ hHeld ?_
          rotate_left 1
          · (intro w hSw; (try dsimp only at hSw); go_simp; try with_reducible rfl)
          try simp only [Act.put, List.setIfInBounds_toArray, List.set_cons_zero, List.set_cons_succ]
          refine Reg.takeI 4 (v := ?_) rfl (by kernel_rfl) (by kernel_rfl) (by kernel_rfl) (by kernel_rfl) (fun _ _ _ h => h) (by rfl) ?_ hHeld ?_
          rotate_left 1
          · (intro w hSw; (try dsimp only at hSw); go_simp; try with_reducible rfl)
          try simp only [Act.put, List.setIfInBounds_toArray, List.set_cons_zero, List.set_cons_succ]
          refine Reg.takeI 5 (v := ?_) rfl (by kernel_rfl) (by kernel_rfl) (by kernel_rfl) (by kernel_rfl) (fun _ _ _ h => h) (by rfl) ?_ hHeld ?_
          rotate_left 1
          · (intro w hSw; (try dsimp only at hSw); go_simp; try with_reducible rfl)
          try simp only [Act.put, List.setIfInBounds_toArray, List.set_cons_zero, List.set_cons_succ]
          refine Reg.takeI 6 (v := ?_) rfl (by kernel_rfl) (by kernel_rfl) (by kernel_rfl) (by kernel_rfl) (fun _ _ _ h => h) (by rfl) ?_ hHeld ?_
          rotate_left 1
          · (intro w hSw; (try dsimp only at hSw); go_simp; try with_reducible rfl)
          try simp only [Act.put, List.setIfInBounds_toArray, List.set_cons_zero, List.set_cons_succ]
          refine Reg.takeI 7 (v := .agg x.recCells.toArray) rfl (by kernel_rfl) (by kernel_rfl) (by kernel_rfl) (by kernel_rfl) (fun _ _ _ h => h) (by rfl) ?_ hHeld ?_
          · intro w hSw
            exact exec_mid [.int .i64 x.t] x.recCells [] (by rw [List.append_nil]; exact (X4.out.below hSw.1 X4.out.lt)) 58 Try.underlying58 rfl (by kernel_rfl) 1 rfl (by rfl) (by rfl)
          try simp only [Act.put, List.setIfInBounds_toArray, List.set_cons_zero, List.set_cons_succ]
          refine Reg.oneI 8 rfl (by kernel_rfl) (by rfl) (fun K hK => ?_)
          go_simp
          go_at_call 86
          refine (copied_calls _ _ _ (((XH.out.keep MB.out).keep B4.out).keep KB.out.1 |>.rec XC.out) SM.out).mono ?_
          rintro e w8 ⟨⟨v, rfl, hN⟩, k8⟩
          have SZ8 := Lib.hid KB.out.1.size
          replace KB := Lib.hid (show Below w4.heap.size w4 w8 ∧ _ from ⟨KB.out.1.trans (k8.mono KB.out.1.size), KX.out _ (KB.out.1.trans (k8.mono KB.out.1.size))⟩)
          obtain ⟨z, _, hzr, hzv, hzH, hzC, hzO⟩ := sr_of_new hN 0
          subst hzv
          have ZR := Lib.hid hzr
          have ZH := Lib.hid hzH
          have ZC := Lib.hid hzC
          have ZO := Lib.hid (hzO.mono (S2 := fun k => k < w4.heap.size) (fun k hk => Nat.lt_of_lt_of_le hk SZ8.out))
          clear k8 hN hzr hzH hzC hzO SZ8
          go_wp2_with fail
          refine hK.out _ _ (fun _ => KB.out) (fun hHeld => ?_)
          replace hHeld := hHeld (by first | rfl | trivial)
          clear hK K
          try simp only [Act.put, List.setIfInBounds_toArray, List.set_cons_zero, List.set_cons_succ]
          refine Reg.oneI 9 rfl (by kernel_rfl) (by rfl) (fun K hK => ?_)
          obtain ⟨w9, hrun, hI9, hC9, hz9⟩ := (I4.out.below KB.out.1 I4.out.lt).put (t := 156) (e := 58) Try.underlying3 Try.underlying156 (by have := LS.out; unfold maxLen; omega) hwf (.agg z.recCells.toArray)
          go_simp
          refine hK.out _ _ (fun h => by cases h) (fun _ => ?_)
          clear hK K
          try simp only [Act.put, List.setIfInBounds_toArray, List.set_cons_zero, List.set_cons_succ]
          refine Reg.doneI (by kernel_rfl) ?_
          as_aux_lemma =>
            have hX9 := (X4.out.below KB.out.1 X4.out.lt).chg hC9 (fun e => by have e : wr.heap.size = w3.heap.size := e; have := MB.out.size; have := MI.out.lt; omega)
            have hL9 := (L4.out.below KB.out.1 L4.out.lt).chg hC9 (fun e => by have e : w3.heap.size + 1 = w3.heap.size := e; omega)
            have y0 := hX9.cell (i := 0) (v := .int .i64 x.t) rfl
            have y2 := hL9.cell (i := 2) rfl
            have f2 := hL9.frozen 2 (by simp [lcells])
            have c1 : Chg (fun k => k = w3.heap.size ∨ k = w3.heap.size + 1) wr w8 := Chg.of_below (B4.out.trans (KB.out.1.mono B4.out.size))
            have c2 := c1.next hC9 (fun k hk e => .inl e)
            have hput : Chg (One (w3.heap.size + 1)) w9 (w9.setCell ⟨w3.heap.size + 1, 2, none⟩ (.int .i64 x.t)) := (Chg.refl _ _).put 2 _
            have c3 := c2.next hput (fun k hk e => .inr e)
            have hzz := (ZH.out.chg hC9 (ZO.out.mono (fun k e => by have e : k = w3.heap.size := e; have := SZ4.out; show k < w4.heap.size; omega))).chg hput (ZO.out.mono (fun k e => by have e : k = w3.heap.size + 1 := e; have := SZ4.out; show k < w4.heap.size; omega))
            have hstep := Held.step MH.out c3 (fun k hk e => by
              rcases e with e | e
              · exact .inr (.inr (.inr (.inr e)))
              · exact .inr (.inr (.inr (.inl e)))) (k := x.t) hzz ZC.out (ZO.out.mono (fun k e => by
              have h4 := SZ4.out
              show k < w4.heap.size
              rcases e with e | e | e | e | e
              · have := DX.out k e; omega
              · omega
              · omega
              · omega
              · omega)) (by rw [ZR.out]; exact SM.out)
            have hg : (fun i => if i = x.t then some z.r else gOf ((ls.take j).map (fun x => (x.t, x.r))) i) = gOf ((ls.take (j + 1)).map (fun x => (x.t, x.r))) := by
              funext i
              rw [TK.out, List.map_append, ZR.out]
              exact (gOf_snoc _ _ _ _).symm
            rw [hg] at hstep
            have hlast : lastOf ((ls.take (j + 1)).map (fun x => (x.t, x.r))) = x.t := by
              rw [TK.out, List.map_append]
              exact lastOf_snoc _ _ _
            have FIN := Lib.hid (And.intro (⟨_, hI9.chg hput (fun e => by have e : w3.heap.size = w3.heap.size + 1 := e; omega), hstep⟩ : ∃ f, IMap Try.prog 3 _ w3.heap.size (j + 1) f ∧ Held _ _ f _) (And.intro (show Row _ _ _ (lcells b w3.heap.size (lastOf ((ls.take (j + 1)).map (fun x => (x.t, x.r)))) 0) from by rw [hlast]; exact (hL9.set 2 (.int .i64 x.t)).cast rfl) (MB.out.trans (c3.below (B := w3.heap.size) MB.out.size (fun k e => by rcases e with e | e <;> omega)))))
            clear hX9 hL9 c1 c2 c3 hput hzz hstep hg hlast hI9 hC9 hz9 hrun
            have hj1 : (j : Int) < 1000000 := by have := LS.out; omega
            go_wp2_with fail
            obtain ⟨g1, g2, g3⟩ := FIN.out
            exact ⟨⟨j + 1, by omega, by go_num, g1, g2, g3⟩, by simp [intOf]; omega⟩
        · as_aux_lemma =>
          obtain rfl : j = ls.length := by omega
          have hst := ST.out
          have hIx := MI.out
          have hHx := MH.out
          have hLx := ML.out
          rw [List.take_length, hst] at hHx hLx
          obtain ⟨hk1, hk2, hk3⟩ := RX.out.2.2.2.2.1
          have HDX := Lib.hid (show Dia wr dX B b (w3.heap.size + 1) w3.heap.size m rX ls.length (gOf (stamped 0 rs)) (lastOf (stamped 0 rs)) 0 from ⟨is_below RX.out PX.out.lt MB.out, PX.out.below MB.out PX.out.lt, hLx, ⟨f, hIx, hHx⟩, fun k e => ⟨Nat.lt_of_lt_of_le (DX.out k e) MB.out.size, by have := DX.out k e; omega, by have := DX.out k e; omega⟩, ⟨by omega, by omega, by omega, by omega, by omega⟩, ⟨by omega, by omega⟩, last_bd BZ.out, by
            have h1 := congrArg List.length ST.out
            rw [List.length_map, stamped_len] at h1
            have h2 := BZ.out
            have h3 := flat8 GD.out
            omega⟩)
          have FIN := Lib.hid (show OpenPost w1 d B b m rX rs (.returned (.tuple #[.pointer (some ⟨w3.heap.size + 1, 0, none⟩), .slice la ls.length lcap, .int .i64 0])) wr from ⟨ls, la, lcap, w3.heap.size + 1, w3.heap.size, ls.length, dX, rfl, EX.out.keep MB.out, fun x hx => ⟨(VX.out x hx).1.keep MB.out, (VX.out x hx).2⟩, hst, HDX.out, CX.out.next (Chg.of_below (S := fun _ => False) MB.out) (fun _ _ x => x.elim), by have := CX.out.size; omega, CX.out.size, rfl, TX.out⟩)
          clear hst hIx hHx hLx HDX hk1 hk2 hk3
          go_wp2_with fail
          exact bodyPost_ret (by simp [results, Try.results28, go_sem]) rfl FIN.out
end Go.Proofs.Ytcfjooeagfollaa.Dia
