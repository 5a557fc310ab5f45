/- Merged by merge.py out of DiaI, DiaP, DiaQ. -/
import Derived.Test.YtcfjooeagfollaaDiaMB
import Derived.Test.YtcfjooeagfollaaNoteRefS
import Derived.Test.YtcfjooeagfollaaCod
import Derived.LoopTactic
import Derived.Test.YtcfjooeagfollaaDiaMA
/- Records that came in; how a log's bytes read behind a cut; elements of rows in drawn regions. -/
namespace Go.Proofs.Ytcfjooeagfollaa.Dia
open Go.RowKit Go.Proofs.Ytcfjooeagfollaa.Mem Go.Proofs.Ytcfjooeagfollaa.Bytes Go.Proofs.Ytcfjooeagfollaa.Mains Go.Proofs.Ytcfjooeagfollaa.Reel Go.Proofs.Ytcfjooeagfollaa.Note
set_option linter.unusedSimpArgs false
set_option linter.unusedVariables false
set_option maxRecDepth 20000

/-! ### a record that came in -/
abbrev cImg : Cod (Int × ByteArray × Unit) := .pair (.int .i64) (.pair .str .unit)
abbrev cTwo : Cod (Int × Int × Unit) := .pair (.int .i64) (.pair (.int .i64) .unit)
abbrev cUndo : Cod (Int × Int × ByteArray × ByteArray × Unit) := .pair (.int .i64) (.pair (.int .i64) (.pair .str (.pair .str .unit)))
abbrev cRec := Cod.pair (.int .i64) (.pair (.int .i64) (.pair (.int .i64) (.pair (.int .i64) (.pair cImg.slice (.pair cUndo (.pair cTwo.slice (.pair cTwo.slice .unit)))))))
abbrev YRec : Type := Int × Int × Int × Int × List (Int × ByteArray × Unit) × (Int × Int × ByteArray × ByteArray × Unit) × List (Int × Int × Unit) × List (Int × Int × Unit) × Unit
def toRec (y : YRec) : Rec := ⟨y.1, y.2.1, y.2.2.1, y.2.2.2.1, y.2.2.2.2.2.1.1, y.2.2.2.2.2.1.2.1, y.2.2.2.2.2.1.2.2.1, y.2.2.2.2.2.1.2.2.2.1, y.2.2.2.2.1.map (fun x => (x.1, x.2.1)), y.2.2.2.2.2.2.1.map (fun x => (x.1, x.2.1)), y.2.2.2.2.2.2.2.1.map (fun x => (x.1, x.2.1))⟩
theorem add_two1 (ad : Addr) (k : Nat) (hs : (ad.add k).spot = none ∨ k ≠ 0 ∨ True) : ad.add (k + 1) = ⟨(ad.add k).block, (ad.add k).off + 1, none⟩ := by
  unfold Addr.add
  split <;> split <;> simp_all <;> omega
theorem two_pairs {Y : Type} {g : Y → Value} {c : Cod (Int × Y × Unit)} (hsz : c.sz = 2) (hR : ∀ w cs x, c.R w cs x → cs = [.int .i64 x.1, g x.2.1]) {w : World} {a : Option Addr} {n : Nat} {xs : List (Int × Y × Unit)} (h : c.Row w a n xs) (hn : n ≤ 9223372036854775807) : Pairs g w a n (xs.map fun x => (x.1, x.2.1)) := by
  refine ⟨by rw [List.length_map]; exact h.1, hn, fun i x hx => ?_⟩
  have hi : i < xs.length := by
    rcases Nat.lt_or_ge i xs.length with h' | h'
    · exact h'
    · rw [List.getElem?_eq_none (by simpa using h')] at hx; cases hx
  rw [List.getElem?_map, List.getElem?_eq_getElem hi] at hx
  cases hx
  obtain ⟨ad, cs, ha, _, hc, hr⟩ := h.2 i hi
  rw [hsz] at hc
  rw [hR _ _ _ hr] at hc
  refine ⟨ad, ha, by simpa using hc 0 (by omega), ?_⟩
  have h1 := hc 1 (by omega)
  rw [add_two1 ad (i * 2) (.inr (.inr trivial))] at h1
  simpa using h1
theorem rec_in {w : World} {cs : List Value} {y : YRec} (h : cRec.R w cs y) : HasRec w (.agg cs.toArray) (toRec y) := by
  obtain ⟨k, d, p, n, ps, ⟨uk, ut, ky, vl, _⟩, os, ds, _⟩ := y
  obtain ⟨_, _, rfl, ⟨rfl, _⟩, _, _, rfl, ⟨rfl, _⟩, _, _, rfl, ⟨rfl, _⟩, _, _, rfl, ⟨rfl, _⟩, _, _, rfl, ⟨a0, n0, c0, rfl, h1, h2, h3, h4⟩, _, _, rfl, ⟨_, _, rfl, ⟨rfl, _⟩, _, _, rfl, ⟨rfl, _⟩, _, _, rfl, ⟨rfl, _⟩, _, _, rfl, ⟨rfl, _⟩, rfl⟩, _, _, rfl, ⟨a1, n1, c1, rfl, g1, g2, g3, g4⟩, _, _, rfl, ⟨a2, n2, c2, rfl, k1, k2, k3, k4⟩, rfl⟩ := h
  unfold maxLen at h2 g2 k2
  refine ⟨a0, n0, c0, a1, n1, c1, a2, n2, c2, rfl, ?_, ?_, ?_, h1, g1, k1⟩
  · exact two_pairs rfl (fun w cs x hx => by obtain ⟨_, _, rfl, ⟨rfl, _⟩, _, _, rfl, ⟨rfl, _⟩, rfl⟩ := hx; rfl) h4 (by omega)
  · exact two_pairs rfl (fun w cs x hx => by obtain ⟨_, _, rfl, ⟨rfl, _⟩, _, _, rfl, ⟨rfl, _⟩, rfl⟩ := hx; rfl) g4 (by omega)
  · exact two_pairs rfl (fun w cs x hx => by obtain ⟨_, _, rfl, ⟨rfl, _⟩, _, _, rfl, ⟨rfl, _⟩, rfl⟩ := hx; rfl) k4 (by omega)
theorem els_ex {α β : Type} {enc : β → List Value} {P : β → Prop} {c : Cod α} {w : World} {a : Option Addr} {n : Nat} {xs : List α} (h : c.Row w a n xs) (h0 : 0 < c.sz) (hR : ∀ cs x, c.R w cs x → ∃ y, cs = enc y ∧ P y) :
    ∃ ys : List β, ys.length = n ∧ Els enc c.sz w a ys ∧ ∀ y ∈ ys, P y := by
  have key : ∀ i : Fin n, ∃ y : β, P y ∧ ∃ ad, a = some ad ∧ ad.block < w.heap.size ∧ ∀ w', Below w.heap.size w w' → ∀ j v, (enc y)[j]? = some v → w'.cell? (ad.add (i.val * c.sz + j)) = some v := fun i => by
    obtain ⟨ad, cs, ha, hl, hc, hr⟩ := h.2 i.val (by have := h.1; have := i.isLt; omega)
    obtain ⟨y, he, hy⟩ := hR _ _ hr
    refine ⟨y, hy, ad, ha, hl.elim (fun e => by omega) id, fun w' hb j v hv => ?_⟩
    rw [← he] at hv
    have hj : j < c.sz := by
      obtain ⟨hj, _⟩ := List.getElem?_eq_some_iff.1 hv
      rwa [c.len hr] at hj
    have h1 := (hc j hj).trans hv
    rw [hb.cell (World.block_lt_of_cell? w _ h1)]
    exact h1
  obtain ⟨f, hf⟩ := Classical.axiomOfChoice key
  refine ⟨List.ofFn f, List.length_ofFn, fun i hi => ?_, fun y hy => ?_⟩
  · rw [List.length_ofFn] at hi
    obtain ⟨_, ad, ha, hl, hc⟩ := hf ⟨i, hi⟩
    refine ⟨ad, ha, hl, fun w' hb j v hv => hc w' hb j v ?_⟩
    rw [List.getElem_ofFn] at hv
    exact hv
  · obtain ⟨i, hi, rfl⟩ := List.getElem_of_mem hy
    rw [List.getElem_ofFn]
    exact (hf _).1

theorem sr_in {w : World} {cs : List Value} {y : YRec} (h : cRec.R w cs y) : ∃ x : Sr, cs = x.recCells ∧ x.Has w ∧ x.Caps := by
  obtain ⟨a0, n0, c0, a1, n1, c1, a2, n2, c2, e, h0, h1, h2, z0, z1, z2⟩ := rec_in h
  obtain rfl := h0.1
  obtain rfl := h1.1
  obtain rfl := h2.1
  refine ⟨⟨0, toRec y, a0, c0, a1, c1, a2, c2⟩, ?_, ⟨h0, h1, h2⟩, z0, z1, z2⟩
  injection e with e
  have h2 := congrArg Array.toList e
  have h3 : cs = Rec.cells (toRec y) (.slice a0 (toRec y).pages.length c0) (.slice a1 (toRec y).opens.length c1) (.slice a2 (toRec y).dirts.length c2) := by simpa using h2
  exact h3
theorem recs_in {w : World} {a : Option Addr} {n cap : Nat} {xs : List YRec} (h : SlcIn cRec w a n cap xs) : ∃ l : List Sr, l.length = n ∧ n ≤ 9223372036854775807 ∧ Els Sr.recCells 11 w a l ∧ ∀ x ∈ l, x.Has w ∧ x.Caps := by
  obtain ⟨l, h1, h2, h3⟩ := els_ex (enc := Sr.recCells) h.2.2.2 (by decide) (fun cs x hx => sr_in hx)
  exact ⟨l, h1, h.len.2, h2, h3⟩
/-! ### an element of a row, or a part of one, is loaded in a drawn region -/
theorem exec_elx {P : Program} {o : Oper} {a : Act} {w0 w : World} {α : Type} {enc : α → List Value} {sz : Nat} {ad : Addr} {l : List α} (hE : Els enc sz w0 (some ad) l) (hb : Below w0.heap.size w0 w) (i : Nat) (hi : i < l.length) (x : α) (hx : l[i] = x) (ty : TypeId) {d : TypeDesc} (hu : P.underlying ty = some d) (hd : d.isRow = true) (hs : (P.info? ty).map (·.size) = some (enc x).length)
    {y : Operand} (ho : o.op = .load ty y) (hy : a.eval y = .pointer (some (ad.add (i * sz)))) : (execOp a.eval o).run P w = .ok (.value (.agg (enc x).toArray)) w := by
  subst hx
  obtain ⟨ad', e, _, hc⟩ := hE i hi
  cases e
  have hl : (loadCells (ad.add (i * sz)) (enc l[i]).length).run P w = .ok (enc l[i]).toArray w :=
    run_loadCells_list (P := P) w _ _ (fun j v hv => by rw [add_two]; exact hc w hb j v hv)
  have hv : (loadVar ty (ad.add (i * sz))).run P w = .ok (.agg (enc l[i]).toArray) w := by
    cases hq : P.info? ty with
    | none => simp [hq] at hs
    | some i0 =>
      have hs' : i0.size = (enc l[i]).length := by simpa [hq] using hs
      have hagg : (isAgg ty).run P w = .ok true w := by
        unfold isAgg
        rw [Sem.run_bind, run_underlying hu w]
        cases d <;> simp_all
      simp [loadVar, Sem.run_bind, hagg, sizeOf, typeInfo, hq, hs', hl]
  unfold execOp
  simp only [ho, hy, Instr.loadAt, Instr.sureAddr, Sem.run_bind, Sem.run_pure, Result.andThen_ok, hv]
theorem exec_elp {P : Program} {o : Oper} {a : Act} {w0 w : World} {α : Type} {enc : α → List Value} {sz : Nat} {ad : Addr} {l : List α} (hE : Els enc sz w0 (some ad) l) (hb : Below w0.heap.size w0 w) (i : Nat) (hi : i < l.length) (pre cs post : List Value) (hx : enc l[i] = pre ++ (cs ++ post)) (ty : TypeId) {d : TypeDesc} (hu : P.underlying ty = some d) (hd : d.isRow = true) (hs : (P.info? ty).map (·.size) = some cs.length)
    {y : Operand} (ho : o.op = .load ty y) (k : Nat) (hk : pre.length = k + 1) (hy : a.eval y = .pointer (some ⟨(ad.add (i * sz)).block, (ad.add (i * sz)).off + (k + 1), none⟩)) : (execOp a.eval o).run P w = .ok (.value (.agg cs.toArray)) w := by
  rw [els_field] at hy
  obtain ⟨ad', e, _, hc⟩ := hE i hi
  cases e
  have hl : (loadCells (ad.add (i * sz + (k + 1))) cs.length).run P w = .ok cs.toArray w :=
    run_loadCells_list (P := P) w _ _ (fun j v hv => by
      rw [add_two, Nat.add_assoc]
      refine hc w hb _ v ?_
      obtain ⟨hj, _⟩ := List.getElem?_eq_some_iff.1 hv
      rw [hx, ← hk, List.getElem?_append_right (by omega), Nat.add_sub_cancel_left, List.getElem?_append_left hj]
      exact hv)
  have hv : (loadVar ty (ad.add (i * sz + (k + 1)))).run P w = .ok (.agg cs.toArray) w := by
    cases hq : P.info? ty with
    | none => simp [hq] at hs
    | some i0 =>
      have hs' : i0.size = cs.length := by simpa [hq] using hs
      have hagg : (isAgg ty).run P w = .ok true w := by
        unfold isAgg
        rw [Sem.run_bind, run_underlying hu w]
        cases d <;> simp_all
      simp [loadVar, Sem.run_bind, hagg, sizeOf, typeInfo, hq, hs', hl]
  unfold execOp
  simp only [ho, hy, Instr.loadAt, Instr.sureAddr, Sem.run_bind, Sem.run_pure, Result.andThen_ok, hv]
theorem load_els_g {P : Program} {ops : Array Oper} {rest : List Oper} {o : Oper} {a : Act} {w0 w : World} {Q : Exit → Act → World → Prop} {α : Type} {enc : α → List Value} {sz : Nat} {ad : Addr} {l : List α} (hE : Els enc sz w0 (some ad) l) (hb : Below w0.heap.size w0 w) (i : Nat) (hi : i < l.length) (x : α) (hx : l[i] = x) (ty : TypeId) {d : TypeDesc} (hu : P.underlying ty = some d) (hd : d.isRow = true) (hs : (P.info? ty).map (·.size) = some (enc x).length)
    (hw : Region.wanted o (yielded ops a.tmps) = true) {y : Operand} (ho : o.op = .load ty y) (hy : a.eval y = .pointer (some (ad.add (i * sz))))
    (h : wpList P ops Q rest (a.put o.dst (.agg (enc x).toArray)) w) : wpList P ops Q (o :: rest) a w := by
  subst hx
  obtain ⟨ad', e, _, hc⟩ := hE i hi
  cases e
  have hl : (loadCells (ad.add (i * sz)) (enc l[i]).length).run P w = .ok (enc l[i]).toArray w :=
    run_loadCells_list (P := P) w _ _ (fun j v hv => by rw [add_two]; exact hc w hb j v hv)
  have hv : (loadVar ty (ad.add (i * sz))).run P w = .ok (.agg (enc l[i]).toArray) w := by
    cases hq : P.info? ty with
    | none => simp [hq] at hs
    | some i0 =>
      have hs' : i0.size = (enc l[i]).length := by simpa [hq] using hs
      have hagg : (isAgg ty).run P w = .ok true w := by
        unfold isAgg
        rw [Sem.run_bind, run_underlying hu w]
        cases d <;> simp_all
      simp [loadVar, Sem.run_bind, hagg, sizeOf, typeInfo, hq, hs', hl]
  refine wpList_step fun _ hK => ?_
  rw [if_pos hw]
  unfold Oper.wp execOp
  simp only [ho, hy, Instr.loadAt, Instr.sureAddr, Sem.run_bind, Sem.run_pure, Result.andThen_ok, hv]
  exact hK _ _ h
/-! ### what is read behind a cut -/
theorem nRead_app (r : Rec) (hg : r.good = true) (t : List UInt8) : nRead (r.bytes ++ t) = some (r, r.bytes.length) := (nRead_iff _ _ _).2 ⟨hg, rfl, t, rfl⟩
theorem nRead_cut (r : Rec) (hg : r.good = true) (m : Nat) (hm : m < r.bytes.length) : nRead (r.bytes.take m) = none := by
  cases h : nRead (r.bytes.take m) with
  | none => rfl
  | some p =>
    obtain ⟨q, k⟩ := p
    obtain ⟨hq, _, t, ht⟩ := (nRead_iff _ _ _).1 h
    have e : r.bytes = q.bytes ++ (t ++ r.bytes.drop m) := by
      rw [← List.append_assoc, ← ht, List.take_append_drop]
    have h1 := nRead_app r hg []
    rw [List.append_nil, e, nRead_app q hq, ← e] at h1
    have h2 := congrArg (fun o => o.map Prod.snd) h1
    simp only [Option.map_some, Option.some.injEq] at h2
    have h3 := congrArg List.length ht
    rw [List.length_append, List.length_take] at h3
    omega
theorem scan_cut : ∀ (rs : List Rec) (hg : ∀ x ∈ rs, x.good = true) (m n : Nat) (hn : ((rs.flatMap Rec.bytes).take m).length ≤ n),
    ∃ j, j ≤ rs.length ∧ (scanL n ((rs.flatMap Rec.bytes).take m)).1 = rs.take j ∧ ∀ i, i ≤ rs.length → ((rs.take i).flatMap Rec.bytes).length ≤ m → i ≤ j
  | [], _, m, n, _ => ⟨0, Nat.le_refl _, by
      have : nRead [] = none := by
        cases h : nRead [] with
        | none => rfl
        | some p => have := nRead_len h; simp at this; omega
      simp [scanL_none this], fun i hi _ => hi⟩
  | x :: rs, hg, m, n, hn => by
    have hx := hg x List.mem_cons_self
    rw [List.flatMap_cons] at hn ⊢
    rcases Nat.lt_or_ge m x.bytes.length with hm | hm
    · have e : (x.bytes ++ rs.flatMap Rec.bytes).take m = x.bytes.take m := by rw [List.take_append]; simp; omega
      refine ⟨0, Nat.zero_le _, ?_, fun i hi h => ?_⟩
      · rw [e, scanL_none (nRead_cut x hx m hm)]
        rfl
      · cases i with
        | zero => exact Nat.le_refl _
        | succ i =>
          rw [List.take_succ_cons, List.flatMap_cons, List.length_append] at h
          omega
    · have e : (x.bytes ++ rs.flatMap Rec.bytes).take m = x.bytes ++ (rs.flatMap Rec.bytes).take (m - x.bytes.length) := by
        rw [List.take_append, List.take_of_length_le hm]
      rw [e] at hn ⊢
      rw [List.length_append] at hn
      obtain ⟨j, h1, h2, h3⟩ := scan_cut rs (fun y hy => hg y (List.mem_cons_of_mem _ hy)) (m - x.bytes.length) n (by omega)
      refine ⟨j + 1, by rw [List.length_cons]; omega, ?_, fun i hi h => ?_⟩
      · rw [scanL_some (nRead_app x hx _) (by rw [List.length_append]; exact hn), List.drop_left' rfl, h2, List.take_succ_cons]
      · cases i with
        | zero => exact Nat.zero_le _
        | succ i =>
          rw [List.take_succ_cons, List.flatMap_cons, List.length_append] at h
          have := h3 i (by rw [List.length_cons] at hi; omega) (by omega)
          omega
theorem stamped_snd : ∀ (k : Nat) (l : List Rec), (stamped k l).map Prod.snd = l
  | _, [] => rfl
  | k, r :: l => by rw [stamped, List.map_cons, stamped_snd]
theorem flat_le : ∀ (rs : List Rec), (∀ x ∈ rs, x.good = true) → (rs.flatMap Rec.bytes).length ≤ 4300 * rs.length
  | [], _ => by simp
  | x :: l, h => by
    have h1 := flat_le l (fun y hy => h y (List.mem_cons_of_mem _ hy))
    have h2 := (good_bytes (h x List.mem_cons_self)).2
    rw [List.flatMap_cons, List.length_append, List.length_cons]
    omega
theorem small_of {r : Rec} (h : r.great = false) : Small r := by
  simp only [Rec.great, Bool.or_eq_false_iff, decide_eq_false_iff_not] at h
  obtain ⟨⟨⟨⟨⟨h1, h2⟩, h3⟩, h4⟩, h5⟩, h6⟩ := h
  exact ⟨by omega, by omega, by omega, by omega, by omega⟩
theorem small_good {r : Rec} (h : r.good = true) : Small r := by
  obtain ⟨_, _, _, _, _, _, ks, vs, c1, c2, c3, _⟩ := good_nums h
  exact ⟨by omega, by omega, by omega, by omega, by omega⟩
theorem same_self (r : Rec) : r.same r = true := Rec.same_iff.2 rfl
end Go.Proofs.Ytcfjooeagfollaa.Dia

/- The law DiaryKeeps: a log to which records are added, forced, cut off and opened again, step by step. -/
namespace Go.Proofs.Ytcfjooeagfollaa.Dia
open Go.RowKit Go.Proofs.Ytcfjooeagfollaa.Mem Go.Proofs.Ytcfjooeagfollaa.Bytes Go.Proofs.Ytcfjooeagfollaa.Mains Go.Proofs.Ytcfjooeagfollaa.Reel Go.Proofs.Ytcfjooeagfollaa.Note
set_option linter.unusedSimpArgs false
set_option linter.unusedVariables false
set_option maxRecDepth 20000

/-- A log with power, all of it made since w1; its bytes are those of rs, of which fz at least are safe. -/
structure Kp (w1 : World) (B b L mb : Nat) (rs : List Rec) (fz : Nat) (X : R → (Int → Option Rec) → Prop) (wr : World) : Prop where
  all : ∃ d r n g last, Dia wr d B b L mb M.fresh r n g last 0 ∧ (∀ k, d = some k → w1.heap.size ≤ k) ∧ n ≤ rs.length ∧ r.data = rs.flatMap Rec.bytes ∧ r.size = 131072 ∧ (∀ k, (r.data.length : Int) < k → g k = none) ∧ ((rs.take fz).flatMap Rec.bytes).length ≤ r.safe ∧ X r g
  fz : fz ≤ rs.length
  good : ∀ x ∈ rs, x.good = true
  below : Below w1.heap.size w1 wr
  high : w1.heap.size ≤ B ∧ w1.heap.size ≤ b ∧ w1.heap.size ≤ L ∧ w1.heap.size ≤ mb
/-- What stands in a log behind an add: the record at its stamp. -/
def Put (t : Int) (q : Rec) (r : R) (g : Int → Option Rec) : Prop := g t = some q ∧ t - 1 + (q.size : Int) = (r.data.length : Int) ∧ 1 ≤ t ∧ t ≤ 1000000
section
variable {w1 wr : World} {B b L mb fz : Nat} {rs : List Rec} {X : R → (Int → Option Rec) → Prop}
theorem Kp.next (h : Kp w1 B b L mb rs fz X wr) {w' : World} (hb : Below wr.heap.size wr w') : Kp w1 B b L mb rs fz X w' := by
  obtain ⟨d, r, n, g, last, h1, h2⟩ := h.all
  exact ⟨⟨d, r, n, g, last, h1.below hb, h2⟩, h.fz, h.good, h.below.trans (hb.mono h.below.size), h.high⟩
theorem Kp.drop (h : Kp w1 B b L mb rs fz X wr) : Kp w1 B b L mb rs fz (fun _ _ => True) wr := by
  obtain ⟨d, r, n, g, last, h1, h2, h3, h4, h5, h6, h7, _⟩ := h.all
  exact ⟨⟨d, r, n, g, last, h1, h2, h3, h4, h5, h6, h7, trivial⟩, h.fz, h.good, h.below, h.high⟩
theorem Kp.add (h : Kp w1 B b L mb rs fz X wr) (x : Sr) (hx : x.Has w1) (hc : x.Caps) (hg : x.r.good = true) (hN : rs.length < 20) : Calls Try.prog 52 #[.pointer (some ⟨L, 0, none⟩), .agg x.recCells.toArray] wr fun e w' => ∃ t, e = .returned (.tuple #[.int .i64 t, .int .i64 0]) ∧ Kp w1 B b L mb (rs ++ [x.r]) fz (Put t x.r) w' := by
  obtain ⟨d, r, n, g, last, h1, h2, h3, h4, h5, h6, h7, _⟩ := h.all
  obtain ⟨a1, a2, a3, a4⟩ := h.high
  have hs := h.below.size
  have hfl := flat_le rs h.good
  have hdl : r.data.length = (rs.flatMap Rec.bytes).length := congrArg List.length h4
  obtain ⟨gb1, gb2⟩ := good_bytes hg
  have gb8 := bytes_length x.r
  have hoff : x.Off (Own d B b L mb) := hx.off.mono (fun k e => by
    show w1.heap.size ≤ k
    rcases e with e | e | e | e | e
    · exact h2 k e
    · omega
    · omega
    · omega
    · omega)
  refine (add_calls h1 x (hx.keep h.below) hc hoff hg (by omega) rfl rfl (h6 _ (by omega)) (by omega)).mono ?_
  rintro e w' ⟨rfl, ⟨d', hD, hd⟩, hcg⟩
  have hlen : (r.add (bs x.r.bytes)).data.length = r.data.length + x.r.bytes.length := by
    show (r.data ++ x.r.bytes).length = _
    rw [List.length_append]
  refine ⟨_, rfl, ⟨d', _, n + 1, _, _, hD, fun j e => ?_, by rw [List.length_append]; simp; omega, ?_, h5, fun j hj => ?_, ?_, ?_, ?_, by omega, by omega⟩, by rw [List.length_append]; have := h.fz; omega, fun y hy => ?_, h.below.trans (hcg.below (B := w1.heap.size) hs (fun i e => ?_)), h.high⟩
  · rcases hd j e with e | e
    · exact h2 j e
    · omega
  · show r.data ++ x.r.bytes = _
    rw [h4, List.flatMap_append, List.flatMap_cons, List.flatMap_nil, List.append_nil]
  · have hj : ((r.add (bs x.r.bytes)).data.length : Int) < j := hj
    rw [hlen] at hj
    show (if j = _ then _ else _) = _
    rw [if_neg (by omega)]
    exact h6 j (by omega)
  · rw [List.take_append_of_le_length h.fz]
    exact h7
  · exact if_pos rfl
  · rw [hlen]; omega
  · rcases List.mem_append.1 hy with hy | hy
    · exact h.good y hy
    · rw [List.mem_singleton.1 hy]; exact hg
  · rcases e with (e | e | e | e) | e | e
    · omega
    · omega
    · exact h2 i e
    · omega
    · omega
    · omega
theorem Kp.force {t : Int} {q : Rec} (h : Kp w1 B b L mb rs fz (Put t q) wr) (hq : q ∈ rs) : Calls Try.prog 56 #[.pointer (some ⟨L, 0, none⟩), .int .i64 t] wr fun e w' => e = .returned (.int .i64 0) ∧ Kp w1 B b L mb rs rs.length (fun _ _ => True) w' := by
  obtain ⟨d, r, n, g, last, h1, h2, h3, h4, h5, h6, h7, p1, p2, p3, p4⟩ := h.all
  obtain ⟨a1, a2, a3, a4⟩ := h.high
  have hs := h.below.size
  have hqs := good_size (h.good q hq)
  have hwf : (Lit.int .i64 t).wf = true := by simp [Lit.wf, IntKind.min, IntKind.max, IntKind.signed, IntKind.bits]; omega
  refine (force_calls h1 t hwf (fun q' e => by rw [p1] at e; cases e; exact ⟨p3, p4, by omega⟩) (by decide)).mono ?_
  rintro e w' ⟨rfl, ⟨d', hD, hd⟩, hcg⟩
  have hok := h1.reel.2.2.2.2.1
  rw [p1] at hD ⊢
  have e1 : forceE M.fresh r t (some q) = 0 := by unfold forceE; simp; intro _; rfl
  have e2 : forceM M.fresh r t (some q) = M.fresh := by unfold forceM; simp; intro _; rfl
  have e3 : (forceR M.fresh r t (some q)).data = r.data ∧ (forceR M.fresh r t (some q)).size = r.size ∧ r.data.length ≤ (forceR M.fresh r t (some q)).safe := by
    unfold forceR
    rw [if_neg (by simp)]
    split
    · rename_i hsf
      refine ⟨rfl, rfl, ?_⟩
      have := of_decide_eq_true hsf
      omega
    · exact ⟨rfl, rfl, Nat.le_refl _⟩
  rw [e2] at hD
  rw [e1]
  generalize forceR M.fresh r t (some q) = r' at hD e3
  obtain ⟨f1, f2, f3⟩ := e3
  refine ⟨rfl, ⟨d', r', n, g, last, hD, fun j e => ?_, h3, f1.trans h4, f2.trans h5, by rw [f1]; exact h6, ?_, trivial⟩, Nat.le_refl _, h.good, h.below.trans (hcg.below (B := w1.heap.size) hs (fun i e => ?_)), h.high⟩
  · rcases hd j e with e | e
    · exact h2 j e
    · omega
  · rw [List.take_length, ← h4]; exact f3
  · rcases e with e | e | e | e
    · omega
    · omega
    · exact h2 i e
    · omega
end
theorem Kp.start {w1 w : World} {B b : Nat} (hR : Reel.Is w (Tight none w) B b (R.fresh 131072)) {e : Ending} {w' : World} (h : OpenPost w none B b M.fresh (R.fresh 131072) [] e w') (hb : Below w1.heap.size w1 w) (hB : w1.heap.size ≤ B) (hbb : w1.heap.size ≤ b) :
    ∃ la lcap L mb, e = .returned (.tuple #[.pointer (some ⟨L, 0, none⟩), .slice la 0 lcap, .int .i64 0]) ∧ Kp w1 B b L mb [] 0 (fun _ _ => True) w' := by
  obtain ⟨ls, la, lcap, L, mb, n, d', rfl, hE, hV, hst, hD, hc, hL, hmb, hn, ht⟩ := h
  obtain rfl : ls = [] := by
    have := congrArg List.length hst
    rw [List.length_map] at this
    exact List.eq_nil_of_length_eq_zero this
  obtain rfl : n = 0 := hn
  have hs := hb.size
  refine ⟨la, lcap, L, mb, rfl, ⟨⟨d', R.fresh 131072, 0, _, _, hD, fun k e => ?_, Nat.le_refl _, rfl, rfl, fun k _ => rfl, Nat.le_refl _, trivial⟩, Nat.le_refl _, fun x hx => (by cases hx), hb.trans (hc.below (B := w1.heap.size) hs (fun i e => ?_)), hB, hbb, by omega, by omega⟩⟩
  · rcases ht k e with h | h
    · cases h
    · omega
  · rcases e with e | e | e | e
    · omega
    · omega
    · cases e
    · omega
/-- A reel and its power, made since w1. -/
structure Rl (w1 : World) (B b : Nat) (m : M) (P : R → Prop) (wr : World) : Prop where
  all : ∃ d r, Reel.Is wr (Tight d wr) B b r ∧ (∀ k, d = some k → w1.heap.size ≤ k ∧ k < wr.heap.size) ∧ P r
  pow : Row wr B 147 m.cells
  below : Below w1.heap.size w1 wr
  high : w1.heap.size ≤ B ∧ w1.heap.size ≤ b
section
variable {w1 wr : World} {B b L mb fz : Nat} {rs : List Rec} {m : M} {P : R → Prop} {X : R → (Int → Option Rec) → Prop}
/-- What is known of the bytes. -/
def Dat (rs : List Rec) (fz : Nat) (r : R) : Prop := r.data = rs.flatMap Rec.bytes ∧ ((rs.take fz).flatMap Rec.bytes).length ≤ r.safe ∧ r.safe ≤ r.data.length
theorem Kp.rl (h : Kp w1 B b L mb rs fz X wr) : Rl w1 B b M.fresh (Dat rs fz) wr := by
  obtain ⟨d, r, n, g, last, h1, h2, h3, h4, h5, h6, h7, _⟩ := h.all
  exact ⟨⟨d, r, h1.reel, fun k e => ⟨h2 k e, (h1.hd k e).1⟩, h4, h7, h1.reel.2.2.2.2.1.1⟩, h1.pow, h.below, h.high.1, h.high.2.1⟩
theorem Rl.step (h : Rl w1 B b m P wr) {m' : M} {w' : World} (hM : Row w' B 147 m'.cells) (hc : Chg (One B) wr w') : Rl w1 B b m' P w' := by
  obtain ⟨d, r, h1, h2, h3⟩ := h.all
  have hs := h.below.size
  refine ⟨⟨d, r, is_chg h1 h.pow.lt hc (fun e => h1.1 e.symm) (fun k e hk => h1.2.1 (.inl (by rw [e]; exact congrArg some hk))), fun k e => ⟨(h2 k e).1, Nat.lt_of_lt_of_le (h2 k e).2 hc.size⟩, h3⟩, hM, h.below.trans (hc.below (B := w1.heap.size) hs (fun i e => ?_)), h.high⟩
  have e : i = B := e
  have := h.high
  omega
theorem Rl.off (h : Rl w1 B b m P wr) : Calls Try.prog 33 #[.pointer (some ⟨B, 0, none⟩)] wr fun e w' => e = .returned (.tuple #[]) ∧ Rl w1 B b m.offed P w' := by
  refine (off_calls B m wr h.pow).mono ?_
  rintro e w' ⟨rfl, hM, hc⟩
  exact ⟨rfl, h.step hM hc⟩
theorem Rl.on (h : Rl w1 B b m P wr) (hb : 0 ≤ m.boots ∧ m.boots ≤ 4611686018427387904) : Calls Try.prog 68 #[.pointer (some ⟨B, 0, none⟩)] wr fun e w' => e = .returned (.tuple #[]) ∧ Rl w1 B b m.oned P w' := by
  refine (on_calls B m wr h.pow hb).mono ?_
  rintro e w' ⟨rfl, hM, hc⟩
  exact ⟨rfl, h.step hM hc⟩
theorem Rl.settle (h : Rl w1 B b m P wr) (hon : m.on = false) (k : Int) : Calls Try.prog 67 #[.pointer (some ⟨b, 0, none⟩), .int .i64 k] wr fun e w' => e = .returned (.int .i64 0) ∧ Rl w1 B b m (fun r' => ∃ r, P r ∧ r' = r.cut (kept r k)) w' := by
  obtain ⟨d, r, h1, h2, h3⟩ := h.all
  have hs := h.below.size
  refine (settle_calls (Tight d wr) B b m r k wr h1 h.pow).mono ?_
  rintro e w' ⟨rfl, hR, hM, hc⟩
  have e1 : settleErr m = 0 := by unfold settleErr; rw [hon]; rfl
  have e2 : settleR m r k = r.cut (kept r k) := by unfold settleR; rw [hon]; rfl
  rw [e2] at hR
  rw [e1]
  obtain ⟨d', hd', hT⟩ := is_tight hR
  have hlow : ∀ k, Tight d wr k → w1.heap.size ≤ k := fun k e => by
    rcases e with e | e
    · exact (h2 k e).1
    · omega
  refine ⟨rfl, ⟨d', _, hT, fun k e => ⟨hlow k (hd' k e).1, (hd' k e).2⟩, r, h3, rfl⟩, hM, h.below.trans (hc.below (B := w1.heap.size) hs (fun i e => ?_)), h.high⟩
  have := h.high
  rcases e with e | e | e
  · omega
  · omega
  · exact hlow i e
def ReadBack (w1 : World) (P : R → Prop) (e : Ending) (w' : World) : Prop := ∃ (ls : List Sr) (a : Option Addr) (cap L : Nat), e = .returned (.tuple #[.pointer (some ⟨L, 0, none⟩), .slice a ls.length cap, .int .i64 0]) ∧ Els Sr.cells 12 w' a ls ∧ (∀ x ∈ ls, x.Has w' ∧ x.Caps) ∧ (∃ r, P r ∧ ls.map (fun x => x.r) = (scanL r.data.length r.data).1) ∧ Below w1.heap.size w1 w'
theorem Rl.open (h : Rl w1 B b m P wr) (hon : m.on = true) (hfu : m.fuse = -1) (hl : ∀ r, P r → r.data.length ≤ 100000) : Calls Try.prog 28 #[.pointer (some ⟨b, 0, none⟩)] wr fun e w' => ReadBack w1 P e w' := by
  obtain ⟨d, r, h1, h2, h3⟩ := h.all
  have hs := h.below.size
  refine (open_calls wr d B b m r h1 h.pow hon hfu (fun k e => (h2 k e).2) (hl r h3)).mono ?_
  rintro e w' ⟨ls, a, cap, L, mb, n, d', rfl, hE, hV, hst, hD, hc, _⟩
  refine ⟨ls, a, cap, L, rfl, hE, hV, ⟨r, h3, ?_⟩, h.below.trans (hc.below (B := w1.heap.size) hs (fun i e => ?_))⟩
  · have := congrArg (fun l => l.map Prod.snd) hst
    simp only [stamped_snd, List.map_map] at this
    exact this
  · have := h.high
    rcases e with e | e | e | e
    · omega
    · omega
    · exact (h2 i e).1
    · omega
end
/-- A loop's count goes down: for 'case measure' (simp on the goal itself, in a second loop, kills the kernel). -/
theorem meas {N j : Nat} (h : j < N) (z : Int) (hz : z = (j : Int) + 1) : N - (intOf (.int .i64 z)).toNat < N - (intOf (.int .i64 (j : Int))).toNat := by
  subst hz
  show N - ((j : Int) + 1).toNat < N - ((j : Int)).toNat
  omega
theorem kept_ge (r : R) (k : Int) : r.safe ≤ kept r k := by unfold kept; omega
theorem read_back {rs : List Rec} {fz : Nat} {k : Int} {l : List Rec} (hg : ∀ x ∈ rs, x.good = true) (hf : fz ≤ rs.length) (h : ∃ r', (∃ r, Dat rs fz r ∧ r' = r.cut (kept r k)) ∧ l = (scanL r'.data.length r'.data).1) : ∃ j, fz ≤ j ∧ j ≤ rs.length ∧ l = rs.take j := by
  obtain ⟨r', ⟨r, ⟨h1, h2, h3⟩, rfl⟩, rfl⟩ := h
  have e : (r.cut (kept r k)).data = (rs.flatMap Rec.bytes).take (kept r k) := by rw [← h1]; rfl
  rw [e]
  obtain ⟨j, j1, j2, j3⟩ := scan_cut rs hg (kept r k) _ (Nat.le_refl _)
  exact ⟨j, j3 fz hf (Nat.le_trans h2 (kept_ge r k)), j1, j2⟩
theorem cut_len {rs : List Rec} {fz : Nat} {k : Int} (hg : ∀ x ∈ rs, x.good = true) (hn : rs.length ≤ 20) (r' : R) (h : ∃ r, Dat rs fz r ∧ r' = r.cut (kept r k)) : r'.data.length ≤ 100000 := by
  obtain ⟨r, ⟨h1, h2, h3⟩, rfl⟩ := h
  have e : (r.cut (kept r k)).data = (rs.flatMap Rec.bytes).take (kept r k) := by rw [← h1]; rfl
  have := flat_le rs hg
  rw [e, List.length_take]
  omega
end Go.Proofs.Ytcfjooeagfollaa.Dia

/- The law DiaryKeeps. -/
namespace Go.Proofs.Ytcfjooeagfollaa.Dia
open Go.RowKit Go.Proofs.Ytcfjooeagfollaa.Mem Go.Proofs.Ytcfjooeagfollaa.Bytes Go.Proofs.Ytcfjooeagfollaa.Mains Go.Proofs.Ytcfjooeagfollaa.Reel Go.Proofs.Ytcfjooeagfollaa.Note
set_option linter.unusedSimpArgs false
set_option linter.unusedVariables false
set_option maxRecDepth 20000

theorem ngood_sr (x : Sr) (w : World) (h : x.Has w) : Calls Try.prog 66 #[.agg x.recCells.toArray] w fun e w' => e = .returned (.bool x.r.good) ∧ Below w.heap.size w w' :=
  Note.good_calls x.r x.a0 _ x.c0 x.a1 _ x.c1 x.a2 _ x.c2 w h.1 h.2.1 h.2.2
theorem snoc_r {ls : List Sr} {j : Nat} (h : j < ls.length) {x : Sr} (hx : ls[j] = x) : (ls.take (j + 1)).map (fun x => x.r) = (ls.take j).map (fun x => x.r) ++ [x.r] := by
  rw [List.take_succ_eq_append_getElem h, List.map_append, hx]
  rfl
set_option maxHeartbeats 8000000 in
theorem keeps_calls (fo ke : Int) (a : Option Addr) (c : Nat) (ls : List Sr) (w : World) (hE : Els Sr.recCells 11 w a ls) (hV : ∀ x ∈ ls, x.Has w ∧ x.Caps) (hlm : ls.length ≤ 9223372036854775807) :
    Calls Try.prog 12 #[.slice a ls.length c, .int .i64 fo, .int .i64 ke] w fun e w' => e = .returned (.bool true) ∧ Below w.heap.size w w' := by
  have EL := Lib.hid hE
  have VL := Lib.hid hV
  have AW := Lib.hid (awake_calls w)
  clear hE hV
  by_cases hl : 20 < ls.length
  · have hl' : ((20 : Int) < (ls.length : Int)) := by omega
    go_enter Try.func12, Try.ntmps12
    go_wp2_with fail
    refine AW.out.mono ?_
    rintro e w1 ⟨rfl, hb⟩
    have FIN := Lib.hid hb
    clear hb
    go_wp2_with fail
    go_ret
    exact ⟨rfl, FIN.out⟩
  have hl' : ¬ ((20 : Int) < (ls.length : Int)) := by omega
  obtain ⟨ct, hct, hct5⟩ := idx_mod fo 20 (by decide) (by decide)
  have hct' : IntKind.i64.wrap ((IntKind.u64.wrap fo).tmod 20) = (ct : Int) := by rw [IntKind.wrap_i64, ← hct, wrap64]
  have CT5 := Lib.hid hct5
  clear hct hct5
  go_enter Try.func12, Try.ntmps12
  go_wp2_with fail
  refine AW.out.mono ?_
  rintro e w2 ⟨rfl, hb⟩
  have B3 := Lib.hid hb
  clear hb AW
  go_wp2_with fail
  refine (Mains.new_calls _).mono ?_
  rintro e w3 ⟨rfl, rfl⟩
  have M1 := Lib.hid (Row.new w2 147 M.fresh.cells)
  have K1 := Lib.hid ((Below.refl w2.heap.size w2).alloc (Nat.le_refl _) (.cells M.fresh.cells.toArray 147))
  have z1 : (w2.alloc (.cells M.fresh.cells.toArray 147)).heap.size = w2.heap.size + 1 := by simp
  have Z1 := Lib.hid z1
  clear z1
  generalize w2.alloc (.cells M.fresh.cells.toArray 147) = w3 at *
  go_wp2_with fail
  refine (Reel.new_calls w2.heap.size 131072 w3 (by have := Z1.out; omega)).mono ?_
  rintro e w4 ⟨rfl, hF, k2, z2⟩
  have M2 := Lib.hid (M1.out.below k2 M1.out.lt)
  have K2 := Lib.hid (K1.out.trans (k2.mono K1.out.size))
  have Z2 := Lib.hid z2
  rw [show room 131072 = 131072 from rfl] at hF
  have RI := Lib.hid (show Reel.Is w4 (Tight none w4) w2.heap.size w3.heap.size (R.fresh 131072) from hF.is (fun x => by
    have := Z1.out
    have := Z2.out
    rcases x with x | x
    · cases x
    · omega) (fun x => by
    have := Z2.out
    rcases x with x | x
    · cases x
    · omega) (fun k hk => .inr hk))
  clear hF k2 z2
  go_wp2_with fail
  refine (open_calls w4 none w2.heap.size w3.heap.size M.fresh (R.fresh 131072) RI.out M2.out rfl rfl (fun k e => by cases e) (Nat.zero_le _)).mono ?_
  intro e w5 hO
  obtain ⟨la, lcap, L, mb, rfl, hS⟩ := Kp.start RI.out hO (B3.out.trans (K2.out.mono B3.out.size)) B3.out.size (by have := Z1.out; have := B3.out.size; omega)
  have S5 := Lib.hid hS
  clear hO hS RI M1 M2 K1 K2 Z1 Z2 B3
  generalize w2.heap.size = B at *
  generalize w3.heap.size = b at *
  go_wp2_with fail
  go_loopw [12, 13] (fun f i wr => ∃ (j fz : Nat), j ≤ ls.length ∧ f = .int .i64 (fz : Int) ∧ i = .int .i64 (j : Int) ∧ Kp w B b L mb ((ls.take j).map (fun x => x.r)) fz (fun _ _ => True) wr) (fun _ i _ => ls.length - (intOf i).toNat)
  case atStart => exact ⟨0, 0, by omega, rfl, rfl, S5.out⟩
  case round =>
    clear S5
    obtain ⟨j, fz, hj, rfl, rfl, hS⟩ := hrel
    have SJ := Lib.hid hS
    clear hS
    by_cases hlt : j < ls.length
    · have hlt' : (j : Int) < (ls.length : Int) := by omega
      obtain ⟨ad, rfl, _, _⟩ := EL.out j hlt
      obtain ⟨x, hxx⟩ : ∃ x, ls[j] = x := ⟨_, rfl⟩
      have HX := Lib.hid hxx
      obtain ⟨vx1, vx2⟩ := VL.out x (by rw [← hxx]; exact List.getElem_mem hlt)
      have VX1 := Lib.hid vx1
      have VX2 := Lib.hid vx2
      have SN := Lib.hid (snoc_r hlt hxx)
      have LN := Lib.hid (show ((ls.take j).map (fun x => x.r)).length = j by rw [List.length_map, List.length_take]; omega)
      have GC := Lib.hid (fun wx (hk : Below w.heap.size w wx) => great_calls _ x.r wx ((vx1.keep hk).rec vx2))
      have NC := Lib.hid (fun wx (hk : Below w.heap.size w wx) => ngood_sr x wx (vx1.keep hk))
      clear hxx vx1 vx2
      obtain ⟨gr, hgr⟩ : ∃ gr, x.r.great = gr := ⟨_, rfl⟩
      obtain ⟨gd, hgd⟩ : ∃ gd, x.r.good = gd := ⟨_, rfl⟩
      rw [hgr] at GC
      rw [hgd] at NC
      have HGD := Lib.hid hgd
      clear hgr hgd
      go_wp2_with (refine load_els EL.out SJ.out.below j hlt x HX.out 58 Try.underlying58 rfl (by kernel_rfl) rfl rfl rfl ?_)
      refine (GC.out _ SJ.out.below).mono ?_
      rintro e w6 ⟨rfl, k6⟩
      have S6 := Lib.hid (SJ.out.next k6)
      clear k6 SJ GC
      cases gr
      rotate_left
      · go_wp2_with fail
        go_ret
        exact ⟨rfl, S6.out.below⟩
      go_wp2_with (refine load_els_g EL.out S6.out.below j hlt x HX.out 58 Try.underlying58 rfl (by kernel_rfl) (by rfl) rfl rfl ?_)
      refine (NC.out _ S6.out.below).mono ?_
      rintro e w7 ⟨rfl, k7⟩
      have S7 := Lib.hid (S6.out.next k7)
      clear k7 S6 NC
      cases gd
      · go_wp2_with fail
        go_ret
        exact ⟨rfl, S7.out.below⟩
      go_wp2_with (refine load_els EL.out S7.out.below j hlt x HX.out 58 Try.underlying58 rfl (by kernel_rfl) rfl rfl rfl ?_)
      refine (S7.out.add x VX1.out VX2.out HGD.out (by rw [LN.out]; omega)).mono ?_
      rintro e w8 ⟨t, rfl, hS⟩
      rw [← SN.out] at hS
      have S8 := Lib.hid hS
      clear hS S7
      have hw : wrap64 ((j : Int) + 1) = (j : Int) + 1 := by unfold wrap64; omega
      have hw2 : IntKind.i64.wrap ((j : Int) + 1) = (j : Int) + 1 := IntWalk.i64_in _ (by omega)
      by_cases hi : j = ct
      · have hi' : ((j : Int) == (ct : Int)) = true := by subst hi; simp
        have hi2 : (j : Int) = (ct : Int) := by omega
        as_aux_lemma =>
          go_wp2_with fail
          refine (S8.out.force (by rw [SN.out]; simp)).mono ?_
          rintro e w9 ⟨rfl, hS⟩
          have S9 := Lib.hid hS
          clear hS S8
          go_wp2_with fail
          go_roundw
          case rel => exact ⟨j + 1, _, by omega, by rw [SN.out, List.length_append, LN.out]; go_num, by go_num, S9.out⟩
          case measure => exact meas hlt _ (by first | exact hw | rw [hi2])
      · have hi' : ((j : Int) == (ct : Int)) = false := by simp; omega
        have hi2 : ¬ (j : Int) = (ct : Int) := by omega
        as_aux_lemma =>
          go_wp2_with fail
          go_roundw
          case rel => exact ⟨j + 1, fz, by omega, by go_num, by go_num, S8.out.drop⟩
          case measure => exact meas hlt _ (by first | exact hw | rfl)
    · obtain rfl : j = ls.length := by omega
      as_aux_lemma =>
        have hS := SJ.out
        rw [List.take_length] at hS
        have S := Lib.hid hS
        have LM := Lib.hid (show (ls.map (fun x => x.r)).length = ls.length from List.length_map ..)
        have FZ := Lib.hid hS.fz
        clear hS SJ
        go_wp2_with fail
        refine S.out.rl.off.mono ?_
        rintro e w6 ⟨rfl, hR⟩
        have R6 := Lib.hid hR
        clear hR
        go_wp2_with fail
        refine (R6.out.settle rfl ke).mono ?_
        rintro e w7 ⟨rfl, hR⟩
        have R7 := Lib.hid hR
        clear hR R6
        go_wp2_with fail
        refine (R7.out.on (by decide)).mono ?_
        rintro e w8 ⟨rfl, hR⟩
        have R8 := Lib.hid hR
        clear hR R7
        go_wp2_with fail
        refine (R8.out.open rfl rfl (fun r' h => cut_len S.out.good (by rw [LM.out]; omega) r' h)).mono ?_
        rintro e w9 ⟨l2, a2, c2, L2, rfl, hE, hV, hrb, hb⟩
        obtain ⟨j2, hj1, hj2, hj3⟩ := read_back S.out.good FZ.out hrb
        have E2 := Lib.hid hE
        have V2 := Lib.hid hV
        have B9 := Lib.hid hb
        have RB := Lib.hid hj3
        have hz : l2.length = j2 := by
          have := congrArg List.length hj3
          rw [List.length_map, List.length_take] at this
          omega
        rw [LM.out] at hj2
        obtain rfl := hz
        have GD := Lib.hid S.out.good
        clear hE hV hb hrb hj3 R8 S
        have d1 : decide ((l2.length : Int) < (fz : Int)) = false := by simp; omega
        have d2 : ¬ ((ls.length : Int) < (l2.length : Int)) := by omega
        have d3 : decide ((ls.length : Int) < (l2.length : Int)) = false := by simp; omega
        have d4 : ¬ ((l2.length : Int) < (fz : Int)) := by omega
        have d5 : ¬ l2.length < fz := by omega
        have d6 : ¬ ls.length < l2.length := by omega
        have d7 : decide (l2.length < fz) = false := by simpa using d5
        have d8 : decide (ls.length < l2.length) = false := by simpa using d6
        go_wp2_with fail
        go_loopw [19] (fun i wr => ∃ j : Nat, j ≤ l2.length ∧ i = .int .i64 (j : Int) ∧ Below w.heap.size w wr ∧ Below w9.heap.size w9 wr) (fun i _ => l2.length - (intOf i).toNat)
        case atStart => exact ⟨0, by omega, rfl, B9.out, Below.refl _ _⟩
        case round =>
          obtain ⟨i, hi, rfl, hb, hb9⟩ := hrel
          have BW := Lib.hid hb
          have KN := Lib.hid hb9
          clear hb hb9
          by_cases hlt : i < l2.length
          · have hlt' : (i : Int) < (l2.length : Int) := by omega
            have hlt2 : i < ls.length := by omega
            have hlt2' : (i : Int) < (ls.length : Int) := by omega
            obtain ⟨ad2, rfl, _, _⟩ := E2.out i hlt
            obtain ⟨ad, rfl, _, _⟩ := EL.out i hlt2
            obtain ⟨x, hxx⟩ : ∃ x, l2[i] = x := ⟨_, rfl⟩
            obtain ⟨y, hyy⟩ : ∃ y, ls[i] = y := ⟨_, rfl⟩
            have HX := Lib.hid hxx
            have HY := Lib.hid hyy
            have hxy : x.r = y.r := by
              have := congrArg (fun l => l[i]?) RB.out
              simp only [List.getElem?_map, List.getElem?_take] at this
              rw [if_pos (by omega), List.getElem?_eq_getElem hlt, List.getElem?_eq_getElem hlt2, hxx, hyy] at this
              exact Option.some.inj this
            have hyg : y.r.good = true := GD.out y.r (List.mem_map_of_mem (by rw [← hyy]; exact List.getElem_mem hlt2))
            obtain ⟨vx1, vx2⟩ := V2.out x (by rw [← hxx]; exact List.getElem_mem hlt)
            obtain ⟨vy1, vy2⟩ := VL.out y (by rw [← hyy]; exact List.getElem_mem hlt2)
            have SC := Lib.hid (fun wx (h9 : Below w9.heap.size w9 wx) (h0 : Below w.heap.size w wx) => (show Calls Try.prog 31 #[.agg x.recCells.toArray, .agg y.recCells.toArray] wx fun e w' => e = .returned (.bool true) ∧ Below wx.heap.size wx w' from by
              have h := same_calls _ _ x.r y.r wx ((vx1.keep h9).rec vx2) ((vy1.keep h0).rec vy2) (by rw [hxy]; exact small_good hyg)
              rw [hxy, same_self] at h
              exact h))
            clear hxy hyg vx1 vx2 vy1 vy2 hxx hyy
            have hw : wrap64 ((i : Int) + 1) = (i : Int) + 1 := by unfold wrap64; omega
            have hn1 : Value.int .i64 (wrap64 ((i : Int) + 1)) = .int .i64 ((i + 1 : Nat) : Int) := by rw [hw]; rfl
            have hn2 : Value.int .i64 ((i : Int) + 1) = .int .i64 ((i + 1 : Nat) : Int) := rfl
            have HN1 := Lib.hid hn1
            have HN2 := Lib.hid hn2
            clear hn1 hn2
            go_wp2_with fail
            replace BW := Lib.hid BW.out.drew
            replace KN := Lib.hid KN.out.drew
            refine Reg.start (fun w' => Below w9.heap.size w9 w' ∧ Below w.heap.size w w') (fun i => false) (by kernel_rfl) ⟨KN.out, BW.out⟩ (fun hHeld => ?_)
            generalize wr.drew = wd at *
            refine Reg.takeI 0 (v := ?_) rfl (by kernel_rfl) (by kernel_rfl) (by kernel_rfl) (by kernel_rfl) (fun _ _ _ h => h) (by rfl) ?_ hHeld ?_
            rotate_left 1
            · (intro w hSw; (try dsimp only at hSw); go_simp; try with_reducible rfl)
            try simp only [Act.put, List.setIfInBounds_toArray, List.set_cons_zero, List.set_cons_succ]
            refine Reg.takeI 1 (v := ?_) rfl (by kernel_rfl) (by kernel_rfl) (by kernel_rfl) (by kernel_rfl) (fun _ _ _ h => h) (by rfl) ?_ hHeld ?_
            rotate_left 1
            · (intro w hSw; (try dsimp only at hSw); go_simp; try with_reducible rfl)
            try simp only [Act.put, List.setIfInBounds_toArray, List.set_cons_zero, List.set_cons_succ]
            refine Reg.takeI 2 (v := ?_) rfl (by kernel_rfl) (by kernel_rfl) (by kernel_rfl) (by kernel_rfl) (fun _ _ _ h => h) (by rfl) ?_ hHeld ?_
            rotate_left 1
            · (intro w hSw; (try dsimp only at hSw); go_simp; try with_reducible rfl)
            try simp only [Act.put, List.setIfInBounds_toArray, List.set_cons_zero, List.set_cons_succ]
            refine Reg.takeI 3 (v := ?_) rfl (by kernel_rfl) (by kernel_rfl) (by kernel_rfl) (by kernel_rfl) (fun _ _ _ h => h) (by rfl) ?_ hHeld ?_
            rotate_left 1
            · (intro w hSw; (try dsimp only at hSw); go_simp; try with_reducible rfl)
            try simp only [Act.put, List.setIfInBounds_toArray, List.set_cons_zero, List.set_cons_succ]
            refine Reg.takeI 4 (v := .agg x.recCells.toArray) rfl (by kernel_rfl) (by kernel_rfl) (by kernel_rfl) (by kernel_rfl) (fun _ _ _ h => h) (by rfl) ?_ hHeld ?_
            · intro w hSw
              exact exec_elp E2.out hSw.1 i hlt [.int .i64 x.t] x.recCells [] (by rw [HX.out, List.append_nil]; rfl) 58 Try.underlying58 rfl (by kernel_rfl) (by rfl) 0 rfl (by rfl)
            try simp only [Act.put, List.setIfInBounds_toArray, List.set_cons_zero, List.set_cons_succ]
            refine Reg.takeI 5 (v := ?_) rfl (by kernel_rfl) (by kernel_rfl) (by kernel_rfl) (by kernel_rfl) (fun _ _ _ h => h) (by rfl) ?_ hHeld ?_
            rotate_left 1
            · (intro w hSw; (try dsimp only at hSw); go_simp; try with_reducible rfl)
            try simp only [Act.put, List.setIfInBounds_toArray, List.set_cons_zero, List.set_cons_succ]
            refine Reg.takeI 6 (v := ?_) rfl (by kernel_rfl) (by kernel_rfl) (by kernel_rfl) (by kernel_rfl) (fun _ _ _ h => h) (by rfl) ?_ hHeld ?_
            rotate_left 1
            · (intro w hSw; (try dsimp only at hSw); go_simp; try with_reducible rfl)
            try simp only [Act.put, List.setIfInBounds_toArray, List.set_cons_zero, List.set_cons_succ]
            refine Reg.takeI 7 (v := ?_) rfl (by kernel_rfl) (by kernel_rfl) (by kernel_rfl) (by kernel_rfl) (fun _ _ _ h => h) (by rfl) ?_ hHeld ?_
            rotate_left 1
            · (intro w hSw; (try dsimp only at hSw); go_simp; try with_reducible rfl)
            try simp only [Act.put, List.setIfInBounds_toArray, List.set_cons_zero, List.set_cons_succ]
            refine Reg.takeI 8 (v := .agg y.recCells.toArray) rfl (by kernel_rfl) (by kernel_rfl) (by kernel_rfl) (by kernel_rfl) (fun _ _ _ h => h) (by rfl) ?_ hHeld ?_
            · intro w hSw
              exact exec_elx EL.out hSw.2 i hlt2 y HY.out 58 Try.underlying58 rfl (by kernel_rfl) (by rfl) (by rfl)
            try simp only [Act.put, List.setIfInBounds_toArray, List.set_cons_zero, List.set_cons_succ]
            refine Reg.oneI 9 rfl (by kernel_rfl) (by rfl) (fun K hK => ?_)
            go_simp
            go_at_call 31
            refine (SC.out _ KN.out BW.out).mono ?_
            rintro e wf3 ⟨rfl, k⟩
            replace BW := Lib.hid (BW.out.trans (k.mono BW.out.size))
            replace KN := Lib.hid (KN.out.trans (k.mono KN.out.size))
            clear k
            go_wp2_with fail
            refine hK.out _ _ (fun _ => ⟨KN.out, BW.out⟩) (fun hHeld => ?_)
            replace hHeld := hHeld (by first | rfl | trivial)
            clear hK K
            try simp only [Act.put, List.setIfInBounds_toArray, List.set_cons_zero, List.set_cons_succ]
            refine Reg.takeI 10 (v := ?_) rfl (by kernel_rfl) (by kernel_rfl) (by kernel_rfl) (by kernel_rfl) (fun _ _ _ h => h) (by rfl) ?_ hHeld ?_
            rotate_left 1
            · (intro w hSw; (try dsimp only at hSw); go_simp; try with_reducible rfl)
            try simp only [Act.put, List.setIfInBounds_toArray, List.set_cons_zero, List.set_cons_succ]
            refine Reg.doneI (by kernel_rfl) ?_
            go_wp2_with fail
            go_roundw
            case rel => exact ⟨i + 1, hlt, by first | exact HN2.out | exact HN1.out, BW.out, KN.out⟩
            case measure => exact meas hlt _ (by first | exact hw | rfl)
          · obtain rfl : i = l2.length := by omega
            go_wp2_with fail
            go_ret
            exact ⟨rfl, BW.out⟩
theorem keeps_row (a : Option Addr) (n c : Nat) (xs : List YRec) (fo ke : Int) (w : World) (h : SlcIn cRec w a n c xs) (hf : (Lit.int .i64 fo).wf = true) (hk : (Lit.int .i64 ke).wf = true) :
    Calls Try.prog 12 #[.slice a n c, .int .i64 fo, .int .i64 ke] w fun e w' => e = .returned (.bool true) ∧ Below w.heap.size w w' := by
  obtain ⟨l, rfl, hn, hE, hV⟩ := recs_in h
  exact keeps_calls fo ke a c l w hE hV hn
end Go.Proofs.Ytcfjooeagfollaa.Dia
