/- Merged by merge.py out of DiaI, DiaP, DiaD, DiaR, DiaX, DiaT, DiaV. -/
import Derived.Test.YtcfjooeagfollaaDiaMB
import Derived.Test.YtcfjooeagfollaaNoteRefS
import Derived.Test.YtcfjooeagfollaaCod
import Derived.LoopTactic
import Derived.OwnWalk
import Derived.Test.YtcfjooeagfollaaNoteRefB
import Derived.Test.YtcfjooeagfollaaDiaMA
/- Records that came in; how a log's bytes read behind a cut; elements of rows in drawn regions. -/
namespace Go.Proofs.Ytcfjooeagfollaa.Dia
open Go.RowKit Go.Proofs.Ytcfjooeagfollaa.Mem Go.Proofs.Ytcfjooeagfollaa.Bytes Go.Proofs.Ytcfjooeagfollaa.Mains Go.Proofs.Ytcfjooeagfollaa.Reel Go.Proofs.Ytcfjooeagfollaa.Note
set_option linter.unusedSimpArgs false
set_option linter.unusedVariables false
set_option maxRecDepth 20000

/-! ### a record that came in -/
abbrev cImg : Cod (Int × ByteArray × Unit) := .pair (.int .i64) (.pair .str .unit)
abbrev cTwo : Cod (Int × Int × Unit) := .pair (.int .i64) (.pair (.int .i64) .unit)
abbrev cUndo : Cod (Int × Int × ByteArray × ByteArray × Unit) := .pair (.int .i64) (.pair (.int .i64) (.pair .str (.pair .str .unit)))
abbrev cRec := Cod.pair (.int .i64) (.pair (.int .i64) (.pair (.int .i64) (.pair (.int .i64) (.pair cImg.slice (.pair cUndo (.pair cTwo.slice (.pair cTwo.slice .unit)))))))
abbrev YRec : Type := Int × Int × Int × Int × List (Int × ByteArray × Unit) × (Int × Int × ByteArray × ByteArray × Unit) × List (Int × Int × Unit) × List (Int × Int × Unit) × Unit
def toRec (y : YRec) : Rec := ⟨y.1, y.2.1, y.2.2.1, y.2.2.2.1, y.2.2.2.2.2.1.1, y.2.2.2.2.2.1.2.1, y.2.2.2.2.2.1.2.2.1, y.2.2.2.2.2.1.2.2.2.1, y.2.2.2.2.1.map (fun x => (x.1, x.2.1)), y.2.2.2.2.2.2.1.map (fun x => (x.1, x.2.1)), y.2.2.2.2.2.2.2.1.map (fun x => (x.1, x.2.1))⟩
theorem add_two1 (ad : Addr) (k : Nat) (hs : (ad.add k).spot = none ∨ k ≠ 0 ∨ True) : ad.add (k + 1) = ⟨(ad.add k).block, (ad.add k).off + 1, none⟩ := by
  unfold Addr.add
  split <;> split <;> simp_all <;> omega
theorem two_pairs {Y : Type} {g : Y → Value} {c : Cod (Int × Y × Unit)} (hsz : c.sz = 2) (hR : ∀ w cs x, c.R w cs x → cs = [.int .i64 x.1, g x.2.1]) {w : World} {a : Option Addr} {n : Nat} {xs : List (Int × Y × Unit)} (h : c.Row w a n xs) (hn : n ≤ 9223372036854775807) : Pairs g w a n (xs.map fun x => (x.1, x.2.1)) := by
  refine ⟨by rw [List.length_map]; exact h.1, hn, fun i x hx => ?_⟩
  have hi : i < xs.length := by
    rcases Nat.lt_or_ge i xs.length with h' | h'
    · exact h'
    · rw [List.getElem?_eq_none (by simpa using h')] at hx; cases hx
  rw [List.getElem?_map, List.getElem?_eq_getElem hi] at hx
  cases hx
  obtain ⟨ad, cs, ha, _, hc, hr⟩ := h.2 i hi
  rw [hsz] at hc
  rw [hR _ _ _ hr] at hc
  refine ⟨ad, ha, by simpa using hc 0 (by omega), ?_⟩
  have h1 := hc 1 (by omega)
  rw [add_two1 ad (i * 2) (.inr (.inr trivial))] at h1
  simpa using h1
theorem rec_in {w : World} {cs : List Value} {y : YRec} (h : cRec.R w cs y) : HasRec w (.agg cs.toArray) (toRec y) := by
  obtain ⟨k, d, p, n, ps, ⟨uk, ut, ky, vl, _⟩, os, ds, _⟩ := y
  obtain ⟨_, _, rfl, ⟨rfl, _⟩, _, _, rfl, ⟨rfl, _⟩, _, _, rfl, ⟨rfl, _⟩, _, _, rfl, ⟨rfl, _⟩, _, _, rfl, ⟨a0, n0, c0, rfl, h1, h2, h3, h4⟩, _, _, rfl, ⟨_, _, rfl, ⟨rfl, _⟩, _, _, rfl, ⟨rfl, _⟩, _, _, rfl, ⟨rfl, _⟩, _, _, rfl, ⟨rfl, _⟩, rfl⟩, _, _, rfl, ⟨a1, n1, c1, rfl, g1, g2, g3, g4⟩, _, _, rfl, ⟨a2, n2, c2, rfl, k1, k2, k3, k4⟩, rfl⟩ := h
  unfold maxLen at h2 g2 k2
  refine ⟨a0, n0, c0, a1, n1, c1, a2, n2, c2, rfl, ?_, ?_, ?_, h1, g1, k1⟩
  · exact two_pairs rfl (fun w cs x hx => by obtain ⟨_, _, rfl, ⟨rfl, _⟩, _, _, rfl, ⟨rfl, _⟩, rfl⟩ := hx; rfl) h4 (by omega)
  · exact two_pairs rfl (fun w cs x hx => by obtain ⟨_, _, rfl, ⟨rfl, _⟩, _, _, rfl, ⟨rfl, _⟩, rfl⟩ := hx; rfl) g4 (by omega)
  · exact two_pairs rfl (fun w cs x hx => by obtain ⟨_, _, rfl, ⟨rfl, _⟩, _, _, rfl, ⟨rfl, _⟩, rfl⟩ := hx; rfl) k4 (by omega)
theorem els_ex {α β : Type} {enc : β → List Value} {P : β → Prop} {c : Cod α} {w : World} {a : Option Addr} {n : Nat} {xs : List α} (h : c.Row w a n xs) (h0 : 0 < c.sz) (hR : ∀ cs x, c.R w cs x → ∃ y, cs = enc y ∧ P y) :
    ∃ ys : List β, ys.length = n ∧ Els enc c.sz w a ys ∧ ∀ y ∈ ys, P y := by
  have key : ∀ i : Fin n, ∃ y : β, P y ∧ ∃ ad, a = some ad ∧ ad.block < w.heap.size ∧ ∀ w', Below w.heap.size w w' → ∀ j v, (enc y)[j]? = some v → w'.cell? (ad.add (i.val * c.sz + j)) = some v := fun i => by
    obtain ⟨ad, cs, ha, hl, hc, hr⟩ := h.2 i.val (by have := h.1; have := i.isLt; omega)
    obtain ⟨y, he, hy⟩ := hR _ _ hr
    refine ⟨y, hy, ad, ha, hl.elim (fun e => by omega) id, fun w' hb j v hv => ?_⟩
    rw [← he] at hv
    have hj : j < c.sz := by
      obtain ⟨hj, _⟩ := List.getElem?_eq_some_iff.1 hv
      rwa [c.len hr] at hj
    have h1 := (hc j hj).trans hv
    rw [hb.cell (World.block_lt_of_cell? w _ h1)]
    exact h1
  obtain ⟨f, hf⟩ := Classical.axiomOfChoice key
  refine ⟨List.ofFn f, List.length_ofFn, fun i hi => ?_, fun y hy => ?_⟩
  · rw [List.length_ofFn] at hi
    obtain ⟨_, ad, ha, hl, hc⟩ := hf ⟨i, hi⟩
    refine ⟨ad, ha, hl, fun w' hb j v hv => hc w' hb j v ?_⟩
    rw [List.getElem_ofFn] at hv
    exact hv
  · obtain ⟨i, hi, rfl⟩ := List.getElem_of_mem hy
    rw [List.getElem_ofFn]
    exact (hf _).1

theorem sr_in {w : World} {cs : List Value} {y : YRec} (h : cRec.R w cs y) : ∃ x : Sr, cs = x.recCells ∧ x.Has w ∧ x.Caps := by
  obtain ⟨a0, n0, c0, a1, n1, c1, a2, n2, c2, e, h0, h1, h2, z0, z1, z2⟩ := rec_in h
  obtain rfl := h0.1
  obtain rfl := h1.1
  obtain rfl := h2.1
  refine ⟨⟨0, toRec y, a0, c0, a1, c1, a2, c2⟩, ?_, ⟨h0, h1, h2⟩, z0, z1, z2⟩
  injection e with e
  have h2 := congrArg Array.toList e
  have h3 : cs = Rec.cells (toRec y) (.slice a0 (toRec y).pages.length c0) (.slice a1 (toRec y).opens.length c1) (.slice a2 (toRec y).dirts.length c2) := by simpa using h2
  exact h3
theorem recs_in {w : World} {a : Option Addr} {n cap : Nat} {xs : List YRec} (h : SlcIn cRec w a n cap xs) : ∃ l : List Sr, l.length = n ∧ n ≤ 9223372036854775807 ∧ Els Sr.recCells 11 w a l ∧ ∀ x ∈ l, x.Has w ∧ x.Caps := by
  obtain ⟨l, h1, h2, h3⟩ := els_ex (enc := Sr.recCells) h.2.2.2 (by decide) (fun cs x hx => sr_in hx)
  exact ⟨l, h1, h.len.2, h2, h3⟩
/-! ### an element of a row, or a part of one, is loaded in a drawn region -/
theorem exec_elx {P : Program} {o : Oper} {a : Act} {w0 w : World} {α : Type} {enc : α → List Value} {sz : Nat} {ad : Addr} {l : List α} (hE : Els enc sz w0 (some ad) l) (hb : Below w0.heap.size w0 w) (i : Nat) (hi : i < l.length) (x : α) (hx : l[i] = x) (ty : TypeId) {d : TypeDesc} (hu : P.underlying ty = some d) (hd : d.isRow = true) (hs : (P.info? ty).map (·.size) = some (enc x).length)
    {y : Operand} (ho : o.op = .load ty y) (hy : a.eval y = .pointer (some (ad.add (i * sz)))) : (execOp a.eval o).run P w = .ok (.value (.agg (enc x).toArray)) w := by
  subst hx
  obtain ⟨ad', e, _, hc⟩ := hE i hi
  cases e
  have hl : (loadCells (ad.add (i * sz)) (enc l[i]).length).run P w = .ok (enc l[i]).toArray w :=
    run_loadCells_list (P := P) w _ _ (fun j v hv => by rw [add_two]; exact hc w hb j v hv)
  have hv : (loadVar ty (ad.add (i * sz))).run P w = .ok (.agg (enc l[i]).toArray) w := by
    cases hq : P.info? ty with
    | none => simp [hq] at hs
    | some i0 =>
      have hs' : i0.size = (enc l[i]).length := by simpa [hq] using hs
      have hagg : (isAgg ty).run P w = .ok true w := by
        unfold isAgg
        rw [Sem.run_bind, run_underlying hu w]
        cases d <;> simp_all
      simp [loadVar, Sem.run_bind, hagg, sizeOf, typeInfo, hq, hs', hl]
  unfold execOp
  simp only [ho, hy, Instr.loadAt, Instr.sureAddr, Sem.run_bind, Sem.run_pure, Result.andThen_ok, hv]
theorem exec_elp {P : Program} {o : Oper} {a : Act} {w0 w : World} {α : Type} {enc : α → List Value} {sz : Nat} {ad : Addr} {l : List α} (hE : Els enc sz w0 (some ad) l) (hb : Below w0.heap.size w0 w) (i : Nat) (hi : i < l.length) (pre cs post : List Value) (hx : enc l[i] = pre ++ (cs ++ post)) (ty : TypeId) {d : TypeDesc} (hu : P.underlying ty = some d) (hd : d.isRow = true) (hs : (P.info? ty).map (·.size) = some cs.length)
    {y : Operand} (ho : o.op = .load ty y) (k : Nat) (hk : pre.length = k + 1) (hy : a.eval y = .pointer (some ⟨(ad.add (i * sz)).block, (ad.add (i * sz)).off + (k + 1), none⟩)) : (execOp a.eval o).run P w = .ok (.value (.agg cs.toArray)) w := by
  rw [els_field] at hy
  obtain ⟨ad', e, _, hc⟩ := hE i hi
  cases e
  have hl : (loadCells (ad.add (i * sz + (k + 1))) cs.length).run P w = .ok cs.toArray w :=
    run_loadCells_list (P := P) w _ _ (fun j v hv => by
      rw [add_two, Nat.add_assoc]
      refine hc w hb _ v ?_
      obtain ⟨hj, _⟩ := List.getElem?_eq_some_iff.1 hv
      rw [hx, ← hk, List.getElem?_append_right (by omega), Nat.add_sub_cancel_left, List.getElem?_append_left hj]
      exact hv)
  have hv : (loadVar ty (ad.add (i * sz + (k + 1)))).run P w = .ok (.agg cs.toArray) w := by
    cases hq : P.info? ty with
    | none => simp [hq] at hs
    | some i0 =>
      have hs' : i0.size = cs.length := by simpa [hq] using hs
      have hagg : (isAgg ty).run P w = .ok true w := by
        unfold isAgg
        rw [Sem.run_bind, run_underlying hu w]
        cases d <;> simp_all
      simp [loadVar, Sem.run_bind, hagg, sizeOf, typeInfo, hq, hs', hl]
  unfold execOp
  simp only [ho, hy, Instr.loadAt, Instr.sureAddr, Sem.run_bind, Sem.run_pure, Result.andThen_ok, hv]
theorem load_els_g {P : Program} {ops : Array Oper} {rest : List Oper} {o : Oper} {a : Act} {w0 w : World} {Q : Exit → Act → World → Prop} {α : Type} {enc : α → List Value} {sz : Nat} {ad : Addr} {l : List α} (hE : Els enc sz w0 (some ad) l) (hb : Below w0.heap.size w0 w) (i : Nat) (hi : i < l.length) (x : α) (hx : l[i] = x) (ty : TypeId) {d : TypeDesc} (hu : P.underlying ty = some d) (hd : d.isRow = true) (hs : (P.info? ty).map (·.size) = some (enc x).length)
    (hw : Region.wanted o (yielded ops a.tmps) = true) {y : Operand} (ho : o.op = .load ty y) (hy : a.eval y = .pointer (some (ad.add (i * sz))))
    (h : wpList P ops Q rest (a.put o.dst (.agg (enc x).toArray)) w) : wpList P ops Q (o :: rest) a w := by
  subst hx
  obtain ⟨ad', e, _, hc⟩ := hE i hi
  cases e
  have hl : (loadCells (ad.add (i * sz)) (enc l[i]).length).run P w = .ok (enc l[i]).toArray w :=
    run_loadCells_list (P := P) w _ _ (fun j v hv => by rw [add_two]; exact hc w hb j v hv)
  have hv : (loadVar ty (ad.add (i * sz))).run P w = .ok (.agg (enc l[i]).toArray) w := by
    cases hq : P.info? ty with
    | none => simp [hq] at hs
    | some i0 =>
      have hs' : i0.size = (enc l[i]).length := by simpa [hq] using hs
      have hagg : (isAgg ty).run P w = .ok true w := by
        unfold isAgg
        rw [Sem.run_bind, run_underlying hu w]
        cases d <;> simp_all
      simp [loadVar, Sem.run_bind, hagg, sizeOf, typeInfo, hq, hs', hl]
  refine wpList_step fun _ hK => ?_
  rw [if_pos hw]
  unfold Oper.wp execOp
  simp only [ho, hy, Instr.loadAt, Instr.sureAddr, Sem.run_bind, Sem.run_pure, Result.andThen_ok, hv]
  exact hK _ _ h
/-! ### what is read behind a cut -/
theorem nRead_app (r : Rec) (hg : r.good = true) (t : List UInt8) : nRead (r.bytes ++ t) = some (r, r.bytes.length) := (nRead_iff _ _ _).2 ⟨hg, rfl, t, rfl⟩
theorem nRead_cut (r : Rec) (hg : r.good = true) (m : Nat) (hm : m < r.bytes.length) : nRead (r.bytes.take m) = none := by
  cases h : nRead (r.bytes.take m) with
  | none => rfl
  | some p =>
    obtain ⟨q, k⟩ := p
    obtain ⟨hq, _, t, ht⟩ := (nRead_iff _ _ _).1 h
    have e : r.bytes = q.bytes ++ (t ++ r.bytes.drop m) := by
      rw [← List.append_assoc, ← ht, List.take_append_drop]
    have h1 := nRead_app r hg []
    rw [List.append_nil, e, nRead_app q hq, ← e] at h1
    have h2 := congrArg (fun o => o.map Prod.snd) h1
    simp only [Option.map_some, Option.some.injEq] at h2
    have h3 := congrArg List.length ht
    rw [List.length_append, List.length_take] at h3
    omega
theorem scan_cut : ∀ (rs : List Rec) (hg : ∀ x ∈ rs, x.good = true) (m n : Nat) (hn : ((rs.flatMap Rec.bytes).take m).length ≤ n),
    ∃ j, j ≤ rs.length ∧ (scanL n ((rs.flatMap Rec.bytes).take m)).1 = rs.take j ∧ ∀ i, i ≤ rs.length → ((rs.take i).flatMap Rec.bytes).length ≤ m → i ≤ j
  | [], _, m, n, _ => ⟨0, Nat.le_refl _, by
      have : nRead [] = none := by
        cases h : nRead [] with
        | none => rfl
        | some p => have := nRead_len h; simp at this; omega
      simp [scanL_none this], fun i hi _ => hi⟩
  | x :: rs, hg, m, n, hn => by
    have hx := hg x List.mem_cons_self
    rw [List.flatMap_cons] at hn ⊢
    rcases Nat.lt_or_ge m x.bytes.length with hm | hm
    · have e : (x.bytes ++ rs.flatMap Rec.bytes).take m = x.bytes.take m := by rw [List.take_append]; simp; omega
      refine ⟨0, Nat.zero_le _, ?_, fun i hi h => ?_⟩
      · rw [e, scanL_none (nRead_cut x hx m hm)]
        rfl
      · cases i with
        | zero => exact Nat.le_refl _
        | succ i =>
          rw [List.take_succ_cons, List.flatMap_cons, List.length_append] at h
          omega
    · have e : (x.bytes ++ rs.flatMap Rec.bytes).take m = x.bytes ++ (rs.flatMap Rec.bytes).take (m - x.bytes.length) := by
        rw [List.take_append, List.take_of_length_le hm]
      rw [e] at hn ⊢
      rw [List.length_append] at hn
      obtain ⟨j, h1, h2, h3⟩ := scan_cut rs (fun y hy => hg y (List.mem_cons_of_mem _ hy)) (m - x.bytes.length) n (by omega)
      refine ⟨j + 1, by rw [List.length_cons]; omega, ?_, fun i hi h => ?_⟩
      · rw [scanL_some (nRead_app x hx _) (by rw [List.length_append]; exact hn), List.drop_left' rfl, h2, List.take_succ_cons]
      · cases i with
        | zero => exact Nat.zero_le _
        | succ i =>
          rw [List.take_succ_cons, List.flatMap_cons, List.length_append] at h
          have := h3 i (by rw [List.length_cons] at hi; omega) (by omega)
          omega
theorem stamped_snd : ∀ (k : Nat) (l : List Rec), (stamped k l).map Prod.snd = l
  | _, [] => rfl
  | k, r :: l => by rw [stamped, List.map_cons, stamped_snd]
theorem flat_le : ∀ (rs : List Rec), (∀ x ∈ rs, x.good = true) → (rs.flatMap Rec.bytes).length ≤ 4300 * rs.length
  | [], _ => by simp
  | x :: l, h => by
    have h1 := flat_le l (fun y hy => h y (List.mem_cons_of_mem _ hy))
    have h2 := (good_bytes (h x List.mem_cons_self)).2
    rw [List.flatMap_cons, List.length_append, List.length_cons]
    omega
theorem small_of {r : Rec} (h : r.great = false) : Small r := by
  simp only [Rec.great, Bool.or_eq_false_iff, decide_eq_false_iff_not] at h
  obtain ⟨⟨⟨⟨⟨h1, h2⟩, h3⟩, h4⟩, h5⟩, h6⟩ := h
  exact ⟨by omega, by omega, by omega, by omega, by omega⟩
theorem small_good {r : Rec} (h : r.good = true) : Small r := by
  obtain ⟨_, _, _, _, _, _, ks, vs, c1, c2, c3, _⟩ := good_nums h
  exact ⟨by omega, by omega, by omega, by omega, by omega⟩
theorem same_self (r : Rec) : r.same r = true := Rec.same_iff.2 rfl
end Go.Proofs.Ytcfjooeagfollaa.Dia

/- The law DiaryKeeps: a log to which records are added, forced, cut off and opened again, step by step. -/
namespace Go.Proofs.Ytcfjooeagfollaa.Dia
open Go.RowKit Go.Proofs.Ytcfjooeagfollaa.Mem Go.Proofs.Ytcfjooeagfollaa.Bytes Go.Proofs.Ytcfjooeagfollaa.Mains Go.Proofs.Ytcfjooeagfollaa.Reel Go.Proofs.Ytcfjooeagfollaa.Note
set_option linter.unusedSimpArgs false
set_option linter.unusedVariables false
set_option maxRecDepth 20000

/-- A log with power, all of it made since w1; its bytes are those of rs, of which fz at least are safe. -/
structure Kp (w1 : World) (B b L mb : Nat) (rs : List Rec) (fz : Nat) (X : R → (Int → Option Rec) → Prop) (wr : World) : Prop where
  all : ∃ d r n g last, Dia wr d B b L mb M.fresh r n g last 0 ∧ (∀ k, d = some k → w1.heap.size ≤ k) ∧ n ≤ rs.length ∧ r.data = rs.flatMap Rec.bytes ∧ r.size = 131072 ∧ (∀ k, (r.data.length : Int) < k → g k = none) ∧ ((rs.take fz).flatMap Rec.bytes).length ≤ r.safe ∧ X r g
  fz : fz ≤ rs.length
  good : ∀ x ∈ rs, x.good = true
  below : Below w1.heap.size w1 wr
  high : w1.heap.size ≤ B ∧ w1.heap.size ≤ b ∧ w1.heap.size ≤ L ∧ w1.heap.size ≤ mb
/-- What stands in a log behind an add: the record at its stamp. -/
def Put (t : Int) (q : Rec) (r : R) (g : Int → Option Rec) : Prop := g t = some q ∧ t - 1 + (q.size : Int) = (r.data.length : Int) ∧ 1 ≤ t ∧ t ≤ 1000000
section
variable {w1 wr : World} {B b L mb fz : Nat} {rs : List Rec} {X : R → (Int → Option Rec) → Prop}
theorem Kp.next (h : Kp w1 B b L mb rs fz X wr) {w' : World} (hb : Below wr.heap.size wr w') : Kp w1 B b L mb rs fz X w' := by
  obtain ⟨d, r, n, g, last, h1, h2⟩ := h.all
  exact ⟨⟨d, r, n, g, last, h1.below hb, h2⟩, h.fz, h.good, h.below.trans (hb.mono h.below.size), h.high⟩
theorem Kp.drop (h : Kp w1 B b L mb rs fz X wr) : Kp w1 B b L mb rs fz (fun _ _ => True) wr := by
  obtain ⟨d, r, n, g, last, h1, h2, h3, h4, h5, h6, h7, _⟩ := h.all
  exact ⟨⟨d, r, n, g, last, h1, h2, h3, h4, h5, h6, h7, trivial⟩, h.fz, h.good, h.below, h.high⟩
theorem Kp.add (h : Kp w1 B b L mb rs fz X wr) (x : Sr) (hx : x.Has w1) (hc : x.Caps) (hg : x.r.good = true) (hN : rs.length < 20) : Calls Try.prog 52 #[.pointer (some ⟨L, 0, none⟩), .agg x.recCells.toArray] wr fun e w' => ∃ t, e = .returned (.tuple #[.int .i64 t, .int .i64 0]) ∧ Kp w1 B b L mb (rs ++ [x.r]) fz (Put t x.r) w' := by
  obtain ⟨d, r, n, g, last, h1, h2, h3, h4, h5, h6, h7, _⟩ := h.all
  obtain ⟨a1, a2, a3, a4⟩ := h.high
  have hs := h.below.size
  have hfl := flat_le rs h.good
  have hdl : r.data.length = (rs.flatMap Rec.bytes).length := congrArg List.length h4
  obtain ⟨gb1, gb2⟩ := good_bytes hg
  have gb8 := bytes_length x.r
  have hoff : x.Off (Own d B b L mb) := hx.off.mono (fun k e => by
    show w1.heap.size ≤ k
    rcases e with e | e | e | e | e
    · exact h2 k e
    · omega
    · omega
    · omega
    · omega)
  refine (add_calls h1 x (hx.keep h.below) hc hoff hg (by omega) rfl rfl (h6 _ (by omega)) (by omega)).mono ?_
  rintro e w' ⟨rfl, ⟨d', hD, hd⟩, hcg⟩
  have hlen : (r.add (bs x.r.bytes)).data.length = r.data.length + x.r.bytes.length := by
    show (r.data ++ x.r.bytes).length = _
    rw [List.length_append]
  refine ⟨_, rfl, ⟨d', _, n + 1, _, _, hD, fun j e => ?_, by rw [List.length_append]; simp; omega, ?_, h5, fun j hj => ?_, ?_, ?_, ?_, by omega, by omega⟩, by rw [List.length_append]; have := h.fz; omega, fun y hy => ?_, h.below.trans (hcg.below (B := w1.heap.size) hs (fun i e => ?_)), h.high⟩
  · rcases hd j e with e | e
    · exact h2 j e
    · omega
  · show r.data ++ x.r.bytes = _
    rw [h4, List.flatMap_append, List.flatMap_cons, List.flatMap_nil, List.append_nil]
  · have hj : ((r.add (bs x.r.bytes)).data.length : Int) < j := hj
    rw [hlen] at hj
    show (if j = _ then _ else _) = _
    rw [if_neg (by omega)]
    exact h6 j (by omega)
  · rw [List.take_append_of_le_length h.fz]
    exact h7
  · exact if_pos rfl
  · rw [hlen]; omega
  · rcases List.mem_append.1 hy with hy | hy
    · exact h.good y hy
    · rw [List.mem_singleton.1 hy]; exact hg
  · rcases e with (e | e | e | e) | e | e
    · omega
    · omega
    · exact h2 i e
    · omega
    · omega
    · omega
theorem Kp.force {t : Int} {q : Rec} (h : Kp w1 B b L mb rs fz (Put t q) wr) (hq : q ∈ rs) : Calls Try.prog 56 #[.pointer (some ⟨L, 0, none⟩), .int .i64 t] wr fun e w' => e = .returned (.int .i64 0) ∧ Kp w1 B b L mb rs rs.length (fun _ _ => True) w' := by
  obtain ⟨d, r, n, g, last, h1, h2, h3, h4, h5, h6, h7, p1, p2, p3, p4⟩ := h.all
  obtain ⟨a1, a2, a3, a4⟩ := h.high
  have hs := h.below.size
  have hqs := good_size (h.good q hq)
  have hwf : (Lit.int .i64 t).wf = true := by simp [Lit.wf, IntKind.min, IntKind.max, IntKind.signed, IntKind.bits]; omega
  refine (force_calls h1 t hwf (fun q' e => by rw [p1] at e; cases e; exact ⟨p3, p4, by omega⟩) (by decide)).mono ?_
  rintro e w' ⟨rfl, ⟨d', hD, hd⟩, hcg⟩
  have hok := h1.reel.2.2.2.2.1
  rw [p1] at hD ⊢
  have e1 : forceE M.fresh r t (some q) = 0 := by unfold forceE; simp; intro _; rfl
  have e2 : forceM M.fresh r t (some q) = M.fresh := by unfold forceM; simp; intro _; rfl
  have e3 : (forceR M.fresh r t (some q)).data = r.data ∧ (forceR M.fresh r t (some q)).size = r.size ∧ r.data.length ≤ (forceR M.fresh r t (some q)).safe := by
    unfold forceR
    rw [if_neg (by simp)]
    split
    · rename_i hsf
      refine ⟨rfl, rfl, ?_⟩
      have := of_decide_eq_true hsf
      omega
    · exact ⟨rfl, rfl, Nat.le_refl _⟩
  rw [e2] at hD
  rw [e1]
  generalize forceR M.fresh r t (some q) = r' at hD e3
  obtain ⟨f1, f2, f3⟩ := e3
  refine ⟨rfl, ⟨d', r', n, g, last, hD, fun j e => ?_, h3, f1.trans h4, f2.trans h5, by rw [f1]; exact h6, ?_, trivial⟩, Nat.le_refl _, h.good, h.below.trans (hcg.below (B := w1.heap.size) hs (fun i e => ?_)), h.high⟩
  · rcases hd j e with e | e
    · exact h2 j e
    · omega
  · rw [List.take_length, ← h4]; exact f3
  · rcases e with e | e | e | e
    · omega
    · omega
    · exact h2 i e
    · omega
end
theorem Kp.start {w1 w : World} {B b : Nat} (hR : Reel.Is w (Tight none w) B b (R.fresh 131072)) {e : Ending} {w' : World} (h : OpenPost w none B b M.fresh (R.fresh 131072) [] e w') (hb : Below w1.heap.size w1 w) (hB : w1.heap.size ≤ B) (hbb : w1.heap.size ≤ b) :
    ∃ la lcap L mb, e = .returned (.tuple #[.pointer (some ⟨L, 0, none⟩), .slice la 0 lcap, .int .i64 0]) ∧ Kp w1 B b L mb [] 0 (fun _ _ => True) w' := by
  obtain ⟨ls, la, lcap, L, mb, n, d', rfl, hE, hV, hst, hD, hc, hL, hmb, hn, ht⟩ := h
  obtain rfl : ls = [] := by
    have := congrArg List.length hst
    rw [List.length_map] at this
    exact List.eq_nil_of_length_eq_zero this
  obtain rfl : n = 0 := hn
  have hs := hb.size
  refine ⟨la, lcap, L, mb, rfl, ⟨⟨d', R.fresh 131072, 0, _, _, hD, fun k e => ?_, Nat.le_refl _, rfl, rfl, fun k _ => rfl, Nat.le_refl _, trivial⟩, Nat.le_refl _, fun x hx => (by cases hx), hb.trans (hc.below (B := w1.heap.size) hs (fun i e => ?_)), hB, hbb, by omega, by omega⟩⟩
  · rcases ht k e with h | h
    · cases h
    · omega
  · rcases e with e | e | e | e
    · omega
    · omega
    · cases e
    · omega
/-- A reel and its power, made since w1. -/
structure Rl (w1 : World) (B b : Nat) (m : M) (P : R → Prop) (wr : World) : Prop where
  all : ∃ d r, Reel.Is wr (Tight d wr) B b r ∧ (∀ k, d = some k → w1.heap.size ≤ k ∧ k < wr.heap.size) ∧ P r
  pow : Row wr B 147 m.cells
  below : Below w1.heap.size w1 wr
  high : w1.heap.size ≤ B ∧ w1.heap.size ≤ b
section
variable {w1 wr : World} {B b L mb fz : Nat} {rs : List Rec} {m : M} {P : R → Prop} {X : R → (Int → Option Rec) → Prop}
/-- What is known of the bytes. -/
def Dat (rs : List Rec) (fz : Nat) (r : R) : Prop := r.data = rs.flatMap Rec.bytes ∧ ((rs.take fz).flatMap Rec.bytes).length ≤ r.safe ∧ r.safe ≤ r.data.length
theorem Kp.rl (h : Kp w1 B b L mb rs fz X wr) : Rl w1 B b M.fresh (Dat rs fz) wr := by
  obtain ⟨d, r, n, g, last, h1, h2, h3, h4, h5, h6, h7, _⟩ := h.all
  exact ⟨⟨d, r, h1.reel, fun k e => ⟨h2 k e, (h1.hd k e).1⟩, h4, h7, h1.reel.2.2.2.2.1.1⟩, h1.pow, h.below, h.high.1, h.high.2.1⟩
theorem Rl.step (h : Rl w1 B b m P wr) {m' : M} {w' : World} (hM : Row w' B 147 m'.cells) (hc : Chg (One B) wr w') : Rl w1 B b m' P w' := by
  obtain ⟨d, r, h1, h2, h3⟩ := h.all
  have hs := h.below.size
  refine ⟨⟨d, r, is_chg h1 h.pow.lt hc (fun e => h1.1 e.symm) (fun k e hk => h1.2.1 (.inl (by rw [e]; exact congrArg some hk))), fun k e => ⟨(h2 k e).1, Nat.lt_of_lt_of_le (h2 k e).2 hc.size⟩, h3⟩, hM, h.below.trans (hc.below (B := w1.heap.size) hs (fun i e => ?_)), h.high⟩
  have e : i = B := e
  have := h.high
  omega
theorem Rl.off (h : Rl w1 B b m P wr) : Calls Try.prog 33 #[.pointer (some ⟨B, 0, none⟩)] wr fun e w' => e = .returned (.tuple #[]) ∧ Rl w1 B b m.offed P w' := by
  refine (off_calls B m wr h.pow).mono ?_
  rintro e w' ⟨rfl, hM, hc⟩
  exact ⟨rfl, h.step hM hc⟩
theorem Rl.on (h : Rl w1 B b m P wr) (hb : 0 ≤ m.boots ∧ m.boots ≤ 4611686018427387904) : Calls Try.prog 68 #[.pointer (some ⟨B, 0, none⟩)] wr fun e w' => e = .returned (.tuple #[]) ∧ Rl w1 B b m.oned P w' := by
  refine (on_calls B m wr h.pow hb).mono ?_
  rintro e w' ⟨rfl, hM, hc⟩
  exact ⟨rfl, h.step hM hc⟩
theorem Rl.settle (h : Rl w1 B b m P wr) (hon : m.on = false) (k : Int) : Calls Try.prog 67 #[.pointer (some ⟨b, 0, none⟩), .int .i64 k] wr fun e w' => e = .returned (.int .i64 0) ∧ Rl w1 B b m (fun r' => ∃ r, P r ∧ r' = r.cut (kept r k)) w' := by
  obtain ⟨d, r, h1, h2, h3⟩ := h.all
  have hs := h.below.size
  refine (settle_calls (Tight d wr) B b m r k wr h1 h.pow).mono ?_
  rintro e w' ⟨rfl, hR, hM, hc⟩
  have e1 : settleErr m = 0 := by unfold settleErr; rw [hon]; rfl
  have e2 : settleR m r k = r.cut (kept r k) := by unfold settleR; rw [hon]; rfl
  rw [e2] at hR
  rw [e1]
  obtain ⟨d', hd', hT⟩ := is_tight hR
  have hlow : ∀ k, Tight d wr k → w1.heap.size ≤ k := fun k e => by
    rcases e with e | e
    · exact (h2 k e).1
    · omega
  refine ⟨rfl, ⟨d', _, hT, fun k e => ⟨hlow k (hd' k e).1, (hd' k e).2⟩, r, h3, rfl⟩, hM, h.below.trans (hc.below (B := w1.heap.size) hs (fun i e => ?_)), h.high⟩
  have := h.high
  rcases e with e | e | e
  · omega
  · omega
  · exact hlow i e
def ReadBack (w1 : World) (P : R → Prop) (e : Ending) (w' : World) : Prop := ∃ (ls : List Sr) (a : Option Addr) (cap L : Nat), e = .returned (.tuple #[.pointer (some ⟨L, 0, none⟩), .slice a ls.length cap, .int .i64 0]) ∧ Els Sr.cells 12 w' a ls ∧ (∀ x ∈ ls, x.Has w' ∧ x.Caps) ∧ (∃ r, P r ∧ ls.map (fun x => x.r) = (scanL r.data.length r.data).1) ∧ Below w1.heap.size w1 w'
theorem Rl.open (h : Rl w1 B b m P wr) (hon : m.on = true) (hfu : m.fuse = -1) (hl : ∀ r, P r → r.data.length ≤ 100000) : Calls Try.prog 28 #[.pointer (some ⟨b, 0, none⟩)] wr fun e w' => ReadBack w1 P e w' := by
  obtain ⟨d, r, h1, h2, h3⟩ := h.all
  have hs := h.below.size
  refine (open_calls wr d B b m r h1 h.pow hon hfu (fun k e => (h2 k e).2) (hl r h3)).mono ?_
  rintro e w' ⟨ls, a, cap, L, mb, n, d', rfl, hE, hV, hst, hD, hc, _⟩
  refine ⟨ls, a, cap, L, rfl, hE, hV, ⟨r, h3, ?_⟩, h.below.trans (hc.below (B := w1.heap.size) hs (fun i e => ?_))⟩
  · have := congrArg (fun l => l.map Prod.snd) hst
    simp only [stamped_snd, List.map_map] at this
    exact this
  · have := h.high
    rcases e with e | e | e | e
    · omega
    · omega
    · exact (h2 i e).1
    · omega
end
/-- A loop's count goes down: for 'case measure' (simp on the goal itself, in a second loop, kills the kernel). -/
theorem meas {N j : Nat} (h : j < N) (z : Int) (hz : z = (j : Int) + 1) : N - (intOf (.int .i64 z)).toNat < N - (intOf (.int .i64 (j : Int))).toNat := by
  subst hz
  show N - ((j : Int) + 1).toNat < N - ((j : Int)).toNat
  omega
theorem kept_ge (r : R) (k : Int) : r.safe ≤ kept r k := by unfold kept; omega
theorem read_back {rs : List Rec} {fz : Nat} {k : Int} {l : List Rec} (hg : ∀ x ∈ rs, x.good = true) (hf : fz ≤ rs.length) (h : ∃ r', (∃ r, Dat rs fz r ∧ r' = r.cut (kept r k)) ∧ l = (scanL r'.data.length r'.data).1) : ∃ j, fz ≤ j ∧ j ≤ rs.length ∧ l = rs.take j := by
  obtain ⟨r', ⟨r, ⟨h1, h2, h3⟩, rfl⟩, rfl⟩ := h
  have e : (r.cut (kept r k)).data = (rs.flatMap Rec.bytes).take (kept r k) := by rw [← h1]; rfl
  rw [e]
  obtain ⟨j, j1, j2, j3⟩ := scan_cut rs hg (kept r k) _ (Nat.le_refl _)
  exact ⟨j, j3 fz hf (Nat.le_trans h2 (kept_ge r k)), j1, j2⟩
theorem cut_len {rs : List Rec} {fz : Nat} {k : Int} (hg : ∀ x ∈ rs, x.good = true) (hn : rs.length ≤ 20) (r' : R) (h : ∃ r, Dat rs fz r ∧ r' = r.cut (kept r k)) : r'.data.length ≤ 100000 := by
  obtain ⟨r, ⟨h1, h2, h3⟩, rfl⟩ := h
  have e : (r.cut (kept r k)).data = (rs.flatMap Rec.bytes).take (kept r k) := by rw [← h1]; rfl
  have := flat_le rs hg
  rw [e, List.length_take]
  omega
end Go.Proofs.Ytcfjooeagfollaa.Dia

/- diary.Open of a reel without power, and of nil. -/
namespace Go.Proofs.Ytcfjooeagfollaa.Dia
open Go.RowKit Go.Proofs.Ytcfjooeagfollaa.Mem Go.Proofs.Ytcfjooeagfollaa.Bytes Go.Proofs.Ytcfjooeagfollaa.Mains Go.Proofs.Ytcfjooeagfollaa.Reel Go.Proofs.Ytcfjooeagfollaa.Note
set_option linter.unusedSimpArgs false
set_option linter.unusedVariables false
set_option maxRecDepth 20000

theorem read_nil (w : World) : Calls Try.prog 83 #[.pointer none] w fun e w' => e = .returned (.tuple #[.string ⟨#[]⟩, .int .i64 2]) ∧ w' = w := by
  go_enter Try.func83, Try.ntmps83
  go_wp2_with fail
  go_ret2
  exact ⟨rfl, rfl⟩
def OpenErr (k : Int) (e : Ending) : Prop := ∃ v u, e = .returned (.tuple #[v, u, .int .i64 k])
set_option maxHeartbeats 2000000 in
theorem open_down (w : World) (F : Nat → Prop) (B b : Nat) (m : M) (r : R) (hR : Reel.Is w F B b r) (hM : Row w B 147 m.cells) (hon : m.on = false) :
    Calls Try.prog 28 #[.pointer (some ⟨b, 0, none⟩)] w fun e w' => OpenErr 4 e ∧ Below w.heap.size w w' := by
  have RC := read_calls _ _ _ _ _ _ hR hM
  have hrs : readE m = 4 := by unfold readE; rw [hon]; rfl
  rw [hrs] at RC
  have RCH := Lib.hid RC
  clear RC hrs hR hM
  go_enter Try.func28, Try.ntmps28
  go_wp2_with fail
  refine RCH.out.mono ?_
  rintro e w' ⟨rfl, rfl⟩
  go_wp2_with fail
  go_ret3
  exact ⟨⟨_, _, rfl⟩, Below.refl _ _⟩
set_option maxHeartbeats 2000000 in
theorem open_nil (w : World) : Calls Try.prog 28 #[.pointer none] w fun e w' => OpenErr 2 e ∧ Below w.heap.size w w' := by
  go_enter Try.func28, Try.ntmps28
  go_wp2_with fail
  refine (read_nil _).mono ?_
  rintro e w' ⟨rfl, rfl⟩
  go_wp2_with fail
  go_ret3
  exact ⟨⟨_, _, rfl⟩, Below.refl _ _⟩
end Go.Proofs.Ytcfjooeagfollaa.Dia

/- gaugerref06.Bytes and Read: what is read lies in memory of its own (XNoteRefD, and the short texts of XNoteAwake). -/
namespace Go.Proofs.Ytcfjooeagfollaa.Note
open Go.RowKit Go.Proofs.Ytcfjooeagfollaa.Mem Go.Proofs.Ytcfjooeagfollaa.Bytes
set_option linter.unusedSimpArgs false
set_option linter.unusedVariables false
set_option maxRecDepth 20000

theorem refbytes_calls (v : Value) (r : Rec) (w : World) (h : HasRec w v r) (hg : r.good = true) : Calls Try.prog 32 #[v] w fun e w' => e = .returned (.string (bs r.bytes)) ∧ Below w.heap.size w w' := by
  obtain ⟨a0, n0, c0, a1, n1, c1, a2, n2, c2, rfl, h0, h1, h2, z0, z1, z2⟩ := h
  exact refbytes_aux r hg a0 n0 c0 a1 n1 c1 a2 n2 c2 w h0 h1 h2
theorem ctake_of {b : Nat} {s s' : St} {n : Nat} {l : List UInt8} (q : eTake s n = (l, s')) (k : Int) (hk : k = (n : Int)) (w : World) (h : Cur w b s) (hn : n ≤ 9223372036854775807) (hs : s.1.length ≤ 9223372036854775807) :
    Calls Try.prog 134 #[.pointer (some ⟨b, 0, none⟩), .int .i64 k] w fun e w' => e = .returned (.string (bs l)) ∧ Cur w' b s' ∧ Chg (One b) w w' := by
  subst hk
  have h := ctake_calls b s n w h hn hs
  rw [q] at h
  exact h
theorem cnum_of {b : Nat} {s s' : St} {k n : Nat} (q : eNum s k = (n, s')) (kk : Int) (hkk : kk = (k : Int)) (w : World) (h : Cur w b s) (hk : k ≤ 4) (hs : s.1.length ≤ 9223372036854775807) :
    Calls Try.prog 133 #[.pointer (some ⟨b, 0, none⟩), .int .i64 kk] w fun e w' => e = .returned (.int .i64 (n : Int)) ∧ Cur w' b s' ∧ Chg (One b) w w' := by
  subst hkk
  have h := cnum_calls b s k w h hk hs
  rw [q] at h
  exact h
theorem below_one' {B b : Nat} {w w1 w2 : World} (h : Below B w w1) (k : Chg (One b) w1 w2) (hB : B ≤ w1.heap.size) (hb : B ≤ b) : Below B w w2 := h.trans (k.below hB (fun x hx => by rw [show x = b from hx]; exact hb))

def refOut (l : List UInt8) : Rec × Nat × Bool := match refRead l with
  | none => (noRec, 0, false)
  | some (r, n) => (r, n, true)
theorem refOut_none {l : List UInt8} (h : refRead l = none) : refOut l = (noRec, 0, false) := by rw [refOut, h]
theorem refOut_some {l : List UInt8} {r : Rec} {n : Nat} (h : refRead l = some (r, n)) : refOut l = (r, n, true) := by rw [refOut, h]
def RefOut (B : Nat) (o : Rec × Nat × Bool) (e : Ending) (w : World) : Prop := ∃ v, e = .returned (.tuple #[v, .int .i64 (o.2.1 : Int), .bool o.2.2]) ∧ NewRec B w v o.1

set_option maxHeartbeats 8000000 in
set_option maxRecDepth 8000 in
theorem refread_aux (t : ByteArray) (w : World) (n : Nat) (h4 : 4 ≤ t.size) (hN : n + 8 ≤ t.size) (hT : t.size ≤ 100000) (HN : Hid (n = lev (t.data.toList.take 4))) (s s1 s2 s3 s4 s5 s6 s6k s7 s7v s8 s9 sp s10 so s11 sd : St) (v1 v2 v3 v4 v5 v6 nk nv np no nd : Nat) (ky vl : List UInt8) (ps : List (Int × ByteArray)) (os ds : List (Int × Int)) (hs : s.1.length ≤ 100000)
    (hS : Hid (s = ((t.data.toList.take (n + 4)).drop 4, false)))
    (q1 : Hid (eNum s 1 = (v1, s1))) (q2 : Hid (eNum s1 4 = (v2, s2))) (q3 : Hid (eNum s2 4 = (v3, s3))) (q4 : Hid (eNum s3 4 = (v4, s4))) (q5 : Hid (eNum s4 1 = (v5, s5))) (q6 : Hid (eNum s5 1 = (v6, s6)))
    (q7 : Hid (eNum s6 1 = (nk, s6k))) (q7' : Hid (eTake s6k nk = (ky, s7))) (q8 : Hid (eNum s7 1 = (nv, s7v))) (q8' : Hid (eTake s7v nv = (vl, s8))) (q9 : Hid (eNum s8 1 = (np, s9))) (q10 : Hid (loopP getImage np s9 = (ps, sp))) (q11 : Hid (eNum sp 1 = (no, s10))) (q12 : Hid (loopP (getPair 4 4) no s10 = (os, so)))
    (q13 : Hid (eNum so 2 = (nd, s11))) (q14 : Hid (loopP (getPair 2 4) nd s11 = (ds, sd)))
    (z : s1.1.length ≤ 100000 ∧ s2.1.length ≤ 100000 ∧ s3.1.length ≤ 100000 ∧ s4.1.length ≤ 100000 ∧ s5.1.length ≤ 100000 ∧ s6.1.length ≤ 100000 ∧ s6k.1.length ≤ 100000 ∧ s7.1.length ≤ 100000 ∧ s7v.1.length ≤ 100000 ∧ s8.1.length ≤ 100000 ∧ s9.1.length ≤ 100000 ∧ sp.1.length ≤ 100000 ∧ s10.1.length ≤ 100000 ∧ so.1.length ≤ 100000 ∧ s11.1.length ≤ 100000 ∧ np < 256 ∧ no < 256 ∧ nd < 65536 ∧ nk < 256 ∧ nv < 256)
    (hP : Hid (parse s = ((⟨v1, v2, v3, v4, v5, v6, bs ky, bs vl, ps, os, ds⟩ : Rec), sd))) :
    Calls Try.prog 82 #[.string t] w fun e w' => RefOut w.heap.size (refOut t.data.toList) e w' ∧ Below w.heap.size w w' := by
  obtain ⟨zs1, zs2, zs3, zs4, zs5, zs6, zs6k, zs7, zs7v, zs8, zs9, zsp, zs10, zso, zs11, zn1, zn2, zn3, zn4, zn5⟩ := z
  have hR : Row (w.alloc (.cells noCells.toArray 58)) w.heap.size 58 noCells := new_at rfl
  have hc : Below w.heap.size w (w.alloc (.cells noCells.toArray 58)) := (Below.refl _ _).alloc (Nat.le_refl _) _
  have hE : Cur ((w.alloc (.cells noCells.toArray 58)).alloc (.cells [.string t, .bool false].toArray 220)) (w.heap.size + 1) (t.data.toList, false) := new_at (by simp)
  replace hR := hR.alloc (.cells [.string t, .bool false].toArray 220)
  replace hc := hc.alloc (by simp) (.cells [.string t, .bool false].toArray 220)
  have hl : t.data.toList.length = t.size := rfl
  have q0 : eNum (t.data.toList, false) 4 = (n, (t.data.toList.drop 4, false)) := by
    unfold eNum eTake
    rw [if_neg (by show ¬ t.data.toList.length < 4; rw [hl]; omega), HN.out]
  have Q0 := Lib.hid q0
  have HL := Lib.hid hl
  have hdl : (bs (t.data.toList.drop 4)).size = t.size - 4 := by rw [bs_size, List.length_drop, hl]
  have hx : t.extract 4 (n + 4) = bs ((t.data.toList.take (n + 4)).drop 4) := by
    rw [← bs_of (t.extract 4 (n + 4))]
    congr 1
    simp [ByteArray.data_extract, List.drop_take]
  have HX := Lib.hid hx
  have hall : t.extract 0 (n + 8) = bs (t.data.toList.take (n + 8)) := extract_take _ _
  have HA := Lib.hid hall
  clear q0 hl hx hall
  go_enter Try.func82, Try.ntmps82
  go_wp2_with fail
  refine (cnum_of Q0.out 4 rfl _ hE (by omega) (by show t.data.toList.length ≤ _; rw [HL.out]; omega)).mono ?_
  rintro e w1 ⟨rfl, h1, hc1⟩
  replace hR := hR.chg hc1 (by show ¬ w.heap.size = w.heap.size + 1; omega)
  replace hc := below_one' hc hc1 hc.size (by omega)
  have x0 := h1.cell (i := 0) rfl
  have x1 := h1.cell (i := 1) rfl
  simp only at x0 x1
  have hRw : w.heap.size < w1.heap.size := hR.lt
  have n1 : (n : Int) ≤ (t.size : Int) - 8 := by omega
  have n2 : ¬ ((bs (t.data.toList.drop 4)).size : Int) - 4 < (n : Int) := by rw [hdl]; omega
  have n3 : ¬ (((bs (t.data.toList.drop 4)).size - 4 : Nat) : Int) < (n : Int) := by rw [hdl]; omega
  have n4 : 4 ≤ (bs (t.data.toList.drop 4)).size := by rw [hdl]; omega
  have n5 : (bs (t.data.toList.drop 4)).size ≤ 100000 := by rw [hdl]; omega
  have hsl : ∀ wx : World, (Instr.slice 9 (.string t) (some (.int .i64 4)) (some (.int .i64 ((n : Int) + 4))) none).run Try.prog wx = .ok (.string (bs ((t.data.toList.take (n + 4)).drop 4))) wx := fun wx => by
    have h := run_slice_string (P := Try.prog) wx 9 t .i64 .i64 4 ((n : Int) + 4) Try.underlying9 (by omega) (by omega) (by omega)
    rw [h, show ((n : Int) + 4).toNat = n + 4 by omega]
    exact congrArg (fun x => Result.ok (Value.string x) wx) HX.out
  clear h1 hc1 hE hdl
  go_wp2_with fail
  have h : Cur (w1.alloc (.cells [.string (bs ((t.data.toList.take (n + 4)).drop 4)), .bool false].toArray 220)) w1.heap.size s := by
    rw [hS.out]
    exact new_at rfl
  replace hR := hR.alloc (.cells [.string (bs ((t.data.toList.take (n + 4)).drop 4)), .bool false].toArray 220)
  replace hc := hc.alloc hc.size (.cells [.string (bs ((t.data.toList.take (n + 4)).drop 4)), .bool false].toArray 220)
  have hbw : w.heap.size ≠ w1.heap.size := by omega
  have hbl : w.heap.size ≤ w1.heap.size := by omega
  clear x0 x1 n1 n2 n3 n4 n5
  refine (cnum_of q1.out 1 rfl _ h (by omega) (by omega)).mono ?_
  rintro e w2 ⟨rfl, h1, hc1⟩
  replace hc := below_one' hc hc1 hc.size hbl
  replace hR := hR.chg hc1 hbw
  replace h := h1
  clear h1 hc1
  go_wp2_with fail
  refine (cnum_of q2.out 4 rfl _ h (by omega) (by omega)).mono ?_
  rintro e w2 ⟨rfl, h1, hc1⟩
  replace hc := below_one' hc hc1 hc.size hbl
  replace hR := hR.chg hc1 hbw
  replace h := h1
  clear h1 hc1
  go_wp2_with fail
  refine (cnum_of q3.out 4 rfl _ h (by omega) (by omega)).mono ?_
  rintro e w2 ⟨rfl, h1, hc1⟩
  replace hc := below_one' hc hc1 hc.size hbl
  replace hR := hR.chg hc1 hbw
  replace h := h1
  clear h1 hc1
  go_wp2_with fail
  refine (cnum_of q4.out 4 rfl _ h (by omega) (by omega)).mono ?_
  rintro e w5 ⟨rfl, h1, hc1⟩
  replace hc := below_one' hc hc1 hc.size hbl
  replace hR := hR.chg hc1 hbw
  replace h := h1
  clear h1 hc1
  have hC : Row (w5.alloc (.cells [.int .i64 v1, .int .i64 v2, .int .i64 v3, .int .i64 v4, .slice none 0 0, .int .i64 0, .int .i64 0, .string ⟨#[]⟩, .string ⟨#[]⟩, .slice none 0 0, .slice none 0 0].toArray 58)) w5.heap.size 58 [.int .i64 v1, .int .i64 v2, .int .i64 v3, .int .i64 v4, .slice none 0 0, .int .i64 0, .int .i64 0, .string ⟨#[]⟩, .string ⟨#[]⟩, .slice none 0 0, .slice none 0 0] := new_at rfl
  have hcb : w5.heap.size ≠ w1.heap.size := by have := h.lt; omega
  have hRc : w.heap.size < w5.heap.size := hR.lt
  replace h := h.alloc (.cells [.int .i64 v1, .int .i64 v2, .int .i64 v3, .int .i64 v4, .slice none 0 0, .int .i64 0, .int .i64 0, .string ⟨#[]⟩, .string ⟨#[]⟩, .slice none 0 0, .slice none 0 0].toArray 58)
  replace hc := hc.alloc hc.size (.cells [.int .i64 v1, .int .i64 v2, .int .i64 v3, .int .i64 v4, .slice none 0 0, .int .i64 0, .int .i64 0, .string ⟨#[]⟩, .string ⟨#[]⟩, .slice none 0 0, .slice none 0 0].toArray 58)
  replace hR := hR.alloc (.cells [.int .i64 v1, .int .i64 v2, .int .i64 v3, .int .i64 v4, .slice none 0 0, .int .i64 0, .int .i64 0, .string ⟨#[]⟩, .string ⟨#[]⟩, .slice none 0 0, .slice none 0 0].toArray 58)
  go_wp2_with fail
  refine (cnum_of q5.out 1 rfl _ h (by omega) (by omega)).mono ?_
  rintro e w2 ⟨rfl, h1, hc1⟩
  replace hc := below_one' hc hc1 hc.size hbl
  replace hR := hR.chg hc1 hbw
  replace hC := hC.chg hc1 hcb
  replace h := h1
  clear h1 hc1
  have x5 := hC.cell (i := 5) rfl
  have f5 := hC.frozen 5 (by simp)
  go_wp2_with fail
  clear x5 f5
  replace hC := hC.set 5 (.int .i64 v5)
  replace h := h.set_ne ⟨w5.heap.size, 5, none⟩ (.int .i64 v5) hcb
  replace hR := hR.set_ne ⟨w5.heap.size, 5, none⟩ (.int .i64 v5) (by show w5.heap.size ≠ w.heap.size; omega)
  replace hc := hc.setCell (p := ⟨w5.heap.size, 5, none⟩) (by show w.heap.size ≤ w5.heap.size; omega) (.int .i64 v5)
  simp only [List.set] at hC
  refine (cnum_of q6.out 1 rfl _ h (by omega) (by omega)).mono ?_
  rintro e w2 ⟨rfl, h1, hc1⟩
  replace hc := below_one' hc hc1 hc.size hbl
  replace hR := hR.chg hc1 hbw
  replace hC := hC.chg hc1 hcb
  replace h := h1
  clear h1 hc1
  have x6 := hC.cell (i := 6) rfl
  have f6 := hC.frozen 6 (by simp)
  go_wp2_with fail
  clear x6 f6
  replace hC := hC.set 6 (.int .i64 v6)
  replace h := h.set_ne ⟨w5.heap.size, 6, none⟩ (.int .i64 v6) hcb
  replace hR := hR.set_ne ⟨w5.heap.size, 6, none⟩ (.int .i64 v6) (by show w5.heap.size ≠ w.heap.size; omega)
  replace hc := hc.setCell (p := ⟨w5.heap.size, 6, none⟩) (by show w.heap.size ≤ w5.heap.size; omega) (.int .i64 v6)
  simp only [List.set] at hC
  refine (cnum_of q7.out 1 rfl _ h (by omega) (by omega)).mono ?_
  rintro e w2 ⟨rfl, h1, hc1⟩
  replace hc := below_one' hc hc1 hc.size hbl
  replace hR := hR.chg hc1 hbw
  replace hC := hC.chg hc1 hcb
  replace h := h1
  clear h1 hc1
  go_wp2_with fail
  refine (ctake_of q7'.out (nk : Int) rfl _ h (by omega) (by omega)).mono ?_
  rintro e w2 ⟨rfl, h1, hc1⟩
  replace hc := below_one' hc hc1 hc.size hbl
  replace hR := hR.chg hc1 hbw
  replace hC := hC.chg hc1 hcb
  replace h := h1
  clear h1 hc1
  have x7 := hC.cell (i := 7) rfl
  have f7 := hC.frozen 7 (by simp)
  go_wp2_with fail
  clear x7 f7
  replace hC := hC.set 7 (.string (bs ky))
  replace h := h.set_ne ⟨w5.heap.size, 7, none⟩ (.string (bs ky)) hcb
  replace hR := hR.set_ne ⟨w5.heap.size, 7, none⟩ (.string (bs ky)) (by show w5.heap.size ≠ w.heap.size; omega)
  replace hc := hc.setCell (p := ⟨w5.heap.size, 7, none⟩) (by show w.heap.size ≤ w5.heap.size; omega) (.string (bs ky))
  simp only [List.set] at hC
  refine (cnum_of q8.out 1 rfl _ h (by omega) (by omega)).mono ?_
  rintro e w2 ⟨rfl, h1, hc1⟩
  replace hc := below_one' hc hc1 hc.size hbl
  replace hR := hR.chg hc1 hbw
  replace hC := hC.chg hc1 hcb
  replace h := h1
  clear h1 hc1
  go_wp2_with fail
  refine (ctake_of q8'.out (nv : Int) rfl _ h (by omega) (by omega)).mono ?_
  rintro e w2 ⟨rfl, h1, hc1⟩
  replace hc := below_one' hc hc1 hc.size hbl
  replace hR := hR.chg hc1 hbw
  replace hC := hC.chg hc1 hcb
  replace h := h1
  clear h1 hc1
  have x8 := hC.cell (i := 8) rfl
  have f8 := hC.frozen 8 (by simp)
  go_wp2_with fail
  clear x8 f8
  replace hC := hC.set 8 (.string (bs vl))
  replace h := h.set_ne ⟨w5.heap.size, 8, none⟩ (.string (bs vl)) hcb
  replace hR := hR.set_ne ⟨w5.heap.size, 8, none⟩ (.string (bs vl)) (by show w5.heap.size ≠ w.heap.size; omega)
  replace hc := hc.setCell (p := ⟨w5.heap.size, 8, none⟩) (by show w.heap.size ≤ w5.heap.size; omega) (.string (bs vl))
  simp only [List.set] at hC
  refine (cnum_of q9.out 1 rfl _ h (by omega) (by omega)).mono ?_
  rintro e wp ⟨rfl, h1, hc1⟩
  replace hc := below_one' hc hc1 hc.size hbl
  replace hR := hR.chg hc1 hbw
  replace hC := hC.chg hc1 hcb
  replace h := h1
  clear h1 hc1
  have hcp1 := hC.lt
  obtain ⟨H1, hH1⟩ : ∃ H1, H1 = wp.heap.size := ⟨_, rfl⟩
  have hbH1 : w1.heap.size < wp.heap.size := h.lt
  have hRH1 : w.heap.size < wp.heap.size := hR.lt
  go_wp2_with fail
  go_loopw [11] (fun i wr => ∃ (j m : Nat) (acc : List (Int × ByteArray)) (sj : St) (v : Value), i = .int .i64 (j : Int) ∧ j + m = np ∧ Going getImage ps sp m acc sj ∧ acc.length + m ≤ 255 ∧ sj.1.length ≤ 100000 ∧ Cur wr w1.heap.size sj ∧ Row wr w5.heap.size 58 [.int .i64 v1, .int .i64 v2, .int .i64 v3, .int .i64 v4, v, .int .i64 v5, .int .i64 v6, .string (bs ky), .string (bs vl), .slice none 0 0, .slice none 0 0] ∧ Row wr w.heap.size 58 noCells ∧ wr.ownsRow H1 161 2 v acc.length (acc.flatMap imgCells) ∧ H1 ≤ wr.heap.size ∧ Below w.heap.size w wr) (fun i _ => np - (intOf i).toNat)
  case atStart => exact ⟨0, np, [], s9, .slice none 0 0, rfl, by omega, Going.start q10.out, by simp; omega, zs9, h, hC, hR, World.ownsRow_nil _ _ _ _, by omega, hc⟩
  case round =>
    clear hC hR h hc
    obtain ⟨j, m, acc, sj, v, rfl, hjm, hgo, hml, hsl, h, hC, hR, hown, hH, hc⟩ := hrel
    have HG := Lib.hid hgo
    clear hgo
    have e1 := h.cell (i := 1) rfl
    go_upto_region 14 with (fail)
    go_cut [84] from 75 to 84 (fun t wx => t = .bool (decide (0 < m) && !sj.2) ∧ wx = wr)
    case first =>
      by_cases hm : m = 0
      · have hj0 : ¬ (j : Int) < (np : Int) := by omega
        subst hm
        go_wp2_with fail
        go_meet
        exact ⟨rfl, rfl⟩
      · have hm' : (j : Int) < (np : Int) := by omega
        go_wp2_with fail
        go_meet
        exact ⟨by rw [show decide (0 < m) = true by simp; omega]; rfl, rfl⟩
    case rest =>
      obtain ⟨rfl, rfl⟩ := hcut
      cases hq : (decide (0 < m) && !sj.2)
      rotate_left
      · simp only [Bool.and_eq_true, decide_eq_true_eq, Bool.not_eq_true'] at hq
        obtain ⟨hm, hbad⟩ := hq
        obtain ⟨m', rfl⟩ : ∃ m', m = m' + 1 := ⟨m - 1, by omega⟩
        obtain ⟨pg, t1, g1⟩ : ∃ pg t1, eNum sj 2 = (pg, t1) := ⟨_, _, rfl⟩
        obtain ⟨dt, t2, g2⟩ : ∃ dt t2, eTake t1 256 = (dt, t2) := ⟨_, _, rfl⟩
        have hf : getImage sj = (((pg : Int), bs dt), t2) := by
          unfold getImage
          rw [g1]
          show (((pg : Int), bs (eTake t1 256).1), (eTake t1 256).2) = _
          rw [g2]
        have hnx := HG.out.step hbad hf
        have l1 := eNum_rest sj 2
        have l2 := eTake_rest t1 256
        rw [g1] at l1
        rw [g2] at l2
        simp only at l1 l2
        have hk1 := fun (W : World) (hW : Cur W w1.heap.size sj) => cnum_of g1 2 rfl W hW (by omega) (by omega)
        have hk2 := fun (W : World) (hW : Cur W w1.heap.size t1) => ctake_of g2 256 rfl W hW (by omega) (by omega)
        have HN := Lib.hid hnx
        have K1 := Lib.hid hk1
        have K2 := Lib.hid hk2
        clear hnx g1 g2 hf hbad e1 hk1 hk2
        have hne : ∀ k, v.ownBlock = some k → ¬ One w1.heap.size k := fun k hk hx => by have := (hown.lt k hk).1; have hx' : k = w1.heap.size := hx; omega
        have x4 := hC.cell (i := 4) rfl
        have f4 := hC.frozen 4 (by simp)
        go_wp2_with fail
        have x4d : wc.drew.cell? ⟨w5.heap.size, 4, none⟩ = some v := x4
        go_region_law (first
            | (refine app1_step (news := [.int .i64 (pg : Int), .string (bs dt)]) hoc (Below.refl H1 _) (Nat.le_trans hH (Nat.le_trans hc1.size hc2.size)) 52 Try.underlying52 info_image rfl (by decide) (by decide) (by omega) rfl (by simp [Value.oneCell']) rfl rfl rfl rfl ?_
               intro v' wd hod hbd hgd
               obtain ⟨a', cap', rfl, _⟩ := Reel.own_shape hod
               have hCd := hCc.grown hgd (fun e => by have := (hoc.lt _ e.symm).1; omega)
               have x4e := hCd.cell (i := 4) rfl
               have f4e := hCd.frozen 4 (by simp))
            | (go_simp
               go_at_call 133
               (with_reducible refine (K1.out _ h.drew).mono ?_)
               rintro e wb ⟨rfl, h1, hc1⟩
               have hCb := hC.drew.chg hc1 hcb
               have hob := Reel.own_chg (w := wc.drew) hown hc1 hne
               have x4a := hCb.cell (i := 4) rfl
               clear hown)
            | (go_simp
               go_at_call 134
               (with_reducible refine (K2.out _ h1).mono ?_)
               rintro e we ⟨rfl, h2, hc2⟩
               have hCc := hCb.chg hc2 hcb
               have hoc := Reel.own_chg hob hc2 hne
               have x4b := hCc.cell (i := 4) rfl
               have x4c := (hCc.alloc (.cells #[.int .i64 (pg : Int), .string (bs dt)] 161)).cell (i := 4) rfl
               clear hob))
        all_goals
          have hRd := ((hR.drew.chg hc1 hbw).chg hc2 hbw).grown hgd (fun e => by have := (hoc.lt _ e.symm).1; omega)
          have hEd := h2.grown hgd (fun e => by have := (hoc.lt _ e.symm).1; omega)
          have hcc := below_one' (below_one' hc.drew hc1 hc.size hbl) hc2 (Nat.le_trans hc.size hc1.size) hbl
          have hcd := hcc.grown hgd hcc.size (fun k hk => by have := (hoc.lt k hk).1; omega)
          have hset : Chg (One w5.heap.size) wd (wd.setCell ⟨w5.heap.size, 4, none⟩ (.slice a' (acc.length + 1) cap')) := (Chg.refl _ _).put _ _
          have hcd2 := below_one' hcd hset hcd.size (by show w.heap.size ≤ w5.heap.size; omega)
          have hEd2 := hEd.chg hset (fun hx => hcb (Eq.symm hx))
          have hRd2 := hRd.chg hset (by show ¬ w.heap.size = w5.heap.size; omega)
          have hCd2 := (hCd.set 4 (.slice a' (acc.length + 1) cap'))
          have hod2 := Reel.own_chg hod hset (fun k hk hx => by have := (hod.lt k hk).1; have hx' : k = w5.heap.size := hx; omega)
          have hH2 : H1 ≤ (wd.setCell ⟨w5.heap.size, 4, none⟩ (.slice a' (acc.length + 1) cap')).heap.size := Nat.le_trans hH (Nat.le_trans hc1.size (Nat.le_trans hc2.size (Nat.le_trans hgd.size hset.size)))
          simp only [List.set] at hCd2
          have hof : (acc ++ [((pg : Int), bs dt)]).flatMap imgCells = acc.flatMap imgCells ++ [.int .i64 (pg : Int), .string (bs dt)] := by rw [List.flatMap_append]; rfl
          have hlen1 : acc.length + 1 = (acc ++ [((pg : Int), bs dt)]).length := by simp
          rw [← hof] at hod2
          have HOD : Hid (World.ownsRow _ H1 161 2 (.slice a' (acc.length + 1) cap') (acc ++ [((pg : Int), bs dt)]).length ((acc ++ [((pg : Int), bs dt)]).flatMap imgCells)) := Lib.hid (own_len hod2 hlen1)
          have HRD := Lib.hid hRd2
          have HCD := Lib.hid hCd2
          have HED := Lib.hid hEd2
          have HCC := Lib.hid hcd2
          clear hod2 hRd2 hCd2 hEd2 hcd2 hof hset hcd hEd hRd hoc hod hbd hgd x4e f4e x4a x4b x4c x4 f4 x4d hCd hCb hCc h1 hc1 h2 hc2 hcc h hC hR hc hlen1
          go_wp2_with fail
          exact ⟨⟨j + 1, m', acc ++ [((pg : Int), bs dt)], t2, .slice a' (acc.length + 1) cap', by go_num, by omega, HN.out, by have := hml; simp; try omega, by omega, HED.out, HCD.out, HRD.out, HOD.out, hH2, HCC.out⟩, by simp only [intOf]; omega⟩
      · have hst : m = 0 ∨ sj.2 = true := by
          rcases Nat.eq_zero_or_pos m with e | e
          · exact .inl e
          · exact .inr (by simpa [e] using hq)
        obtain ⟨hall, hend⟩ := HG.out.stop hst
        have HALL1 := Lib.hid hall
        have HEND1 := Lib.hid hend
        clear hq HG e1 hst hall hend
        rw [← HALL1.out] at hown
        rw [← HEND1.out] at h
        have hp := hown
        clear hown
        obtain ⟨a0, c0, rfl, hz0, _⟩ := Reel.own_shape hp
        go_wp2_with fail
        refine (cnum_of q11.out 1 rfl _ h (by omega) (by omega)).mono ?_
        rintro e wo ⟨rfl, h1, hc1⟩
        replace hc := below_one' hc hc1 hc.size hbl
        replace hR := hR.chg hc1 hbw
        replace hC := hC.chg hc1 hcb
        replace hp := Reel.own_chg hp hc1 (fun k hk hx => by have := (hp.lt k hk).1; have hx' : k = w1.heap.size := hx; omega)
        replace h := h1
        clear h1 hc1
        have hcp2 := hC.lt
        obtain ⟨H2, hH2⟩ : ∃ H2, H2 = wo.heap.size := ⟨_, rfl⟩
        have hbH2 : w1.heap.size < wo.heap.size := h.lt
        have hRH2 : w.heap.size < wo.heap.size := hR.lt
        have hpl : ∀ k, (.slice a0 ps.length c0 : Value).ownBlock = some k → H1 ≤ k ∧ k < H2 := fun k hk => by have := hp.lt k hk; omega
        go_wp2_with fail
        go_loopw [12] (fun i wr => ∃ (j m : Nat) (acc : List (Int × Int)) (sj : St) (v : Value), i = .int .i64 (j : Int) ∧ j + m = no ∧ Going (getPair 4 4) os so m acc sj ∧ acc.length + m ≤ 255 ∧ sj.1.length ≤ 100000 ∧ Cur wr w1.heap.size sj ∧ Row wr w5.heap.size 58 [.int .i64 v1, .int .i64 v2, .int .i64 v3, .int .i64 v4, (.slice a0 ps.length c0 : Value), .int .i64 v5, .int .i64 v6, .string (bs ky), .string (bs vl), v, .slice none 0 0] ∧ Row wr w.heap.size 58 noCells ∧ wr.ownsRow H2 163 2 v acc.length (acc.flatMap numCells) ∧ H2 ≤ wr.heap.size ∧ Below w.heap.size w wr ∧ wr.ownsRow H1 161 2 (.slice a0 ps.length c0 : Value) ps.length (ps.flatMap imgCells)) (fun i _ => no - (intOf i).toNat)
        case atStart => exact ⟨0, no, [], s10, .slice none 0 0, rfl, by omega, Going.start q12.out, by simp; omega, zs10, h, hC, hR, World.ownsRow_nil _ _ _ _, by omega, hc, hp⟩
        case round =>
          clear hC hR h hc hp
          obtain ⟨j, m, acc, sj, v, rfl, hjm, hgo, hml, hsl, h, hC, hR, hown, hH, hc, hp⟩ := hrel
          have HG := Lib.hid hgo
          clear hgo
          have e1 := h.cell (i := 1) rfl
          go_upto_region 19 with (fail)
          go_cut [108] from 99 to 108 (fun t wx => t = .bool (decide (0 < m) && !sj.2) ∧ wx = wr)
          case first =>
            by_cases hm : m = 0
            · have hj0 : ¬ (j : Int) < (no : Int) := by omega
              subst hm
              go_wp2_with fail
              go_meet
              exact ⟨rfl, rfl⟩
            · have hm' : (j : Int) < (no : Int) := by omega
              go_wp2_with fail
              go_meet
              exact ⟨by rw [show decide (0 < m) = true by simp; omega]; rfl, rfl⟩
          case rest =>
            obtain ⟨rfl, rfl⟩ := hcut
            cases hq : (decide (0 < m) && !sj.2)
            rotate_left
            · simp only [Bool.and_eq_true, decide_eq_true_eq, Bool.not_eq_true'] at hq
              obtain ⟨hm, hbad⟩ := hq
              obtain ⟨m', rfl⟩ : ∃ m', m = m' + 1 := ⟨m - 1, by omega⟩
              obtain ⟨pg, t1, g1⟩ : ∃ pg t1, eNum sj 4 = (pg, t1) := ⟨_, _, rfl⟩
              obtain ⟨dt, t2, g2⟩ : ∃ dt t2, eNum t1 4 = (dt, t2) := ⟨_, _, rfl⟩
              have hf : (getPair 4 4) sj = (((pg : Int), (dt : Int)), t2) := by
                unfold getPair
                rw [g1]
                show (((pg : Int), ((eNum t1 4).1 : Int)), (eNum t1 4).2) = _
                rw [g2]
              have hnx := HG.out.step hbad hf
              have l1 := eNum_rest sj 4
              have l2 := eNum_rest t1 4
              rw [g1] at l1
              rw [g2] at l2
              simp only at l1 l2
              have hk1 := fun (W : World) (hW : Cur W w1.heap.size sj) => cnum_of g1 4 rfl W hW (by omega) (by omega)
              have hk2 := fun (W : World) (hW : Cur W w1.heap.size t1) => cnum_of g2 4 rfl W hW (by omega) (by omega)
              have HN := Lib.hid hnx
              have K1 := Lib.hid hk1
              have K2 := Lib.hid hk2
              clear hnx g1 g2 hf hbad e1 hk1 hk2
              have hne : ∀ k, v.ownBlock = some k → ¬ One w1.heap.size k := fun k hk hx => by have := (hown.lt k hk).1; have hx' : k = w1.heap.size := hx; omega
              have hpne : ∀ k, (.slice a0 ps.length c0 : Value).ownBlock = some k → ¬ One w1.heap.size k := fun k hk hx => by have := (hpl k hk).1; have hx' : k = w1.heap.size := hx; omega
              have x4 := hC.cell (i := 9) rfl
              have f4 := hC.frozen 9 (by simp)
              go_wp2_with fail
              have x4d : wc.drew.cell? ⟨w5.heap.size, 9, none⟩ = some v := x4
              go_region_law (first
                  | (refine app1_step (news := [.int .i64 (pg : Int), .int .i64 (dt : Int)]) hoc (Below.refl H2 _) (Nat.le_trans hH (Nat.le_trans hc1.size hc2.size)) 55 Try.underlying55 info_open rfl (by decide) (by decide) (by omega) rfl (by simp [Value.oneCell']) rfl rfl rfl rfl ?_
                     intro v' wd hod hbd hgd
                     obtain ⟨a', cap', rfl, _⟩ := Reel.own_shape hod
                     have hCd := hCc.grown hgd (fun e => by have := (hoc.lt _ e.symm).1; omega)
                     have x4e := hCd.cell (i := 9) rfl
                     have f4e := hCd.frozen 9 (by simp))
                  | (go_simp
                     go_at_call 133
                     (with_reducible refine (K1.out _ h.drew).mono ?_)
                     rintro e wb ⟨rfl, h1, hc1⟩
                     have hCb := hC.drew.chg hc1 hcb
                     have hob := Reel.own_chg (w := wc.drew) hown hc1 hne
                     have x4a := hCb.cell (i := 9) rfl
                     clear hown)
                  | (go_simp
                     go_at_call 133
                     (with_reducible refine (K2.out _ h1).mono ?_)
                     rintro e we ⟨rfl, h2, hc2⟩
                     have hCc := hCb.chg hc2 hcb
                     have hoc := Reel.own_chg hob hc2 hne
                     have x4b := hCc.cell (i := 9) rfl
                     have x4c := (hCc.alloc (.cells #[.int .i64 (pg : Int), .int .i64 (dt : Int)] 163)).cell (i := 9) rfl
                     clear hob))
              all_goals
                have hRd := ((hR.drew.chg hc1 hbw).chg hc2 hbw).grown hgd (fun e => by have := (hoc.lt _ e.symm).1; omega)
                have hEd := h2.grown hgd (fun e => by have := (hoc.lt _ e.symm).1; omega)
                have hcc := below_one' (below_one' hc.drew hc1 hc.size hbl) hc2 (Nat.le_trans hc.size hc1.size) hbl
                have hcd := hcc.grown hgd hcc.size (fun k hk => by have := (hoc.lt k hk).1; omega)
                have hset : Chg (One w5.heap.size) wd (wd.setCell ⟨w5.heap.size, 9, none⟩ (.slice a' (acc.length + 1) cap')) := (Chg.refl _ _).put _ _
                have hcd2 := below_one' hcd hset hcd.size (by show w.heap.size ≤ w5.heap.size; omega)
                have hEd2 := hEd.chg hset (fun hx => hcb (Eq.symm hx))
                have hRd2 := hRd.chg hset (by show ¬ w.heap.size = w5.heap.size; omega)
                have hCd2 := (hCd.set 9 (.slice a' (acc.length + 1) cap'))
                have hod2 := Reel.own_chg hod hset (fun k hk hx => by have := (hod.lt k hk).1; have hx' : k = w5.heap.size := hx; omega)
                have hH2 : H2 ≤ (wd.setCell ⟨w5.heap.size, 9, none⟩ (.slice a' (acc.length + 1) cap')).heap.size := Nat.le_trans hH (Nat.le_trans hc1.size (Nat.le_trans hc2.size (Nat.le_trans hgd.size hset.size)))
                simp only [List.set] at hCd2
                have hp2 := Reel.own_chg (Reel.own_chg (Reel.own_chg (Reel.own_chg (w := wc.drew) hp hc1 hpne) hc2 hpne) (Chg.of_grown hgd) (fun k hk hx => by have := (hpl k hk).2; have := (hoc.lt k hx.symm).1; omega)) hset (fun k hk hx => by have := (hpl k hk).1; have hx' : k = w5.heap.size := hx; omega)
                have hof : (acc ++ [((pg : Int), (dt : Int))]).flatMap numCells = acc.flatMap numCells ++ [.int .i64 (pg : Int), .int .i64 (dt : Int)] := by rw [List.flatMap_append]; rfl
                have hlen1 : acc.length + 1 = (acc ++ [((pg : Int), (dt : Int))]).length := by simp
                rw [← hof] at hod2
                have HOD : Hid (World.ownsRow _ H2 163 2 (.slice a' (acc.length + 1) cap') (acc ++ [((pg : Int), (dt : Int))]).length ((acc ++ [((pg : Int), (dt : Int))]).flatMap numCells)) := Lib.hid (own_len hod2 hlen1)
                have HRD := Lib.hid hRd2
                have HCD := Lib.hid hCd2
                have HED := Lib.hid hEd2
                have HCC := Lib.hid hcd2
                clear hod2 hRd2 hCd2 hEd2 hcd2 hof hset hcd hEd hRd hoc hod hbd hgd x4e f4e x4a x4b x4c x4 f4 x4d hCd hCb hCc h1 hc1 h2 hc2 hcc h hC hR hc hlen1
                go_wp2_with fail
                exact ⟨⟨j + 1, m', acc ++ [((pg : Int), (dt : Int))], t2, .slice a' (acc.length + 1) cap', by go_num, by omega, HN.out, by have := hml; simp; try omega, by omega, HED.out, HCD.out, HRD.out, HOD.out, hH2, HCC.out, hp2⟩, by simp only [intOf]; omega⟩
            · have hst : m = 0 ∨ sj.2 = true := by
                rcases Nat.eq_zero_or_pos m with e | e
                · exact .inl e
                · exact .inr (by simpa [e] using hq)
              obtain ⟨hall, hend⟩ := HG.out.stop hst
              have HALL2 := Lib.hid hall
              have HEND2 := Lib.hid hend
              clear hq HG e1 hst hall hend
              rw [← HALL2.out] at hown
              rw [← HEND2.out] at h
              have ho := hown
              clear hown
              obtain ⟨a1, c1, rfl, hz1, _⟩ := Reel.own_shape ho
              go_wp2_with fail
              refine (cnum_of q13.out 2 rfl _ h (by omega) (by omega)).mono ?_
              rintro e wq ⟨rfl, h1, hc1⟩
              replace hc := below_one' hc hc1 hc.size hbl
              replace hR := hR.chg hc1 hbw
              replace hC := hC.chg hc1 hcb
              replace hp := Reel.own_chg hp hc1 (fun k hk hx => by have := (hp.lt k hk).1; have hx' : k = w1.heap.size := hx; omega)
              replace ho := Reel.own_chg ho hc1 (fun k hk hx => by have := (ho.lt k hk).1; have hx' : k = w1.heap.size := hx; omega)
              replace h := h1
              clear h1 hc1
              have hcp3 := hC.lt
              obtain ⟨H3, hH3⟩ : ∃ H3, H3 = wq.heap.size := ⟨_, rfl⟩
              have hbH3 : w1.heap.size < wq.heap.size := h.lt
              have hRH3 : w.heap.size < wq.heap.size := hR.lt
              have hpl : ∀ k, (.slice a0 ps.length c0 : Value).ownBlock = some k → H1 ≤ k ∧ k < H3 := fun k hk => by have := hp.lt k hk; omega
              have hol : ∀ k, (.slice a1 os.length c1 : Value).ownBlock = some k → H2 ≤ k ∧ k < H3 := fun k hk => by have := ho.lt k hk; omega
              go_wp2_with fail
              go_loopw [13] (fun i wr => ∃ (j m : Nat) (acc : List (Int × Int)) (sj : St) (v : Value), i = .int .i64 (j : Int) ∧ j + m = nd ∧ Going (getPair 2 4) ds sd m acc sj ∧ acc.length + m ≤ 65535 ∧ sj.1.length ≤ 100000 ∧ Cur wr w1.heap.size sj ∧ Row wr w5.heap.size 58 [.int .i64 v1, .int .i64 v2, .int .i64 v3, .int .i64 v4, (.slice a0 ps.length c0 : Value), .int .i64 v5, .int .i64 v6, .string (bs ky), .string (bs vl), (.slice a1 os.length c1 : Value), v] ∧ Row wr w.heap.size 58 noCells ∧ wr.ownsRow H3 165 2 v acc.length (acc.flatMap numCells) ∧ H3 ≤ wr.heap.size ∧ Below w.heap.size w wr ∧ wr.ownsRow H1 161 2 (.slice a0 ps.length c0 : Value) ps.length (ps.flatMap imgCells) ∧ wr.ownsRow H2 163 2 (.slice a1 os.length c1 : Value) os.length (os.flatMap numCells)) (fun i _ => nd - (intOf i).toNat)
              case atStart => exact ⟨0, nd, [], s11, .slice none 0 0, rfl, by omega, Going.start q14.out, by simp; omega, zs11, h, hC, hR, World.ownsRow_nil _ _ _ _, by omega, hc, hp, ho⟩
              case round =>
                clear hC hR h hc hp ho
                obtain ⟨j, m, acc, sj, v, rfl, hjm, hgo, hml, hsl, h, hC, hR, hown, hH, hc, hp, ho⟩ := hrel
                have HG := Lib.hid hgo
                clear hgo
                have e1 := h.cell (i := 1) rfl
                go_upto_region 24 with (fail)
                go_cut [132] from 123 to 132 (fun t wx => t = .bool (decide (0 < m) && !sj.2) ∧ wx = wr)
                case first =>
                  by_cases hm : m = 0
                  · have hj0 : ¬ (j : Int) < (nd : Int) := by omega
                    subst hm
                    go_wp2_with fail
                    go_meet
                    exact ⟨rfl, rfl⟩
                  · have hm' : (j : Int) < (nd : Int) := by omega
                    go_wp2_with fail
                    go_meet
                    exact ⟨by rw [show decide (0 < m) = true by simp; omega]; rfl, rfl⟩
                case rest =>
                  obtain ⟨rfl, rfl⟩ := hcut
                  cases hq : (decide (0 < m) && !sj.2)
                  rotate_left
                  · simp only [Bool.and_eq_true, decide_eq_true_eq, Bool.not_eq_true'] at hq
                    obtain ⟨hm, hbad⟩ := hq
                    obtain ⟨m', rfl⟩ : ∃ m', m = m' + 1 := ⟨m - 1, by omega⟩
                    obtain ⟨pg, t1, g1⟩ : ∃ pg t1, eNum sj 2 = (pg, t1) := ⟨_, _, rfl⟩
                    obtain ⟨dt, t2, g2⟩ : ∃ dt t2, eNum t1 4 = (dt, t2) := ⟨_, _, rfl⟩
                    have hf : (getPair 2 4) sj = (((pg : Int), (dt : Int)), t2) := by
                      unfold getPair
                      rw [g1]
                      show (((pg : Int), ((eNum t1 4).1 : Int)), (eNum t1 4).2) = _
                      rw [g2]
                    have hnx := HG.out.step hbad hf
                    have l1 := eNum_rest sj 2
                    have l2 := eNum_rest t1 4
                    rw [g1] at l1
                    rw [g2] at l2
                    simp only at l1 l2
                    have hk1 := fun (W : World) (hW : Cur W w1.heap.size sj) => cnum_of g1 2 rfl W hW (by omega) (by omega)
                    have hk2 := fun (W : World) (hW : Cur W w1.heap.size t1) => cnum_of g2 4 rfl W hW (by omega) (by omega)
                    have HN := Lib.hid hnx
                    have K1 := Lib.hid hk1
                    have K2 := Lib.hid hk2
                    clear hnx g1 g2 hf hbad e1 hk1 hk2
                    have hne : ∀ k, v.ownBlock = some k → ¬ One w1.heap.size k := fun k hk hx => by have := (hown.lt k hk).1; have hx' : k = w1.heap.size := hx; omega
                    have hpne : ∀ k, (.slice a0 ps.length c0 : Value).ownBlock = some k → ¬ One w1.heap.size k := fun k hk hx => by have := (hpl k hk).1; have hx' : k = w1.heap.size := hx; omega
                    have hone : ∀ k, (.slice a1 os.length c1 : Value).ownBlock = some k → ¬ One w1.heap.size k := fun k hk hx => by have := (hol k hk).1; have hx' : k = w1.heap.size := hx; omega
                    have x4 := hC.cell (i := 10) rfl
                    have f4 := hC.frozen 10 (by simp)
                    go_wp2_with fail
                    have x4d : wc.drew.cell? ⟨w5.heap.size, 10, none⟩ = some v := x4
                    go_region_law (first
                        | (refine app1_step (news := [.int .i64 (pg : Int), .int .i64 (dt : Int)]) hoc (Below.refl H3 _) (Nat.le_trans hH (Nat.le_trans hc1.size hc2.size)) 56 Try.underlying56 info_dirty rfl (by decide) (by decide) (by omega) rfl (by simp [Value.oneCell']) rfl rfl rfl rfl ?_
                           intro v' wd hod hbd hgd
                           obtain ⟨a', cap', rfl, _⟩ := Reel.own_shape hod
                           have hCd := hCc.grown hgd (fun e => by have := (hoc.lt _ e.symm).1; omega)
                           have x4e := hCd.cell (i := 10) rfl
                           have f4e := hCd.frozen 10 (by simp))
                        | (go_simp
                           go_at_call 133
                           (with_reducible refine (K1.out _ h.drew).mono ?_)
                           rintro e wb ⟨rfl, h1, hc1⟩
                           have hCb := hC.drew.chg hc1 hcb
                           have hob := Reel.own_chg (w := wc.drew) hown hc1 hne
                           have x4a := hCb.cell (i := 10) rfl
                           clear hown)
                        | (go_simp
                           go_at_call 133
                           (with_reducible refine (K2.out _ h1).mono ?_)
                           rintro e we ⟨rfl, h2, hc2⟩
                           have hCc := hCb.chg hc2 hcb
                           have hoc := Reel.own_chg hob hc2 hne
                           have x4b := hCc.cell (i := 10) rfl
                           have x4c := (hCc.alloc (.cells #[.int .i64 (pg : Int), .int .i64 (dt : Int)] 165)).cell (i := 10) rfl
                           clear hob))
                    all_goals
                      have hRd := ((hR.drew.chg hc1 hbw).chg hc2 hbw).grown hgd (fun e => by have := (hoc.lt _ e.symm).1; omega)
                      have hEd := h2.grown hgd (fun e => by have := (hoc.lt _ e.symm).1; omega)
                      have hcc := below_one' (below_one' hc.drew hc1 hc.size hbl) hc2 (Nat.le_trans hc.size hc1.size) hbl
                      have hcd := hcc.grown hgd hcc.size (fun k hk => by have := (hoc.lt k hk).1; omega)
                      have hset : Chg (One w5.heap.size) wd (wd.setCell ⟨w5.heap.size, 10, none⟩ (.slice a' (acc.length + 1) cap')) := (Chg.refl _ _).put _ _
                      have hcd2 := below_one' hcd hset hcd.size (by show w.heap.size ≤ w5.heap.size; omega)
                      have hEd2 := hEd.chg hset (fun hx => hcb (Eq.symm hx))
                      have hRd2 := hRd.chg hset (by show ¬ w.heap.size = w5.heap.size; omega)
                      have hCd2 := (hCd.set 10 (.slice a' (acc.length + 1) cap'))
                      have hod2 := Reel.own_chg hod hset (fun k hk hx => by have := (hod.lt k hk).1; have hx' : k = w5.heap.size := hx; omega)
                      have hH2 : H3 ≤ (wd.setCell ⟨w5.heap.size, 10, none⟩ (.slice a' (acc.length + 1) cap')).heap.size := Nat.le_trans hH (Nat.le_trans hc1.size (Nat.le_trans hc2.size (Nat.le_trans hgd.size hset.size)))
                      simp only [List.set] at hCd2
                      have hp2 := Reel.own_chg (Reel.own_chg (Reel.own_chg (Reel.own_chg (w := wc.drew) hp hc1 hpne) hc2 hpne) (Chg.of_grown hgd) (fun k hk hx => by have := (hpl k hk).2; have := (hoc.lt k hx.symm).1; omega)) hset (fun k hk hx => by have := (hpl k hk).1; have hx' : k = w5.heap.size := hx; omega)
                      have ho2 := Reel.own_chg (Reel.own_chg (Reel.own_chg (Reel.own_chg (w := wc.drew) ho hc1 hone) hc2 hone) (Chg.of_grown hgd) (fun k hk hx => by have := (hol k hk).2; have := (hoc.lt k hx.symm).1; omega)) hset (fun k hk hx => by have := (hol k hk).1; have hx' : k = w5.heap.size := hx; omega)
                      have hof : (acc ++ [((pg : Int), (dt : Int))]).flatMap numCells = acc.flatMap numCells ++ [.int .i64 (pg : Int), .int .i64 (dt : Int)] := by rw [List.flatMap_append]; rfl
                      have hlen1 : acc.length + 1 = (acc ++ [((pg : Int), (dt : Int))]).length := by simp
                      rw [← hof] at hod2
                      have HOD : Hid (World.ownsRow _ H3 165 2 (.slice a' (acc.length + 1) cap') (acc ++ [((pg : Int), (dt : Int))]).length ((acc ++ [((pg : Int), (dt : Int))]).flatMap numCells)) := Lib.hid (own_len hod2 hlen1)
                      have HRD := Lib.hid hRd2
                      have HCD := Lib.hid hCd2
                      have HED := Lib.hid hEd2
                      have HCC := Lib.hid hcd2
                      clear hod2 hRd2 hCd2 hEd2 hcd2 hof hset hcd hEd hRd hoc hod hbd hgd x4e f4e x4a x4b x4c x4 f4 x4d hCd hCb hCc h1 hc1 h2 hc2 hcc h hC hR hc hlen1
                      go_wp2_with fail
                      exact ⟨⟨j + 1, m', acc ++ [((pg : Int), (dt : Int))], t2, .slice a' (acc.length + 1) cap', by go_num, by omega, HN.out, by have := hml; simp; try omega, by omega, HED.out, HCD.out, HRD.out, HOD.out, hH2, HCC.out, hp2, ho2⟩, by simp only [intOf]; omega⟩
                  · have hst : m = 0 ∨ sj.2 = true := by
                      rcases Nat.eq_zero_or_pos m with e | e
                      · exact .inl e
                      · exact .inr (by simpa [e] using hq)
                    obtain ⟨hall, hend⟩ := HG.out.stop hst
                    have HALL3 := Lib.hid hall
                    have HEND3 := Lib.hid hend
                    clear hq HG e1 hst hall hend
                    rw [← HALL3.out] at hown
                    rw [← HEND3.out] at h
                    obtain ⟨a2, c2, rfl, hz2, _⟩ := Reel.own_shape hown
                    have b1 : ps.length ≤ np := by have := (loopP_rest getImage getImage_rest np s9).2; rw [q10.out] at this; exact this
                    have b2 : os.length ≤ no := by have := (loopP_rest (getPair 4 4) (getPair_rest 4 4) no s10).2; rw [q12.out] at this; exact this
                    have b3 : ds.length ≤ nd := by have := (loopP_rest (getPair 2 4) (getPair_rest 2 4) nd s11).2; rw [q14.out] at this; exact this
                    obtain ⟨_, _, e0, p0, u0⟩ := pairs_of_own (g := Value.string) hp rfl (by omega)
                    obtain ⟨_, _, e1, p1, u1⟩ := pairs_of_own (g := Value.int .i64) ho rfl (by omega)
                    obtain ⟨_, _, e2, p2, u2⟩ := pairs_of_own (g := Value.int .i64) hown rfl (by omega)
                    simp only [Value.slice.injEq] at e0 e1 e2
                    obtain ⟨rfl, _, rfl⟩ := e0
                    obtain ⟨rfl, _, rfl⟩ := e1
                    obtain ⟨rfl, _, rfl⟩ := e2
                    clear hp ho hown
                    obtain ⟨rc, hrc⟩ : ∃ rc : Rec, rc = ⟨v1, v2, v3, v4, v5, v6, bs ky, bs vl, ps, os, ds⟩ := ⟨_, rfl⟩
                    have hcells : ∀ x y z, rc.cells x y z = [.int .i64 v1, .int .i64 v2, .int .i64 v3, .int .i64 v4, x, .int .i64 v5, .int .i64 v6, .string (bs ky), .string (bs vl), y, z] := fun x y z => by rw [hrc]; rfl
                    have hrow := hcells (.slice a0 ps.length c0) (.slice a1 os.length c1) (.slice a2 ds.length c2)
                    rw [← hrow] at hC
                    have hsmall : Small rc := by
                      rw [hrc]
                      have kl := eTake_len s6k nk
                      have vl' := eTake_len s7v nv
                      rw [q7'.out] at kl
                      rw [q8'.out] at vl'
                      have i1 : (bs ky).size = ky.length := rfl
                      have i2 : (bs vl).size = vl.length := rfl
                      simp only at kl vl'
                      exact ⟨by show ps.length ≤ _; omega, by show os.length ≤ _; omega, by show ds.length ≤ _; omega, by show (bs ky).size ≤ _; omega, by show (bs vl).size ≤ _; omega⟩
                    have hhas : HasRec wc (.agg (rc.cells (.slice a0 ps.length c0) (.slice a1 os.length c1) (.slice a2 ds.length c2)).toArray) rc := ⟨_, _, _, _, _, _, _, _, _, rfl, by rw [hrc]; exact p0, by rw [hrc]; exact p1, by rw [hrc]; exact p2, hz0, hz1, hz2⟩
                    have hrr : refRead t.data.toList = if sd.2 = false ∧ rc.good = true ∧ rc.bytes = t.data.toList.take (n + 8) then some (rc, n + 8) else none := by
                      unfold refRead
                      rw [if_neg (by rw [HL.out]; omega), ← HN.out, if_neg (by rw [HL.out]; omega), ← hS.out, hP.out, ← hrc]
                    have hrl : ∀ v ∈ rc.cells (.slice a0 ps.length c0) (.slice a1 os.length c1) (.slice a2 ds.length c2), v.oneCell' = true := by rw [hrow]; simp [Value.oneCell']
                    have hzl : ∀ v ∈ noCells, v.oneCell' = true := by simp [noCells, noRec, Rec.cells, Value.oneCell']
                    have hlen11 : (rc.cells (.slice a0 ps.length c0) (.slice a1 os.length c1) (.slice a2 ds.length c2)).length = 11 := rfl
                    have fin : ∀ (w' : World) (a : Act), refRead t.data.toList = none → Row w' w.heap.size 58 noCells → Below w.heap.size w w' → a.tmps.getD 2 undef = .pointer (some ⟨w.heap.size, 0, none⟩) → a.tmps.getD 3 undef = .int .i64 0 → a.tmps.getD 4 undef = .bool false → a.defers = [] →
                        bodyPost Try.prog Try.f82 (fun e w' => RefOut w.heap.size (refOut t.data.toList) e w' ∧ Below w.heap.size w w') .ret a w' := fun w' a hnn hr hbb h2 h3 h4 hd =>
                      ret_row3 hr Try.results82 Try.underlying58 rfl (by kernel_rfl) h2 hd ⟨by rw [refOut_none hnn]; exact ⟨_, by rw [h3, h4]; rfl, noRec_new _ w'⟩, hbb⟩
                    have e1 := h.cell (i := 1) rfl
                    have HRR := Lib.hid hrr
                    have RL := Lib.hid hrl
                    have ZL := Lib.hid hzl
                    have FIN := Lib.hid fin
                    have HAS := Lib.hid hhas
                    have SM := Lib.hid hsmall
                    have U0 := Lib.hid u0
                    have U1 := Lib.hid u1
                    have U2 := Lib.hid u2
                    have P0 := Lib.hid p0
                    have P1 := Lib.hid p1
                    have P2 := Lib.hid p2
                    have HRC := Lib.hid hrc
                    have HC := Lib.hid hC
                    have HR := Lib.hid hR
                    have HB := Lib.hid hc
                    have L11 := Lib.hid hlen11
                    clear hrr hrl hzl fin hhas hsmall u0 u1 u2 p0 p1 p2 hrow hcells hrc hC hR hc h hlen11
                    obtain ⟨sl, sb⟩ := sd
                    simp only at e1
                    cases sb
                    · go_wp2_with (refine load_row_g HC.out 58 Try.underlying58 rfl (by kernel_rfl) (by rfl) rfl rfl ?_)
                      refine (refgood_calls _ rc _ HAS.out SM.out).mono ?_
                      rintro e w6 ⟨rfl, hb6⟩
                      have hC6 := Lib.hid (HC.out.below hb6 HC.out.lt)
                      have hR6 := Lib.hid (HR.out.below hb6 HR.out.lt)
                      have hB6 := Lib.hid (HB.out.trans (hb6.mono HB.out.size))
                      have has6 := Lib.hid (HAS.out.keep hb6)
                      cases hg : rc.good
                      · have hnn : refRead t.data.toList = none := by rw [HRR.out, if_neg (by simp [hg])]
                        have NN := Lib.hid hnn
                        clear hnn hg hb6
                        go_wp2_with (refine store_row hR6.out noCells 58 (by kernel_rfl) rfl ZL.out rfl rfl rfl rfl ?_; intro wz hRz hcz hsz)
                        exact FIN.out _ _ NN.out hRz (below_one' hB6.out hcz hB6.out.size (Nat.le_refl _)) rfl rfl rfl rfl
                      · have GG := Lib.hid hg
                        clear hg
                        go_wp2_with (refine load_row_g hC6.out 58 Try.underlying58 rfl (by kernel_rfl) (by rfl) rfl rfl ?_)
                        refine (refbytes_calls _ rc _ has6.out GG.out).mono ?_
                        rintro e w7 ⟨rfl, hb7⟩
                        have hC7 := Lib.hid (hC6.out.below hb7 hC6.out.lt)
                        have hR7 := Lib.hid (hR6.out.below hb7 hR6.out.lt)
                        have hB7 := Lib.hid (hB6.out.trans (hb7.mono hB6.out.size))
                        have hPk : ∀ {Y : Type} {g : Y → Value} {a : Option Addr} {k : Nat} {xs : List (Int × Y)}, Pairs g wc a k xs → Pairs g w7 a k xs := fun hp => (hp.keep hb6).keep hb7
                        have PK0 := Lib.hid (hPk P0.out)
                        have PK1 := Lib.hid (hPk P1.out)
                        have PK2 := Lib.hid (hPk P2.out)
                        clear hPk hb6 hb7
                        by_cases hq : rc.bytes = t.data.toList.take (n + 8)
                        · have hss : refRead t.data.toList = some (rc, n + 8) := by rw [HRR.out, if_pos (by simp [GG.out, hq])]
                          have hq1 : ((bs rc.bytes).toList == (t.extract 0 (n + 8)).toList) = true := by rw [beq_iff_eq, Bytes.toList_inj, HA.out, hq]
                          have hs8 : (t.extract 0 (n + 8)).size = n + 8 := by rw [HA.out, bs_size, List.length_take, HL.out]; omega
                          have SS := Lib.hid hss
                          clear hss hq
                          go_wp2_with (first
                            | (refine store_row hR7.out (rc.cells (.slice a0 ps.length c0) (.slice a1 os.length c1) (.slice a2 ds.length c2)) 58 (by kernel_rfl) rfl RL.out rfl rfl rfl rfl ?_; intro wz hRz hcz hsz)
                            | (refine load_row hC7.out 58 Try.underlying58 rfl (by kernel_rfl) rfl rfl rfl ?_))
                          refine ret_row3 hRz Try.results82 Try.underlying58 rfl (by kernel_rfl) rfl rfl ⟨?_, below_one' hB7.out hcz hB7.out.size (Nat.le_refl _)⟩
                          rw [refOut_some SS.out]
                          refine ⟨_, rfl, a0, _, c0, a1, _, c1, a2, _, c2, rfl, ⟨?_, ?_, ?_⟩, ⟨hz0, hz1, hz2⟩, fun ad e => (by have := U0.out ad e; omega), fun ad e => (by have := U1.out ad e; omega), fun ad e => (by have := U2.out ad e; omega)⟩
                          · rw [HRC.out]
                            exact PK0.out.chg hcz (fun ad h hx => by have := U0.out ad h; have hx' : ad.block = w.heap.size := hx; omega)
                          · rw [HRC.out]
                            exact PK1.out.chg hcz (fun ad h hx => by have := U1.out ad h; have hx' : ad.block = w.heap.size := hx; omega)
                          · rw [HRC.out]
                            exact PK2.out.chg hcz (fun ad h hx => by have := U2.out ad h; have hx' : ad.block = w.heap.size := hx; omega)
                        · have hnn : refRead t.data.toList = none := by rw [HRR.out, if_neg (fun h => hq h.2.2)]
                          have hq1 : ((bs rc.bytes).toList == (t.extract 0 (n + 8)).toList) = false := by
                            rw [beq_eq_false_iff_ne]
                            intro h
                            have h2 := Bytes.toList_inj.1 h
                            rw [HA.out] at h2
                            exact hq (bs_inj h2)
                          have NN := Lib.hid hnn
                          clear hnn hq
                          go_wp2_with (refine store_row hR7.out noCells 58 (by kernel_rfl) rfl ZL.out rfl rfl rfl rfl ?_; intro wz hRz hcz hsz)
                          exact FIN.out _ _ NN.out hRz (below_one' hB7.out hcz hB7.out.size (Nat.le_refl _)) rfl rfl rfl rfl
                    · have hnn : refRead t.data.toList = none := by rw [HRR.out, if_neg (by simp)]
                      have NN := Lib.hid hnn
                      clear hnn
                      go_wp2_with (refine store_row HR.out noCells 58 (by kernel_rfl) rfl ZL.out rfl rfl rfl rfl ?_; intro wz hRz hcz hsz)
                      exact FIN.out _ _ NN.out hRz (below_one' HB.out hcz HB.out.size (Nat.le_refl _)) rfl rfl rfl rfl

set_option maxHeartbeats 4000000 in
set_option maxRecDepth 8000 in
theorem refread_none (t : ByteArray) (w : World) (hT : t.size ≤ 100000) (h : t.size < 4 ∨ t.size < lev (t.data.toList.take 4) + 8) :
    Calls Try.prog 82 #[.string t] w fun e w' => RefOut w.heap.size (refOut t.data.toList) e w' ∧ Below w.heap.size w w' := by
  have hl : t.data.toList.length = t.size := rfl
  have hnn : refRead t.data.toList = none := by
    unfold refRead
    rw [hl]
    rcases h with h | h
    · rw [if_pos h]
    · split
      · rfl
      · first | rfl | rw [if_pos h]
  have hR : Row (w.alloc (.cells noCells.toArray 58)) w.heap.size 58 noCells := new_at rfl
  have hc : Below w.heap.size w (w.alloc (.cells noCells.toArray 58)) := (Below.refl _ _).alloc (Nat.le_refl _) _
  have hE : Cur ((w.alloc (.cells noCells.toArray 58)).alloc (.cells [.string t, .bool false].toArray 220)) (w.heap.size + 1) (t.data.toList, false) := new_at (by simp)
  replace hR := hR.alloc (.cells [.string t, .bool false].toArray 220)
  replace hc := hc.alloc (by simp) (.cells [.string t, .bool false].toArray 220)
  have hzl : ∀ v ∈ noCells, v.oneCell' = true := by simp [noCells, noRec, Rec.cells, Value.oneCell']
  have ZL := Lib.hid hzl
  have fin : ∀ (w' : World) (a : Act), Row w' w.heap.size 58 noCells → Below w.heap.size w w' → a.tmps.getD 2 undef = .pointer (some ⟨w.heap.size, 0, none⟩) → a.tmps.getD 3 undef = .int .i64 0 → a.tmps.getD 4 undef = .bool false → a.defers = [] →
      bodyPost Try.prog Try.f82 (fun e w' => RefOut w.heap.size (refOut t.data.toList) e w' ∧ Below w.heap.size w w') .ret a w' := fun w' a hr hbb h2 h3 h4 hd =>
    ret_row3 hr Try.results82 Try.underlying58 rfl (by kernel_rfl) h2 hd ⟨by rw [refOut_none hnn]; exact ⟨_, by rw [h3, h4]; rfl, noRec_new _ w'⟩, hbb⟩
  have FIN := Lib.hid fin
  have HL := Lib.hid hl
  clear hl hnn hzl fin
  by_cases h4 : t.size < 4
  · have q0 : eNum (t.data.toList, false) 4 = (0, (t.data.toList, true)) := by
      unfold eNum eTake
      rw [if_pos (by show t.data.toList.length < 4; rw [HL.out]; exact h4)]
      rfl
    have Q0 := Lib.hid q0
    clear q0 h
    go_enter Try.func82, Try.ntmps82
    go_wp2_with fail
    refine (cnum_of Q0.out 4 rfl _ hE (by omega) (by show t.data.toList.length ≤ _; rw [HL.out]; omega)).mono ?_
    rintro e w1 ⟨rfl, h1, hc1⟩
    replace hR := hR.chg hc1 (by show ¬ w.heap.size = w.heap.size + 1; omega)
    replace hc := below_one' hc hc1 hc.size (by omega)
    have x1 := h1.cell (i := 1) rfl
    clear h1 hc1 hE
    go_wp2_with (refine store_row hR noCells 58 (by kernel_rfl) rfl ZL.out rfl rfl rfl rfl ?_; intro wz hRz hcz hsz)
    exact FIN.out _ _ hRz (below_one' hc hcz hc.size (Nat.le_refl _)) rfl rfl rfl rfl
  · obtain ⟨n, hn⟩ : ∃ n, n = lev (t.data.toList.take 4) := ⟨_, rfl⟩
    have hN : t.size < n + 8 := by rw [hn]; omega
    have q0 : eNum (t.data.toList, false) 4 = (n, (t.data.toList.drop 4, false)) := by
      unfold eNum eTake
      rw [if_neg (by show ¬ t.data.toList.length < 4; rw [HL.out]; omega), hn]
    have hn4 := eNum_lt (t.data.toList, false) 4
    rw [q0] at hn4
    simp only at hn4
    have hdl : (bs (t.data.toList.drop 4)).size = t.size - 4 := by rw [bs_size, List.length_drop, HL.out]
    have n2 : ((bs (t.data.toList.drop 4)).size : Int) - 4 < (n : Int) := by rw [hdl]; omega
    have n5 : (bs (t.data.toList.drop 4)).size ≤ 100000 := by rw [hdl]; omega
    have Q0 := Lib.hid q0
    clear q0 h hn hdl
    go_enter Try.func82, Try.ntmps82
    go_wp2_with fail
    refine (cnum_of Q0.out 4 rfl _ hE (by omega) (by show t.data.toList.length ≤ _; rw [HL.out]; omega)).mono ?_
    rintro e w1 ⟨rfl, h1, hc1⟩
    replace hR := hR.chg hc1 (by show ¬ w.heap.size = w.heap.size + 1; omega)
    replace hc := below_one' hc hc1 hc.size (by omega)
    have x0 := h1.cell (i := 0) rfl
    have x1 := h1.cell (i := 1) rfl
    simp only at x0 x1
    clear h1 hc1 hE
    go_wp2_with (refine store_row hR noCells 58 (by kernel_rfl) rfl ZL.out rfl rfl rfl rfl ?_; intro wz hRz hcz hsz)
    exact FIN.out _ _ hRz (below_one' hc hcz hc.size (Nat.le_refl _)) rfl rfl rfl rfl

theorem refread_calls (t : ByteArray) (w : World) (hT : t.size ≤ 100000) :
    Calls Try.prog 82 #[.string t] w fun e w' => RefOut w.heap.size (refOut t.data.toList) e w' ∧ Below w.heap.size w w' := by
  by_cases h : t.size < 4 ∨ t.size < lev (t.data.toList.take 4) + 8
  · exact refread_none t w hT h
  · obtain ⟨h4, hN⟩ : 4 ≤ t.size ∧ lev (t.data.toList.take 4) + 8 ≤ t.size := by omega
    have hl : t.data.toList.length = t.size := rfl
    obtain ⟨s, hs⟩ : ∃ s : St, s = ((t.data.toList.take (lev (t.data.toList.take 4) + 4)).drop 4, false) := ⟨_, rfl⟩
    have hsl : s.1.length ≤ 100000 := by rw [hs]; show ((t.data.toList.take _).drop 4).length ≤ _; rw [List.length_drop, List.length_take]; omega
    obtain ⟨v1, s1, e1⟩ : ∃ v s', eNum s 1 = (v, s') := ⟨_, _, rfl⟩
    have r1 := eNum_rest s 1
    rw [e1] at r1
    obtain ⟨v2, s2, e2⟩ : ∃ v s', eNum s1 4 = (v, s') := ⟨_, _, rfl⟩
    have r2 := eNum_rest s1 4
    rw [e2] at r2
    obtain ⟨v3, s3, e3⟩ : ∃ v s', eNum s2 4 = (v, s') := ⟨_, _, rfl⟩
    have r3 := eNum_rest s2 4
    rw [e3] at r3
    obtain ⟨v4, s4, e4⟩ : ∃ v s', eNum s3 4 = (v, s') := ⟨_, _, rfl⟩
    have r4 := eNum_rest s3 4
    rw [e4] at r4
    obtain ⟨v5, s5, e5⟩ : ∃ v s', eNum s4 1 = (v, s') := ⟨_, _, rfl⟩
    have r5 := eNum_rest s4 1
    rw [e5] at r5
    obtain ⟨v6, s6, e6⟩ : ∃ v s', eNum s5 1 = (v, s') := ⟨_, _, rfl⟩
    have r6 := eNum_rest s5 1
    rw [e6] at r6
    obtain ⟨nk, s6k, e7⟩ : ∃ v s', eNum s6 1 = (v, s') := ⟨_, _, rfl⟩
    have r7 := eNum_rest s6 1
    have bk := eNum_lt s6 1
    rw [e7] at r7 bk
    obtain ⟨ky, s7, e7'⟩ : ∃ v s', eTake s6k nk = (v, s') := ⟨_, _, rfl⟩
    have r7' := eTake_rest s6k nk
    rw [e7'] at r7'
    obtain ⟨nv, s7v, e8⟩ : ∃ v s', eNum s7 1 = (v, s') := ⟨_, _, rfl⟩
    have r8 := eNum_rest s7 1
    have bv := eNum_lt s7 1
    rw [e8] at r8 bv
    obtain ⟨vl, s8, e8'⟩ : ∃ v s', eTake s7v nv = (v, s') := ⟨_, _, rfl⟩
    have r8' := eTake_rest s7v nv
    rw [e8'] at r8'
    obtain ⟨np, s9, e9⟩ : ∃ v s', eNum s8 1 = (v, s') := ⟨_, _, rfl⟩
    have r9 := eNum_rest s8 1
    have b9 := eNum_lt s8 1
    rw [e9] at r9 b9
    obtain ⟨ps, sp, e10⟩ : ∃ v s', loopP getImage np s9 = (v, s') := ⟨_, _, rfl⟩
    have r10 := (loopP_rest getImage getImage_rest np s9).1
    rw [e10] at r10
    obtain ⟨no, s10, e11⟩ : ∃ v s', eNum sp 1 = (v, s') := ⟨_, _, rfl⟩
    have r11 := eNum_rest sp 1
    have b11 := eNum_lt sp 1
    rw [e11] at r11 b11
    obtain ⟨os, so, e12⟩ : ∃ v s', loopP (getPair 4 4) no s10 = (v, s') := ⟨_, _, rfl⟩
    have r12 := (loopP_rest (getPair 4 4) (getPair_rest 4 4) no s10).1
    rw [e12] at r12
    obtain ⟨nd, s11, e13⟩ : ∃ v s', eNum so 2 = (v, s') := ⟨_, _, rfl⟩
    have r13 := eNum_rest so 2
    have b13 := eNum_lt so 2
    rw [e13] at r13 b13
    obtain ⟨ds, sd, e14⟩ : ∃ v s', loopP (getPair 2 4) nd s11 = (v, s') := ⟨_, _, rfl⟩
    have r14 := (loopP_rest (getPair 2 4) (getPair_rest 2 4) nd s11).1
    rw [e14] at r14
    have t7 : eText s6 = (ky, s7) := by unfold eText; rw [e7]; exact e7'
    have t8 : eText s7 = (vl, s8) := by unfold eText; rw [e8]; exact e8'
    have hp : parse s = (⟨v1, v2, v3, v4, v5, v6, bs ky, bs vl, ps, os, ds⟩, sd) := by simp only [parse, e1, e2, e3, e4, e5, e6, t7, t8, e9, e10, e11, e12, e13, e14]
    simp only at r1 r2 r3 r4 r5 r6 r7 r7' r8 r8' r9 r10 r11 r12 r13 r14 bk bv b9 b11 b13
    exact refread_aux t w (lev (t.data.toList.take 4)) h4 hN hT (Lib.hid rfl) s s1 s2 s3 s4 s5 s6 s6k s7 s7v s8 s9 sp s10 so s11 sd v1 v2 v3 v4 v5 v6 nk nv np no nd ky vl ps os ds hsl (Lib.hid hs)
      (Lib.hid e1) (Lib.hid e2) (Lib.hid e3) (Lib.hid e4) (Lib.hid e5) (Lib.hid e6) (Lib.hid e7) (Lib.hid e7') (Lib.hid e8) (Lib.hid e8') (Lib.hid e9) (Lib.hid e10) (Lib.hid e11) (Lib.hid e12) (Lib.hid e13) (Lib.hid e14)
      ⟨by omega, by omega, by omega, by omega, by omega, by omega, by omega, by omega, by omega, by omega, by omega, by omega, by omega, by omega, by omega, by omega, by omega, by omega, by omega, by omega⟩ (Lib.hid hp)


end Go.Proofs.Ytcfjooeagfollaa.Note

/- gaugerref07.Scan: the records with which bytes begin. -/
namespace Go.Proofs.Ytcfjooeagfollaa.Note
open Go.RowKit Go.Proofs.Ytcfjooeagfollaa.Mem Go.Proofs.Ytcfjooeagfollaa.Bytes
set_option linter.unusedSimpArgs false
set_option linter.unusedVariables false
set_option maxRecDepth 20000

theorem info_rc : (Try.prog.info? 58).map (fun i => (i.zero, i.size, i.bytes)) = some (some (.agg #[.int .i64 0, .int .i64 0, .int .i64 0, .int .i64 0, .slice none 0 0, .int .i64 0, .int .i64 0, .string ⟨#[]⟩, .string ⟨#[]⟩, .slice none 0 0, .slice none 0 0]), 11, 152) := by kernel_rfl
theorem rc_size : (Value.agg #[.int .i64 0, .int .i64 0, .int .i64 0, .int .i64 0, .slice none 0 0, .int .i64 0, .int .i64 0, .string ⟨#[]⟩, .string ⟨#[]⟩, .slice none 0 0, .slice none 0 0]).cells.size = 11 := by rfl
def RScan (B0 : Nat) (R : List Rec × List UInt8) (N : Nat) (e : Ending) (w' : World) : Prop := ∃ (ls : List Sr) (a : Option Addr) (cap : Nat), e = .returned (.tuple #[.slice a ls.length cap, .int .i64 ((N : Int) - (R.2.length : Int))]) ∧ Els Sr.recCells 11 w' a ls ∧ (∀ x ∈ ls, x.Has w' ∧ x.Caps) ∧ ls.map (fun x => x.r) = R.1 ∧ R.2.length ≤ N ∧ (∀ ad, a = some ad → B0 ≤ ad.block) ∧ ∀ x ∈ ls, x.Off (fun j => j < B0)
theorem scan_nil (n : Nat) : scanL n [] = ([], []) := by
  have : nRead [] = none := by
    cases h : nRead [] with
    | none => rfl
    | some p => have := nRead_len h; simp at this; omega
  exact scanL_none this
theorem meas' {N j n : Nat} (h : j < N) (hn : 0 < n) (z : Int) (hz : z = ((j + n : Nat) : Int)) : N - (intOf (.int .i64 z)).toNat < N - (intOf (.int .i64 (j : Int))).toNat := by
  subst hz
  show N - (((j + n : Nat) : Int)).toNat < N - ((j : Int)).toNat
  omega
set_option maxHeartbeats 8000000 in
theorem rscan_calls (s : ByteArray) (w : World) (hs : s.size ≤ 100000) :
    Calls Try.prog 27 #[.string s] w fun e w' => RScan w.heap.size (scanL s.size s.data.toList) s.size e w' ∧ Below w.heap.size w w' := by
  have hss : s.data.toList.length = s.size := rfl
  obtain ⟨R, hR⟩ : ∃ R, scanL s.size s.data.toList = R := ⟨_, rfl⟩
  rw [hR]
  have HR := Lib.hid hR
  have SS := Lib.hid hss
  clear hR hss
  have hO : (w.alloc (.cells #[] 58)).ownsRow w.heap.size 58 11 (.slice (some ⟨w.heap.size, 0, none⟩) 0 0) 0 (([] : List Sr).flatMap Sr.recCells) :=
    ⟨rfl, .inr ⟨w.heap.size, 0, #[], rfl, Nat.le_refl _, by show (w.heap.push _)[w.heap.size]? = _; rw [Array.getElem?_push, if_pos rfl], Nat.le_refl _, by decide, rfl, rfl⟩⟩
  have O0 := Lib.hid hO
  have BB0 := Lib.hid ((Below.refl w.heap.size w).alloc (Nat.le_refl _) (.cells #[] 58))
  clear hO
  go_enter Try.func27, Try.ntmps27
  go_wp2_with fail
  go_loopw [4, 5] (fun o i wr => ∃ (ls : List Sr) (rs : List Rec) (k : Nat), i = .int .i64 (k : Int) ∧ k ≤ s.size ∧ 8 * rs.length ≤ k ∧ ls.map (fun x => x.r) = rs ∧ ls.length = rs.length ∧ wr.ownsRow w.heap.size 58 11 o ls.length (ls.flatMap Sr.recCells) ∧ (∀ x ∈ ls, x.Has wr ∧ x.Caps) ∧ (∀ x ∈ ls, x.Off (fun j => o.ownBlock = some j) ∧ x.Off (fun j => j < w.heap.size)) ∧ (rs ++ (scanL s.size (s.data.toList.drop k)).1 = R.1 ∧ (scanL s.size (s.data.toList.drop k)).2 = R.2) ∧ Below w.heap.size w wr) (fun _ i _ => s.size - (intOf i).toNat)
  case atStart => exact ⟨[], [], 0, rfl, Nat.zero_le _, Nat.le_refl _, rfl, rfl, O0.out, fun x hx => (by cases hx), fun x hx => (by cases hx), ⟨by simp [HR.out], by simp [HR.out]⟩, BB0.out⟩
  case round =>
    clear O0 BB0
    obtain ⟨ls, rs, k, rfl, hks, h8, hst, hll, hO, hV, hD, hI, hB⟩ := hrel
    have O := Lib.hid hO
    have VV := Lib.hid hV
    have DD := Lib.hid hD
    have II := Lib.hid hI
    have B := Lib.hid hB
    have ST := Lib.hid hst
    have LL := Lib.hid hll
    clear hO hV hD hI hB hst hll HR
    obtain ⟨oa, ocap, rfl, _⟩ := Reel.own_shape O.out
    obtain ⟨ea, ecap, he, _, hEls, hEb⟩ := els_own (enc := Sr.recCells) (fun x => rfl) O.out rfl
    obtain ⟨rfl, rfl⟩ : oa = ea ∧ ocap = ecap := by cases he; exact ⟨rfl, rfl⟩
    have EL := Lib.hid hEls
    have EB := Lib.hid hEb
    clear hEls he hEb
    by_cases hlt : k < s.size
    rotate_left
    · obtain rfl : k = s.size := by omega
      have hI := II.out
      rw [List.drop_of_length_le (by rw [SS.out]; exact Nat.le_refl _), scan_nil] at hI
      have h1 : ¬ ((s.size : Int) < (s.size : Int)) := by omega
      have FIN := Lib.hid (show RScan w.heap.size R s.size (.returned (.tuple #[.slice oa ls.length ocap, .int .i64 (s.size : Int)])) wr from ⟨ls, oa, ocap, by rw [← hI.2]; simp, EL.out, VV.out, by rw [ST.out, ← hI.1]; simp, by rw [← hI.2]; exact Nat.zero_le _, EB.out, fun x hx => (DD.out x hx).2⟩)
      clear hI
      as_aux_lemma =>
        go_wp2_with fail
        go_ret2
        exact ⟨FIN.out, B.out⟩
    have hlt' : (k : Int) < (s.size : Int) := by omega
    obtain ⟨rest, hrest⟩ : ∃ r, s.data.toList.drop k = r := ⟨_, rfl⟩
    have hrl : rest.length + k = s.size := by rw [← hrest, List.length_drop, SS.out]; omega
    have x1 : s.extract k s.size = bs rest := by rw [extract_drop, hrest]
    have d1 : decide ((k : Int) < 0) = false := by simp
    have d2 : decide ((s.size : Int) < (k : Int)) = false := by simp; omega
    have HRE := Lib.hid hrest
    rw [hrest] at II
    have RC := refread_calls (bs rest) wr (by rw [bs_size]; omega)
    rw [show (bs rest).data.toList = rest from rfl] at RC
    have RCH := Lib.hid RC
    clear RC hrest
    go_wp2_with fail
    clear x1 d1 d2
    refine RCH.out.mono ?_
    rintro e w2 ⟨⟨v, rfl, hN⟩, kc⟩
    have LB := Lib.hid (fun j hj => O.out.lt j hj)
    have O2 := Lib.hid (own_below O.out kc)
    have V2 := Lib.hid (fun x hx => ⟨(VV.out x hx).1.keep kc, (VV.out x hx).2⟩ : ∀ x ∈ ls, x.Has w2 ∧ x.Caps)
    have B2 := Lib.hid (B.out.trans (kc.mono B.out.size))
    have E2 := Lib.hid (EL.out.keep kc)
    have NN := Lib.hid hN
    have SZ := Lib.hid kc.size
    clear kc hN RCH
    cases hq : nRead rest with
    | none =>
      have HN := NN.out
      have hq2 : refRead rest = none := by rw [refRead_eq]; exact hq
      rw [refOut_none hq2] at HN
      rw [refOut_none hq2]
      have hI1 := II.out.1
      have hI2 := II.out.2
      rw [scanL_none hq] at hI1 hI2
      have hr2 : R.2.length = rest.length := by rw [← hI2]
      have FIN := Lib.hid (show ∀ wz, Below w2.heap.size w2 wz → RScan w.heap.size R s.size (.returned (.tuple #[.slice oa ls.length ocap, .int .i64 (k : Int)])) wz from fun wz hz => ⟨ls, oa, ocap, by rw [hr2, show (s.size : Int) - (rest.length : Int) = (k : Int) by omega], E2.out.keep hz, fun x hx => ⟨(V2.out x hx).1.keep hz, (V2.out x hx).2⟩, by rw [ST.out, ← hI1]; simp, by omega, EB.out, fun x hx => (DD.out x hx).2⟩)
      obtain ⟨x, _, hxr, rfl, _, _, _⟩ := sr_of_new HN 0
      clear HN NN hI1 hI2 hr2 hq hq2
      have Z := Lib.hid (Row.new w2 58 [.int .i64 0, .int .i64 0, .int .i64 0, .int .i64 0, .slice none 0 0, .int .i64 0, .int .i64 0, .string ⟨#[]⟩, .string ⟨#[]⟩, .slice none 0 0, .slice none 0 0])
      have B3 := Lib.hid ((Below.refl w2.heap.size w2).alloc (Nat.le_refl _) (.cells #[.int .i64 0, .int .i64 0, .int .i64 0, .int .i64 0, .slice none 0 0, .int .i64 0, .int .i64 0, .string ⟨#[]⟩, .string ⟨#[]⟩, .slice none 0 0, .slice none 0 0] 58))
      as_aux_lemma =>
        go_wp2_with (refine store_row Z.out x.recCells 58 (by kernel_rfl) rfl (rc_one x) rfl rfl rfl rfl ?_; intro w3 h3 k3 z3; have B4 := Lib.hid (B3.out.trans (k3.below (B := w2.heap.size) B3.out.size (fun i e => by have e : i = w2.heap.size := e; omega))); clear h3 k3 z3)
        go_ret2
        exact ⟨FIN.out _ B4.out, B2.out.trans (B4.out.mono B2.out.size)⟩
    | some p =>
      obtain ⟨r, n⟩ := p
      have HN := NN.out
      have hq2 : refRead rest = some (r, n) := by rw [refRead_eq]; exact hq
      rw [refOut_some hq2] at HN
      rw [refOut_some hq2]
      obtain ⟨hgood, hn, hn8, hnl, hloop⟩ := nRead_len hq
      clear hloop
      have hsc := scanL_some (n := s.size) hq (by omega)
      have hI1 := II.out.1
      have hI2 := II.out.2
      rw [hsc] at hI1 hI2
      have I1 := Lib.hid hI1
      have I2 := Lib.hid hI2
      obtain ⟨x, hxt, hxr, hv, hxH, hxC, hxO⟩ := sr_of_new HN ((k : Int) + 1)
      have XT := Lib.hid hxt
      have XR := Lib.hid hxr
      have XH := Lib.hid hxH
      have XC := Lib.hid hxC
      have XO := Lib.hid hxO
      clear HN NN hI1 hI2 hsc hq hq2 hgood hxt hxr hxH hxC hxO hn
      obtain ⟨t, ⟨kd, de, pv, nx, uk, ut, ky, vl, ps, os, ds⟩, a0, c0, a1, c1, a2, c2⟩ := x
      obtain rfl : t = (k : Int) + 1 := XT.out
      have hv2 : v = .agg #[.int .i64 kd, .int .i64 de, .int .i64 pv, .int .i64 nx, .slice a0 ps.length c0, .int .i64 uk, .int .i64 ut, .string ky, .string vl, .slice a1 os.length c1, .slice a2 ds.length c2] := hv
      clear hv XT
      subst hv2
      have Z := Lib.hid (Row.new w2 58 [.int .i64 0, .int .i64 0, .int .i64 0, .int .i64 0, .slice none 0 0, .int .i64 0, .int .i64 0, .string ⟨#[]⟩, .string ⟨#[]⟩, .slice none 0 0, .slice none 0 0])
      have B3 := Lib.hid ((Below.refl w2.heap.size w2).alloc (Nat.le_refl _) (.cells #[.int .i64 0, .int .i64 0, .int .i64 0, .int .i64 0, .slice none 0 0, .int .i64 0, .int .i64 0, .string ⟨#[]⟩, .string ⟨#[]⟩, .slice none 0 0, .slice none 0 0] 58))
      have BS := Lib.hid (show w.heap.size ≤ w2.heap.size from B2.out.size)
      have HM := Lib.hid hlt
      have KN := Lib.hid (show 8 ≤ n ∧ n ≤ rest.length ∧ rest.length + k = s.size from ⟨hn8, hnl, hrl⟩)
      have hw : wrap64 ((k : Int) + (n : Int)) = ((k + n : Nat) : Int) := by unfold wrap64; omega
      have hw1 : Value.int .i64 (wrap64 ((k : Int) + (n : Int))) = .int .i64 ((k + n : Nat) : Int) := by rw [hw]
      have hw2 : Value.int .i64 ((k : Int) + (n : Int)) = .int .i64 ((k + n : Nat) : Int) := by simp
      have W0 := Lib.hid hw
      have W1 := Lib.hid hw1
      have W2 := Lib.hid hw2
      clear hw hw1 hw2
      go_wp2_with (first | (refine store_row Z.out [.int .i64 kd, .int .i64 de, .int .i64 pv, .int .i64 nx, .slice a0 ps.length c0, .int .i64 uk, .int .i64 ut, .string ky, .string vl, .slice a1 os.length c1, .slice a2 ds.length c2] 58 (by kernel_rfl) rfl (by simp [Value.oneCell']) rfl rfl rfl rfl ?_; intro w3 h3 k3 z3; have R3 := Lib.hid h3; have B4 := Lib.hid (B3.out.trans (k3.below (B := w2.heap.size) B3.out.size (fun i e => by have e : i = w2.heap.size := e; omega))); have O3 := Lib.hid (own_below O2.out B4.out); have BS3 := Lib.hid (Nat.le_trans BS.out B4.out.size); clear h3 k3 z3) | (refine load_row R3.out 58 Try.underlying58 rfl (by kernel_rfl) rfl rfl rfl ?_) | (refine app1_at (news := [.int .i64 kd, .int .i64 de, .int .i64 pv, .int .i64 nx, .slice a0 ps.length c0, .int .i64 uk, .int .i64 ut, .string ky, .string vl, .slice a1 os.length c1, .slice a2 ds.length c2]) O3.out BS3.out 44 Try.underlying44 info_rc rc_size (by decide) (by decide) (by have := LL.out; omega) rfl (by simp [Value.oneCell']) rfl rfl rfl rfl ?_; intro v' w5 O5 G5 A5; have C5 := Lib.hid (chg_grown (S := fun j => (Value.slice oa ls.length ocap).ownBlock = some j) G5 (fun k h => h)); have O5' := Lib.hid O5; have A5' := Lib.hid A5; clear O5 G5 A5))
      have hown : ∀ j, (Value.slice oa ls.length ocap).ownBlock = some j → j < wr.heap.size := fun j hj => (LB.out j hj).2
      have V5 := Lib.hid (fun x hx => ⟨((V2.out x hx).1.keep B4.out).chg C5.out (DD.out x hx).1, (V2.out x hx).2⟩ : ∀ x ∈ ls, x.Has w5 ∧ x.Caps)
      have N5 := Lib.hid ((XH.out.keep B4.out).chg C5.out (XO.out.mono (fun j hj => hown j hj)))
      have H3 := Lib.hid (fun x hx => ((V2.out x hx).1.keep B4.out).off : ∀ x ∈ ls, x.Off _)
      have H3n := Lib.hid (XH.out.keep B4.out).off
      have B5 := Lib.hid ((B2.out.trans (B4.out.mono BS.out)).trans (C5.out.below (B := w.heap.size) BS3.out (fun j hj => (LB.out j hj).1)))
      obtain ⟨a5, cap5, rfl, _⟩ := Reel.own_shape O5'.out
      have HON := Lib.hid hown
      clear hown
      go_wp2_with fail
      obtain ⟨xe, hxe⟩ : ∃ xe : Sr, xe = ⟨(k : Int) + 1, ⟨kd, de, pv, nx, uk, ut, ky, vl, ps, os, ds⟩, a0, c0, a1, c1, a2, c2⟩ := ⟨_, rfl⟩
      have hxc : xe.recCells = [.int .i64 kd, .int .i64 de, .int .i64 pv, .int .i64 nx, .slice a0 ps.length c0, .int .i64 uk, .int .i64 ut, .string ky, .string vl, .slice a1 os.length c1, .slice a2 ds.length c2] := by rw [hxe]; rfl
      have hxtr : xe.r = r := by rw [hxe, ← XR.out]
      rw [← hxe] at N5 H3n XC XO
      obtain ⟨kn1, kn2, kn3⟩ := KN.out
      go_roundw
      case rel =>
        refine ⟨ls ++ [xe], rs ++ [r], k + n, by first | exact W1.out | exact W2.out, by omega, by rw [List.length_append]; simp; omega, ?_, by rw [List.length_append, List.length_append, LL.out]; rfl, ?_, fun x hx => ?_, fun x hx => ?_, ⟨?_, ?_⟩, B5.out⟩
        · rw [List.map_append, ST.out]
          simp only [List.map_cons, List.map_nil, hxtr]
        · rw [List.flatMap_append, List.length_append, List.flatMap_cons, List.flatMap_nil, List.append_nil, hxc]
          exact O5'.out
        · rcases List.mem_append.1 hx with hx | hx
          · exact V5.out x hx
          · rw [List.mem_singleton.1 hx]; exact ⟨N5.out, XC.out⟩
        · rcases List.mem_append.1 hx with hx | hx
          · refine ⟨?_, (DD.out x hx).2⟩
            rcases A5'.out with h | ⟨j, h, hj⟩
            · rw [h]; exact (DD.out x hx).1
            · rw [h]; exact (H3.out x hx).mono (fun i e => by have e := Option.some.inj e; omega)
          · rw [List.mem_singleton.1 hx]
            refine ⟨?_, XO.out.mono (fun j hj => by have hj : j < w.heap.size := hj; have := B.out.size; show j < wr.heap.size; omega)⟩
            rcases A5'.out with h | ⟨j, h, hj⟩
            · rw [h]; exact XO.out.mono (fun j hj => HON.out j hj)
            · rw [h]; exact H3n.out.mono (fun i e => by have e := Option.some.inj e; omega)
        · rw [← List.drop_drop, HRE.out, ← I1.out, List.append_assoc]
          rfl
        · rw [← List.drop_drop, HRE.out]
          exact I2.out
      case measure => exact meas' (n := n) HM.out (by omega) _ (by first | exact W0.out | rfl | simp)
end Go.Proofs.Ytcfjooeagfollaa.Note

/- The law DiaryOpens: a reel that is opened again and again, step by step. -/
namespace Go.Proofs.Ytcfjooeagfollaa.Dia
open Go.RowKit Go.Proofs.Ytcfjooeagfollaa.Mem Go.Proofs.Ytcfjooeagfollaa.Bytes Go.Proofs.Ytcfjooeagfollaa.Mains Go.Proofs.Ytcfjooeagfollaa.Reel Go.Proofs.Ytcfjooeagfollaa.Note
set_option linter.unusedSimpArgs false
set_option linter.unusedVariables false
set_option maxRecDepth 20000

/-- A reel behind an opening: what is no record is cut off. -/
def opened (r : R) : R := if (scanL r.data.length r.data).2 = [] then r else r.cut (r.data.length - (scanL r.data.length r.data).2.length)
section
variable {w1 wr : World} {B b : Nat} {m : M} {P : R → Prop}
theorem Rl.mono {Q : R → Prop} (h : Rl w1 B b m P wr) (hq : ∀ r, P r → Q r) : Rl w1 B b m Q wr := by
  obtain ⟨d, r, h1, h2, h3⟩ := h.all
  exact ⟨⟨d, r, h1, h2, hq r h3⟩, h.pow, h.below, h.high⟩
theorem Rl.next (h : Rl w1 B b m P wr) {w' : World} (hb : Below wr.heap.size wr w') : Rl w1 B b m P w' := by
  obtain ⟨d, r, h1, h2, h3⟩ := h.all
  exact ⟨⟨d, r, is_below h1 h.pow.lt hb, fun k e => ⟨(h2 k e).1, Nat.lt_of_lt_of_le (h2 k e).2 hb.size⟩, h3⟩, h.pow.below hb h.pow.lt, h.below.trans (hb.mono h.below.size), h.high⟩
theorem Rl.append (h : Rl w1 B b M.fresh P wr) (s : ByteArray) (hf : ∀ r, P r → r.full s = false) : Calls Try.prog 26 #[.pointer (some ⟨b, 0, none⟩), .string s] wr fun e w' => e = .returned (.int .i64 0) ∧ Rl w1 B b M.fresh (fun r' => ∃ r, P r ∧ r' = r.add s) w' := by
  obtain ⟨d, r, h1, h2, h3⟩ := h.all
  have hs := h.below.size
  refine (append_calls (Tight d wr) B b M.fresh r s wr h1 h.pow (by decide)).mono ?_
  rintro e w' ⟨rfl, hR, hM, hc⟩
  have e0 := hf r h3
  have e1 : appErr M.fresh r s = 0 := by unfold appErr; rw [e0]; rfl
  have e2 : appR M.fresh r s = r.add s := by unfold appR; rw [e0]; rfl
  have e3 : appM M.fresh r s = M.fresh := by unfold appM; rw [e0]; rfl
  rw [e2] at hR
  rw [e3] at hM
  rw [e1]
  obtain ⟨d', hd', hT⟩ := is_tight hR
  have hlow : ∀ k, Tight d wr k → w1.heap.size ≤ k := fun k e => by
    rcases e with e | e
    · exact (h2 k e).1
    · omega
  refine ⟨rfl, ⟨d', _, hT, fun k e => ⟨hlow k (hd' k e).1, (hd' k e).2⟩, r, h3, rfl⟩, hM, h.below.trans (hc.below (B := w1.heap.size) hs (fun i e => ?_)), h.high⟩
  have := h.high
  rcases e with e | e | e
  · omega
  · omega
  · exact hlow i e
theorem Rl.len (h : Rl w1 B b m P wr) (n : Nat) (hn : ∀ r, P r → r.data.length = n) : Calls Try.prog 29 #[.pointer (some ⟨b, 0, none⟩)] wr fun e w' => e = .returned (.int .i64 (n : Int)) ∧ w' = wr := by
  obtain ⟨d, r, h1, h2, h3⟩ := h.all
  have := len_calls _ _ _ _ _ h1
  rwa [hn r h3] at this
theorem Rl.safe (h : Rl w1 B b m P wr) (n : Nat) (hn : ∀ r, P r → r.safe = n) : Calls Try.prog 30 #[.pointer (some ⟨b, 0, none⟩)] wr fun e w' => e = .returned (.int .i64 (n : Int)) ∧ w' = wr := by
  obtain ⟨d, r, h1, h2, h3⟩ := h.all
  have := safe_calls _ _ _ _ _ h1
  rwa [hn r h3] at this
theorem Rl.down (h : Rl w1 B b m P wr) (hon : m.on = false) : Calls Try.prog 28 #[.pointer (some ⟨b, 0, none⟩)] wr fun e w' => OpenErr 4 e ∧ Below w1.heap.size w1 w' := by
  obtain ⟨d, r, h1, h2, h3⟩ := h.all
  refine (open_down wr _ B b m r h1 h.pow hon).mono ?_
  rintro e w' ⟨h1, hb⟩
  exact ⟨h1, h.below.trans (hb.mono h.below.size)⟩
def Opened (w1 : World) (B b : Nat) (m : M) (P : R → Prop) (rs : List Rec) (e : Ending) (w' : World) : Prop := ∃ (ls : List Sr) (a : Option Addr) (cap L : Nat), e = .returned (.tuple #[.pointer (some ⟨L, 0, none⟩), .slice a ls.length cap, .int .i64 0]) ∧ Els Sr.cells 12 w' a ls ∧ (∀ x ∈ ls, x.Has w' ∧ x.Caps) ∧ ls.map (fun x => (x.t, x.r)) = stamped 0 rs ∧ Rl w1 B b m P w'
theorem Rl.opens (h : Rl w1 B b m P wr) (rs : List Rec) (Q : R → Prop) (hon : m.on = true) (hfu : m.fuse = -1) (hl : ∀ r, P r → r.data.length ≤ 100000) (hrs : ∀ r, P r → (scanL r.data.length r.data).1 = rs) (hq : ∀ r, P r → Q (opened r)) : Calls Try.prog 28 #[.pointer (some ⟨b, 0, none⟩)] wr fun e w' => Opened w1 B b m Q rs e w' := by
  obtain ⟨d, r, h1, h2, h3⟩ := h.all
  have hs := h.below.size
  refine (open_calls wr d B b m r h1 h.pow hon hfu (fun k e => (h2 k e).2) (hl r h3)).mono ?_
  rw [hrs r h3]
  rintro e w' ⟨ls, a, cap, L, mb, n, d', rfl, hE, hV, hst, hD, hc, hL, hmb, hn, ht⟩
  refine ⟨ls, a, cap, L, rfl, hE, hV, hst, ⟨d', _, hD.reel, fun k e => ⟨?_, (hD.hd k e).1⟩, hq r h3⟩, hD.pow, h.below.trans (hc.below (B := w1.heap.size) hs (fun i e => ?_)), h.high⟩
  · rcases ht k e with e | e
    · exact (h2 k e).1
    · omega
  · have := h.high
    rcases e with e | e | e | e
    · omega
    · omega
    · exact (h2 i e).1
    · omega
end
/-- The same, where what was made from w5 to w6 (the reference's answer) stays as it is. -/
structure Ro (w1 w5 w6 : World) (B b : Nat) (m : M) (P : R → Prop) (wr : World) : Prop where
  all : ∃ d r, Reel.Is wr (Tight d wr) B b r ∧ (∀ k, d = some k → (w1.heap.size ≤ k ∧ k < wr.heap.size) ∧ (k < w5.heap.size ∨ w6.heap.size ≤ k)) ∧ P r
  pow : Row wr B 147 m.cells
  below : Below w1.heap.size w1 wr
  high : w1.heap.size ≤ B ∧ w1.heap.size ≤ b
  old : B < w5.heap.size ∧ b < w5.heap.size ∧ w6.heap.size ≤ wr.heap.size
  chg : Chg (fun k => k < w5.heap.size ∨ w6.heap.size ≤ k) w6 wr
section
variable {w1 w5 w6 wr : World} {B b : Nat} {m : M} {P : R → Prop}
theorem Ro.start (h : Rl w1 B b m P w5) (hb : Below w5.heap.size w5 w6) : Ro w1 w5 w6 B b m P w6 := by
  obtain ⟨d, r, h1, h2, h3⟩ := h.all
  obtain ⟨v, hv, _⟩ := h1.2.2.2.2.2
  exact ⟨⟨d, r, is_below h1 h.pow.lt hb, fun k e => ⟨⟨(h2 k e).1, Nat.lt_of_lt_of_le (h2 k e).2 hb.size⟩, .inl (h2 k e).2⟩, h3⟩, h.pow.below hb h.pow.lt, h.below.trans (hb.mono h.below.size), h.high, ⟨h.pow.lt, hv.lt, Nat.le_refl _⟩, Chg.refl _ _⟩
theorem Ro.rl (h : Ro w1 w5 w6 B b m P wr) : Rl w1 B b m P wr := by
  obtain ⟨d, r, h1, h2, h3⟩ := h.all
  exact ⟨⟨d, r, h1, fun k e => (h2 k e).1, h3⟩, h.pow, h.below, h.high⟩
theorem Ro.mono {Q : R → Prop} (h : Ro w1 w5 w6 B b m P wr) (hq : ∀ r, P r → Q r) : Ro w1 w5 w6 B b m Q wr := by
  obtain ⟨d, r, h1, h2, h3⟩ := h.all
  exact ⟨⟨d, r, h1, h2, hq r h3⟩, h.pow, h.below, h.high, h.old, h.chg⟩
theorem Ro.next (h : Ro w1 w5 w6 B b m P wr) {w' : World} (hb : Below wr.heap.size wr w') : Ro w1 w5 w6 B b m P w' := by
  obtain ⟨d, r, h1, h2, h3⟩ := h.all
  exact ⟨⟨d, r, is_below h1 h.pow.lt hb, fun k e => ⟨⟨(h2 k e).1.1, Nat.lt_of_lt_of_le (h2 k e).1.2 hb.size⟩, (h2 k e).2⟩, h3⟩, h.pow.below hb h.pow.lt, h.below.trans (hb.mono h.below.size), h.high, ⟨h.old.1, h.old.2.1, Nat.le_trans h.old.2.2 hb.size⟩, h.chg.trans (Chg.of_below hb)⟩
def OpenedR (w1 w5 w6 : World) (B b : Nat) (m : M) (P : R → Prop) (rs : List Rec) (e : Ending) (w' : World) : Prop := ∃ (ls : List Sr) (a : Option Addr) (cap L : Nat), e = .returned (.tuple #[.pointer (some ⟨L, 0, none⟩), .slice a ls.length cap, .int .i64 0]) ∧ Els Sr.cells 12 w' a ls ∧ (∀ x ∈ ls, x.Has w' ∧ x.Caps) ∧ ls.map (fun x => (x.t, x.r)) = stamped 0 rs ∧ Ro w1 w5 w6 B b m P w'
theorem Ro.opens (h : Ro w1 w5 w6 B b m P wr) (rs : List Rec) (Q : R → Prop) (hon : m.on = true) (hfu : m.fuse = -1) (hl : ∀ r, P r → r.data.length ≤ 100000) (hrs : ∀ r, P r → (scanL r.data.length r.data).1 = rs) (hq : ∀ r, P r → Q (opened r)) : Calls Try.prog 28 #[.pointer (some ⟨b, 0, none⟩)] wr fun e w' => OpenedR w1 w5 w6 B b m Q rs e w' := by
  obtain ⟨d, r, h1, h2, h3⟩ := h.all
  have hs := h.below.size
  obtain ⟨o1, o2, o3⟩ := h.old
  refine (open_calls wr d B b m r h1 h.pow hon hfu (fun k e => (h2 k e).1.2) (hl r h3)).mono ?_
  rw [hrs r h3]
  rintro e w' ⟨ls, a, cap, L, mb, n, d', rfl, hE, hV, hst, hD, hc, hL, hmb, hn, ht⟩
  refine ⟨ls, a, cap, L, rfl, hE, hV, hst, ⟨d', _, hD.reel, fun k e => ⟨⟨?_, (hD.hd k e).1⟩, ?_⟩, hq r h3⟩, hD.pow, h.below.trans (hc.below (B := w1.heap.size) hs (fun i e => ?_)), h.high, ⟨o1, o2, Nat.le_trans o3 hc.size⟩, h.chg.next hc (fun i _ e => ?_)⟩
  · rcases ht k e with e | e
    · exact (h2 k e).1.1
    · omega
  · rcases ht k e with e | e
    · exact (h2 k e).2
    · omega
  · have := h.high
    rcases e with e | e | e | e
    · omega
    · omega
    · exact (h2 i e).1.1
    · omega
  · show i < w5.heap.size ∨ w6.heap.size ≤ i
    rcases e with e | e | e | e
    · omega
    · omega
    · exact (h2 i e).2
    · omega
/-- What the reference answered is there still. -/
theorem Ro.els (h : Ro w1 w5 w6 B b m P wr) {ls : List Sr} {a : Option Addr} (hE : Els Sr.recCells 11 w6 a ls) (ha : ∀ ad, a = some ad → w5.heap.size ≤ ad.block) : Els Sr.recCells 11 wr a ls := by
  by_cases hn : ls = []
  · subst hn
    exact Els.nil _ _ _ _
  · obtain ⟨ad, rfl, hlt, _⟩ := hE 0 (List.length_pos_iff.2 hn)
    refine hE.chg h.chg (fun ad' e => ?_)
    cases e
    have := ha ad rfl
    show ¬ (ad.block < w5.heap.size ∨ w6.heap.size ≤ ad.block)
    omega
theorem Ro.has (h : Ro w1 w5 w6 B b m P wr) {x : Sr} (hx : x.Has w6) (ho : x.Off (fun j => j < w5.heap.size)) : x.Has wr := hx.chg h.chg (ho.both hx.off)
end
theorem scan_flat {rs : List Rec} (hg : ∀ x ∈ rs, x.good = true) (n : Nat) (hn : (rs.flatMap Rec.bytes).length ≤ n) : scanL n (rs.flatMap Rec.bytes) = (rs, []) := by
  obtain ⟨j, h1, h2, h3⟩ := scan_cut rs hg (rs.flatMap Rec.bytes).length n (by rw [List.take_length]; exact hn)
  rw [List.take_length] at h2
  have h4 := h3 rs.length (Nat.le_refl _) (by rw [List.take_length]; exact Nat.le_refl _)
  rw [List.take_of_length_le h4] at h2
  have h5 := scanL_bytes n (rs.flatMap Rec.bytes)
  rw [h2] at h5
  have h6 := congrArg List.length h5
  rw [List.length_append] at h6
  exact Prod.ext h2 (List.eq_nil_of_length_eq_zero (by show (scanL n (rs.flatMap Rec.bytes)).2.length = 0; omega))
/-- The reel's bytes: as they came, or cut to its records. -/
def Come (l : List UInt8) (rs : List Rec) (r : R) : Prop := r.data = l ∨ (r.data = rs.flatMap Rec.bytes ∧ ((rs.flatMap Rec.bytes).length < l.length → r.safe = (rs.flatMap Rec.bytes).length))
def Cut (l : List UInt8) (rs : List Rec) (r : R) : Prop := r.data = rs.flatMap Rec.bytes ∧ ((rs.flatMap Rec.bytes).length < l.length → r.safe = (rs.flatMap Rec.bytes).length)
theorem come_scan {l : List UInt8} {rs : List Rec} {rest : List UInt8} (hs : scanL l.length l = (rs, rest)) (r : R) (h : Come l rs r) : (scanL r.data.length r.data).1 = rs := by
  have hg : ∀ x ∈ rs, x.good = true := fun x hx => stamped_good (n := l.length) (l := l) x (by rw [hs]; exact hx)
  rcases h with h | ⟨h, _⟩
  · rw [h, hs]
  · rw [h, scan_flat hg _ (Nat.le_refl _)]
theorem come_opened {l : List UInt8} {rs : List Rec} {rest : List UInt8} (hs : scanL l.length l = (rs, rest)) (r : R) (h : Come l rs r) : Cut l rs (opened r) := by
  have hg : ∀ x ∈ rs, x.good = true := fun x hx => stamped_good (n := l.length) (l := l) x (by rw [hs]; exact hx)
  have hb := scanL_bytes l.length l
  rw [hs] at hb
  simp only at hb
  have hz := congrArg List.length hb
  rw [List.length_append] at hz
  rcases h with h | ⟨h, h2⟩
  · unfold opened
    rw [h, hs]
    split
    · rename_i hr
      have hr : rest = [] := hr
      rw [hr, List.append_nil] at hb
      exact ⟨h.trans hb, fun hlt => by rw [hr, List.length_nil] at hz; omega⟩
    · rename_i hr
      have e : l.length - rest.length = (rs.flatMap Rec.bytes).length := by omega
      show Cut l rs (r.cut (l.length - rest.length))
      rw [e]
      refine ⟨?_, fun _ => rfl⟩
      show r.data.take _ = _
      rw [h]
      conv => lhs; rw [hb]
      exact List.take_left' rfl
  · unfold opened
    rw [h, scan_flat hg _ (Nat.le_refl _), if_pos rfl]
    exact ⟨h, h2⟩
theorem flat_part (rs : List Rec) (j : Nat) : ((rs.take j).flatMap Rec.bytes).length ≤ (rs.flatMap Rec.bytes).length := by
  conv => rhs; rw [← List.take_append_drop j rs, List.flatMap_append, List.length_append]
  omega
theorem stamped_get : ∀ (l : List Rec) (k i : Nat) (h : i < l.length), (stamped k l)[i]? = some (((k + ((l.take i).flatMap Rec.bytes).length : Nat) : Int) + 1, l[i])
  | [], k, i, h => by simp at h
  | x :: l, k, 0, h => by simp [stamped]
  | x :: l, k, i + 1, h => by
    rw [stamped, List.getElem?_cons_succ, stamped_get l _ i (by simpa using h), List.take_succ_cons, List.flatMap_cons, List.length_append, Nat.add_assoc]
    rfl
end Go.Proofs.Ytcfjooeagfollaa.Dia

/- The law DiaryOpens. -/
namespace Go.Proofs.Ytcfjooeagfollaa.Dia
open Go.RowKit Go.Proofs.Ytcfjooeagfollaa.Mem Go.Proofs.Ytcfjooeagfollaa.Bytes Go.Proofs.Ytcfjooeagfollaa.Mains Go.Proofs.Ytcfjooeagfollaa.Reel Go.Proofs.Ytcfjooeagfollaa.Note
set_option linter.unusedSimpArgs false
set_option linter.unusedVariables false
set_option maxRecDepth 20000

set_option maxHeartbeats 8000000 in
theorem opens_calls (s : ByteArray) (w : World) :
    Calls Try.prog 5 #[.string s] w fun e w' => e = .returned (.bool true) ∧ Below w.heap.size w w' := by
  have AW := Lib.hid (awake_calls w)
  by_cases hl : 2048 < s.size
  · have hl' : ((2048 : Int) < (s.size : Int)) := by omega
    go_enter Try.func5, Try.ntmps5
    go_wp2_with fail
    refine AW.out.mono ?_
    rintro e w1 ⟨rfl, hb⟩
    have FIN := Lib.hid hb
    clear hb
    go_wp2_with fail
    go_ret
    exact ⟨rfl, FIN.out⟩
  have hl' : ¬ ((2048 : Int) < (s.size : Int)) := by omega
  have HL := Lib.hid hl
  clear hl
  go_enter Try.func5, Try.ntmps5
  go_wp2_with fail
  refine AW.out.mono ?_
  rintro e w2 ⟨rfl, hb⟩
  have B3 := Lib.hid hb
  clear hb AW
  go_wp2_with fail
  refine (Mains.new_calls _).mono ?_
  rintro e w3 ⟨rfl, rfl⟩
  have M1 := Lib.hid (Row.new w2 147 M.fresh.cells)
  have K1 := Lib.hid ((Below.refl w2.heap.size w2).alloc (Nat.le_refl _) (.cells M.fresh.cells.toArray 147))
  have z1 : (w2.alloc (.cells M.fresh.cells.toArray 147)).heap.size = w2.heap.size + 1 := by simp
  have Z1 := Lib.hid z1
  clear z1
  generalize w2.alloc (.cells M.fresh.cells.toArray 147) = w3 at *
  go_wp2_with fail
  refine (Reel.new_calls w2.heap.size 4096 w3 (by have := Z1.out; omega)).mono ?_
  rintro e w4 ⟨rfl, hF, k2, z2⟩
  have M2 := Lib.hid (M1.out.below k2 M1.out.lt)
  have K2 := Lib.hid (K1.out.trans (k2.mono K1.out.size))
  have Z2 := Lib.hid z2
  rw [show room 4096 = 4096 from rfl] at hF
  have RI := Lib.hid (show Reel.Is w4 (Tight none w4) w2.heap.size w3.heap.size (R.fresh 4096) from hF.is (fun x => by
    have := Z1.out
    have := Z2.out
    rcases x with x | x
    · cases x
    · omega) (fun x => by
    have := Z2.out
    rcases x with x | x
    · cases x
    · omega) (fun k hk => .inr hk))
  clear hF k2 z2
  have R0 := Lib.hid (show Rl w w2.heap.size w3.heap.size M.fresh (fun r => r = R.fresh 4096) w4 from ⟨⟨none, _, RI.out, fun k e => (by cases e), rfl⟩, M2.out, B3.out.trans (K2.out.mono B3.out.size), B3.out.size, by have := Z1.out; have := B3.out.size; omega⟩)
  clear RI M1 M2 K1 K2 Z1 Z2 B3
  generalize w2.heap.size = B at *
  generalize w3.heap.size = b at *
  go_wp2_with fail
  refine (R0.out.append s (fun r e => by rw [e]; unfold R.full R.fresh; have := HL.out; simp; omega)).mono ?_
  rintro e w5 ⟨rfl, hR⟩
  obtain ⟨A, hA⟩ : ∃ A, scanL s.data.toList.length s.data.toList = A := ⟨_, rfl⟩
  obtain ⟨rs, rest⟩ := A
  have R5 := Lib.hid (hR.mono (Q := Come s.data.toList rs) (fun r' h => by obtain ⟨r, rfl, rfl⟩ := h; exact .inl (by show [] ++ s.data.toList = _; simp)))
  have HA := Lib.hid hA
  have hbz := congrArg List.length (scanL_bytes s.data.toList.length s.data.toList)
  rw [hA, List.length_append] at hbz
  simp only at hbz
  have hzz : s.data.toList.length = s.size := rfl
  rw [hzz] at hbz
  have GD := Lib.hid (fun x hx => stamped_good (n := s.data.toList.length) (l := s.data.toList) x (by rw [hA]; exact hx) : ∀ x ∈ rs, x.good = true)
  obtain ⟨N, hN⟩ : ∃ N, (rs.flatMap Rec.bytes).length = N := ⟨_, rfl⟩
  rw [hN] at hbz
  have HN := Lib.hid hN
  clear hR R0
  go_wp2_with fail
  have SC := rscan_calls s w5 (by have := HL.out; omega)
  rw [← hzz, hA, hzz] at SC
  clear hA hzz hN
  refine SC.mono ?_
  clear SC
  rintro e w6 ⟨⟨lw, wa, wcap, rfl, hE, hV, hrs, hle, hwa, hwo⟩, hb⟩
  simp only at hrs hle
  have hnn : (s.size : Int) - (rest.length : Int) = (N : Int) := by omega
  simp only [hnn]
  have EW := Lib.hid hE
  have VW := Lib.hid hV
  have WR := Lib.hid hrs
  have LW := Lib.hid (show lw.length = rs.length by rw [← hrs, List.length_map])
  have R6 := Lib.hid (Ro.start R5.out hb)
  have WA := Lib.hid hwa
  have WO := Lib.hid hwo
  have NS := Lib.hid (show N ≤ s.size by omega)
  clear hE hV hrs hb hle hnn hbz R5 hwa hwo
  go_wp2_with fail
  go_loopw [7] (fun q wr => ∃ k : Nat, k ≤ 2 ∧ q = .int .i64 (k : Int) ∧ Ro w w5 w6 B b M.fresh (Come s.data.toList rs) wr) (fun q _ => 2 - (intOf q).toNat)
  case atStart => exact ⟨0, by omega, rfl, R6.out⟩
  case round =>
    clear R6
    obtain ⟨q, hq, rfl, hR⟩ := hrel
    have RR := Lib.hid hR
    clear hR
    by_cases hq2 : q < 2
    rotate_left
    · obtain rfl : q = 2 := by omega
      as_aux_lemma =>
        go_wp2_with fail
        refine RR.out.rl.off.mono ?_
        rintro e w7 ⟨rfl, hR⟩
        have R7 := Lib.hid hR
        clear hR RR
        go_wp2_with fail
        refine (R7.out.down rfl).mono ?_
        rintro e w8 ⟨⟨v, u, rfl⟩, hb⟩
        have B8 := Lib.hid hb
        clear hb R7
        go_wp2_with fail
        refine (open_nil _).mono ?_
        rintro e w9 ⟨⟨v', u', rfl⟩, hb⟩
        have B9 := Lib.hid (B8.out.trans (hb.mono B8.out.size))
        clear hb B8
        go_wp2_with fail
        go_ret
        exact ⟨rfl, B9.out⟩
    have hq3 : (q : Int) < 2 := by omega
    go_wp2_with fail
    refine (RR.out.opens rs (Cut s.data.toList rs) rfl rfl (fun r h => ?_) (fun r h => come_scan HA.out r h) (fun r h => come_opened HA.out r h)).mono ?_
    · have := HL.out
      have := NS.out
      have hzz : s.data.toList.length = s.size := rfl
      rcases h with h | ⟨h, _⟩
      · rw [h, hzz]; omega
      · rw [h, HN.out]; omega
    rintro e w7 ⟨ls, a, cap, L, rfl, hE, hV, hst, hR⟩
    have hll : ls.length = lw.length := by
      have := congrArg List.length hst
      rw [List.length_map, stamped_len, ← LW.out] at this
      exact this
    have E7 := Lib.hid hE
    have V7 := Lib.hid hV
    have ST := Lib.hid hst
    have R7 := Lib.hid hR
    have EW7 := Lib.hid (hR.els EW.out WA.out)
    have VW7 := Lib.hid (fun x hx => ⟨hR.has (VW.out x hx).1 (WO.out x hx), (VW.out x hx).2⟩ : ∀ x ∈ lw, x.Has w7 ∧ x.Caps)
    have HLL := Lib.hid hll
    have LC := Lib.hid (hR.rl.len N (fun r h => by rw [h.1, HN.out]))
    have SC := Lib.hid (fun (hs : N < s.size) => hR.rl.safe N (fun r h => by
      have := h.2 (by rw [HN.out]; exact hs)
      rw [this, HN.out]))
    have d1 : ((ls.length : Int) != (lw.length : Int)) = false := by rw [hll]; simp
    have d1' : ((ls.length : Int) == (lw.length : Int)) = true := by rw [hll]; simp
    clear hE hV hst hR RR hll
    have hw : wrap64 ((q : Int) + 1) = (q : Int) + 1 := by unfold wrap64; omega
    have hw1 : Value.int .i64 (wrap64 ((q : Int) + 1)) = .int .i64 ((q + 1 : Nat) : Int) := by rw [hw]; rfl
    have hw2 : Value.int .i64 ((q : Int) + 1) = .int .i64 ((q + 1 : Nat) : Int) := rfl
    have HW := Lib.hid hw
    have HW1 := Lib.hid hw1
    have HW2 := Lib.hid hw2
    have Q2 := Lib.hid hq2
    clear hw hw1 hw2
    obtain ⟨f, hf⟩ : ∃ f : Nat → Nat, ∀ j, ((rs.take j).flatMap Rec.bytes).length = f j := ⟨_, fun _ => rfl⟩
    have hf0 : f 0 = 0 := by rw [← hf]; rfl
    have FF := Lib.hid hf
    have F0 := Lib.hid hf0
    clear hf hf0
    rcases Nat.lt_or_ge N s.size with hs | hs
    case' inl =>
      have d2 : decide ((N : Int) < (s.size : Int)) = true := by simpa using (by omega : (N : Int) < (s.size : Int))
      have d3 : (N : Int) < (s.size : Int) := by omega
      have SCC := Lib.hid (SC.out hs)
      clear SC
      go_wp2_with fail
      refine LC.out.mono ?_
      rintro e w8 ⟨rfl, h8⟩
      replace h8 := h8.symm
      subst h8
      go_wp2_with fail
      refine SCC.out.mono ?_
      rintro e w8 ⟨rfl, h8⟩
      replace h8 := h8.symm
      subst h8
      go_wp2_with fail
      clear SCC
    case' inr =>
      have d2 : decide ((N : Int) < (s.size : Int)) = false := by simpa using (by omega : (s.size : Int) ≤ (N : Int))
      have d3 : ¬ (N : Int) < (s.size : Int) := by omega
      clear SC
      go_wp2_with fail
      refine LC.out.mono ?_
      rintro e w8 ⟨rfl, h8⟩
      replace h8 := h8.symm
      subst h8
      go_wp2_with fail
    all_goals
      clear LC d1 d1' d2 d3 hs
      as_aux_lemma =>
        go_loopw [11, 12] (fun at_ i wr => ∃ j : Nat, j ≤ lw.length ∧ at_ = .int .i64 ((f j : Int) + 1) ∧ i = .int .i64 (j : Int) ∧ Below w7.heap.size w7 wr) (fun _ i _ => lw.length - (intOf i).toNat)
        case atStart => exact ⟨0, by omega, by rw [F0.out]; rfl, rfl, Below.refl _ _⟩
        case round =>
          obtain ⟨j, hj, rfl, rfl, hb⟩ := hrel
          have KN := Lib.hid hb
          clear hb
          by_cases hlt : j < lw.length
          rotate_left
          · obtain rfl : j = lw.length := by omega
            go_wp2_with fail
            go_roundw
            case rel => exact ⟨q + 1, Q2.out, by first | exact HW2.out | exact HW1.out, (R7.out.next KN.out).mono (fun r h => .inr h)⟩
            case measure => exact meas Q2.out _ (by first | exact HW.out | rfl)
          obtain ⟨ad2, rfl, _, hcell⟩ := E7.out.at (w' := wr) (by rw [HLL.out]; exact hlt) KN.out
          have hjl : j < ls.length := by rw [HLL.out]; exact hlt
          have hjr : j < rs.length := by rw [← LW.out]; exact hlt
          have hlt' : (j : Int) < (lw.length : Int) := by omega
          have hjl' : (j : Int) < (ls.length : Int) := by omega
          clear hcell
          obtain ⟨ad, rfl, _, _⟩ := EW7.out j hlt
          obtain ⟨x, hxx⟩ : ∃ x, ls[j] = x := ⟨_, rfl⟩
          obtain ⟨y, hyy⟩ : ∃ y, lw[j] = y := ⟨_, rfl⟩
          have HX := Lib.hid hxx
          have HY := Lib.hid hyy
          have hxy : x.t = (f j : Int) + 1 ∧ x.r = rs[j] := by
            have := congrArg (fun l => l[j]?) ST.out
            simp only [List.getElem?_map] at this
            rw [stamped_get rs 0 j hjr, List.getElem?_eq_getElem hjl, hxx, FF.out, Nat.zero_add] at this
            have := Option.some.inj this
            exact ⟨(Prod.mk.inj this).1, (Prod.mk.inj this).2⟩
          have hyr : y.r = rs[j] := by
            have := congrArg (fun l => l[j]?) WR.out
            simp only [List.getElem?_map] at this
            rw [List.getElem?_eq_getElem hlt, List.getElem?_eq_getElem hjr, hyy] at this
            exact Option.some.inj this
          have hyg : y.r.good = true := by rw [hyr]; exact GD.out _ (List.getElem_mem hjr)
          have hxr : x.r = y.r := by rw [hyr]; exact hxy.2
          have hfs : f (j + 1) = f j + y.r.bytes.length := by
            rw [← FF.out, ← FF.out, List.take_succ_eq_append_getElem hjr, List.flatMap_append, List.length_append, List.flatMap_cons, List.flatMap_nil, List.append_nil, ← hyr]
          have hfb : f (j + 1) ≤ 100000 := by
            have h1 := flat_part rs (j + 1)
            rw [FF.out, HN.out] at h1
            have := NS.out
            have := HL.out
            omega
          obtain ⟨vx1, vx2⟩ := V7.out x (by rw [← hxx]; exact List.getElem_mem hjl)
          obtain ⟨vy1, vy2⟩ := VW7.out y (by rw [← hyy]; exact List.getElem_mem hlt)
          have XT := Lib.hid hxy.1
          have CELL := Lib.hid (fun wx (h7 : Below w7.heap.size w7 wx) => (show wx.cell? (ad2.add (j * 12)) = some (.int .i64 ((f j : Int) + 1)) from by
            obtain ⟨ad', e, _, h, _⟩ := E7.out.at hjl h7
            cases e
            refine h _ ?_
            rw [hxx, ← hxy.1]
            rfl))
          have SCC := Lib.hid (fun wx (h7 : Below w7.heap.size w7 wx) => (show Calls Try.prog 31 #[.agg x.recCells.toArray, .agg y.recCells.toArray] wx fun e w' => e = .returned (.bool true) ∧ Below wx.heap.size wx w' from by
            have h := same_calls _ _ x.r y.r wx ((vx1.keep h7).rec vx2) ((vy1.keep h7).rec vy2) (by rw [hxr]; exact small_good hyg)
            rw [hxr, same_self] at h
            exact h))
          have BC := Lib.hid (fun wx (h7 : Below w7.heap.size w7 wx) => refbytes_calls _ y.r wx ((vy1.keep h7).rec vy2) hyg)
          obtain ⟨yb, hyb⟩ : ∃ yb, y.r.bytes = yb := ⟨_, rfl⟩
          rw [hyb] at BC hfs
          have hbz : (bs yb).size = yb.length := bs_size _
          have hwa : wrap64 ((f j : Int) + 1 + ((bs yb).size : Int)) = (f (j + 1) : Int) + 1 := by rw [hbz, hfs]; unfold wrap64; omega
          have ha1 : Value.int .i64 (wrap64 ((f j : Int) + 1 + ((bs yb).size : Int))) = .int .i64 ((f (j + 1) : Int) + 1) := by rw [hwa]
          have ha2 : Value.int .i64 ((f j : Int) + 1 + ((bs yb).size : Int)) = .int .i64 ((f (j + 1) : Int) + 1) := by rw [hbz, hfs]; push_cast; congr 1; omega
          have h8l := flat8 GD.out
          rw [HN.out] at h8l
          have hw : wrap64 ((j : Int) + 1) = (j : Int) + 1 := by have := NS.out; have := HL.out; unfold wrap64; omega
          clear h8l
          have hn1 : Value.int .i64 (wrap64 ((j : Int) + 1)) = .int .i64 ((j + 1 : Nat) : Int) := by rw [hw]; rfl
          have hn2 : Value.int .i64 ((j : Int) + 1) = .int .i64 ((j + 1 : Nat) : Int) := rfl
          have HA1 := Lib.hid ha1
          have HA2 := Lib.hid ha2
          have HN1 := Lib.hid hn1
          have HN2 := Lib.hid hn2
          have HWJ := Lib.hid hw
          have d0 : ((f j : Int) + 1 != (f j : Int) + 1) = false := by simp
          clear ha1 ha2 hn1 hn2 hxy hyr hyg hxr vx1 vx2 vy1 vy2 hxx hyy hyb hfs hfb hbz hwa hw
          have HLT := Lib.hid hlt
          go_wp2_with fail
          replace KN := Lib.hid KN.out.drew
          refine Reg.start (fun w' => Below w7.heap.size w7 w') (fun i => false) (by kernel_rfl) KN.out (fun hHeld => ?_)
          generalize wr.drew = wd at *
          refine Reg.takeI 0 (v := ?_) rfl (by kernel_rfl) (by kernel_rfl) (by kernel_rfl) (by kernel_rfl) (fun _ _ _ h => h) (by rfl) ?_ hHeld ?_
          rotate_left 1
          · (intro w hSw; (try dsimp only at hSw); go_simp; try with_reducible rfl)
          try simp only [Act.put, List.setIfInBounds_toArray, List.set_cons_zero, List.set_cons_succ]
          refine Reg.takeI 1 (v := ?_) rfl (by kernel_rfl) (by kernel_rfl) (by kernel_rfl) (by kernel_rfl) (fun _ _ _ h => h) (by rfl) ?_ hHeld ?_
          rotate_left 1
          · (intro w hSw; (try dsimp only at hSw); go_simp; try with_reducible rfl)
          try simp only [Act.put, List.setIfInBounds_toArray, List.set_cons_zero, List.set_cons_succ]
          refine Reg.takeI 2 (v := ?_) rfl (by kernel_rfl) (by kernel_rfl) (by kernel_rfl) (by kernel_rfl) (fun _ _ _ h => h) (by rfl) ?_ hHeld ?_
          rotate_left 1
          · (intro w hSw; (try dsimp only at hSw); go_simp; try with_reducible rfl)
          try simp only [Act.put, List.setIfInBounds_toArray, List.set_cons_zero, List.set_cons_succ]
          refine Reg.takeI 3 (v := ?_) rfl (by kernel_rfl) (by kernel_rfl) (by kernel_rfl) (by kernel_rfl) (fun _ _ _ h => h) (by rfl) ?_ hHeld ?_
          rotate_left 1
          · (intro w hSw; (try dsimp only at hSw); go_simp; try with_reducible rfl)
          try simp only [Act.put, List.setIfInBounds_toArray, List.set_cons_zero, List.set_cons_succ]
          refine Reg.takeI 4 (v := .int .i64 ((f j : Int) + 1)) rfl (by kernel_rfl) (by kernel_rfl) (by kernel_rfl) (by kernel_rfl) (fun _ _ _ h => h) (by rfl) ?_ hHeld ?_
          · intro w hSw
            have hcell := CELL.out w hSw
            go_simp
          try simp only [Act.put, List.setIfInBounds_toArray, List.set_cons_zero, List.set_cons_succ]
          refine Reg.takeI 5 (v := ?_) rfl (by kernel_rfl) (by kernel_rfl) (by kernel_rfl) (by kernel_rfl) (fun _ _ _ h => h) (by rfl) ?_ hHeld ?_
          rotate_left 1
          · (intro w hSw; (try dsimp only at hSw); go_simp; try with_reducible rfl)
          try simp only [Act.put, List.setIfInBounds_toArray, List.set_cons_zero, List.set_cons_succ]
          refine Reg.takeI 6 (v := ?_) rfl (by kernel_rfl) (by kernel_rfl) (by kernel_rfl) (by kernel_rfl) (fun _ _ _ h => h) (by rfl) ?_ hHeld ?_
          rotate_left 1
          · (intro w hSw; (try dsimp only at hSw); go_simp; try with_reducible rfl)
          try simp only [Act.put, List.setIfInBounds_toArray, List.set_cons_zero, List.set_cons_succ]
          refine Reg.takeI 7 (v := ?_) rfl (by kernel_rfl) (by kernel_rfl) (by kernel_rfl) (by kernel_rfl) (fun _ _ _ h => h) (by rfl) ?_ hHeld ?_
          rotate_left 1
          · (intro w hSw; (try dsimp only at hSw); go_simp; try with_reducible rfl)
          try simp only [Act.put, List.setIfInBounds_toArray, List.set_cons_zero, List.set_cons_succ]
          refine Reg.takeI 8 (v := ?_) rfl (by kernel_rfl) (by kernel_rfl) (by kernel_rfl) (by kernel_rfl) (fun _ _ _ h => h) (by rfl) ?_ hHeld ?_
          rotate_left 1
          · (intro w hSw; (try dsimp only at hSw); go_simp; try with_reducible rfl)
          try simp only [Act.put, List.setIfInBounds_toArray, List.set_cons_zero, List.set_cons_succ]
          refine Reg.takeI 9 (v := ?_) rfl (by kernel_rfl) (by kernel_rfl) (by kernel_rfl) (by kernel_rfl) (fun _ _ _ h => h) (by rfl) ?_ hHeld ?_
          rotate_left 1
          · (intro w hSw; (try dsimp only at hSw); go_simp; try with_reducible rfl)
          try simp only [Act.put, List.setIfInBounds_toArray, List.set_cons_zero, List.set_cons_succ]
          refine Reg.takeI 10 (v := ?_) rfl (by kernel_rfl) (by kernel_rfl) (by kernel_rfl) (by kernel_rfl) (fun _ _ _ h => h) (by rfl) ?_ hHeld ?_
          rotate_left 1
          · (intro w hSw; (try dsimp only at hSw); go_simp; try with_reducible rfl)
          try simp only [Act.put, List.setIfInBounds_toArray, List.set_cons_zero, List.set_cons_succ]
          refine Reg.takeI 11 (v := ?_) rfl (by kernel_rfl) (by kernel_rfl) (by kernel_rfl) (by kernel_rfl) (fun _ _ _ h => h) (by rfl) ?_ hHeld ?_
          rotate_left 1
          · (intro w hSw; (try dsimp only at hSw); go_simp; try with_reducible rfl)
          try simp only [Act.put, List.setIfInBounds_toArray, List.set_cons_zero, List.set_cons_succ]
          refine Reg.takeI 12 (v := .agg x.recCells.toArray) rfl (by kernel_rfl) (by kernel_rfl) (by kernel_rfl) (by kernel_rfl) (fun _ _ _ h => h) (by rfl) ?_ hHeld ?_
          · intro w hSw
            exact exec_elp E7.out hSw j hjl [.int .i64 x.t] x.recCells [] (by rw [HX.out, List.append_nil]; rfl) 58 Try.underlying58 rfl (by kernel_rfl) (by rfl) 0 rfl (by rfl)
          try simp only [Act.put, List.setIfInBounds_toArray, List.set_cons_zero, List.set_cons_succ]
          refine Reg.takeI 13 (v := ?_) rfl (by kernel_rfl) (by kernel_rfl) (by kernel_rfl) (by kernel_rfl) (fun _ _ _ h => h) (by rfl) ?_ hHeld ?_
          rotate_left 1
          · (intro w hSw; (try dsimp only at hSw); go_simp; try with_reducible rfl)
          try simp only [Act.put, List.setIfInBounds_toArray, List.set_cons_zero, List.set_cons_succ]
          refine Reg.takeI 14 (v := ?_) rfl (by kernel_rfl) (by kernel_rfl) (by kernel_rfl) (by kernel_rfl) (fun _ _ _ h => h) (by rfl) ?_ hHeld ?_
          rotate_left 1
          · (intro w hSw; (try dsimp only at hSw); go_simp; try with_reducible rfl)
          try simp only [Act.put, List.setIfInBounds_toArray, List.set_cons_zero, List.set_cons_succ]
          refine Reg.takeI 15 (v := ?_) rfl (by kernel_rfl) (by kernel_rfl) (by kernel_rfl) (by kernel_rfl) (fun _ _ _ h => h) (by rfl) ?_ hHeld ?_
          rotate_left 1
          · (intro w hSw; (try dsimp only at hSw); go_simp; try with_reducible rfl)
          try simp only [Act.put, List.setIfInBounds_toArray, List.set_cons_zero, List.set_cons_succ]
          refine Reg.takeI 16 (v := .agg y.recCells.toArray) rfl (by kernel_rfl) (by kernel_rfl) (by kernel_rfl) (by kernel_rfl) (fun _ _ _ h => h) (by rfl) ?_ hHeld ?_
          · intro w hSw
            exact exec_elx EW7.out hSw j hlt y HY.out 58 Try.underlying58 rfl (by kernel_rfl) (by rfl) (by rfl)
          try simp only [Act.put, List.setIfInBounds_toArray, List.set_cons_zero, List.set_cons_succ]
          refine Reg.oneI 17 rfl (by kernel_rfl) (by rfl) (fun K hK => ?_)
          go_simp
          go_at_call 31
          refine (SCC.out _ KN.out).mono ?_
          rintro e wf3 ⟨rfl, k⟩
          replace KN := Lib.hid (KN.out.trans (k.mono KN.out.size))
          clear k
          go_wp2_with fail
          refine hK.out _ _ (fun _ => KN.out) (fun hHeld => ?_)
          replace hHeld := hHeld (by first | rfl | trivial)
          clear hK K
          try simp only [Act.put, List.setIfInBounds_toArray, List.set_cons_zero, List.set_cons_succ]
          refine Reg.takeI 18 (v := ?_) rfl (by kernel_rfl) (by kernel_rfl) (by kernel_rfl) (by kernel_rfl) (fun _ _ _ h => h) (by rfl) ?_ hHeld ?_
          rotate_left 1
          · (intro w hSw; (try dsimp only at hSw); go_simp; try with_reducible rfl)
          try simp only [Act.put, List.setIfInBounds_toArray, List.set_cons_zero, List.set_cons_succ]
          refine Reg.takeI 19 (v := ?_) rfl (by kernel_rfl) (by kernel_rfl) (by kernel_rfl) (by kernel_rfl) (fun _ _ _ h => h) (by rfl) ?_ hHeld ?_
          rotate_left 1
          · (intro w hSw; (try dsimp only at hSw); go_simp; try with_reducible rfl)
          try simp only [Act.put, List.setIfInBounds_toArray, List.set_cons_zero, List.set_cons_succ]
          refine Reg.doneI (by kernel_rfl) ?_
          go_wp2_with (refine load_els EW7.out KN.out j hlt y HY.out 58 Try.underlying58 rfl (by kernel_rfl) rfl rfl rfl ?_)
          refine (BC.out _ KN.out).mono ?_
          rintro e wf4 ⟨rfl, k⟩
          replace KN := Lib.hid (KN.out.trans (k.mono KN.out.size))
          clear k
          go_wp2_with fail
          go_roundw
          case rel => exact ⟨j + 1, HLT.out, by first | exact HA2.out | exact HA1.out, by first | exact HN2.out | exact HN1.out, KN.out⟩
          case measure => exact meas HLT.out _ (by first | exact HWJ.out | rfl)
theorem opens_row (s : ByteArray) (w : World) (hs : s.size ≤ 140737488351232) :
    Calls Try.prog 5 #[.string s] w fun e w' => e = .returned (.bool true) ∧ Below w.heap.size w w' := opens_calls s w
end Go.Proofs.Ytcfjooeagfollaa.Dia
