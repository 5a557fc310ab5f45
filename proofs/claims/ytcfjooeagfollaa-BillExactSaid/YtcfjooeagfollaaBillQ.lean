/- gaugerlaw26.form, great; gaugerref26.Same of two alike. -/
import Derived.Test.YtcfjooeagfollaaBillA
import Derived.Test.YtcfjooeagfollaaPlanE
namespace Go.Proofs.Ytcfjooeagfollaa.Bill
open Go.RowKit Go.Proofs.Ytcfjooeagfollaa.Mem Go.Proofs.Ytcfjooeagfollaa.Bytes Go.Proofs.Ytcfjooeagfollaa.Num Go.Proofs.Ytcfjooeagfollaa.Sign
set_option linter.unusedSimpArgs false
set_option linter.unusedVariables false
set_option maxRecDepth 20000

theorem load_part_g {P : Program} {ops : Array Oper} {rest : List Oper} {o : Oper} {a : Act} {w : World} {Q : Exit → Act → World → Prop} {b : Nat} {e : TypeId} (pre cs post : List Value) (hr : Row w b e (pre ++ (cs ++ post))) (ty : TypeId) {d : TypeDesc} (hu : P.underlying ty = some d) (hd : d.isRow = true) (hi : (P.info? ty).map (·.size) = some cs.length)
    (hw : Region.wanted o (yielded ops a.tmps) = true) {x : Operand} (ho : o.op = .load ty x) (n : Nat) (hn : n = pre.length) (hx : a.eval x = .pointer (some ⟨b, n, none⟩))
    (h : wpList P ops Q rest (a.put o.dst (.agg cs.toArray)) w) : wpList P ops Q (o :: rest) a w :=
  wpList_step fun K hK => by
    rw [if_pos hw]
    exact wp_load_mid ty x ho b n hx cs d (fun j v hv => by
      subst hn
      refine hr.cell ?_
      obtain ⟨hj, _⟩ := List.getElem?_eq_some_iff.1 hv
      rw [List.getElem?_append_right (by omega), Nat.add_sub_cancel_left, List.getElem?_append_left hj]
      exact hv) hu hd hi (hK _ _ h)
set_option maxHeartbeats 4000000 in
theorem form_calls (m : Mv) (w : World) : Calls Try.prog 45 #[.agg m.cells.toArray] w fun e w' => e = .returned (.agg m.cells.toArray) ∧ Below w.heap.size w w' := by
  obtain ⟨k, n, a, ⟨wk, wt, ⟨kk, kn, ks⟩, ⟨hk, hn, hs⟩, ra, rc, row, c, ⟨vk, vn, vs⟩, wn⟩, p, q⟩ := m
  show Calls Try.prog 45 #[.agg #[.int .i64 k, .int .i64 n, .int .i64 a, .int .i64 wk, .int .i64 wt, .int .i64 kk, .int .i64 kn, .string ks, .int .i64 hk, .int .i64 hn, .string hs, .slice ra row.length rc, .int .i64 c, .int .i64 vk, .int .i64 vn, .string vs, .int .i64 wn, .int .i64 p, .int .i64 q]] w _
  have hX := (Row.new w 94 [.int .i64 k, .int .i64 n, .int .i64 a, .int .i64 wk, .int .i64 wt, .int .i64 kk, .int .i64 kn, .string ks, .int .i64 hk, .int .i64 hn, .string hs, .slice ra row.length rc, .int .i64 c, .int .i64 vk, .int .i64 vn, .string vs, .int .i64 wn, .int .i64 p, .int .i64 q]).alloc (.cells #[.int .i64 0, .int .i64 0, .int .i64 0, .int .i64 0, .int .i64 0, .int .i64 0, .int .i64 0, .string ⟨#[]⟩, .int .i64 0, .int .i64 0, .string ⟨#[]⟩, .slice none 0 0, .int .i64 0, .int .i64 0, .int .i64 0, .string ⟨#[]⟩, .int .i64 0, .int .i64 0, .int .i64 0] 99)
  have hY : Row ((w.alloc (.cells #[.int .i64 k, .int .i64 n, .int .i64 a, .int .i64 wk, .int .i64 wt, .int .i64 kk, .int .i64 kn, .string ks, .int .i64 hk, .int .i64 hn, .string hs, .slice ra row.length rc, .int .i64 c, .int .i64 vk, .int .i64 vn, .string vs, .int .i64 wn, .int .i64 p, .int .i64 q] 94)).alloc (.cells #[.int .i64 0, .int .i64 0, .int .i64 0, .int .i64 0, .int .i64 0, .int .i64 0, .int .i64 0, .string ⟨#[]⟩, .int .i64 0, .int .i64 0, .string ⟨#[]⟩, .slice none 0 0, .int .i64 0, .int .i64 0, .int .i64 0, .string ⟨#[]⟩, .int .i64 0, .int .i64 0, .int .i64 0] 99)) (w.heap.size + 1) 99 [.int .i64 0, .int .i64 0, .int .i64 0, .int .i64 0, .int .i64 0, .int .i64 0, .int .i64 0, .string ⟨#[]⟩, .int .i64 0, .int .i64 0, .string ⟨#[]⟩, .slice none 0 0, .int .i64 0, .int .i64 0, .int .i64 0, .string ⟨#[]⟩, .int .i64 0, .int .i64 0, .int .i64 0] := Wide.new_at (by simp)
  have hb := ((Below.refl w.heap.size w).alloc (Nat.le_refl _) (.cells #[.int .i64 k, .int .i64 n, .int .i64 a, .int .i64 wk, .int .i64 wt, .int .i64 kk, .int .i64 kn, .string ks, .int .i64 hk, .int .i64 hn, .string hs, .slice ra row.length rc, .int .i64 c, .int .i64 vk, .int .i64 vn, .string vs, .int .i64 wn, .int .i64 p, .int .i64 q] 94)).alloc (by simp) (.cells #[.int .i64 0, .int .i64 0, .int .i64 0, .int .i64 0, .int .i64 0, .int .i64 0, .int .i64 0, .string ⟨#[]⟩, .int .i64 0, .int .i64 0, .string ⟨#[]⟩, .slice none 0 0, .int .i64 0, .int .i64 0, .int .i64 0, .string ⟨#[]⟩, .int .i64 0, .int .i64 0, .int .i64 0] 99)
  have hV : Row (((w.alloc (.cells #[.int .i64 k, .int .i64 n, .int .i64 a, .int .i64 wk, .int .i64 wt, .int .i64 kk, .int .i64 kn, .string ks, .int .i64 hk, .int .i64 hn, .string hs, .slice ra row.length rc, .int .i64 c, .int .i64 vk, .int .i64 vn, .string vs, .int .i64 wn, .int .i64 p, .int .i64 q] 94)).alloc (.cells #[.int .i64 0, .int .i64 0, .int .i64 0, .int .i64 0, .int .i64 0, .int .i64 0, .int .i64 0, .string ⟨#[]⟩, .int .i64 0, .int .i64 0, .string ⟨#[]⟩, .slice none 0 0, .int .i64 0, .int .i64 0, .int .i64 0, .string ⟨#[]⟩, .int .i64 0, .int .i64 0, .int .i64 0] 99)).alloc (.cells #[.int .i64 0, .int .i64 0, .int .i64 0, .int .i64 0, .string ⟨#[]⟩, .int .i64 0, .int .i64 0, .string ⟨#[]⟩, .slice none 0 0, .int .i64 0, .int .i64 0, .int .i64 0, .string ⟨#[]⟩, .int .i64 0] 90)) (w.heap.size + 1 + 1) 90 [.int .i64 0, .int .i64 0, .int .i64 0, .int .i64 0, .string ⟨#[]⟩, .int .i64 0, .int .i64 0, .string ⟨#[]⟩, .slice none 0 0, .int .i64 0, .int .i64 0, .int .i64 0, .string ⟨#[]⟩, .int .i64 0] := Wide.new_at (by simp)
  have X := Lib.hid hX
  have X1 := Lib.hid (hX.alloc (.cells #[.int .i64 0, .int .i64 0, .int .i64 0, .int .i64 0, .string ⟨#[]⟩, .int .i64 0, .int .i64 0, .string ⟨#[]⟩, .slice none 0 0, .int .i64 0, .int .i64 0, .int .i64 0, .string ⟨#[]⟩, .int .i64 0] 90))
  have Y1 := Lib.hid (hY.alloc (.cells #[.int .i64 0, .int .i64 0, .int .i64 0, .int .i64 0, .string ⟨#[]⟩, .int .i64 0, .int .i64 0, .string ⟨#[]⟩, .slice none 0 0, .int .i64 0, .int .i64 0, .int .i64 0, .string ⟨#[]⟩, .int .i64 0] 90))
  have V1 := Lib.hid hV
  have B1 := Lib.hid (hb.alloc hb.size (.cells #[.int .i64 0, .int .i64 0, .int .i64 0, .int .i64 0, .string ⟨#[]⟩, .int .i64 0, .int .i64 0, .string ⟨#[]⟩, .slice none 0 0, .int .i64 0, .int .i64 0, .int .i64 0, .string ⟨#[]⟩, .int .i64 0] 90))
  clear hX hY hb hV
  go_enter Try.func45, Try.ntmps45
  go_wp2_with (first | (refine load_part [.int .i64 k, .int .i64 n, .int .i64 a] [.int .i64 wk, .int .i64 wt, .int .i64 kk, .int .i64 kn, .string ks, .int .i64 hk, .int .i64 hn, .string hs, .slice ra row.length rc, .int .i64 c, .int .i64 vk, .int .i64 vn, .string vs, .int .i64 wn] [.int .i64 p, .int .i64 q] X.out 90 Try.underlying90 rfl (by kernel_rfl) rfl rfl 3 rfl rfl ?_) | (refine store_row V1.out [.int .i64 wk, .int .i64 wt, .int .i64 kk, .int .i64 kn, .string ks, .int .i64 hk, .int .i64 hn, .string hs, .slice ra row.length rc, .int .i64 c, .int .i64 vk, .int .i64 vn, .string vs, .int .i64 wn] 90 (by kernel_rfl) rfl (by simp [Value.oneCell']) rfl rfl rfl rfl ?_; intro w2 h2 k2 z2; have X2 := Lib.hid (X1.out.chg k2 (fun e => by have e := (show w.heap.size = w.heap.size + 1 + 1 from e); omega)); have Y2 := Lib.hid (Y1.out.chg k2 (fun e => by have e := (show w.heap.size + 1 = w.heap.size + 1 + 1 from e); omega)); have V2 := Lib.hid h2; have B2 := Lib.hid (B1.out.trans (k2.below (B := w.heap.size) B1.out.size (fun i e => by have e := (show i = w.heap.size + 1 + 1 from e); omega))); clear h2 k2 z2; have x0 := X2.out.cell (i := 0) rfl; have x1 := X2.out.cell (i := 1) rfl; have x2 := X2.out.cell (i := 2) rfl; have x17 := X2.out.cell (i := 17) rfl; have x18 := X2.out.cell (i := 18) rfl; have v0 := V2.out.cell (i := 0) rfl; have v1 := V2.out.cell (i := 1) rfl; have v2 := V2.out.cell (i := 2) rfl; have v3 := V2.out.cell (i := 3) rfl; have v4 := V2.out.cell (i := 4) rfl; have v5 := V2.out.cell (i := 5) rfl; have v6 := V2.out.cell (i := 6) rfl; have v7 := V2.out.cell (i := 7) rfl; have v8 := V2.out.cell (i := 8) rfl; have v9 := V2.out.cell (i := 9) rfl; have v10 := V2.out.cell (i := 10) rfl; have v11 := V2.out.cell (i := 11) rfl; have v12 := V2.out.cell (i := 12) rfl; have v13 := V2.out.cell (i := 13) rfl) | (refine store_row Y2.out [.int .i64 k, .int .i64 n, .int .i64 a, .int .i64 wk, .int .i64 wt, .int .i64 kk, .int .i64 kn, .string ks, .int .i64 hk, .int .i64 hn, .string hs, .slice ra row.length rc, .int .i64 c, .int .i64 vk, .int .i64 vn, .string vs, .int .i64 wn, .int .i64 p, .int .i64 q] 99 (by kernel_rfl) rfl (by simp [Value.oneCell']) rfl rfl rfl rfl ?_; intro w3 h3 k3 z3))
  have B3 := Lib.hid (B2.out.trans (k3.below (B := w.heap.size) B2.out.size (fun i e => by have e := (show i = w.heap.size + 1 from e); omega)))
  exact ret_row h3 Try.results45 Try.underlying99 rfl (by kernel_rfl) rfl rfl ⟨rfl, B3.out⟩
set_option maxHeartbeats 4000000 in
theorem refwish_calls (x : Wsh) (rb : Option Addr) (rd : Nat) (w : World) (hV : Vs w x.ra x.row) (hU : Vs w rb x.row) (hl : x.row.length ≤ 9223372036854775807) :
    Calls Try.prog 112 #[.agg x.cells.toArray, .agg (Wsh.cells ⟨x.k, x.t, x.key, x.high, rb, rd, x.row, x.c, x.val, x.n⟩).toArray] w fun e w' => e = .returned (.bool true) ∧ Below w.heap.size w w' := by
  obtain ⟨wk, wt, ⟨kk, kn, ks⟩, ⟨hk, hn, hs⟩, ra, rc, row, c, ⟨vk, vn, vs⟩, wn⟩ := x
  simp only at hV hU hl
  show Calls Try.prog 112 #[.agg #[.int .i64 wk, .int .i64 wt, .int .i64 kk, .int .i64 kn, .string ks, .int .i64 hk, .int .i64 hn, .string hs, .slice ra row.length rc, .int .i64 c, .int .i64 vk, .int .i64 vn, .string vs, .int .i64 wn], .agg #[.int .i64 wk, .int .i64 wt, .int .i64 kk, .int .i64 kn, .string ks, .int .i64 hk, .int .i64 hn, .string hs, .slice rb row.length rd, .int .i64 c, .int .i64 vk, .int .i64 vn, .string vs, .int .i64 wn]] w _
  have hX := (Row.new w 97 [.int .i64 wk, .int .i64 wt, .int .i64 kk, .int .i64 kn, .string ks, .int .i64 hk, .int .i64 hn, .string hs, .slice ra row.length rc, .int .i64 c, .int .i64 vk, .int .i64 vn, .string vs, .int .i64 wn]).alloc (.cells #[.int .i64 wk, .int .i64 wt, .int .i64 kk, .int .i64 kn, .string ks, .int .i64 hk, .int .i64 hn, .string hs, .slice rb row.length rd, .int .i64 c, .int .i64 vk, .int .i64 vn, .string vs, .int .i64 wn] 97)
  have hY : Row ((w.alloc (.cells #[.int .i64 wk, .int .i64 wt, .int .i64 kk, .int .i64 kn, .string ks, .int .i64 hk, .int .i64 hn, .string hs, .slice ra row.length rc, .int .i64 c, .int .i64 vk, .int .i64 vn, .string vs, .int .i64 wn] 97)).alloc (.cells #[.int .i64 wk, .int .i64 wt, .int .i64 kk, .int .i64 kn, .string ks, .int .i64 hk, .int .i64 hn, .string hs, .slice rb row.length rd, .int .i64 c, .int .i64 vk, .int .i64 vn, .string vs, .int .i64 wn] 97)) (w.heap.size + 1) 97 [.int .i64 wk, .int .i64 wt, .int .i64 kk, .int .i64 kn, .string ks, .int .i64 hk, .int .i64 hn, .string hs, .slice rb row.length rd, .int .i64 c, .int .i64 vk, .int .i64 vn, .string vs, .int .i64 wn] := Wide.new_at (by simp)
  have hb := ((Below.refl w.heap.size w).alloc (Nat.le_refl _) (.cells #[.int .i64 wk, .int .i64 wt, .int .i64 kk, .int .i64 kn, .string ks, .int .i64 hk, .int .i64 hn, .string hs, .slice ra row.length rc, .int .i64 c, .int .i64 vk, .int .i64 vn, .string vs, .int .i64 wn] 97)).alloc (by simp) (.cells #[.int .i64 wk, .int .i64 wt, .int .i64 kk, .int .i64 kn, .string ks, .int .i64 hk, .int .i64 hn, .string hs, .slice rb row.length rd, .int .i64 c, .int .i64 vk, .int .i64 vn, .string vs, .int .i64 wn] 97)
  have X := Lib.hid hX
  have Y := Lib.hid hY
  have B := Lib.hid hb
  have SC := Lib.hid (vsame_calls row row ra rb rc rd _ (hV.keep hb) (hU.keep hb) hl hl)
  have x0 := hX.cell (i := 0) rfl
  have y0 := hY.cell (i := 0) rfl
  have x1 := hX.cell (i := 1) rfl
  have y1 := hY.cell (i := 1) rfl
  have x2 := hX.cell (i := 2) rfl
  have y2 := hY.cell (i := 2) rfl
  have x3 := hX.cell (i := 3) rfl
  have y3 := hY.cell (i := 3) rfl
  have x4 := hX.cell (i := 4) rfl
  have y4 := hY.cell (i := 4) rfl
  have x5 := hX.cell (i := 5) rfl
  have y5 := hY.cell (i := 5) rfl
  have x6 := hX.cell (i := 6) rfl
  have y6 := hY.cell (i := 6) rfl
  have x7 := hX.cell (i := 7) rfl
  have y7 := hY.cell (i := 7) rfl
  have x8 := hX.cell (i := 8) rfl
  have y8 := hY.cell (i := 8) rfl
  clear hX hY hb hV hU
  go_enter Try.func112, Try.ntmps112
  go_wp2_with fail
  refine SC.out.mono ?_
  rintro e w1 ⟨⟨r, hr, rfl⟩, k1⟩
  obtain rfl : r = true := by simpa using hr
  replace X := Lib.hid (X.out.below k1 X.out.lt)
  replace Y := Lib.hid (Y.out.below k1 Y.out.lt)
  replace B := Lib.hid (B.out.trans (k1.mono B.out.size))
  clear k1 hr x0 y0 x1 y1 x2 y2 x3 y3 x4 y4 x5 y5 x6 y6 x7 y7 x8 y8
  have x9 := X.out.cell (i := 9) rfl
  have y9 := Y.out.cell (i := 9) rfl
  have x10 := X.out.cell (i := 10) rfl
  have y10 := Y.out.cell (i := 10) rfl
  have x11 := X.out.cell (i := 11) rfl
  have y11 := Y.out.cell (i := 11) rfl
  have x12 := X.out.cell (i := 12) rfl
  have y12 := Y.out.cell (i := 12) rfl
  have x13 := X.out.cell (i := 13) rfl
  have y13 := Y.out.cell (i := 13) rfl
  go_wp2_with fail
  go_ret
  exact ⟨rfl, B.out⟩
set_option maxHeartbeats 4000000 in
theorem refsame_calls (x : Mv) (rb : Option Addr) (rd : Nat) (w : World) (hV : Vs w x.w.ra x.w.row) (hU : Vs w rb x.w.row) (hl : x.w.row.length ≤ 9223372036854775807) :
    Calls Try.prog 50 #[.agg x.cells.toArray, .agg (x.at rb rd).cells.toArray] w fun e w' => e = .returned (.bool true) ∧ Below w.heap.size w w' := by
  obtain ⟨k, n, a, ⟨wk, wt, ⟨kk, kn, ks⟩, ⟨hk, hn, hs⟩, ra, rc, row, c, ⟨vk, vn, vs⟩, wn⟩, p, q⟩ := x
  simp only at hV hU hl
  show Calls Try.prog 50 #[.agg #[.int .i64 k, .int .i64 n, .int .i64 a, .int .i64 wk, .int .i64 wt, .int .i64 kk, .int .i64 kn, .string ks, .int .i64 hk, .int .i64 hn, .string hs, .slice ra row.length rc, .int .i64 c, .int .i64 vk, .int .i64 vn, .string vs, .int .i64 wn, .int .i64 p, .int .i64 q], .agg #[.int .i64 k, .int .i64 n, .int .i64 a, .int .i64 wk, .int .i64 wt, .int .i64 kk, .int .i64 kn, .string ks, .int .i64 hk, .int .i64 hn, .string hs, .slice rb row.length rd, .int .i64 c, .int .i64 vk, .int .i64 vn, .string vs, .int .i64 wn, .int .i64 p, .int .i64 q]] w _
  have hX := (Row.new w 99 [.int .i64 k, .int .i64 n, .int .i64 a, .int .i64 wk, .int .i64 wt, .int .i64 kk, .int .i64 kn, .string ks, .int .i64 hk, .int .i64 hn, .string hs, .slice ra row.length rc, .int .i64 c, .int .i64 vk, .int .i64 vn, .string vs, .int .i64 wn, .int .i64 p, .int .i64 q]).alloc (.cells #[.int .i64 k, .int .i64 n, .int .i64 a, .int .i64 wk, .int .i64 wt, .int .i64 kk, .int .i64 kn, .string ks, .int .i64 hk, .int .i64 hn, .string hs, .slice rb row.length rd, .int .i64 c, .int .i64 vk, .int .i64 vn, .string vs, .int .i64 wn, .int .i64 p, .int .i64 q] 99)
  have hY : Row ((w.alloc (.cells #[.int .i64 k, .int .i64 n, .int .i64 a, .int .i64 wk, .int .i64 wt, .int .i64 kk, .int .i64 kn, .string ks, .int .i64 hk, .int .i64 hn, .string hs, .slice ra row.length rc, .int .i64 c, .int .i64 vk, .int .i64 vn, .string vs, .int .i64 wn, .int .i64 p, .int .i64 q] 99)).alloc (.cells #[.int .i64 k, .int .i64 n, .int .i64 a, .int .i64 wk, .int .i64 wt, .int .i64 kk, .int .i64 kn, .string ks, .int .i64 hk, .int .i64 hn, .string hs, .slice rb row.length rd, .int .i64 c, .int .i64 vk, .int .i64 vn, .string vs, .int .i64 wn, .int .i64 p, .int .i64 q] 99)) (w.heap.size + 1) 99 [.int .i64 k, .int .i64 n, .int .i64 a, .int .i64 wk, .int .i64 wt, .int .i64 kk, .int .i64 kn, .string ks, .int .i64 hk, .int .i64 hn, .string hs, .slice rb row.length rd, .int .i64 c, .int .i64 vk, .int .i64 vn, .string vs, .int .i64 wn, .int .i64 p, .int .i64 q] := Wide.new_at (by simp)
  have hb := ((Below.refl w.heap.size w).alloc (Nat.le_refl _) (.cells #[.int .i64 k, .int .i64 n, .int .i64 a, .int .i64 wk, .int .i64 wt, .int .i64 kk, .int .i64 kn, .string ks, .int .i64 hk, .int .i64 hn, .string hs, .slice ra row.length rc, .int .i64 c, .int .i64 vk, .int .i64 vn, .string vs, .int .i64 wn, .int .i64 p, .int .i64 q] 99)).alloc (by simp) (.cells #[.int .i64 k, .int .i64 n, .int .i64 a, .int .i64 wk, .int .i64 wt, .int .i64 kk, .int .i64 kn, .string ks, .int .i64 hk, .int .i64 hn, .string hs, .slice rb row.length rd, .int .i64 c, .int .i64 vk, .int .i64 vn, .string vs, .int .i64 wn, .int .i64 p, .int .i64 q] 99)
  have X := Lib.hid hX
  have Y := Lib.hid hY
  have B := Lib.hid hb
  have SC := Lib.hid (show Calls Try.prog 112 #[.agg #[.int .i64 wk, .int .i64 wt, .int .i64 kk, .int .i64 kn, .string ks, .int .i64 hk, .int .i64 hn, .string hs, .slice ra row.length rc, .int .i64 c, .int .i64 vk, .int .i64 vn, .string vs, .int .i64 wn], .agg #[.int .i64 wk, .int .i64 wt, .int .i64 kk, .int .i64 kn, .string ks, .int .i64 hk, .int .i64 hn, .string hs, .slice rb row.length rd, .int .i64 c, .int .i64 vk, .int .i64 vn, .string vs, .int .i64 wn]] _ _ from refwish_calls ⟨wk, wt, ⟨kk, kn, ks⟩, ⟨hk, hn, hs⟩, ra, rc, row, c, ⟨vk, vn, vs⟩, wn⟩ rb rd _ (hV.keep hb) (hU.keep hb) hl)
  have x0 := hX.cell (i := 0) rfl
  have y0 := hY.cell (i := 0) rfl
  have x1 := hX.cell (i := 1) rfl
  have y1 := hY.cell (i := 1) rfl
  have x2 := hX.cell (i := 2) rfl
  have y2 := hY.cell (i := 2) rfl
  clear hX hY hb hV hU
  go_enter Try.func50, Try.ntmps50
  go_wp2_with (first | (refine load_part_g [.int .i64 k, .int .i64 n, .int .i64 a] [.int .i64 wk, .int .i64 wt, .int .i64 kk, .int .i64 kn, .string ks, .int .i64 hk, .int .i64 hn, .string hs, .slice ra row.length rc, .int .i64 c, .int .i64 vk, .int .i64 vn, .string vs, .int .i64 wn] [.int .i64 p, .int .i64 q] X.out 97 Try.underlying97 rfl (by kernel_rfl) (by rfl) rfl 3 rfl rfl ?_) | (refine load_part_g [.int .i64 k, .int .i64 n, .int .i64 a] [.int .i64 wk, .int .i64 wt, .int .i64 kk, .int .i64 kn, .string ks, .int .i64 hk, .int .i64 hn, .string hs, .slice rb row.length rd, .int .i64 c, .int .i64 vk, .int .i64 vn, .string vs, .int .i64 wn] [.int .i64 p, .int .i64 q] Y.out 97 Try.underlying97 rfl (by kernel_rfl) (by rfl) rfl 3 rfl rfl ?_))
  refine SC.out.mono ?_
  rintro e w1 ⟨rfl, k1⟩
  replace X := Lib.hid (X.out.below k1 X.out.lt)
  replace Y := Lib.hid (Y.out.below k1 Y.out.lt)
  replace B := Lib.hid (B.out.trans (k1.mono B.out.size))
  clear k1 x0 y0 x1 y1 x2 y2
  have x17 := X.out.cell (i := 17) rfl
  have y17 := Y.out.cell (i := 17) rfl
  have x18 := X.out.cell (i := 18) rfl
  have y18 := Y.out.cell (i := 18) rfl
  go_wp2_with fail
  go_ret
  exact ⟨rfl, B.out⟩
end Go.Proofs.Ytcfjooeagfollaa.Bill
