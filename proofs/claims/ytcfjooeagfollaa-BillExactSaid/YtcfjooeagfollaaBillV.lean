/- bill.pen.move. Printed by bill_move.py -/
import Derived.Test.YtcfjooeagfollaaBillW
namespace Go.Proofs.Ytcfjooeagfollaa.Bill
open Go.RowKit Go.Proofs.Ytcfjooeagfollaa.Mem Go.Proofs.Ytcfjooeagfollaa.Bytes Go.Proofs.Ytcfjooeagfollaa.Num Go.Proofs.Ytcfjooeagfollaa.Sign
set_option linter.unusedSimpArgs false
set_option linter.unusedVariables false
set_option maxRecDepth 20000

def MovePost (F : Nat → Prop) (b : Nat) (l : List UInt8) (bad : Bool) (x : Mv) (w : World) : Prop :=
  Calls Try.prog 105 #[.pointer (some ⟨b, 0, none⟩), .agg x.cells.toArray] w fun e w' => e = .returned (.agg x.told.cells.toArray) ∧ Pen w' F b (l ++ x.bytes) (bad || x.bad) ∧ Chg (BldX.Own F b) w w'
/-- A part of a struct is loaded. -/
theorem load_part {P : Program} {ops : Array Oper} {rest : List Oper} {o : Oper} {a : Act} {w : World} {Q : Exit → Act → World → Prop} {b : Nat} {e : TypeId} (pre cs post : List Value) (hr : Row w b e (pre ++ (cs ++ post))) (ty : TypeId) {d : TypeDesc} (hu : P.underlying ty = some d) (hd : d.isRow = true) (hi : (P.info? ty).map (·.size) = some cs.length)
    (hgd : o.guard = none) {x : Operand} (ho : o.op = .load ty x) (n : Nat) (hn : n = pre.length) (hx : a.eval x = .pointer (some ⟨b, n, none⟩))
    (h : wpList P ops Q rest (a.put o.dst (.agg cs.toArray)) w) : wpList P ops Q (o :: rest) a w :=
  wpList_load_mid hgd ty x ho b n hx cs d (fun j v hv => by
    subst hn
    refine hr.cell ?_
    obtain ⟨hj, _⟩ := List.getElem?_eq_some_iff.1 hv
    rw [List.getElem?_append_right (by omega), Nat.add_sub_cancel_left, List.getElem?_append_left hj]
    exact hv) hu hd hi h
theorem Row.cells_mid {b : Nat} {e : TypeId} : ∀ (vs pre cs post : List Value) (w : World), Row w b e (pre ++ (cs ++ post)) → vs.length = cs.length → Row (w.setCells b pre.length vs) b e (pre ++ (vs ++ post))
  | [], pre, cs, post, w, h, hl => by
    obtain rfl : cs = [] := List.eq_nil_of_length_eq_zero hl.symm
    exact h
  | v :: r, pre, c :: cs, post, w, h, hl => by
    have h1 := h.set pre.length v
    have e1 : (pre ++ (c :: cs ++ post)).set pre.length v = (pre ++ [v]) ++ (cs ++ post) := by simp [List.set_append]
    rw [e1] at h1
    have h2 := Row.cells_mid r (pre ++ [v]) cs post _ h1 (by simpa using hl)
    rw [List.length_append, List.append_assoc] at h2
    exact h2
  | v :: r, pre, [], post, w, h, hl => by simp at hl
theorem setCells_size : ∀ (vs : List Value) (b o : Nat) (w : World), (w.setCells b o vs).heap.size = w.heap.size
  | [], _, _, _ => rfl
  | v :: r, b, o, w => (setCells_size r b (o + 1) _).trans (by simp [World.setCell])
/-- A part of a struct is stored. -/
theorem store_part {P : Program} {ops : Array Oper} {rest : List Oper} {o : Oper} {a : Act} {w : World} {Q : Exit → Act → World → Prop} {b : Nat} {e : TypeId} (pre cs post : List Value) (hr : Row w b e (pre ++ (cs ++ post))) (vs : List Value) (ty : TypeId) (hi : (P.info? ty).map (·.size) = some vs.length) (hl : vs.length = cs.length) (h1 : ∀ v ∈ vs, v.oneCell' = true)
    (hgd : o.guard = none) {x y : Operand} (ho : o.op = .store ty x y) (n : Nat) (hn : n = pre.length) (hx : a.eval x = .pointer (some ⟨b, n, none⟩)) (hy : a.eval y = .agg vs.toArray)
    (h : ∀ w', Row w' b e (pre ++ (vs ++ post)) → Chg (One b) w w' → w'.heap.size = w.heap.size → wpList P ops Q rest (a.put o.dst undef) w') : wpList P ops Q (o :: rest) a w := by
  subst hn
  have hth : w.there b pre.length vs.length := fun j hj => by
    have hj' : pre.length + j < (pre ++ (cs ++ post)).length := by simp only [List.length_append]; omega
    exact ⟨by rw [hr.cell (List.getElem?_eq_getElem hj')]; rfl, hr.frozen _ hj'⟩
  refine wpList_store_mid hgd ty x y ho b pre.length vs.toArray hx hy (by simpa using hth) (by simpa using hi) (all_oneCell_toArray h1) ?_
  refine h _ ?_ ?_ (setCells_size _ _ _ _)
  · exact Row.cells_mid vs pre cs post w hr hl
  · exact Chg.cells (S := One b) b rfl _ _ _ (Chg.refl _ _)

set_option maxHeartbeats 8000000 in
theorem move_14 (F : Nat → Prop) (b : Nat) (l : List UInt8) (bad : Bool) (n : Int) (wk wt kk kn : Int) (ks : ByteArray) (hk hn : Int) (hs : ByteArray) (ra : Option Addr) (rc : Nat) (row : List V) (c vk vn : Int) (vs : ByteArray) (wn p q : Int) (w : World) (h : Pen w F b l bad) (hV : Vs w ra row) (hN : ∀ ad, ra = some ad → row ≠ [] → ¬ BldX.Own F b ad.block) (hf : Wsh.fits ⟨wk, wt, ⟨kk, kn, ks⟩, ⟨hk, hn, hs⟩, ra, rc, row, c, ⟨vk, vn, vs⟩, wn⟩) (hl : l.length ≤ 70000000) (hr : row.length ≤ 1000) :
    MovePost F b l bad ⟨1, n, 4, ⟨wk, wt, ⟨kk, kn, ks⟩, ⟨hk, hn, hs⟩, ra, rc, row, c, ⟨vk, vn, vs⟩, wn⟩, p, q⟩ w := by
  unfold MovePost
  show Calls Try.prog 105 #[.pointer (some ⟨b, 0, none⟩), .agg #[.int .i64 1, .int .i64 n, .int .i64 4, .int .i64 wk, .int .i64 wt, .int .i64 kk, .int .i64 kn, .string ks, .int .i64 hk, .int .i64 hn, .string hs, .slice ra row.length rc, .int .i64 c, .int .i64 vk, .int .i64 vn, .string vs, .int .i64 wn, .int .i64 p, .int .i64 q]] w _
  obtain ⟨p3, n0, n1, n2, hm, f1, f2, ⟨q0, q5⟩, q1, q4, q3, q2, q7, q6⟩ := three h (.cells #[.int .i64 1, .int .i64 n, .int .i64 4, .int .i64 wk, .int .i64 wt, .int .i64 kk, .int .i64 kn, .string ks, .int .i64 hk, .int .i64 hn, .string hs, .slice ra row.length rc, .int .i64 c, .int .i64 vk, .int .i64 vn, .string vs, .int .i64 wn, .int .i64 p, .int .i64 q] 94) (.cells #[.int .i64 0, .int .i64 0, .int .i64 0, .int .i64 0, .int .i64 0, .int .i64 0, .int .i64 0, .string ⟨#[]⟩, .int .i64 0, .int .i64 0, .string ⟨#[]⟩, .slice none 0 0, .int .i64 0, .int .i64 0, .int .i64 0, .string ⟨#[]⟩, .int .i64 0, .int .i64 0, .int .i64 0] 94) (.cells #[.int .i64 0, .int .i64 0, .int .i64 0, .int .i64 0, .int .i64 0, .int .i64 0, .int .i64 0, .string ⟨#[]⟩, .int .i64 0, .int .i64 0, .string ⟨#[]⟩, .slice none 0 0, .int .i64 0, .int .i64 0, .int .i64 0, .string ⟨#[]⟩, .int .i64 0, .int .i64 0, .int .i64 0] 94)
  have P := Lib.hid p3
  have X := Lib.hid (((Row.new w 94 [.int .i64 1, .int .i64 n, .int .i64 4, .int .i64 wk, .int .i64 wt, .int .i64 kk, .int .i64 kn, .string ks, .int .i64 hk, .int .i64 hn, .string hs, .slice ra row.length rc, .int .i64 c, .int .i64 vk, .int .i64 vn, .string vs, .int .i64 wn, .int .i64 p, .int .i64 q]).alloc (.cells #[.int .i64 0, .int .i64 0, .int .i64 0, .int .i64 0, .int .i64 0, .int .i64 0, .int .i64 0, .string ⟨#[]⟩, .int .i64 0, .int .i64 0, .string ⟨#[]⟩, .slice none 0 0, .int .i64 0, .int .i64 0, .int .i64 0, .string ⟨#[]⟩, .int .i64 0, .int .i64 0, .int .i64 0] 94)).alloc (.cells #[.int .i64 0, .int .i64 0, .int .i64 0, .int .i64 0, .int .i64 0, .int .i64 0, .int .i64 0, .string ⟨#[]⟩, .int .i64 0, .int .i64 0, .string ⟨#[]⟩, .slice none 0 0, .int .i64 0, .int .i64 0, .int .i64 0, .string ⟨#[]⟩, .int .i64 0, .int .i64 0, .int .i64 0] 94))
  have Y := Lib.hid ((show Row ((w.alloc (.cells #[.int .i64 1, .int .i64 n, .int .i64 4, .int .i64 wk, .int .i64 wt, .int .i64 kk, .int .i64 kn, .string ks, .int .i64 hk, .int .i64 hn, .string hs, .slice ra row.length rc, .int .i64 c, .int .i64 vk, .int .i64 vn, .string vs, .int .i64 wn, .int .i64 p, .int .i64 q] 94)).alloc (.cells #[.int .i64 0, .int .i64 0, .int .i64 0, .int .i64 0, .int .i64 0, .int .i64 0, .int .i64 0, .string ⟨#[]⟩, .int .i64 0, .int .i64 0, .string ⟨#[]⟩, .slice none 0 0, .int .i64 0, .int .i64 0, .int .i64 0, .string ⟨#[]⟩, .int .i64 0, .int .i64 0, .int .i64 0] 94)) (w.heap.size + 1) 94 [.int .i64 0, .int .i64 0, .int .i64 0, .int .i64 0, .int .i64 0, .int .i64 0, .int .i64 0, .string ⟨#[]⟩, .int .i64 0, .int .i64 0, .string ⟨#[]⟩, .slice none 0 0, .int .i64 0, .int .i64 0, .int .i64 0, .string ⟨#[]⟩, .int .i64 0, .int .i64 0, .int .i64 0] from Wide.new_at (by simp)).alloc (.cells #[.int .i64 0, .int .i64 0, .int .i64 0, .int .i64 0, .int .i64 0, .int .i64 0, .int .i64 0, .string ⟨#[]⟩, .int .i64 0, .int .i64 0, .string ⟨#[]⟩, .slice none 0 0, .int .i64 0, .int .i64 0, .int .i64 0, .string ⟨#[]⟩, .int .i64 0, .int .i64 0, .int .i64 0] 94))
  have Z := Lib.hid (show Row (((w.alloc (.cells #[.int .i64 1, .int .i64 n, .int .i64 4, .int .i64 wk, .int .i64 wt, .int .i64 kk, .int .i64 kn, .string ks, .int .i64 hk, .int .i64 hn, .string hs, .slice ra row.length rc, .int .i64 c, .int .i64 vk, .int .i64 vn, .string vs, .int .i64 wn, .int .i64 p, .int .i64 q] 94)).alloc (.cells #[.int .i64 0, .int .i64 0, .int .i64 0, .int .i64 0, .int .i64 0, .int .i64 0, .int .i64 0, .string ⟨#[]⟩, .int .i64 0, .int .i64 0, .string ⟨#[]⟩, .slice none 0 0, .int .i64 0, .int .i64 0, .int .i64 0, .string ⟨#[]⟩, .int .i64 0, .int .i64 0, .int .i64 0] 94)).alloc (.cells #[.int .i64 0, .int .i64 0, .int .i64 0, .int .i64 0, .int .i64 0, .int .i64 0, .int .i64 0, .string ⟨#[]⟩, .int .i64 0, .int .i64 0, .string ⟨#[]⟩, .slice none 0 0, .int .i64 0, .int .i64 0, .int .i64 0, .string ⟨#[]⟩, .int .i64 0, .int .i64 0, .int .i64 0] 94)) (w.heap.size + 1 + 1) 94 [.int .i64 0, .int .i64 0, .int .i64 0, .int .i64 0, .int .i64 0, .int .i64 0, .int .i64 0, .string ⟨#[]⟩, .int .i64 0, .int .i64 0, .string ⟨#[]⟩, .slice none 0 0, .int .i64 0, .int .i64 0, .int .i64 0, .string ⟨#[]⟩, .int .i64 0, .int .i64 0, .int .i64 0] from Wide.new_at (by simp))
  have C := Lib.hid ((((Chg.refl (BldX.Own F b) w).alloc (.cells #[.int .i64 1, .int .i64 n, .int .i64 4, .int .i64 wk, .int .i64 wt, .int .i64 kk, .int .i64 kn, .string ks, .int .i64 hk, .int .i64 hn, .string hs, .slice ra row.length rc, .int .i64 c, .int .i64 vk, .int .i64 vn, .string vs, .int .i64 wn, .int .i64 p, .int .i64 q] 94)).alloc (.cells #[.int .i64 0, .int .i64 0, .int .i64 0, .int .i64 0, .int .i64 0, .int .i64 0, .int .i64 0, .string ⟨#[]⟩, .int .i64 0, .int .i64 0, .string ⟨#[]⟩, .slice none 0 0, .int .i64 0, .int .i64 0, .int .i64 0, .string ⟨#[]⟩, .int .i64 0, .int .i64 0, .int .i64 0] 94)).alloc (.cells #[.int .i64 0, .int .i64 0, .int .i64 0, .int .i64 0, .int .i64 0, .int .i64 0, .int .i64 0, .string ⟨#[]⟩, .int .i64 0, .int .i64 0, .string ⟨#[]⟩, .slice none 0 0, .int .i64 0, .int .i64 0, .int .i64 0, .string ⟨#[]⟩, .int .i64 0, .int .i64 0, .int .i64 0] 94))
  have VV := Lib.hid hV
  have VN := Lib.hid hN
  have FF := Lib.hid hf
  have Hn0 := Lib.hid n0
  have Hn1 := Lib.hid n1
  have Hn2 := Lib.hid n2
  have Hhm := Lib.hid hm
  have Hf1 := Lib.hid f1
  have Hf2 := Lib.hid f2
  have hb : ¬ F b := h.1
  have HB := Lib.hid hb
  have x0 := X.out.cell (i := 0) rfl
  clear p3 n0 n1 n2 hm f1 f2 h hV hN hf hb
  go_enter Try.func105, Try.ntmps105
  go_wp2_with (refine store_row Z.out [.int .i64 1, .int .i64 0, .int .i64 0, .int .i64 0, .int .i64 0, .int .i64 0, .int .i64 0, .string ⟨#[]⟩, .int .i64 0, .int .i64 0, .string ⟨#[]⟩, .slice none 0 0, .int .i64 0, .int .i64 0, .int .i64 0, .string ⟨#[]⟩, .int .i64 0, .int .i64 0, .int .i64 0] 94 (by kernel_rfl) rfl (by simp [Value.oneCell']) rfl rfl rfl rfl ?_; intro wz hz kz zz; clear x0; replace X := Lib.hid (X.out.chg kz q6); replace Y := Lib.hid (Y.out.chg kz (Ne.symm q7)); replace Z := Lib.hid hz; replace P := Lib.hid (BldX.Is.chg P.out kz (fun e => q5 (show b = _ from e)) (fun k hk e => Hn2.out (.inr ((show k = _ from e) ▸ hk)))); replace C := Lib.hid (C.out.trans (kz.mono (fun k _ e => (.inr ((show k = _ from e) ▸ Hf2.out) : BldX.Own F b k)))); clear hz kz zz; have x0 := X.out.cell (i := 0) rfl)
  clear x0
  generalize w.heap.size + 1 + 1 = s2 at *
  generalize w.heap.size + 1 = s1 at *
  generalize w.heap.size = s0 at *
  refine (one_calls _ b (l) (bad) (1) _ P.out (by (try simp only [List.length_append, List.length_cons, List.length_nil, le_length]); omega)).mono ?_
  rintro e w1 ⟨rfl, hp, kc⟩
  replace X := Lib.hid (X.out.chg kc Hn0.out)
  replace Y := Lib.hid (Y.out.chg kc Hn1.out)
  replace Z := Lib.hid (Z.out.chg kc Hn2.out)
  replace C := Lib.hid (C.out.trans (kc.mono (fun k _ e => Hhm.out k e)))
  replace P := Lib.hid hp
  clear kc hp
  have x0 := X.out.cell (i := 0) rfl
  go_wp2_with fail
  clear x0
  replace X := Lib.hid X.out.drew
  replace Y := Lib.hid Y.out.drew
  replace Z := Lib.hid Z.out.drew
  replace P := Lib.hid (BldX.Is.drew P.out)
  replace C := Lib.hid C.out.drew
  have z1 := Z.out.cell (i := 1) rfl
  have g1 := Z.out.frozen 1 (by simp)
  have z2 := Z.out.cell (i := 2) rfl
  have g2 := Z.out.frozen 2 (by simp)
  refine Reg.start (fun w' => w'.cell? ⟨s0, 1, none⟩ = some (.int .i64 n) ∧ w'.cell? ⟨s0, 2, none⟩ = some (.int .i64 4)) (fun i => false) (by kernel_rfl) ⟨X.out.cell rfl, X.out.cell rfl⟩ (fun hHeld => ?_)
  generalize w1.drew = wd at *
  refine Reg.takeI 0 (v := ?_) rfl (by kernel_rfl) (by kernel_rfl) (by kernel_rfl) (by kernel_rfl) (fun _ _ _ h => h) (by rfl) ?_ hHeld ?_
  rotate_left 1
  · (intro w hSw; (try dsimp only at hSw); go_simp; try with_reducible rfl)
  try simp only [Act.put, List.setIfInBounds_toArray, List.set_cons_zero, List.set_cons_succ]
  refine Reg.takeI 1 (v := ?_) rfl (by kernel_rfl) (by kernel_rfl) (by kernel_rfl) (by kernel_rfl) (fun _ _ _ h => h) (by rfl) ?_ hHeld ?_
  rotate_left 1
  · (intro w hSw; (try dsimp only at hSw); go_simp; try with_reducible rfl)
  try simp only [Act.put, List.setIfInBounds_toArray, List.set_cons_zero, List.set_cons_succ]
  refine Reg.takeI 2 (v := ?_) rfl (by kernel_rfl) (by kernel_rfl) (by kernel_rfl) (by kernel_rfl) (fun _ _ _ h => h) (by rfl) ?_ hHeld ?_
  rotate_left 1
  · (intro w hSw; (try dsimp only at hSw); go_simp; try with_reducible rfl)
  try simp only [Act.put, List.setIfInBounds_toArray, List.set_cons_zero, List.set_cons_succ]
  refine Reg.takeI 3 (v := ?_) rfl (by kernel_rfl) (by kernel_rfl) (by kernel_rfl) (by kernel_rfl) (fun _ _ _ h => h) (by rfl) ?_ hHeld ?_
  rotate_left 1
  · (intro w hSw; (try dsimp only at hSw); go_simp; try with_reducible rfl)
  try simp only [Act.put, List.setIfInBounds_toArray, List.set_cons_zero, List.set_cons_succ]
  refine Reg.takeI 4 (v := ?_) rfl (by kernel_rfl) (by kernel_rfl) (by kernel_rfl) (by kernel_rfl) (fun _ _ _ h => h) (by rfl) ?_ hHeld ?_
  rotate_left 1
  · (intro w hSw; (try dsimp only at hSw); go_simp; try with_reducible rfl)
  try simp only [Act.put, List.setIfInBounds_toArray, List.set_cons_zero, List.set_cons_succ]
  refine Reg.takeI 5 (v := ?_) rfl (by kernel_rfl) (by kernel_rfl) (by kernel_rfl) (by kernel_rfl) (fun _ _ _ h => h) (by rfl) ?_ hHeld ?_
  rotate_left 1
  · (intro w hSw; (try dsimp only at hSw); go_simp; try with_reducible rfl)
  try simp only [Act.put, List.setIfInBounds_toArray, List.set_cons_zero, List.set_cons_succ]
  refine Reg.oneI 6 rfl (by kernel_rfl) (by rfl) (fun K hK => ?_)
  go_simp
  replace X := Lib.hid (X.out.set_ne ⟨s2, 1, none⟩ (.int .i64 n) q2)
  refine hK.out _ _ (fun _ => ⟨X.out.cell rfl, X.out.cell rfl⟩) (fun hHeld => ?_)
  replace hHeld := hHeld (by first | rfl | trivial)
  clear hK K
  try simp only [Act.put, List.setIfInBounds_toArray, List.set_cons_zero, List.set_cons_succ]
  refine Reg.takeI 7 (v := ?_) rfl (by kernel_rfl) (by kernel_rfl) (by kernel_rfl) (by kernel_rfl) (fun _ _ _ h => h) (by rfl) ?_ hHeld ?_
  rotate_left 1
  · (intro w hSw; (try dsimp only at hSw); go_simp; try with_reducible rfl)
  try simp only [Act.put, List.setIfInBounds_toArray, List.set_cons_zero, List.set_cons_succ]
  refine Reg.takeI 8 (v := ?_) rfl (by kernel_rfl) (by kernel_rfl) (by kernel_rfl) (by kernel_rfl) (fun _ _ _ h => h) (by rfl) ?_ hHeld ?_
  rotate_left 1
  · (intro w hSw; (try dsimp only at hSw); go_simp; try with_reducible rfl)
  try simp only [Act.put, List.setIfInBounds_toArray, List.set_cons_zero, List.set_cons_succ]
  refine Reg.oneI 9 rfl (by kernel_rfl) (by rfl) (fun K hK => ?_)
  go_simp
  replace X := Lib.hid (X.out.set_ne ⟨s2, 2, none⟩ (.int .i64 4) q2)
  refine hK.out _ _ (fun _ => ⟨X.out.cell rfl, X.out.cell rfl⟩) (fun hHeld => ?_)
  replace hHeld := hHeld (by first | rfl | trivial)
  clear hK K
  try simp only [Act.put, List.setIfInBounds_toArray, List.set_cons_zero, List.set_cons_succ]
  refine Reg.doneI (by kernel_rfl) ?_
  clear hHeld
  clear z1 g1 z2 g2
  replace Y := Lib.hid ((Y.out.set_ne ⟨s2, 1, none⟩ (.int .i64 n) q7).set_ne ⟨s2, 2, none⟩ (.int .i64 4) q7)
  replace Z := Lib.hid (((Z.out.set 1 (.int .i64 n)).set 2 (.int .i64 4)).cast (cs' := [.int .i64 1, .int .i64 n, .int .i64 4, .int .i64 0, .int .i64 0, .int .i64 0, .int .i64 0, .string ⟨#[]⟩, .int .i64 0, .int .i64 0, .string ⟨#[]⟩, .slice none 0 0, .int .i64 0, .int .i64 0, .int .i64 0, .string ⟨#[]⟩, .int .i64 0, .int .i64 0, .int .i64 0]) rfl)
  replace P := Lib.hid (beyond (beyond P.out q0 Hn2.out 1 (.int .i64 n)) q0 Hn2.out 2 (.int .i64 4))
  replace C := Lib.hid (Chg.setCell (Chg.setCell C.out (a := ⟨s2, 1, none⟩) (fun _ => (.inr Hf2.out : BldX.Own F b s2)) (.int .i64 n)) (a := ⟨s2, 2, none⟩) (fun _ => (.inr Hf2.out : BldX.Own F b s2)) (.int .i64 4))
  obtain ⟨D, hD⟩ : ∃ D, (bad || oneBad (1)) = D := ⟨_, rfl⟩
  rw [hD] at P
  have HD := Lib.hid hD
  clear hD
  cases D
  · skip
    have x2 := X.out.cell (i := 2) rfl
    have x1 := X.out.cell (i := 1) rfl
    obtain ⟨p2, g2⟩ := Pen.flag P.out
    go_wp2_with fail
    replace X := Lib.hid (X.out.set_ne ⟨b, 2, none⟩ (.bool false) q3)
    replace Y := Lib.hid (Y.out.set_ne ⟨b, 2, none⟩ (.bool false) q4)
    replace Z := Lib.hid (Z.out.set_ne ⟨b, 2, none⟩ (.bool false) q5)
    replace C := Lib.hid (C.out.trans ((Pen.set P.out false).2.mono (fun k _ e => Hhm.out k e)))
    replace P := Lib.hid (Pen.set P.out false).1
    clear x2 x1
    clear p2 g2
    refine (one_calls _ b (l ++ [oneB (1)]) (false) (n) _ P.out (by (try simp only [List.length_append, List.length_cons, List.length_nil, le_length]); omega)).mono ?_
    rintro e w2 ⟨rfl, hp, kc⟩
    replace X := Lib.hid (X.out.chg kc Hn0.out)
    replace Y := Lib.hid (Y.out.chg kc Hn1.out)
    replace Z := Lib.hid (Z.out.chg kc Hn2.out)
    replace C := Lib.hid (C.out.trans (kc.mono (fun k _ e => Hhm.out k e)))
    replace P := Lib.hid hp
    clear kc hp
    have x2 := X.out.cell (i := 2) rfl
    go_wp2_with fail
    refine (one_calls _ b (l ++ [oneB (1)] ++ [oneB (n)]) (false || oneBad (n)) (4) _ P.out (by (try simp only [List.length_append, List.length_cons, List.length_nil, le_length]); omega)).mono ?_
    rintro e w3 ⟨rfl, hp, kc⟩
    replace X := Lib.hid (X.out.chg kc Hn0.out)
    replace Y := Lib.hid (Y.out.chg kc Hn1.out)
    replace Z := Lib.hid (Z.out.chg kc Hn2.out)
    replace C := Lib.hid (C.out.trans (kc.mono (fun k _ e => Hhm.out k e)))
    replace P := Lib.hid hp
    clear kc hp x2
    have x2 := X.out.cell (i := 2) rfl
    go_wp2_with (refine load_part [.int .i64 1, .int .i64 n, .int .i64 4] [.int .i64 wk, .int .i64 wt, .int .i64 kk, .int .i64 kn, .string ks, .int .i64 hk, .int .i64 hn, .string hs, .slice ra row.length rc, .int .i64 c, .int .i64 vk, .int .i64 vn, .string vs, .int .i64 wn] [.int .i64 p, .int .i64 q] X.out 90 Try.underlying90 rfl (by kernel_rfl) rfl rfl 3 rfl rfl ?_)
    clear x2
    obtain ⟨TD, htd⟩ : ∃ t, Wsh.told ⟨wk, wt, ⟨kk, kn, ks⟩, ⟨hk, hn, hs⟩, ra, rc, row, c, ⟨vk, vn, vs⟩, wn⟩ = t := ⟨_, rfl⟩
    have WC := wish_calls _ b (l ++ [oneB (1)] ++ [oneB (n)] ++ [oneB (4)]) (false || oneBad (n) || oneBad (4)) ⟨wk, wt, ⟨kk, kn, ks⟩, ⟨hk, hn, hs⟩, ra, rc, row, c, ⟨vk, vn, vs⟩, wn⟩ _ P.out (vs_chg VV.out C.out VN.out) (fun ad e z x => VN.out ad e z (Hhm.out _ x)) FF.out (by (try simp only [List.length_append, List.length_cons, List.length_nil, le_length]); omega) hr
    unfold WishPost at WC
    rw [htd] at WC
    have HTD := Lib.hid htd
    clear htd
    obtain ⟨tk, tt, ⟨t1, t2, t3⟩, ⟨t4, t5, t6⟩, ta, tc, tr, tcc, ⟨t7, t8, t9⟩, tn⟩ := TD
    have WCH := Lib.hid WC
    clear WC
    refine WCH.out.mono ?_
    rintro e w4 ⟨rfl, hp, kc⟩
    replace X := Lib.hid (X.out.chg kc Hn0.out)
    replace Y := Lib.hid (Y.out.chg kc Hn1.out)
    replace Z := Lib.hid (Z.out.chg kc Hn2.out)
    replace C := Lib.hid (C.out.trans (kc.mono (fun k _ e => Hhm.out k e)))
    replace P := Lib.hid hp
    clear kc hp
    go_wp2_with (first | (refine store_part [.int .i64 1, .int .i64 n, .int .i64 4] [.int .i64 0, .int .i64 0, .int .i64 0, .int .i64 0, .string ⟨#[]⟩, .int .i64 0, .int .i64 0, .string ⟨#[]⟩, .slice none 0 0, .int .i64 0, .int .i64 0, .int .i64 0, .string ⟨#[]⟩, .int .i64 0] [.int .i64 0, .int .i64 0] Z.out [.int .i64 tk, .int .i64 tt, .int .i64 t1, .int .i64 t2, .string t3, .int .i64 t4, .int .i64 t5, .string t6, .slice ta tr.length tc, .int .i64 tcc, .int .i64 t7, .int .i64 t8, .string t9, .int .i64 tn] 90 (by kernel_rfl) rfl (by simp [Value.oneCell']) rfl rfl 3 rfl rfl rfl ?_; intro w80 hR hc hsz; replace X := Lib.hid (X.out.chg hc q6); replace Y := Lib.hid (Y.out.chg hc (Ne.symm q7)); replace Z := Lib.hid hR; replace P := Lib.hid (BldX.Is.chg P.out hc (fun e => q0 (show s2 = b from e.symm)) (fun k hk e => Hn2.out (.inr ((show k = s2 from e) ▸ hk)))); replace C := Lib.hid (C.out.trans (hc.mono (fun k _ e => (.inr ((show k = s2 from e) ▸ Hf2.out) : BldX.Own F b k)))); clear hR hc hsz) | (refine load_row Z.out 94 Try.underlying94 rfl (by kernel_rfl) rfl rfl rfl ?_) | (refine store_row Y.out [.int .i64 1, .int .i64 n, .int .i64 4, .int .i64 tk, .int .i64 tt, .int .i64 t1, .int .i64 t2, .string t3, .int .i64 t4, .int .i64 t5, .string t6, .slice ta tr.length tc, .int .i64 tcc, .int .i64 t7, .int .i64 t8, .string t9, .int .i64 tn, .int .i64 0, .int .i64 0] 94 (by kernel_rfl) rfl (by simp [Value.oneCell']) rfl rfl rfl rfl ?_; intro w90 hR hc hsz))
    have P9 := Lib.hid (BldX.Is.wider (BldX.Is.chg P.out hc (fun e => q1 (show s1 = b from e.symm)) (fun k hk e => Hn1.out (.inr ((show k = s1 from e) ▸ hk)))) (fun k hk => hk.1) HB.out)
    have C9 := Lib.hid (C.out.trans (hc.mono (fun k _ e => (.inr ((show k = s1 from e) ▸ Hf1.out) : BldX.Own F b k))))
    have R9 := Lib.hid hR
    clear hR hc hsz
    refine ret_row R9.out Try.results105 Try.underlying94 rfl (by kernel_rfl) rfl rfl ⟨?_, ?_, C9.out⟩
    · rw [show Mv.told ⟨1, n, 4, ⟨wk, wt, ⟨kk, kn, ks⟩, ⟨hk, hn, hs⟩, ra, rc, row, c, ⟨vk, vn, vs⟩, wn⟩, p, q⟩ = ⟨1, n, 4, Wsh.told ⟨wk, wt, ⟨kk, kn, ks⟩, ⟨hk, hn, hs⟩, ra, rc, row, c, ⟨vk, vn, vs⟩, wn⟩, 0, 0⟩ from rfl, HTD.out]; rfl
    · have e1 : l ++ [oneB (1)] ++ [oneB (n)] ++ [oneB (4)] ++ Wsh.bytes ⟨wk, wt, ⟨kk, kn, ks⟩, ⟨hk, hn, hs⟩, ra, rc, row, c, ⟨vk, vn, vs⟩, wn⟩ = l ++ Mv.bytes ⟨1, n, 4, ⟨wk, wt, ⟨kk, kn, ks⟩, ⟨hk, hn, hs⟩, ra, rc, row, c, ⟨vk, vn, vs⟩, wn⟩, p, q⟩ := by simp [Mv.bytes, List.append_assoc]
      have e2 : (false || oneBad (n) || oneBad (4) || Wsh.bad ⟨wk, wt, ⟨kk, kn, ks⟩, ⟨hk, hn, hs⟩, ra, rc, row, c, ⟨vk, vn, vs⟩, wn⟩) = (bad || Mv.bad ⟨1, n, 4, ⟨wk, wt, ⟨kk, kn, ks⟩, ⟨hk, hn, hs⟩, ra, rc, row, c, ⟨vk, vn, vs⟩, wn⟩, p, q⟩) := by rw [show (bad || Mv.bad ⟨1, n, 4, ⟨wk, wt, ⟨kk, kn, ks⟩, ⟨hk, hn, hs⟩, ra, rc, row, c, ⟨vk, vn, vs⟩, wn⟩, p, q⟩) = ((bad || oneBad 1) || ((decide ((4 : Int) < 1) || decide ((4 : Int) < 4)) || (oneBad n || (oneBad 4 || Wsh.bad ⟨wk, wt, ⟨kk, kn, ks⟩, ⟨hk, hn, hs⟩, ra, rc, row, c, ⟨vk, vn, vs⟩, wn⟩)))) from by simp [Mv.bad, Bool.or_assoc], HD.out]; simp [Bool.or_assoc]
      rw [← e1, ← e2]
      exact P9.out
  · skip
    have x2 := X.out.cell (i := 2) rfl
    have x1 := X.out.cell (i := 1) rfl
    obtain ⟨p2, g2⟩ := Pen.flag P.out
    go_wp2_with fail
    replace X := Lib.hid (X.out.set_ne ⟨b, 2, none⟩ (.bool true) q3)
    replace Y := Lib.hid (Y.out.set_ne ⟨b, 2, none⟩ (.bool true) q4)
    replace Z := Lib.hid (Z.out.set_ne ⟨b, 2, none⟩ (.bool true) q5)
    replace C := Lib.hid (C.out.trans ((Pen.set P.out true).2.mono (fun k _ e => Hhm.out k e)))
    replace P := Lib.hid (Pen.set P.out true).1
    clear x2 x1
    clear p2 g2
    refine (one_calls _ b (l ++ [oneB (1)]) (true) (n) _ P.out (by (try simp only [List.length_append, List.length_cons, List.length_nil, le_length]); omega)).mono ?_
    rintro e w2 ⟨rfl, hp, kc⟩
    replace X := Lib.hid (X.out.chg kc Hn0.out)
    replace Y := Lib.hid (Y.out.chg kc Hn1.out)
    replace Z := Lib.hid (Z.out.chg kc Hn2.out)
    replace C := Lib.hid (C.out.trans (kc.mono (fun k _ e => Hhm.out k e)))
    replace P := Lib.hid hp
    clear kc hp
    have x2 := X.out.cell (i := 2) rfl
    go_wp2_with fail
    refine (one_calls _ b (l ++ [oneB (1)] ++ [oneB (n)]) (true || oneBad (n)) (4) _ P.out (by (try simp only [List.length_append, List.length_cons, List.length_nil, le_length]); omega)).mono ?_
    rintro e w3 ⟨rfl, hp, kc⟩
    replace X := Lib.hid (X.out.chg kc Hn0.out)
    replace Y := Lib.hid (Y.out.chg kc Hn1.out)
    replace Z := Lib.hid (Z.out.chg kc Hn2.out)
    replace C := Lib.hid (C.out.trans (kc.mono (fun k _ e => Hhm.out k e)))
    replace P := Lib.hid hp
    clear kc hp x2
    have x2 := X.out.cell (i := 2) rfl
    go_wp2_with (refine load_part [.int .i64 1, .int .i64 n, .int .i64 4] [.int .i64 wk, .int .i64 wt, .int .i64 kk, .int .i64 kn, .string ks, .int .i64 hk, .int .i64 hn, .string hs, .slice ra row.length rc, .int .i64 c, .int .i64 vk, .int .i64 vn, .string vs, .int .i64 wn] [.int .i64 p, .int .i64 q] X.out 90 Try.underlying90 rfl (by kernel_rfl) rfl rfl 3 rfl rfl ?_)
    clear x2
    obtain ⟨TD, htd⟩ : ∃ t, Wsh.told ⟨wk, wt, ⟨kk, kn, ks⟩, ⟨hk, hn, hs⟩, ra, rc, row, c, ⟨vk, vn, vs⟩, wn⟩ = t := ⟨_, rfl⟩
    have WC := wish_calls _ b (l ++ [oneB (1)] ++ [oneB (n)] ++ [oneB (4)]) (true || oneBad (n) || oneBad (4)) ⟨wk, wt, ⟨kk, kn, ks⟩, ⟨hk, hn, hs⟩, ra, rc, row, c, ⟨vk, vn, vs⟩, wn⟩ _ P.out (vs_chg VV.out C.out VN.out) (fun ad e z x => VN.out ad e z (Hhm.out _ x)) FF.out (by (try simp only [List.length_append, List.length_cons, List.length_nil, le_length]); omega) hr
    unfold WishPost at WC
    rw [htd] at WC
    have HTD := Lib.hid htd
    clear htd
    obtain ⟨tk, tt, ⟨t1, t2, t3⟩, ⟨t4, t5, t6⟩, ta, tc, tr, tcc, ⟨t7, t8, t9⟩, tn⟩ := TD
    have WCH := Lib.hid WC
    clear WC
    refine WCH.out.mono ?_
    rintro e w4 ⟨rfl, hp, kc⟩
    replace X := Lib.hid (X.out.chg kc Hn0.out)
    replace Y := Lib.hid (Y.out.chg kc Hn1.out)
    replace Z := Lib.hid (Z.out.chg kc Hn2.out)
    replace C := Lib.hid (C.out.trans (kc.mono (fun k _ e => Hhm.out k e)))
    replace P := Lib.hid hp
    clear kc hp
    go_wp2_with (first | (refine store_part [.int .i64 1, .int .i64 n, .int .i64 4] [.int .i64 0, .int .i64 0, .int .i64 0, .int .i64 0, .string ⟨#[]⟩, .int .i64 0, .int .i64 0, .string ⟨#[]⟩, .slice none 0 0, .int .i64 0, .int .i64 0, .int .i64 0, .string ⟨#[]⟩, .int .i64 0] [.int .i64 0, .int .i64 0] Z.out [.int .i64 tk, .int .i64 tt, .int .i64 t1, .int .i64 t2, .string t3, .int .i64 t4, .int .i64 t5, .string t6, .slice ta tr.length tc, .int .i64 tcc, .int .i64 t7, .int .i64 t8, .string t9, .int .i64 tn] 90 (by kernel_rfl) rfl (by simp [Value.oneCell']) rfl rfl 3 rfl rfl rfl ?_; intro w80 hR hc hsz; replace X := Lib.hid (X.out.chg hc q6); replace Y := Lib.hid (Y.out.chg hc (Ne.symm q7)); replace Z := Lib.hid hR; replace P := Lib.hid (BldX.Is.chg P.out hc (fun e => q0 (show s2 = b from e.symm)) (fun k hk e => Hn2.out (.inr ((show k = s2 from e) ▸ hk)))); replace C := Lib.hid (C.out.trans (hc.mono (fun k _ e => (.inr ((show k = s2 from e) ▸ Hf2.out) : BldX.Own F b k)))); clear hR hc hsz) | (refine load_row Z.out 94 Try.underlying94 rfl (by kernel_rfl) rfl rfl rfl ?_) | (refine store_row Y.out [.int .i64 1, .int .i64 n, .int .i64 4, .int .i64 tk, .int .i64 tt, .int .i64 t1, .int .i64 t2, .string t3, .int .i64 t4, .int .i64 t5, .string t6, .slice ta tr.length tc, .int .i64 tcc, .int .i64 t7, .int .i64 t8, .string t9, .int .i64 tn, .int .i64 0, .int .i64 0] 94 (by kernel_rfl) rfl (by simp [Value.oneCell']) rfl rfl rfl rfl ?_; intro w90 hR hc hsz))
    have P9 := Lib.hid (BldX.Is.wider (BldX.Is.chg P.out hc (fun e => q1 (show s1 = b from e.symm)) (fun k hk e => Hn1.out (.inr ((show k = s1 from e) ▸ hk)))) (fun k hk => hk.1) HB.out)
    have C9 := Lib.hid (C.out.trans (hc.mono (fun k _ e => (.inr ((show k = s1 from e) ▸ Hf1.out) : BldX.Own F b k))))
    have R9 := Lib.hid hR
    clear hR hc hsz
    refine ret_row R9.out Try.results105 Try.underlying94 rfl (by kernel_rfl) rfl rfl ⟨?_, ?_, C9.out⟩
    · rw [show Mv.told ⟨1, n, 4, ⟨wk, wt, ⟨kk, kn, ks⟩, ⟨hk, hn, hs⟩, ra, rc, row, c, ⟨vk, vn, vs⟩, wn⟩, p, q⟩ = ⟨1, n, 4, Wsh.told ⟨wk, wt, ⟨kk, kn, ks⟩, ⟨hk, hn, hs⟩, ra, rc, row, c, ⟨vk, vn, vs⟩, wn⟩, 0, 0⟩ from rfl, HTD.out]; rfl
    · have e1 : l ++ [oneB (1)] ++ [oneB (n)] ++ [oneB (4)] ++ Wsh.bytes ⟨wk, wt, ⟨kk, kn, ks⟩, ⟨hk, hn, hs⟩, ra, rc, row, c, ⟨vk, vn, vs⟩, wn⟩ = l ++ Mv.bytes ⟨1, n, 4, ⟨wk, wt, ⟨kk, kn, ks⟩, ⟨hk, hn, hs⟩, ra, rc, row, c, ⟨vk, vn, vs⟩, wn⟩, p, q⟩ := by simp [Mv.bytes, List.append_assoc]
      have e2 : (true || oneBad (n) || oneBad (4) || Wsh.bad ⟨wk, wt, ⟨kk, kn, ks⟩, ⟨hk, hn, hs⟩, ra, rc, row, c, ⟨vk, vn, vs⟩, wn⟩) = (bad || Mv.bad ⟨1, n, 4, ⟨wk, wt, ⟨kk, kn, ks⟩, ⟨hk, hn, hs⟩, ra, rc, row, c, ⟨vk, vn, vs⟩, wn⟩, p, q⟩) := by rw [show (bad || Mv.bad ⟨1, n, 4, ⟨wk, wt, ⟨kk, kn, ks⟩, ⟨hk, hn, hs⟩, ra, rc, row, c, ⟨vk, vn, vs⟩, wn⟩, p, q⟩) = ((bad || oneBad 1) || ((decide ((4 : Int) < 1) || decide ((4 : Int) < 4)) || (oneBad n || (oneBad 4 || Wsh.bad ⟨wk, wt, ⟨kk, kn, ks⟩, ⟨hk, hn, hs⟩, ra, rc, row, c, ⟨vk, vn, vs⟩, wn⟩)))) from by simp [Mv.bad, Bool.or_assoc], HD.out]; simp [Bool.or_assoc]
      rw [← e1, ← e2]
      exact P9.out
set_option maxHeartbeats 8000000 in
theorem move_1 (F : Nat → Prop) (b : Nat) (l : List UInt8) (bad : Bool) (n : Int) (a : Int) (c4 : ¬ a = 4) (wk wt kk kn : Int) (ks : ByteArray) (hk hn : Int) (hs : ByteArray) (ra : Option Addr) (rc : Nat) (row : List V) (c vk vn : Int) (vs : ByteArray) (wn p q : Int) (w : World) (h : Pen w F b l bad) (hV : Vs w ra row) (hN : ∀ ad, ra = some ad → row ≠ [] → ¬ BldX.Own F b ad.block) (hf : Wsh.fits ⟨wk, wt, ⟨kk, kn, ks⟩, ⟨hk, hn, hs⟩, ra, rc, row, c, ⟨vk, vn, vs⟩, wn⟩) (hl : l.length ≤ 70000000) (hr : row.length ≤ 1000) :
    MovePost F b l bad ⟨1, n, a, ⟨wk, wt, ⟨kk, kn, ks⟩, ⟨hk, hn, hs⟩, ra, rc, row, c, ⟨vk, vn, vs⟩, wn⟩, p, q⟩ w := by
  unfold MovePost
  show Calls Try.prog 105 #[.pointer (some ⟨b, 0, none⟩), .agg #[.int .i64 1, .int .i64 n, .int .i64 a, .int .i64 wk, .int .i64 wt, .int .i64 kk, .int .i64 kn, .string ks, .int .i64 hk, .int .i64 hn, .string hs, .slice ra row.length rc, .int .i64 c, .int .i64 vk, .int .i64 vn, .string vs, .int .i64 wn, .int .i64 p, .int .i64 q]] w _
  obtain ⟨p3, n0, n1, n2, hm, f1, f2, ⟨q0, q5⟩, q1, q4, q3, q2, q7, q6⟩ := three h (.cells #[.int .i64 1, .int .i64 n, .int .i64 a, .int .i64 wk, .int .i64 wt, .int .i64 kk, .int .i64 kn, .string ks, .int .i64 hk, .int .i64 hn, .string hs, .slice ra row.length rc, .int .i64 c, .int .i64 vk, .int .i64 vn, .string vs, .int .i64 wn, .int .i64 p, .int .i64 q] 94) (.cells #[.int .i64 0, .int .i64 0, .int .i64 0, .int .i64 0, .int .i64 0, .int .i64 0, .int .i64 0, .string ⟨#[]⟩, .int .i64 0, .int .i64 0, .string ⟨#[]⟩, .slice none 0 0, .int .i64 0, .int .i64 0, .int .i64 0, .string ⟨#[]⟩, .int .i64 0, .int .i64 0, .int .i64 0] 94) (.cells #[.int .i64 0, .int .i64 0, .int .i64 0, .int .i64 0, .int .i64 0, .int .i64 0, .int .i64 0, .string ⟨#[]⟩, .int .i64 0, .int .i64 0, .string ⟨#[]⟩, .slice none 0 0, .int .i64 0, .int .i64 0, .int .i64 0, .string ⟨#[]⟩, .int .i64 0, .int .i64 0, .int .i64 0] 94)
  have P := Lib.hid p3
  have X := Lib.hid (((Row.new w 94 [.int .i64 1, .int .i64 n, .int .i64 a, .int .i64 wk, .int .i64 wt, .int .i64 kk, .int .i64 kn, .string ks, .int .i64 hk, .int .i64 hn, .string hs, .slice ra row.length rc, .int .i64 c, .int .i64 vk, .int .i64 vn, .string vs, .int .i64 wn, .int .i64 p, .int .i64 q]).alloc (.cells #[.int .i64 0, .int .i64 0, .int .i64 0, .int .i64 0, .int .i64 0, .int .i64 0, .int .i64 0, .string ⟨#[]⟩, .int .i64 0, .int .i64 0, .string ⟨#[]⟩, .slice none 0 0, .int .i64 0, .int .i64 0, .int .i64 0, .string ⟨#[]⟩, .int .i64 0, .int .i64 0, .int .i64 0] 94)).alloc (.cells #[.int .i64 0, .int .i64 0, .int .i64 0, .int .i64 0, .int .i64 0, .int .i64 0, .int .i64 0, .string ⟨#[]⟩, .int .i64 0, .int .i64 0, .string ⟨#[]⟩, .slice none 0 0, .int .i64 0, .int .i64 0, .int .i64 0, .string ⟨#[]⟩, .int .i64 0, .int .i64 0, .int .i64 0] 94))
  have Y := Lib.hid ((show Row ((w.alloc (.cells #[.int .i64 1, .int .i64 n, .int .i64 a, .int .i64 wk, .int .i64 wt, .int .i64 kk, .int .i64 kn, .string ks, .int .i64 hk, .int .i64 hn, .string hs, .slice ra row.length rc, .int .i64 c, .int .i64 vk, .int .i64 vn, .string vs, .int .i64 wn, .int .i64 p, .int .i64 q] 94)).alloc (.cells #[.int .i64 0, .int .i64 0, .int .i64 0, .int .i64 0, .int .i64 0, .int .i64 0, .int .i64 0, .string ⟨#[]⟩, .int .i64 0, .int .i64 0, .string ⟨#[]⟩, .slice none 0 0, .int .i64 0, .int .i64 0, .int .i64 0, .string ⟨#[]⟩, .int .i64 0, .int .i64 0, .int .i64 0] 94)) (w.heap.size + 1) 94 [.int .i64 0, .int .i64 0, .int .i64 0, .int .i64 0, .int .i64 0, .int .i64 0, .int .i64 0, .string ⟨#[]⟩, .int .i64 0, .int .i64 0, .string ⟨#[]⟩, .slice none 0 0, .int .i64 0, .int .i64 0, .int .i64 0, .string ⟨#[]⟩, .int .i64 0, .int .i64 0, .int .i64 0] from Wide.new_at (by simp)).alloc (.cells #[.int .i64 0, .int .i64 0, .int .i64 0, .int .i64 0, .int .i64 0, .int .i64 0, .int .i64 0, .string ⟨#[]⟩, .int .i64 0, .int .i64 0, .string ⟨#[]⟩, .slice none 0 0, .int .i64 0, .int .i64 0, .int .i64 0, .string ⟨#[]⟩, .int .i64 0, .int .i64 0, .int .i64 0] 94))
  have Z := Lib.hid (show Row (((w.alloc (.cells #[.int .i64 1, .int .i64 n, .int .i64 a, .int .i64 wk, .int .i64 wt, .int .i64 kk, .int .i64 kn, .string ks, .int .i64 hk, .int .i64 hn, .string hs, .slice ra row.length rc, .int .i64 c, .int .i64 vk, .int .i64 vn, .string vs, .int .i64 wn, .int .i64 p, .int .i64 q] 94)).alloc (.cells #[.int .i64 0, .int .i64 0, .int .i64 0, .int .i64 0, .int .i64 0, .int .i64 0, .int .i64 0, .string ⟨#[]⟩, .int .i64 0, .int .i64 0, .string ⟨#[]⟩, .slice none 0 0, .int .i64 0, .int .i64 0, .int .i64 0, .string ⟨#[]⟩, .int .i64 0, .int .i64 0, .int .i64 0] 94)).alloc (.cells #[.int .i64 0, .int .i64 0, .int .i64 0, .int .i64 0, .int .i64 0, .int .i64 0, .int .i64 0, .string ⟨#[]⟩, .int .i64 0, .int .i64 0, .string ⟨#[]⟩, .slice none 0 0, .int .i64 0, .int .i64 0, .int .i64 0, .string ⟨#[]⟩, .int .i64 0, .int .i64 0, .int .i64 0] 94)) (w.heap.size + 1 + 1) 94 [.int .i64 0, .int .i64 0, .int .i64 0, .int .i64 0, .int .i64 0, .int .i64 0, .int .i64 0, .string ⟨#[]⟩, .int .i64 0, .int .i64 0, .string ⟨#[]⟩, .slice none 0 0, .int .i64 0, .int .i64 0, .int .i64 0, .string ⟨#[]⟩, .int .i64 0, .int .i64 0, .int .i64 0] from Wide.new_at (by simp))
  have C := Lib.hid ((((Chg.refl (BldX.Own F b) w).alloc (.cells #[.int .i64 1, .int .i64 n, .int .i64 a, .int .i64 wk, .int .i64 wt, .int .i64 kk, .int .i64 kn, .string ks, .int .i64 hk, .int .i64 hn, .string hs, .slice ra row.length rc, .int .i64 c, .int .i64 vk, .int .i64 vn, .string vs, .int .i64 wn, .int .i64 p, .int .i64 q] 94)).alloc (.cells #[.int .i64 0, .int .i64 0, .int .i64 0, .int .i64 0, .int .i64 0, .int .i64 0, .int .i64 0, .string ⟨#[]⟩, .int .i64 0, .int .i64 0, .string ⟨#[]⟩, .slice none 0 0, .int .i64 0, .int .i64 0, .int .i64 0, .string ⟨#[]⟩, .int .i64 0, .int .i64 0, .int .i64 0] 94)).alloc (.cells #[.int .i64 0, .int .i64 0, .int .i64 0, .int .i64 0, .int .i64 0, .int .i64 0, .int .i64 0, .string ⟨#[]⟩, .int .i64 0, .int .i64 0, .string ⟨#[]⟩, .slice none 0 0, .int .i64 0, .int .i64 0, .int .i64 0, .string ⟨#[]⟩, .int .i64 0, .int .i64 0, .int .i64 0] 94))
  have VV := Lib.hid hV
  have VN := Lib.hid hN
  have FF := Lib.hid hf
  have Hn0 := Lib.hid n0
  have Hn1 := Lib.hid n1
  have Hn2 := Lib.hid n2
  have Hhm := Lib.hid hm
  have Hf1 := Lib.hid f1
  have Hf2 := Lib.hid f2
  have hb : ¬ F b := h.1
  have HB := Lib.hid hb
  have x0 := X.out.cell (i := 0) rfl
  clear p3 n0 n1 n2 hm f1 f2 h hV hN hf hb
  have d4 : ((a : Int) == 4) = false := by simpa using c4
  have C4 := Lib.hid c4
  clear c4
  go_enter Try.func105, Try.ntmps105
  go_wp2_with (refine store_row Z.out [.int .i64 1, .int .i64 0, .int .i64 0, .int .i64 0, .int .i64 0, .int .i64 0, .int .i64 0, .string ⟨#[]⟩, .int .i64 0, .int .i64 0, .string ⟨#[]⟩, .slice none 0 0, .int .i64 0, .int .i64 0, .int .i64 0, .string ⟨#[]⟩, .int .i64 0, .int .i64 0, .int .i64 0] 94 (by kernel_rfl) rfl (by simp [Value.oneCell']) rfl rfl rfl rfl ?_; intro wz hz kz zz; clear x0; replace X := Lib.hid (X.out.chg kz q6); replace Y := Lib.hid (Y.out.chg kz (Ne.symm q7)); replace Z := Lib.hid hz; replace P := Lib.hid (BldX.Is.chg P.out kz (fun e => q5 (show b = _ from e)) (fun k hk e => Hn2.out (.inr ((show k = _ from e) ▸ hk)))); replace C := Lib.hid (C.out.trans (kz.mono (fun k _ e => (.inr ((show k = _ from e) ▸ Hf2.out) : BldX.Own F b k)))); clear hz kz zz; have x0 := X.out.cell (i := 0) rfl)
  clear x0
  generalize w.heap.size + 1 + 1 = s2 at *
  generalize w.heap.size + 1 = s1 at *
  generalize w.heap.size = s0 at *
  refine (one_calls _ b (l) (bad) (1) _ P.out (by (try simp only [List.length_append, List.length_cons, List.length_nil, le_length]); omega)).mono ?_
  rintro e w1 ⟨rfl, hp, kc⟩
  replace X := Lib.hid (X.out.chg kc Hn0.out)
  replace Y := Lib.hid (Y.out.chg kc Hn1.out)
  replace Z := Lib.hid (Z.out.chg kc Hn2.out)
  replace C := Lib.hid (C.out.trans (kc.mono (fun k _ e => Hhm.out k e)))
  replace P := Lib.hid hp
  clear kc hp
  have x0 := X.out.cell (i := 0) rfl
  go_wp2_with fail
  clear x0
  replace X := Lib.hid X.out.drew
  replace Y := Lib.hid Y.out.drew
  replace Z := Lib.hid Z.out.drew
  replace P := Lib.hid (BldX.Is.drew P.out)
  replace C := Lib.hid C.out.drew
  have z1 := Z.out.cell (i := 1) rfl
  have g1 := Z.out.frozen 1 (by simp)
  have z2 := Z.out.cell (i := 2) rfl
  have g2 := Z.out.frozen 2 (by simp)
  refine Reg.start (fun w' => w'.cell? ⟨s0, 1, none⟩ = some (.int .i64 n) ∧ w'.cell? ⟨s0, 2, none⟩ = some (.int .i64 a)) (fun i => false) (by kernel_rfl) ⟨X.out.cell rfl, X.out.cell rfl⟩ (fun hHeld => ?_)
  generalize w1.drew = wd at *
  refine Reg.takeI 0 (v := ?_) rfl (by kernel_rfl) (by kernel_rfl) (by kernel_rfl) (by kernel_rfl) (fun _ _ _ h => h) (by rfl) ?_ hHeld ?_
  rotate_left 1
  · (intro w hSw; (try dsimp only at hSw); go_simp; try with_reducible rfl)
  try simp only [Act.put, List.setIfInBounds_toArray, List.set_cons_zero, List.set_cons_succ]
  refine Reg.takeI 1 (v := ?_) rfl (by kernel_rfl) (by kernel_rfl) (by kernel_rfl) (by kernel_rfl) (fun _ _ _ h => h) (by rfl) ?_ hHeld ?_
  rotate_left 1
  · (intro w hSw; (try dsimp only at hSw); go_simp; try with_reducible rfl)
  try simp only [Act.put, List.setIfInBounds_toArray, List.set_cons_zero, List.set_cons_succ]
  refine Reg.takeI 2 (v := ?_) rfl (by kernel_rfl) (by kernel_rfl) (by kernel_rfl) (by kernel_rfl) (fun _ _ _ h => h) (by rfl) ?_ hHeld ?_
  rotate_left 1
  · (intro w hSw; (try dsimp only at hSw); go_simp; try with_reducible rfl)
  try simp only [Act.put, List.setIfInBounds_toArray, List.set_cons_zero, List.set_cons_succ]
  refine Reg.takeI 3 (v := ?_) rfl (by kernel_rfl) (by kernel_rfl) (by kernel_rfl) (by kernel_rfl) (fun _ _ _ h => h) (by rfl) ?_ hHeld ?_
  rotate_left 1
  · (intro w hSw; (try dsimp only at hSw); go_simp; try with_reducible rfl)
  try simp only [Act.put, List.setIfInBounds_toArray, List.set_cons_zero, List.set_cons_succ]
  refine Reg.takeI 4 (v := ?_) rfl (by kernel_rfl) (by kernel_rfl) (by kernel_rfl) (by kernel_rfl) (fun _ _ _ h => h) (by rfl) ?_ hHeld ?_
  rotate_left 1
  · (intro w hSw; (try dsimp only at hSw); go_simp; try with_reducible rfl)
  try simp only [Act.put, List.setIfInBounds_toArray, List.set_cons_zero, List.set_cons_succ]
  refine Reg.takeI 5 (v := ?_) rfl (by kernel_rfl) (by kernel_rfl) (by kernel_rfl) (by kernel_rfl) (fun _ _ _ h => h) (by rfl) ?_ hHeld ?_
  rotate_left 1
  · (intro w hSw; (try dsimp only at hSw); go_simp; try with_reducible rfl)
  try simp only [Act.put, List.setIfInBounds_toArray, List.set_cons_zero, List.set_cons_succ]
  refine Reg.oneI 6 rfl (by kernel_rfl) (by rfl) (fun K hK => ?_)
  go_simp
  replace X := Lib.hid (X.out.set_ne ⟨s2, 1, none⟩ (.int .i64 n) q2)
  refine hK.out _ _ (fun _ => ⟨X.out.cell rfl, X.out.cell rfl⟩) (fun hHeld => ?_)
  replace hHeld := hHeld (by first | rfl | trivial)
  clear hK K
  try simp only [Act.put, List.setIfInBounds_toArray, List.set_cons_zero, List.set_cons_succ]
  refine Reg.takeI 7 (v := ?_) rfl (by kernel_rfl) (by kernel_rfl) (by kernel_rfl) (by kernel_rfl) (fun _ _ _ h => h) (by rfl) ?_ hHeld ?_
  rotate_left 1
  · (intro w hSw; (try dsimp only at hSw); go_simp; try with_reducible rfl)
  try simp only [Act.put, List.setIfInBounds_toArray, List.set_cons_zero, List.set_cons_succ]
  refine Reg.takeI 8 (v := ?_) rfl (by kernel_rfl) (by kernel_rfl) (by kernel_rfl) (by kernel_rfl) (fun _ _ _ h => h) (by rfl) ?_ hHeld ?_
  rotate_left 1
  · (intro w hSw; (try dsimp only at hSw); go_simp; try with_reducible rfl)
  try simp only [Act.put, List.setIfInBounds_toArray, List.set_cons_zero, List.set_cons_succ]
  refine Reg.oneI 9 rfl (by kernel_rfl) (by rfl) (fun K hK => ?_)
  go_simp
  replace X := Lib.hid (X.out.set_ne ⟨s2, 2, none⟩ (.int .i64 a) q2)
  refine hK.out _ _ (fun _ => ⟨X.out.cell rfl, X.out.cell rfl⟩) (fun hHeld => ?_)
  replace hHeld := hHeld (by first | rfl | trivial)
  clear hK K
  try simp only [Act.put, List.setIfInBounds_toArray, List.set_cons_zero, List.set_cons_succ]
  refine Reg.doneI (by kernel_rfl) ?_
  clear hHeld
  clear z1 g1 z2 g2
  replace Y := Lib.hid ((Y.out.set_ne ⟨s2, 1, none⟩ (.int .i64 n) q7).set_ne ⟨s2, 2, none⟩ (.int .i64 a) q7)
  replace Z := Lib.hid (((Z.out.set 1 (.int .i64 n)).set 2 (.int .i64 a)).cast (cs' := [.int .i64 1, .int .i64 n, .int .i64 a, .int .i64 0, .int .i64 0, .int .i64 0, .int .i64 0, .string ⟨#[]⟩, .int .i64 0, .int .i64 0, .string ⟨#[]⟩, .slice none 0 0, .int .i64 0, .int .i64 0, .int .i64 0, .string ⟨#[]⟩, .int .i64 0, .int .i64 0, .int .i64 0]) rfl)
  replace P := Lib.hid (beyond (beyond P.out q0 Hn2.out 1 (.int .i64 n)) q0 Hn2.out 2 (.int .i64 a))
  replace C := Lib.hid (Chg.setCell (Chg.setCell C.out (a := ⟨s2, 1, none⟩) (fun _ => (.inr Hf2.out : BldX.Own F b s2)) (.int .i64 n)) (a := ⟨s2, 2, none⟩) (fun _ => (.inr Hf2.out : BldX.Own F b s2)) (.int .i64 a))
  obtain ⟨D, hD⟩ : ∃ D, (bad || oneBad (1)) = D := ⟨_, rfl⟩
  rw [hD] at P
  have HD := Lib.hid hD
  clear hD
  cases D
  · by_cases c1 : a < 1
    · skip
      have x2 := X.out.cell (i := 2) rfl
      have x1 := X.out.cell (i := 1) rfl
      obtain ⟨p2, g2⟩ := Pen.flag P.out
      go_wp2_with fail
      replace X := Lib.hid (X.out.set_ne ⟨b, 2, none⟩ (.bool true) q3)
      replace Y := Lib.hid (Y.out.set_ne ⟨b, 2, none⟩ (.bool true) q4)
      replace Z := Lib.hid (Z.out.set_ne ⟨b, 2, none⟩ (.bool true) q5)
      replace C := Lib.hid (C.out.trans ((Pen.set P.out true).2.mono (fun k _ e => Hhm.out k e)))
      replace P := Lib.hid (Pen.set P.out true).1
      clear x2 x1
      clear p2 g2
      refine (one_calls _ b (l ++ [oneB (1)]) (true) (n) _ P.out (by (try simp only [List.length_append, List.length_cons, List.length_nil, le_length]); omega)).mono ?_
      rintro e w2 ⟨rfl, hp, kc⟩
      replace X := Lib.hid (X.out.chg kc Hn0.out)
      replace Y := Lib.hid (Y.out.chg kc Hn1.out)
      replace Z := Lib.hid (Z.out.chg kc Hn2.out)
      replace C := Lib.hid (C.out.trans (kc.mono (fun k _ e => Hhm.out k e)))
      replace P := Lib.hid hp
      clear kc hp
      have x2 := X.out.cell (i := 2) rfl
      go_wp2_with fail
      refine (one_calls _ b (l ++ [oneB (1)] ++ [oneB (n)]) (true || oneBad (n)) (a) _ P.out (by (try simp only [List.length_append, List.length_cons, List.length_nil, le_length]); omega)).mono ?_
      rintro e w3 ⟨rfl, hp, kc⟩
      replace X := Lib.hid (X.out.chg kc Hn0.out)
      replace Y := Lib.hid (Y.out.chg kc Hn1.out)
      replace Z := Lib.hid (Z.out.chg kc Hn2.out)
      replace C := Lib.hid (C.out.trans (kc.mono (fun k _ e => Hhm.out k e)))
      replace P := Lib.hid hp
      clear kc hp x2
      have x2 := X.out.cell (i := 2) rfl
      go_wp2_with (first | (refine load_row Z.out 94 Try.underlying94 rfl (by kernel_rfl) rfl rfl rfl ?_) | (refine store_row Y.out [.int .i64 1, .int .i64 n, .int .i64 a, .int .i64 0, .int .i64 0, .int .i64 0, .int .i64 0, .string ⟨#[]⟩, .int .i64 0, .int .i64 0, .string ⟨#[]⟩, .slice none 0 0, .int .i64 0, .int .i64 0, .int .i64 0, .string ⟨#[]⟩, .int .i64 0, .int .i64 0, .int .i64 0] 94 (by kernel_rfl) rfl (by simp [Value.oneCell']) rfl rfl rfl rfl ?_; intro w90 hR hc hsz))
      have P9 := Lib.hid (BldX.Is.wider (BldX.Is.chg P.out hc (fun e => q1 (show s1 = b from e.symm)) (fun k hk e => Hn1.out (.inr ((show k = s1 from e) ▸ hk)))) (fun k hk => hk.1) HB.out)
      have C9 := Lib.hid (C.out.trans (hc.mono (fun k _ e => (.inr ((show k = s1 from e) ▸ Hf1.out) : BldX.Own F b k))))
      have R9 := Lib.hid hR
      clear hR hc hsz
      refine ret_row R9.out Try.results105 Try.underlying94 rfl (by kernel_rfl) rfl rfl ⟨?_, ?_, C9.out⟩
      · simp [Mv.told, noW, Mv.cells, noV, C4.out]
      · have e1 : l ++ [oneB (1)] ++ [oneB (n)] ++ [oneB (a)] = l ++ Mv.bytes ⟨1, n, a, ⟨wk, wt, ⟨kk, kn, ks⟩, ⟨hk, hn, hs⟩, ra, rc, row, c, ⟨vk, vn, vs⟩, wn⟩, p, q⟩ := by simp [Mv.bytes, List.append_assoc, C4.out]
        have e2 : (true || oneBad (n) || oneBad (a)) = (bad || Mv.bad ⟨1, n, a, ⟨wk, wt, ⟨kk, kn, ks⟩, ⟨hk, hn, hs⟩, ra, rc, row, c, ⟨vk, vn, vs⟩, wn⟩, p, q⟩) := by rw [show (bad || Mv.bad ⟨1, n, a, ⟨wk, wt, ⟨kk, kn, ks⟩, ⟨hk, hn, hs⟩, ra, rc, row, c, ⟨vk, vn, vs⟩, wn⟩, p, q⟩) = ((bad || oneBad 1) || ((decide (a < 1) || decide (4 < a)) || (oneBad n || oneBad a))) from by simp [Mv.bad, C4.out, Bool.or_assoc], HD.out]; simp [c1]
        rw [← e1, ← e2]
        exact P9.out
    · have c1' : decide (a < 1) = false := by simp; omega
      by_cases c2 : 4 < a
      · skip
        have x2 := X.out.cell (i := 2) rfl
        have x1 := X.out.cell (i := 1) rfl
        obtain ⟨p2, g2⟩ := Pen.flag P.out
        go_wp2_with fail
        replace X := Lib.hid (X.out.set_ne ⟨b, 2, none⟩ (.bool true) q3)
        replace Y := Lib.hid (Y.out.set_ne ⟨b, 2, none⟩ (.bool true) q4)
        replace Z := Lib.hid (Z.out.set_ne ⟨b, 2, none⟩ (.bool true) q5)
        replace C := Lib.hid (C.out.trans ((Pen.set P.out true).2.mono (fun k _ e => Hhm.out k e)))
        replace P := Lib.hid (Pen.set P.out true).1
        clear x2 x1
        clear p2 g2
        refine (one_calls _ b (l ++ [oneB (1)]) (true) (n) _ P.out (by (try simp only [List.length_append, List.length_cons, List.length_nil, le_length]); omega)).mono ?_
        rintro e w2 ⟨rfl, hp, kc⟩
        replace X := Lib.hid (X.out.chg kc Hn0.out)
        replace Y := Lib.hid (Y.out.chg kc Hn1.out)
        replace Z := Lib.hid (Z.out.chg kc Hn2.out)
        replace C := Lib.hid (C.out.trans (kc.mono (fun k _ e => Hhm.out k e)))
        replace P := Lib.hid hp
        clear kc hp
        have x2 := X.out.cell (i := 2) rfl
        go_wp2_with fail
        refine (one_calls _ b (l ++ [oneB (1)] ++ [oneB (n)]) (true || oneBad (n)) (a) _ P.out (by (try simp only [List.length_append, List.length_cons, List.length_nil, le_length]); omega)).mono ?_
        rintro e w3 ⟨rfl, hp, kc⟩
        replace X := Lib.hid (X.out.chg kc Hn0.out)
        replace Y := Lib.hid (Y.out.chg kc Hn1.out)
        replace Z := Lib.hid (Z.out.chg kc Hn2.out)
        replace C := Lib.hid (C.out.trans (kc.mono (fun k _ e => Hhm.out k e)))
        replace P := Lib.hid hp
        clear kc hp x2
        have x2 := X.out.cell (i := 2) rfl
        go_wp2_with (first | (refine load_row Z.out 94 Try.underlying94 rfl (by kernel_rfl) rfl rfl rfl ?_) | (refine store_row Y.out [.int .i64 1, .int .i64 n, .int .i64 a, .int .i64 0, .int .i64 0, .int .i64 0, .int .i64 0, .string ⟨#[]⟩, .int .i64 0, .int .i64 0, .string ⟨#[]⟩, .slice none 0 0, .int .i64 0, .int .i64 0, .int .i64 0, .string ⟨#[]⟩, .int .i64 0, .int .i64 0, .int .i64 0] 94 (by kernel_rfl) rfl (by simp [Value.oneCell']) rfl rfl rfl rfl ?_; intro w90 hR hc hsz))
        have P9 := Lib.hid (BldX.Is.wider (BldX.Is.chg P.out hc (fun e => q1 (show s1 = b from e.symm)) (fun k hk e => Hn1.out (.inr ((show k = s1 from e) ▸ hk)))) (fun k hk => hk.1) HB.out)
        have C9 := Lib.hid (C.out.trans (hc.mono (fun k _ e => (.inr ((show k = s1 from e) ▸ Hf1.out) : BldX.Own F b k))))
        have R9 := Lib.hid hR
        clear hR hc hsz
        refine ret_row R9.out Try.results105 Try.underlying94 rfl (by kernel_rfl) rfl rfl ⟨?_, ?_, C9.out⟩
        · simp [Mv.told, noW, Mv.cells, noV, C4.out]
        · have e1 : l ++ [oneB (1)] ++ [oneB (n)] ++ [oneB (a)] = l ++ Mv.bytes ⟨1, n, a, ⟨wk, wt, ⟨kk, kn, ks⟩, ⟨hk, hn, hs⟩, ra, rc, row, c, ⟨vk, vn, vs⟩, wn⟩, p, q⟩ := by simp [Mv.bytes, List.append_assoc, C4.out]
          have e2 : (true || oneBad (n) || oneBad (a)) = (bad || Mv.bad ⟨1, n, a, ⟨wk, wt, ⟨kk, kn, ks⟩, ⟨hk, hn, hs⟩, ra, rc, row, c, ⟨vk, vn, vs⟩, wn⟩, p, q⟩) := by rw [show (bad || Mv.bad ⟨1, n, a, ⟨wk, wt, ⟨kk, kn, ks⟩, ⟨hk, hn, hs⟩, ra, rc, row, c, ⟨vk, vn, vs⟩, wn⟩, p, q⟩) = ((bad || oneBad 1) || ((decide (a < 1) || decide (4 < a)) || (oneBad n || oneBad a))) from by simp [Mv.bad, C4.out, Bool.or_assoc], HD.out]; simp [c2]
          rw [← e1, ← e2]
          exact P9.out
      · have c2' : decide (4 < a) = false := by simp; omega
        have x2 := X.out.cell (i := 2) rfl
        have x1 := X.out.cell (i := 1) rfl
        obtain ⟨p2, g2⟩ := Pen.flag P.out
        go_wp2_with fail
        replace X := Lib.hid (X.out.set_ne ⟨b, 2, none⟩ (.bool false) q3)
        replace Y := Lib.hid (Y.out.set_ne ⟨b, 2, none⟩ (.bool false) q4)
        replace Z := Lib.hid (Z.out.set_ne ⟨b, 2, none⟩ (.bool false) q5)
        replace C := Lib.hid (C.out.trans ((Pen.set P.out false).2.mono (fun k _ e => Hhm.out k e)))
        replace P := Lib.hid (Pen.set P.out false).1
        clear x2 x1
        clear p2 g2
        refine (one_calls _ b (l ++ [oneB (1)]) (false) (n) _ P.out (by (try simp only [List.length_append, List.length_cons, List.length_nil, le_length]); omega)).mono ?_
        rintro e w2 ⟨rfl, hp, kc⟩
        replace X := Lib.hid (X.out.chg kc Hn0.out)
        replace Y := Lib.hid (Y.out.chg kc Hn1.out)
        replace Z := Lib.hid (Z.out.chg kc Hn2.out)
        replace C := Lib.hid (C.out.trans (kc.mono (fun k _ e => Hhm.out k e)))
        replace P := Lib.hid hp
        clear kc hp
        have x2 := X.out.cell (i := 2) rfl
        go_wp2_with fail
        refine (one_calls _ b (l ++ [oneB (1)] ++ [oneB (n)]) (false || oneBad (n)) (a) _ P.out (by (try simp only [List.length_append, List.length_cons, List.length_nil, le_length]); omega)).mono ?_
        rintro e w3 ⟨rfl, hp, kc⟩
        replace X := Lib.hid (X.out.chg kc Hn0.out)
        replace Y := Lib.hid (Y.out.chg kc Hn1.out)
        replace Z := Lib.hid (Z.out.chg kc Hn2.out)
        replace C := Lib.hid (C.out.trans (kc.mono (fun k _ e => Hhm.out k e)))
        replace P := Lib.hid hp
        clear kc hp x2
        have x2 := X.out.cell (i := 2) rfl
        go_wp2_with (first | (refine load_row Z.out 94 Try.underlying94 rfl (by kernel_rfl) rfl rfl rfl ?_) | (refine store_row Y.out [.int .i64 1, .int .i64 n, .int .i64 a, .int .i64 0, .int .i64 0, .int .i64 0, .int .i64 0, .string ⟨#[]⟩, .int .i64 0, .int .i64 0, .string ⟨#[]⟩, .slice none 0 0, .int .i64 0, .int .i64 0, .int .i64 0, .string ⟨#[]⟩, .int .i64 0, .int .i64 0, .int .i64 0] 94 (by kernel_rfl) rfl (by simp [Value.oneCell']) rfl rfl rfl rfl ?_; intro w90 hR hc hsz))
        have P9 := Lib.hid (BldX.Is.wider (BldX.Is.chg P.out hc (fun e => q1 (show s1 = b from e.symm)) (fun k hk e => Hn1.out (.inr ((show k = s1 from e) ▸ hk)))) (fun k hk => hk.1) HB.out)
        have C9 := Lib.hid (C.out.trans (hc.mono (fun k _ e => (.inr ((show k = s1 from e) ▸ Hf1.out) : BldX.Own F b k))))
        have R9 := Lib.hid hR
        clear hR hc hsz
        refine ret_row R9.out Try.results105 Try.underlying94 rfl (by kernel_rfl) rfl rfl ⟨?_, ?_, C9.out⟩
        · simp [Mv.told, noW, Mv.cells, noV, C4.out]
        · have e1 : l ++ [oneB (1)] ++ [oneB (n)] ++ [oneB (a)] = l ++ Mv.bytes ⟨1, n, a, ⟨wk, wt, ⟨kk, kn, ks⟩, ⟨hk, hn, hs⟩, ra, rc, row, c, ⟨vk, vn, vs⟩, wn⟩, p, q⟩ := by simp [Mv.bytes, List.append_assoc, C4.out]
          have e2 : (false || oneBad (n) || oneBad (a)) = (bad || Mv.bad ⟨1, n, a, ⟨wk, wt, ⟨kk, kn, ks⟩, ⟨hk, hn, hs⟩, ra, rc, row, c, ⟨vk, vn, vs⟩, wn⟩, p, q⟩) := by rw [show (bad || Mv.bad ⟨1, n, a, ⟨wk, wt, ⟨kk, kn, ks⟩, ⟨hk, hn, hs⟩, ra, rc, row, c, ⟨vk, vn, vs⟩, wn⟩, p, q⟩) = ((bad || oneBad 1) || ((decide (a < 1) || decide (4 < a)) || (oneBad n || oneBad a))) from by simp [Mv.bad, C4.out, Bool.or_assoc], HD.out]; simp [show ¬ a < 1 by omega, show ¬ 4 < a by omega]
          rw [← e1, ← e2]
          exact P9.out
  · skip
    have x2 := X.out.cell (i := 2) rfl
    have x1 := X.out.cell (i := 1) rfl
    obtain ⟨p2, g2⟩ := Pen.flag P.out
    go_wp2_with fail
    replace X := Lib.hid (X.out.set_ne ⟨b, 2, none⟩ (.bool true) q3)
    replace Y := Lib.hid (Y.out.set_ne ⟨b, 2, none⟩ (.bool true) q4)
    replace Z := Lib.hid (Z.out.set_ne ⟨b, 2, none⟩ (.bool true) q5)
    replace C := Lib.hid (C.out.trans ((Pen.set P.out true).2.mono (fun k _ e => Hhm.out k e)))
    replace P := Lib.hid (Pen.set P.out true).1
    clear x2 x1
    clear p2 g2
    refine (one_calls _ b (l ++ [oneB (1)]) (true) (n) _ P.out (by (try simp only [List.length_append, List.length_cons, List.length_nil, le_length]); omega)).mono ?_
    rintro e w2 ⟨rfl, hp, kc⟩
    replace X := Lib.hid (X.out.chg kc Hn0.out)
    replace Y := Lib.hid (Y.out.chg kc Hn1.out)
    replace Z := Lib.hid (Z.out.chg kc Hn2.out)
    replace C := Lib.hid (C.out.trans (kc.mono (fun k _ e => Hhm.out k e)))
    replace P := Lib.hid hp
    clear kc hp
    have x2 := X.out.cell (i := 2) rfl
    go_wp2_with fail
    refine (one_calls _ b (l ++ [oneB (1)] ++ [oneB (n)]) (true || oneBad (n)) (a) _ P.out (by (try simp only [List.length_append, List.length_cons, List.length_nil, le_length]); omega)).mono ?_
    rintro e w3 ⟨rfl, hp, kc⟩
    replace X := Lib.hid (X.out.chg kc Hn0.out)
    replace Y := Lib.hid (Y.out.chg kc Hn1.out)
    replace Z := Lib.hid (Z.out.chg kc Hn2.out)
    replace C := Lib.hid (C.out.trans (kc.mono (fun k _ e => Hhm.out k e)))
    replace P := Lib.hid hp
    clear kc hp x2
    have x2 := X.out.cell (i := 2) rfl
    go_wp2_with (first | (refine load_row Z.out 94 Try.underlying94 rfl (by kernel_rfl) rfl rfl rfl ?_) | (refine store_row Y.out [.int .i64 1, .int .i64 n, .int .i64 a, .int .i64 0, .int .i64 0, .int .i64 0, .int .i64 0, .string ⟨#[]⟩, .int .i64 0, .int .i64 0, .string ⟨#[]⟩, .slice none 0 0, .int .i64 0, .int .i64 0, .int .i64 0, .string ⟨#[]⟩, .int .i64 0, .int .i64 0, .int .i64 0] 94 (by kernel_rfl) rfl (by simp [Value.oneCell']) rfl rfl rfl rfl ?_; intro w90 hR hc hsz))
    have P9 := Lib.hid (BldX.Is.wider (BldX.Is.chg P.out hc (fun e => q1 (show s1 = b from e.symm)) (fun k hk e => Hn1.out (.inr ((show k = s1 from e) ▸ hk)))) (fun k hk => hk.1) HB.out)
    have C9 := Lib.hid (C.out.trans (hc.mono (fun k _ e => (.inr ((show k = s1 from e) ▸ Hf1.out) : BldX.Own F b k))))
    have R9 := Lib.hid hR
    clear hR hc hsz
    refine ret_row R9.out Try.results105 Try.underlying94 rfl (by kernel_rfl) rfl rfl ⟨?_, ?_, C9.out⟩
    · simp [Mv.told, noW, Mv.cells, noV, C4.out]
    · have e1 : l ++ [oneB (1)] ++ [oneB (n)] ++ [oneB (a)] = l ++ Mv.bytes ⟨1, n, a, ⟨wk, wt, ⟨kk, kn, ks⟩, ⟨hk, hn, hs⟩, ra, rc, row, c, ⟨vk, vn, vs⟩, wn⟩, p, q⟩ := by simp [Mv.bytes, List.append_assoc, C4.out]
      have e2 : (true || oneBad (n) || oneBad (a)) = (bad || Mv.bad ⟨1, n, a, ⟨wk, wt, ⟨kk, kn, ks⟩, ⟨hk, hn, hs⟩, ra, rc, row, c, ⟨vk, vn, vs⟩, wn⟩, p, q⟩) := by rw [show (bad || Mv.bad ⟨1, n, a, ⟨wk, wt, ⟨kk, kn, ks⟩, ⟨hk, hn, hs⟩, ra, rc, row, c, ⟨vk, vn, vs⟩, wn⟩, p, q⟩) = ((bad || oneBad 1) || ((decide (a < 1) || decide (4 < a)) || (oneBad n || oneBad a))) from by simp [Mv.bad, C4.out, Bool.or_assoc], HD.out]; simp
      rw [← e1, ← e2]
      exact P9.out
set_option maxHeartbeats 8000000 in
theorem move_2 (F : Nat → Prop) (b : Nat) (l : List UInt8) (bad : Bool) (n : Int) (a : Int) (wk wt kk kn : Int) (ks : ByteArray) (hk hn : Int) (hs : ByteArray) (ra : Option Addr) (rc : Nat) (row : List V) (c vk vn : Int) (vs : ByteArray) (wn p q : Int) (w : World) (h : Pen w F b l bad) (hV : Vs w ra row) (hN : ∀ ad, ra = some ad → row ≠ [] → ¬ BldX.Own F b ad.block) (hf : Wsh.fits ⟨wk, wt, ⟨kk, kn, ks⟩, ⟨hk, hn, hs⟩, ra, rc, row, c, ⟨vk, vn, vs⟩, wn⟩) (hl : l.length ≤ 70000000) (hr : row.length ≤ 1000) :
    MovePost F b l bad ⟨2, n, a, ⟨wk, wt, ⟨kk, kn, ks⟩, ⟨hk, hn, hs⟩, ra, rc, row, c, ⟨vk, vn, vs⟩, wn⟩, p, q⟩ w := by
  unfold MovePost
  show Calls Try.prog 105 #[.pointer (some ⟨b, 0, none⟩), .agg #[.int .i64 2, .int .i64 n, .int .i64 a, .int .i64 wk, .int .i64 wt, .int .i64 kk, .int .i64 kn, .string ks, .int .i64 hk, .int .i64 hn, .string hs, .slice ra row.length rc, .int .i64 c, .int .i64 vk, .int .i64 vn, .string vs, .int .i64 wn, .int .i64 p, .int .i64 q]] w _
  obtain ⟨p3, n0, n1, n2, hm, f1, f2, ⟨q0, q5⟩, q1, q4, q3, q2, q7, q6⟩ := three h (.cells #[.int .i64 2, .int .i64 n, .int .i64 a, .int .i64 wk, .int .i64 wt, .int .i64 kk, .int .i64 kn, .string ks, .int .i64 hk, .int .i64 hn, .string hs, .slice ra row.length rc, .int .i64 c, .int .i64 vk, .int .i64 vn, .string vs, .int .i64 wn, .int .i64 p, .int .i64 q] 94) (.cells #[.int .i64 0, .int .i64 0, .int .i64 0, .int .i64 0, .int .i64 0, .int .i64 0, .int .i64 0, .string ⟨#[]⟩, .int .i64 0, .int .i64 0, .string ⟨#[]⟩, .slice none 0 0, .int .i64 0, .int .i64 0, .int .i64 0, .string ⟨#[]⟩, .int .i64 0, .int .i64 0, .int .i64 0] 94) (.cells #[.int .i64 0, .int .i64 0, .int .i64 0, .int .i64 0, .int .i64 0, .int .i64 0, .int .i64 0, .string ⟨#[]⟩, .int .i64 0, .int .i64 0, .string ⟨#[]⟩, .slice none 0 0, .int .i64 0, .int .i64 0, .int .i64 0, .string ⟨#[]⟩, .int .i64 0, .int .i64 0, .int .i64 0] 94)
  have P := Lib.hid p3
  have X := Lib.hid (((Row.new w 94 [.int .i64 2, .int .i64 n, .int .i64 a, .int .i64 wk, .int .i64 wt, .int .i64 kk, .int .i64 kn, .string ks, .int .i64 hk, .int .i64 hn, .string hs, .slice ra row.length rc, .int .i64 c, .int .i64 vk, .int .i64 vn, .string vs, .int .i64 wn, .int .i64 p, .int .i64 q]).alloc (.cells #[.int .i64 0, .int .i64 0, .int .i64 0, .int .i64 0, .int .i64 0, .int .i64 0, .int .i64 0, .string ⟨#[]⟩, .int .i64 0, .int .i64 0, .string ⟨#[]⟩, .slice none 0 0, .int .i64 0, .int .i64 0, .int .i64 0, .string ⟨#[]⟩, .int .i64 0, .int .i64 0, .int .i64 0] 94)).alloc (.cells #[.int .i64 0, .int .i64 0, .int .i64 0, .int .i64 0, .int .i64 0, .int .i64 0, .int .i64 0, .string ⟨#[]⟩, .int .i64 0, .int .i64 0, .string ⟨#[]⟩, .slice none 0 0, .int .i64 0, .int .i64 0, .int .i64 0, .string ⟨#[]⟩, .int .i64 0, .int .i64 0, .int .i64 0] 94))
  have Y := Lib.hid ((show Row ((w.alloc (.cells #[.int .i64 2, .int .i64 n, .int .i64 a, .int .i64 wk, .int .i64 wt, .int .i64 kk, .int .i64 kn, .string ks, .int .i64 hk, .int .i64 hn, .string hs, .slice ra row.length rc, .int .i64 c, .int .i64 vk, .int .i64 vn, .string vs, .int .i64 wn, .int .i64 p, .int .i64 q] 94)).alloc (.cells #[.int .i64 0, .int .i64 0, .int .i64 0, .int .i64 0, .int .i64 0, .int .i64 0, .int .i64 0, .string ⟨#[]⟩, .int .i64 0, .int .i64 0, .string ⟨#[]⟩, .slice none 0 0, .int .i64 0, .int .i64 0, .int .i64 0, .string ⟨#[]⟩, .int .i64 0, .int .i64 0, .int .i64 0] 94)) (w.heap.size + 1) 94 [.int .i64 0, .int .i64 0, .int .i64 0, .int .i64 0, .int .i64 0, .int .i64 0, .int .i64 0, .string ⟨#[]⟩, .int .i64 0, .int .i64 0, .string ⟨#[]⟩, .slice none 0 0, .int .i64 0, .int .i64 0, .int .i64 0, .string ⟨#[]⟩, .int .i64 0, .int .i64 0, .int .i64 0] from Wide.new_at (by simp)).alloc (.cells #[.int .i64 0, .int .i64 0, .int .i64 0, .int .i64 0, .int .i64 0, .int .i64 0, .int .i64 0, .string ⟨#[]⟩, .int .i64 0, .int .i64 0, .string ⟨#[]⟩, .slice none 0 0, .int .i64 0, .int .i64 0, .int .i64 0, .string ⟨#[]⟩, .int .i64 0, .int .i64 0, .int .i64 0] 94))
  have Z := Lib.hid (show Row (((w.alloc (.cells #[.int .i64 2, .int .i64 n, .int .i64 a, .int .i64 wk, .int .i64 wt, .int .i64 kk, .int .i64 kn, .string ks, .int .i64 hk, .int .i64 hn, .string hs, .slice ra row.length rc, .int .i64 c, .int .i64 vk, .int .i64 vn, .string vs, .int .i64 wn, .int .i64 p, .int .i64 q] 94)).alloc (.cells #[.int .i64 0, .int .i64 0, .int .i64 0, .int .i64 0, .int .i64 0, .int .i64 0, .int .i64 0, .string ⟨#[]⟩, .int .i64 0, .int .i64 0, .string ⟨#[]⟩, .slice none 0 0, .int .i64 0, .int .i64 0, .int .i64 0, .string ⟨#[]⟩, .int .i64 0, .int .i64 0, .int .i64 0] 94)).alloc (.cells #[.int .i64 0, .int .i64 0, .int .i64 0, .int .i64 0, .int .i64 0, .int .i64 0, .int .i64 0, .string ⟨#[]⟩, .int .i64 0, .int .i64 0, .string ⟨#[]⟩, .slice none 0 0, .int .i64 0, .int .i64 0, .int .i64 0, .string ⟨#[]⟩, .int .i64 0, .int .i64 0, .int .i64 0] 94)) (w.heap.size + 1 + 1) 94 [.int .i64 0, .int .i64 0, .int .i64 0, .int .i64 0, .int .i64 0, .int .i64 0, .int .i64 0, .string ⟨#[]⟩, .int .i64 0, .int .i64 0, .string ⟨#[]⟩, .slice none 0 0, .int .i64 0, .int .i64 0, .int .i64 0, .string ⟨#[]⟩, .int .i64 0, .int .i64 0, .int .i64 0] from Wide.new_at (by simp))
  have C := Lib.hid ((((Chg.refl (BldX.Own F b) w).alloc (.cells #[.int .i64 2, .int .i64 n, .int .i64 a, .int .i64 wk, .int .i64 wt, .int .i64 kk, .int .i64 kn, .string ks, .int .i64 hk, .int .i64 hn, .string hs, .slice ra row.length rc, .int .i64 c, .int .i64 vk, .int .i64 vn, .string vs, .int .i64 wn, .int .i64 p, .int .i64 q] 94)).alloc (.cells #[.int .i64 0, .int .i64 0, .int .i64 0, .int .i64 0, .int .i64 0, .int .i64 0, .int .i64 0, .string ⟨#[]⟩, .int .i64 0, .int .i64 0, .string ⟨#[]⟩, .slice none 0 0, .int .i64 0, .int .i64 0, .int .i64 0, .string ⟨#[]⟩, .int .i64 0, .int .i64 0, .int .i64 0] 94)).alloc (.cells #[.int .i64 0, .int .i64 0, .int .i64 0, .int .i64 0, .int .i64 0, .int .i64 0, .int .i64 0, .string ⟨#[]⟩, .int .i64 0, .int .i64 0, .string ⟨#[]⟩, .slice none 0 0, .int .i64 0, .int .i64 0, .int .i64 0, .string ⟨#[]⟩, .int .i64 0, .int .i64 0, .int .i64 0] 94))
  have VV := Lib.hid hV
  have VN := Lib.hid hN
  have FF := Lib.hid hf
  have Hn0 := Lib.hid n0
  have Hn1 := Lib.hid n1
  have Hn2 := Lib.hid n2
  have Hhm := Lib.hid hm
  have Hf1 := Lib.hid f1
  have Hf2 := Lib.hid f2
  have hb : ¬ F b := h.1
  have HB := Lib.hid hb
  have x0 := X.out.cell (i := 0) rfl
  clear p3 n0 n1 n2 hm f1 f2 h hV hN hf hb
  go_enter Try.func105, Try.ntmps105
  go_wp2_with (refine store_row Z.out [.int .i64 2, .int .i64 0, .int .i64 0, .int .i64 0, .int .i64 0, .int .i64 0, .int .i64 0, .string ⟨#[]⟩, .int .i64 0, .int .i64 0, .string ⟨#[]⟩, .slice none 0 0, .int .i64 0, .int .i64 0, .int .i64 0, .string ⟨#[]⟩, .int .i64 0, .int .i64 0, .int .i64 0] 94 (by kernel_rfl) rfl (by simp [Value.oneCell']) rfl rfl rfl rfl ?_; intro wz hz kz zz; clear x0; replace X := Lib.hid (X.out.chg kz q6); replace Y := Lib.hid (Y.out.chg kz (Ne.symm q7)); replace Z := Lib.hid hz; replace P := Lib.hid (BldX.Is.chg P.out kz (fun e => q5 (show b = _ from e)) (fun k hk e => Hn2.out (.inr ((show k = _ from e) ▸ hk)))); replace C := Lib.hid (C.out.trans (kz.mono (fun k _ e => (.inr ((show k = _ from e) ▸ Hf2.out) : BldX.Own F b k)))); clear hz kz zz; have x0 := X.out.cell (i := 0) rfl)
  clear x0
  generalize w.heap.size + 1 + 1 = s2 at *
  generalize w.heap.size + 1 = s1 at *
  generalize w.heap.size = s0 at *
  refine (one_calls _ b (l) (bad) (2) _ P.out (by (try simp only [List.length_append, List.length_cons, List.length_nil, le_length]); omega)).mono ?_
  rintro e w1 ⟨rfl, hp, kc⟩
  replace X := Lib.hid (X.out.chg kc Hn0.out)
  replace Y := Lib.hid (Y.out.chg kc Hn1.out)
  replace Z := Lib.hid (Z.out.chg kc Hn2.out)
  replace C := Lib.hid (C.out.trans (kc.mono (fun k _ e => Hhm.out k e)))
  replace P := Lib.hid hp
  clear kc hp
  have z1 := Z.out.cell (i := 1) rfl
  have g1 := Z.out.frozen 1 (by simp)
  have x0 := X.out.cell (i := 0) rfl
  have x1 := X.out.cell (i := 1) rfl
  go_wp2_with fail
  replace X := Lib.hid (X.out.set_ne ⟨s2, 1, none⟩ (.int .i64 n) q2)
  replace Y := Lib.hid (Y.out.set_ne ⟨s2, 1, none⟩ (.int .i64 n) q7)
  replace Z := Lib.hid ((Z.out.set 1 (.int .i64 n)).cast (cs' := [.int .i64 2, .int .i64 n, .int .i64 0, .int .i64 0, .int .i64 0, .int .i64 0, .int .i64 0, .string ⟨#[]⟩, .int .i64 0, .int .i64 0, .string ⟨#[]⟩, .slice none 0 0, .int .i64 0, .int .i64 0, .int .i64 0, .string ⟨#[]⟩, .int .i64 0, .int .i64 0, .int .i64 0]) rfl)
  replace P := Lib.hid (beyond P.out q0 Hn2.out 1 (.int .i64 n))
  replace C := Lib.hid (Chg.setCell C.out (a := ⟨s2, 1, none⟩) (fun _ => (.inr Hf2.out : BldX.Own F b s2)) (.int .i64 n))
  clear x0 z1 g1
  clear x1
  refine (one_calls _ b (l ++ [oneB (2)]) (bad || oneBad (2)) (n) _ P.out (by (try simp only [List.length_append, List.length_cons, List.length_nil, le_length]); omega)).mono ?_
  rintro e w2 ⟨rfl, hp, kc⟩
  replace X := Lib.hid (X.out.chg kc Hn0.out)
  replace Y := Lib.hid (Y.out.chg kc Hn1.out)
  replace Z := Lib.hid (Z.out.chg kc Hn2.out)
  replace C := Lib.hid (C.out.trans (kc.mono (fun k _ e => Hhm.out k e)))
  replace P := Lib.hid hp
  clear kc hp
  go_wp2_with (first | (refine load_row Z.out 94 Try.underlying94 rfl (by kernel_rfl) rfl rfl rfl ?_) | (refine store_row Y.out [.int .i64 2, .int .i64 n, .int .i64 0, .int .i64 0, .int .i64 0, .int .i64 0, .int .i64 0, .string ⟨#[]⟩, .int .i64 0, .int .i64 0, .string ⟨#[]⟩, .slice none 0 0, .int .i64 0, .int .i64 0, .int .i64 0, .string ⟨#[]⟩, .int .i64 0, .int .i64 0, .int .i64 0] 94 (by kernel_rfl) rfl (by simp [Value.oneCell']) rfl rfl rfl rfl ?_; intro w90 hR hc hsz))
  have P9 := Lib.hid (BldX.Is.wider (BldX.Is.chg P.out hc (fun e => q1 (show s1 = b from e.symm)) (fun k hk e => Hn1.out (.inr ((show k = s1 from e) ▸ hk)))) (fun k hk => hk.1) HB.out)
  have C9 := Lib.hid (C.out.trans (hc.mono (fun k _ e => (.inr ((show k = s1 from e) ▸ Hf1.out) : BldX.Own F b k))))
  have R9 := Lib.hid hR
  clear hR hc hsz
  refine ret_row R9.out Try.results105 Try.underlying94 rfl (by kernel_rfl) rfl rfl ⟨?_, ?_, C9.out⟩
  · rfl
  · have e1 : l ++ [oneB (2)] ++ [oneB (n)] = l ++ Mv.bytes ⟨2, n, a, ⟨wk, wt, ⟨kk, kn, ks⟩, ⟨hk, hn, hs⟩, ra, rc, row, c, ⟨vk, vn, vs⟩, wn⟩, p, q⟩ := by simp [Mv.bytes, List.append_assoc]
    have e2 : (bad || oneBad (2) || oneBad (n)) = (bad || Mv.bad ⟨2, n, a, ⟨wk, wt, ⟨kk, kn, ks⟩, ⟨hk, hn, hs⟩, ra, rc, row, c, ⟨vk, vn, vs⟩, wn⟩, p, q⟩) := by simp [Mv.bad, List.append_assoc, Bool.or_assoc]
    rw [← e1, ← e2]
    exact P9.out
set_option maxHeartbeats 8000000 in
theorem move_3 (F : Nat → Prop) (b : Nat) (l : List UInt8) (bad : Bool) (n : Int) (a : Int) (wk wt kk kn : Int) (ks : ByteArray) (hk hn : Int) (hs : ByteArray) (ra : Option Addr) (rc : Nat) (row : List V) (c vk vn : Int) (vs : ByteArray) (wn p q : Int) (w : World) (h : Pen w F b l bad) (hV : Vs w ra row) (hN : ∀ ad, ra = some ad → row ≠ [] → ¬ BldX.Own F b ad.block) (hf : Wsh.fits ⟨wk, wt, ⟨kk, kn, ks⟩, ⟨hk, hn, hs⟩, ra, rc, row, c, ⟨vk, vn, vs⟩, wn⟩) (hl : l.length ≤ 70000000) (hr : row.length ≤ 1000) :
    MovePost F b l bad ⟨3, n, a, ⟨wk, wt, ⟨kk, kn, ks⟩, ⟨hk, hn, hs⟩, ra, rc, row, c, ⟨vk, vn, vs⟩, wn⟩, p, q⟩ w := by
  unfold MovePost
  show Calls Try.prog 105 #[.pointer (some ⟨b, 0, none⟩), .agg #[.int .i64 3, .int .i64 n, .int .i64 a, .int .i64 wk, .int .i64 wt, .int .i64 kk, .int .i64 kn, .string ks, .int .i64 hk, .int .i64 hn, .string hs, .slice ra row.length rc, .int .i64 c, .int .i64 vk, .int .i64 vn, .string vs, .int .i64 wn, .int .i64 p, .int .i64 q]] w _
  obtain ⟨p3, n0, n1, n2, hm, f1, f2, ⟨q0, q5⟩, q1, q4, q3, q2, q7, q6⟩ := three h (.cells #[.int .i64 3, .int .i64 n, .int .i64 a, .int .i64 wk, .int .i64 wt, .int .i64 kk, .int .i64 kn, .string ks, .int .i64 hk, .int .i64 hn, .string hs, .slice ra row.length rc, .int .i64 c, .int .i64 vk, .int .i64 vn, .string vs, .int .i64 wn, .int .i64 p, .int .i64 q] 94) (.cells #[.int .i64 0, .int .i64 0, .int .i64 0, .int .i64 0, .int .i64 0, .int .i64 0, .int .i64 0, .string ⟨#[]⟩, .int .i64 0, .int .i64 0, .string ⟨#[]⟩, .slice none 0 0, .int .i64 0, .int .i64 0, .int .i64 0, .string ⟨#[]⟩, .int .i64 0, .int .i64 0, .int .i64 0] 94) (.cells #[.int .i64 0, .int .i64 0, .int .i64 0, .int .i64 0, .int .i64 0, .int .i64 0, .int .i64 0, .string ⟨#[]⟩, .int .i64 0, .int .i64 0, .string ⟨#[]⟩, .slice none 0 0, .int .i64 0, .int .i64 0, .int .i64 0, .string ⟨#[]⟩, .int .i64 0, .int .i64 0, .int .i64 0] 94)
  have P := Lib.hid p3
  have X := Lib.hid (((Row.new w 94 [.int .i64 3, .int .i64 n, .int .i64 a, .int .i64 wk, .int .i64 wt, .int .i64 kk, .int .i64 kn, .string ks, .int .i64 hk, .int .i64 hn, .string hs, .slice ra row.length rc, .int .i64 c, .int .i64 vk, .int .i64 vn, .string vs, .int .i64 wn, .int .i64 p, .int .i64 q]).alloc (.cells #[.int .i64 0, .int .i64 0, .int .i64 0, .int .i64 0, .int .i64 0, .int .i64 0, .int .i64 0, .string ⟨#[]⟩, .int .i64 0, .int .i64 0, .string ⟨#[]⟩, .slice none 0 0, .int .i64 0, .int .i64 0, .int .i64 0, .string ⟨#[]⟩, .int .i64 0, .int .i64 0, .int .i64 0] 94)).alloc (.cells #[.int .i64 0, .int .i64 0, .int .i64 0, .int .i64 0, .int .i64 0, .int .i64 0, .int .i64 0, .string ⟨#[]⟩, .int .i64 0, .int .i64 0, .string ⟨#[]⟩, .slice none 0 0, .int .i64 0, .int .i64 0, .int .i64 0, .string ⟨#[]⟩, .int .i64 0, .int .i64 0, .int .i64 0] 94))
  have Y := Lib.hid ((show Row ((w.alloc (.cells #[.int .i64 3, .int .i64 n, .int .i64 a, .int .i64 wk, .int .i64 wt, .int .i64 kk, .int .i64 kn, .string ks, .int .i64 hk, .int .i64 hn, .string hs, .slice ra row.length rc, .int .i64 c, .int .i64 vk, .int .i64 vn, .string vs, .int .i64 wn, .int .i64 p, .int .i64 q] 94)).alloc (.cells #[.int .i64 0, .int .i64 0, .int .i64 0, .int .i64 0, .int .i64 0, .int .i64 0, .int .i64 0, .string ⟨#[]⟩, .int .i64 0, .int .i64 0, .string ⟨#[]⟩, .slice none 0 0, .int .i64 0, .int .i64 0, .int .i64 0, .string ⟨#[]⟩, .int .i64 0, .int .i64 0, .int .i64 0] 94)) (w.heap.size + 1) 94 [.int .i64 0, .int .i64 0, .int .i64 0, .int .i64 0, .int .i64 0, .int .i64 0, .int .i64 0, .string ⟨#[]⟩, .int .i64 0, .int .i64 0, .string ⟨#[]⟩, .slice none 0 0, .int .i64 0, .int .i64 0, .int .i64 0, .string ⟨#[]⟩, .int .i64 0, .int .i64 0, .int .i64 0] from Wide.new_at (by simp)).alloc (.cells #[.int .i64 0, .int .i64 0, .int .i64 0, .int .i64 0, .int .i64 0, .int .i64 0, .int .i64 0, .string ⟨#[]⟩, .int .i64 0, .int .i64 0, .string ⟨#[]⟩, .slice none 0 0, .int .i64 0, .int .i64 0, .int .i64 0, .string ⟨#[]⟩, .int .i64 0, .int .i64 0, .int .i64 0] 94))
  have Z := Lib.hid (show Row (((w.alloc (.cells #[.int .i64 3, .int .i64 n, .int .i64 a, .int .i64 wk, .int .i64 wt, .int .i64 kk, .int .i64 kn, .string ks, .int .i64 hk, .int .i64 hn, .string hs, .slice ra row.length rc, .int .i64 c, .int .i64 vk, .int .i64 vn, .string vs, .int .i64 wn, .int .i64 p, .int .i64 q] 94)).alloc (.cells #[.int .i64 0, .int .i64 0, .int .i64 0, .int .i64 0, .int .i64 0, .int .i64 0, .int .i64 0, .string ⟨#[]⟩, .int .i64 0, .int .i64 0, .string ⟨#[]⟩, .slice none 0 0, .int .i64 0, .int .i64 0, .int .i64 0, .string ⟨#[]⟩, .int .i64 0, .int .i64 0, .int .i64 0] 94)).alloc (.cells #[.int .i64 0, .int .i64 0, .int .i64 0, .int .i64 0, .int .i64 0, .int .i64 0, .int .i64 0, .string ⟨#[]⟩, .int .i64 0, .int .i64 0, .string ⟨#[]⟩, .slice none 0 0, .int .i64 0, .int .i64 0, .int .i64 0, .string ⟨#[]⟩, .int .i64 0, .int .i64 0, .int .i64 0] 94)) (w.heap.size + 1 + 1) 94 [.int .i64 0, .int .i64 0, .int .i64 0, .int .i64 0, .int .i64 0, .int .i64 0, .int .i64 0, .string ⟨#[]⟩, .int .i64 0, .int .i64 0, .string ⟨#[]⟩, .slice none 0 0, .int .i64 0, .int .i64 0, .int .i64 0, .string ⟨#[]⟩, .int .i64 0, .int .i64 0, .int .i64 0] from Wide.new_at (by simp))
  have C := Lib.hid ((((Chg.refl (BldX.Own F b) w).alloc (.cells #[.int .i64 3, .int .i64 n, .int .i64 a, .int .i64 wk, .int .i64 wt, .int .i64 kk, .int .i64 kn, .string ks, .int .i64 hk, .int .i64 hn, .string hs, .slice ra row.length rc, .int .i64 c, .int .i64 vk, .int .i64 vn, .string vs, .int .i64 wn, .int .i64 p, .int .i64 q] 94)).alloc (.cells #[.int .i64 0, .int .i64 0, .int .i64 0, .int .i64 0, .int .i64 0, .int .i64 0, .int .i64 0, .string ⟨#[]⟩, .int .i64 0, .int .i64 0, .string ⟨#[]⟩, .slice none 0 0, .int .i64 0, .int .i64 0, .int .i64 0, .string ⟨#[]⟩, .int .i64 0, .int .i64 0, .int .i64 0] 94)).alloc (.cells #[.int .i64 0, .int .i64 0, .int .i64 0, .int .i64 0, .int .i64 0, .int .i64 0, .int .i64 0, .string ⟨#[]⟩, .int .i64 0, .int .i64 0, .string ⟨#[]⟩, .slice none 0 0, .int .i64 0, .int .i64 0, .int .i64 0, .string ⟨#[]⟩, .int .i64 0, .int .i64 0, .int .i64 0] 94))
  have VV := Lib.hid hV
  have VN := Lib.hid hN
  have FF := Lib.hid hf
  have Hn0 := Lib.hid n0
  have Hn1 := Lib.hid n1
  have Hn2 := Lib.hid n2
  have Hhm := Lib.hid hm
  have Hf1 := Lib.hid f1
  have Hf2 := Lib.hid f2
  have hb : ¬ F b := h.1
  have HB := Lib.hid hb
  have x0 := X.out.cell (i := 0) rfl
  clear p3 n0 n1 n2 hm f1 f2 h hV hN hf hb
  go_enter Try.func105, Try.ntmps105
  go_wp2_with (refine store_row Z.out [.int .i64 3, .int .i64 0, .int .i64 0, .int .i64 0, .int .i64 0, .int .i64 0, .int .i64 0, .string ⟨#[]⟩, .int .i64 0, .int .i64 0, .string ⟨#[]⟩, .slice none 0 0, .int .i64 0, .int .i64 0, .int .i64 0, .string ⟨#[]⟩, .int .i64 0, .int .i64 0, .int .i64 0] 94 (by kernel_rfl) rfl (by simp [Value.oneCell']) rfl rfl rfl rfl ?_; intro wz hz kz zz; clear x0; replace X := Lib.hid (X.out.chg kz q6); replace Y := Lib.hid (Y.out.chg kz (Ne.symm q7)); replace Z := Lib.hid hz; replace P := Lib.hid (BldX.Is.chg P.out kz (fun e => q5 (show b = _ from e)) (fun k hk e => Hn2.out (.inr ((show k = _ from e) ▸ hk)))); replace C := Lib.hid (C.out.trans (kz.mono (fun k _ e => (.inr ((show k = _ from e) ▸ Hf2.out) : BldX.Own F b k)))); clear hz kz zz; have x0 := X.out.cell (i := 0) rfl)
  clear x0
  generalize w.heap.size + 1 + 1 = s2 at *
  generalize w.heap.size + 1 = s1 at *
  generalize w.heap.size = s0 at *
  refine (one_calls _ b (l) (bad) (3) _ P.out (by (try simp only [List.length_append, List.length_cons, List.length_nil, le_length]); omega)).mono ?_
  rintro e w1 ⟨rfl, hp, kc⟩
  replace X := Lib.hid (X.out.chg kc Hn0.out)
  replace Y := Lib.hid (Y.out.chg kc Hn1.out)
  replace Z := Lib.hid (Z.out.chg kc Hn2.out)
  replace C := Lib.hid (C.out.trans (kc.mono (fun k _ e => Hhm.out k e)))
  replace P := Lib.hid hp
  clear kc hp
  have z1 := Z.out.cell (i := 1) rfl
  have g1 := Z.out.frozen 1 (by simp)
  have x0 := X.out.cell (i := 0) rfl
  have x1 := X.out.cell (i := 1) rfl
  go_wp2_with fail
  replace X := Lib.hid (X.out.set_ne ⟨s2, 1, none⟩ (.int .i64 n) q2)
  replace Y := Lib.hid (Y.out.set_ne ⟨s2, 1, none⟩ (.int .i64 n) q7)
  replace Z := Lib.hid ((Z.out.set 1 (.int .i64 n)).cast (cs' := [.int .i64 3, .int .i64 n, .int .i64 0, .int .i64 0, .int .i64 0, .int .i64 0, .int .i64 0, .string ⟨#[]⟩, .int .i64 0, .int .i64 0, .string ⟨#[]⟩, .slice none 0 0, .int .i64 0, .int .i64 0, .int .i64 0, .string ⟨#[]⟩, .int .i64 0, .int .i64 0, .int .i64 0]) rfl)
  replace P := Lib.hid (beyond P.out q0 Hn2.out 1 (.int .i64 n))
  replace C := Lib.hid (Chg.setCell C.out (a := ⟨s2, 1, none⟩) (fun _ => (.inr Hf2.out : BldX.Own F b s2)) (.int .i64 n))
  clear x0 z1 g1
  clear x1
  refine (one_calls _ b (l ++ [oneB (3)]) (bad || oneBad (3)) (n) _ P.out (by (try simp only [List.length_append, List.length_cons, List.length_nil, le_length]); omega)).mono ?_
  rintro e w2 ⟨rfl, hp, kc⟩
  replace X := Lib.hid (X.out.chg kc Hn0.out)
  replace Y := Lib.hid (Y.out.chg kc Hn1.out)
  replace Z := Lib.hid (Z.out.chg kc Hn2.out)
  replace C := Lib.hid (C.out.trans (kc.mono (fun k _ e => Hhm.out k e)))
  replace P := Lib.hid hp
  clear kc hp
  go_wp2_with (first | (refine load_row Z.out 94 Try.underlying94 rfl (by kernel_rfl) rfl rfl rfl ?_) | (refine store_row Y.out [.int .i64 3, .int .i64 n, .int .i64 0, .int .i64 0, .int .i64 0, .int .i64 0, .int .i64 0, .string ⟨#[]⟩, .int .i64 0, .int .i64 0, .string ⟨#[]⟩, .slice none 0 0, .int .i64 0, .int .i64 0, .int .i64 0, .string ⟨#[]⟩, .int .i64 0, .int .i64 0, .int .i64 0] 94 (by kernel_rfl) rfl (by simp [Value.oneCell']) rfl rfl rfl rfl ?_; intro w90 hR hc hsz))
  have P9 := Lib.hid (BldX.Is.wider (BldX.Is.chg P.out hc (fun e => q1 (show s1 = b from e.symm)) (fun k hk e => Hn1.out (.inr ((show k = s1 from e) ▸ hk)))) (fun k hk => hk.1) HB.out)
  have C9 := Lib.hid (C.out.trans (hc.mono (fun k _ e => (.inr ((show k = s1 from e) ▸ Hf1.out) : BldX.Own F b k))))
  have R9 := Lib.hid hR
  clear hR hc hsz
  refine ret_row R9.out Try.results105 Try.underlying94 rfl (by kernel_rfl) rfl rfl ⟨?_, ?_, C9.out⟩
  · rfl
  · have e1 : l ++ [oneB (3)] ++ [oneB (n)] = l ++ Mv.bytes ⟨3, n, a, ⟨wk, wt, ⟨kk, kn, ks⟩, ⟨hk, hn, hs⟩, ra, rc, row, c, ⟨vk, vn, vs⟩, wn⟩, p, q⟩ := by simp [Mv.bytes, List.append_assoc]
    have e2 : (bad || oneBad (3) || oneBad (n)) = (bad || Mv.bad ⟨3, n, a, ⟨wk, wt, ⟨kk, kn, ks⟩, ⟨hk, hn, hs⟩, ra, rc, row, c, ⟨vk, vn, vs⟩, wn⟩, p, q⟩) := by simp [Mv.bad, List.append_assoc, Bool.or_assoc]
    rw [← e1, ← e2]
    exact P9.out
set_option maxHeartbeats 8000000 in
theorem move_4 (F : Nat → Prop) (b : Nat) (l : List UInt8) (bad : Bool) (n : Int) (a : Int) (wk wt kk kn : Int) (ks : ByteArray) (hk hn : Int) (hs : ByteArray) (ra : Option Addr) (rc : Nat) (row : List V) (c vk vn : Int) (vs : ByteArray) (wn p q : Int) (w : World) (h : Pen w F b l bad) (hV : Vs w ra row) (hN : ∀ ad, ra = some ad → row ≠ [] → ¬ BldX.Own F b ad.block) (hf : Wsh.fits ⟨wk, wt, ⟨kk, kn, ks⟩, ⟨hk, hn, hs⟩, ra, rc, row, c, ⟨vk, vn, vs⟩, wn⟩) (hl : l.length ≤ 70000000) (hr : row.length ≤ 1000) :
    MovePost F b l bad ⟨4, n, a, ⟨wk, wt, ⟨kk, kn, ks⟩, ⟨hk, hn, hs⟩, ra, rc, row, c, ⟨vk, vn, vs⟩, wn⟩, p, q⟩ w := by
  unfold MovePost
  show Calls Try.prog 105 #[.pointer (some ⟨b, 0, none⟩), .agg #[.int .i64 4, .int .i64 n, .int .i64 a, .int .i64 wk, .int .i64 wt, .int .i64 kk, .int .i64 kn, .string ks, .int .i64 hk, .int .i64 hn, .string hs, .slice ra row.length rc, .int .i64 c, .int .i64 vk, .int .i64 vn, .string vs, .int .i64 wn, .int .i64 p, .int .i64 q]] w _
  obtain ⟨p3, n0, n1, n2, hm, f1, f2, ⟨q0, q5⟩, q1, q4, q3, q2, q7, q6⟩ := three h (.cells #[.int .i64 4, .int .i64 n, .int .i64 a, .int .i64 wk, .int .i64 wt, .int .i64 kk, .int .i64 kn, .string ks, .int .i64 hk, .int .i64 hn, .string hs, .slice ra row.length rc, .int .i64 c, .int .i64 vk, .int .i64 vn, .string vs, .int .i64 wn, .int .i64 p, .int .i64 q] 94) (.cells #[.int .i64 0, .int .i64 0, .int .i64 0, .int .i64 0, .int .i64 0, .int .i64 0, .int .i64 0, .string ⟨#[]⟩, .int .i64 0, .int .i64 0, .string ⟨#[]⟩, .slice none 0 0, .int .i64 0, .int .i64 0, .int .i64 0, .string ⟨#[]⟩, .int .i64 0, .int .i64 0, .int .i64 0] 94) (.cells #[.int .i64 0, .int .i64 0, .int .i64 0, .int .i64 0, .int .i64 0, .int .i64 0, .int .i64 0, .string ⟨#[]⟩, .int .i64 0, .int .i64 0, .string ⟨#[]⟩, .slice none 0 0, .int .i64 0, .int .i64 0, .int .i64 0, .string ⟨#[]⟩, .int .i64 0, .int .i64 0, .int .i64 0] 94)
  have P := Lib.hid p3
  have X := Lib.hid (((Row.new w 94 [.int .i64 4, .int .i64 n, .int .i64 a, .int .i64 wk, .int .i64 wt, .int .i64 kk, .int .i64 kn, .string ks, .int .i64 hk, .int .i64 hn, .string hs, .slice ra row.length rc, .int .i64 c, .int .i64 vk, .int .i64 vn, .string vs, .int .i64 wn, .int .i64 p, .int .i64 q]).alloc (.cells #[.int .i64 0, .int .i64 0, .int .i64 0, .int .i64 0, .int .i64 0, .int .i64 0, .int .i64 0, .string ⟨#[]⟩, .int .i64 0, .int .i64 0, .string ⟨#[]⟩, .slice none 0 0, .int .i64 0, .int .i64 0, .int .i64 0, .string ⟨#[]⟩, .int .i64 0, .int .i64 0, .int .i64 0] 94)).alloc (.cells #[.int .i64 0, .int .i64 0, .int .i64 0, .int .i64 0, .int .i64 0, .int .i64 0, .int .i64 0, .string ⟨#[]⟩, .int .i64 0, .int .i64 0, .string ⟨#[]⟩, .slice none 0 0, .int .i64 0, .int .i64 0, .int .i64 0, .string ⟨#[]⟩, .int .i64 0, .int .i64 0, .int .i64 0] 94))
  have Y := Lib.hid ((show Row ((w.alloc (.cells #[.int .i64 4, .int .i64 n, .int .i64 a, .int .i64 wk, .int .i64 wt, .int .i64 kk, .int .i64 kn, .string ks, .int .i64 hk, .int .i64 hn, .string hs, .slice ra row.length rc, .int .i64 c, .int .i64 vk, .int .i64 vn, .string vs, .int .i64 wn, .int .i64 p, .int .i64 q] 94)).alloc (.cells #[.int .i64 0, .int .i64 0, .int .i64 0, .int .i64 0, .int .i64 0, .int .i64 0, .int .i64 0, .string ⟨#[]⟩, .int .i64 0, .int .i64 0, .string ⟨#[]⟩, .slice none 0 0, .int .i64 0, .int .i64 0, .int .i64 0, .string ⟨#[]⟩, .int .i64 0, .int .i64 0, .int .i64 0] 94)) (w.heap.size + 1) 94 [.int .i64 0, .int .i64 0, .int .i64 0, .int .i64 0, .int .i64 0, .int .i64 0, .int .i64 0, .string ⟨#[]⟩, .int .i64 0, .int .i64 0, .string ⟨#[]⟩, .slice none 0 0, .int .i64 0, .int .i64 0, .int .i64 0, .string ⟨#[]⟩, .int .i64 0, .int .i64 0, .int .i64 0] from Wide.new_at (by simp)).alloc (.cells #[.int .i64 0, .int .i64 0, .int .i64 0, .int .i64 0, .int .i64 0, .int .i64 0, .int .i64 0, .string ⟨#[]⟩, .int .i64 0, .int .i64 0, .string ⟨#[]⟩, .slice none 0 0, .int .i64 0, .int .i64 0, .int .i64 0, .string ⟨#[]⟩, .int .i64 0, .int .i64 0, .int .i64 0] 94))
  have Z := Lib.hid (show Row (((w.alloc (.cells #[.int .i64 4, .int .i64 n, .int .i64 a, .int .i64 wk, .int .i64 wt, .int .i64 kk, .int .i64 kn, .string ks, .int .i64 hk, .int .i64 hn, .string hs, .slice ra row.length rc, .int .i64 c, .int .i64 vk, .int .i64 vn, .string vs, .int .i64 wn, .int .i64 p, .int .i64 q] 94)).alloc (.cells #[.int .i64 0, .int .i64 0, .int .i64 0, .int .i64 0, .int .i64 0, .int .i64 0, .int .i64 0, .string ⟨#[]⟩, .int .i64 0, .int .i64 0, .string ⟨#[]⟩, .slice none 0 0, .int .i64 0, .int .i64 0, .int .i64 0, .string ⟨#[]⟩, .int .i64 0, .int .i64 0, .int .i64 0] 94)).alloc (.cells #[.int .i64 0, .int .i64 0, .int .i64 0, .int .i64 0, .int .i64 0, .int .i64 0, .int .i64 0, .string ⟨#[]⟩, .int .i64 0, .int .i64 0, .string ⟨#[]⟩, .slice none 0 0, .int .i64 0, .int .i64 0, .int .i64 0, .string ⟨#[]⟩, .int .i64 0, .int .i64 0, .int .i64 0] 94)) (w.heap.size + 1 + 1) 94 [.int .i64 0, .int .i64 0, .int .i64 0, .int .i64 0, .int .i64 0, .int .i64 0, .int .i64 0, .string ⟨#[]⟩, .int .i64 0, .int .i64 0, .string ⟨#[]⟩, .slice none 0 0, .int .i64 0, .int .i64 0, .int .i64 0, .string ⟨#[]⟩, .int .i64 0, .int .i64 0, .int .i64 0] from Wide.new_at (by simp))
  have C := Lib.hid ((((Chg.refl (BldX.Own F b) w).alloc (.cells #[.int .i64 4, .int .i64 n, .int .i64 a, .int .i64 wk, .int .i64 wt, .int .i64 kk, .int .i64 kn, .string ks, .int .i64 hk, .int .i64 hn, .string hs, .slice ra row.length rc, .int .i64 c, .int .i64 vk, .int .i64 vn, .string vs, .int .i64 wn, .int .i64 p, .int .i64 q] 94)).alloc (.cells #[.int .i64 0, .int .i64 0, .int .i64 0, .int .i64 0, .int .i64 0, .int .i64 0, .int .i64 0, .string ⟨#[]⟩, .int .i64 0, .int .i64 0, .string ⟨#[]⟩, .slice none 0 0, .int .i64 0, .int .i64 0, .int .i64 0, .string ⟨#[]⟩, .int .i64 0, .int .i64 0, .int .i64 0] 94)).alloc (.cells #[.int .i64 0, .int .i64 0, .int .i64 0, .int .i64 0, .int .i64 0, .int .i64 0, .int .i64 0, .string ⟨#[]⟩, .int .i64 0, .int .i64 0, .string ⟨#[]⟩, .slice none 0 0, .int .i64 0, .int .i64 0, .int .i64 0, .string ⟨#[]⟩, .int .i64 0, .int .i64 0, .int .i64 0] 94))
  have VV := Lib.hid hV
  have VN := Lib.hid hN
  have FF := Lib.hid hf
  have Hn0 := Lib.hid n0
  have Hn1 := Lib.hid n1
  have Hn2 := Lib.hid n2
  have Hhm := Lib.hid hm
  have Hf1 := Lib.hid f1
  have Hf2 := Lib.hid f2
  have hb : ¬ F b := h.1
  have HB := Lib.hid hb
  have x0 := X.out.cell (i := 0) rfl
  clear p3 n0 n1 n2 hm f1 f2 h hV hN hf hb
  go_enter Try.func105, Try.ntmps105
  go_wp2_with (refine store_row Z.out [.int .i64 4, .int .i64 0, .int .i64 0, .int .i64 0, .int .i64 0, .int .i64 0, .int .i64 0, .string ⟨#[]⟩, .int .i64 0, .int .i64 0, .string ⟨#[]⟩, .slice none 0 0, .int .i64 0, .int .i64 0, .int .i64 0, .string ⟨#[]⟩, .int .i64 0, .int .i64 0, .int .i64 0] 94 (by kernel_rfl) rfl (by simp [Value.oneCell']) rfl rfl rfl rfl ?_; intro wz hz kz zz; clear x0; replace X := Lib.hid (X.out.chg kz q6); replace Y := Lib.hid (Y.out.chg kz (Ne.symm q7)); replace Z := Lib.hid hz; replace P := Lib.hid (BldX.Is.chg P.out kz (fun e => q5 (show b = _ from e)) (fun k hk e => Hn2.out (.inr ((show k = _ from e) ▸ hk)))); replace C := Lib.hid (C.out.trans (kz.mono (fun k _ e => (.inr ((show k = _ from e) ▸ Hf2.out) : BldX.Own F b k)))); clear hz kz zz; have x0 := X.out.cell (i := 0) rfl)
  clear x0
  generalize w.heap.size + 1 + 1 = s2 at *
  generalize w.heap.size + 1 = s1 at *
  generalize w.heap.size = s0 at *
  refine (one_calls _ b (l) (bad) (4) _ P.out (by (try simp only [List.length_append, List.length_cons, List.length_nil, le_length]); omega)).mono ?_
  rintro e w1 ⟨rfl, hp, kc⟩
  replace X := Lib.hid (X.out.chg kc Hn0.out)
  replace Y := Lib.hid (Y.out.chg kc Hn1.out)
  replace Z := Lib.hid (Z.out.chg kc Hn2.out)
  replace C := Lib.hid (C.out.trans (kc.mono (fun k _ e => Hhm.out k e)))
  replace P := Lib.hid hp
  clear kc hp
  have z1 := Z.out.cell (i := 1) rfl
  have g1 := Z.out.frozen 1 (by simp)
  have x0 := X.out.cell (i := 0) rfl
  have x1 := X.out.cell (i := 1) rfl
  go_wp2_with fail
  replace X := Lib.hid (X.out.set_ne ⟨s2, 1, none⟩ (.int .i64 n) q2)
  replace Y := Lib.hid (Y.out.set_ne ⟨s2, 1, none⟩ (.int .i64 n) q7)
  replace Z := Lib.hid ((Z.out.set 1 (.int .i64 n)).cast (cs' := [.int .i64 4, .int .i64 n, .int .i64 0, .int .i64 0, .int .i64 0, .int .i64 0, .int .i64 0, .string ⟨#[]⟩, .int .i64 0, .int .i64 0, .string ⟨#[]⟩, .slice none 0 0, .int .i64 0, .int .i64 0, .int .i64 0, .string ⟨#[]⟩, .int .i64 0, .int .i64 0, .int .i64 0]) rfl)
  replace P := Lib.hid (beyond P.out q0 Hn2.out 1 (.int .i64 n))
  replace C := Lib.hid (Chg.setCell C.out (a := ⟨s2, 1, none⟩) (fun _ => (.inr Hf2.out : BldX.Own F b s2)) (.int .i64 n))
  clear x0 z1 g1
  clear x1
  refine (one_calls _ b (l ++ [oneB (4)]) (bad || oneBad (4)) (n) _ P.out (by (try simp only [List.length_append, List.length_cons, List.length_nil, le_length]); omega)).mono ?_
  rintro e w2 ⟨rfl, hp, kc⟩
  replace X := Lib.hid (X.out.chg kc Hn0.out)
  replace Y := Lib.hid (Y.out.chg kc Hn1.out)
  replace Z := Lib.hid (Z.out.chg kc Hn2.out)
  replace C := Lib.hid (C.out.trans (kc.mono (fun k _ e => Hhm.out k e)))
  replace P := Lib.hid hp
  clear kc hp
  go_wp2_with (first | (refine load_row Z.out 94 Try.underlying94 rfl (by kernel_rfl) rfl rfl rfl ?_) | (refine store_row Y.out [.int .i64 4, .int .i64 n, .int .i64 0, .int .i64 0, .int .i64 0, .int .i64 0, .int .i64 0, .string ⟨#[]⟩, .int .i64 0, .int .i64 0, .string ⟨#[]⟩, .slice none 0 0, .int .i64 0, .int .i64 0, .int .i64 0, .string ⟨#[]⟩, .int .i64 0, .int .i64 0, .int .i64 0] 94 (by kernel_rfl) rfl (by simp [Value.oneCell']) rfl rfl rfl rfl ?_; intro w90 hR hc hsz))
  have P9 := Lib.hid (BldX.Is.wider (BldX.Is.chg P.out hc (fun e => q1 (show s1 = b from e.symm)) (fun k hk e => Hn1.out (.inr ((show k = s1 from e) ▸ hk)))) (fun k hk => hk.1) HB.out)
  have C9 := Lib.hid (C.out.trans (hc.mono (fun k _ e => (.inr ((show k = s1 from e) ▸ Hf1.out) : BldX.Own F b k))))
  have R9 := Lib.hid hR
  clear hR hc hsz
  refine ret_row R9.out Try.results105 Try.underlying94 rfl (by kernel_rfl) rfl rfl ⟨?_, ?_, C9.out⟩
  · rfl
  · have e1 : l ++ [oneB (4)] ++ [oneB (n)] = l ++ Mv.bytes ⟨4, n, a, ⟨wk, wt, ⟨kk, kn, ks⟩, ⟨hk, hn, hs⟩, ra, rc, row, c, ⟨vk, vn, vs⟩, wn⟩, p, q⟩ := by simp [Mv.bytes, List.append_assoc]
    have e2 : (bad || oneBad (4) || oneBad (n)) = (bad || Mv.bad ⟨4, n, a, ⟨wk, wt, ⟨kk, kn, ks⟩, ⟨hk, hn, hs⟩, ra, rc, row, c, ⟨vk, vn, vs⟩, wn⟩, p, q⟩) := by simp [Mv.bad, List.append_assoc, Bool.or_assoc]
    rw [← e1, ← e2]
    exact P9.out
set_option maxHeartbeats 8000000 in
theorem move_8 (F : Nat → Prop) (b : Nat) (l : List UInt8) (bad : Bool) (n : Int) (a : Int) (wk wt kk kn : Int) (ks : ByteArray) (hk hn : Int) (hs : ByteArray) (ra : Option Addr) (rc : Nat) (row : List V) (c vk vn : Int) (vs : ByteArray) (wn p q : Int) (w : World) (h : Pen w F b l bad) (hV : Vs w ra row) (hN : ∀ ad, ra = some ad → row ≠ [] → ¬ BldX.Own F b ad.block) (hf : Wsh.fits ⟨wk, wt, ⟨kk, kn, ks⟩, ⟨hk, hn, hs⟩, ra, rc, row, c, ⟨vk, vn, vs⟩, wn⟩) (hl : l.length ≤ 70000000) (hr : row.length ≤ 1000) :
    MovePost F b l bad ⟨8, n, a, ⟨wk, wt, ⟨kk, kn, ks⟩, ⟨hk, hn, hs⟩, ra, rc, row, c, ⟨vk, vn, vs⟩, wn⟩, p, q⟩ w := by
  unfold MovePost
  show Calls Try.prog 105 #[.pointer (some ⟨b, 0, none⟩), .agg #[.int .i64 8, .int .i64 n, .int .i64 a, .int .i64 wk, .int .i64 wt, .int .i64 kk, .int .i64 kn, .string ks, .int .i64 hk, .int .i64 hn, .string hs, .slice ra row.length rc, .int .i64 c, .int .i64 vk, .int .i64 vn, .string vs, .int .i64 wn, .int .i64 p, .int .i64 q]] w _
  obtain ⟨p3, n0, n1, n2, hm, f1, f2, ⟨q0, q5⟩, q1, q4, q3, q2, q7, q6⟩ := three h (.cells #[.int .i64 8, .int .i64 n, .int .i64 a, .int .i64 wk, .int .i64 wt, .int .i64 kk, .int .i64 kn, .string ks, .int .i64 hk, .int .i64 hn, .string hs, .slice ra row.length rc, .int .i64 c, .int .i64 vk, .int .i64 vn, .string vs, .int .i64 wn, .int .i64 p, .int .i64 q] 94) (.cells #[.int .i64 0, .int .i64 0, .int .i64 0, .int .i64 0, .int .i64 0, .int .i64 0, .int .i64 0, .string ⟨#[]⟩, .int .i64 0, .int .i64 0, .string ⟨#[]⟩, .slice none 0 0, .int .i64 0, .int .i64 0, .int .i64 0, .string ⟨#[]⟩, .int .i64 0, .int .i64 0, .int .i64 0] 94) (.cells #[.int .i64 0, .int .i64 0, .int .i64 0, .int .i64 0, .int .i64 0, .int .i64 0, .int .i64 0, .string ⟨#[]⟩, .int .i64 0, .int .i64 0, .string ⟨#[]⟩, .slice none 0 0, .int .i64 0, .int .i64 0, .int .i64 0, .string ⟨#[]⟩, .int .i64 0, .int .i64 0, .int .i64 0] 94)
  have P := Lib.hid p3
  have X := Lib.hid (((Row.new w 94 [.int .i64 8, .int .i64 n, .int .i64 a, .int .i64 wk, .int .i64 wt, .int .i64 kk, .int .i64 kn, .string ks, .int .i64 hk, .int .i64 hn, .string hs, .slice ra row.length rc, .int .i64 c, .int .i64 vk, .int .i64 vn, .string vs, .int .i64 wn, .int .i64 p, .int .i64 q]).alloc (.cells #[.int .i64 0, .int .i64 0, .int .i64 0, .int .i64 0, .int .i64 0, .int .i64 0, .int .i64 0, .string ⟨#[]⟩, .int .i64 0, .int .i64 0, .string ⟨#[]⟩, .slice none 0 0, .int .i64 0, .int .i64 0, .int .i64 0, .string ⟨#[]⟩, .int .i64 0, .int .i64 0, .int .i64 0] 94)).alloc (.cells #[.int .i64 0, .int .i64 0, .int .i64 0, .int .i64 0, .int .i64 0, .int .i64 0, .int .i64 0, .string ⟨#[]⟩, .int .i64 0, .int .i64 0, .string ⟨#[]⟩, .slice none 0 0, .int .i64 0, .int .i64 0, .int .i64 0, .string ⟨#[]⟩, .int .i64 0, .int .i64 0, .int .i64 0] 94))
  have Y := Lib.hid ((show Row ((w.alloc (.cells #[.int .i64 8, .int .i64 n, .int .i64 a, .int .i64 wk, .int .i64 wt, .int .i64 kk, .int .i64 kn, .string ks, .int .i64 hk, .int .i64 hn, .string hs, .slice ra row.length rc, .int .i64 c, .int .i64 vk, .int .i64 vn, .string vs, .int .i64 wn, .int .i64 p, .int .i64 q] 94)).alloc (.cells #[.int .i64 0, .int .i64 0, .int .i64 0, .int .i64 0, .int .i64 0, .int .i64 0, .int .i64 0, .string ⟨#[]⟩, .int .i64 0, .int .i64 0, .string ⟨#[]⟩, .slice none 0 0, .int .i64 0, .int .i64 0, .int .i64 0, .string ⟨#[]⟩, .int .i64 0, .int .i64 0, .int .i64 0] 94)) (w.heap.size + 1) 94 [.int .i64 0, .int .i64 0, .int .i64 0, .int .i64 0, .int .i64 0, .int .i64 0, .int .i64 0, .string ⟨#[]⟩, .int .i64 0, .int .i64 0, .string ⟨#[]⟩, .slice none 0 0, .int .i64 0, .int .i64 0, .int .i64 0, .string ⟨#[]⟩, .int .i64 0, .int .i64 0, .int .i64 0] from Wide.new_at (by simp)).alloc (.cells #[.int .i64 0, .int .i64 0, .int .i64 0, .int .i64 0, .int .i64 0, .int .i64 0, .int .i64 0, .string ⟨#[]⟩, .int .i64 0, .int .i64 0, .string ⟨#[]⟩, .slice none 0 0, .int .i64 0, .int .i64 0, .int .i64 0, .string ⟨#[]⟩, .int .i64 0, .int .i64 0, .int .i64 0] 94))
  have Z := Lib.hid (show Row (((w.alloc (.cells #[.int .i64 8, .int .i64 n, .int .i64 a, .int .i64 wk, .int .i64 wt, .int .i64 kk, .int .i64 kn, .string ks, .int .i64 hk, .int .i64 hn, .string hs, .slice ra row.length rc, .int .i64 c, .int .i64 vk, .int .i64 vn, .string vs, .int .i64 wn, .int .i64 p, .int .i64 q] 94)).alloc (.cells #[.int .i64 0, .int .i64 0, .int .i64 0, .int .i64 0, .int .i64 0, .int .i64 0, .int .i64 0, .string ⟨#[]⟩, .int .i64 0, .int .i64 0, .string ⟨#[]⟩, .slice none 0 0, .int .i64 0, .int .i64 0, .int .i64 0, .string ⟨#[]⟩, .int .i64 0, .int .i64 0, .int .i64 0] 94)).alloc (.cells #[.int .i64 0, .int .i64 0, .int .i64 0, .int .i64 0, .int .i64 0, .int .i64 0, .int .i64 0, .string ⟨#[]⟩, .int .i64 0, .int .i64 0, .string ⟨#[]⟩, .slice none 0 0, .int .i64 0, .int .i64 0, .int .i64 0, .string ⟨#[]⟩, .int .i64 0, .int .i64 0, .int .i64 0] 94)) (w.heap.size + 1 + 1) 94 [.int .i64 0, .int .i64 0, .int .i64 0, .int .i64 0, .int .i64 0, .int .i64 0, .int .i64 0, .string ⟨#[]⟩, .int .i64 0, .int .i64 0, .string ⟨#[]⟩, .slice none 0 0, .int .i64 0, .int .i64 0, .int .i64 0, .string ⟨#[]⟩, .int .i64 0, .int .i64 0, .int .i64 0] from Wide.new_at (by simp))
  have C := Lib.hid ((((Chg.refl (BldX.Own F b) w).alloc (.cells #[.int .i64 8, .int .i64 n, .int .i64 a, .int .i64 wk, .int .i64 wt, .int .i64 kk, .int .i64 kn, .string ks, .int .i64 hk, .int .i64 hn, .string hs, .slice ra row.length rc, .int .i64 c, .int .i64 vk, .int .i64 vn, .string vs, .int .i64 wn, .int .i64 p, .int .i64 q] 94)).alloc (.cells #[.int .i64 0, .int .i64 0, .int .i64 0, .int .i64 0, .int .i64 0, .int .i64 0, .int .i64 0, .string ⟨#[]⟩, .int .i64 0, .int .i64 0, .string ⟨#[]⟩, .slice none 0 0, .int .i64 0, .int .i64 0, .int .i64 0, .string ⟨#[]⟩, .int .i64 0, .int .i64 0, .int .i64 0] 94)).alloc (.cells #[.int .i64 0, .int .i64 0, .int .i64 0, .int .i64 0, .int .i64 0, .int .i64 0, .int .i64 0, .string ⟨#[]⟩, .int .i64 0, .int .i64 0, .string ⟨#[]⟩, .slice none 0 0, .int .i64 0, .int .i64 0, .int .i64 0, .string ⟨#[]⟩, .int .i64 0, .int .i64 0, .int .i64 0] 94))
  have VV := Lib.hid hV
  have VN := Lib.hid hN
  have FF := Lib.hid hf
  have Hn0 := Lib.hid n0
  have Hn1 := Lib.hid n1
  have Hn2 := Lib.hid n2
  have Hhm := Lib.hid hm
  have Hf1 := Lib.hid f1
  have Hf2 := Lib.hid f2
  have hb : ¬ F b := h.1
  have HB := Lib.hid hb
  have x0 := X.out.cell (i := 0) rfl
  clear p3 n0 n1 n2 hm f1 f2 h hV hN hf hb
  go_enter Try.func105, Try.ntmps105
  go_wp2_with (refine store_row Z.out [.int .i64 8, .int .i64 0, .int .i64 0, .int .i64 0, .int .i64 0, .int .i64 0, .int .i64 0, .string ⟨#[]⟩, .int .i64 0, .int .i64 0, .string ⟨#[]⟩, .slice none 0 0, .int .i64 0, .int .i64 0, .int .i64 0, .string ⟨#[]⟩, .int .i64 0, .int .i64 0, .int .i64 0] 94 (by kernel_rfl) rfl (by simp [Value.oneCell']) rfl rfl rfl rfl ?_; intro wz hz kz zz; clear x0; replace X := Lib.hid (X.out.chg kz q6); replace Y := Lib.hid (Y.out.chg kz (Ne.symm q7)); replace Z := Lib.hid hz; replace P := Lib.hid (BldX.Is.chg P.out kz (fun e => q5 (show b = _ from e)) (fun k hk e => Hn2.out (.inr ((show k = _ from e) ▸ hk)))); replace C := Lib.hid (C.out.trans (kz.mono (fun k _ e => (.inr ((show k = _ from e) ▸ Hf2.out) : BldX.Own F b k)))); clear hz kz zz; have x0 := X.out.cell (i := 0) rfl)
  clear x0
  generalize w.heap.size + 1 + 1 = s2 at *
  generalize w.heap.size + 1 = s1 at *
  generalize w.heap.size = s0 at *
  refine (one_calls _ b (l) (bad) (8) _ P.out (by (try simp only [List.length_append, List.length_cons, List.length_nil, le_length]); omega)).mono ?_
  rintro e w1 ⟨rfl, hp, kc⟩
  replace X := Lib.hid (X.out.chg kc Hn0.out)
  replace Y := Lib.hid (Y.out.chg kc Hn1.out)
  replace Z := Lib.hid (Z.out.chg kc Hn2.out)
  replace C := Lib.hid (C.out.trans (kc.mono (fun k _ e => Hhm.out k e)))
  replace P := Lib.hid hp
  clear kc hp
  have z1 := Z.out.cell (i := 1) rfl
  have g1 := Z.out.frozen 1 (by simp)
  have x0 := X.out.cell (i := 0) rfl
  have x1 := X.out.cell (i := 1) rfl
  go_wp2_with fail
  replace X := Lib.hid (X.out.set_ne ⟨s2, 1, none⟩ (.int .i64 n) q2)
  replace Y := Lib.hid (Y.out.set_ne ⟨s2, 1, none⟩ (.int .i64 n) q7)
  replace Z := Lib.hid ((Z.out.set 1 (.int .i64 n)).cast (cs' := [.int .i64 8, .int .i64 n, .int .i64 0, .int .i64 0, .int .i64 0, .int .i64 0, .int .i64 0, .string ⟨#[]⟩, .int .i64 0, .int .i64 0, .string ⟨#[]⟩, .slice none 0 0, .int .i64 0, .int .i64 0, .int .i64 0, .string ⟨#[]⟩, .int .i64 0, .int .i64 0, .int .i64 0]) rfl)
  replace P := Lib.hid (beyond P.out q0 Hn2.out 1 (.int .i64 n))
  replace C := Lib.hid (Chg.setCell C.out (a := ⟨s2, 1, none⟩) (fun _ => (.inr Hf2.out : BldX.Own F b s2)) (.int .i64 n))
  clear x0 z1 g1
  clear x1
  refine (one_calls _ b (l ++ [oneB (8)]) (bad || oneBad (8)) (n) _ P.out (by (try simp only [List.length_append, List.length_cons, List.length_nil, le_length]); omega)).mono ?_
  rintro e w2 ⟨rfl, hp, kc⟩
  replace X := Lib.hid (X.out.chg kc Hn0.out)
  replace Y := Lib.hid (Y.out.chg kc Hn1.out)
  replace Z := Lib.hid (Z.out.chg kc Hn2.out)
  replace C := Lib.hid (C.out.trans (kc.mono (fun k _ e => Hhm.out k e)))
  replace P := Lib.hid hp
  clear kc hp
  go_wp2_with (first | (refine load_row Z.out 94 Try.underlying94 rfl (by kernel_rfl) rfl rfl rfl ?_) | (refine store_row Y.out [.int .i64 8, .int .i64 n, .int .i64 0, .int .i64 0, .int .i64 0, .int .i64 0, .int .i64 0, .string ⟨#[]⟩, .int .i64 0, .int .i64 0, .string ⟨#[]⟩, .slice none 0 0, .int .i64 0, .int .i64 0, .int .i64 0, .string ⟨#[]⟩, .int .i64 0, .int .i64 0, .int .i64 0] 94 (by kernel_rfl) rfl (by simp [Value.oneCell']) rfl rfl rfl rfl ?_; intro w90 hR hc hsz))
  have P9 := Lib.hid (BldX.Is.wider (BldX.Is.chg P.out hc (fun e => q1 (show s1 = b from e.symm)) (fun k hk e => Hn1.out (.inr ((show k = s1 from e) ▸ hk)))) (fun k hk => hk.1) HB.out)
  have C9 := Lib.hid (C.out.trans (hc.mono (fun k _ e => (.inr ((show k = s1 from e) ▸ Hf1.out) : BldX.Own F b k))))
  have R9 := Lib.hid hR
  clear hR hc hsz
  refine ret_row R9.out Try.results105 Try.underlying94 rfl (by kernel_rfl) rfl rfl ⟨?_, ?_, C9.out⟩
  · rfl
  · have e1 : l ++ [oneB (8)] ++ [oneB (n)] = l ++ Mv.bytes ⟨8, n, a, ⟨wk, wt, ⟨kk, kn, ks⟩, ⟨hk, hn, hs⟩, ra, rc, row, c, ⟨vk, vn, vs⟩, wn⟩, p, q⟩ := by simp [Mv.bytes, List.append_assoc]
    have e2 : (bad || oneBad (8) || oneBad (n)) = (bad || Mv.bad ⟨8, n, a, ⟨wk, wt, ⟨kk, kn, ks⟩, ⟨hk, hn, hs⟩, ra, rc, row, c, ⟨vk, vn, vs⟩, wn⟩, p, q⟩) := by simp [Mv.bad, List.append_assoc, Bool.or_assoc]
    rw [← e1, ← e2]
    exact P9.out
set_option maxHeartbeats 8000000 in
theorem move_9 (F : Nat → Prop) (b : Nat) (l : List UInt8) (bad : Bool) (n : Int) (a : Int) (wk wt kk kn : Int) (ks : ByteArray) (hk hn : Int) (hs : ByteArray) (ra : Option Addr) (rc : Nat) (row : List V) (c vk vn : Int) (vs : ByteArray) (wn p q : Int) (w : World) (h : Pen w F b l bad) (hV : Vs w ra row) (hN : ∀ ad, ra = some ad → row ≠ [] → ¬ BldX.Own F b ad.block) (hf : Wsh.fits ⟨wk, wt, ⟨kk, kn, ks⟩, ⟨hk, hn, hs⟩, ra, rc, row, c, ⟨vk, vn, vs⟩, wn⟩) (hl : l.length ≤ 70000000) (hr : row.length ≤ 1000) :
    MovePost F b l bad ⟨9, n, a, ⟨wk, wt, ⟨kk, kn, ks⟩, ⟨hk, hn, hs⟩, ra, rc, row, c, ⟨vk, vn, vs⟩, wn⟩, p, q⟩ w := by
  unfold MovePost
  show Calls Try.prog 105 #[.pointer (some ⟨b, 0, none⟩), .agg #[.int .i64 9, .int .i64 n, .int .i64 a, .int .i64 wk, .int .i64 wt, .int .i64 kk, .int .i64 kn, .string ks, .int .i64 hk, .int .i64 hn, .string hs, .slice ra row.length rc, .int .i64 c, .int .i64 vk, .int .i64 vn, .string vs, .int .i64 wn, .int .i64 p, .int .i64 q]] w _
  obtain ⟨p3, n0, n1, n2, hm, f1, f2, ⟨q0, q5⟩, q1, q4, q3, q2, q7, q6⟩ := three h (.cells #[.int .i64 9, .int .i64 n, .int .i64 a, .int .i64 wk, .int .i64 wt, .int .i64 kk, .int .i64 kn, .string ks, .int .i64 hk, .int .i64 hn, .string hs, .slice ra row.length rc, .int .i64 c, .int .i64 vk, .int .i64 vn, .string vs, .int .i64 wn, .int .i64 p, .int .i64 q] 94) (.cells #[.int .i64 0, .int .i64 0, .int .i64 0, .int .i64 0, .int .i64 0, .int .i64 0, .int .i64 0, .string ⟨#[]⟩, .int .i64 0, .int .i64 0, .string ⟨#[]⟩, .slice none 0 0, .int .i64 0, .int .i64 0, .int .i64 0, .string ⟨#[]⟩, .int .i64 0, .int .i64 0, .int .i64 0] 94) (.cells #[.int .i64 0, .int .i64 0, .int .i64 0, .int .i64 0, .int .i64 0, .int .i64 0, .int .i64 0, .string ⟨#[]⟩, .int .i64 0, .int .i64 0, .string ⟨#[]⟩, .slice none 0 0, .int .i64 0, .int .i64 0, .int .i64 0, .string ⟨#[]⟩, .int .i64 0, .int .i64 0, .int .i64 0] 94)
  have P := Lib.hid p3
  have X := Lib.hid (((Row.new w 94 [.int .i64 9, .int .i64 n, .int .i64 a, .int .i64 wk, .int .i64 wt, .int .i64 kk, .int .i64 kn, .string ks, .int .i64 hk, .int .i64 hn, .string hs, .slice ra row.length rc, .int .i64 c, .int .i64 vk, .int .i64 vn, .string vs, .int .i64 wn, .int .i64 p, .int .i64 q]).alloc (.cells #[.int .i64 0, .int .i64 0, .int .i64 0, .int .i64 0, .int .i64 0, .int .i64 0, .int .i64 0, .string ⟨#[]⟩, .int .i64 0, .int .i64 0, .string ⟨#[]⟩, .slice none 0 0, .int .i64 0, .int .i64 0, .int .i64 0, .string ⟨#[]⟩, .int .i64 0, .int .i64 0, .int .i64 0] 94)).alloc (.cells #[.int .i64 0, .int .i64 0, .int .i64 0, .int .i64 0, .int .i64 0, .int .i64 0, .int .i64 0, .string ⟨#[]⟩, .int .i64 0, .int .i64 0, .string ⟨#[]⟩, .slice none 0 0, .int .i64 0, .int .i64 0, .int .i64 0, .string ⟨#[]⟩, .int .i64 0, .int .i64 0, .int .i64 0] 94))
  have Y := Lib.hid ((show Row ((w.alloc (.cells #[.int .i64 9, .int .i64 n, .int .i64 a, .int .i64 wk, .int .i64 wt, .int .i64 kk, .int .i64 kn, .string ks, .int .i64 hk, .int .i64 hn, .string hs, .slice ra row.length rc, .int .i64 c, .int .i64 vk, .int .i64 vn, .string vs, .int .i64 wn, .int .i64 p, .int .i64 q] 94)).alloc (.cells #[.int .i64 0, .int .i64 0, .int .i64 0, .int .i64 0, .int .i64 0, .int .i64 0, .int .i64 0, .string ⟨#[]⟩, .int .i64 0, .int .i64 0, .string ⟨#[]⟩, .slice none 0 0, .int .i64 0, .int .i64 0, .int .i64 0, .string ⟨#[]⟩, .int .i64 0, .int .i64 0, .int .i64 0] 94)) (w.heap.size + 1) 94 [.int .i64 0, .int .i64 0, .int .i64 0, .int .i64 0, .int .i64 0, .int .i64 0, .int .i64 0, .string ⟨#[]⟩, .int .i64 0, .int .i64 0, .string ⟨#[]⟩, .slice none 0 0, .int .i64 0, .int .i64 0, .int .i64 0, .string ⟨#[]⟩, .int .i64 0, .int .i64 0, .int .i64 0] from Wide.new_at (by simp)).alloc (.cells #[.int .i64 0, .int .i64 0, .int .i64 0, .int .i64 0, .int .i64 0, .int .i64 0, .int .i64 0, .string ⟨#[]⟩, .int .i64 0, .int .i64 0, .string ⟨#[]⟩, .slice none 0 0, .int .i64 0, .int .i64 0, .int .i64 0, .string ⟨#[]⟩, .int .i64 0, .int .i64 0, .int .i64 0] 94))
  have Z := Lib.hid (show Row (((w.alloc (.cells #[.int .i64 9, .int .i64 n, .int .i64 a, .int .i64 wk, .int .i64 wt, .int .i64 kk, .int .i64 kn, .string ks, .int .i64 hk, .int .i64 hn, .string hs, .slice ra row.length rc, .int .i64 c, .int .i64 vk, .int .i64 vn, .string vs, .int .i64 wn, .int .i64 p, .int .i64 q] 94)).alloc (.cells #[.int .i64 0, .int .i64 0, .int .i64 0, .int .i64 0, .int .i64 0, .int .i64 0, .int .i64 0, .string ⟨#[]⟩, .int .i64 0, .int .i64 0, .string ⟨#[]⟩, .slice none 0 0, .int .i64 0, .int .i64 0, .int .i64 0, .string ⟨#[]⟩, .int .i64 0, .int .i64 0, .int .i64 0] 94)).alloc (.cells #[.int .i64 0, .int .i64 0, .int .i64 0, .int .i64 0, .int .i64 0, .int .i64 0, .int .i64 0, .string ⟨#[]⟩, .int .i64 0, .int .i64 0, .string ⟨#[]⟩, .slice none 0 0, .int .i64 0, .int .i64 0, .int .i64 0, .string ⟨#[]⟩, .int .i64 0, .int .i64 0, .int .i64 0] 94)) (w.heap.size + 1 + 1) 94 [.int .i64 0, .int .i64 0, .int .i64 0, .int .i64 0, .int .i64 0, .int .i64 0, .int .i64 0, .string ⟨#[]⟩, .int .i64 0, .int .i64 0, .string ⟨#[]⟩, .slice none 0 0, .int .i64 0, .int .i64 0, .int .i64 0, .string ⟨#[]⟩, .int .i64 0, .int .i64 0, .int .i64 0] from Wide.new_at (by simp))
  have C := Lib.hid ((((Chg.refl (BldX.Own F b) w).alloc (.cells #[.int .i64 9, .int .i64 n, .int .i64 a, .int .i64 wk, .int .i64 wt, .int .i64 kk, .int .i64 kn, .string ks, .int .i64 hk, .int .i64 hn, .string hs, .slice ra row.length rc, .int .i64 c, .int .i64 vk, .int .i64 vn, .string vs, .int .i64 wn, .int .i64 p, .int .i64 q] 94)).alloc (.cells #[.int .i64 0, .int .i64 0, .int .i64 0, .int .i64 0, .int .i64 0, .int .i64 0, .int .i64 0, .string ⟨#[]⟩, .int .i64 0, .int .i64 0, .string ⟨#[]⟩, .slice none 0 0, .int .i64 0, .int .i64 0, .int .i64 0, .string ⟨#[]⟩, .int .i64 0, .int .i64 0, .int .i64 0] 94)).alloc (.cells #[.int .i64 0, .int .i64 0, .int .i64 0, .int .i64 0, .int .i64 0, .int .i64 0, .int .i64 0, .string ⟨#[]⟩, .int .i64 0, .int .i64 0, .string ⟨#[]⟩, .slice none 0 0, .int .i64 0, .int .i64 0, .int .i64 0, .string ⟨#[]⟩, .int .i64 0, .int .i64 0, .int .i64 0] 94))
  have VV := Lib.hid hV
  have VN := Lib.hid hN
  have FF := Lib.hid hf
  have Hn0 := Lib.hid n0
  have Hn1 := Lib.hid n1
  have Hn2 := Lib.hid n2
  have Hhm := Lib.hid hm
  have Hf1 := Lib.hid f1
  have Hf2 := Lib.hid f2
  have hb : ¬ F b := h.1
  have HB := Lib.hid hb
  have x0 := X.out.cell (i := 0) rfl
  clear p3 n0 n1 n2 hm f1 f2 h hV hN hf hb
  go_enter Try.func105, Try.ntmps105
  go_wp2_with (refine store_row Z.out [.int .i64 9, .int .i64 0, .int .i64 0, .int .i64 0, .int .i64 0, .int .i64 0, .int .i64 0, .string ⟨#[]⟩, .int .i64 0, .int .i64 0, .string ⟨#[]⟩, .slice none 0 0, .int .i64 0, .int .i64 0, .int .i64 0, .string ⟨#[]⟩, .int .i64 0, .int .i64 0, .int .i64 0] 94 (by kernel_rfl) rfl (by simp [Value.oneCell']) rfl rfl rfl rfl ?_; intro wz hz kz zz; clear x0; replace X := Lib.hid (X.out.chg kz q6); replace Y := Lib.hid (Y.out.chg kz (Ne.symm q7)); replace Z := Lib.hid hz; replace P := Lib.hid (BldX.Is.chg P.out kz (fun e => q5 (show b = _ from e)) (fun k hk e => Hn2.out (.inr ((show k = _ from e) ▸ hk)))); replace C := Lib.hid (C.out.trans (kz.mono (fun k _ e => (.inr ((show k = _ from e) ▸ Hf2.out) : BldX.Own F b k)))); clear hz kz zz; have x0 := X.out.cell (i := 0) rfl)
  clear x0
  generalize w.heap.size + 1 + 1 = s2 at *
  generalize w.heap.size + 1 = s1 at *
  generalize w.heap.size = s0 at *
  refine (one_calls _ b (l) (bad) (9) _ P.out (by (try simp only [List.length_append, List.length_cons, List.length_nil, le_length]); omega)).mono ?_
  rintro e w1 ⟨rfl, hp, kc⟩
  replace X := Lib.hid (X.out.chg kc Hn0.out)
  replace Y := Lib.hid (Y.out.chg kc Hn1.out)
  replace Z := Lib.hid (Z.out.chg kc Hn2.out)
  replace C := Lib.hid (C.out.trans (kc.mono (fun k _ e => Hhm.out k e)))
  replace P := Lib.hid hp
  clear kc hp
  have x0 := X.out.cell (i := 0) rfl
  go_wp2_with fail
  clear x0
  replace X := Lib.hid X.out.drew
  replace Y := Lib.hid Y.out.drew
  replace Z := Lib.hid Z.out.drew
  replace P := Lib.hid (BldX.Is.drew P.out)
  replace C := Lib.hid C.out.drew
  have z1 := Z.out.cell (i := 1) rfl
  have g1 := Z.out.frozen 1 (by simp)
  have z17 := Z.out.cell (i := 17) rfl
  have g17 := Z.out.frozen 17 (by simp)
  have z18 := Z.out.cell (i := 18) rfl
  have g18 := Z.out.frozen 18 (by simp)
  refine Reg.start (fun w' => w'.cell? ⟨s0, 1, none⟩ = some (.int .i64 n) ∧ w'.cell? ⟨s0, 17, none⟩ = some (.int .i64 p) ∧ w'.cell? ⟨s0, 18, none⟩ = some (.int .i64 q)) (fun i => false) (by kernel_rfl) ⟨X.out.cell rfl, X.out.cell rfl, X.out.cell rfl⟩ (fun hHeld => ?_)
  generalize w1.drew = wd at *
  refine Reg.takeI 0 (v := ?_) rfl (by kernel_rfl) (by kernel_rfl) (by kernel_rfl) (by kernel_rfl) (fun _ _ _ h => h) (by rfl) ?_ hHeld ?_
  rotate_left 1
  · (intro w hSw; (try dsimp only at hSw); go_simp; try with_reducible rfl)
  try simp only [Act.put, List.setIfInBounds_toArray, List.set_cons_zero, List.set_cons_succ]
  refine Reg.takeI 1 (v := ?_) rfl (by kernel_rfl) (by kernel_rfl) (by kernel_rfl) (by kernel_rfl) (fun _ _ _ h => h) (by rfl) ?_ hHeld ?_
  rotate_left 1
  · (intro w hSw; (try dsimp only at hSw); go_simp; try with_reducible rfl)
  try simp only [Act.put, List.setIfInBounds_toArray, List.set_cons_zero, List.set_cons_succ]
  refine Reg.takeI 2 (v := ?_) rfl (by kernel_rfl) (by kernel_rfl) (by kernel_rfl) (by kernel_rfl) (fun _ _ _ h => h) (by rfl) ?_ hHeld ?_
  rotate_left 1
  · (intro w hSw; (try dsimp only at hSw); go_simp; try with_reducible rfl)
  try simp only [Act.put, List.setIfInBounds_toArray, List.set_cons_zero, List.set_cons_succ]
  refine Reg.takeI 3 (v := ?_) rfl (by kernel_rfl) (by kernel_rfl) (by kernel_rfl) (by kernel_rfl) (fun _ _ _ h => h) (by rfl) ?_ hHeld ?_
  rotate_left 1
  · (intro w hSw; (try dsimp only at hSw); go_simp; try with_reducible rfl)
  try simp only [Act.put, List.setIfInBounds_toArray, List.set_cons_zero, List.set_cons_succ]
  refine Reg.takeI 4 (v := ?_) rfl (by kernel_rfl) (by kernel_rfl) (by kernel_rfl) (by kernel_rfl) (fun _ _ _ h => h) (by rfl) ?_ hHeld ?_
  rotate_left 1
  · (intro w hSw; (try dsimp only at hSw); go_simp; try with_reducible rfl)
  try simp only [Act.put, List.setIfInBounds_toArray, List.set_cons_zero, List.set_cons_succ]
  refine Reg.takeI 5 (v := ?_) rfl (by kernel_rfl) (by kernel_rfl) (by kernel_rfl) (by kernel_rfl) (fun _ _ _ h => h) (by rfl) ?_ hHeld ?_
  rotate_left 1
  · (intro w hSw; (try dsimp only at hSw); go_simp; try with_reducible rfl)
  try simp only [Act.put, List.setIfInBounds_toArray, List.set_cons_zero, List.set_cons_succ]
  refine Reg.takeI 6 (v := ?_) rfl (by kernel_rfl) (by kernel_rfl) (by kernel_rfl) (by kernel_rfl) (fun _ _ _ h => h) (by rfl) ?_ hHeld ?_
  rotate_left 1
  · (intro w hSw; (try dsimp only at hSw); go_simp; try with_reducible rfl)
  try simp only [Act.put, List.setIfInBounds_toArray, List.set_cons_zero, List.set_cons_succ]
  refine Reg.oneI 7 rfl (by kernel_rfl) (by rfl) (fun K hK => ?_)
  go_simp
  replace X := Lib.hid (X.out.set_ne ⟨s2, 1, none⟩ (.int .i64 n) q2)
  refine hK.out _ _ (fun _ => ⟨X.out.cell rfl, X.out.cell rfl, X.out.cell rfl⟩) (fun hHeld => ?_)
  replace hHeld := hHeld (by first | rfl | trivial)
  clear hK K
  try simp only [Act.put, List.setIfInBounds_toArray, List.set_cons_zero, List.set_cons_succ]
  refine Reg.takeI 8 (v := ?_) rfl (by kernel_rfl) (by kernel_rfl) (by kernel_rfl) (by kernel_rfl) (fun _ _ _ h => h) (by rfl) ?_ hHeld ?_
  rotate_left 1
  · (intro w hSw; (try dsimp only at hSw); go_simp; try with_reducible rfl)
  try simp only [Act.put, List.setIfInBounds_toArray, List.set_cons_zero, List.set_cons_succ]
  refine Reg.oneI 9 rfl (by kernel_rfl) (by rfl) (fun K hK => ?_)
  go_simp
  replace X := Lib.hid (X.out.set_ne ⟨s2, 17, none⟩ (.int .i64 p) q2)
  refine hK.out _ _ (fun _ => ⟨X.out.cell rfl, X.out.cell rfl, X.out.cell rfl⟩) (fun hHeld => ?_)
  replace hHeld := hHeld (by first | rfl | trivial)
  clear hK K
  try simp only [Act.put, List.setIfInBounds_toArray, List.set_cons_zero, List.set_cons_succ]
  refine Reg.takeI 10 (v := ?_) rfl (by kernel_rfl) (by kernel_rfl) (by kernel_rfl) (by kernel_rfl) (fun _ _ _ h => h) (by rfl) ?_ hHeld ?_
  rotate_left 1
  · (intro w hSw; (try dsimp only at hSw); go_simp; try with_reducible rfl)
  try simp only [Act.put, List.setIfInBounds_toArray, List.set_cons_zero, List.set_cons_succ]
  refine Reg.oneI 11 rfl (by kernel_rfl) (by rfl) (fun K hK => ?_)
  go_simp
  replace X := Lib.hid (X.out.set_ne ⟨s2, 18, none⟩ (.int .i64 q) q2)
  refine hK.out _ _ (fun _ => ⟨X.out.cell rfl, X.out.cell rfl, X.out.cell rfl⟩) (fun hHeld => ?_)
  replace hHeld := hHeld (by first | rfl | trivial)
  clear hK K
  try simp only [Act.put, List.setIfInBounds_toArray, List.set_cons_zero, List.set_cons_succ]
  refine Reg.doneI (by kernel_rfl) ?_
  clear hHeld
  clear z1 g1 z17 g17 z18 g18
  replace Y := Lib.hid (((Y.out.set_ne ⟨s2, 1, none⟩ (.int .i64 n) q7).set_ne ⟨s2, 17, none⟩ (.int .i64 p) q7).set_ne ⟨s2, 18, none⟩ (.int .i64 q) q7)
  replace Z := Lib.hid ((((Z.out.set 1 (.int .i64 n)).set 17 (.int .i64 p)).set 18 (.int .i64 q)).cast (cs' := [.int .i64 9, .int .i64 n, .int .i64 0, .int .i64 0, .int .i64 0, .int .i64 0, .int .i64 0, .string ⟨#[]⟩, .int .i64 0, .int .i64 0, .string ⟨#[]⟩, .slice none 0 0, .int .i64 0, .int .i64 0, .int .i64 0, .string ⟨#[]⟩, .int .i64 0, .int .i64 p, .int .i64 q]) rfl)
  replace P := Lib.hid (beyond (beyond (beyond P.out q0 Hn2.out 1 (.int .i64 n)) q0 Hn2.out 17 (.int .i64 p)) q0 Hn2.out 18 (.int .i64 q))
  replace C := Lib.hid (Chg.setCell (Chg.setCell (Chg.setCell C.out (a := ⟨s2, 1, none⟩) (fun _ => (.inr Hf2.out : BldX.Own F b s2)) (.int .i64 n)) (a := ⟨s2, 17, none⟩) (fun _ => (.inr Hf2.out : BldX.Own F b s2)) (.int .i64 p)) (a := ⟨s2, 18, none⟩) (fun _ => (.inr Hf2.out : BldX.Own F b s2)) (.int .i64 q))
  have x1 := X.out.cell (i := 1) rfl
  go_wp2_with fail
  refine (one_calls _ b (l ++ [oneB (9)]) (bad || oneBad (9)) (n) _ P.out (by (try simp only [List.length_append, List.length_cons, List.length_nil, le_length]); omega)).mono ?_
  rintro e w2 ⟨rfl, hp, kc⟩
  replace X := Lib.hid (X.out.chg kc Hn0.out)
  replace Y := Lib.hid (Y.out.chg kc Hn1.out)
  replace Z := Lib.hid (Z.out.chg kc Hn2.out)
  replace C := Lib.hid (C.out.trans (kc.mono (fun k _ e => Hhm.out k e)))
  replace P := Lib.hid hp
  clear kc hp x1
  have x17 := X.out.cell (i := 17) rfl
  go_wp2_with fail
  refine (long_calls _ b (l ++ [oneB (9)] ++ [oneB (n)]) (bad || oneBad (9) || oneBad (n)) (p) _ P.out (by (try simp only [List.length_append, List.length_cons, List.length_nil, le_length]); omega)).mono ?_
  rintro e w3 ⟨rfl, hp, kc⟩
  replace X := Lib.hid (X.out.chg kc Hn0.out)
  replace Y := Lib.hid (Y.out.chg kc Hn1.out)
  replace Z := Lib.hid (Z.out.chg kc Hn2.out)
  replace C := Lib.hid (C.out.trans (kc.mono (fun k _ e => Hhm.out k e)))
  replace P := Lib.hid hp
  clear kc hp x17
  have x18 := X.out.cell (i := 18) rfl
  go_wp2_with fail
  refine (long_calls _ b (l ++ [oneB (9)] ++ [oneB (n)] ++ le (u64 (p)) 8) (bad || oneBad (9) || oneBad (n)) (q) _ P.out (by (try simp only [List.length_append, List.length_cons, List.length_nil, le_length]); omega)).mono ?_
  rintro e w4 ⟨rfl, hp, kc⟩
  replace X := Lib.hid (X.out.chg kc Hn0.out)
  replace Y := Lib.hid (Y.out.chg kc Hn1.out)
  replace Z := Lib.hid (Z.out.chg kc Hn2.out)
  replace C := Lib.hid (C.out.trans (kc.mono (fun k _ e => Hhm.out k e)))
  replace P := Lib.hid hp
  clear kc hp x18
  go_wp2_with (first | (refine load_row Z.out 94 Try.underlying94 rfl (by kernel_rfl) rfl rfl rfl ?_) | (refine store_row Y.out [.int .i64 9, .int .i64 n, .int .i64 0, .int .i64 0, .int .i64 0, .int .i64 0, .int .i64 0, .string ⟨#[]⟩, .int .i64 0, .int .i64 0, .string ⟨#[]⟩, .slice none 0 0, .int .i64 0, .int .i64 0, .int .i64 0, .string ⟨#[]⟩, .int .i64 0, .int .i64 p, .int .i64 q] 94 (by kernel_rfl) rfl (by simp [Value.oneCell']) rfl rfl rfl rfl ?_; intro w90 hR hc hsz))
  have P9 := Lib.hid (BldX.Is.wider (BldX.Is.chg P.out hc (fun e => q1 (show s1 = b from e.symm)) (fun k hk e => Hn1.out (.inr ((show k = s1 from e) ▸ hk)))) (fun k hk => hk.1) HB.out)
  have C9 := Lib.hid (C.out.trans (hc.mono (fun k _ e => (.inr ((show k = s1 from e) ▸ Hf1.out) : BldX.Own F b k))))
  have R9 := Lib.hid hR
  clear hR hc hsz
  refine ret_row R9.out Try.results105 Try.underlying94 rfl (by kernel_rfl) rfl rfl ⟨?_, ?_, C9.out⟩
  · rfl
  · have e1 : l ++ [oneB (9)] ++ [oneB (n)] ++ le (u64 (p)) 8 ++ le (u64 (q)) 8 = l ++ Mv.bytes ⟨9, n, a, ⟨wk, wt, ⟨kk, kn, ks⟩, ⟨hk, hn, hs⟩, ra, rc, row, c, ⟨vk, vn, vs⟩, wn⟩, p, q⟩ := by simp [Mv.bytes, List.append_assoc]
    have e2 : (bad || oneBad (9) || oneBad (n)) = (bad || Mv.bad ⟨9, n, a, ⟨wk, wt, ⟨kk, kn, ks⟩, ⟨hk, hn, hs⟩, ra, rc, row, c, ⟨vk, vn, vs⟩, wn⟩, p, q⟩) := by simp [Mv.bad, List.append_assoc, Bool.or_assoc]
    rw [← e1, ← e2]
    exact P9.out
set_option maxHeartbeats 8000000 in
theorem move_5 (F : Nat → Prop) (b : Nat) (l : List UInt8) (bad : Bool) (n : Int) (a : Int) (wk wt kk kn : Int) (ks : ByteArray) (hk hn : Int) (hs : ByteArray) (ra : Option Addr) (rc : Nat) (row : List V) (c vk vn : Int) (vs : ByteArray) (wn p q : Int) (w : World) (h : Pen w F b l bad) (hV : Vs w ra row) (hN : ∀ ad, ra = some ad → row ≠ [] → ¬ BldX.Own F b ad.block) (hf : Wsh.fits ⟨wk, wt, ⟨kk, kn, ks⟩, ⟨hk, hn, hs⟩, ra, rc, row, c, ⟨vk, vn, vs⟩, wn⟩) (hl : l.length ≤ 70000000) (hr : row.length ≤ 1000) :
    MovePost F b l bad ⟨5, n, a, ⟨wk, wt, ⟨kk, kn, ks⟩, ⟨hk, hn, hs⟩, ra, rc, row, c, ⟨vk, vn, vs⟩, wn⟩, p, q⟩ w := by
  unfold MovePost
  show Calls Try.prog 105 #[.pointer (some ⟨b, 0, none⟩), .agg #[.int .i64 5, .int .i64 n, .int .i64 a, .int .i64 wk, .int .i64 wt, .int .i64 kk, .int .i64 kn, .string ks, .int .i64 hk, .int .i64 hn, .string hs, .slice ra row.length rc, .int .i64 c, .int .i64 vk, .int .i64 vn, .string vs, .int .i64 wn, .int .i64 p, .int .i64 q]] w _
  obtain ⟨p3, n0, n1, n2, hm, f1, f2, ⟨q0, q5⟩, q1, q4, q3, q2, q7, q6⟩ := three h (.cells #[.int .i64 5, .int .i64 n, .int .i64 a, .int .i64 wk, .int .i64 wt, .int .i64 kk, .int .i64 kn, .string ks, .int .i64 hk, .int .i64 hn, .string hs, .slice ra row.length rc, .int .i64 c, .int .i64 vk, .int .i64 vn, .string vs, .int .i64 wn, .int .i64 p, .int .i64 q] 94) (.cells #[.int .i64 0, .int .i64 0, .int .i64 0, .int .i64 0, .int .i64 0, .int .i64 0, .int .i64 0, .string ⟨#[]⟩, .int .i64 0, .int .i64 0, .string ⟨#[]⟩, .slice none 0 0, .int .i64 0, .int .i64 0, .int .i64 0, .string ⟨#[]⟩, .int .i64 0, .int .i64 0, .int .i64 0] 94) (.cells #[.int .i64 0, .int .i64 0, .int .i64 0, .int .i64 0, .int .i64 0, .int .i64 0, .int .i64 0, .string ⟨#[]⟩, .int .i64 0, .int .i64 0, .string ⟨#[]⟩, .slice none 0 0, .int .i64 0, .int .i64 0, .int .i64 0, .string ⟨#[]⟩, .int .i64 0, .int .i64 0, .int .i64 0] 94)
  have P := Lib.hid p3
  have X := Lib.hid (((Row.new w 94 [.int .i64 5, .int .i64 n, .int .i64 a, .int .i64 wk, .int .i64 wt, .int .i64 kk, .int .i64 kn, .string ks, .int .i64 hk, .int .i64 hn, .string hs, .slice ra row.length rc, .int .i64 c, .int .i64 vk, .int .i64 vn, .string vs, .int .i64 wn, .int .i64 p, .int .i64 q]).alloc (.cells #[.int .i64 0, .int .i64 0, .int .i64 0, .int .i64 0, .int .i64 0, .int .i64 0, .int .i64 0, .string ⟨#[]⟩, .int .i64 0, .int .i64 0, .string ⟨#[]⟩, .slice none 0 0, .int .i64 0, .int .i64 0, .int .i64 0, .string ⟨#[]⟩, .int .i64 0, .int .i64 0, .int .i64 0] 94)).alloc (.cells #[.int .i64 0, .int .i64 0, .int .i64 0, .int .i64 0, .int .i64 0, .int .i64 0, .int .i64 0, .string ⟨#[]⟩, .int .i64 0, .int .i64 0, .string ⟨#[]⟩, .slice none 0 0, .int .i64 0, .int .i64 0, .int .i64 0, .string ⟨#[]⟩, .int .i64 0, .int .i64 0, .int .i64 0] 94))
  have Y := Lib.hid ((show Row ((w.alloc (.cells #[.int .i64 5, .int .i64 n, .int .i64 a, .int .i64 wk, .int .i64 wt, .int .i64 kk, .int .i64 kn, .string ks, .int .i64 hk, .int .i64 hn, .string hs, .slice ra row.length rc, .int .i64 c, .int .i64 vk, .int .i64 vn, .string vs, .int .i64 wn, .int .i64 p, .int .i64 q] 94)).alloc (.cells #[.int .i64 0, .int .i64 0, .int .i64 0, .int .i64 0, .int .i64 0, .int .i64 0, .int .i64 0, .string ⟨#[]⟩, .int .i64 0, .int .i64 0, .string ⟨#[]⟩, .slice none 0 0, .int .i64 0, .int .i64 0, .int .i64 0, .string ⟨#[]⟩, .int .i64 0, .int .i64 0, .int .i64 0] 94)) (w.heap.size + 1) 94 [.int .i64 0, .int .i64 0, .int .i64 0, .int .i64 0, .int .i64 0, .int .i64 0, .int .i64 0, .string ⟨#[]⟩, .int .i64 0, .int .i64 0, .string ⟨#[]⟩, .slice none 0 0, .int .i64 0, .int .i64 0, .int .i64 0, .string ⟨#[]⟩, .int .i64 0, .int .i64 0, .int .i64 0] from Wide.new_at (by simp)).alloc (.cells #[.int .i64 0, .int .i64 0, .int .i64 0, .int .i64 0, .int .i64 0, .int .i64 0, .int .i64 0, .string ⟨#[]⟩, .int .i64 0, .int .i64 0, .string ⟨#[]⟩, .slice none 0 0, .int .i64 0, .int .i64 0, .int .i64 0, .string ⟨#[]⟩, .int .i64 0, .int .i64 0, .int .i64 0] 94))
  have Z := Lib.hid (show Row (((w.alloc (.cells #[.int .i64 5, .int .i64 n, .int .i64 a, .int .i64 wk, .int .i64 wt, .int .i64 kk, .int .i64 kn, .string ks, .int .i64 hk, .int .i64 hn, .string hs, .slice ra row.length rc, .int .i64 c, .int .i64 vk, .int .i64 vn, .string vs, .int .i64 wn, .int .i64 p, .int .i64 q] 94)).alloc (.cells #[.int .i64 0, .int .i64 0, .int .i64 0, .int .i64 0, .int .i64 0, .int .i64 0, .int .i64 0, .string ⟨#[]⟩, .int .i64 0, .int .i64 0, .string ⟨#[]⟩, .slice none 0 0, .int .i64 0, .int .i64 0, .int .i64 0, .string ⟨#[]⟩, .int .i64 0, .int .i64 0, .int .i64 0] 94)).alloc (.cells #[.int .i64 0, .int .i64 0, .int .i64 0, .int .i64 0, .int .i64 0, .int .i64 0, .int .i64 0, .string ⟨#[]⟩, .int .i64 0, .int .i64 0, .string ⟨#[]⟩, .slice none 0 0, .int .i64 0, .int .i64 0, .int .i64 0, .string ⟨#[]⟩, .int .i64 0, .int .i64 0, .int .i64 0] 94)) (w.heap.size + 1 + 1) 94 [.int .i64 0, .int .i64 0, .int .i64 0, .int .i64 0, .int .i64 0, .int .i64 0, .int .i64 0, .string ⟨#[]⟩, .int .i64 0, .int .i64 0, .string ⟨#[]⟩, .slice none 0 0, .int .i64 0, .int .i64 0, .int .i64 0, .string ⟨#[]⟩, .int .i64 0, .int .i64 0, .int .i64 0] from Wide.new_at (by simp))
  have C := Lib.hid ((((Chg.refl (BldX.Own F b) w).alloc (.cells #[.int .i64 5, .int .i64 n, .int .i64 a, .int .i64 wk, .int .i64 wt, .int .i64 kk, .int .i64 kn, .string ks, .int .i64 hk, .int .i64 hn, .string hs, .slice ra row.length rc, .int .i64 c, .int .i64 vk, .int .i64 vn, .string vs, .int .i64 wn, .int .i64 p, .int .i64 q] 94)).alloc (.cells #[.int .i64 0, .int .i64 0, .int .i64 0, .int .i64 0, .int .i64 0, .int .i64 0, .int .i64 0, .string ⟨#[]⟩, .int .i64 0, .int .i64 0, .string ⟨#[]⟩, .slice none 0 0, .int .i64 0, .int .i64 0, .int .i64 0, .string ⟨#[]⟩, .int .i64 0, .int .i64 0, .int .i64 0] 94)).alloc (.cells #[.int .i64 0, .int .i64 0, .int .i64 0, .int .i64 0, .int .i64 0, .int .i64 0, .int .i64 0, .string ⟨#[]⟩, .int .i64 0, .int .i64 0, .string ⟨#[]⟩, .slice none 0 0, .int .i64 0, .int .i64 0, .int .i64 0, .string ⟨#[]⟩, .int .i64 0, .int .i64 0, .int .i64 0] 94))
  have VV := Lib.hid hV
  have VN := Lib.hid hN
  have FF := Lib.hid hf
  have Hn0 := Lib.hid n0
  have Hn1 := Lib.hid n1
  have Hn2 := Lib.hid n2
  have Hhm := Lib.hid hm
  have Hf1 := Lib.hid f1
  have Hf2 := Lib.hid f2
  have hb : ¬ F b := h.1
  have HB := Lib.hid hb
  have x0 := X.out.cell (i := 0) rfl
  clear p3 n0 n1 n2 hm f1 f2 h hV hN hf hb
  go_enter Try.func105, Try.ntmps105
  go_wp2_with (refine store_row Z.out [.int .i64 5, .int .i64 0, .int .i64 0, .int .i64 0, .int .i64 0, .int .i64 0, .int .i64 0, .string ⟨#[]⟩, .int .i64 0, .int .i64 0, .string ⟨#[]⟩, .slice none 0 0, .int .i64 0, .int .i64 0, .int .i64 0, .string ⟨#[]⟩, .int .i64 0, .int .i64 0, .int .i64 0] 94 (by kernel_rfl) rfl (by simp [Value.oneCell']) rfl rfl rfl rfl ?_; intro wz hz kz zz; clear x0; replace X := Lib.hid (X.out.chg kz q6); replace Y := Lib.hid (Y.out.chg kz (Ne.symm q7)); replace Z := Lib.hid hz; replace P := Lib.hid (BldX.Is.chg P.out kz (fun e => q5 (show b = _ from e)) (fun k hk e => Hn2.out (.inr ((show k = _ from e) ▸ hk)))); replace C := Lib.hid (C.out.trans (kz.mono (fun k _ e => (.inr ((show k = _ from e) ▸ Hf2.out) : BldX.Own F b k)))); clear hz kz zz; have x0 := X.out.cell (i := 0) rfl)
  clear x0
  generalize w.heap.size + 1 + 1 = s2 at *
  generalize w.heap.size + 1 = s1 at *
  generalize w.heap.size = s0 at *
  refine (one_calls _ b (l) (bad) (5) _ P.out (by (try simp only [List.length_append, List.length_cons, List.length_nil, le_length]); omega)).mono ?_
  rintro e w1 ⟨rfl, hp, kc⟩
  replace X := Lib.hid (X.out.chg kc Hn0.out)
  replace Y := Lib.hid (Y.out.chg kc Hn1.out)
  replace Z := Lib.hid (Z.out.chg kc Hn2.out)
  replace C := Lib.hid (C.out.trans (kc.mono (fun k _ e => Hhm.out k e)))
  replace P := Lib.hid hp
  clear kc hp
  have x0 := X.out.cell (i := 0) rfl
  go_wp2_with (first | (refine load_row Z.out 94 Try.underlying94 rfl (by kernel_rfl) rfl rfl rfl ?_) | (refine store_row Y.out [.int .i64 5, .int .i64 0, .int .i64 0, .int .i64 0, .int .i64 0, .int .i64 0, .int .i64 0, .string ⟨#[]⟩, .int .i64 0, .int .i64 0, .string ⟨#[]⟩, .slice none 0 0, .int .i64 0, .int .i64 0, .int .i64 0, .string ⟨#[]⟩, .int .i64 0, .int .i64 0, .int .i64 0] 94 (by kernel_rfl) rfl (by simp [Value.oneCell']) rfl rfl rfl rfl ?_; intro w90 hR hc hsz))
  have P9 := Lib.hid (BldX.Is.wider (BldX.Is.chg P.out hc (fun e => q1 (show s1 = b from e.symm)) (fun k hk e => Hn1.out (.inr ((show k = s1 from e) ▸ hk)))) (fun k hk => hk.1) HB.out)
  have C9 := Lib.hid (C.out.trans (hc.mono (fun k _ e => (.inr ((show k = s1 from e) ▸ Hf1.out) : BldX.Own F b k))))
  have R9 := Lib.hid hR
  clear hR hc hsz
  refine ret_row R9.out Try.results105 Try.underlying94 rfl (by kernel_rfl) rfl rfl ⟨?_, ?_, C9.out⟩
  · rfl
  · have e1 : l ++ [oneB (5)] = l ++ Mv.bytes ⟨5, n, a, ⟨wk, wt, ⟨kk, kn, ks⟩, ⟨hk, hn, hs⟩, ra, rc, row, c, ⟨vk, vn, vs⟩, wn⟩, p, q⟩ := by simp [Mv.bytes, List.append_assoc]
    have e2 : (bad || oneBad (5)) = (bad || Mv.bad ⟨5, n, a, ⟨wk, wt, ⟨kk, kn, ks⟩, ⟨hk, hn, hs⟩, ra, rc, row, c, ⟨vk, vn, vs⟩, wn⟩, p, q⟩) := by simp [Mv.bad, List.append_assoc, Bool.or_assoc]
    rw [← e1, ← e2]
    exact P9.out
set_option maxHeartbeats 8000000 in
theorem move_6 (F : Nat → Prop) (b : Nat) (l : List UInt8) (bad : Bool) (n : Int) (a : Int) (wk wt kk kn : Int) (ks : ByteArray) (hk hn : Int) (hs : ByteArray) (ra : Option Addr) (rc : Nat) (row : List V) (c vk vn : Int) (vs : ByteArray) (wn p q : Int) (w : World) (h : Pen w F b l bad) (hV : Vs w ra row) (hN : ∀ ad, ra = some ad → row ≠ [] → ¬ BldX.Own F b ad.block) (hf : Wsh.fits ⟨wk, wt, ⟨kk, kn, ks⟩, ⟨hk, hn, hs⟩, ra, rc, row, c, ⟨vk, vn, vs⟩, wn⟩) (hl : l.length ≤ 70000000) (hr : row.length ≤ 1000) :
    MovePost F b l bad ⟨6, n, a, ⟨wk, wt, ⟨kk, kn, ks⟩, ⟨hk, hn, hs⟩, ra, rc, row, c, ⟨vk, vn, vs⟩, wn⟩, p, q⟩ w := by
  unfold MovePost
  show Calls Try.prog 105 #[.pointer (some ⟨b, 0, none⟩), .agg #[.int .i64 6, .int .i64 n, .int .i64 a, .int .i64 wk, .int .i64 wt, .int .i64 kk, .int .i64 kn, .string ks, .int .i64 hk, .int .i64 hn, .string hs, .slice ra row.length rc, .int .i64 c, .int .i64 vk, .int .i64 vn, .string vs, .int .i64 wn, .int .i64 p, .int .i64 q]] w _
  obtain ⟨p3, n0, n1, n2, hm, f1, f2, ⟨q0, q5⟩, q1, q4, q3, q2, q7, q6⟩ := three h (.cells #[.int .i64 6, .int .i64 n, .int .i64 a, .int .i64 wk, .int .i64 wt, .int .i64 kk, .int .i64 kn, .string ks, .int .i64 hk, .int .i64 hn, .string hs, .slice ra row.length rc, .int .i64 c, .int .i64 vk, .int .i64 vn, .string vs, .int .i64 wn, .int .i64 p, .int .i64 q] 94) (.cells #[.int .i64 0, .int .i64 0, .int .i64 0, .int .i64 0, .int .i64 0, .int .i64 0, .int .i64 0, .string ⟨#[]⟩, .int .i64 0, .int .i64 0, .string ⟨#[]⟩, .slice none 0 0, .int .i64 0, .int .i64 0, .int .i64 0, .string ⟨#[]⟩, .int .i64 0, .int .i64 0, .int .i64 0] 94) (.cells #[.int .i64 0, .int .i64 0, .int .i64 0, .int .i64 0, .int .i64 0, .int .i64 0, .int .i64 0, .string ⟨#[]⟩, .int .i64 0, .int .i64 0, .string ⟨#[]⟩, .slice none 0 0, .int .i64 0, .int .i64 0, .int .i64 0, .string ⟨#[]⟩, .int .i64 0, .int .i64 0, .int .i64 0] 94)
  have P := Lib.hid p3
  have X := Lib.hid (((Row.new w 94 [.int .i64 6, .int .i64 n, .int .i64 a, .int .i64 wk, .int .i64 wt, .int .i64 kk, .int .i64 kn, .string ks, .int .i64 hk, .int .i64 hn, .string hs, .slice ra row.length rc, .int .i64 c, .int .i64 vk, .int .i64 vn, .string vs, .int .i64 wn, .int .i64 p, .int .i64 q]).alloc (.cells #[.int .i64 0, .int .i64 0, .int .i64 0, .int .i64 0, .int .i64 0, .int .i64 0, .int .i64 0, .string ⟨#[]⟩, .int .i64 0, .int .i64 0, .string ⟨#[]⟩, .slice none 0 0, .int .i64 0, .int .i64 0, .int .i64 0, .string ⟨#[]⟩, .int .i64 0, .int .i64 0, .int .i64 0] 94)).alloc (.cells #[.int .i64 0, .int .i64 0, .int .i64 0, .int .i64 0, .int .i64 0, .int .i64 0, .int .i64 0, .string ⟨#[]⟩, .int .i64 0, .int .i64 0, .string ⟨#[]⟩, .slice none 0 0, .int .i64 0, .int .i64 0, .int .i64 0, .string ⟨#[]⟩, .int .i64 0, .int .i64 0, .int .i64 0] 94))
  have Y := Lib.hid ((show Row ((w.alloc (.cells #[.int .i64 6, .int .i64 n, .int .i64 a, .int .i64 wk, .int .i64 wt, .int .i64 kk, .int .i64 kn, .string ks, .int .i64 hk, .int .i64 hn, .string hs, .slice ra row.length rc, .int .i64 c, .int .i64 vk, .int .i64 vn, .string vs, .int .i64 wn, .int .i64 p, .int .i64 q] 94)).alloc (.cells #[.int .i64 0, .int .i64 0, .int .i64 0, .int .i64 0, .int .i64 0, .int .i64 0, .int .i64 0, .string ⟨#[]⟩, .int .i64 0, .int .i64 0, .string ⟨#[]⟩, .slice none 0 0, .int .i64 0, .int .i64 0, .int .i64 0, .string ⟨#[]⟩, .int .i64 0, .int .i64 0, .int .i64 0] 94)) (w.heap.size + 1) 94 [.int .i64 0, .int .i64 0, .int .i64 0, .int .i64 0, .int .i64 0, .int .i64 0, .int .i64 0, .string ⟨#[]⟩, .int .i64 0, .int .i64 0, .string ⟨#[]⟩, .slice none 0 0, .int .i64 0, .int .i64 0, .int .i64 0, .string ⟨#[]⟩, .int .i64 0, .int .i64 0, .int .i64 0] from Wide.new_at (by simp)).alloc (.cells #[.int .i64 0, .int .i64 0, .int .i64 0, .int .i64 0, .int .i64 0, .int .i64 0, .int .i64 0, .string ⟨#[]⟩, .int .i64 0, .int .i64 0, .string ⟨#[]⟩, .slice none 0 0, .int .i64 0, .int .i64 0, .int .i64 0, .string ⟨#[]⟩, .int .i64 0, .int .i64 0, .int .i64 0] 94))
  have Z := Lib.hid (show Row (((w.alloc (.cells #[.int .i64 6, .int .i64 n, .int .i64 a, .int .i64 wk, .int .i64 wt, .int .i64 kk, .int .i64 kn, .string ks, .int .i64 hk, .int .i64 hn, .string hs, .slice ra row.length rc, .int .i64 c, .int .i64 vk, .int .i64 vn, .string vs, .int .i64 wn, .int .i64 p, .int .i64 q] 94)).alloc (.cells #[.int .i64 0, .int .i64 0, .int .i64 0, .int .i64 0, .int .i64 0, .int .i64 0, .int .i64 0, .string ⟨#[]⟩, .int .i64 0, .int .i64 0, .string ⟨#[]⟩, .slice none 0 0, .int .i64 0, .int .i64 0, .int .i64 0, .string ⟨#[]⟩, .int .i64 0, .int .i64 0, .int .i64 0] 94)).alloc (.cells #[.int .i64 0, .int .i64 0, .int .i64 0, .int .i64 0, .int .i64 0, .int .i64 0, .int .i64 0, .string ⟨#[]⟩, .int .i64 0, .int .i64 0, .string ⟨#[]⟩, .slice none 0 0, .int .i64 0, .int .i64 0, .int .i64 0, .string ⟨#[]⟩, .int .i64 0, .int .i64 0, .int .i64 0] 94)) (w.heap.size + 1 + 1) 94 [.int .i64 0, .int .i64 0, .int .i64 0, .int .i64 0, .int .i64 0, .int .i64 0, .int .i64 0, .string ⟨#[]⟩, .int .i64 0, .int .i64 0, .string ⟨#[]⟩, .slice none 0 0, .int .i64 0, .int .i64 0, .int .i64 0, .string ⟨#[]⟩, .int .i64 0, .int .i64 0, .int .i64 0] from Wide.new_at (by simp))
  have C := Lib.hid ((((Chg.refl (BldX.Own F b) w).alloc (.cells #[.int .i64 6, .int .i64 n, .int .i64 a, .int .i64 wk, .int .i64 wt, .int .i64 kk, .int .i64 kn, .string ks, .int .i64 hk, .int .i64 hn, .string hs, .slice ra row.length rc, .int .i64 c, .int .i64 vk, .int .i64 vn, .string vs, .int .i64 wn, .int .i64 p, .int .i64 q] 94)).alloc (.cells #[.int .i64 0, .int .i64 0, .int .i64 0, .int .i64 0, .int .i64 0, .int .i64 0, .int .i64 0, .string ⟨#[]⟩, .int .i64 0, .int .i64 0, .string ⟨#[]⟩, .slice none 0 0, .int .i64 0, .int .i64 0, .int .i64 0, .string ⟨#[]⟩, .int .i64 0, .int .i64 0, .int .i64 0] 94)).alloc (.cells #[.int .i64 0, .int .i64 0, .int .i64 0, .int .i64 0, .int .i64 0, .int .i64 0, .int .i64 0, .string ⟨#[]⟩, .int .i64 0, .int .i64 0, .string ⟨#[]⟩, .slice none 0 0, .int .i64 0, .int .i64 0, .int .i64 0, .string ⟨#[]⟩, .int .i64 0, .int .i64 0, .int .i64 0] 94))
  have VV := Lib.hid hV
  have VN := Lib.hid hN
  have FF := Lib.hid hf
  have Hn0 := Lib.hid n0
  have Hn1 := Lib.hid n1
  have Hn2 := Lib.hid n2
  have Hhm := Lib.hid hm
  have Hf1 := Lib.hid f1
  have Hf2 := Lib.hid f2
  have hb : ¬ F b := h.1
  have HB := Lib.hid hb
  have x0 := X.out.cell (i := 0) rfl
  clear p3 n0 n1 n2 hm f1 f2 h hV hN hf hb
  go_enter Try.func105, Try.ntmps105
  go_wp2_with (refine store_row Z.out [.int .i64 6, .int .i64 0, .int .i64 0, .int .i64 0, .int .i64 0, .int .i64 0, .int .i64 0, .string ⟨#[]⟩, .int .i64 0, .int .i64 0, .string ⟨#[]⟩, .slice none 0 0, .int .i64 0, .int .i64 0, .int .i64 0, .string ⟨#[]⟩, .int .i64 0, .int .i64 0, .int .i64 0] 94 (by kernel_rfl) rfl (by simp [Value.oneCell']) rfl rfl rfl rfl ?_; intro wz hz kz zz; clear x0; replace X := Lib.hid (X.out.chg kz q6); replace Y := Lib.hid (Y.out.chg kz (Ne.symm q7)); replace Z := Lib.hid hz; replace P := Lib.hid (BldX.Is.chg P.out kz (fun e => q5 (show b = _ from e)) (fun k hk e => Hn2.out (.inr ((show k = _ from e) ▸ hk)))); replace C := Lib.hid (C.out.trans (kz.mono (fun k _ e => (.inr ((show k = _ from e) ▸ Hf2.out) : BldX.Own F b k)))); clear hz kz zz; have x0 := X.out.cell (i := 0) rfl)
  clear x0
  generalize w.heap.size + 1 + 1 = s2 at *
  generalize w.heap.size + 1 = s1 at *
  generalize w.heap.size = s0 at *
  refine (one_calls _ b (l) (bad) (6) _ P.out (by (try simp only [List.length_append, List.length_cons, List.length_nil, le_length]); omega)).mono ?_
  rintro e w1 ⟨rfl, hp, kc⟩
  replace X := Lib.hid (X.out.chg kc Hn0.out)
  replace Y := Lib.hid (Y.out.chg kc Hn1.out)
  replace Z := Lib.hid (Z.out.chg kc Hn2.out)
  replace C := Lib.hid (C.out.trans (kc.mono (fun k _ e => Hhm.out k e)))
  replace P := Lib.hid hp
  clear kc hp
  have x0 := X.out.cell (i := 0) rfl
  go_wp2_with (first | (refine load_row Z.out 94 Try.underlying94 rfl (by kernel_rfl) rfl rfl rfl ?_) | (refine store_row Y.out [.int .i64 6, .int .i64 0, .int .i64 0, .int .i64 0, .int .i64 0, .int .i64 0, .int .i64 0, .string ⟨#[]⟩, .int .i64 0, .int .i64 0, .string ⟨#[]⟩, .slice none 0 0, .int .i64 0, .int .i64 0, .int .i64 0, .string ⟨#[]⟩, .int .i64 0, .int .i64 0, .int .i64 0] 94 (by kernel_rfl) rfl (by simp [Value.oneCell']) rfl rfl rfl rfl ?_; intro w90 hR hc hsz))
  have P9 := Lib.hid (BldX.Is.wider (BldX.Is.chg P.out hc (fun e => q1 (show s1 = b from e.symm)) (fun k hk e => Hn1.out (.inr ((show k = s1 from e) ▸ hk)))) (fun k hk => hk.1) HB.out)
  have C9 := Lib.hid (C.out.trans (hc.mono (fun k _ e => (.inr ((show k = s1 from e) ▸ Hf1.out) : BldX.Own F b k))))
  have R9 := Lib.hid hR
  clear hR hc hsz
  refine ret_row R9.out Try.results105 Try.underlying94 rfl (by kernel_rfl) rfl rfl ⟨?_, ?_, C9.out⟩
  · rfl
  · have e1 : l ++ [oneB (6)] = l ++ Mv.bytes ⟨6, n, a, ⟨wk, wt, ⟨kk, kn, ks⟩, ⟨hk, hn, hs⟩, ra, rc, row, c, ⟨vk, vn, vs⟩, wn⟩, p, q⟩ := by simp [Mv.bytes, List.append_assoc]
    have e2 : (bad || oneBad (6)) = (bad || Mv.bad ⟨6, n, a, ⟨wk, wt, ⟨kk, kn, ks⟩, ⟨hk, hn, hs⟩, ra, rc, row, c, ⟨vk, vn, vs⟩, wn⟩, p, q⟩) := by simp [Mv.bad, List.append_assoc, Bool.or_assoc]
    rw [← e1, ← e2]
    exact P9.out
set_option maxHeartbeats 8000000 in
theorem move_7 (F : Nat → Prop) (b : Nat) (l : List UInt8) (bad : Bool) (n : Int) (a : Int) (wk wt kk kn : Int) (ks : ByteArray) (hk hn : Int) (hs : ByteArray) (ra : Option Addr) (rc : Nat) (row : List V) (c vk vn : Int) (vs : ByteArray) (wn p q : Int) (w : World) (h : Pen w F b l bad) (hV : Vs w ra row) (hN : ∀ ad, ra = some ad → row ≠ [] → ¬ BldX.Own F b ad.block) (hf : Wsh.fits ⟨wk, wt, ⟨kk, kn, ks⟩, ⟨hk, hn, hs⟩, ra, rc, row, c, ⟨vk, vn, vs⟩, wn⟩) (hl : l.length ≤ 70000000) (hr : row.length ≤ 1000) :
    MovePost F b l bad ⟨7, n, a, ⟨wk, wt, ⟨kk, kn, ks⟩, ⟨hk, hn, hs⟩, ra, rc, row, c, ⟨vk, vn, vs⟩, wn⟩, p, q⟩ w := by
  unfold MovePost
  show Calls Try.prog 105 #[.pointer (some ⟨b, 0, none⟩), .agg #[.int .i64 7, .int .i64 n, .int .i64 a, .int .i64 wk, .int .i64 wt, .int .i64 kk, .int .i64 kn, .string ks, .int .i64 hk, .int .i64 hn, .string hs, .slice ra row.length rc, .int .i64 c, .int .i64 vk, .int .i64 vn, .string vs, .int .i64 wn, .int .i64 p, .int .i64 q]] w _
  obtain ⟨p3, n0, n1, n2, hm, f1, f2, ⟨q0, q5⟩, q1, q4, q3, q2, q7, q6⟩ := three h (.cells #[.int .i64 7, .int .i64 n, .int .i64 a, .int .i64 wk, .int .i64 wt, .int .i64 kk, .int .i64 kn, .string ks, .int .i64 hk, .int .i64 hn, .string hs, .slice ra row.length rc, .int .i64 c, .int .i64 vk, .int .i64 vn, .string vs, .int .i64 wn, .int .i64 p, .int .i64 q] 94) (.cells #[.int .i64 0, .int .i64 0, .int .i64 0, .int .i64 0, .int .i64 0, .int .i64 0, .int .i64 0, .string ⟨#[]⟩, .int .i64 0, .int .i64 0, .string ⟨#[]⟩, .slice none 0 0, .int .i64 0, .int .i64 0, .int .i64 0, .string ⟨#[]⟩, .int .i64 0, .int .i64 0, .int .i64 0] 94) (.cells #[.int .i64 0, .int .i64 0, .int .i64 0, .int .i64 0, .int .i64 0, .int .i64 0, .int .i64 0, .string ⟨#[]⟩, .int .i64 0, .int .i64 0, .string ⟨#[]⟩, .slice none 0 0, .int .i64 0, .int .i64 0, .int .i64 0, .string ⟨#[]⟩, .int .i64 0, .int .i64 0, .int .i64 0] 94)
  have P := Lib.hid p3
  have X := Lib.hid (((Row.new w 94 [.int .i64 7, .int .i64 n, .int .i64 a, .int .i64 wk, .int .i64 wt, .int .i64 kk, .int .i64 kn, .string ks, .int .i64 hk, .int .i64 hn, .string hs, .slice ra row.length rc, .int .i64 c, .int .i64 vk, .int .i64 vn, .string vs, .int .i64 wn, .int .i64 p, .int .i64 q]).alloc (.cells #[.int .i64 0, .int .i64 0, .int .i64 0, .int .i64 0, .int .i64 0, .int .i64 0, .int .i64 0, .string ⟨#[]⟩, .int .i64 0, .int .i64 0, .string ⟨#[]⟩, .slice none 0 0, .int .i64 0, .int .i64 0, .int .i64 0, .string ⟨#[]⟩, .int .i64 0, .int .i64 0, .int .i64 0] 94)).alloc (.cells #[.int .i64 0, .int .i64 0, .int .i64 0, .int .i64 0, .int .i64 0, .int .i64 0, .int .i64 0, .string ⟨#[]⟩, .int .i64 0, .int .i64 0, .string ⟨#[]⟩, .slice none 0 0, .int .i64 0, .int .i64 0, .int .i64 0, .string ⟨#[]⟩, .int .i64 0, .int .i64 0, .int .i64 0] 94))
  have Y := Lib.hid ((show Row ((w.alloc (.cells #[.int .i64 7, .int .i64 n, .int .i64 a, .int .i64 wk, .int .i64 wt, .int .i64 kk, .int .i64 kn, .string ks, .int .i64 hk, .int .i64 hn, .string hs, .slice ra row.length rc, .int .i64 c, .int .i64 vk, .int .i64 vn, .string vs, .int .i64 wn, .int .i64 p, .int .i64 q] 94)).alloc (.cells #[.int .i64 0, .int .i64 0, .int .i64 0, .int .i64 0, .int .i64 0, .int .i64 0, .int .i64 0, .string ⟨#[]⟩, .int .i64 0, .int .i64 0, .string ⟨#[]⟩, .slice none 0 0, .int .i64 0, .int .i64 0, .int .i64 0, .string ⟨#[]⟩, .int .i64 0, .int .i64 0, .int .i64 0] 94)) (w.heap.size + 1) 94 [.int .i64 0, .int .i64 0, .int .i64 0, .int .i64 0, .int .i64 0, .int .i64 0, .int .i64 0, .string ⟨#[]⟩, .int .i64 0, .int .i64 0, .string ⟨#[]⟩, .slice none 0 0, .int .i64 0, .int .i64 0, .int .i64 0, .string ⟨#[]⟩, .int .i64 0, .int .i64 0, .int .i64 0] from Wide.new_at (by simp)).alloc (.cells #[.int .i64 0, .int .i64 0, .int .i64 0, .int .i64 0, .int .i64 0, .int .i64 0, .int .i64 0, .string ⟨#[]⟩, .int .i64 0, .int .i64 0, .string ⟨#[]⟩, .slice none 0 0, .int .i64 0, .int .i64 0, .int .i64 0, .string ⟨#[]⟩, .int .i64 0, .int .i64 0, .int .i64 0] 94))
  have Z := Lib.hid (show Row (((w.alloc (.cells #[.int .i64 7, .int .i64 n, .int .i64 a, .int .i64 wk, .int .i64 wt, .int .i64 kk, .int .i64 kn, .string ks, .int .i64 hk, .int .i64 hn, .string hs, .slice ra row.length rc, .int .i64 c, .int .i64 vk, .int .i64 vn, .string vs, .int .i64 wn, .int .i64 p, .int .i64 q] 94)).alloc (.cells #[.int .i64 0, .int .i64 0, .int .i64 0, .int .i64 0, .int .i64 0, .int .i64 0, .int .i64 0, .string ⟨#[]⟩, .int .i64 0, .int .i64 0, .string ⟨#[]⟩, .slice none 0 0, .int .i64 0, .int .i64 0, .int .i64 0, .string ⟨#[]⟩, .int .i64 0, .int .i64 0, .int .i64 0] 94)).alloc (.cells #[.int .i64 0, .int .i64 0, .int .i64 0, .int .i64 0, .int .i64 0, .int .i64 0, .int .i64 0, .string ⟨#[]⟩, .int .i64 0, .int .i64 0, .string ⟨#[]⟩, .slice none 0 0, .int .i64 0, .int .i64 0, .int .i64 0, .string ⟨#[]⟩, .int .i64 0, .int .i64 0, .int .i64 0] 94)) (w.heap.size + 1 + 1) 94 [.int .i64 0, .int .i64 0, .int .i64 0, .int .i64 0, .int .i64 0, .int .i64 0, .int .i64 0, .string ⟨#[]⟩, .int .i64 0, .int .i64 0, .string ⟨#[]⟩, .slice none 0 0, .int .i64 0, .int .i64 0, .int .i64 0, .string ⟨#[]⟩, .int .i64 0, .int .i64 0, .int .i64 0] from Wide.new_at (by simp))
  have C := Lib.hid ((((Chg.refl (BldX.Own F b) w).alloc (.cells #[.int .i64 7, .int .i64 n, .int .i64 a, .int .i64 wk, .int .i64 wt, .int .i64 kk, .int .i64 kn, .string ks, .int .i64 hk, .int .i64 hn, .string hs, .slice ra row.length rc, .int .i64 c, .int .i64 vk, .int .i64 vn, .string vs, .int .i64 wn, .int .i64 p, .int .i64 q] 94)).alloc (.cells #[.int .i64 0, .int .i64 0, .int .i64 0, .int .i64 0, .int .i64 0, .int .i64 0, .int .i64 0, .string ⟨#[]⟩, .int .i64 0, .int .i64 0, .string ⟨#[]⟩, .slice none 0 0, .int .i64 0, .int .i64 0, .int .i64 0, .string ⟨#[]⟩, .int .i64 0, .int .i64 0, .int .i64 0] 94)).alloc (.cells #[.int .i64 0, .int .i64 0, .int .i64 0, .int .i64 0, .int .i64 0, .int .i64 0, .int .i64 0, .string ⟨#[]⟩, .int .i64 0, .int .i64 0, .string ⟨#[]⟩, .slice none 0 0, .int .i64 0, .int .i64 0, .int .i64 0, .string ⟨#[]⟩, .int .i64 0, .int .i64 0, .int .i64 0] 94))
  have VV := Lib.hid hV
  have VN := Lib.hid hN
  have FF := Lib.hid hf
  have Hn0 := Lib.hid n0
  have Hn1 := Lib.hid n1
  have Hn2 := Lib.hid n2
  have Hhm := Lib.hid hm
  have Hf1 := Lib.hid f1
  have Hf2 := Lib.hid f2
  have hb : ¬ F b := h.1
  have HB := Lib.hid hb
  have x0 := X.out.cell (i := 0) rfl
  clear p3 n0 n1 n2 hm f1 f2 h hV hN hf hb
  go_enter Try.func105, Try.ntmps105
  go_wp2_with (refine store_row Z.out [.int .i64 7, .int .i64 0, .int .i64 0, .int .i64 0, .int .i64 0, .int .i64 0, .int .i64 0, .string ⟨#[]⟩, .int .i64 0, .int .i64 0, .string ⟨#[]⟩, .slice none 0 0, .int .i64 0, .int .i64 0, .int .i64 0, .string ⟨#[]⟩, .int .i64 0, .int .i64 0, .int .i64 0] 94 (by kernel_rfl) rfl (by simp [Value.oneCell']) rfl rfl rfl rfl ?_; intro wz hz kz zz; clear x0; replace X := Lib.hid (X.out.chg kz q6); replace Y := Lib.hid (Y.out.chg kz (Ne.symm q7)); replace Z := Lib.hid hz; replace P := Lib.hid (BldX.Is.chg P.out kz (fun e => q5 (show b = _ from e)) (fun k hk e => Hn2.out (.inr ((show k = _ from e) ▸ hk)))); replace C := Lib.hid (C.out.trans (kz.mono (fun k _ e => (.inr ((show k = _ from e) ▸ Hf2.out) : BldX.Own F b k)))); clear hz kz zz; have x0 := X.out.cell (i := 0) rfl)
  clear x0
  generalize w.heap.size + 1 + 1 = s2 at *
  generalize w.heap.size + 1 = s1 at *
  generalize w.heap.size = s0 at *
  refine (one_calls _ b (l) (bad) (7) _ P.out (by (try simp only [List.length_append, List.length_cons, List.length_nil, le_length]); omega)).mono ?_
  rintro e w1 ⟨rfl, hp, kc⟩
  replace X := Lib.hid (X.out.chg kc Hn0.out)
  replace Y := Lib.hid (Y.out.chg kc Hn1.out)
  replace Z := Lib.hid (Z.out.chg kc Hn2.out)
  replace C := Lib.hid (C.out.trans (kc.mono (fun k _ e => Hhm.out k e)))
  replace P := Lib.hid hp
  clear kc hp
  have x0 := X.out.cell (i := 0) rfl
  go_wp2_with (first | (refine load_row Z.out 94 Try.underlying94 rfl (by kernel_rfl) rfl rfl rfl ?_) | (refine store_row Y.out [.int .i64 7, .int .i64 0, .int .i64 0, .int .i64 0, .int .i64 0, .int .i64 0, .int .i64 0, .string ⟨#[]⟩, .int .i64 0, .int .i64 0, .string ⟨#[]⟩, .slice none 0 0, .int .i64 0, .int .i64 0, .int .i64 0, .string ⟨#[]⟩, .int .i64 0, .int .i64 0, .int .i64 0] 94 (by kernel_rfl) rfl (by simp [Value.oneCell']) rfl rfl rfl rfl ?_; intro w90 hR hc hsz))
  have P9 := Lib.hid (BldX.Is.wider (BldX.Is.chg P.out hc (fun e => q1 (show s1 = b from e.symm)) (fun k hk e => Hn1.out (.inr ((show k = s1 from e) ▸ hk)))) (fun k hk => hk.1) HB.out)
  have C9 := Lib.hid (C.out.trans (hc.mono (fun k _ e => (.inr ((show k = s1 from e) ▸ Hf1.out) : BldX.Own F b k))))
  have R9 := Lib.hid hR
  clear hR hc hsz
  refine ret_row R9.out Try.results105 Try.underlying94 rfl (by kernel_rfl) rfl rfl ⟨?_, ?_, C9.out⟩
  · rfl
  · have e1 : l ++ [oneB (7)] = l ++ Mv.bytes ⟨7, n, a, ⟨wk, wt, ⟨kk, kn, ks⟩, ⟨hk, hn, hs⟩, ra, rc, row, c, ⟨vk, vn, vs⟩, wn⟩, p, q⟩ := by simp [Mv.bytes, List.append_assoc]
    have e2 : (bad || oneBad (7)) = (bad || Mv.bad ⟨7, n, a, ⟨wk, wt, ⟨kk, kn, ks⟩, ⟨hk, hn, hs⟩, ra, rc, row, c, ⟨vk, vn, vs⟩, wn⟩, p, q⟩) := by simp [Mv.bad, List.append_assoc, Bool.or_assoc]
    rw [← e1, ← e2]
    exact P9.out
set_option maxHeartbeats 8000000 in
theorem move_other (F : Nat → Prop) (b : Nat) (l : List UInt8) (bad : Bool) (k : Int) (c1 : ¬ k = 1) (c2 : ¬ k = 2) (c3 : ¬ k = 3) (c4 : ¬ k = 4) (c5 : ¬ k = 5) (c6 : ¬ k = 6) (c7 : ¬ k = 7) (c8 : ¬ k = 8) (c9 : ¬ k = 9) (n : Int) (a : Int) (wk wt kk kn : Int) (ks : ByteArray) (hk hn : Int) (hs : ByteArray) (ra : Option Addr) (rc : Nat) (row : List V) (c vk vn : Int) (vs : ByteArray) (wn p q : Int) (w : World) (h : Pen w F b l bad) (hV : Vs w ra row) (hN : ∀ ad, ra = some ad → row ≠ [] → ¬ BldX.Own F b ad.block) (hf : Wsh.fits ⟨wk, wt, ⟨kk, kn, ks⟩, ⟨hk, hn, hs⟩, ra, rc, row, c, ⟨vk, vn, vs⟩, wn⟩) (hl : l.length ≤ 70000000) (hr : row.length ≤ 1000) :
    MovePost F b l bad ⟨k, n, a, ⟨wk, wt, ⟨kk, kn, ks⟩, ⟨hk, hn, hs⟩, ra, rc, row, c, ⟨vk, vn, vs⟩, wn⟩, p, q⟩ w := by
  unfold MovePost
  show Calls Try.prog 105 #[.pointer (some ⟨b, 0, none⟩), .agg #[.int .i64 k, .int .i64 n, .int .i64 a, .int .i64 wk, .int .i64 wt, .int .i64 kk, .int .i64 kn, .string ks, .int .i64 hk, .int .i64 hn, .string hs, .slice ra row.length rc, .int .i64 c, .int .i64 vk, .int .i64 vn, .string vs, .int .i64 wn, .int .i64 p, .int .i64 q]] w _
  obtain ⟨p3, n0, n1, n2, hm, f1, f2, ⟨q0, q5⟩, q1, q4, q3, q2, q7, q6⟩ := three h (.cells #[.int .i64 k, .int .i64 n, .int .i64 a, .int .i64 wk, .int .i64 wt, .int .i64 kk, .int .i64 kn, .string ks, .int .i64 hk, .int .i64 hn, .string hs, .slice ra row.length rc, .int .i64 c, .int .i64 vk, .int .i64 vn, .string vs, .int .i64 wn, .int .i64 p, .int .i64 q] 94) (.cells #[.int .i64 0, .int .i64 0, .int .i64 0, .int .i64 0, .int .i64 0, .int .i64 0, .int .i64 0, .string ⟨#[]⟩, .int .i64 0, .int .i64 0, .string ⟨#[]⟩, .slice none 0 0, .int .i64 0, .int .i64 0, .int .i64 0, .string ⟨#[]⟩, .int .i64 0, .int .i64 0, .int .i64 0] 94) (.cells #[.int .i64 0, .int .i64 0, .int .i64 0, .int .i64 0, .int .i64 0, .int .i64 0, .int .i64 0, .string ⟨#[]⟩, .int .i64 0, .int .i64 0, .string ⟨#[]⟩, .slice none 0 0, .int .i64 0, .int .i64 0, .int .i64 0, .string ⟨#[]⟩, .int .i64 0, .int .i64 0, .int .i64 0] 94)
  have P := Lib.hid p3
  have X := Lib.hid (((Row.new w 94 [.int .i64 k, .int .i64 n, .int .i64 a, .int .i64 wk, .int .i64 wt, .int .i64 kk, .int .i64 kn, .string ks, .int .i64 hk, .int .i64 hn, .string hs, .slice ra row.length rc, .int .i64 c, .int .i64 vk, .int .i64 vn, .string vs, .int .i64 wn, .int .i64 p, .int .i64 q]).alloc (.cells #[.int .i64 0, .int .i64 0, .int .i64 0, .int .i64 0, .int .i64 0, .int .i64 0, .int .i64 0, .string ⟨#[]⟩, .int .i64 0, .int .i64 0, .string ⟨#[]⟩, .slice none 0 0, .int .i64 0, .int .i64 0, .int .i64 0, .string ⟨#[]⟩, .int .i64 0, .int .i64 0, .int .i64 0] 94)).alloc (.cells #[.int .i64 0, .int .i64 0, .int .i64 0, .int .i64 0, .int .i64 0, .int .i64 0, .int .i64 0, .string ⟨#[]⟩, .int .i64 0, .int .i64 0, .string ⟨#[]⟩, .slice none 0 0, .int .i64 0, .int .i64 0, .int .i64 0, .string ⟨#[]⟩, .int .i64 0, .int .i64 0, .int .i64 0] 94))
  have Y := Lib.hid ((show Row ((w.alloc (.cells #[.int .i64 k, .int .i64 n, .int .i64 a, .int .i64 wk, .int .i64 wt, .int .i64 kk, .int .i64 kn, .string ks, .int .i64 hk, .int .i64 hn, .string hs, .slice ra row.length rc, .int .i64 c, .int .i64 vk, .int .i64 vn, .string vs, .int .i64 wn, .int .i64 p, .int .i64 q] 94)).alloc (.cells #[.int .i64 0, .int .i64 0, .int .i64 0, .int .i64 0, .int .i64 0, .int .i64 0, .int .i64 0, .string ⟨#[]⟩, .int .i64 0, .int .i64 0, .string ⟨#[]⟩, .slice none 0 0, .int .i64 0, .int .i64 0, .int .i64 0, .string ⟨#[]⟩, .int .i64 0, .int .i64 0, .int .i64 0] 94)) (w.heap.size + 1) 94 [.int .i64 0, .int .i64 0, .int .i64 0, .int .i64 0, .int .i64 0, .int .i64 0, .int .i64 0, .string ⟨#[]⟩, .int .i64 0, .int .i64 0, .string ⟨#[]⟩, .slice none 0 0, .int .i64 0, .int .i64 0, .int .i64 0, .string ⟨#[]⟩, .int .i64 0, .int .i64 0, .int .i64 0] from Wide.new_at (by simp)).alloc (.cells #[.int .i64 0, .int .i64 0, .int .i64 0, .int .i64 0, .int .i64 0, .int .i64 0, .int .i64 0, .string ⟨#[]⟩, .int .i64 0, .int .i64 0, .string ⟨#[]⟩, .slice none 0 0, .int .i64 0, .int .i64 0, .int .i64 0, .string ⟨#[]⟩, .int .i64 0, .int .i64 0, .int .i64 0] 94))
  have Z := Lib.hid (show Row (((w.alloc (.cells #[.int .i64 k, .int .i64 n, .int .i64 a, .int .i64 wk, .int .i64 wt, .int .i64 kk, .int .i64 kn, .string ks, .int .i64 hk, .int .i64 hn, .string hs, .slice ra row.length rc, .int .i64 c, .int .i64 vk, .int .i64 vn, .string vs, .int .i64 wn, .int .i64 p, .int .i64 q] 94)).alloc (.cells #[.int .i64 0, .int .i64 0, .int .i64 0, .int .i64 0, .int .i64 0, .int .i64 0, .int .i64 0, .string ⟨#[]⟩, .int .i64 0, .int .i64 0, .string ⟨#[]⟩, .slice none 0 0, .int .i64 0, .int .i64 0, .int .i64 0, .string ⟨#[]⟩, .int .i64 0, .int .i64 0, .int .i64 0] 94)).alloc (.cells #[.int .i64 0, .int .i64 0, .int .i64 0, .int .i64 0, .int .i64 0, .int .i64 0, .int .i64 0, .string ⟨#[]⟩, .int .i64 0, .int .i64 0, .string ⟨#[]⟩, .slice none 0 0, .int .i64 0, .int .i64 0, .int .i64 0, .string ⟨#[]⟩, .int .i64 0, .int .i64 0, .int .i64 0] 94)) (w.heap.size + 1 + 1) 94 [.int .i64 0, .int .i64 0, .int .i64 0, .int .i64 0, .int .i64 0, .int .i64 0, .int .i64 0, .string ⟨#[]⟩, .int .i64 0, .int .i64 0, .string ⟨#[]⟩, .slice none 0 0, .int .i64 0, .int .i64 0, .int .i64 0, .string ⟨#[]⟩, .int .i64 0, .int .i64 0, .int .i64 0] from Wide.new_at (by simp))
  have C := Lib.hid ((((Chg.refl (BldX.Own F b) w).alloc (.cells #[.int .i64 k, .int .i64 n, .int .i64 a, .int .i64 wk, .int .i64 wt, .int .i64 kk, .int .i64 kn, .string ks, .int .i64 hk, .int .i64 hn, .string hs, .slice ra row.length rc, .int .i64 c, .int .i64 vk, .int .i64 vn, .string vs, .int .i64 wn, .int .i64 p, .int .i64 q] 94)).alloc (.cells #[.int .i64 0, .int .i64 0, .int .i64 0, .int .i64 0, .int .i64 0, .int .i64 0, .int .i64 0, .string ⟨#[]⟩, .int .i64 0, .int .i64 0, .string ⟨#[]⟩, .slice none 0 0, .int .i64 0, .int .i64 0, .int .i64 0, .string ⟨#[]⟩, .int .i64 0, .int .i64 0, .int .i64 0] 94)).alloc (.cells #[.int .i64 0, .int .i64 0, .int .i64 0, .int .i64 0, .int .i64 0, .int .i64 0, .int .i64 0, .string ⟨#[]⟩, .int .i64 0, .int .i64 0, .string ⟨#[]⟩, .slice none 0 0, .int .i64 0, .int .i64 0, .int .i64 0, .string ⟨#[]⟩, .int .i64 0, .int .i64 0, .int .i64 0] 94))
  have VV := Lib.hid hV
  have VN := Lib.hid hN
  have FF := Lib.hid hf
  have Hn0 := Lib.hid n0
  have Hn1 := Lib.hid n1
  have Hn2 := Lib.hid n2
  have Hhm := Lib.hid hm
  have Hf1 := Lib.hid f1
  have Hf2 := Lib.hid f2
  have hb : ¬ F b := h.1
  have HB := Lib.hid hb
  have x0 := X.out.cell (i := 0) rfl
  clear p3 n0 n1 n2 hm f1 f2 h hV hN hf hb
  have d1 : ((k : Int) == 1) = false := by simpa using c1
  have d2 : ((k : Int) == 2) = false := by simpa using c2
  have d3 : ((k : Int) == 3) = false := by simpa using c3
  have d4 : ((k : Int) == 4) = false := by simpa using c4
  have d5 : ((k : Int) == 5) = false := by simpa using c5
  have d6 : ((k : Int) == 6) = false := by simpa using c6
  have d7 : ((k : Int) == 7) = false := by simpa using c7
  have d8 : ((k : Int) == 8) = false := by simpa using c8
  have d9 : ((k : Int) == 9) = false := by simpa using c9
  clear c1 c2 c3 c4 c5 c6 c7 c8 c9
  go_enter Try.func105, Try.ntmps105
  go_wp2_with (refine store_row Z.out [.int .i64 k, .int .i64 0, .int .i64 0, .int .i64 0, .int .i64 0, .int .i64 0, .int .i64 0, .string ⟨#[]⟩, .int .i64 0, .int .i64 0, .string ⟨#[]⟩, .slice none 0 0, .int .i64 0, .int .i64 0, .int .i64 0, .string ⟨#[]⟩, .int .i64 0, .int .i64 0, .int .i64 0] 94 (by kernel_rfl) rfl (by simp [Value.oneCell']) rfl rfl rfl rfl ?_; intro wz hz kz zz; clear x0; replace X := Lib.hid (X.out.chg kz q6); replace Y := Lib.hid (Y.out.chg kz (Ne.symm q7)); replace Z := Lib.hid hz; replace P := Lib.hid (BldX.Is.chg P.out kz (fun e => q5 (show b = _ from e)) (fun k hk e => Hn2.out (.inr ((show k = _ from e) ▸ hk)))); replace C := Lib.hid (C.out.trans (kz.mono (fun k _ e => (.inr ((show k = _ from e) ▸ Hf2.out) : BldX.Own F b k)))); clear hz kz zz; have x0 := X.out.cell (i := 0) rfl)
  clear x0
  generalize w.heap.size + 1 + 1 = s2 at *
  generalize w.heap.size + 1 = s1 at *
  generalize w.heap.size = s0 at *
  have E9 := Lib.hid (show ¬ k = 1 ∧ ¬ k = 2 ∧ ¬ k = 3 ∧ ¬ k = 4 ∧ ¬ k = 5 ∧ ¬ k = 6 ∧ ¬ k = 7 ∧ ¬ k = 8 ∧ ¬ k = 9 from by simp at d1 d2 d3 d4 d5 d6 d7 d8 d9; omega)
  refine (one_calls _ b (l) (bad) (k) _ P.out (by (try simp only [List.length_append, List.length_cons, List.length_nil, le_length]); omega)).mono ?_
  rintro e w1 ⟨rfl, hp, kc⟩
  replace X := Lib.hid (X.out.chg kc Hn0.out)
  replace Y := Lib.hid (Y.out.chg kc Hn1.out)
  replace Z := Lib.hid (Z.out.chg kc Hn2.out)
  replace C := Lib.hid (C.out.trans (kc.mono (fun k _ e => Hhm.out k e)))
  replace P := Lib.hid hp
  clear kc hp
  obtain ⟨p2, g2⟩ := Pen.flag P.out
  have ZT := Lib.hid (Z.out.set_ne ⟨b, 2, none⟩ (.bool true) q5)
  have YT := Lib.hid (Y.out.set_ne ⟨b, 2, none⟩ (.bool true) q4)
  have PT := Lib.hid (Pen.set P.out true).1
  have CT := Lib.hid (C.out.trans ((Pen.set P.out true).2.mono (fun k _ e => Hhm.out k e)))
  have x0 := X.out.cell (i := 0) rfl
  go_wp2_with (first | (refine load_row ZT.out 94 Try.underlying94 rfl (by kernel_rfl) rfl rfl rfl ?_) | (refine store_row YT.out [.int .i64 k, .int .i64 0, .int .i64 0, .int .i64 0, .int .i64 0, .int .i64 0, .int .i64 0, .string ⟨#[]⟩, .int .i64 0, .int .i64 0, .string ⟨#[]⟩, .slice none 0 0, .int .i64 0, .int .i64 0, .int .i64 0, .string ⟨#[]⟩, .int .i64 0, .int .i64 0, .int .i64 0] 94 (by kernel_rfl) rfl (by simp [Value.oneCell']) rfl rfl rfl rfl ?_; intro w90 hR hc hsz))
  have P9 := Lib.hid (BldX.Is.wider (BldX.Is.chg PT.out hc (fun e => q1 (show s1 = b from e.symm)) (fun k hk e => Hn1.out (.inr ((show k = s1 from e) ▸ hk)))) (fun k hk => hk.1) HB.out)
  have C9 := Lib.hid (CT.out.trans (hc.mono (fun k _ e => (.inr ((show k = s1 from e) ▸ Hf1.out) : BldX.Own F b k))))
  have R9 := Lib.hid hR
  clear hR hc hsz
  obtain ⟨e1, e2, e3, e4, e5, e6, e7, e8, e9⟩ := E9.out
  refine ret_row R9.out Try.results105 Try.underlying94 rfl (by kernel_rfl) rfl rfl ⟨?_, ?_, C9.out⟩
  · simp [Mv.told, Mv.only, Mv.cells, noV, noW, e1, e2, e3, e4, e8, e9]
  · have f1 : l ++ [oneB (k)] = l ++ Mv.bytes ⟨k, n, a, ⟨wk, wt, ⟨kk, kn, ks⟩, ⟨hk, hn, hs⟩, ra, rc, row, c, ⟨vk, vn, vs⟩, wn⟩, p, q⟩ := by simp [Mv.bytes, e1, e2, e3, e4, e8, e9]
    have f2 : true = (bad || Mv.bad ⟨k, n, a, ⟨wk, wt, ⟨kk, kn, ks⟩, ⟨hk, hn, hs⟩, ra, rc, row, c, ⟨vk, vn, vs⟩, wn⟩, p, q⟩) := by simp [Mv.bad, e1, e2, e3, e4, e5, e6, e7, e8, e9]
    rw [← f1, ← f2]
    exact P9.out
theorem move_calls (F : Nat → Prop) (b : Nat) (l : List UInt8) (bad : Bool) (x : Mv) (w : World) (h : Pen w F b l bad) (hV : Vs w x.w.ra x.w.row) (hN : ∀ ad, x.w.ra = some ad → x.w.row ≠ [] → ¬ BldX.Own F b ad.block) (hf : x.w.fits) (hl : l.length ≤ 70000000) (hr : x.w.row.length ≤ 1000) : MovePost F b l bad x w := by
  obtain ⟨k, n, a, ⟨wk, wt, ⟨kk, kn, ks⟩, ⟨hk, hn, hs⟩, ra, rc, row, c, ⟨vk, vn, vs⟩, wn⟩, p, q⟩ := x
  by_cases c1 : k = 1
  · subst c1
    by_cases c4 : a = 4
    · subst c4; exact move_14 F b l bad n wk wt kk kn ks hk hn hs ra rc row c vk vn vs wn p q w h hV hN hf hl hr
    · exact move_1 F b l bad n a c4 wk wt kk kn ks hk hn hs ra rc row c vk vn vs wn p q w h hV hN hf hl hr
  by_cases c2 : k = 2
  · subst c2; exact move_2 F b l bad n a wk wt kk kn ks hk hn hs ra rc row c vk vn vs wn p q w h hV hN hf hl hr
  by_cases c3 : k = 3
  · subst c3; exact move_3 F b l bad n a wk wt kk kn ks hk hn hs ra rc row c vk vn vs wn p q w h hV hN hf hl hr
  by_cases c4 : k = 4
  · subst c4; exact move_4 F b l bad n a wk wt kk kn ks hk hn hs ra rc row c vk vn vs wn p q w h hV hN hf hl hr
  by_cases c5 : k = 5
  · subst c5; exact move_5 F b l bad n a wk wt kk kn ks hk hn hs ra rc row c vk vn vs wn p q w h hV hN hf hl hr
  by_cases c6 : k = 6
  · subst c6; exact move_6 F b l bad n a wk wt kk kn ks hk hn hs ra rc row c vk vn vs wn p q w h hV hN hf hl hr
  by_cases c7 : k = 7
  · subst c7; exact move_7 F b l bad n a wk wt kk kn ks hk hn hs ra rc row c vk vn vs wn p q w h hV hN hf hl hr
  by_cases c8 : k = 8
  · subst c8; exact move_8 F b l bad n a wk wt kk kn ks hk hn hs ra rc row c vk vn vs wn p q w h hV hN hf hl hr
  by_cases c9 : k = 9
  · subst c9; exact move_9 F b l bad n a wk wt kk kn ks hk hn hs ra rc row c vk vn vs wn p q w h hV hN hf hl hr
  exact move_other F b l bad k c1 c2 c3 c4 c5 c6 c7 c8 c9 n a wk wt kk kn ks hk hn hs ra rc row c vk vn vs wn p q w h hV hN hf hl hr
end Go.Proofs.Ytcfjooeagfollaa.Bill
