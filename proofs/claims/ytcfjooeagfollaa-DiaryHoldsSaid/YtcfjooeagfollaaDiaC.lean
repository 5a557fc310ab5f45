/- slices.Clone of the lists of a record; diary.copied. -/
import Derived.Lib.SliceRun
import Derived.Test.YtcfjooeagfollaaNoteRead
import Derived.Test.YtcfjooeagfollaaRegApp
import Derived.Test.YtcfjooeagfollaaIMap
namespace Go.Proofs.Ytcfjooeagfollaa.Note
open Go.RowKit Go.Proofs.Ytcfjooeagfollaa.Mem Go.Proofs.Ytcfjooeagfollaa.Bytes
set_option linter.unusedSimpArgs false
set_option linter.unusedVariables false
set_option maxRecDepth 20000

/-- append of a row that lies somewhere onto an empty row of the call's own. -/
theorem appn_nil {P : Program} {ops : Array Oper} {rest : List Oper} {o : Oper} {a : Act} {Q : Exit → Act → World → Prop} {W0 : World} {base : Nat} {e : TypeId} {sz : Nat} {v : Value} {m c : Nat} {news : List Value}
    (hown : W0.ownsRow base e sz v 0 []) (hbase : base ≤ W0.heap.size) (t : TypeId) {z : Value} {bytes : Nat} (ht : P.underlying t = some (.slice e)) (hinfo : (P.info? e).map (fun i => (i.zero, i.size, i.bytes)) = some (some z, sz, bytes))
    (hzs : z.cells.size = sz) (hsz : 0 < sz) (hb0 : 0 < bytes) (hbytes : m * bytes ≤ 140737488355328) (hl : news.length = m * sz) (h1 : ∀ u ∈ news, u.oneCell' = true) {ad : Addr} (hnews : ∀ j u, news[j]? = some u → W0.cell? (ad.add j) = some u)
    (hgd : o.guard = none) {s x : Operand} (ho : o.op = .call { callee := .builtin .append, args := #[s, x], argTypes := #[t, t] }) (hs : a.eval s = v) (hx : a.eval x = .slice (some ad) m c)
    (h : ∀ v' w', w'.ownsRow base e sz v' m news → W0.grownBy w' v.ownBlock → wpList P ops Q rest (a.put o.dst v') w') :
    wpList P ops Q (o :: rest) a W0 := by
  obtain ⟨i0, hi, hzz⟩ := Option.map_eq_some_iff.1 hinfo
  simp only [Prod.mk.injEq] at hzz
  obtain ⟨hz0, hz1, hz2⟩ := hzz
  have hm : 0 + m ≤ maxLen := by
    have := Nat.le_trans (Nat.le_mul_of_pos_right m hb0) hbytes
    unfold maxLen
    omega
  refine wpList_append_own_at _ hgd s x t ho base e i0 z sz bytes ht hi hz0 hz1 hz2 hzs hsz v 0 [] hs hown ad m c news hx hl hnews h1 hm (by rw [Nat.zero_add]; exact hbytes) hbase ?_
  intro v' w' h2 h3 _ _
  rw [Nat.zero_add, List.nil_append] at h2
  exact h v' w' h2 h3
theorem pairs_flat {Y : Type} {g : Y → Value} {w : World} {ad : Addr} {n : Nat} {xs : List (Int × Y)} (h : Pairs g w (some ad) n xs) : (xs.flatMap fun x => [Value.int .i64 x.1, g x.2]).length = n * 2 ∧ ∀ j u, (xs.flatMap fun x => [Value.int .i64 x.1, g x.2])[j]? = some u → w.cell? (ad.add j) = some u := by
  obtain ⟨h1, h2, h3⟩ := h
  have hlen : ∀ ys : List (Int × Y), (ys.flatMap fun x => [Value.int .i64 x.1, g x.2]).length = ys.length * 2 := by
    intro ys
    induction ys with
    | nil => rfl
    | cons y ys ih => rw [List.flatMap_cons, List.length_append, ih]; simp; omega
  refine ⟨by rw [hlen, h1], fun j u hu => ?_⟩
  have key : ∀ (ys : List (Int × Y)) (i : Nat) (x : Int × Y), ys[i]? = some x → (ys.flatMap fun x => [Value.int .i64 x.1, g x.2])[i * 2]? = some (.int .i64 x.1) ∧ (ys.flatMap fun x => [Value.int .i64 x.1, g x.2])[i * 2 + 1]? = some (g x.2) := by
    intro ys
    induction ys with
    | nil => intro i x hx; simp at hx
    | cons y ys ih =>
      intro i x hx
      cases i with
      | zero => simp at hx; subst hx; simp
      | succ i =>
        have := ih i x (by simpa using hx)
        rw [List.flatMap_cons, show (i + 1) * 2 = i * 2 + 2 by omega, show i * 2 + 2 + 1 = (i * 2 + 1) + 2 by omega]
        simpa using this
  have hj : j < xs.length * 2 := by
    obtain ⟨hj, _⟩ := List.getElem?_eq_some_iff.1 hu
    rw [hlen] at hj
    exact hj
  obtain ⟨i, hi⟩ : ∃ i, j = i * 2 ∨ j = i * 2 + 1 := ⟨j / 2, by omega⟩
  have hil : i < xs.length := by omega
  obtain ⟨ad', e, c0, c1⟩ := h3 i xs[i] (List.getElem?_eq_getElem hil)
  cases e
  have hk := key xs i xs[i] (List.getElem?_eq_getElem hil)
  rcases hi with rfl | rfl
  · rw [hk.1] at hu
    cases hu
    exact c0
  · rw [hk.2] at hu
    cases hu
    rw [← c1]
    congr 1
    unfold Addr.add
    split <;> split <;> simp_all <;> omega
/-- A list that was made anew. -/
def NewPairs {Y : Type} (g : Y → Value) (B n : Nat) (xs : List (Int × Y)) (e : Ending) (w' : World) : Prop := ∃ a c, e = .returned (.slice a n c) ∧ Pairs g w' a n xs ∧ n ≤ c ∧ ∀ ad, a = some ad → B ≤ ad.block
theorem one_pairs {Y : Type} {g : Y → Value} (hg : ∀ y, (g y).oneCell' = true) (xs : List (Int × Y)) : ∀ u ∈ (xs.flatMap fun x => [Value.int .i64 x.1, g x.2]), u.oneCell' = true := by
  intro u hu
  obtain ⟨x, _, hx⟩ := List.mem_flatMap.1 hu
  simp at hx
  rcases hx with rfl | rfl
  · simp [Value.oneCell']
  · exact hg _
set_option maxHeartbeats 1000000 in
theorem clone_image (a : Option Addr) (n c : Nat) (xs : List (Int × ByteArray)) (w : World) (h : Pairs Value.string w a n xs) (hn : n ≤ 1000000) :
    Calls Try.prog 136 #[.slice a n c] w fun e w' => NewPairs Value.string w.heap.size n xs e w' ∧ Below w.heap.size w w' := by
  cases a with
  | none =>
    obtain rfl : n = 0 := by
      rcases Nat.eq_zero_or_pos n with e | e
      · exact e
      · obtain ⟨ad, he, _⟩ := h.2.2 0 (xs[0]'(by have := h.1; omega)) (List.getElem?_eq_getElem (by have := h.1; omega))
        cases he
    have H := Lib.hid h
    clear h
    have q := fun wx => Lib.run_eql_slice_nil (P := Try.prog) wx 52 161 none 0 c 0 0 Try.underlying52
    go_enter Try.func136, Try.ntmps136
    go_wp2_with fail
    go_ret
    exact ⟨⟨none, 0, rfl, H.out, Nat.le_refl _, fun ad e => by cases e⟩, Below.refl _ _⟩
  | some ad =>
    obtain ⟨f1, f2⟩ := pairs_flat h
    have hl := World.ownsRow_lit (e := 161) (size := 2) w #[] 0 (Nat.le_refl w.heap.size) (by unfold maxLen; omega) rfl
    have hb := (Below.refl w.heap.size w).alloc (Nat.le_refl _) (.cells #[] 161)
    obtain ⟨_, fz⟩ := pairs_flat (h.keep hb)
    have hx := h.1
    have hm := h.2.1
    have HL := Lib.hid hl
    have FZ := Lib.hid fz
    have F1 := Lib.hid f1
    have HX := Lib.hid hx
    have B := Lib.hid hb
    clear h f1 f2 fz hl hb hx
    have q := fun wx => Lib.run_eql_slice_nil (P := Try.prog) wx 52 161 (some ad) n c 0 0 Try.underlying52
    go_enter Try.func136, Try.ntmps136
    go_wp2_with (refine appn_nil (m := n) (news := xs.flatMap fun x => [Value.int .i64 x.1, Value.string x.2]) HL.out B.out.size 52 Try.underlying52 info_image rfl (by decide) (by decide) (by omega) F1.out (one_pairs (fun y => by simp [Value.oneCell']) xs) FZ.out rfl rfl rfl rfl ?_; intro v' w1 O1 G1; have O := Lib.hid O1; have B1 := Lib.hid (B.out.grown G1 B.out.size (fun k hk => (HL.out.lt k hk).1)); clear O1 G1)
    obtain ⟨a', c', rfl, hc, _⟩ := Reel.own_shape O.out
    obtain ⟨a2, c2, he, hp, ha⟩ := pairs_of_own O.out HX.out.symm hm
    cases he
    have HP := Lib.hid hp
    clear hp
    go_wp2_with fail
    go_ret
    exact ⟨⟨_, _, rfl, HP.out, hc, ha⟩, B1.out⟩
set_option maxHeartbeats 1000000 in
theorem clone_open (a : Option Addr) (n c : Nat) (xs : List (Int × Int)) (w : World) (h : Pairs (Value.int .i64) w a n xs) (hn : n ≤ 1000000) :
    Calls Try.prog 137 #[.slice a n c] w fun e w' => NewPairs (Value.int .i64) w.heap.size n xs e w' ∧ Below w.heap.size w w' := by
  cases a with
  | none =>
    obtain rfl : n = 0 := by
      rcases Nat.eq_zero_or_pos n with e | e
      · exact e
      · obtain ⟨ad, he, _⟩ := h.2.2 0 (xs[0]'(by have := h.1; omega)) (List.getElem?_eq_getElem (by have := h.1; omega))
        cases he
    have H := Lib.hid h
    clear h
    have q := fun wx => Lib.run_eql_slice_nil (P := Try.prog) wx 55 163 none 0 c 0 0 Try.underlying55
    go_enter Try.func137, Try.ntmps137
    go_wp2_with fail
    go_ret
    exact ⟨⟨none, 0, rfl, H.out, Nat.le_refl _, fun ad e => by cases e⟩, Below.refl _ _⟩
  | some ad =>
    obtain ⟨f1, f2⟩ := pairs_flat h
    have hl := World.ownsRow_lit (e := 163) (size := 2) w #[] 0 (Nat.le_refl w.heap.size) (by unfold maxLen; omega) rfl
    have hb := (Below.refl w.heap.size w).alloc (Nat.le_refl _) (.cells #[] 163)
    obtain ⟨_, fz⟩ := pairs_flat (h.keep hb)
    have hx := h.1
    have hm := h.2.1
    have HL := Lib.hid hl
    have FZ := Lib.hid fz
    have F1 := Lib.hid f1
    have HX := Lib.hid hx
    have B := Lib.hid hb
    clear h f1 f2 fz hl hb hx
    have q := fun wx => Lib.run_eql_slice_nil (P := Try.prog) wx 55 163 (some ad) n c 0 0 Try.underlying55
    go_enter Try.func137, Try.ntmps137
    go_wp2_with (refine appn_nil (m := n) (news := xs.flatMap fun x => [Value.int .i64 x.1, (Value.int .i64) x.2]) HL.out B.out.size 55 Try.underlying55 info_open rfl (by decide) (by decide) (by omega) F1.out (one_pairs (fun y => by simp [Value.oneCell']) xs) FZ.out rfl rfl rfl rfl ?_; intro v' w1 O1 G1; have O := Lib.hid O1; have B1 := Lib.hid (B.out.grown G1 B.out.size (fun k hk => (HL.out.lt k hk).1)); clear O1 G1)
    obtain ⟨a', c', rfl, hc, _⟩ := Reel.own_shape O.out
    obtain ⟨a2, c2, he, hp, ha⟩ := pairs_of_own O.out HX.out.symm hm
    cases he
    have HP := Lib.hid hp
    clear hp
    go_wp2_with fail
    go_ret
    exact ⟨⟨_, _, rfl, HP.out, hc, ha⟩, B1.out⟩
set_option maxHeartbeats 1000000 in
theorem clone_dirty (a : Option Addr) (n c : Nat) (xs : List (Int × Int)) (w : World) (h : Pairs (Value.int .i64) w a n xs) (hn : n ≤ 1000000) :
    Calls Try.prog 138 #[.slice a n c] w fun e w' => NewPairs (Value.int .i64) w.heap.size n xs e w' ∧ Below w.heap.size w w' := by
  cases a with
  | none =>
    obtain rfl : n = 0 := by
      rcases Nat.eq_zero_or_pos n with e | e
      · exact e
      · obtain ⟨ad, he, _⟩ := h.2.2 0 (xs[0]'(by have := h.1; omega)) (List.getElem?_eq_getElem (by have := h.1; omega))
        cases he
    have H := Lib.hid h
    clear h
    have q := fun wx => Lib.run_eql_slice_nil (P := Try.prog) wx 56 165 none 0 c 0 0 Try.underlying56
    go_enter Try.func138, Try.ntmps138
    go_wp2_with fail
    go_ret
    exact ⟨⟨none, 0, rfl, H.out, Nat.le_refl _, fun ad e => by cases e⟩, Below.refl _ _⟩
  | some ad =>
    obtain ⟨f1, f2⟩ := pairs_flat h
    have hl := World.ownsRow_lit (e := 165) (size := 2) w #[] 0 (Nat.le_refl w.heap.size) (by unfold maxLen; omega) rfl
    have hb := (Below.refl w.heap.size w).alloc (Nat.le_refl _) (.cells #[] 165)
    obtain ⟨_, fz⟩ := pairs_flat (h.keep hb)
    have hx := h.1
    have hm := h.2.1
    have HL := Lib.hid hl
    have FZ := Lib.hid fz
    have F1 := Lib.hid f1
    have HX := Lib.hid hx
    have B := Lib.hid hb
    clear h f1 f2 fz hl hb hx
    have q := fun wx => Lib.run_eql_slice_nil (P := Try.prog) wx 56 165 (some ad) n c 0 0 Try.underlying56
    go_enter Try.func138, Try.ntmps138
    go_wp2_with (refine appn_nil (m := n) (news := xs.flatMap fun x => [Value.int .i64 x.1, (Value.int .i64) x.2]) HL.out B.out.size 56 Try.underlying56 info_dirty rfl (by decide) (by decide) (by omega) F1.out (one_pairs (fun y => by simp [Value.oneCell']) xs) FZ.out rfl rfl rfl rfl ?_; intro v' w1 O1 G1; have O := Lib.hid O1; have B1 := Lib.hid (B.out.grown G1 B.out.size (fun k hk => (HL.out.lt k hk).1)); clear O1 G1)
    obtain ⟨a', c', rfl, hc, _⟩ := Reel.own_shape O.out
    obtain ⟨a2, c2, he, hp, ha⟩ := pairs_of_own O.out HX.out.symm hm
    cases he
    have HP := Lib.hid hp
    clear hp
    go_wp2_with fail
    go_ret
    exact ⟨⟨_, _, rfl, HP.out, hc, ha⟩, B1.out⟩
theorem pairs_chg {Y : Type} {g : Y → Value} {S : Nat → Prop} {w w' : World} {a : Option Addr} {n : Nat} {xs : List (Int × Y)} (h : Pairs g w a n xs) (hc : Chg S w w') (hn : ∀ ad, a = some ad → ¬ S ad.block) : Pairs g w' a n xs := by
  refine ⟨h.1, h.2.1, fun i x hx => ?_⟩
  obtain ⟨ad, rfl, h0, h1⟩ := h.2.2 i x hx
  have key : ∀ (p : Addr) (u : Value), p.block = ad.block → w.cell? p = some u → w'.cell? p = some u := fun p u hp hu => by
    have hl := World.block_lt_of_cell? w _ hu
    have e1 := hc.block p.block hl (by rw [hp]; exact hn ad rfl)
    rw [← hu]
    unfold World.cell?
    rw [e1]
  have hb : (ad.add (i * 2)).block = ad.block := by unfold Addr.add; split <;> rfl
  exact ⟨ad, rfl, key _ _ hb h0, key _ _ hb h1⟩
def CopPost (B : Nat) (r : Rec) (e : Ending) (w' : World) : Prop := ∃ v, e = .returned v ∧ NewRec B w' v r
def Rec.small (r : Rec) : Prop := r.pages.length ≤ 1000000 ∧ r.opens.length ≤ 1000000 ∧ r.dirts.length ≤ 1000000 ∧ r.key.size ≤ 1000000 ∧ r.val.size ≤ 1000000
set_option maxHeartbeats 4000000 in
theorem copied_calls (v : Value) (r : Rec) (w : World) (h : HasRec w v r) (hs : r.small) : Calls Try.prog 86 #[v] w fun e w' => CopPost w.heap.size r e w' ∧ Below w.heap.size w w' := by
  obtain ⟨a0, n0, c0, a1, n1, c1, a2, n2, c2, rfl, p0, p1, p2, z0, z1, z2⟩ := h
  obtain ⟨s0, s1, s2, _⟩ := hs
  rw [p0.1] at s0
  rw [p1.1] at s1
  rw [p2.1] at s2
  obtain ⟨kd, de, pv, nx, uk, ut, ky, vl, ps, os, ds⟩ := r
  simp only at p0 p1 p2
  show Calls Try.prog 86 #[.agg #[.int .i64 kd, .int .i64 de, .int .i64 pv, .int .i64 nx, .slice a0 n0 c0, .int .i64 uk, .int .i64 ut, .string ky, .string vl, .slice a1 n1 c1, .slice a2 n2 c2]] w _
  have X := Lib.hid (((Row.new w 58 [.int .i64 kd, .int .i64 de, .int .i64 pv, .int .i64 nx, .slice a0 n0 c0, .int .i64 uk, .int .i64 ut, .string ky, .string vl, .slice a1 n1 c1, .slice a2 n2 c2]).alloc (.cells #[.int .i64 0, .int .i64 0, .int .i64 0, .int .i64 0, .slice none 0 0, .int .i64 0, .int .i64 0, .string ⟨#[]⟩, .string ⟨#[]⟩, .slice none 0 0, .slice none 0 0] 58)).drew)
  have Y := Lib.hid ((show Row ((w.alloc (.cells #[.int .i64 kd, .int .i64 de, .int .i64 pv, .int .i64 nx, .slice a0 n0 c0, .int .i64 uk, .int .i64 ut, .string ky, .string vl, .slice a1 n1 c1, .slice a2 n2 c2] 58)).alloc (.cells #[.int .i64 0, .int .i64 0, .int .i64 0, .int .i64 0, .slice none 0 0, .int .i64 0, .int .i64 0, .string ⟨#[]⟩, .string ⟨#[]⟩, .slice none 0 0, .slice none 0 0] 58)) (w.heap.size + 1) 58 [.int .i64 0, .int .i64 0, .int .i64 0, .int .i64 0, .slice none 0 0, .int .i64 0, .int .i64 0, .string ⟨#[]⟩, .string ⟨#[]⟩, .slice none 0 0, .slice none 0 0] from new_at (by simp)).drew)
  have B := Lib.hid ((((Below.refl w.heap.size w).alloc (Nat.le_refl _) (.cells #[.int .i64 kd, .int .i64 de, .int .i64 pv, .int .i64 nx, .slice a0 n0 c0, .int .i64 uk, .int .i64 ut, .string ky, .string vl, .slice a1 n1 c1, .slice a2 n2 c2] 58)).alloc (by simp) (.cells #[.int .i64 0, .int .i64 0, .int .i64 0, .int .i64 0, .slice none 0 0, .int .i64 0, .int .i64 0, .string ⟨#[]⟩, .string ⟨#[]⟩, .slice none 0 0, .slice none 0 0] 58)).drew)
  have P0 := Lib.hid p0
  have P1 := Lib.hid p1
  have P2 := Lib.hid p2
  clear p0 p1 p2
  go_enter Try.func86, Try.ntmps86
  go_wp2_with fail
  have hne : w.heap.size ≠ w.heap.size + 1 := by omega
  generalize hg : w.heap.size + 1 = g at *
  have HG := Lib.hid hg
  clear hg
  refine Reg.start (fun w' => w'.cell? ⟨w.heap.size, 4, none⟩ = some (.slice a0 n0 c0) ∧ w'.cell? ⟨w.heap.size, 9, none⟩ = some (.slice a1 n1 c1) ∧ w'.cell? ⟨w.heap.size, 10, none⟩ = some (.slice a2 n2 c2)) (fun i => i == 10 || i == 11 || i == 12 || i == 13 || i == 14) (by kernel_rfl) ⟨X.out.cell rfl, X.out.cell rfl, X.out.cell rfl⟩ (fun hHeld => ?_)
  generalize ((w.alloc (.cells #[.int .i64 kd, .int .i64 de, .int .i64 pv, .int .i64 nx, .slice a0 n0 c0, .int .i64 uk, .int .i64 ut, .string ky, .string vl, .slice a1 n1 c1, .slice a2 n2 c2] 58)).alloc (.cells #[.int .i64 0, .int .i64 0, .int .i64 0, .int .i64 0, .slice none 0 0, .int .i64 0, .int .i64 0, .string ⟨#[]⟩, .string ⟨#[]⟩, .slice none 0 0, .slice none 0 0] 58)).drew = wd at *
  refine Reg.takeI 0 (v := ?_) rfl (by kernel_rfl) (by kernel_rfl) (by kernel_rfl) (by kernel_rfl) (fun _ _ _ h => h) (by rfl) ?_ hHeld ?_
  rotate_left 1
  · (intro w hSw; (try dsimp only at hSw); go_simp; try with_reducible rfl)
  try simp only [Act.put, List.setIfInBounds_toArray, List.set_cons_zero, List.set_cons_succ]
  refine Reg.takeI 1 (v := ?_) rfl (by kernel_rfl) (by kernel_rfl) (by kernel_rfl) (by kernel_rfl) (fun _ _ _ h => h) (by rfl) ?_ hHeld ?_
  rotate_left 1
  · (intro w hSw; (try dsimp only at hSw); go_simp; try with_reducible rfl)
  try simp only [Act.put, List.setIfInBounds_toArray, List.set_cons_zero, List.set_cons_succ]
  refine Reg.takeI 3 (v := ?_) rfl (by kernel_rfl) (by kernel_rfl) (by kernel_rfl) (by kernel_rfl) (fun _ _ _ h => h) (by rfl) ?_ hHeld ?_
  rotate_left 1
  · (intro w hSw; (try dsimp only at hSw); go_simp; try with_reducible rfl)
  try simp only [Act.put, List.setIfInBounds_toArray, List.set_cons_zero, List.set_cons_succ]
  refine Reg.takeI 4 (v := ?_) rfl (by kernel_rfl) (by kernel_rfl) (by kernel_rfl) (by kernel_rfl) (fun _ _ _ h => h) (by rfl) ?_ hHeld ?_
  rotate_left 1
  · (intro w hSw; (try dsimp only at hSw); go_simp; try with_reducible rfl)
  try simp only [Act.put, List.setIfInBounds_toArray, List.set_cons_zero, List.set_cons_succ]
  refine Reg.takeI 6 (v := ?_) rfl (by kernel_rfl) (by kernel_rfl) (by kernel_rfl) (by kernel_rfl) (fun _ _ _ h => h) (by rfl) ?_ hHeld ?_
  rotate_left 1
  · (intro w hSw; (try dsimp only at hSw); go_simp; try with_reducible rfl)
  try simp only [Act.put, List.setIfInBounds_toArray, List.set_cons_zero, List.set_cons_succ]
  refine Reg.takeI 7 (v := ?_) rfl (by kernel_rfl) (by kernel_rfl) (by kernel_rfl) (by kernel_rfl) (fun _ _ _ h => h) (by rfl) ?_ hHeld ?_
  rotate_left 1
  · (intro w hSw; (try dsimp only at hSw); go_simp; try with_reducible rfl)
  try simp only [Act.put, List.setIfInBounds_toArray, List.set_cons_zero, List.set_cons_succ]
  refine Reg.oneI 2 rfl (by kernel_rfl) (by rfl) (fun K hK => ?_)
  go_simp
  go_at_call 136
  refine (clone_image a0 n0 c0 _ _ (P0.out.keep B.out) (by omega)).mono ?_
  rintro e w2 ⟨⟨b0, d0, rfl, hp, hc, ha⟩, kc⟩
  have SZ0 := Lib.hid Y.out.lt
  replace X := Lib.hid (X.out.below kc X.out.lt)
  replace Y := Lib.hid (Y.out.below kc Y.out.lt)
  replace B := Lib.hid (B.out.trans (kc.mono B.out.size))
  have H0 := Lib.hid hp
  have C0 := Lib.hid hc
  have A0 := Lib.hid (fun ad (e : b0 = some ad) => Nat.lt_of_lt_of_le SZ0.out (ha ad e) : ∀ ad, b0 = some ad → g < ad.block)
  clear hp hc ha kc SZ0
  go_wp2_with fail
  refine hK.out _ _ (fun _ => ⟨X.out.cell rfl, X.out.cell rfl, X.out.cell rfl⟩) (fun hHeld => ?_)
  replace hHeld := hHeld (by first | rfl | trivial)
  clear hK K
  try simp only [Act.put, List.setIfInBounds_toArray, List.set_cons_zero, List.set_cons_succ]
  refine Reg.takeI 9 (v := ?_) rfl (by kernel_rfl) (by kernel_rfl) (by kernel_rfl) (by kernel_rfl) (fun _ _ _ h => h) (by rfl) ?_ hHeld ?_
  rotate_left 1
  · (intro w hSw; (try dsimp only at hSw); go_simp; try with_reducible rfl)
  try simp only [Act.put, List.setIfInBounds_toArray, List.set_cons_zero, List.set_cons_succ]
  refine Reg.oneI 5 rfl (by kernel_rfl) (by rfl) (fun K hK => ?_)
  go_simp
  go_at_call 137
  refine (clone_open a1 n1 c1 _ _ (P1.out.keep B.out) (by omega)).mono ?_
  rintro e w5 ⟨⟨b1, d1, rfl, hp, hc, ha⟩, kc⟩
  have SZ1 := Lib.hid Y.out.lt
  replace X := Lib.hid (X.out.below kc X.out.lt)
  replace Y := Lib.hid (Y.out.below kc Y.out.lt)
  replace B := Lib.hid (B.out.trans (kc.mono B.out.size))
  replace H0 := Lib.hid (H0.out.keep kc)
  have H1 := Lib.hid hp
  have C1 := Lib.hid hc
  have A1 := Lib.hid (fun ad (e : b1 = some ad) => Nat.lt_of_lt_of_le SZ1.out (ha ad e) : ∀ ad, b1 = some ad → g < ad.block)
  clear hp hc ha kc SZ1
  go_wp2_with fail
  refine hK.out _ _ (fun _ => ⟨X.out.cell rfl, X.out.cell rfl, X.out.cell rfl⟩) (fun hHeld => ?_)
  replace hHeld := hHeld (by first | rfl | trivial)
  clear hK K
  try simp only [Act.put, List.setIfInBounds_toArray, List.set_cons_zero, List.set_cons_succ]
  refine Reg.oneI 8 rfl (by kernel_rfl) (by rfl) (fun K hK => ?_)
  go_simp
  go_at_call 138
  refine (clone_dirty a2 n2 c2 _ _ (P2.out.keep B.out) (by omega)).mono ?_
  rintro e w8 ⟨⟨b2, d2, rfl, hp, hc, ha⟩, kc⟩
  have SZ2 := Lib.hid Y.out.lt
  replace X := Lib.hid (X.out.below kc X.out.lt)
  replace Y := Lib.hid (Y.out.below kc Y.out.lt)
  replace B := Lib.hid (B.out.trans (kc.mono B.out.size))
  replace H0 := Lib.hid (H0.out.keep kc)
  replace H1 := Lib.hid (H1.out.keep kc)
  have H2 := Lib.hid hp
  have C2 := Lib.hid hc
  have A2 := Lib.hid (fun ad (e : b2 = some ad) => Nat.lt_of_lt_of_le SZ2.out (ha ad e) : ∀ ad, b2 = some ad → g < ad.block)
  clear hp hc ha kc SZ2
  have x4 := X.out.cell (i := 4) rfl
  have g4 := X.out.frozen 4 (by simp)
  have x9 := X.out.cell (i := 9) rfl
  have g9 := X.out.frozen 9 (by simp)
  have x10 := X.out.cell (i := 10) rfl
  have g10 := X.out.frozen 10 (by simp)
  go_wp2_with fail
  refine hK.out _ _ (fun _ => ⟨X.out.cell rfl, X.out.cell rfl, X.out.cell rfl⟩) (fun hHeld => ?_)
  replace hHeld := hHeld (by first | rfl | trivial)
  clear hK K
  try simp only [Act.put, List.setIfInBounds_toArray, List.set_cons_zero, List.set_cons_succ]
  refine Reg.oneI 10 rfl (by kernel_rfl) (by rfl) (fun K hK => ?_)
  go_simp
  refine hK.out _ _ (fun h => by cases h) (fun _ => ?_)
  clear hK K
  try simp only [Act.put, List.setIfInBounds_toArray, List.set_cons_zero, List.set_cons_succ]
  refine Reg.oneI 11 rfl (by kernel_rfl) (by rfl) (fun K hK => ?_)
  go_simp
  refine hK.out _ _ (fun h => by cases h) (fun _ => ?_)
  clear hK K
  try simp only [Act.put, List.setIfInBounds_toArray, List.set_cons_zero, List.set_cons_succ]
  refine Reg.oneI 12 rfl (by kernel_rfl) (by rfl) (fun K hK => ?_)
  go_simp
  refine hK.out _ _ (fun h => by cases h) (fun _ => ?_)
  clear hK K
  try simp only [Act.put, List.setIfInBounds_toArray, List.set_cons_zero, List.set_cons_succ]
  refine Reg.oneI 13 rfl (by kernel_rfl) (by rfl) (fun K hK => ?_)
  go_simp
  refine hK.out _ _ (fun h => by cases h) (fun _ => ?_)
  clear hK K
  try simp only [Act.put, List.setIfInBounds_toArray, List.set_cons_zero, List.set_cons_succ]
  refine Reg.oneI 14 rfl (by kernel_rfl) (by rfl) (fun K hK => ?_)
  go_simp
  refine hK.out _ _ (fun h => by cases h) (fun _ => ?_)
  clear hK K
  try simp only [Act.put, List.setIfInBounds_toArray, List.set_cons_zero, List.set_cons_succ]
  refine Reg.doneI (by kernel_rfl) ?_
  have X3 := Lib.hid ((((X.out.set 4 (.slice b0 n0 d0)).set 9 (.slice b1 n1 d1)).set 10 (.slice b2 n2 d2)).cast (cs' := [.int .i64 kd, .int .i64 de, .int .i64 pv, .int .i64 nx, .slice b0 n0 d0, .int .i64 uk, .int .i64 ut, .string ky, .string vl, .slice b1 n1 d1, .slice b2 n2 d2]) rfl)
  have Y3 := Lib.hid (((Y.out.set_ne ⟨w.heap.size, 4, none⟩ (.slice b0 n0 d0) hne).set_ne ⟨w.heap.size, 9, none⟩ (.slice b1 n1 d1) hne).set_ne ⟨w.heap.size, 10, none⟩ (.slice b2 n2 d2) hne)
  have B3 := Lib.hid (((B.out.setCell (p := ⟨w.heap.size, 4, none⟩) (Nat.le_refl _) (.slice b0 n0 d0)).setCell (p := ⟨w.heap.size, 9, none⟩) (Nat.le_refl _) (.slice b1 n1 d1)).setCell (p := ⟨w.heap.size, 10, none⟩) (Nat.le_refl _) (.slice b2 n2 d2))
  clear x4 g4 x9 g9 x10 g10
  have KX := Lib.hid ((((Chg.refl (One w.heap.size) w8).put 4 (.slice b0 n0 d0)).put 9 (.slice b1 n1 d1)).put 10 (.slice b2 n2 d2))
  replace H0 := Lib.hid (pairs_chg H0.out KX.out (fun ad e x => by have := A0.out ad e; have := HG.out; have x : ad.block = w.heap.size := x; omega))
  replace H1 := Lib.hid (pairs_chg H1.out KX.out (fun ad e x => by have := A1.out ad e; have := HG.out; have x : ad.block = w.heap.size := x; omega))
  replace H2 := Lib.hid (pairs_chg H2.out KX.out (fun ad e x => by have := A2.out ad e; have := HG.out; have x : ad.block = w.heap.size := x; omega))
  clear KX X Y B
  go_wp2_with (first | (refine load_row X3.out 58 Try.underlying58 rfl (by kernel_rfl) rfl rfl rfl ?_) | (refine store_row Y3.out [.int .i64 kd, .int .i64 de, .int .i64 pv, .int .i64 nx, .slice b0 n0 d0, .int .i64 uk, .int .i64 ut, .string ky, .string vl, .slice b1 n1 d1, .slice b2 n2 d2] 58 (by kernel_rfl) rfl (by simp [Value.oneCell']) rfl rfl rfl rfl ?_; intro w90 hR kc hz))
  replace H0 := Lib.hid (pairs_chg H0.out kc (fun ad e x => by have := A0.out ad e; have x : ad.block = g := x; omega))
  replace H1 := Lib.hid (pairs_chg H1.out kc (fun ad e x => by have := A1.out ad e; have x : ad.block = g := x; omega))
  replace H2 := Lib.hid (pairs_chg H2.out kc (fun ad e x => by have := A2.out ad e; have x : ad.block = g := x; omega))
  have B9 := Lib.hid (B3.out.trans (kc.below (B := w.heap.size) B3.out.size (fun i e => by have e : i = g := e; have := HG.out; omega)))
  have R9 := Lib.hid hR
  clear hR kc hz
  exact ret_row R9.out Try.results86 Try.underlying58 rfl (by kernel_rfl) rfl rfl ⟨⟨_, rfl, b0, n0, d0, b1, n1, d1, b2, n2, d2, rfl, ⟨H0.out, H1.out, H2.out⟩, ⟨C0.out, C1.out, C2.out⟩, fun ad e => by have := A0.out ad e; have := HG.out; omega, fun ad e => by have := A1.out ad e; have := HG.out; omega, fun ad e => by have := A2.out ad e; have := HG.out; omega⟩, B9.out⟩
end Go.Proofs.Ytcfjooeagfollaa.Note
