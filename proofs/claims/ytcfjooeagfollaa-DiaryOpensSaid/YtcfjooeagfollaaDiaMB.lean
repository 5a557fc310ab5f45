/- Merged by merge.py out of DiaC, DiaS, DiaL, DiaF, DiaO, DiaA, DiaN, DiaW. -/
import Derived.Lib.SliceRun
import Derived.Test.YtcfjooeagfollaaNoteRead
import Derived.Test.YtcfjooeagfollaaDiaMA
import Derived.Great.BuildSlice
import Derived.Test.YtcfjooeagfollaaReel
import Derived.Deep.QuietTactic
import Derived.BigQuiet
import Derived.IntWalk
/- slices.Clone of the lists of a record; diary.copied. -/
namespace Go.Proofs.Ytcfjooeagfollaa.Note
open Go.RowKit Go.Proofs.Ytcfjooeagfollaa.Mem Go.Proofs.Ytcfjooeagfollaa.Bytes
set_option linter.unusedSimpArgs false
set_option linter.unusedVariables false
set_option maxRecDepth 20000

/-- append of a row that lies somewhere onto an empty row of the call's own. -/
theorem appn_nil {P : Program} {ops : Array Oper} {rest : List Oper} {o : Oper} {a : Act} {Q : Exit → Act → World → Prop} {W0 : World} {base : Nat} {e : TypeId} {sz : Nat} {v : Value} {m c : Nat} {news : List Value}
    (hown : W0.ownsRow base e sz v 0 []) (hbase : base ≤ W0.heap.size) (t : TypeId) {z : Value} {bytes : Nat} (ht : P.underlying t = some (.slice e)) (hinfo : (P.info? e).map (fun i => (i.zero, i.size, i.bytes)) = some (some z, sz, bytes))
    (hzs : z.cells.size = sz) (hsz : 0 < sz) (hb0 : 0 < bytes) (hbytes : m * bytes ≤ 140737488355328) (hl : news.length = m * sz) (h1 : ∀ u ∈ news, u.oneCell' = true) {ad : Addr} (hnews : ∀ j u, news[j]? = some u → W0.cell? (ad.add j) = some u)
    (hgd : o.guard = none) {s x : Operand} (ho : o.op = .call { callee := .builtin .append, args := #[s, x], argTypes := #[t, t] }) (hs : a.eval s = v) (hx : a.eval x = .slice (some ad) m c)
    (h : ∀ v' w', w'.ownsRow base e sz v' m news → W0.grownBy w' v.ownBlock → wpList P ops Q rest (a.put o.dst v') w') :
    wpList P ops Q (o :: rest) a W0 := by
  obtain ⟨i0, hi, hzz⟩ := Option.map_eq_some_iff.1 hinfo
  simp only [Prod.mk.injEq] at hzz
  obtain ⟨hz0, hz1, hz2⟩ := hzz
  have hm : 0 + m ≤ maxLen := by
    have := Nat.le_trans (Nat.le_mul_of_pos_right m hb0) hbytes
    unfold maxLen
    omega
  refine wpList_append_own_at _ hgd s x t ho base e i0 z sz bytes ht hi hz0 hz1 hz2 hzs hsz v 0 [] hs hown ad m c news hx hl hnews h1 hm (by rw [Nat.zero_add]; exact hbytes) hbase ?_
  intro v' w' h2 h3 _ _
  rw [Nat.zero_add, List.nil_append] at h2
  exact h v' w' h2 h3
theorem pairs_flat {Y : Type} {g : Y → Value} {w : World} {ad : Addr} {n : Nat} {xs : List (Int × Y)} (h : Pairs g w (some ad) n xs) : (xs.flatMap fun x => [Value.int .i64 x.1, g x.2]).length = n * 2 ∧ ∀ j u, (xs.flatMap fun x => [Value.int .i64 x.1, g x.2])[j]? = some u → w.cell? (ad.add j) = some u := by
  obtain ⟨h1, h2, h3⟩ := h
  have hlen : ∀ ys : List (Int × Y), (ys.flatMap fun x => [Value.int .i64 x.1, g x.2]).length = ys.length * 2 := by
    intro ys
    induction ys with
    | nil => rfl
    | cons y ys ih => rw [List.flatMap_cons, List.length_append, ih]; simp; omega
  refine ⟨by rw [hlen, h1], fun j u hu => ?_⟩
  have key : ∀ (ys : List (Int × Y)) (i : Nat) (x : Int × Y), ys[i]? = some x → (ys.flatMap fun x => [Value.int .i64 x.1, g x.2])[i * 2]? = some (.int .i64 x.1) ∧ (ys.flatMap fun x => [Value.int .i64 x.1, g x.2])[i * 2 + 1]? = some (g x.2) := by
    intro ys
    induction ys with
    | nil => intro i x hx; simp at hx
    | cons y ys ih =>
      intro i x hx
      cases i with
      | zero => simp at hx; subst hx; simp
      | succ i =>
        have := ih i x (by simpa using hx)
        rw [List.flatMap_cons, show (i + 1) * 2 = i * 2 + 2 by omega, show i * 2 + 2 + 1 = (i * 2 + 1) + 2 by omega]
        simpa using this
  have hj : j < xs.length * 2 := by
    obtain ⟨hj, _⟩ := List.getElem?_eq_some_iff.1 hu
    rw [hlen] at hj
    exact hj
  obtain ⟨i, hi⟩ : ∃ i, j = i * 2 ∨ j = i * 2 + 1 := ⟨j / 2, by omega⟩
  have hil : i < xs.length := by omega
  obtain ⟨ad', e, c0, c1⟩ := h3 i xs[i] (List.getElem?_eq_getElem hil)
  cases e
  have hk := key xs i xs[i] (List.getElem?_eq_getElem hil)
  rcases hi with rfl | rfl
  · rw [hk.1] at hu
    cases hu
    exact c0
  · rw [hk.2] at hu
    cases hu
    rw [← c1]
    congr 1
    unfold Addr.add
    split <;> split <;> simp_all <;> omega
/-- A list that was made anew. -/
def NewPairs {Y : Type} (g : Y → Value) (B n : Nat) (xs : List (Int × Y)) (e : Ending) (w' : World) : Prop := ∃ a c, e = .returned (.slice a n c) ∧ Pairs g w' a n xs ∧ n ≤ c ∧ ∀ ad, a = some ad → B ≤ ad.block
theorem one_pairs {Y : Type} {g : Y → Value} (hg : ∀ y, (g y).oneCell' = true) (xs : List (Int × Y)) : ∀ u ∈ (xs.flatMap fun x => [Value.int .i64 x.1, g x.2]), u.oneCell' = true := by
  intro u hu
  obtain ⟨x, _, hx⟩ := List.mem_flatMap.1 hu
  simp at hx
  rcases hx with rfl | rfl
  · simp [Value.oneCell']
  · exact hg _
set_option maxHeartbeats 1000000 in
theorem clone_image (a : Option Addr) (n c : Nat) (xs : List (Int × ByteArray)) (w : World) (h : Pairs Value.string w a n xs) (hn : n ≤ 1000000) :
    Calls Try.prog 136 #[.slice a n c] w fun e w' => NewPairs Value.string w.heap.size n xs e w' ∧ Below w.heap.size w w' := by
  cases a with
  | none =>
    obtain rfl : n = 0 := by
      rcases Nat.eq_zero_or_pos n with e | e
      · exact e
      · obtain ⟨ad, he, _⟩ := h.2.2 0 (xs[0]'(by have := h.1; omega)) (List.getElem?_eq_getElem (by have := h.1; omega))
        cases he
    have H := Lib.hid h
    clear h
    have q := fun wx => Lib.run_eql_slice_nil (P := Try.prog) wx 52 161 none 0 c 0 0 Try.underlying52
    go_enter Try.func136, Try.ntmps136
    go_wp2_with fail
    go_ret
    exact ⟨⟨none, 0, rfl, H.out, Nat.le_refl _, fun ad e => by cases e⟩, Below.refl _ _⟩
  | some ad =>
    obtain ⟨f1, f2⟩ := pairs_flat h
    have hl := World.ownsRow_lit (e := 161) (size := 2) w #[] 0 (Nat.le_refl w.heap.size) (by unfold maxLen; omega) rfl
    have hb := (Below.refl w.heap.size w).alloc (Nat.le_refl _) (.cells #[] 161)
    obtain ⟨_, fz⟩ := pairs_flat (h.keep hb)
    have hx := h.1
    have hm := h.2.1
    have HL := Lib.hid hl
    have FZ := Lib.hid fz
    have F1 := Lib.hid f1
    have HX := Lib.hid hx
    have B := Lib.hid hb
    clear h f1 f2 fz hl hb hx
    have q := fun wx => Lib.run_eql_slice_nil (P := Try.prog) wx 52 161 (some ad) n c 0 0 Try.underlying52
    go_enter Try.func136, Try.ntmps136
    go_wp2_with (refine appn_nil (m := n) (news := xs.flatMap fun x => [Value.int .i64 x.1, Value.string x.2]) HL.out B.out.size 52 Try.underlying52 info_image rfl (by decide) (by decide) (by omega) F1.out (one_pairs (fun y => by simp [Value.oneCell']) xs) FZ.out rfl rfl rfl rfl ?_; intro v' w1 O1 G1; have O := Lib.hid O1; have B1 := Lib.hid (B.out.grown G1 B.out.size (fun k hk => (HL.out.lt k hk).1)); clear O1 G1)
    obtain ⟨a', c', rfl, hc, _⟩ := Reel.own_shape O.out
    obtain ⟨a2, c2, he, hp, ha⟩ := pairs_of_own O.out HX.out.symm hm
    cases he
    have HP := Lib.hid hp
    clear hp
    go_wp2_with fail
    go_ret
    exact ⟨⟨_, _, rfl, HP.out, hc, ha⟩, B1.out⟩
set_option maxHeartbeats 1000000 in
theorem clone_open (a : Option Addr) (n c : Nat) (xs : List (Int × Int)) (w : World) (h : Pairs (Value.int .i64) w a n xs) (hn : n ≤ 1000000) :
    Calls Try.prog 137 #[.slice a n c] w fun e w' => NewPairs (Value.int .i64) w.heap.size n xs e w' ∧ Below w.heap.size w w' := by
  cases a with
  | none =>
    obtain rfl : n = 0 := by
      rcases Nat.eq_zero_or_pos n with e | e
      · exact e
      · obtain ⟨ad, he, _⟩ := h.2.2 0 (xs[0]'(by have := h.1; omega)) (List.getElem?_eq_getElem (by have := h.1; omega))
        cases he
    have H := Lib.hid h
    clear h
    have q := fun wx => Lib.run_eql_slice_nil (P := Try.prog) wx 55 163 none 0 c 0 0 Try.underlying55
    go_enter Try.func137, Try.ntmps137
    go_wp2_with fail
    go_ret
    exact ⟨⟨none, 0, rfl, H.out, Nat.le_refl _, fun ad e => by cases e⟩, Below.refl _ _⟩
  | some ad =>
    obtain ⟨f1, f2⟩ := pairs_flat h
    have hl := World.ownsRow_lit (e := 163) (size := 2) w #[] 0 (Nat.le_refl w.heap.size) (by unfold maxLen; omega) rfl
    have hb := (Below.refl w.heap.size w).alloc (Nat.le_refl _) (.cells #[] 163)
    obtain ⟨_, fz⟩ := pairs_flat (h.keep hb)
    have hx := h.1
    have hm := h.2.1
    have HL := Lib.hid hl
    have FZ := Lib.hid fz
    have F1 := Lib.hid f1
    have HX := Lib.hid hx
    have B := Lib.hid hb
    clear h f1 f2 fz hl hb hx
    have q := fun wx => Lib.run_eql_slice_nil (P := Try.prog) wx 55 163 (some ad) n c 0 0 Try.underlying55
    go_enter Try.func137, Try.ntmps137
    go_wp2_with (refine appn_nil (m := n) (news := xs.flatMap fun x => [Value.int .i64 x.1, (Value.int .i64) x.2]) HL.out B.out.size 55 Try.underlying55 info_open rfl (by decide) (by decide) (by omega) F1.out (one_pairs (fun y => by simp [Value.oneCell']) xs) FZ.out rfl rfl rfl rfl ?_; intro v' w1 O1 G1; have O := Lib.hid O1; have B1 := Lib.hid (B.out.grown G1 B.out.size (fun k hk => (HL.out.lt k hk).1)); clear O1 G1)
    obtain ⟨a', c', rfl, hc, _⟩ := Reel.own_shape O.out
    obtain ⟨a2, c2, he, hp, ha⟩ := pairs_of_own O.out HX.out.symm hm
    cases he
    have HP := Lib.hid hp
    clear hp
    go_wp2_with fail
    go_ret
    exact ⟨⟨_, _, rfl, HP.out, hc, ha⟩, B1.out⟩
set_option maxHeartbeats 1000000 in
theorem clone_dirty (a : Option Addr) (n c : Nat) (xs : List (Int × Int)) (w : World) (h : Pairs (Value.int .i64) w a n xs) (hn : n ≤ 1000000) :
    Calls Try.prog 138 #[.slice a n c] w fun e w' => NewPairs (Value.int .i64) w.heap.size n xs e w' ∧ Below w.heap.size w w' := by
  cases a with
  | none =>
    obtain rfl : n = 0 := by
      rcases Nat.eq_zero_or_pos n with e | e
      · exact e
      · obtain ⟨ad, he, _⟩ := h.2.2 0 (xs[0]'(by have := h.1; omega)) (List.getElem?_eq_getElem (by have := h.1; omega))
        cases he
    have H := Lib.hid h
    clear h
    have q := fun wx => Lib.run_eql_slice_nil (P := Try.prog) wx 56 165 none 0 c 0 0 Try.underlying56
    go_enter Try.func138, Try.ntmps138
    go_wp2_with fail
    go_ret
    exact ⟨⟨none, 0, rfl, H.out, Nat.le_refl _, fun ad e => by cases e⟩, Below.refl _ _⟩
  | some ad =>
    obtain ⟨f1, f2⟩ := pairs_flat h
    have hl := World.ownsRow_lit (e := 165) (size := 2) w #[] 0 (Nat.le_refl w.heap.size) (by unfold maxLen; omega) rfl
    have hb := (Below.refl w.heap.size w).alloc (Nat.le_refl _) (.cells #[] 165)
    obtain ⟨_, fz⟩ := pairs_flat (h.keep hb)
    have hx := h.1
    have hm := h.2.1
    have HL := Lib.hid hl
    have FZ := Lib.hid fz
    have F1 := Lib.hid f1
    have HX := Lib.hid hx
    have B := Lib.hid hb
    clear h f1 f2 fz hl hb hx
    have q := fun wx => Lib.run_eql_slice_nil (P := Try.prog) wx 56 165 (some ad) n c 0 0 Try.underlying56
    go_enter Try.func138, Try.ntmps138
    go_wp2_with (refine appn_nil (m := n) (news := xs.flatMap fun x => [Value.int .i64 x.1, (Value.int .i64) x.2]) HL.out B.out.size 56 Try.underlying56 info_dirty rfl (by decide) (by decide) (by omega) F1.out (one_pairs (fun y => by simp [Value.oneCell']) xs) FZ.out rfl rfl rfl rfl ?_; intro v' w1 O1 G1; have O := Lib.hid O1; have B1 := Lib.hid (B.out.grown G1 B.out.size (fun k hk => (HL.out.lt k hk).1)); clear O1 G1)
    obtain ⟨a', c', rfl, hc, _⟩ := Reel.own_shape O.out
    obtain ⟨a2, c2, he, hp, ha⟩ := pairs_of_own O.out HX.out.symm hm
    cases he
    have HP := Lib.hid hp
    clear hp
    go_wp2_with fail
    go_ret
    exact ⟨⟨_, _, rfl, HP.out, hc, ha⟩, B1.out⟩
theorem pairs_chg {Y : Type} {g : Y → Value} {S : Nat → Prop} {w w' : World} {a : Option Addr} {n : Nat} {xs : List (Int × Y)} (h : Pairs g w a n xs) (hc : Chg S w w') (hn : ∀ ad, a = some ad → ¬ S ad.block) : Pairs g w' a n xs := by
  refine ⟨h.1, h.2.1, fun i x hx => ?_⟩
  obtain ⟨ad, rfl, h0, h1⟩ := h.2.2 i x hx
  have key : ∀ (p : Addr) (u : Value), p.block = ad.block → w.cell? p = some u → w'.cell? p = some u := fun p u hp hu => by
    have hl := World.block_lt_of_cell? w _ hu
    have e1 := hc.block p.block hl (by rw [hp]; exact hn ad rfl)
    rw [← hu]
    unfold World.cell?
    rw [e1]
  have hb : (ad.add (i * 2)).block = ad.block := by unfold Addr.add; split <;> rfl
  exact ⟨ad, rfl, key _ _ hb h0, key _ _ hb h1⟩
def CopPost (B : Nat) (r : Rec) (e : Ending) (w' : World) : Prop := ∃ v, e = .returned v ∧ NewRec B w' v r
def Rec.small (r : Rec) : Prop := r.pages.length ≤ 1000000 ∧ r.opens.length ≤ 1000000 ∧ r.dirts.length ≤ 1000000 ∧ r.key.size ≤ 1000000 ∧ r.val.size ≤ 1000000
set_option maxHeartbeats 4000000 in
theorem copied_calls (v : Value) (r : Rec) (w : World) (h : HasRec w v r) (hs : r.small) : Calls Try.prog 86 #[v] w fun e w' => CopPost w.heap.size r e w' ∧ Below w.heap.size w w' := by
  obtain ⟨a0, n0, c0, a1, n1, c1, a2, n2, c2, rfl, p0, p1, p2, z0, z1, z2⟩ := h
  obtain ⟨s0, s1, s2, _⟩ := hs
  rw [p0.1] at s0
  rw [p1.1] at s1
  rw [p2.1] at s2
  obtain ⟨kd, de, pv, nx, uk, ut, ky, vl, ps, os, ds⟩ := r
  simp only at p0 p1 p2
  show Calls Try.prog 86 #[.agg #[.int .i64 kd, .int .i64 de, .int .i64 pv, .int .i64 nx, .slice a0 n0 c0, .int .i64 uk, .int .i64 ut, .string ky, .string vl, .slice a1 n1 c1, .slice a2 n2 c2]] w _
  have X := Lib.hid (((Row.new w 58 [.int .i64 kd, .int .i64 de, .int .i64 pv, .int .i64 nx, .slice a0 n0 c0, .int .i64 uk, .int .i64 ut, .string ky, .string vl, .slice a1 n1 c1, .slice a2 n2 c2]).alloc (.cells #[.int .i64 0, .int .i64 0, .int .i64 0, .int .i64 0, .slice none 0 0, .int .i64 0, .int .i64 0, .string ⟨#[]⟩, .string ⟨#[]⟩, .slice none 0 0, .slice none 0 0] 58)).drew)
  have Y := Lib.hid ((show Row ((w.alloc (.cells #[.int .i64 kd, .int .i64 de, .int .i64 pv, .int .i64 nx, .slice a0 n0 c0, .int .i64 uk, .int .i64 ut, .string ky, .string vl, .slice a1 n1 c1, .slice a2 n2 c2] 58)).alloc (.cells #[.int .i64 0, .int .i64 0, .int .i64 0, .int .i64 0, .slice none 0 0, .int .i64 0, .int .i64 0, .string ⟨#[]⟩, .string ⟨#[]⟩, .slice none 0 0, .slice none 0 0] 58)) (w.heap.size + 1) 58 [.int .i64 0, .int .i64 0, .int .i64 0, .int .i64 0, .slice none 0 0, .int .i64 0, .int .i64 0, .string ⟨#[]⟩, .string ⟨#[]⟩, .slice none 0 0, .slice none 0 0] from new_at (by simp)).drew)
  have B := Lib.hid ((((Below.refl w.heap.size w).alloc (Nat.le_refl _) (.cells #[.int .i64 kd, .int .i64 de, .int .i64 pv, .int .i64 nx, .slice a0 n0 c0, .int .i64 uk, .int .i64 ut, .string ky, .string vl, .slice a1 n1 c1, .slice a2 n2 c2] 58)).alloc (by simp) (.cells #[.int .i64 0, .int .i64 0, .int .i64 0, .int .i64 0, .slice none 0 0, .int .i64 0, .int .i64 0, .string ⟨#[]⟩, .string ⟨#[]⟩, .slice none 0 0, .slice none 0 0] 58)).drew)
  have P0 := Lib.hid p0
  have P1 := Lib.hid p1
  have P2 := Lib.hid p2
  clear p0 p1 p2
  go_enter Try.func86, Try.ntmps86
  go_wp2_with fail
  have hne : w.heap.size ≠ w.heap.size + 1 := by omega
  generalize hg : w.heap.size + 1 = g at *
  have HG := Lib.hid hg
  clear hg
  refine Reg.start (fun w' => w'.cell? ⟨w.heap.size, 4, none⟩ = some (.slice a0 n0 c0) ∧ w'.cell? ⟨w.heap.size, 9, none⟩ = some (.slice a1 n1 c1) ∧ w'.cell? ⟨w.heap.size, 10, none⟩ = some (.slice a2 n2 c2)) (fun i => i == 10 || i == 11 || i == 12 || i == 13 || i == 14) (by kernel_rfl) ⟨X.out.cell rfl, X.out.cell rfl, X.out.cell rfl⟩ (fun hHeld => ?_)
  generalize ((w.alloc (.cells #[.int .i64 kd, .int .i64 de, .int .i64 pv, .int .i64 nx, .slice a0 n0 c0, .int .i64 uk, .int .i64 ut, .string ky, .string vl, .slice a1 n1 c1, .slice a2 n2 c2] 58)).alloc (.cells #[.int .i64 0, .int .i64 0, .int .i64 0, .int .i64 0, .slice none 0 0, .int .i64 0, .int .i64 0, .string ⟨#[]⟩, .string ⟨#[]⟩, .slice none 0 0, .slice none 0 0] 58)).drew = wd at *
  refine Reg.takeI 0 (v := ?_) rfl (by kernel_rfl) (by kernel_rfl) (by kernel_rfl) (by kernel_rfl) (fun _ _ _ h => h) (by rfl) ?_ hHeld ?_
  rotate_left 1
  · (intro w hSw; (try dsimp only at hSw); go_simp; try with_reducible rfl)
  try simp only [Act.put, List.setIfInBounds_toArray, List.set_cons_zero, List.set_cons_succ]
  refine Reg.takeI 1 (v := ?_) rfl (by kernel_rfl) (by kernel_rfl) (by kernel_rfl) (by kernel_rfl) (fun _ _ _ h => h) (by rfl) ?_ hHeld ?_
  rotate_left 1
  · (intro w hSw; (try dsimp only at hSw); go_simp; try with_reducible rfl)
  try simp only [Act.put, List.setIfInBounds_toArray, List.set_cons_zero, List.set_cons_succ]
  refine Reg.takeI 3 (v := ?_) rfl (by kernel_rfl) (by kernel_rfl) (by kernel_rfl) (by kernel_rfl) (fun _ _ _ h => h) (by rfl) ?_ hHeld ?_
  rotate_left 1
  · (intro w hSw; (try dsimp only at hSw); go_simp; try with_reducible rfl)
  try simp only [Act.put, List.setIfInBounds_toArray, List.set_cons_zero, List.set_cons_succ]
  refine Reg.takeI 4 (v := ?_) rfl (by kernel_rfl) (by kernel_rfl) (by kernel_rfl) (by kernel_rfl) (fun _ _ _ h => h) (by rfl) ?_ hHeld ?_
  rotate_left 1
  · (intro w hSw; (try dsimp only at hSw); go_simp; try with_reducible rfl)
  try simp only [Act.put, List.setIfInBounds_toArray, List.set_cons_zero, List.set_cons_succ]
  refine Reg.takeI 6 (v := ?_) rfl (by kernel_rfl) (by kernel_rfl) (by kernel_rfl) (by kernel_rfl) (fun _ _ _ h => h) (by rfl) ?_ hHeld ?_
  rotate_left 1
  · (intro w hSw; (try dsimp only at hSw); go_simp; try with_reducible rfl)
  try simp only [Act.put, List.setIfInBounds_toArray, List.set_cons_zero, List.set_cons_succ]
  refine Reg.takeI 7 (v := ?_) rfl (by kernel_rfl) (by kernel_rfl) (by kernel_rfl) (by kernel_rfl) (fun _ _ _ h => h) (by rfl) ?_ hHeld ?_
  rotate_left 1
  · (intro w hSw; (try dsimp only at hSw); go_simp; try with_reducible rfl)
  try simp only [Act.put, List.setIfInBounds_toArray, List.set_cons_zero, List.set_cons_succ]
  refine Reg.oneI 2 rfl (by kernel_rfl) (by rfl) (fun K hK => ?_)
  go_simp
  go_at_call 136
  refine (clone_image a0 n0 c0 _ _ (P0.out.keep B.out) (by omega)).mono ?_
  rintro e w2 ⟨⟨b0, d0, rfl, hp, hc, ha⟩, kc⟩
  have SZ0 := Lib.hid Y.out.lt
  replace X := Lib.hid (X.out.below kc X.out.lt)
  replace Y := Lib.hid (Y.out.below kc Y.out.lt)
  replace B := Lib.hid (B.out.trans (kc.mono B.out.size))
  have H0 := Lib.hid hp
  have C0 := Lib.hid hc
  have A0 := Lib.hid (fun ad (e : b0 = some ad) => Nat.lt_of_lt_of_le SZ0.out (ha ad e) : ∀ ad, b0 = some ad → g < ad.block)
  clear hp hc ha kc SZ0
  go_wp2_with fail
  refine hK.out _ _ (fun _ => ⟨X.out.cell rfl, X.out.cell rfl, X.out.cell rfl⟩) (fun hHeld => ?_)
  replace hHeld := hHeld (by first | rfl | trivial)
  clear hK K
  try simp only [Act.put, List.setIfInBounds_toArray, List.set_cons_zero, List.set_cons_succ]
  refine Reg.takeI 9 (v := ?_) rfl (by kernel_rfl) (by kernel_rfl) (by kernel_rfl) (by kernel_rfl) (fun _ _ _ h => h) (by rfl) ?_ hHeld ?_
  rotate_left 1
  · (intro w hSw; (try dsimp only at hSw); go_simp; try with_reducible rfl)
  try simp only [Act.put, List.setIfInBounds_toArray, List.set_cons_zero, List.set_cons_succ]
  refine Reg.oneI 5 rfl (by kernel_rfl) (by rfl) (fun K hK => ?_)
  go_simp
  go_at_call 137
  refine (clone_open a1 n1 c1 _ _ (P1.out.keep B.out) (by omega)).mono ?_
  rintro e w5 ⟨⟨b1, d1, rfl, hp, hc, ha⟩, kc⟩
  have SZ1 := Lib.hid Y.out.lt
  replace X := Lib.hid (X.out.below kc X.out.lt)
  replace Y := Lib.hid (Y.out.below kc Y.out.lt)
  replace B := Lib.hid (B.out.trans (kc.mono B.out.size))
  replace H0 := Lib.hid (H0.out.keep kc)
  have H1 := Lib.hid hp
  have C1 := Lib.hid hc
  have A1 := Lib.hid (fun ad (e : b1 = some ad) => Nat.lt_of_lt_of_le SZ1.out (ha ad e) : ∀ ad, b1 = some ad → g < ad.block)
  clear hp hc ha kc SZ1
  go_wp2_with fail
  refine hK.out _ _ (fun _ => ⟨X.out.cell rfl, X.out.cell rfl, X.out.cell rfl⟩) (fun hHeld => ?_)
  replace hHeld := hHeld (by first | rfl | trivial)
  clear hK K
  try simp only [Act.put, List.setIfInBounds_toArray, List.set_cons_zero, List.set_cons_succ]
  refine Reg.oneI 8 rfl (by kernel_rfl) (by rfl) (fun K hK => ?_)
  go_simp
  go_at_call 138
  refine (clone_dirty a2 n2 c2 _ _ (P2.out.keep B.out) (by omega)).mono ?_
  rintro e w8 ⟨⟨b2, d2, rfl, hp, hc, ha⟩, kc⟩
  have SZ2 := Lib.hid Y.out.lt
  replace X := Lib.hid (X.out.below kc X.out.lt)
  replace Y := Lib.hid (Y.out.below kc Y.out.lt)
  replace B := Lib.hid (B.out.trans (kc.mono B.out.size))
  replace H0 := Lib.hid (H0.out.keep kc)
  replace H1 := Lib.hid (H1.out.keep kc)
  have H2 := Lib.hid hp
  have C2 := Lib.hid hc
  have A2 := Lib.hid (fun ad (e : b2 = some ad) => Nat.lt_of_lt_of_le SZ2.out (ha ad e) : ∀ ad, b2 = some ad → g < ad.block)
  clear hp hc ha kc SZ2
  have x4 := X.out.cell (i := 4) rfl
  have g4 := X.out.frozen 4 (by simp)
  have x9 := X.out.cell (i := 9) rfl
  have g9 := X.out.frozen 9 (by simp)
  have x10 := X.out.cell (i := 10) rfl
  have g10 := X.out.frozen 10 (by simp)
  go_wp2_with fail
  refine hK.out _ _ (fun _ => ⟨X.out.cell rfl, X.out.cell rfl, X.out.cell rfl⟩) (fun hHeld => ?_)
  replace hHeld := hHeld (by first | rfl | trivial)
  clear hK K
  try simp only [Act.put, List.setIfInBounds_toArray, List.set_cons_zero, List.set_cons_succ]
  refine Reg.oneI 10 rfl (by kernel_rfl) (by rfl) (fun K hK => ?_)
  go_simp
  refine hK.out _ _ (fun h => by cases h) (fun _ => ?_)
  clear hK K
  try simp only [Act.put, List.setIfInBounds_toArray, List.set_cons_zero, List.set_cons_succ]
  refine Reg.oneI 11 rfl (by kernel_rfl) (by rfl) (fun K hK => ?_)
  go_simp
  refine hK.out _ _ (fun h => by cases h) (fun _ => ?_)
  clear hK K
  try simp only [Act.put, List.setIfInBounds_toArray, List.set_cons_zero, List.set_cons_succ]
  refine Reg.oneI 12 rfl (by kernel_rfl) (by rfl) (fun K hK => ?_)
  go_simp
  refine hK.out _ _ (fun h => by cases h) (fun _ => ?_)
  clear hK K
  try simp only [Act.put, List.setIfInBounds_toArray, List.set_cons_zero, List.set_cons_succ]
  refine Reg.oneI 13 rfl (by kernel_rfl) (by rfl) (fun K hK => ?_)
  go_simp
  refine hK.out _ _ (fun h => by cases h) (fun _ => ?_)
  clear hK K
  try simp only [Act.put, List.setIfInBounds_toArray, List.set_cons_zero, List.set_cons_succ]
  refine Reg.oneI 14 rfl (by kernel_rfl) (by rfl) (fun K hK => ?_)
  go_simp
  refine hK.out _ _ (fun h => by cases h) (fun _ => ?_)
  clear hK K
  try simp only [Act.put, List.setIfInBounds_toArray, List.set_cons_zero, List.set_cons_succ]
  refine Reg.doneI (by kernel_rfl) ?_
  have X3 := Lib.hid ((((X.out.set 4 (.slice b0 n0 d0)).set 9 (.slice b1 n1 d1)).set 10 (.slice b2 n2 d2)).cast (cs' := [.int .i64 kd, .int .i64 de, .int .i64 pv, .int .i64 nx, .slice b0 n0 d0, .int .i64 uk, .int .i64 ut, .string ky, .string vl, .slice b1 n1 d1, .slice b2 n2 d2]) rfl)
  have Y3 := Lib.hid (((Y.out.set_ne ⟨w.heap.size, 4, none⟩ (.slice b0 n0 d0) hne).set_ne ⟨w.heap.size, 9, none⟩ (.slice b1 n1 d1) hne).set_ne ⟨w.heap.size, 10, none⟩ (.slice b2 n2 d2) hne)
  have B3 := Lib.hid (((B.out.setCell (p := ⟨w.heap.size, 4, none⟩) (Nat.le_refl _) (.slice b0 n0 d0)).setCell (p := ⟨w.heap.size, 9, none⟩) (Nat.le_refl _) (.slice b1 n1 d1)).setCell (p := ⟨w.heap.size, 10, none⟩) (Nat.le_refl _) (.slice b2 n2 d2))
  clear x4 g4 x9 g9 x10 g10
  have KX := Lib.hid ((((Chg.refl (One w.heap.size) w8).put 4 (.slice b0 n0 d0)).put 9 (.slice b1 n1 d1)).put 10 (.slice b2 n2 d2))
  replace H0 := Lib.hid (pairs_chg H0.out KX.out (fun ad e x => by have := A0.out ad e; have := HG.out; have x : ad.block = w.heap.size := x; omega))
  replace H1 := Lib.hid (pairs_chg H1.out KX.out (fun ad e x => by have := A1.out ad e; have := HG.out; have x : ad.block = w.heap.size := x; omega))
  replace H2 := Lib.hid (pairs_chg H2.out KX.out (fun ad e x => by have := A2.out ad e; have := HG.out; have x : ad.block = w.heap.size := x; omega))
  clear KX X Y B
  go_wp2_with (first | (refine load_row X3.out 58 Try.underlying58 rfl (by kernel_rfl) rfl rfl rfl ?_) | (refine store_row Y3.out [.int .i64 kd, .int .i64 de, .int .i64 pv, .int .i64 nx, .slice b0 n0 d0, .int .i64 uk, .int .i64 ut, .string ky, .string vl, .slice b1 n1 d1, .slice b2 n2 d2] 58 (by kernel_rfl) rfl (by simp [Value.oneCell']) rfl rfl rfl rfl ?_; intro w90 hR kc hz))
  replace H0 := Lib.hid (pairs_chg H0.out kc (fun ad e x => by have := A0.out ad e; have x : ad.block = g := x; omega))
  replace H1 := Lib.hid (pairs_chg H1.out kc (fun ad e x => by have := A1.out ad e; have x : ad.block = g := x; omega))
  replace H2 := Lib.hid (pairs_chg H2.out kc (fun ad e x => by have := A2.out ad e; have x : ad.block = g := x; omega))
  have B9 := Lib.hid (B3.out.trans (kc.below (B := w.heap.size) B3.out.size (fun i e => by have e : i = g := e; have := HG.out; omega)))
  have R9 := Lib.hid hR
  clear hR kc hz
  exact ret_row R9.out Try.results86 Try.underlying58 rfl (by kernel_rfl) rfl rfl ⟨⟨_, rfl, b0, n0, d0, b1, n1, d1, b2, n2, d2, rfl, ⟨H0.out, H1.out, H2.out⟩, ⟨C0.out, C1.out, C2.out⟩, fun ad e => by have := A0.out ad e; have := HG.out; omega, fun ad e => by have := A1.out ad e; have := HG.out; omega, fun ad e => by have := A2.out ad e; have := HG.out; omega⟩, B9.out⟩
end Go.Proofs.Ytcfjooeagfollaa.Note

/- diary.scan: the records with which bytes begin, with their stamps. -/
namespace Go.Proofs.Ytcfjooeagfollaa.Note
open Go.RowKit Go.Proofs.Ytcfjooeagfollaa.Mem Go.Proofs.Ytcfjooeagfollaa.Bytes
set_option linter.unusedSimpArgs false
set_option linter.unusedVariables false
set_option maxRecDepth 20000

/-- A stamped record, and where its lists lie. -/
structure Sr where
  t : Int
  r : Rec
  a0 : Option Addr
  c0 : Nat
  a1 : Option Addr
  c1 : Nat
  a2 : Option Addr
  c2 : Nat
def Sr.recCells (x : Sr) : List Value := x.r.cells (.slice x.a0 x.r.pages.length x.c0) (.slice x.a1 x.r.opens.length x.c1) (.slice x.a2 x.r.dirts.length x.c2)
def Sr.cells (x : Sr) : List Value := .int .i64 x.t :: x.recCells
def Sr.Has (w : World) (x : Sr) : Prop := Pairs Value.string w x.a0 x.r.pages.length x.r.pages ∧ Pairs (Value.int .i64) w x.a1 x.r.opens.length x.r.opens ∧ Pairs (Value.int .i64) w x.a2 x.r.dirts.length x.r.dirts
def Sr.Caps (x : Sr) : Prop := x.r.pages.length ≤ x.c0 ∧ x.r.opens.length ≤ x.c1 ∧ x.r.dirts.length ≤ x.c2
/-- None of its lists lies in such a block. -/
def Sr.Off (S : Nat → Prop) (x : Sr) : Prop := (∀ ad, x.a0 = some ad → x.r.pages ≠ [] → ¬ S ad.block) ∧ (∀ ad, x.a1 = some ad → x.r.opens ≠ [] → ¬ S ad.block) ∧ ∀ ad, x.a2 = some ad → x.r.dirts ≠ [] → ¬ S ad.block
theorem pairs_chg' {Y : Type} {g : Y → Value} {S : Nat → Prop} {w w' : World} {a : Option Addr} {n : Nat} {xs : List (Int × Y)} (h : Pairs g w a n xs) (hc : Chg S w w') (hn : ∀ ad, a = some ad → xs ≠ [] → ¬ S ad.block) : Pairs g w' a n xs := by
  by_cases hx : xs = []
  · subst hx
    exact ⟨h.1, h.2.1, fun i x hx => by simp at hx⟩
  · exact pairs_chg h hc (fun ad e => hn ad e hx)
theorem pairs_lt {Y : Type} {g : Y → Value} {w : World} {ad : Addr} {n : Nat} {xs : List (Int × Y)} (h : Pairs g w (some ad) n xs) (hx : xs ≠ []) : ad.block < w.heap.size := by
  obtain ⟨ad', e, c, _⟩ := h.2.2 0 (xs[0]'(List.length_pos_iff.2 hx)) (List.getElem?_eq_getElem _)
  cases e
  have := World.block_lt_of_cell? w _ c
  have hb : (ad.add (0 * 2)).block = ad.block := by unfold Addr.add; split <;> rfl
  rwa [hb] at this
theorem Sr.Off.mono {S S2 : Nat → Prop} {x : Sr} (h : x.Off S) (hs : ∀ k, S2 k → S k) : x.Off S2 := ⟨fun ad e z q => h.1 ad e z (hs _ q), fun ad e z q => h.2.1 ad e z (hs _ q), fun ad e z q => h.2.2 ad e z (hs _ q)⟩
theorem Sr.Off.both {S S2 : Nat → Prop} {x : Sr} (h : x.Off S) (g : x.Off S2) : x.Off (fun k => S k ∨ S2 k) := ⟨fun ad e z q => q.elim (h.1 ad e z) (g.1 ad e z), fun ad e z q => q.elim (h.2.1 ad e z) (g.2.1 ad e z), fun ad e z q => q.elim (h.2.2 ad e z) (g.2.2 ad e z)⟩
theorem Sr.Has.off {w : World} {x : Sr} (h : x.Has w) : x.Off (fun k => w.heap.size ≤ k) := by
  obtain ⟨h0, h1, h2⟩ := h
  exact ⟨fun ad e z q => by rw [e] at h0; have := pairs_lt h0 z; have q : w.heap.size ≤ ad.block := q; omega, fun ad e z q => by rw [e] at h1; have := pairs_lt h1 z; have q : w.heap.size ≤ ad.block := q; omega, fun ad e z q => by rw [e] at h2; have := pairs_lt h2 z; have q : w.heap.size ≤ ad.block := q; omega⟩
theorem Sr.Has.keep {w w' : World} {x : Sr} (h : x.Has w) (hb : Below w.heap.size w w') : x.Has w' := ⟨h.1.keep hb, h.2.1.keep hb, h.2.2.keep hb⟩
theorem Sr.Has.chg {S : Nat → Prop} {w w' : World} {x : Sr} (h : x.Has w) (hc : Chg S w w') (ho : x.Off S) : x.Has w' := ⟨pairs_chg' h.1 hc ho.1, pairs_chg' h.2.1 hc ho.2.1, pairs_chg' h.2.2 hc ho.2.2⟩
theorem Sr.Has.rec {w : World} {x : Sr} (h : x.Has w) (hc : x.Caps) : HasRec w (.agg x.recCells.toArray) x.r := ⟨_, _, _, _, _, _, _, _, _, rfl, h.1, h.2.1, h.2.2, hc.1, hc.2.1, hc.2.2⟩
theorem sr_of_new {B : Nat} {w : World} {v : Value} {r : Rec} (h : NewRec B w v r) (t : Int) : ∃ x : Sr, x.t = t ∧ x.r = r ∧ v = .agg x.recCells.toArray ∧ x.Has w ∧ x.Caps ∧ x.Off (fun k => k < B) := by
  obtain ⟨a0, n0, c0, a1, n1, c1, a2, n2, c2, rfl, ⟨p0, p1, p2⟩, ⟨z0, z1, z2⟩, u0, u1, u2⟩ := h
  obtain rfl := p0.1
  obtain rfl := p1.1
  obtain rfl := p2.1
  exact ⟨⟨t, r, a0, c0, a1, c1, a2, c2⟩, rfl, rfl, rfl, ⟨p0, p1, p2⟩, ⟨z0, z1, z2⟩, fun ad e _ => by have := u0 ad e; omega, fun ad e _ => by have := u1 ad e; omega, fun ad e _ => by have := u2 ad e; omega⟩
/-- The records with which bytes begin, and what is left behind them (fuel n). -/
def scanL : Nat → List UInt8 → List Rec × List UInt8
  | 0, l => ([], l)
  | n + 1, l => match nRead l with
    | none => ([], l)
    | some (r, k) => (r :: (scanL n (l.drop k)).1, (scanL n (l.drop k)).2)
/-- With their stamps. -/
def stamped : Nat → List Rec → List (Int × Rec)
  | _, [] => []
  | k, r :: l => ((k : Int) + 1, r) :: stamped (k + r.bytes.length) l
theorem nRead_len {l : List UInt8} {r : Rec} {k : Nat} (h : nRead l = some (r, k)) : r.good = true ∧ k = r.bytes.length ∧ 8 ≤ k ∧ k ≤ l.length ∧ l = r.bytes ++ l.drop k := by
  obtain ⟨h1, h2, t, h3⟩ := (nRead_iff l r k).1 h
  have hb := bytes_length r
  refine ⟨h1, h2, by omega, by rw [h3, List.length_append]; omega, ?_⟩
  rw [h3, h2]
  simp
theorem scanL_fuel : ∀ (n m : Nat) (l : List UInt8), l.length ≤ n → l.length ≤ m → scanL n l = scanL m l
  | 0, 0, _, _, _ => rfl
  | 0, m + 1, l, h, _ => by
    obtain rfl : l = [] := List.eq_nil_of_length_eq_zero (by omega)
    have : nRead [] = none := by
      cases h : nRead [] with
      | none => rfl
      | some p => have := nRead_len h; simp at this; omega
    simp [scanL, this]
  | n + 1, 0, l, _, h => by
    obtain rfl : l = [] := List.eq_nil_of_length_eq_zero (by omega)
    have : nRead [] = none := by
      cases h : nRead [] with
      | none => rfl
      | some p => have := nRead_len h; simp at this; omega
    simp [scanL, this]
  | n + 1, m + 1, l, h1, h2 => by
    unfold scanL
    cases h : nRead l with
    | none => rfl
    | some p =>
      obtain ⟨r, k⟩ := p
      obtain ⟨_, _, h8, hk, _⟩ := nRead_len h
      have := scanL_fuel n m (l.drop k) (by rw [List.length_drop]; omega) (by rw [List.length_drop]; omega)
      simp only [this]
theorem scanL_some {n : Nat} {l : List UInt8} {r : Rec} {k : Nat} (h : nRead l = some (r, k)) (hn : l.length ≤ n) : scanL n l = (r :: (scanL n (l.drop k)).1, (scanL n (l.drop k)).2) := by
  obtain ⟨_, _, h8, hk, _⟩ := nRead_len h
  obtain ⟨m, rfl⟩ : ∃ m, n = m + 1 := ⟨n - 1, by omega⟩
  rw [scanL, h]
  simp only
  rw [scanL_fuel m (m + 1) (l.drop k) (by rw [List.length_drop]; omega) (by rw [List.length_drop]; omega)]
theorem scanL_none {n : Nat} {l : List UInt8} (h : nRead l = none) : scanL n l = ([], l) := by
  cases n with
  | zero => rfl
  | succ n => rw [scanL, h]
theorem info_sr : (Try.prog.info? 60).map (fun i => (i.zero, i.size, i.bytes)) = some (some (.agg #[.int .i64 0, .int .i64 0, .int .i64 0, .int .i64 0, .int .i64 0, .slice none 0 0, .int .i64 0, .int .i64 0, .string ⟨#[]⟩, .string ⟨#[]⟩, .slice none 0 0, .slice none 0 0]), 12, 160) := by kernel_rfl
theorem sr_size : (Value.agg #[.int .i64 0, .int .i64 0, .int .i64 0, .int .i64 0, .int .i64 0, .slice none 0 0, .int .i64 0, .int .i64 0, .string ⟨#[]⟩, .string ⟨#[]⟩, .slice none 0 0, .slice none 0 0]).cells.size = 12 := by rfl
theorem rc_one (x : Sr) : ∀ u ∈ x.recCells, u.oneCell' = true := by simp [Sr.recCells, Rec.cells, Value.oneCell']
def ScanRes (B0 : Nat) (R : List Rec × List UInt8) (N : Nat) (e : Ending) (w' : World) : Prop := ∃ (ls : List Sr) (a : Option Addr) (cap : Nat), e = .returned (.tuple #[.slice a ls.length cap, .int .i64 ((N : Int) - (R.2.length : Int))]) ∧ Els Sr.cells 12 w' a ls ∧ (∀ x ∈ ls, x.Has w' ∧ x.Caps) ∧ ls.map (fun x => (x.t, x.r)) = stamped 0 R.1 ∧ R.2.length ≤ N ∧ (∀ ad, a = some ad → B0 ≤ ad.block) ∧ ∀ x ∈ ls, x.Off (fun j => j < B0)
theorem stamped_snoc : ∀ (l : List Rec) (k : Nat) (r : Rec), stamped k (l ++ [r]) = stamped k l ++ [(((k + (l.flatMap Rec.bytes).length : Nat) : Int) + 1, r)]
  | [], k, r => by simp [stamped]
  | x :: l, k, r => by
    rw [List.cons_append, stamped, stamped_snoc l, stamped, List.flatMap_cons, List.length_append, Nat.add_assoc]
    rfl
set_option maxHeartbeats 8000000 in
theorem scan_calls (s : ByteArray) (w : World) (hs : s.size ≤ 100000) :
    Calls Try.prog 84 #[.string s] w fun e w' => ScanRes w.heap.size (scanL s.size s.data.toList) s.size e w' ∧ Below w.heap.size w w' := by
  have hss : s.data.toList.length = s.size := rfl
  obtain ⟨R, hR⟩ : ∃ R, scanL s.size s.data.toList = R := ⟨_, rfl⟩
  rw [hR]
  have HR := Lib.hid hR
  have SS := Lib.hid hss
  clear hR hss
  go_enter Try.func84, Try.ntmps84
  go_wp2_with fail
  go_loopw [4, 5] (fun o i wr => ∃ (ls : List Sr) (rs : List Rec) (k : Nat), i = .int .i64 (k : Int) ∧ k ≤ s.size ∧ 8 * rs.length ≤ k ∧ k = (rs.flatMap Rec.bytes).length ∧ ls.map (fun x => (x.t, x.r)) = stamped 0 rs ∧ ls.length = rs.length ∧ wr.ownsRow w.heap.size 60 12 o ls.length (ls.flatMap Sr.cells) ∧ (∀ x ∈ ls, x.Has wr ∧ x.Caps) ∧ (∀ x ∈ ls, x.Off (fun j => o.ownBlock = some j) ∧ x.Off (fun j => j < w.heap.size)) ∧ (rs ++ (scanL s.size (s.data.toList.drop k)).1 = R.1 ∧ (scanL s.size (s.data.toList.drop k)).2 = R.2) ∧ Below w.heap.size w wr) (fun _ i _ => s.size - (intOf i).toNat)
  case atStart => exact ⟨[], [], 0, rfl, Nat.zero_le _, Nat.le_refl _, rfl, rfl, rfl, World.ownsRow_nil _ _ _ _, fun x hx => (by cases hx), fun x hx => (by cases hx), ⟨by simp [HR.out], by simp [HR.out]⟩, Below.refl _ _⟩
  case round =>
    obtain ⟨ls, rs, k, rfl, hks, h8, hkk, hst, hll, hO, hV, hD, hI, hB⟩ := hrel
    have O := Lib.hid hO
    have VV := Lib.hid hV
    have DD := Lib.hid hD
    have II := Lib.hid hI
    have B := Lib.hid hB
    have ST := Lib.hid hst
    have KK := Lib.hid hkk
    have LL := Lib.hid hll
    clear hO hV hD hI hB hst hkk hll HR
    obtain ⟨oa, ocap, rfl, _⟩ := Reel.own_shape O.out
    obtain ⟨rest, hrest⟩ : ∃ r, s.data.toList.drop k = r := ⟨_, rfl⟩
    have hrl : rest.length + k = s.size := by rw [← hrest, List.length_drop, SS.out]; omega
    have x1 : s.extract k s.size = bs rest := by rw [extract_drop, hrest]
    have d1 : decide ((k : Int) < 0) = false := by simp
    have d2 : decide ((s.size : Int) < (k : Int)) = false := by simp; omega
    have HRE := Lib.hid hrest
    rw [hrest] at II
    have RC := read_new (bs rest) wr (by rw [bs_size]; omega)
    rw [show (bs rest).data.toList = rest from rfl] at RC
    have RCH := Lib.hid RC
    clear RC hrest
    go_wp2_with fail
    clear x1 d1 d2
    refine RCH.out.mono ?_
    rintro e w2 ⟨⟨v, rfl, hN⟩, kc⟩
    have LB := Lib.hid (fun j hj => O.out.lt j hj)
    have O2 := Lib.hid (own_below O.out kc)
    have V2 := Lib.hid (fun x hx => ⟨(VV.out x hx).1.keep kc, (VV.out x hx).2⟩ : ∀ x ∈ ls, x.Has w2 ∧ x.Caps)
    have B2 := Lib.hid (B.out.trans (kc.mono B.out.size))
    have NN := Lib.hid hN
    have SZ := Lib.hid kc.size
    clear kc hN RCH
    cases hq : nRead rest with
    | none =>
      have HN := NN.out
      rw [nOut_none hq] at HN
      rw [nOut_none hq]
      have hI1 := II.out.1
      have hI2 := II.out.2
      rw [scanL_none hq] at hI1 hI2
      obtain ⟨ea, ecap, he, _, hEls, hEb⟩ := els_own (enc := Sr.cells) (fun x => rfl) O2.out rfl
      cases he
      have hr2 : R.2.length = rest.length := by rw [← hI2]
      have FIN := Lib.hid (show ∀ wz, Below w2.heap.size w2 wz → ScanRes w.heap.size R s.size (.returned (.tuple #[.slice oa ls.length ocap, .int .i64 (k : Int)])) wz from fun wz hz => ⟨ls, _, _, by rw [hr2, show (s.size : Int) - (rest.length : Int) = (k : Int) by omega], hEls.keep hz, fun x hx => ⟨(V2.out x hx).1.keep hz, (V2.out x hx).2⟩, by rw [ST.out, ← hI1]; simp, by omega, hEb, fun x hx => (DD.out x hx).2⟩)
      obtain ⟨x, _, hxr, rfl, _, _, _⟩ := sr_of_new HN 0
      clear HN NN hI1 hI2 hr2 hEls hEb hq
      have Z := Lib.hid (Row.new w2 58 [.int .i64 0, .int .i64 0, .int .i64 0, .int .i64 0, .slice none 0 0, .int .i64 0, .int .i64 0, .string ⟨#[]⟩, .string ⟨#[]⟩, .slice none 0 0, .slice none 0 0])
      have B3 := Lib.hid ((Below.refl w2.heap.size w2).alloc (Nat.le_refl _) (.cells #[.int .i64 0, .int .i64 0, .int .i64 0, .int .i64 0, .slice none 0 0, .int .i64 0, .int .i64 0, .string ⟨#[]⟩, .string ⟨#[]⟩, .slice none 0 0, .slice none 0 0] 58))
      go_wp2_with (refine store_row Z.out x.recCells 58 (by kernel_rfl) rfl (rc_one x) rfl rfl rfl rfl ?_; intro w3 h3 k3 z3; have B4 := Lib.hid (B3.out.trans (k3.below (B := w2.heap.size) B3.out.size (fun i e => by have e : i = w2.heap.size := e; omega))); clear h3 k3 z3)
      go_ret2
      exact ⟨FIN.out _ B4.out, B2.out.trans (B4.out.mono B2.out.size)⟩
    | some p =>
      obtain ⟨r, n⟩ := p
      have HN := NN.out
      rw [nOut_some hq] at HN
      rw [nOut_some hq]
      obtain ⟨hgood, hn, hn8, hnl, hloop⟩ := nRead_len hq
      clear hloop
      have hsc := scanL_some (n := s.size) hq (by omega)
      have hI1 := II.out.1
      have hI2 := II.out.2
      rw [hsc] at hI1 hI2
      have I1 := Lib.hid hI1
      have I2 := Lib.hid hI2
      obtain ⟨x, hxt, hxr, hv, hxH, hxC, hxO⟩ := sr_of_new HN ((k : Int) + 1)
      have XT := Lib.hid hxt
      have XR := Lib.hid hxr
      have XH := Lib.hid hxH
      have XC := Lib.hid hxC
      have XO := Lib.hid hxO
      have HNB := Lib.hid hn
      clear HN NN hI1 hI2 hsc hq hgood hxt hxr hxH hxC hxO hn
      obtain ⟨t, ⟨kd, de, pv, nx, uk, ut, ky, vl, ps, os, ds⟩, a0, c0, a1, c1, a2, c2⟩ := x
      obtain rfl : t = (k : Int) + 1 := XT.out
      have hv2 : v = .agg #[.int .i64 kd, .int .i64 de, .int .i64 pv, .int .i64 nx, .slice a0 ps.length c0, .int .i64 uk, .int .i64 ut, .string ky, .string vl, .slice a1 os.length c1, .slice a2 ds.length c2] := hv
      clear hv XT
      subst hv2
      have Z := Lib.hid (Row.new w2 58 [.int .i64 0, .int .i64 0, .int .i64 0, .int .i64 0, .slice none 0 0, .int .i64 0, .int .i64 0, .string ⟨#[]⟩, .string ⟨#[]⟩, .slice none 0 0, .slice none 0 0])
      have B3 := Lib.hid ((Below.refl w2.heap.size w2).alloc (Nat.le_refl _) (.cells #[.int .i64 0, .int .i64 0, .int .i64 0, .int .i64 0, .slice none 0 0, .int .i64 0, .int .i64 0, .string ⟨#[]⟩, .string ⟨#[]⟩, .slice none 0 0, .slice none 0 0] 58))
      have BS := Lib.hid (show w.heap.size ≤ w2.heap.size from B2.out.size)
      go_wp2_with (first | (refine store_row Z.out [.int .i64 kd, .int .i64 de, .int .i64 pv, .int .i64 nx, .slice a0 ps.length c0, .int .i64 uk, .int .i64 ut, .string ky, .string vl, .slice a1 os.length c1, .slice a2 ds.length c2] 58 (by kernel_rfl) rfl (by simp [Value.oneCell']) rfl rfl rfl rfl ?_; intro w3 h3 k3 z3; have R3 := Lib.hid h3; have B4 := Lib.hid (B3.out.trans (k3.below (B := w2.heap.size) B3.out.size (fun i e => by have e : i = w2.heap.size := e; omega))); have O3 := Lib.hid (own_below O2.out B4.out); have BS3 := Lib.hid (Nat.le_trans BS.out B4.out.size); clear h3 k3 z3) | (refine load_row R3.out 58 Try.underlying58 rfl (by kernel_rfl) rfl rfl rfl ?_) | (refine app1_at (news := [.int .i64 ((k : Int) + 1), .int .i64 kd, .int .i64 de, .int .i64 pv, .int .i64 nx, .slice a0 ps.length c0, .int .i64 uk, .int .i64 ut, .string ky, .string vl, .slice a1 os.length c1, .slice a2 ds.length c2]) O3.out BS3.out 48 Try.underlying48 info_sr sr_size (by decide) (by decide) (by have := LL.out; omega) rfl (by simp [Value.oneCell']) rfl rfl rfl rfl ?_; intro v' w5 O5 G5 A5; have C5 := Lib.hid (chg_grown (S := fun j => (Value.slice oa ls.length ocap).ownBlock = some j) G5 (fun k h => h)); have O5' := Lib.hid O5; have A5' := Lib.hid A5; clear O5 G5 A5))
      have hown : ∀ j, (Value.slice oa ls.length ocap).ownBlock = some j → j < wr.heap.size := fun j hj => (LB.out j hj).2
      have V5 := Lib.hid (fun x hx => ⟨((V2.out x hx).1.keep B4.out).chg C5.out (DD.out x hx).1, (V2.out x hx).2⟩ : ∀ x ∈ ls, x.Has w5 ∧ x.Caps)
      have N5 := Lib.hid ((XH.out.keep B4.out).chg C5.out (XO.out.mono (fun j hj => hown j hj)))
      have H3 := Lib.hid (fun x hx => ((V2.out x hx).1.keep B4.out).off : ∀ x ∈ ls, x.Off _)
      have H3n := Lib.hid (XH.out.keep B4.out).off
      have B5 := Lib.hid ((B2.out.trans (B4.out.mono BS.out)).trans (C5.out.below (B := w.heap.size) BS3.out (fun j hj => (LB.out j hj).1)))
      obtain ⟨a5, cap5, rfl, _⟩ := Reel.own_shape O5'.out
      have HON := Lib.hid hown
      clear hown
      go_wp2_with fail
      obtain ⟨xe, hxe⟩ : ∃ xe : Sr, xe = ⟨(k : Int) + 1, ⟨kd, de, pv, nx, uk, ut, ky, vl, ps, os, ds⟩, a0, c0, a1, c1, a2, c2⟩ := ⟨_, rfl⟩
      have hxc : xe.cells = [.int .i64 ((k : Int) + 1), .int .i64 kd, .int .i64 de, .int .i64 pv, .int .i64 nx, .slice a0 ps.length c0, .int .i64 uk, .int .i64 ut, .string ky, .string vl, .slice a1 os.length c1, .slice a2 ds.length c2] := by rw [hxe]; rfl
      have hxtr : (xe.t, xe.r) = ((k : Int) + 1, r) := by rw [hxe, ← XR.out]
      rw [← hxe] at N5 H3n XC XO
      refine ⟨⟨ls ++ [xe], rs ++ [r], k + n, by go_num, by omega, by rw [List.length_append]; simp; omega, ?_, ?_, by rw [List.length_append, List.length_append, LL.out]; rfl, ?_, fun x hx => ?_, fun x hx => ?_, ⟨?_, ?_⟩, B5.out⟩, ?_⟩
      · rw [List.flatMap_append, List.length_append, ← KK.out, HNB.out]
        simp
      · rw [List.map_append, ST.out, stamped_snoc, ← KK.out]
        simp only [List.map_cons, List.map_nil, hxtr, Nat.zero_add]
      · rw [List.flatMap_append, List.length_append, List.flatMap_cons, List.flatMap_nil, List.append_nil, hxc]
        exact O5'.out
      · rcases List.mem_append.1 hx with hx | hx
        · exact V5.out x hx
        · rw [List.mem_singleton.1 hx]; exact ⟨N5.out, XC.out⟩
      · rcases List.mem_append.1 hx with hx | hx
        · refine ⟨?_, (DD.out x hx).2⟩
          rcases A5'.out with h | ⟨j, h, hj⟩
          · rw [h]; exact (DD.out x hx).1
          · rw [h]; exact (H3.out x hx).mono (fun i e => by have e := Option.some.inj e; omega)
        · rw [List.mem_singleton.1 hx]
          refine ⟨?_, XO.out.mono (fun j hj => by have hj : j < w.heap.size := hj; have := B.out.size; show j < wr.heap.size; omega)⟩
          rcases A5'.out with h | ⟨j, h, hj⟩
          · rw [h]; exact XO.out.mono (fun j hj => HON.out j hj)
          · rw [h]; exact H3n.out.mono (fun i e => by have e := Option.some.inj e; omega)
      · rw [← List.drop_drop, HRE.out, ← I1.out, List.append_assoc]
        rfl
      · rw [← List.drop_drop, HRE.out]
        exact I2.out
      · simp [intOf]
        omega
end Go.Proofs.Ytcfjooeagfollaa.Note

/- A log on a reel: how it lies; Room, Last. -/
namespace Go.Proofs.Ytcfjooeagfollaa.Dia
open Go.RowKit Go.Proofs.Ytcfjooeagfollaa.Mem Go.Proofs.Ytcfjooeagfollaa.Bytes Go.Proofs.Ytcfjooeagfollaa.Mains Go.Proofs.Ytcfjooeagfollaa.Reel Go.Proofs.Ytcfjooeagfollaa.Note
set_option linter.unusedSimpArgs false
set_option linter.unusedVariables false
set_option maxRecDepth 20000

/-- The reel's bytes lie in block d; what is yet to be made may be its too. -/
def Tight (d : Option Nat) (w : World) : Nat → Prop := fun k => d = some k ∨ w.heap.size ≤ k
theorem is_tight {w : World} {F : Nat → Prop} {B b : Nat} {r : R} (h : Reel.Is w F B b r) : ∃ d, (∀ k, d = some k → F k ∧ k < w.heap.size) ∧ Reel.Is w (Tight d w) B b r := by
  obtain ⟨h0, h1, h2, h3, hk, v, hr, ho, hv⟩ := h
  refine ⟨v.ownBlock, fun k e => ⟨hv k e, (ho.lt k e).2⟩, h0, ?_, ?_, fun k hk => .inr hk, hk, v, hr, ho, fun k e => .inl e⟩
  · rintro (e | e)
    · exact h1 (hv _ e)
    · exact h1 (h3 _ e)
  · rintro (e | e)
    · exact h2 (hv _ e)
    · exact h2 (h3 _ e)
theorem is_chg {S : Nat → Prop} {w w' : World} {d : Option Nat} {B b : Nat} {r : R} (h : Reel.Is w (Tight d w) B b r) (hB : B < w.heap.size) (hc : Chg S w w') (hb : ¬ S b) (hd : ∀ k, d = some k → ¬ S k) : Reel.Is w' (Tight d w') B b r := by
  obtain ⟨h0, h1, h2, h3, hk, v, hr, ho, hv⟩ := h
  have hd2 : ∀ k, v.ownBlock = some k → d = some k := fun k e => (hv k e).resolve_right (by have := (ho.lt k e).2; omega)
  refine ⟨h0, ?_, ?_, fun k hk => .inr hk, hk, v, hr.chg hc hb, own_chg ho hc (fun k e => hd k (hd2 k e)), fun k e => .inl (hd2 k e)⟩
  · rintro (e | e)
    · exact h1 (.inl e)
    · have := hc.size; omega
  · rintro (e | e)
    · exact h2 (.inl e)
    · have := hr.lt; have := hc.size; omega
theorem is_below {w w' : World} {d : Option Nat} {B b : Nat} {r : R} (h : Reel.Is w (Tight d w) B b r) (hB : B < w.heap.size) (hb : Below w.heap.size w w') : Reel.Is w' (Tight d w') B b r :=
  is_chg h hB (Chg.of_below (S := fun _ => False) hb) (fun x => x) (fun _ _ x => x)

def lcells (b mb : Nat) (last held : Int) : List Value := [.pointer (some ⟨b, 0, none⟩), .map (some mb), .int .i64 last, .int .i64 held]
/-- What a log's records are apart from. -/
def Own (d : Option Nat) (B b L mb : Nat) : Nat → Prop := fun k => d = some k ∨ k = B ∨ k = b ∨ k = L ∨ k = mb
/-- The map's entries. -/
def Held (w : World) (S : Nat → Prop) (f : Int → Option Value) (g : Int → Option Rec) : Prop := ∀ k, match f k with
  | none => g k = none
  | some v => ∃ x : Sr, g k = some x.r ∧ v = .agg x.recCells.toArray ∧ x.Has w ∧ x.Caps ∧ x.Off S ∧ x.r.small
/-- Block L is a log on the reel r at b (its power m at B); g tells the record at each stamp. -/
structure Dia (w : World) (d : Option Nat) (B b L mb : Nat) (m : M) (r : R) (n : Nat) (g : Int → Option Rec) (last held : Int) : Prop where
  reel : Reel.Is w (Tight d w) B b r
  pow : Row w B 147 m.cells
  log : Row w L 158 (lcells b mb last held)
  map : ∃ f, IMap Try.prog 3 w mb n f ∧ Held w (Own d B b L mb) f g
  hd : ∀ k, d = some k → k < w.heap.size ∧ k ≠ L ∧ k ≠ mb
  apart : L ≠ B ∧ L ≠ b ∧ mb ≠ B ∧ mb ≠ b ∧ mb ≠ L
  hl : 0 ≤ held ∧ held ≤ ((r.size - r.data.length : Nat) : Int)
  hz : -9223372036854775808 ≤ last ∧ last ≤ 9223372036854775807
  hn : n ≤ 1000000
theorem Held.chg {S C : Nat → Prop} {w w' : World} {f : Int → Option Value} {g : Int → Option Rec} (h : Held w S f g) (hc : Chg C w w') (hs : ∀ k, k < w.heap.size → C k → S k) : Held w' S f g := by
  intro k
  have h1 := h k
  split
  · rename_i e
    rw [e] at h1
    exact h1
  · rename_i v e
    rw [e] at h1
    obtain ⟨x, h1, h2, h3, h4, h5, h6⟩ := h1
    refine ⟨x, h1, h2, h3.chg hc ?_, h4, h5, h6⟩
    have ho := h3.off
    have hb := h5.both ho
    exact hb.mono (fun j hj => by
      rcases Nat.lt_or_ge j w.heap.size with h' | h'
      · exact .inl (hs j h' hj)
      · exact .inr h')
theorem Dia.below {w w' : World} {d : Option Nat} {B b L mb : Nat} {m : M} {r : R} {n : Nat} {g : Int → Option Rec} {last held : Int} (h : Dia w d B b L mb m r n g last held) (hb : Below w.heap.size w w') : Dia w' d B b L mb m r n g last held := by
  obtain ⟨f, hf, hh⟩ := h.map
  exact ⟨is_below h.reel h.pow.lt hb, h.pow.below hb h.pow.lt, h.log.below hb h.log.lt, ⟨f, hf.below hb hf.lt, hh.chg (Chg.of_below (S := fun _ => False) hb) (fun _ _ x => x.elim)⟩, fun k e => ⟨Nat.lt_of_lt_of_le (h.hd k e).1 hb.size, (h.hd k e).2⟩, h.apart, h.hl, h.hz, h.hn⟩
section
variable {w : World} {d : Option Nat} {B b L mb : Nat} {m : M} {r : R} {n : Nat} {g : Int → Option Rec} {last held : Int}
set_option maxHeartbeats 1000000 in
theorem room_calls (h : Dia w d B b L mb m r n g last held) : Calls Try.prog 61 #[.pointer (some ⟨L, 0, none⟩)] w fun e w' => e = .returned (.int .i64 (((r.size - r.data.length : Nat) : Int) - held)) ∧ ∃ q, w' = w.drewN q := by
  have x0 := h.log.cell (i := 0) rfl
  have x3 := h.log.cell (i := 3) rfl
  obtain ⟨l1, l2⟩ := h.hl
  obtain ⟨k1, k2, k3⟩ := h.reel.2.2.2.2.1
  have RL := Lib.hid h.reel
  have i1 : IntKind.i64.wrap (((r.size - r.data.length : Nat) : Int) - held) = ((r.size - r.data.length : Nat) : Int) - held := IntWalk.i64_in _ (by omega)
  clear h
  go_enter Try.func61, Try.ntmps61
  go_wp2_with fail
  go_quiet ((go_at_call 80; exact Calls.quiet_of (left_calls _ _ _ _ _ RL.out)))
  go_wp2_with fail
  go_ret
  exact ⟨rfl, _, rfl⟩
theorem last_calls (h : Dia w d B b L mb m r n g last held) : Calls Try.prog 64 #[.pointer (some ⟨L, 0, none⟩)] w fun e w' => e = .returned (.int .i64 last) ∧ w' = w := by
  have x2 := h.log.cell (i := 2) rfl
  clear h
  go_enter Try.func64, Try.ntmps64
  go_wp2_with fail
  go_ret
  exact ⟨rfl, rfl⟩
/-- What At gives: the stamp's record, copied. -/
def AtPost (B : Nat) (o : Option Rec) (e : Ending) (w' : World) : Prop := ∃ v, e = .returned (.tuple #[v, .bool o.isSome]) ∧ NewRec B w' v (o.getD noRec)
theorem NewRec.chg {S : Nat → Prop} {A C : Nat} {w w' : World} {v : Value} {r : Rec} (h : NewRec A w v r) (hc : Chg S w w') (hs : ∀ k, A ≤ k → ¬ S k) (hC : C ≤ A) : NewRec C w' v r := by
  obtain ⟨a0, n0, c0, a1, n1, c1, a2, n2, c2, e, ⟨p0, p1, p2⟩, z, u0, u1, u2⟩ := h
  exact ⟨a0, n0, c0, a1, n1, c1, a2, n2, c2, e, ⟨pairs_chg p0 hc (fun ad e => hs _ (u0 ad e)), pairs_chg p1 hc (fun ad e => hs _ (u1 ad e)), pairs_chg p2 hc (fun ad e => hs _ (u2 ad e))⟩, z, fun ad e => Nat.le_trans hC (u0 ad e), fun ad e => Nat.le_trans hC (u1 ad e), fun ad e => Nat.le_trans hC (u2 ad e)⟩
def zsr : Sr := ⟨0, noRec, none, 0, none, 0, none, 0⟩
theorem Held.get {S : Nat → Prop} {f : Int → Option Value} (h : Held w S f g) (k : Int) : ∃ x : Sr, (f k).getD (.agg #[.int .i64 0, .int .i64 0, .int .i64 0, .int .i64 0, .slice none 0 0, .int .i64 0, .int .i64 0, .string ⟨#[]⟩, .string ⟨#[]⟩, .slice none 0 0, .slice none 0 0]) = .agg x.recCells.toArray ∧ x.Has w ∧ x.Caps ∧ x.r.small ∧ x.r = (g k).getD noRec ∧ (f k).isSome = (g k).isSome := by
  have h1 := h k
  cases hf : f k with
  | none =>
    rw [hf] at h1
    simp only at h1
    rw [h1]
    exact ⟨zsr, rfl, ⟨⟨rfl, by simp [zsr, noRec], fun i x hx => by simp [zsr, noRec] at hx⟩, ⟨rfl, by simp [zsr, noRec], fun i x hx => by simp [zsr, noRec] at hx⟩, ⟨rfl, by simp [zsr, noRec], fun i x hx => by simp [zsr, noRec] at hx⟩⟩, ⟨Nat.le_refl _, Nat.le_refl _, Nat.le_refl _⟩, ⟨by simp [zsr, noRec], by simp [zsr, noRec], by simp [zsr, noRec], Nat.zero_le _, Nat.zero_le _⟩, rfl, rfl⟩
  | some v =>
    rw [hf] at h1
    obtain ⟨x, h1, h2, h3, h4, h5, h6⟩ := h1
    rw [h1, h2]
    exact ⟨x, rfl, h3, h4, h6, rfl, rfl⟩
set_option maxHeartbeats 2000000 in
theorem at_calls (h : Dia w d B b L mb m r n g last held) (k : Int) (hk : (Lit.int .i64 k).wf = true) :
    Calls Try.prog 62 #[.pointer (some ⟨L, 0, none⟩), .int .i64 k] w fun e w' => AtPost w.heap.size (g k) e w' ∧ Below w.heap.size w w' := by
  obtain ⟨f, hf, hh⟩ := h.map
  have x1 := (h.log.alloc (.cells #[.int .i64 0, .int .i64 0, .int .i64 0, .int .i64 0, .slice none 0 0, .int .i64 0, .int .i64 0, .string ⟨#[]⟩, .string ⟨#[]⟩, .slice none 0 0, .slice none 0 0] 58)).cell (i := 1) rfl
  have hlook := (hf.alloc (.cells #[.int .i64 0, .int .i64 0, .int .i64 0, .int .i64 0, .slice none 0 0, .int .i64 0, .int .i64 0, .string ⟨#[]⟩, .string ⟨#[]⟩, .slice none 0 0, .slice none 0 0] 58)).look (t := 156) (e := 58) Try.underlying3 Try.underlying156 (z := .agg #[.int .i64 0, .int .i64 0, .int .i64 0, .int .i64 0, .slice none 0 0, .int .i64 0, .int .i64 0, .string ⟨#[]⟩, .string ⟨#[]⟩, .slice none 0 0, .slice none 0 0]) (by kernel_rfl) hk
  obtain ⟨x, e1, hx, hc, hs, hr, hsome⟩ := hh.get k
  rw [e1, hsome] at hlook
  have X := Lib.hid (hx.rec hc)
  have SM := Lib.hid hs
  obtain ⟨o, ho⟩ : ∃ o, g k = o := ⟨_, rfl⟩
  rw [ho] at hlook hr ⊢
  rw [hr] at X SM
  have ONE := Lib.hid (rc_one x)
  obtain ⟨i, hi⟩ : ∃ i, o.isSome = i := ⟨_, rfl⟩
  unfold AtPost
  rw [hi] at hlook ⊢
  have A0 := Lib.hid ((Row.new w 58 [.int .i64 0, .int .i64 0, .int .i64 0, .int .i64 0, .slice none 0 0, .int .i64 0, .int .i64 0, .string ⟨#[]⟩, .string ⟨#[]⟩, .slice none 0 0, .slice none 0 0]).alloc (.cells #[.int .i64 0, .int .i64 0, .int .i64 0, .int .i64 0, .slice none 0 0, .int .i64 0, .int .i64 0, .string ⟨#[]⟩, .string ⟨#[]⟩, .slice none 0 0, .slice none 0 0] 58))
  have C0 := Lib.hid (show Row ((w.alloc (.cells #[.int .i64 0, .int .i64 0, .int .i64 0, .int .i64 0, .slice none 0 0, .int .i64 0, .int .i64 0, .string ⟨#[]⟩, .string ⟨#[]⟩, .slice none 0 0, .slice none 0 0] 58)).alloc (.cells #[.int .i64 0, .int .i64 0, .int .i64 0, .int .i64 0, .slice none 0 0, .int .i64 0, .int .i64 0, .string ⟨#[]⟩, .string ⟨#[]⟩, .slice none 0 0, .slice none 0 0] 58)) (w.heap.size + 1) 58 [.int .i64 0, .int .i64 0, .int .i64 0, .int .i64 0, .slice none 0 0, .int .i64 0, .int .i64 0, .string ⟨#[]⟩, .string ⟨#[]⟩, .slice none 0 0, .slice none 0 0] from new_at (by simp))
  have B0 := Lib.hid (((Below.refl w.heap.size w).alloc (Nat.le_refl _) (.cells #[.int .i64 0, .int .i64 0, .int .i64 0, .int .i64 0, .slice none 0 0, .int .i64 0, .int .i64 0, .string ⟨#[]⟩, .string ⟨#[]⟩, .slice none 0 0, .slice none 0 0] 58)).alloc (by simp) (.cells #[.int .i64 0, .int .i64 0, .int .i64 0, .int .i64 0, .slice none 0 0, .int .i64 0, .int .i64 0, .string ⟨#[]⟩, .string ⟨#[]⟩, .slice none 0 0, .slice none 0 0] 58))
  clear h hf hh e1 hx hc hs hsome ho hr hi
  go_enter Try.func62, Try.ntmps62
  go_wp2_with (first | (refine store_row C0.out x.recCells 58 (by kernel_rfl) rfl ONE.out rfl rfl rfl rfl ?_; intro w1 h1 k1 z1; have C1 := Lib.hid h1; have A1 := Lib.hid (A0.out.chg k1 (fun e => by have e : w.heap.size = w.heap.size + 1 := e; omega)); have B1 := Lib.hid (B0.out.trans (k1.below (B := w.heap.size) B0.out.size (fun i e => by have e : i = w.heap.size + 1 := e; omega))); clear h1 k1 z1 x1 hlook) | (refine load_row C1.out 58 Try.underlying58 rfl (by kernel_rfl) rfl rfl rfl ?_))
  refine (copied_calls _ _ _ (X.out.keep B1.out) SM.out).mono ?_
  rintro e w2 ⟨⟨v, rfl, hN⟩, k2⟩
  have A2 := Lib.hid (A1.out.below k2 A1.out.lt)
  have B2 := Lib.hid (B1.out.trans (k2.mono B1.out.size))
  have NN := Lib.hid hN
  have AL := Lib.hid A1.out.lt
  obtain ⟨b0, n0, c0, b1, n1, c1, b2, n2, c2, hv, _⟩ := hN
  subst hv
  clear k2
  go_wp2_with (refine store_row A2.out ((o.getD noRec).cells (.slice b0 n0 c0) (.slice b1 n1 c1) (.slice b2 n2 c2)) 58 (by kernel_rfl) rfl (by simp [Rec.cells, Value.oneCell']) rfl rfl rfl rfl ?_; intro w3 h3 k3 z3; have A3 := Lib.hid h3; have N3 := Lib.hid (NewRec.chg (C := w.heap.size) NN.out k3 (fun j hj e => by have e : j = w.heap.size := e; have := AL.out; omega) (by have := AL.out; omega)); have B3 := Lib.hid (B2.out.trans (k3.below (B := w.heap.size) B2.out.size (fun i e => by have e : i = w.heap.size := e; omega))); clear h3 k3 z3)
  exact ret_row2 A3.out Try.results62 Try.underlying58 rfl (by kernel_rfl) rfl rfl ⟨⟨_, rfl, N3.out⟩, B3.out⟩
theorem Dia.logset {w' : World} {last' held' : Int} (h : Dia w d B b L mb m r n g last held) (hc : Chg (One L) w w') (hr : Row w' L 158 (lcells b mb last' held')) (hl : 0 ≤ held' ∧ held' ≤ ((r.size - r.data.length : Nat) : Int)) (hz : -9223372036854775808 ≤ last' ∧ last' ≤ 9223372036854775807) : Dia w' d B b L mb m r n g last' held' := by
  obtain ⟨f, hf, hh⟩ := h.map
  obtain ⟨a1, a2, a3, a4, a5⟩ := h.apart
  exact ⟨is_chg h.reel h.pow.lt hc (fun e => a2 (show b = L from e).symm) (fun k e x => (h.hd k e).2.1 x), h.pow.chg hc (fun e => a1 (show B = L from e).symm), hr, ⟨f, hf.chg hc (fun e => a5 (show mb = L from e)), hh.chg hc (fun k _ e => .inr (.inr (.inr (.inl (show k = L from e)))))⟩, fun k e => ⟨Nat.lt_of_lt_of_le (h.hd k e).1 hc.size, (h.hd k e).2⟩, h.apart, hl, hz, h.hn⟩
theorem Dia.drewN (h : Dia w d B b L mb m r n g last held) (q : Nat) : Dia (w.drewN q) d B b L mb m r n g last held := h.below (below_drewN (Below.refl _ _) q)
def holdE (r : R) (held k : Int) : Int := if k < 0 then 1 else if ((r.size - r.data.length : Nat) : Int) - held < k then 5 else 0
def holdH (r : R) (held k : Int) : Int := if holdE r held k = 0 then held + k else held
set_option maxHeartbeats 1000000 in
theorem hold_calls (h : Dia w d B b L mb m r n g last held) (k : Int) : Calls Try.prog 59 #[.pointer (some ⟨L, 0, none⟩), .int .i64 k] w fun e w' => e = .returned (.int .i64 (holdE r held k)) ∧ Dia w' d B b L mb m r n g last (holdH r held k) ∧ Chg (One L) w w' := by
  have RC := Lib.hid (room_calls h)
  have H := Lib.hid h
  obtain ⟨l1, l2⟩ := h.hl
  obtain ⟨k1, k2, k3⟩ := h.reel.2.2.2.2.1
  by_cases c0 : k < 0
  · have e1 : holdE r held k = 1 := by unfold holdE; rw [if_pos c0]
    have e2 : holdH r held k = held := by unfold holdH; rw [e1]; rfl
    rw [e1, e2]
    clear h RC e1 e2
    go_enter Try.func59, Try.ntmps59
    go_wp2_with fail
    go_ret
    exact ⟨rfl, H.out, Chg.refl _ _⟩
  have c0' : decide (k < 0) = false := by simpa using c0
  by_cases c1 : ((r.size - r.data.length : Nat) : Int) - held < k
  · have e1 : holdE r held k = 5 := by unfold holdE; rw [if_neg c0, if_pos c1]
    have e2 : holdH r held k = held := by unfold holdH; rw [e1]; rfl
    rw [e1, e2]
    clear h e1 e2 c0
    go_enter Try.func59, Try.ntmps59
    go_wp2_with fail
    refine RC.out.mono ?_
    rintro e w1 ⟨rfl, q, rfl⟩
    go_wp2_with fail
    go_ret
    exact ⟨rfl, H.out.drewN q, (Chg.refl _ _).drewN q⟩
  have e1 : holdE r held k = 0 := by unfold holdE; rw [if_neg c0, if_neg c1]
  have e2 : holdH r held k = held + k := by unfold holdH; rw [e1]; rfl
  have c1' : decide (((r.size - r.data.length : Nat) : Int) - held < k) = false := by simpa using c1
  rw [e1, e2]
  have hb : 0 ≤ held + k ∧ held + k ≤ ((r.size - r.data.length : Nat) : Int) := by omega
  have i1 : IntKind.i64.wrap (held + k) = held + k := IntWalk.i64_in _ (by omega)
  clear h e1 e2 c0 c1
  go_enter Try.func59, Try.ntmps59
  go_wp2_with fail
  refine RC.out.mono ?_
  rintro e w1 ⟨rfl, q, rfl⟩
  have x3 := (H.out.drewN q).log.cell (i := 3) rfl
  have f3 := (H.out.drewN q).log.frozen 3 (by simp [lcells])
  go_wp2_with fail
  go_ret
  have hcc : Chg (One L) (w.drewN q) ((w.drewN q).setCell ⟨L, 3, none⟩ (.int .i64 (held + k))) := (Chg.refl _ _).put 3 _
  exact ⟨rfl, (H.out.drewN q).logset hcc (((H.out.drewN q).log.set 3 _).cast rfl) hb H.out.hz, ((Chg.refl _ _).drewN q).trans hcc⟩
def freeH (held k : Int) : Int := if 0 < k then held - (if held < k then held else k) else held
set_option maxHeartbeats 1000000 in
theorem free_calls (h : Dia w d B b L mb m r n g last held) (k : Int) : Calls Try.prog 60 #[.pointer (some ⟨L, 0, none⟩), .int .i64 k] w fun e w' => e = .returned (.tuple #[]) ∧ Dia w' d B b L mb m r n g last (freeH held k) ∧ Chg (One L) w w' := by
  have H := Lib.hid h
  obtain ⟨l1, l2⟩ := h.hl
  obtain ⟨k1, k2, k3⟩ := h.reel.2.2.2.2.1
  by_cases c0 : 0 < k
  · obtain ⟨z, hz⟩ : ∃ z, (if held < k then held else k) = z := ⟨_, rfl⟩
    have e1 : freeH held k = held - z := by unfold freeH; rw [if_pos c0, hz]
    rw [e1]
    have hb : 0 ≤ held - z ∧ held - z ≤ ((r.size - r.data.length : Nat) : Int) := by rw [← hz]; split <;> omega
    have hmin : ∀ W, (Builtin.min_ #[3, 3] 3 #[.int .i64 k, .int .i64 held]).run Try.prog W = .ok (.int .i64 z) W := fun W => by
      rw [min_of_two, min2_ints, hz]
      simp
    have i1 : IntKind.i64.wrap (held - z) = held - z := IntWalk.i64_in _ (by omega)
    have X := Lib.hid h.log
    clear h hz e1
    go_enter Try.func60, Try.ntmps60
    go_wp2_with fail
    replace X := Lib.hid X.out.drew
    replace H := Lib.hid (H.out.below (Below.refl _ _).drew)
    have CW := Lib.hid (Chg.refl (One L) w).drew
    refine Reg.start (fun w' => w'.cell? ⟨L, 3, none⟩ = some (.int .i64 held)) (fun i => i == 13) (by kernel_rfl) (X.out.cell rfl) (fun hHeld => ?_)
    generalize w.drew = wd at *
    refine Reg.takeI 0 (v := ?_) rfl (by kernel_rfl) (by kernel_rfl) (by kernel_rfl) (by kernel_rfl) (fun _ _ _ h => h) (by rfl) ?_ hHeld ?_
    rotate_left 1
    · (intro w hSw; (try dsimp only at hSw); go_simp; try with_reducible rfl)
    try simp only [Act.put, List.setIfInBounds_toArray, List.set_cons_zero, List.set_cons_succ]
    refine Reg.takeI 1 (v := ?_) rfl (by kernel_rfl) (by kernel_rfl) (by kernel_rfl) (by kernel_rfl) (fun _ _ _ h => h) (by rfl) ?_ hHeld ?_
    rotate_left 1
    · (intro w hSw; (try dsimp only at hSw); go_simp; try with_reducible rfl)
    try simp only [Act.put, List.setIfInBounds_toArray, List.set_cons_zero, List.set_cons_succ]
    refine Reg.takeI 2 (v := ?_) rfl (by kernel_rfl) (by kernel_rfl) (by kernel_rfl) (by kernel_rfl) (fun _ _ _ h => h) (by rfl) ?_ hHeld ?_
    rotate_left 1
    · (intro w hSw; (try dsimp only at hSw); go_simp; try with_reducible rfl)
    try simp only [Act.put, List.setIfInBounds_toArray, List.set_cons_zero, List.set_cons_succ]
    refine Reg.takeI 3 (v := ?_) rfl (by kernel_rfl) (by kernel_rfl) (by kernel_rfl) (by kernel_rfl) (fun _ _ _ h => h) (by rfl) ?_ hHeld ?_
    rotate_left 1
    · (intro w hSw; (try dsimp only at hSw); go_simp; try with_reducible rfl)
    try simp only [Act.put, List.setIfInBounds_toArray, List.set_cons_zero, List.set_cons_succ]
    refine Reg.takeI 4 (v := ?_) rfl (by kernel_rfl) (by kernel_rfl) (by kernel_rfl) (by kernel_rfl) (fun _ _ _ h => h) (by rfl) ?_ hHeld ?_
    rotate_left 1
    · (intro w hSw; (try dsimp only at hSw); go_simp; try with_reducible rfl)
    try simp only [Act.put, List.setIfInBounds_toArray, List.set_cons_zero, List.set_cons_succ]
    refine Reg.takeI 5 (v := ?_) rfl (by kernel_rfl) (by kernel_rfl) (by kernel_rfl) (by kernel_rfl) (fun _ _ _ h => h) (by rfl) ?_ hHeld ?_
    rotate_left 1
    · (intro w hSw; (try dsimp only at hSw); go_simp; try with_reducible rfl)
    try simp only [Act.put, List.setIfInBounds_toArray, List.set_cons_zero, List.set_cons_succ]
    refine Reg.takeI 6 (v := ?_) rfl (by kernel_rfl) (by kernel_rfl) (by kernel_rfl) (by kernel_rfl) (fun _ _ _ h => h) (by rfl) ?_ hHeld ?_
    rotate_left 1
    · (intro w hSw; (try dsimp only at hSw); go_simp; try with_reducible rfl)
    try simp only [Act.put, List.setIfInBounds_toArray, List.set_cons_zero, List.set_cons_succ]
    refine Reg.takeI 7 (v := ?_) rfl (by kernel_rfl) (by kernel_rfl) (by kernel_rfl) (by kernel_rfl) (fun _ _ _ h => h) (by rfl) ?_ hHeld ?_
    rotate_left 1
    · (intro w hSw; (try dsimp only at hSw); go_simp; try with_reducible rfl)
    try simp only [Act.put, List.setIfInBounds_toArray, List.set_cons_zero, List.set_cons_succ]
    refine Reg.takeI 8 (v := ?_) rfl (by kernel_rfl) (by kernel_rfl) (by kernel_rfl) (by kernel_rfl) (fun _ _ _ h => h) (by rfl) ?_ hHeld ?_
    rotate_left 1
    · (intro w hSw; (try dsimp only at hSw); go_simp; try with_reducible rfl)
    try simp only [Act.put, List.setIfInBounds_toArray, List.set_cons_zero, List.set_cons_succ]
    refine Reg.takeI 9 (v := ?_) rfl (by kernel_rfl) (by kernel_rfl) (by kernel_rfl) (by kernel_rfl) (fun _ _ _ h => h) (by rfl) ?_ hHeld ?_
    rotate_left 1
    · (intro w hSw; (try dsimp only at hSw); go_simp; try with_reducible rfl)
    try simp only [Act.put, List.setIfInBounds_toArray, List.set_cons_zero, List.set_cons_succ]
    refine Reg.takeI 10 (v := ?_) rfl (by kernel_rfl) (by kernel_rfl) (by kernel_rfl) (by kernel_rfl) (fun _ _ _ h => h) (by rfl) ?_ hHeld ?_
    rotate_left 1
    · (intro w hSw; (try dsimp only at hSw); go_simp; try with_reducible rfl)
    try simp only [Act.put, List.setIfInBounds_toArray, List.set_cons_zero, List.set_cons_succ]
    refine Reg.oneI 11 rfl (by kernel_rfl) (by rfl) (fun K hK => ?_)
    go_simp
    refine hK.out _ _ (fun _ => (X.out.cell rfl)) (fun hHeld => ?_)
    replace hHeld := hHeld (by first | rfl | trivial)
    clear hK K
    try simp only [Act.put, List.setIfInBounds_toArray, List.set_cons_zero, List.set_cons_succ]
    refine Reg.takeI 12 (v := ?_) rfl (by kernel_rfl) (by kernel_rfl) (by kernel_rfl) (by kernel_rfl) (fun _ _ _ h => h) (by rfl) ?_ hHeld ?_
    rotate_left 1
    · (intro w hSw; (try dsimp only at hSw); go_simp; try with_reducible rfl)
    try simp only [Act.put, List.setIfInBounds_toArray, List.set_cons_zero, List.set_cons_succ]
    refine Reg.oneI 13 rfl (by kernel_rfl) (by rfl) (fun K hK => ?_)
    have x3 := X.out.cell (i := 3) rfl
    have f3 := X.out.frozen 3 (by simp [lcells])
    go_simp
    refine hK.out _ _ (fun h => by cases h) (fun _ => ?_)
    clear hK K
    try simp only [Act.put, List.setIfInBounds_toArray, List.set_cons_zero, List.set_cons_succ]
    refine Reg.doneI (by kernel_rfl) ?_
    go_wp2_with fail
    go_end0
    have hcc : Chg (One L) wd (wd.setCell ⟨L, 3, none⟩ (.int .i64 (held - z))) := (Chg.refl _ _).put 3 _
    exact ⟨rfl, H.out.logset hcc ((X.out.set 3 _).cast rfl) hb H.out.hz, CW.out.trans hcc⟩
  · have c0' : decide (0 < k) = false := by simpa using c0
    have e1 : freeH held k = held := by unfold freeH; rw [if_neg c0]
    rw [e1]
    clear h e1
    go_enter Try.func60, Try.ntmps60
    go_wp2_with fail
    go_end0
    exact ⟨rfl, H.out, Chg.refl _ _⟩
/-- A row that is a block of its own is loaded, in whatever world. -/
theorem exec_row {P : Program} {o : Oper} {a : Act} {w : World} {b : Nat} {e : TypeId} {cs : List Value} (hr : Row w b e cs) (ty : TypeId) {d : TypeDesc} (hu : P.underlying ty = some d) (hd : d.isRow = true) (hs : (P.info? ty).map (·.size) = some cs.length)
    {y : Operand} (ho : o.op = .load ty y) (hy : a.eval y = .pointer (some ⟨b, 0, none⟩)) : (execOp a.eval o).run P w = .ok (.value (.agg cs.toArray)) w := by
  have hl : (loadCells ⟨b, 0, none⟩ cs.length).run P w = .ok cs.toArray w :=
    run_loadCells_list (P := P) w _ _ (fun j v hv => by
      have ha : (⟨b, 0, none⟩ : Addr).add j = ⟨b, j, none⟩ := by unfold Addr.add; split <;> simp_all
      rw [ha]
      exact hr.cell hv)
  have hv : (loadVar ty ⟨b, 0, none⟩).run P w = .ok (.agg cs.toArray) w := by
    cases hq : P.info? ty with
    | none => simp [hq] at hs
    | some i0 =>
      have hs' : i0.size = cs.length := by simpa [hq] using hs
      have hagg : (isAgg ty).run P w = .ok true w := by
        unfold isAgg
        rw [Sem.run_bind, run_underlying hu w]
        cases d <;> simp_all
      simp [loadVar, Sem.run_bind, hagg, sizeOf, typeInfo, hq, hs', hl]
  unfold execOp
  simp only [ho, hy, Instr.loadAt, Instr.sureAddr, Sem.run_bind, Sem.run_pure, Result.andThen_ok, hv]
theorem NewRec.keep {A : Nat} {w' : World} {v : Value} {q : Rec} (h : NewRec A w v q) (hb : Below w.heap.size w w') : NewRec A w' v q := by
  obtain ⟨a0, n0, c0, a1, n1, c1, a2, n2, c2, e, ⟨p0, p1, p2⟩, z, u⟩ := h
  exact ⟨a0, n0, c0, a1, n1, c1, a2, n2, c2, e, ⟨p0.keep hb, p1.keep hb, p2.keep hb⟩, z, u⟩
/-- A new record in a world, with its parts told. -/
theorem NewRec.size_calls {A : Nat} {v : Value} {q : Rec} (h : NewRec A w v q) (hs : q.small) : Calls Try.prog 65 #[v] w fun e w' => e = .returned (.int .i64 (q.size : Int)) ∧ Below w.heap.size w w' := by
  obtain ⟨a0, n0, c0, a1, n1, c1, a2, n2, c2, rfl, ⟨p0, p1, p2⟩, _⟩ := h
  obtain ⟨s0, s1, s2, s3, s4⟩ := hs
  rw [p0.1] at s0
  rw [p1.1] at s1
  rw [p2.1] at s2
  exact Note.size_calls q a0 n0 c0 a1 n1 c1 a2 n2 c2 w p0 p1 p2 s3 s4 s0 s1 s2
def isSafe (r : R) (k : Int) (o : Option Rec) : Bool := match o with
  | none => false
  | some q => decide (k - 1 + (q.size : Int) ≤ (r.safe : Int))
set_option maxHeartbeats 2000000 in
theorem issafe_calls (h : Dia w d B b L mb m r n g last held) (k : Int) (hk : (Lit.int .i64 k).wf = true) (hkb : ∀ q, g k = some q → 1 ≤ k ∧ k ≤ 1000000 ∧ q.size ≤ 1000000) :
    Calls Try.prog 63 #[.pointer (some ⟨L, 0, none⟩), .int .i64 k] w fun e w' => e = .returned (.bool (isSafe r k (g k))) ∧ Below w.heap.size w w' := by
  have AC := Lib.hid (at_calls h k hk)
  have HH := Lib.hid h
  obtain ⟨f, hf, hh⟩ := h.map
  obtain ⟨x, e1, hx, hc, hs, hr, hsome⟩ := hh.get k
  rw [hr] at hs
  have SM := Lib.hid hs
  obtain ⟨o, ho⟩ : ∃ o, g k = o := ⟨_, rfl⟩
  rw [ho] at SM AC hkb ⊢
  obtain ⟨sf, hsf⟩ : ∃ sf, isSafe r k o = sf := ⟨_, rfl⟩
  rw [hsf]
  have HSF := Lib.hid hsf
  clear h hf hh e1 hx hc hs hsome ho hr hsf
  go_enter Try.func63, Try.ntmps63
  go_wp2_with fail
  refine AC.out.mono ?_
  rintro e w1 ⟨⟨v, rfl, hN⟩, k1⟩
  have B1 := Lib.hid k1
  have H1 := Lib.hid (HH.out.below k1)
  have NN := Lib.hid hN
  obtain ⟨b0, n0, c0, b1, n1, c1, b2, n2, c2, hv, _⟩ := hN
  subst hv
  have C0 := Lib.hid (Row.new w1 58 [.int .i64 0, .int .i64 0, .int .i64 0, .int .i64 0, .slice none 0 0, .int .i64 0, .int .i64 0, .string ⟨#[]⟩, .string ⟨#[]⟩, .slice none 0 0, .slice none 0 0])
  have B2 := Lib.hid ((Below.refl w1.heap.size w1).alloc (Nat.le_refl _) (.cells #[.int .i64 0, .int .i64 0, .int .i64 0, .int .i64 0, .slice none 0 0, .int .i64 0, .int .i64 0, .string ⟨#[]⟩, .string ⟨#[]⟩, .slice none 0 0, .slice none 0 0] 58))
  clear k1 AC
  cases o with
  | none =>
    go_wp2_with (refine store_row C0.out ((Option.none.getD noRec).cells (.slice b0 n0 c0) (.slice b1 n1 c1) (.slice b2 n2 c2)) 58 (by kernel_rfl) rfl (by simp [Rec.cells, Value.oneCell']) rfl rfl rfl rfl ?_; intro w3 h3 k3 z3; have C3 := Lib.hid h3; have B3 := Lib.hid (B2.out.trans (k3.below (B := w1.heap.size) B2.out.size (fun i e => by have e : i = w1.heap.size := e; omega))); clear h3 k3 z3)
    clear C0 C3
    obtain rfl : false = sf := HSF.out
    have KB := Lib.hid (Below.refl w3.heap.size w3).drew
    refine Reg.start (fun w' => Below w3.heap.size w3 w') (fun i => false) (by kernel_rfl) KB.out (fun hHeld => ?_)
    generalize w3.drew = wd at *
    refine Reg.takeI 0 (v := ?_) rfl (by kernel_rfl) (by kernel_rfl) (by kernel_rfl) (by kernel_rfl) (fun _ _ _ h => h) (by rfl) ?_ hHeld ?_
    rotate_left 1
    · (intro w hSw; (try dsimp only at hSw); go_simp; try with_reducible rfl)
    try simp only [Act.put, List.setIfInBounds_toArray, List.set_cons_zero, List.set_cons_succ]
    refine Reg.takeI 1 (v := ?_) rfl (by kernel_rfl) (by kernel_rfl) (by kernel_rfl) (by kernel_rfl) (fun _ _ _ h => h) (by rfl) ?_ hHeld ?_
    rotate_left 1
    · (intro w hSw; (try dsimp only at hSw); go_simp; try with_reducible rfl)
    try simp only [Act.put, List.setIfInBounds_toArray, List.set_cons_zero, List.set_cons_succ]
    refine Reg.passI 2 rfl (by kernel_rfl) (by kernel_rfl) (by kernel_rfl) (by kernel_rfl) (fun _ _ _ h => h) (by rfl) hHeld ?_
    try simp only [Act.put, List.setIfInBounds_toArray, List.set_cons_zero, List.set_cons_succ]
    refine Reg.passI 3 rfl (by kernel_rfl) (by kernel_rfl) (by kernel_rfl) (by kernel_rfl) (fun _ _ _ h => h) (by rfl) hHeld ?_
    try simp only [Act.put, List.setIfInBounds_toArray, List.set_cons_zero, List.set_cons_succ]
    refine Reg.passI 4 rfl (by kernel_rfl) (by kernel_rfl) (by kernel_rfl) (by kernel_rfl) (fun _ _ _ h => h) (by rfl) hHeld ?_
    try simp only [Act.put, List.setIfInBounds_toArray, List.set_cons_zero, List.set_cons_succ]
    refine Reg.passI 5 rfl (by kernel_rfl) (by kernel_rfl) (by kernel_rfl) (by kernel_rfl) (fun _ _ _ h => h) (by rfl) hHeld ?_
    try simp only [Act.put, List.setIfInBounds_toArray, List.set_cons_zero, List.set_cons_succ]
    refine Reg.passI 6 rfl (by kernel_rfl) (by kernel_rfl) (by kernel_rfl) (by kernel_rfl) (fun _ _ _ h => h) (by rfl) hHeld ?_
    try simp only [Act.put, List.setIfInBounds_toArray, List.set_cons_zero, List.set_cons_succ]
    refine Reg.passI 7 rfl (by kernel_rfl) (by kernel_rfl) (by kernel_rfl) (by kernel_rfl) (fun _ _ _ h => h) (by rfl) hHeld ?_
    try simp only [Act.put, List.setIfInBounds_toArray, List.set_cons_zero, List.set_cons_succ]
    refine Reg.passI 8 rfl (by kernel_rfl) (by kernel_rfl) (by kernel_rfl) (by kernel_rfl) (fun _ _ _ h => h) (by rfl) hHeld ?_
    try simp only [Act.put, List.setIfInBounds_toArray, List.set_cons_zero, List.set_cons_succ]
    refine Reg.passI 9 rfl (by kernel_rfl) (by kernel_rfl) (by kernel_rfl) (by kernel_rfl) (fun _ _ _ h => h) (by rfl) hHeld ?_
    try simp only [Act.put, List.setIfInBounds_toArray, List.set_cons_zero, List.set_cons_succ]
    refine Reg.passI 10 rfl (by kernel_rfl) (by kernel_rfl) (by kernel_rfl) (by kernel_rfl) (fun _ _ _ h => h) (by rfl) hHeld ?_
    try simp only [Act.put, List.setIfInBounds_toArray, List.set_cons_zero, List.set_cons_succ]
    refine Reg.passI 11 rfl (by kernel_rfl) (by kernel_rfl) (by kernel_rfl) (by kernel_rfl) (fun _ _ _ h => h) (by rfl) hHeld ?_
    try simp only [Act.put, List.setIfInBounds_toArray, List.set_cons_zero, List.set_cons_succ]
    refine Reg.passI 12 rfl (by kernel_rfl) (by kernel_rfl) (by kernel_rfl) (by kernel_rfl) (fun _ _ _ h => h) (by rfl) hHeld ?_
    try simp only [Act.put, List.setIfInBounds_toArray, List.set_cons_zero, List.set_cons_succ]
    refine Reg.takeI 13 (v := ?_) rfl (by kernel_rfl) (by kernel_rfl) (by kernel_rfl) (by kernel_rfl) (fun _ _ _ h => h) (by rfl) ?_ hHeld ?_
    rotate_left 1
    · (intro w hSw; (try dsimp only at hSw); go_simp; try with_reducible rfl)
    try simp only [Act.put, List.setIfInBounds_toArray, List.set_cons_zero, List.set_cons_succ]
    refine Reg.takeI 14 (v := ?_) rfl (by kernel_rfl) (by kernel_rfl) (by kernel_rfl) (by kernel_rfl) (fun _ _ _ h => h) (by rfl) ?_ hHeld ?_
    rotate_left 1
    · (intro w hSw; (try dsimp only at hSw); go_simp; try with_reducible rfl)
    try simp only [Act.put, List.setIfInBounds_toArray, List.set_cons_zero, List.set_cons_succ]
    refine Reg.doneI (by kernel_rfl) ?_
    go_wp2_with fail
    go_ret
    exact ⟨rfl, B1.out.trans ((B3.out.trans (KB.out.mono B3.out.size)).mono B1.out.size)⟩
  | some q =>
    obtain ⟨kb1, kb2, kb3⟩ := hkb q rfl
    clear hkb
    go_wp2_with (refine store_row C0.out (((some q).getD noRec).cells (.slice b0 n0 c0) (.slice b1 n1 c1) (.slice b2 n2 c2)) 58 (by kernel_rfl) rfl (by simp [Rec.cells, Value.oneCell']) rfl rfl rfl rfl ?_; intro w3 h3 k3 z3; have C3 := Lib.hid h3; have B3 := Lib.hid (B2.out.trans (k3.below (B := w1.heap.size) B2.out.size (fun i e => by have e : i = w1.heap.size := e; omega))); clear h3 k3 z3)
    have H3 := Lib.hid (H1.out.below B3.out)
    have x0 := H3.out.log.cell (i := 0) rfl
    have X0 := Lib.hid x0
    have XL := Lib.hid H3.out.log.lt
    have N3 := Lib.hid (NewRec.keep NN.out B3.out)
    have i1 : IntKind.i64.wrap (k - 1) = k - 1 := IntWalk.i64_in _ (by omega)
    have i2 : IntKind.i64.wrap (k - 1 + (q.size : Int)) = k - 1 + (q.size : Int) := IntWalk.i64_in _ (by omega)
    have KB := Lib.hid (show Below w3.heap.size w3 w3.drew ∧ w3.drew.cell? ⟨L, 0, none⟩ = some (.pointer (some ⟨b, 0, none⟩)) from ⟨(Below.refl w3.heap.size w3).drew, x0⟩)
    clear C0 x0 H1
    have hsf2 : decide (k - 1 + (q.size : Int) ≤ (r.safe : Int)) = sf := HSF.out
    have KX := Lib.hid (fun (wx : World) (hb : Below w3.heap.size w3 wx) => (show wx.cell? ⟨L, 0, none⟩ = some (.pointer (some ⟨b, 0, none⟩)) from (hb.cell (p := ⟨L, 0, none⟩) XL.out).trans X0.out))
    refine Reg.start (fun w' => Below w3.heap.size w3 w' ∧ w'.cell? ⟨L, 0, none⟩ = some (.pointer (some ⟨b, 0, none⟩))) (fun i => false) (by kernel_rfl) KB.out (fun hHeld => ?_)
    generalize w3.drew = wd at *
    refine Reg.takeI 0 (v := ?_) rfl (by kernel_rfl) (by kernel_rfl) (by kernel_rfl) (by kernel_rfl) (fun _ _ _ h => h) (by rfl) ?_ hHeld ?_
    rotate_left 1
    · (intro w hSw; (try dsimp only at hSw); go_simp; try with_reducible rfl)
    try simp only [Act.put, List.setIfInBounds_toArray, List.set_cons_zero, List.set_cons_succ]
    refine Reg.takeI 1 (v := ?_) rfl (by kernel_rfl) (by kernel_rfl) (by kernel_rfl) (by kernel_rfl) (fun _ _ _ h => h) (by rfl) ?_ hHeld ?_
    rotate_left 1
    · (intro w hSw; (try dsimp only at hSw); go_simp; try with_reducible rfl)
    try simp only [Act.put, List.setIfInBounds_toArray, List.set_cons_zero, List.set_cons_succ]
    refine Reg.takeI 2 (v := ?_) rfl (by kernel_rfl) (by kernel_rfl) (by kernel_rfl) (by kernel_rfl) (fun _ _ _ h => h) (by rfl) ?_ hHeld ?_
    rotate_left 1
    · (intro w hSw; (try dsimp only at hSw); go_simp; try with_reducible rfl)
    try simp only [Act.put, List.setIfInBounds_toArray, List.set_cons_zero, List.set_cons_succ]
    refine Reg.takeI 3 (v := ?_) rfl (by kernel_rfl) (by kernel_rfl) (by kernel_rfl) (by kernel_rfl) (fun _ _ _ h => h) (by rfl) ?_ hHeld ?_
    rotate_left 1
    · (intro w hSw; (try dsimp only at hSw); go_simp; try with_reducible rfl)
    try simp only [Act.put, List.setIfInBounds_toArray, List.set_cons_zero, List.set_cons_succ]
    refine Reg.takeI 4 (v := .agg ((q.cells (.slice b0 n0 c0) (.slice b1 n1 c1) (.slice b2 n2 c2))).toArray) rfl (by kernel_rfl) (by kernel_rfl) (by kernel_rfl) (by kernel_rfl) (fun _ _ _ h => h) (by rfl) ?_ hHeld ?_
    · intro w hSw
      exact exec_row (C3.out.below hSw.1 C3.out.lt) 58 Try.underlying58 rfl (by kernel_rfl) (by rfl) (by rfl)
    try simp only [Act.put, List.setIfInBounds_toArray, List.set_cons_zero, List.set_cons_succ]
    refine Reg.takeI 7 (v := ?_) rfl (by kernel_rfl) (by kernel_rfl) (by kernel_rfl) (by kernel_rfl) (fun _ _ _ h => h) (by rfl) ?_ hHeld ?_
    rotate_left 1
    · (intro w hSw; (try dsimp only at hSw); go_simp; try with_reducible rfl)
    try simp only [Act.put, List.setIfInBounds_toArray, List.set_cons_zero, List.set_cons_succ]
    refine Reg.takeI 8 (v := ?_) rfl (by kernel_rfl) (by kernel_rfl) (by kernel_rfl) (by kernel_rfl) (fun _ _ _ h => h) (by rfl) ?_ hHeld ?_
    rotate_left 1
    · (intro w hSw; (try dsimp only at hSw); go_simp; try with_reducible rfl)
    try simp only [Act.put, List.setIfInBounds_toArray, List.set_cons_zero, List.set_cons_succ]
    refine Reg.takeI 9 (v := ?_) rfl (by kernel_rfl) (by kernel_rfl) (by kernel_rfl) (by kernel_rfl) (fun _ _ _ h => h) (by rfl) ?_ hHeld ?_
    rotate_left 1
    · (intro w hSw; (try dsimp only at hSw); go_simp; try with_reducible rfl)
    try simp only [Act.put, List.setIfInBounds_toArray, List.set_cons_zero, List.set_cons_succ]
    refine Reg.takeI 10 (v := ?_) rfl (by kernel_rfl) (by kernel_rfl) (by kernel_rfl) (by kernel_rfl) (fun _ _ _ h => h) (by rfl) ?_ hHeld ?_
    rotate_left 1
    · (intro w hSw; (try dsimp only at hSw); go_simp; try with_reducible rfl)
    try simp only [Act.put, List.setIfInBounds_toArray, List.set_cons_zero, List.set_cons_succ]
    refine Reg.oneI 5 rfl (by kernel_rfl) (by rfl) (fun K hK => ?_)
    go_simp
    go_at_call 65
    refine (NewRec.size_calls (NewRec.keep N3.out KB.out.1) SM.out).mono ?_
    rintro e w5 ⟨rfl, k5⟩
    replace KB := Lib.hid (show Below w3.heap.size w3 w5 ∧ _ from ⟨KB.out.1.trans (k5.mono KB.out.1.size), KX.out _ (KB.out.1.trans (k5.mono KB.out.1.size))⟩)
    clear k5
    go_wp2_with fail
    refine hK.out _ _ (fun _ => KB.out) (fun hHeld => ?_)
    replace hHeld := hHeld (by first | rfl | trivial)
    clear hK K
    try simp only [Act.put, List.setIfInBounds_toArray, List.set_cons_zero, List.set_cons_succ]
    refine Reg.takeI 6 (v := ?_) rfl (by kernel_rfl) (by kernel_rfl) (by kernel_rfl) (by kernel_rfl) (fun _ _ _ h => h) (by rfl) ?_ hHeld ?_
    rotate_left 1
    · (intro w hSw; (try dsimp only at hSw); go_simp; try with_reducible rfl)
    try simp only [Act.put, List.setIfInBounds_toArray, List.set_cons_zero, List.set_cons_succ]
    refine Reg.oneI 11 rfl (by kernel_rfl) (by rfl) (fun K hK => ?_)
    go_simp
    go_at_call 30
    refine (safe_calls _ _ _ _ _ (H3.out.below KB.out.1).reel).mono ?_
    rintro e w6 ⟨rfl, rfl⟩
    go_wp2_with fail
    refine hK.out _ _ (fun _ => KB.out) (fun hHeld => ?_)
    replace hHeld := hHeld (by first | rfl | trivial)
    clear hK K
    try simp only [Act.put, List.setIfInBounds_toArray, List.set_cons_zero, List.set_cons_succ]
    refine Reg.takeI 12 (v := ?_) rfl (by kernel_rfl) (by kernel_rfl) (by kernel_rfl) (by kernel_rfl) (fun _ _ _ h => h) (by rfl) ?_ hHeld ?_
    rotate_left 1
    · (intro w hSw; (try dsimp only at hSw); go_simp; try with_reducible rfl)
    try simp only [Act.put, List.setIfInBounds_toArray, List.set_cons_zero, List.set_cons_succ]
    refine Reg.takeI 13 (v := ?_) rfl (by kernel_rfl) (by kernel_rfl) (by kernel_rfl) (by kernel_rfl) (fun _ _ _ h => h) (by rfl) ?_ hHeld ?_
    rotate_left 1
    · (intro w hSw; (try dsimp only at hSw); go_simp; try with_reducible rfl)
    try simp only [Act.put, List.setIfInBounds_toArray, List.set_cons_zero, List.set_cons_succ]
    refine Reg.takeI 14 (v := ?_) rfl (by kernel_rfl) (by kernel_rfl) (by kernel_rfl) (by kernel_rfl) (fun _ _ _ h => h) (by rfl) ?_ hHeld ?_
    rotate_left 1
    · (intro w hSw; (try dsimp only at hSw); go_simp; try with_reducible rfl)
    try simp only [Act.put, List.setIfInBounds_toArray, List.set_cons_zero, List.set_cons_succ]
    refine Reg.doneI (by kernel_rfl) ?_
    go_wp2_with fail
    go_ret
    exact ⟨rfl, B1.out.trans ((B3.out.trans (KB.out.1.mono B3.out.size)).mono B1.out.size)⟩
end
end Go.Proofs.Ytcfjooeagfollaa.Dia

/- A log on a reel: Force, Add. -/
namespace Go.Proofs.Ytcfjooeagfollaa.Dia
open Go.RowKit Go.Proofs.Ytcfjooeagfollaa.Mem Go.Proofs.Ytcfjooeagfollaa.Bytes Go.Proofs.Ytcfjooeagfollaa.Mains Go.Proofs.Ytcfjooeagfollaa.Reel Go.Proofs.Ytcfjooeagfollaa.Note
set_option linter.unusedSimpArgs false
set_option linter.unusedVariables false
set_option maxRecDepth 20000

theorem Held.chg2 {S S' C : Nat → Prop} {w w' : World} {f : Int → Option Value} {g : Int → Option Rec} (h : Held w S f g) (hc : Chg C w w') (hs : ∀ k, k < w.heap.size → C k → S k) (ht : ∀ k, S' k → S k ∨ w.heap.size ≤ k) : Held w' S' f g := by
  intro k
  have h1 := h k
  split
  · rename_i e
    rw [e] at h1
    exact h1
  · rename_i v e
    rw [e] at h1
    obtain ⟨x, h1, h2, h3, h4, h5, h6⟩ := h1
    have hb := h5.both h3.off
    exact ⟨x, h1, h2, h3.chg hc (hb.mono (fun j hj => by
      rcases Nat.lt_or_ge j w.heap.size with h' | h'
      · exact .inl (hs j h' hj)
      · exact .inr h')), h4, hb.mono (fun j hj => ht j hj), h6⟩
section
variable {w w' : World} {d : Option Nat} {B b L mb : Nat} {m m' : M} {r r' : R} {n : Nat} {g : Int → Option Rec} {last held : Int}
theorem Dia.off (h : Dia w d B b L mb m r n g last held) {k : Nat} (hk : k = L ∨ k = mb) : ¬ Reel.Own (Tight d w) B b k := by
  obtain ⟨f, hf, hh⟩ := h.map
  obtain ⟨a1, a2, a3, a4, a5⟩ := h.apart
  rintro (e | e | e | e)
  · rcases hk with rfl | rfl <;> omega
  · rcases hk with rfl | rfl <;> omega
  · rcases hk with rfl | rfl
    · exact (h.hd _ e).2.1 rfl
    · exact (h.hd _ e).2.2 rfl
  · have := h.log.lt
    have := hf.lt
    rcases hk with rfl | rfl <;> omega
/-- Behind a deed of the reel's. -/
theorem Dia.reeled (h : Dia w d B b L mb m r n g last held) (hR : Reel.Is w' (Tight d w) B b r') (hM : Row w' B 147 m'.cells) (hc : Chg (Reel.Own (Tight d w) B b) w w') (hl : 0 ≤ held ∧ held ≤ ((r'.size - r'.data.length : Nat) : Int)) :
    ∃ d', Dia w' d' B b L mb m' r' n g last held ∧ ∀ k, d' = some k → d = some k ∨ w.heap.size ≤ k := by
  obtain ⟨f, hf, hh⟩ := h.map
  obtain ⟨d', hd', hT⟩ := is_tight hR
  have hlL := h.log.lt
  have hlM := hf.lt
  refine ⟨d', ⟨hT, hM, h.log.chg hc (h.off (.inl rfl)), ⟨f, hf.chg hc (h.off (.inr rfl)), hh.chg2 hc (fun k hk e => ?_) (fun k e => ?_)⟩, fun k e => ?_, h.apart, hl, h.hz, h.hn⟩, fun k e => (hd' k e).1⟩
  · rcases e with e | e | e | e
    · exact .inr (.inl e)
    · exact .inr (.inr (.inl e))
    · exact .inl e
    · omega
  · rcases e with e | e | e | e | e
    · rcases (hd' k e).1 with e2 | e2
      · exact .inl (.inl e2)
      · exact .inr e2
    · exact .inl (.inr (.inl e))
    · exact .inl (.inr (.inr (.inl e)))
    · exact .inl (.inr (.inr (.inr (.inl e))))
    · exact .inl (.inr (.inr (.inr (.inr e))))
  · refine ⟨(hd' k e).2, ?_, ?_⟩
    · rcases (hd' k e).1 with e2 | e2
      · exact (h.hd k e2).2.1
      · omega
    · rcases (hd' k e).1 with e2 | e2
      · exact (h.hd k e2).2.2
      · omega
def forceE (m : M) (r : R) (k : Int) (o : Option Rec) : Int := if o = none then 1 else if isSafe r k o then 0 else m.errUse
def forceR (m : M) (r : R) (k : Int) (o : Option Rec) : R := if o = none then r else if isSafe r k o then r else syncR m r
def forceM (m : M) (r : R) (k : Int) (o : Option Rec) : M := if o = none then m else if isSafe r k o then m else m.used
set_option maxHeartbeats 2000000 in
theorem force_calls (h : Dia w d B b L mb m r n g last held) (k : Int) (hk : (Lit.int .i64 k).wf = true) (hkb : ∀ q, g k = some q → 1 ≤ k ∧ k ≤ 1000000 ∧ q.size ≤ 1000000) (hfu : -1 ≤ m.fuse ∧ m.fuse ≤ 9223372036854775807) :
    Calls Try.prog 56 #[.pointer (some ⟨L, 0, none⟩), .int .i64 k] w fun e w' => e = .returned (.int .i64 (forceE m r k (g k))) ∧ (∃ d', Dia w' d' B b L mb (forceM m r k (g k)) (forceR m r k (g k)) n g last held ∧ ∀ k, d' = some k → d = some k ∨ w.heap.size ≤ k) ∧ Chg (Reel.Own (Tight d w) B b) w w' := by
  obtain ⟨f, hf, hh⟩ := h.map
  have x1 := h.log.cell (i := 1) rfl
  have hlook := hf.look (t := 156) (e := 58) Try.underlying3 Try.underlying156 (z := .agg #[.int .i64 0, .int .i64 0, .int .i64 0, .int .i64 0, .slice none 0 0, .int .i64 0, .int .i64 0, .string ⟨#[]⟩, .string ⟨#[]⟩, .slice none 0 0, .slice none 0 0]) (by kernel_rfl) hk
  obtain ⟨x, e1, hx, hc, hs, hr, hsome⟩ := hh.get k
  rw [e1, hsome] at hlook
  have ONE := Lib.hid (rc_one x)
  have SC := Lib.hid (fun (w1 : World) (hb : Below w.heap.size w w1) => issafe_calls (h.below hb) k hk hkb)
  have HH := Lib.hid h
  obtain ⟨o, ho⟩ : ∃ o, g k = o := ⟨_, rfl⟩
  rw [ho] at hlook SC ⊢
  have C0 := Lib.hid (Row.new w 58 [.int .i64 0, .int .i64 0, .int .i64 0, .int .i64 0, .slice none 0 0, .int .i64 0, .int .i64 0, .string ⟨#[]⟩, .string ⟨#[]⟩, .slice none 0 0, .slice none 0 0])
  have B0 := Lib.hid ((Below.refl w.heap.size w).alloc (Nat.le_refl _) (.cells #[.int .i64 0, .int .i64 0, .int .i64 0, .int .i64 0, .slice none 0 0, .int .i64 0, .int .i64 0, .string ⟨#[]⟩, .string ⟨#[]⟩, .slice none 0 0, .slice none 0 0] 58))
  clear h hf hh e1 hx hc hs hsome ho hr hkb
  cases o with
  | none =>
    have e1 : forceE m r k none = 1 := rfl
    have e2 : forceR m r k none = r := rfl
    have e3 : forceM m r k none = m := rfl
    rw [e1, e2, e3]
    clear e1 e2 e3 SC
    simp only [Option.isSome_none] at hlook
    go_enter Try.func56, Try.ntmps56
    go_wp2_with (refine store_row C0.out x.recCells 58 (by kernel_rfl) rfl ONE.out rfl rfl rfl rfl ?_; intro w1 h1 k1 z1; have B1 := Lib.hid (B0.out.trans (k1.below (B := w.heap.size) B0.out.size (fun i e => by have e : i = w.heap.size := e; omega))); clear h1 k1 z1 x1 hlook)
    go_ret
    exact ⟨rfl, ⟨_, HH.out.below B1.out, fun _ e => .inl e⟩, Chg.of_below B1.out⟩
  | some q =>
    simp only [Option.isSome_some] at hlook
    have e1 : forceE m r k (some q) = if isSafe r k (some q) then 0 else m.errUse := rfl
    have e2 : forceR m r k (some q) = if isSafe r k (some q) then r else syncR m r := rfl
    have e3 : forceM m r k (some q) = if isSafe r k (some q) then m else m.used := rfl
    rw [e1, e2, e3]
    clear e1 e2 e3
    obtain ⟨sf, hsf⟩ : ∃ sf, isSafe r k (some q) = sf := ⟨_, rfl⟩
    rw [hsf] at SC ⊢
    clear hsf
    go_enter Try.func56, Try.ntmps56
    go_wp2_with (refine store_row C0.out x.recCells 58 (by kernel_rfl) rfl ONE.out rfl rfl rfl rfl ?_; intro w1 h1 k1 z1; have B1 := Lib.hid (B0.out.trans (k1.below (B := w.heap.size) B0.out.size (fun i e => by have e : i = w.heap.size := e; omega))); clear h1 k1 z1 x1 hlook)
    refine (SC.out _ B1.out).mono ?_
    rintro e w2 ⟨rfl, k2⟩
    have B2 := Lib.hid (B1.out.trans (k2.mono B1.out.size))
    clear k2 SC
    cases sf
    · have H2 := Lib.hid (HH.out.below B2.out)
      have y0 := H2.out.log.cell (i := 0) rfl
      go_wp2_with fail
      refine (sync_calls _ _ _ _ _ _ H2.out.reel H2.out.pow hfu).mono ?_
      rintro e w3 ⟨rfl, hR, hM, hc⟩
      have RR := Lib.hid (H2.out.reeled hR hM hc (by have := H2.out.hl; unfold syncR R.synced; split <;> exact this))
      have CC := Lib.hid ((Chg.of_below (S := Reel.Own (Tight d w) B b) B2.out).next hc (fun j hj e => by
        rcases e with e | e | e | e
        · exact .inl e
        · exact .inr (.inl e)
        · exact .inr (.inr (.inl e))
        · have := B2.out.size; omega))
      clear hR hM hc y0
      go_wp2_with fail
      go_ret
      obtain ⟨d', hd', ht⟩ := RR.out
      exact ⟨rfl, ⟨d', hd', fun k e => (ht k e).imp_right (Nat.le_trans B2.out.size)⟩, CC.out⟩
    · go_wp2_with fail
      go_ret
      exact ⟨rfl, ⟨_, HH.out.below B2.out, fun _ e => .inl e⟩, Chg.of_below B2.out⟩
end
end Go.Proofs.Ytcfjooeagfollaa.Dia

/- diary.Open. -/
namespace Go.Proofs.Ytcfjooeagfollaa.Dia
open Go.RowKit Go.Proofs.Ytcfjooeagfollaa.Mem Go.Proofs.Ytcfjooeagfollaa.Bytes Go.Proofs.Ytcfjooeagfollaa.Mains Go.Proofs.Ytcfjooeagfollaa.Reel Go.Proofs.Ytcfjooeagfollaa.Note
set_option linter.unusedSimpArgs false
set_option linter.unusedVariables false
set_option maxRecDepth 20000

theorem add_two (ad : Addr) (n j : Nat) : (ad.add n).add j = ad.add (n + j) := by
  unfold Addr.add
  split <;> split <;> simp_all <;> omega
/-- An element of a row is loaded. -/
theorem load_els {P : Program} {ops : Array Oper} {rest : List Oper} {o : Oper} {a : Act} {w0 w : World} {Q : Exit → Act → World → Prop} {α : Type} {enc : α → List Value} {sz : Nat} {ad : Addr} {l : List α} (hE : Els enc sz w0 (some ad) l) (hb : Below w0.heap.size w0 w) (i : Nat) (hi : i < l.length) (x : α) (hx : l[i] = x) (ty : TypeId) {d : TypeDesc} (hu : P.underlying ty = some d) (hd : d.isRow = true) (hs : (P.info? ty).map (·.size) = some (enc x).length)
    (hgd : o.guard = none) {y : Operand} (ho : o.op = .load ty y) (hy : a.eval y = .pointer (some (ad.add (i * sz))))
    (h : wpList P ops Q rest (a.put o.dst (.agg (enc x).toArray)) w) : wpList P ops Q (o :: rest) a w := by
  subst hx
  obtain ⟨ad', e, _, hc⟩ := hE i hi
  cases e
  have hl : (loadCells (ad.add (i * sz)) (enc l[i]).length).run P w = .ok (enc l[i]).toArray w :=
    run_loadCells_list (P := P) w _ _ (fun j v hv => by rw [add_two]; exact hc w hb j v hv)
  have hv : (loadVar ty (ad.add (i * sz))).run P w = .ok (.agg (enc l[i]).toArray) w := by
    cases hq : P.info? ty with
    | none => simp [hq] at hs
    | some i0 =>
      have hs' : i0.size = (enc l[i]).length := by simpa [hq] using hs
      have hagg : (isAgg ty).run P w = .ok true w := by
        unfold isAgg
        rw [Sem.run_bind, run_underlying hu w]
        cases d <;> simp_all
      simp [loadVar, Sem.run_bind, hagg, sizeOf, typeInfo, hq, hs', hl]
  refine wpList_plain hgd fun _ hK => ?_
  unfold Oper.wp execOp
  simp only [ho, hy, Instr.loadAt, Instr.sureAddr, Sem.run_bind, Sem.run_pure, Result.andThen_ok, hv]
  exact hK _ _ h
/-- A part of a row is loaded, in whatever world. -/
theorem exec_mid {P : Program} {o : Oper} {a : Act} {w : World} {b : Nat} {e : TypeId} (pre cs post : List Value) (hr : Row w b e (pre ++ (cs ++ post))) (ty : TypeId) {d : TypeDesc} (hu : P.underlying ty = some d) (hd : d.isRow = true) (hs : (P.info? ty).map (·.size) = some cs.length) (n : Nat) (hn : n = pre.length)
    {y : Operand} (ho : o.op = .load ty y) (hy : a.eval y = .pointer (some ⟨b, n, none⟩)) : (execOp a.eval o).run P w = .ok (.value (.agg cs.toArray)) w := by
  subst hn
  have hl : (loadCells ⟨b, pre.length, none⟩ cs.length).run P w = .ok cs.toArray w :=
    run_loadCells_list (P := P) w _ _ (fun j v hv => by
      have ha : (⟨b, pre.length, none⟩ : Addr).add j = ⟨b, pre.length + j, none⟩ := by unfold Addr.add; split <;> simp_all
      rw [ha]
      refine hr.cell ?_
      obtain ⟨hj, _⟩ := List.getElem?_eq_some_iff.1 hv
      rw [List.getElem?_append_right (by omega), Nat.add_sub_cancel_left, List.getElem?_append_left hj]
      exact hv)
  have hv : (loadVar ty ⟨b, pre.length, none⟩).run P w = .ok (.agg cs.toArray) w := by
    cases hq : P.info? ty with
    | none => simp [hq] at hs
    | some i0 =>
      have hs' : i0.size = cs.length := by simpa [hq] using hs
      have hagg : (isAgg ty).run P w = .ok true w := by
        unfold isAgg
        rw [Sem.run_bind, run_underlying hu w]
        cases d <;> simp_all
      simp [loadVar, Sem.run_bind, hagg, sizeOf, typeInfo, hq, hs', hl]
  unfold execOp
  simp only [ho, hy, Instr.loadAt, Instr.sureAddr, Sem.run_bind, Sem.run_pure, Result.andThen_ok, hv]
/-- The record at a stamp. -/
def gOf (l : List (Int × Rec)) (k : Int) : Option Rec := ((l.reverse).find? (fun p => p.1 == k)).map Prod.snd
theorem gOf_snoc (l : List (Int × Rec)) (t : Int) (q : Rec) (k : Int) : gOf (l ++ [(t, q)]) k = if k = t then some q else gOf l k := by
  unfold gOf
  rw [List.reverse_append]
  simp only [List.reverse_cons, List.reverse_nil, List.nil_append, List.singleton_append, List.find?_cons]
  by_cases h : k = t
  · subst h; simp
  · have : (t == k) = false := by simpa using fun e => h e.symm
    simp [this, h]
def lastOf (l : List (Int × Rec)) : Int := (l.getLast?.map Prod.fst).getD 0
theorem lastOf_snoc (l : List (Int × Rec)) (t : Int) (q : Rec) : lastOf (l ++ [(t, q)]) = t := by simp [lastOf]
/-- A map that is being filled. -/
theorem Held.step {S : Nat → Prop} {w w' : World} {f : Int → Option Value} {g : Int → Option Rec} (h : Held w S f g) {C : Nat → Prop} (hc : Chg C w w') (hs : ∀ k, k < w.heap.size → C k → S k) {k : Int} {x : Sr} (h1 : x.Has w') (h2 : x.Caps) (h3 : x.Off S) (h4 : x.r.small) :
    Held w' S (fun j => if j = k then some (.agg x.recCells.toArray) else f j) (fun j => if j = k then some x.r else g j) := by
  have hh := h.chg hc hs
  intro j
  by_cases e : j = k
  · simp only [e, if_true]
    exact ⟨x, rfl, rfl, h1, h2, h3, h4⟩
  · simp only [e, if_false]
    exact hh j
def OpenPost (w : World) (d : Option Nat) (B b : Nat) (m : M) (r : R) (rs : List Rec) (e : Ending) (w' : World) : Prop :=
  ∃ (ls : List Sr) (a : Option Addr) (cap L mb n : Nat) (d' : Option Nat), e = .returned (.tuple #[.pointer (some ⟨L, 0, none⟩), .slice a ls.length cap, .int .i64 0]) ∧ Els Sr.cells 12 w' a ls ∧ (∀ x ∈ ls, x.Has w' ∧ x.Caps) ∧ ls.map (fun x => (x.t, x.r)) = stamped 0 rs ∧
    Dia w' d' B b L mb m r n (gOf (stamped 0 rs)) (lastOf (stamped 0 rs)) 0 ∧ Chg (Reel.Own (Tight d w) B b) w w' ∧ w.heap.size ≤ L ∧ w.heap.size ≤ mb ∧ n = ls.length ∧ ∀ k, d' = some k → d = some k ∨ w.heap.size ≤ k
theorem good_small {q : Rec} (h : q.good = true) : q.small := by
  have h2 := good_size h
  unfold Rec.size at h2
  rw [if_pos h] at h2
  refine ⟨?_, ?_, ?_, ?_, ?_⟩ <;> omega
theorem stamped_good {n : Nat} : ∀ {l : List UInt8} (x : Rec), x ∈ (scanL n l).1 → x.good = true := by
  induction n with
  | zero => intro l x hx; simp [scanL] at hx
  | succ n ih =>
    intro l x hx
    unfold scanL at hx
    cases h : nRead l with
    | none => rw [h] at hx; simp at hx
    | some p =>
      obtain ⟨q, k⟩ := p
      rw [h] at hx
      simp only [List.mem_cons] at hx
      rcases hx with rfl | hx
      · exact (nRead_len h).1
      · exact ih x hx
theorem stamped_mem : ∀ {l : List Rec} {k : Nat} {t : Int} {q : Rec}, (t, q) ∈ stamped k l → q ∈ l ∧ (k : Int) < t ∧ t ≤ ((k + (l.flatMap Rec.bytes).length : Nat) : Int) + 1
  | [], _, _, _, h => by simp [stamped] at h
  | r :: l, k, t, q, h => by
    simp only [stamped, List.mem_cons, Prod.mk.injEq] at h
    rw [List.flatMap_cons, List.length_append]
    rcases h with ⟨rfl, rfl⟩ | h
    · exact ⟨List.mem_cons_self, by omega, by omega⟩
    · obtain ⟨h1, h2, h3⟩ := stamped_mem h
      exact ⟨List.mem_cons_of_mem _ h1, by omega, by omega⟩
theorem stamped_len : ∀ (k : Nat) (l : List Rec), (stamped k l).length = l.length
  | _, [] => rfl
  | k, r :: l => by simp [stamped, stamped_len]
theorem flat8 {l : List Rec} (h : ∀ x ∈ l, x.good = true) : 8 * l.length ≤ (l.flatMap Rec.bytes).length := by
  induction l with
  | nil => simp
  | cons r l ih =>
    have hb := bytes_length r
    have := ih (fun x hx => h x (List.mem_cons_of_mem _ hx))
    rw [List.flatMap_cons, List.length_append, List.length_cons]
    omega
theorem scanL_bytes : ∀ (n : Nat) (l : List UInt8), l = (scanL n l).1.flatMap Rec.bytes ++ (scanL n l).2
  | 0, l => rfl
  | n + 1, l => by
    unfold scanL
    cases h : nRead l with
    | none => rfl
    | some p =>
      obtain ⟨q, k⟩ := p
      obtain ⟨_, _, _, _, e⟩ := nRead_len h
      simp only [List.flatMap_cons, List.append_assoc]
      rw [← scanL_bytes n (l.drop k)]
      exact e
theorem last_bd {rs : List Rec} (h : (rs.flatMap Rec.bytes).length ≤ 100000) : -9223372036854775808 ≤ lastOf (stamped 0 rs) ∧ lastOf (stamped 0 rs) ≤ 9223372036854775807 := by
  unfold lastOf
  cases hl : (stamped 0 rs).getLast? with
  | none => simp
  | some p =>
    obtain ⟨t, q⟩ := p
    obtain ⟨_, h2, h3⟩ := stamped_mem (List.mem_of_getLast? hl)
    simp only [Option.map_some, Option.getD_some]
    omega
theorem sr_one (x : Sr) : ∀ u ∈ x.cells, u.oneCell' = true := by simp [Sr.cells, Sr.recCells, Rec.cells, Value.oneCell']
set_option maxHeartbeats 4000000 in
theorem open_calls (w : World) (d : Option Nat) (B b : Nat) (m : M) (r : R) (hR : Reel.Is w (Tight d w) B b r) (hM : Row w B 147 m.cells) (hon : m.on = true) (hfu : m.fuse = -1) (hd : ∀ k, d = some k → k < w.heap.size) (hl : r.data.length ≤ 100000) :
    Calls Try.prog 28 #[.pointer (some ⟨b, 0, none⟩)] w fun e w' => OpenPost w d B b m (if (scanL r.data.length r.data).2 = [] then r else r.cut (r.data.length - (scanL r.data.length r.data).2.length)) (scanL r.data.length r.data).1 e w' := by
  have RC := Lib.hid (read_calls _ _ _ _ _ _ hR hM)
  have hrs : readS m r = bs r.data := by unfold readS; rw [hon]; rfl
  have hre : readE m = 0 := by unfold readE; rw [hon]; rfl
  rw [hrs, hre] at RC
  have hus : m.errUse = 0 ∧ m.used = m := by
    obtain ⟨on, fu, bo⟩ := m
    simp only at hon hfu
    subst hon hfu
    exact ⟨by simp [M.errUse], by simp [M.used]⟩
  have SC := Lib.hid (fun wx => scan_calls (bs r.data) wx (by rw [bs_size]; exact hl))
  have hz : (bs r.data).size = r.data.length := bs_size _
  have hdd : (bs r.data).data.toList = r.data := rfl
  rw [hz, hdd] at SC
  have hgood := fun x hx => @stamped_good r.data.length r.data x hx
  have hby := scanL_bytes r.data.length r.data
  obtain ⟨A, hA⟩ : ∃ A, scanL r.data.length r.data = A := ⟨_, rfl⟩
  rw [hA] at SC hgood hby ⊢
  obtain ⟨rs, rest⟩ := A
  simp only at hgood ⊢
  obtain ⟨rX, hrX⟩ : ∃ rX, (if rest = [] then r else r.cut (r.data.length - rest.length)) = rX := ⟨_, rfl⟩
  rw [hrX]
  have HRX := Lib.hid hrX
  clear hrX
  simp only at hby
  have hbz := congrArg List.length hby
  rw [List.length_append] at hbz
  have BZ := Lib.hid (show (rs.flatMap Rec.bytes).length ≤ 100000 from by omega)
  clear hby hbz
  have GD := Lib.hid hgood
  have RR := Lib.hid hR
  have MM := Lib.hid hM
  have US := Lib.hid hus
  have HD := Lib.hid hd
  clear hA hgood hR hM hus hrs hre hdd hd
  have mk := @run_makeMap Try.prog
  go_enter Try.func28, Try.ntmps28
  go_wp2_with fail
  refine RC.out.mono ?_
  rintro e w1 ⟨rfl, rfl⟩
  go_wp2_with fail
  refine (SC.out _).mono ?_
  rintro e w2 ⟨⟨ls, la, lcap, rfl, hE, hV, hst, hn, hEb, hVb⟩, k2⟩
  have E2 := Lib.hid hE
  have V2 := Lib.hid hV
  have ST := Lib.hid hst
  have R2 := Lib.hid (is_below RR.out MM.out.lt k2)
  have M2 := Lib.hid (MM.out.below k2 MM.out.lt)
  have C2 := Lib.hid (Chg.of_below (S := Reel.Own (Tight d w1) B b) k2)
  have K2 := Lib.hid k2
  simp only at hn
  clear hE hV hst k2 RC SC
  have hb1 := MM.out.lt
  by_cases hz0 : rest.length = 0
  · have d1 : decide ((r.data.length : Int) - (rest.length : Int) < (r.data.length : Int)) = false := by simp; omega
    have hnil : rest = [] := List.eq_nil_of_length_eq_zero hz0
    have hrx := HRX.out
    rw [if_pos hnil] at hrx
    have RX := R2
    have PX := M2
    have CX := C2
    have EX := E2
    have VX := V2
    have DX := Lib.hid (fun k (e : d = some k) => Nat.lt_of_lt_of_le (HD.out k e) K2.out.size)
    clear hnil R2 M2 C2 E2 V2 K2 HD hEb hVb US
    rename World => w3
    obtain ⟨dX, hdX⟩ : ∃ dX, d = dX := ⟨_, rfl⟩
    have TX := Lib.hid (fun k (e : dX = some k) => (show d = some k ∨ w1.heap.size ≤ k from .inl (hdX.trans e)))
    rw [hdX, hrx] at RX
    rw [hdX] at DX
    clear hdX hrx
    go_wp2_with fail
    clear d1
    as_aux_lemma =>
      have hI0 := (IMap.made Try.prog 3 w3).alloc (.cells #[.pointer (some ⟨b, 0, none⟩), .map (some w3.heap.size), .int .i64 0, .int .i64 0] 158)
      have hL0 : Row ((w3.alloc (.map #[] 0)).alloc (.cells #[.pointer (some ⟨b, 0, none⟩), .map (some w3.heap.size), .int .i64 0, .int .i64 0] 158)) (w3.heap.size + 1) 158 (lcells b w3.heap.size 0 0) := new_at (by simp)
      have hB0 := ((Below.refl w3.heap.size w3).alloc (Nat.le_refl _) (.map #[] 0)).alloc (by simp) (.cells #[.pointer (some ⟨b, 0, none⟩), .map (some w3.heap.size), .int .i64 0, .int .i64 0] 158)
      have hbl : b < w3.heap.size := by
        rcases Nat.lt_or_ge b w3.heap.size with h | h
        · exact h
        · exact absurd (.inr h) RX.out.2.2.1
      have hBl := PX.out.lt
      go_loopw [42] (fun i wr => ∃ j : Nat, j ≤ ls.length ∧ i = .int .i64 (j : Int) ∧ (∃ f, IMap Try.prog 3 wr w3.heap.size j f ∧ Held wr (Own dX B b (w3.heap.size + 1) w3.heap.size) f (gOf ((ls.take j).map (fun x => (x.t, x.r))))) ∧ Row wr (w3.heap.size + 1) 158 (lcells b w3.heap.size (lastOf ((ls.take j).map (fun x => (x.t, x.r)))) 0) ∧ Below w3.heap.size w3 wr) (fun i _ => ls.length - (intOf i).toNat)
      case atStart => exact ⟨0, by omega, rfl, ⟨_, hI0, fun k => rfl⟩, hL0, hB0⟩
      case round =>
        clear hI0 hL0 hB0
        obtain ⟨j, hj, rfl, ⟨f, hI, hH⟩, hL, hB⟩ := hrel
        have MI := Lib.hid hI
        have MH := Lib.hid hH
        have ML := Lib.hid hL
        have MB := Lib.hid hB
        have hLl := hL.lt
        clear hI hH hL hB
        by_cases hlt : j < ls.length
        · have hlt' : (j : Int) < (ls.length : Int) := by omega
          obtain ⟨ad, rfl, _, _⟩ := EX.out j hlt
          obtain ⟨x, hxx⟩ : ∃ x, ls[j] = x := ⟨_, rfl⟩
          have hmem : x ∈ ls := by rw [← hxx]; exact List.getElem_mem hlt
          have htk := List.take_succ_eq_append_getElem hlt
          rw [hxx] at htk
          obtain ⟨hxH, hxC⟩ := VX.out x hmem
          have hxm : (x.t, x.r) ∈ stamped 0 rs := by rw [← ST.out]; exact List.mem_map_of_mem (f := fun x : Sr => (x.t, x.r)) hmem
          obtain ⟨hq1, hq2, hq3⟩ := stamped_mem hxm
          have hwf : (Lit.int .i64 x.t).wf = true := wf_i64 (by have := BZ.out; omega) (by have := BZ.out; omega)
          have SM := Lib.hid (good_small (GD.out _ hq1))
          have HX := Lib.hid hxx
          have TK := Lib.hid htk
          have XH := Lib.hid hxH
          have XC := Lib.hid hxC
          have ONE := Lib.hid (sr_one x)
          have LS := Lib.hid (show ls.length ≤ 100000 from by have h1 := congrArg List.length ST.out; rw [List.length_map, stamped_len] at h1; have h2 := BZ.out; have h3 := flat8 GD.out; omega)
          clear hxx htk hmem hxH hxC hxm hq1 hq2 hq3
          have ZB := Lib.hid (Row.new wr 60 [.int .i64 0, .int .i64 0, .int .i64 0, .int .i64 0, .int .i64 0, .slice none 0 0, .int .i64 0, .int .i64 0, .string ⟨#[]⟩, .string ⟨#[]⟩, .slice none 0 0, .slice none 0 0])
          have B0 := Lib.hid ((Below.refl wr.heap.size wr).alloc (Nat.le_refl _) (.cells #[.int .i64 0, .int .i64 0, .int .i64 0, .int .i64 0, .int .i64 0, .slice none 0 0, .int .i64 0, .int .i64 0, .string ⟨#[]⟩, .string ⟨#[]⟩, .slice none 0 0, .slice none 0 0] 60))
          go_wp2_with (first | (refine load_els EX.out MB.out j hlt x HX.out 60 Try.underlying60 rfl (by kernel_rfl) rfl rfl rfl ?_) | (refine store_row ZB.out x.cells 60 (by kernel_rfl) rfl ONE.out rfl rfl rfl rfl ?_; intro w4 h4 k4 z4; have X4 := Lib.hid h4; have B4 := Lib.hid (B0.out.trans (k4.below (B := wr.heap.size) B0.out.size (fun i e => by have e : i = wr.heap.size := e; omega))); clear h4 k4 z4))
          have L4 := Lib.hid (ML.out.below B4.out ML.out.lt)
          have I4 := Lib.hid (MI.out.below B4.out MI.out.lt)
          have y1 := L4.out.cell (i := 1) rfl
          have y0 := X4.out.cell (i := 0) (v := .int .i64 x.t) rfl
          have SZ4 := Lib.hid (show w3.heap.size + 2 ≤ w4.heap.size from by have := B4.out.size; omega)
          have XG := Lib.hid X4.out.lt
          have KB := Lib.hid (show Below w4.heap.size w4 w4.drew ∧ w4.drew.cell? ⟨w3.heap.size + 1, 1, none⟩ = some (.map (some w3.heap.size)) ∧ w4.drew.cell? ⟨wr.heap.size, 0, none⟩ = some (.int .i64 x.t) from ⟨(Below.refl w4.heap.size w4).drew, y1, y0⟩)
          have KX := Lib.hid (fun (wx : World) (hb : Below w4.heap.size w4 wx) => (show wx.cell? ⟨w3.heap.size + 1, 1, none⟩ = some (.map (some w3.heap.size)) ∧ wx.cell? ⟨wr.heap.size, 0, none⟩ = some (.int .i64 x.t) from ⟨(L4.out.below hb L4.out.lt).cell rfl, (X4.out.below hb X4.out.lt).cell rfl⟩))
          clear y0 y1 ZB B0
          refine Reg.start (fun w' => Below w4.heap.size w4 w' ∧ w'.cell? ⟨w3.heap.size + 1, 1, none⟩ = some (.map (some w3.heap.size)) ∧ w'.cell? ⟨wr.heap.size, 0, none⟩ = some (.int .i64 x.t)) (fun i => i == 9) (by kernel_rfl) KB.out (fun hHeld => ?_)
          generalize w4.drew = wd at *
          refine Reg.takeI 0 (v := ?_) rfl (by kernel_rfl) (by kernel_rfl) (by kernel_rfl) (by kernel_rfl) (fun _ _ _ h => h) (by rfl) ?_ hHeld ?_
          rotate_left 1
          · (intro w hSw; (try dsimp only at hSw); go_simp; try with_reducible rfl)
          try simp only [Act.put, List.setIfInBounds_toArray, List.set_cons_zero, List.set_cons_succ]
          refine Reg.takeI 1 (v := ?_) rfl (by kernel_rfl) (by kernel_rfl) (by kernel_rfl) (by kernel_rfl) (fun _ _ _ h => h) (by rfl) ?_ hHeld ?_
          rotate_left 1
          · (intro w hSw; (try dsimp only at hSw); go_simp; try with_reducible rfl)
          try simp only [Act.put, List.setIfInBounds_toArray, List.set_cons_zero, List.set_cons_succ]
          refine Reg.takeI 2 (v := ?_) rfl (by kernel_rfl) (by kernel_rfl) (by kernel_rfl) (by kernel_rfl) (fun _ _ _ h => h) (by rfl) ?_ hHeld ?_
          rotate_left 1
          · (intro w hSw; (try dsimp only at hSw); go_simp; try with_reducible rfl)
          try simp only [Act.put, List.setIfInBounds_toArray, List.set_cons_zero, List.set_cons_succ]
          refine Reg.takeI 3 (v := ?_) rfl (by kernel_rfl) (by kernel_rfl) (by kernel_rfl) (by kernel_rfl) (fun _ _ _ h => h) (by rfl) ?_ hHeld ?_
          rotate_left 1
          · (intro w hSw; (try dsimp only at hSw); go_simp; try with_reducible rfl)
          try simp only [Act.put, List.setIfInBounds_toArray, List.set_cons_zero, List.set_cons_succ]
          refine Reg.takeI 4 (v := ?_) rfl (by kernel_rfl) (by kernel_rfl) (by kernel_rfl) (by kernel_rfl) (fun _ _ _ h => h) (by rfl) ?_ hHeld ?_
          rotate_left 1
          · (intro w hSw; (try dsimp only at hSw); go_simp; try with_reducible rfl)
          try simp only [Act.put, List.setIfInBounds_toArray, List.set_cons_zero, List.set_cons_succ]
          refine Reg.takeI 5 (v := ?_) rfl (by kernel_rfl) (by kernel_rfl) (by kernel_rfl) (by kernel_rfl) (fun _ _ _ h => h) (by rfl) ?_ hHeld ?_
          rotate_left 1
          · (intro w hSw; (try dsimp only at hSw); go_simp; try with_reducible rfl)
          try simp only [Act.put, List.setIfInBounds_toArray, List.set_cons_zero, List.set_cons_succ]
          refine Reg.takeI 6 (v := ?_) rfl (by kernel_rfl) (by kernel_rfl) (by kernel_rfl) (by kernel_rfl) (fun _ _ _ h => h) (by rfl) ?_ hHeld ?_
          rotate_left 1
          · (intro w hSw; (try dsimp only at hSw); go_simp; try with_reducible rfl)
          try simp only [Act.put, List.setIfInBounds_toArray, List.set_cons_zero, List.set_cons_succ]
          refine Reg.takeI 7 (v := .agg x.recCells.toArray) rfl (by kernel_rfl) (by kernel_rfl) (by kernel_rfl) (by kernel_rfl) (fun _ _ _ h => h) (by rfl) ?_ hHeld ?_
          · intro w hSw
            exact exec_mid [.int .i64 x.t] x.recCells [] (by rw [List.append_nil]; exact (X4.out.below hSw.1 X4.out.lt)) 58 Try.underlying58 rfl (by kernel_rfl) 1 rfl (by rfl) (by rfl)
          try simp only [Act.put, List.setIfInBounds_toArray, List.set_cons_zero, List.set_cons_succ]
          refine Reg.oneI 8 rfl (by kernel_rfl) (by rfl) (fun K hK => ?_)
          go_simp
          go_at_call 86
          refine (copied_calls _ _ _ (((XH.out.keep MB.out).keep B4.out).keep KB.out.1 |>.rec XC.out) SM.out).mono ?_
          rintro e w8 ⟨⟨v, rfl, hN⟩, k8⟩
          have SZ8 := Lib.hid KB.out.1.size
          replace KB := Lib.hid (show Below w4.heap.size w4 w8 ∧ _ from ⟨KB.out.1.trans (k8.mono KB.out.1.size), KX.out _ (KB.out.1.trans (k8.mono KB.out.1.size))⟩)
          obtain ⟨z, _, hzr, hzv, hzH, hzC, hzO⟩ := sr_of_new hN 0
          subst hzv
          have ZR := Lib.hid hzr
          have ZH := Lib.hid hzH
          have ZC := Lib.hid hzC
          have ZO := Lib.hid (hzO.mono (S2 := fun k => k < w4.heap.size) (fun k hk => Nat.lt_of_lt_of_le hk SZ8.out))
          clear k8 hN hzr hzH hzC hzO SZ8
          go_wp2_with fail
          refine hK.out _ _ (fun _ => KB.out) (fun hHeld => ?_)
          replace hHeld := hHeld (by first | rfl | trivial)
          clear hK K
          try simp only [Act.put, List.setIfInBounds_toArray, List.set_cons_zero, List.set_cons_succ]
          refine Reg.oneI 9 rfl (by kernel_rfl) (by rfl) (fun K hK => ?_)
          obtain ⟨w9, hrun, hI9, hC9, hz9⟩ := (I4.out.below KB.out.1 I4.out.lt).put (t := 156) (e := 58) Try.underlying3 Try.underlying156 (by have := LS.out; unfold maxLen; omega) hwf (.agg z.recCells.toArray)
          go_simp
          refine hK.out _ _ (fun h => by cases h) (fun _ => ?_)
          clear hK K
          try simp only [Act.put, List.setIfInBounds_toArray, List.set_cons_zero, List.set_cons_succ]
          refine Reg.doneI (by kernel_rfl) ?_
          as_aux_lemma =>
            have hX9 := (X4.out.below KB.out.1 X4.out.lt).chg hC9 (fun e => by have e : wr.heap.size = w3.heap.size := e; have := MB.out.size; have := MI.out.lt; omega)
            have hL9 := (L4.out.below KB.out.1 L4.out.lt).chg hC9 (fun e => by have e : w3.heap.size + 1 = w3.heap.size := e; omega)
            have y0 := hX9.cell (i := 0) (v := .int .i64 x.t) rfl
            have y2 := hL9.cell (i := 2) rfl
            have f2 := hL9.frozen 2 (by simp [lcells])
            have c1 : Chg (fun k => k = w3.heap.size ∨ k = w3.heap.size + 1) wr w8 := Chg.of_below (B4.out.trans (KB.out.1.mono B4.out.size))
            have c2 := c1.next hC9 (fun k hk e => .inl e)
            have hput : Chg (One (w3.heap.size + 1)) w9 (w9.setCell ⟨w3.heap.size + 1, 2, none⟩ (.int .i64 x.t)) := (Chg.refl _ _).put 2 _
            have c3 := c2.next hput (fun k hk e => .inr e)
            have hzz := (ZH.out.chg hC9 (ZO.out.mono (fun k e => by have e : k = w3.heap.size := e; have := SZ4.out; show k < w4.heap.size; omega))).chg hput (ZO.out.mono (fun k e => by have e : k = w3.heap.size + 1 := e; have := SZ4.out; show k < w4.heap.size; omega))
            have hstep := Held.step MH.out c3 (fun k hk e => by
              rcases e with e | e
              · exact .inr (.inr (.inr (.inr e)))
              · exact .inr (.inr (.inr (.inl e)))) (k := x.t) hzz ZC.out (ZO.out.mono (fun k e => by
              have h4 := SZ4.out
              show k < w4.heap.size
              rcases e with e | e | e | e | e
              · have := DX.out k e; omega
              · omega
              · omega
              · omega
              · omega)) (by rw [ZR.out]; exact SM.out)
            have hg : (fun i => if i = x.t then some z.r else gOf ((ls.take j).map (fun x => (x.t, x.r))) i) = gOf ((ls.take (j + 1)).map (fun x => (x.t, x.r))) := by
              funext i
              rw [TK.out, List.map_append, ZR.out]
              exact (gOf_snoc _ _ _ _).symm
            rw [hg] at hstep
            have hlast : lastOf ((ls.take (j + 1)).map (fun x => (x.t, x.r))) = x.t := by
              rw [TK.out, List.map_append]
              exact lastOf_snoc _ _ _
            have FIN := Lib.hid (And.intro (⟨_, hI9.chg hput (fun e => by have e : w3.heap.size = w3.heap.size + 1 := e; omega), hstep⟩ : ∃ f, IMap Try.prog 3 _ w3.heap.size (j + 1) f ∧ Held _ _ f _) (And.intro (show Row _ _ _ (lcells b w3.heap.size (lastOf ((ls.take (j + 1)).map (fun x => (x.t, x.r)))) 0) from by rw [hlast]; exact (hL9.set 2 (.int .i64 x.t)).cast rfl) (MB.out.trans (c3.below (B := w3.heap.size) MB.out.size (fun k e => by rcases e with e | e <;> omega)))))
            clear hX9 hL9 c1 c2 c3 hput hzz hstep hg hlast hI9 hC9 hz9 hrun
            have hj1 : (j : Int) < 1000000 := by have := LS.out; omega
            go_wp2_with fail
            obtain ⟨g1, g2, g3⟩ := FIN.out
            exact ⟨⟨j + 1, by omega, by go_num, g1, g2, g3⟩, by simp [intOf]; omega⟩
        · as_aux_lemma =>
          obtain rfl : j = ls.length := by omega
          have hst := ST.out
          have hIx := MI.out
          have hHx := MH.out
          have hLx := ML.out
          rw [List.take_length, hst] at hHx hLx
          obtain ⟨hk1, hk2, hk3⟩ := RX.out.2.2.2.2.1
          have HDX := Lib.hid (show Dia wr dX B b (w3.heap.size + 1) w3.heap.size m rX ls.length (gOf (stamped 0 rs)) (lastOf (stamped 0 rs)) 0 from ⟨is_below RX.out PX.out.lt MB.out, PX.out.below MB.out PX.out.lt, hLx, ⟨f, hIx, hHx⟩, fun k e => ⟨Nat.lt_of_lt_of_le (DX.out k e) MB.out.size, by have := DX.out k e; omega, by have := DX.out k e; omega⟩, ⟨by omega, by omega, by omega, by omega, by omega⟩, ⟨by omega, by omega⟩, last_bd BZ.out, by
            have h1 := congrArg List.length ST.out
            rw [List.length_map, stamped_len] at h1
            have h2 := BZ.out
            have h3 := flat8 GD.out
            omega⟩)
          have FIN := Lib.hid (show OpenPost w1 d B b m rX rs (.returned (.tuple #[.pointer (some ⟨w3.heap.size + 1, 0, none⟩), .slice la ls.length lcap, .int .i64 0])) wr from ⟨ls, la, lcap, w3.heap.size + 1, w3.heap.size, ls.length, dX, rfl, EX.out.keep MB.out, fun x hx => ⟨(VX.out x hx).1.keep MB.out, (VX.out x hx).2⟩, hst, HDX.out, CX.out.next (Chg.of_below (S := fun _ => False) MB.out) (fun _ _ x => x.elim), by have := CX.out.size; omega, CX.out.size, rfl, TX.out⟩)
          clear hst hIx hHx hLx HDX hk1 hk2 hk3
          go_wp2_with fail
          exact bodyPost_ret (by simp [results, Try.results28, go_sem]) rfl FIN.out
  · have d1 : decide ((r.data.length : Int) - (rest.length : Int) < (r.data.length : Int)) = true := by simp; omega
    have hnn2 : ¬ rest = [] := fun e => hz0 (by rw [e]; rfl)
    have hrx := HRX.out
    rw [if_neg hnn2] at hrx
    obtain ⟨nn, hnn⟩ : ∃ nn : Nat, (r.data.length : Int) - (rest.length : Int) = (nn : Int) := ⟨r.data.length - rest.length, by omega⟩
    have hnn3 : r.data.length - rest.length = nn := by omega
    rw [hnn] at d1 ⊢
    have d2 : decide (nn < r.data.length) = true := by simp; omega
    rw [hnn3] at hrx
    have HRZ := Lib.hid hrx
    clear hrx
    have TE : trimErr m r (nn : Int) = 0 := by unfold trimErr R.has; rw [show (decide (0 ≤ (nn : Int)) && decide ((nn : Int) ≤ (r.data.length : Int))) = true by simp; omega]; exact US.out.1
    have TM : trimM m r (nn : Int) = m := by unfold trimM; split; exact US.out.2; rfl
    have TR : trimR m r (nn : Int) = r.cut nn := by unfold trimR R.has; rw [show (decide (0 ≤ (nn : Int)) && decide ((nn : Int) ≤ (r.data.length : Int))) = true by simp; omega, US.out.1]; simp
    have TC := trim_calls _ _ _ _ _ (nn : Int) _ R2.out M2.out (by omega)
    rw [TE, TM, TR] at TC
    have TCH := Lib.hid TC
    clear TE TM TR TC hnn hnn2 hnn3 d1
    go_wp2_with fail
    refine TCH.out.mono ?_
    rintro e w3 ⟨rfl, hR3, hM3, hC3⟩
    obtain ⟨dX, hdX, hT⟩ := is_tight hR3
    have RX := Lib.hid hT
    have PX := Lib.hid hM3
    have HB2 := Lib.hid (Nat.lt_of_lt_of_le hb1 K2.out.size)
    have CX := Lib.hid (C2.out.next hC3 (fun k hk e => by
      rcases e with e | e | e | e
      · exact .inl e
      · exact .inr (.inl e)
      · exact .inr (.inr (.inl e))
      · have := K2.out.size; omega))
    have hbb := RR.out.2.2.1
    have hblt : b < w1.heap.size := by
      rcases Nat.lt_or_ge b w1.heap.size with h | h
      · exact h
      · exact absurd (.inr h) hbb
    have hS : ∀ k, Reel.Own (Tight d w2) B b k → k < w1.heap.size ∨ w2.heap.size ≤ k := fun k e => by
      rcases e with e | e | e | e
      · left; omega
      · left; omega
      · exact .inl (HD.out k e)
      · exact .inr e
    have EX := Lib.hid (show Els Sr.cells 12 w3 la ls from by
      by_cases hls : ls = []
      · rw [hls]; exact Els.nil _ _ _ _
      · obtain ⟨ad, e0, hlt, _⟩ := E2.out 0 (List.length_pos_iff.2 hls)
        exact E2.out.chg hC3 (fun ad' e' hk => by
          rw [e0] at e'
          cases e'
          have := hEb ad e0
          rcases hS _ hk with h | h <;> omega))
    have VX := Lib.hid (fun x hx => ⟨(V2.out x hx).1.chg hC3 (((hVb x hx).both (V2.out x hx).1.off).mono hS), (V2.out x hx).2⟩ : ∀ x ∈ ls, x.Has w3 ∧ x.Caps)
    have DX := Lib.hid (fun k (e : dX = some k) => (hdX k e).2)
    have TX := Lib.hid (fun k (e : dX = some k) => (show d = some k ∨ w1.heap.size ≤ k from (hdX k e).1.imp id (fun h => Nat.le_trans K2.out.size h)))
    rw [HRZ.out] at RX
    clear hR3 hM3 hC3 hdX hT R2 M2 C2 E2 V2 K2 HD hEb hVb US TCH hbb hblt hS HB2
    go_wp2_with fail
    clear d2
    as_aux_lemma =>
      have hI0 := (IMap.made Try.prog 3 w3).alloc (.cells #[.pointer (some ⟨b, 0, none⟩), .map (some w3.heap.size), .int .i64 0, .int .i64 0] 158)
      have hL0 : Row ((w3.alloc (.map #[] 0)).alloc (.cells #[.pointer (some ⟨b, 0, none⟩), .map (some w3.heap.size), .int .i64 0, .int .i64 0] 158)) (w3.heap.size + 1) 158 (lcells b w3.heap.size 0 0) := new_at (by simp)
      have hB0 := ((Below.refl w3.heap.size w3).alloc (Nat.le_refl _) (.map #[] 0)).alloc (by simp) (.cells #[.pointer (some ⟨b, 0, none⟩), .map (some w3.heap.size), .int .i64 0, .int .i64 0] 158)
      have hbl : b < w3.heap.size := by
        rcases Nat.lt_or_ge b w3.heap.size with h | h
        · exact h
        · exact absurd (.inr h) RX.out.2.2.1
      have hBl := PX.out.lt
      go_loopw [42] (fun i wr => ∃ j : Nat, j ≤ ls.length ∧ i = .int .i64 (j : Int) ∧ (∃ f, IMap Try.prog 3 wr w3.heap.size j f ∧ Held wr (Own dX B b (w3.heap.size + 1) w3.heap.size) f (gOf ((ls.take j).map (fun x => (x.t, x.r))))) ∧ Row wr (w3.heap.size + 1) 158 (lcells b w3.heap.size (lastOf ((ls.take j).map (fun x => (x.t, x.r)))) 0) ∧ Below w3.heap.size w3 wr) (fun i _ => ls.length - (intOf i).toNat)
      case atStart => exact ⟨0, by omega, rfl, ⟨_, hI0, fun k => rfl⟩, hL0, hB0⟩
      case round =>
        clear hI0 hL0 hB0
        obtain ⟨j, hj, rfl, ⟨f, hI, hH⟩, hL, hB⟩ := hrel
        have MI := Lib.hid hI
        have MH := Lib.hid hH
        have ML := Lib.hid hL
        have MB := Lib.hid hB
        have hLl := hL.lt
        clear hI hH hL hB
        by_cases hlt : j < ls.length
        · have hlt' : (j : Int) < (ls.length : Int) := by omega
          obtain ⟨ad, rfl, _, _⟩ := EX.out j hlt
          obtain ⟨x, hxx⟩ : ∃ x, ls[j] = x := ⟨_, rfl⟩
          have hmem : x ∈ ls := by rw [← hxx]; exact List.getElem_mem hlt
          have htk := List.take_succ_eq_append_getElem hlt
          rw [hxx] at htk
          obtain ⟨hxH, hxC⟩ := VX.out x hmem
          have hxm : (x.t, x.r) ∈ stamped 0 rs := by rw [← ST.out]; exact List.mem_map_of_mem (f := fun x : Sr => (x.t, x.r)) hmem
          obtain ⟨hq1, hq2, hq3⟩ := stamped_mem hxm
          have hwf : (Lit.int .i64 x.t).wf = true := wf_i64 (by have := BZ.out; omega) (by have := BZ.out; omega)
          have SM := Lib.hid (good_small (GD.out _ hq1))
          have HX := Lib.hid hxx
          have TK := Lib.hid htk
          have XH := Lib.hid hxH
          have XC := Lib.hid hxC
          have ONE := Lib.hid (sr_one x)
          have LS := Lib.hid (show ls.length ≤ 100000 from by have h1 := congrArg List.length ST.out; rw [List.length_map, stamped_len] at h1; have h2 := BZ.out; have h3 := flat8 GD.out; omega)
          clear hxx htk hmem hxH hxC hxm hq1 hq2 hq3
          have ZB := Lib.hid (Row.new wr 60 [.int .i64 0, .int .i64 0, .int .i64 0, .int .i64 0, .int .i64 0, .slice none 0 0, .int .i64 0, .int .i64 0, .string ⟨#[]⟩, .string ⟨#[]⟩, .slice none 0 0, .slice none 0 0])
          have B0 := Lib.hid ((Below.refl wr.heap.size wr).alloc (Nat.le_refl _) (.cells #[.int .i64 0, .int .i64 0, .int .i64 0, .int .i64 0, .int .i64 0, .slice none 0 0, .int .i64 0, .int .i64 0, .string ⟨#[]⟩, .string ⟨#[]⟩, .slice none 0 0, .slice none 0 0] 60))
          go_wp2_with (first | (refine load_els EX.out MB.out j hlt x HX.out 60 Try.underlying60 rfl (by kernel_rfl) rfl rfl rfl ?_) | (refine store_row ZB.out x.cells 60 (by kernel_rfl) rfl ONE.out rfl rfl rfl rfl ?_; intro w4 h4 k4 z4; have X4 := Lib.hid h4; have B4 := Lib.hid (B0.out.trans (k4.below (B := wr.heap.size) B0.out.size (fun i e => by have e : i = wr.heap.size := e; omega))); clear h4 k4 z4))
          have L4 := Lib.hid (ML.out.below B4.out ML.out.lt)
          have I4 := Lib.hid (MI.out.below B4.out MI.out.lt)
          have y1 := L4.out.cell (i := 1) rfl
          have y0 := X4.out.cell (i := 0) (v := .int .i64 x.t) rfl
          have SZ4 := Lib.hid (show w3.heap.size + 2 ≤ w4.heap.size from by have := B4.out.size; omega)
          have XG := Lib.hid X4.out.lt
          have KB := Lib.hid (show Below w4.heap.size w4 w4.drew ∧ w4.drew.cell? ⟨w3.heap.size + 1, 1, none⟩ = some (.map (some w3.heap.size)) ∧ w4.drew.cell? ⟨wr.heap.size, 0, none⟩ = some (.int .i64 x.t) from ⟨(Below.refl w4.heap.size w4).drew, y1, y0⟩)
          have KX := Lib.hid (fun (wx : World) (hb : Below w4.heap.size w4 wx) => (show wx.cell? ⟨w3.heap.size + 1, 1, none⟩ = some (.map (some w3.heap.size)) ∧ wx.cell? ⟨wr.heap.size, 0, none⟩ = some (.int .i64 x.t) from ⟨(L4.out.below hb L4.out.lt).cell rfl, (X4.out.below hb X4.out.lt).cell rfl⟩))
          clear y0 y1 ZB B0
          refine Reg.start (fun w' => Below w4.heap.size w4 w' ∧ w'.cell? ⟨w3.heap.size + 1, 1, none⟩ = some (.map (some w3.heap.size)) ∧ w'.cell? ⟨wr.heap.size, 0, none⟩ = some (.int .i64 x.t)) (fun i => i == 9) (by kernel_rfl) KB.out (fun hHeld => ?_)
          generalize w4.drew = wd at *
          refine Reg.takeI 0 (v := ?_) rfl (by kernel_rfl) (by kernel_rfl) (by kernel_rfl) (by kernel_rfl) (fun _ _ _ h => h) (by rfl) ?_ hHeld ?_
          rotate_left 1
          · (intro w hSw; (try dsimp only at hSw); go_simp; try with_reducible rfl)
          try simp only [Act.put, List.setIfInBounds_toArray, List.set_cons_zero, List.set_cons_succ]
          refine Reg.takeI 1 (v := ?_) rfl (by kernel_rfl) (by kernel_rfl) (by kernel_rfl) (by kernel_rfl) (fun _ _ _ h => h) (by rfl) ?_ hHeld ?_
          rotate_left 1
          · (intro w hSw; (try dsimp only at hSw); go_simp; try with_reducible rfl)
          try simp only [Act.put, List.setIfInBounds_toArray, List.set_cons_zero, List.set_cons_succ]
          refine Reg.takeI 2 (v := ?_) rfl (by kernel_rfl) (by kernel_rfl) (by kernel_rfl) (by kernel_rfl) (fun _ _ _ h => h) (by rfl) ?_ hHeld ?_
          rotate_left 1
          · (intro w hSw; (try dsimp only at hSw); go_simp; try with_reducible rfl)
          try simp only [Act.put, List.setIfInBounds_toArray, List.set_cons_zero, List.set_cons_succ]
          refine Reg.takeI 3 (v := ?_) rfl (by kernel_rfl) (by kernel_rfl) (by kernel_rfl) (by kernel_rfl) (fun _ _ _ h => h) (by rfl) ?_ hHeld ?_
          rotate_left 1
          · (intro w hSw; (try dsimp only at hSw); go_simp; try with_reducible rfl)
          try simp only [Act.put, List.setIfInBounds_toArray, List.set_cons_zero, List.set_cons_succ]
          refine Reg.takeI 4 (v := ?_) rfl (by kernel_rfl) (by kernel_rfl) (by kernel_rfl) (by kernel_rfl) (fun _ _ _ h => h) (by rfl) ?_ hHeld ?_
          rotate_left 1
          · (intro w hSw; (try dsimp only at hSw); go_simp; try with_reducible rfl)
          try simp only [Act.put, List.setIfInBounds_toArray, List.set_cons_zero, List.set_cons_succ]
          refine Reg.takeI 5 (v := ?_) rfl (by kernel_rfl) (by kernel_rfl) (by kernel_rfl) (by kernel_rfl) (fun _ _ _ h => h) (by rfl) ?_ hHeld ?_
          rotate_left 1
          · (intro w hSw; (try dsimp only at hSw); go_simp; try with_reducible rfl)
          try simp only [Act.put, List.setIfInBounds_toArray, List.set_cons_zero, List.set_cons_succ]
          refine Reg.takeI 6 (v := ?_) rfl (by kernel_rfl) (by kernel_rfl) (by kernel_rfl) (by kernel_rfl) (fun _ _ _ h => h) (by rfl) ?_ hHeld ?_
          rotate_left 1
          · (intro w hSw; (try dsimp only at hSw); go_simp; try with_reducible rfl)
          try simp only [Act.put, List.setIfInBounds_toArray, List.set_cons_zero, List.set_cons_succ]
          refine Reg.takeI 7 (v := .agg x.recCells.toArray) rfl (by kernel_rfl) (by kernel_rfl) (by kernel_rfl) (by kernel_rfl) (fun _ _ _ h => h) (by rfl) ?_ hHeld ?_
          · intro w hSw
            exact exec_mid [.int .i64 x.t] x.recCells [] (by rw [List.append_nil]; exact (X4.out.below hSw.1 X4.out.lt)) 58 Try.underlying58 rfl (by kernel_rfl) 1 rfl (by rfl) (by rfl)
          try simp only [Act.put, List.setIfInBounds_toArray, List.set_cons_zero, List.set_cons_succ]
          refine Reg.oneI 8 rfl (by kernel_rfl) (by rfl) (fun K hK => ?_)
          go_simp
          go_at_call 86
          refine (copied_calls _ _ _ (((XH.out.keep MB.out).keep B4.out).keep KB.out.1 |>.rec XC.out) SM.out).mono ?_
          rintro e w8 ⟨⟨v, rfl, hN⟩, k8⟩
          have SZ8 := Lib.hid KB.out.1.size
          replace KB := Lib.hid (show Below w4.heap.size w4 w8 ∧ _ from ⟨KB.out.1.trans (k8.mono KB.out.1.size), KX.out _ (KB.out.1.trans (k8.mono KB.out.1.size))⟩)
          obtain ⟨z, _, hzr, hzv, hzH, hzC, hzO⟩ := sr_of_new hN 0
          subst hzv
          have ZR := Lib.hid hzr
          have ZH := Lib.hid hzH
          have ZC := Lib.hid hzC
          have ZO := Lib.hid (hzO.mono (S2 := fun k => k < w4.heap.size) (fun k hk => Nat.lt_of_lt_of_le hk SZ8.out))
          clear k8 hN hzr hzH hzC hzO SZ8
          go_wp2_with fail
          refine hK.out _ _ (fun _ => KB.out) (fun hHeld => ?_)
          replace hHeld := hHeld (by first | rfl | trivial)
          clear hK K
          try simp only [Act.put, List.setIfInBounds_toArray, List.set_cons_zero, List.set_cons_succ]
          refine Reg.oneI 9 rfl (by kernel_rfl) (by rfl) (fun K hK => ?_)
          obtain ⟨w9, hrun, hI9, hC9, hz9⟩ := (I4.out.below KB.out.1 I4.out.lt).put (t := 156) (e := 58) Try.underlying3 Try.underlying156 (by have := LS.out; unfold maxLen; omega) hwf (.agg z.recCells.toArray)
          go_simp
          refine hK.out _ _ (fun h => by cases h) (fun _ => ?_)
          clear hK K
          try simp only [Act.put, List.setIfInBounds_toArray, List.set_cons_zero, List.set_cons_succ]
          refine Reg.doneI (by kernel_rfl) ?_
          as_aux_lemma =>
            have hX9 := (X4.out.below KB.out.1 X4.out.lt).chg hC9 (fun e => by have e : wr.heap.size = w3.heap.size := e; have := MB.out.size; have := MI.out.lt; omega)
            have hL9 := (L4.out.below KB.out.1 L4.out.lt).chg hC9 (fun e => by have e : w3.heap.size + 1 = w3.heap.size := e; omega)
            have y0 := hX9.cell (i := 0) (v := .int .i64 x.t) rfl
            have y2 := hL9.cell (i := 2) rfl
            have f2 := hL9.frozen 2 (by simp [lcells])
            have c1 : Chg (fun k => k = w3.heap.size ∨ k = w3.heap.size + 1) wr w8 := Chg.of_below (B4.out.trans (KB.out.1.mono B4.out.size))
            have c2 := c1.next hC9 (fun k hk e => .inl e)
            have hput : Chg (One (w3.heap.size + 1)) w9 (w9.setCell ⟨w3.heap.size + 1, 2, none⟩ (.int .i64 x.t)) := (Chg.refl _ _).put 2 _
            have c3 := c2.next hput (fun k hk e => .inr e)
            have hzz := (ZH.out.chg hC9 (ZO.out.mono (fun k e => by have e : k = w3.heap.size := e; have := SZ4.out; show k < w4.heap.size; omega))).chg hput (ZO.out.mono (fun k e => by have e : k = w3.heap.size + 1 := e; have := SZ4.out; show k < w4.heap.size; omega))
            have hstep := Held.step MH.out c3 (fun k hk e => by
              rcases e with e | e
              · exact .inr (.inr (.inr (.inr e)))
              · exact .inr (.inr (.inr (.inl e)))) (k := x.t) hzz ZC.out (ZO.out.mono (fun k e => by
              have h4 := SZ4.out
              show k < w4.heap.size
              rcases e with e | e | e | e | e
              · have := DX.out k e; omega
              · omega
              · omega
              · omega
              · omega)) (by rw [ZR.out]; exact SM.out)
            have hg : (fun i => if i = x.t then some z.r else gOf ((ls.take j).map (fun x => (x.t, x.r))) i) = gOf ((ls.take (j + 1)).map (fun x => (x.t, x.r))) := by
              funext i
              rw [TK.out, List.map_append, ZR.out]
              exact (gOf_snoc _ _ _ _).symm
            rw [hg] at hstep
            have hlast : lastOf ((ls.take (j + 1)).map (fun x => (x.t, x.r))) = x.t := by
              rw [TK.out, List.map_append]
              exact lastOf_snoc _ _ _
            have FIN := Lib.hid (And.intro (⟨_, hI9.chg hput (fun e => by have e : w3.heap.size = w3.heap.size + 1 := e; omega), hstep⟩ : ∃ f, IMap Try.prog 3 _ w3.heap.size (j + 1) f ∧ Held _ _ f _) (And.intro (show Row _ _ _ (lcells b w3.heap.size (lastOf ((ls.take (j + 1)).map (fun x => (x.t, x.r)))) 0) from by rw [hlast]; exact (hL9.set 2 (.int .i64 x.t)).cast rfl) (MB.out.trans (c3.below (B := w3.heap.size) MB.out.size (fun k e => by rcases e with e | e <;> omega)))))
            clear hX9 hL9 c1 c2 c3 hput hzz hstep hg hlast hI9 hC9 hz9 hrun
            have hj1 : (j : Int) < 1000000 := by have := LS.out; omega
            go_wp2_with fail
            obtain ⟨g1, g2, g3⟩ := FIN.out
            exact ⟨⟨j + 1, by omega, by go_num, g1, g2, g3⟩, by simp [intOf]; omega⟩
        · as_aux_lemma =>
          obtain rfl : j = ls.length := by omega
          have hst := ST.out
          have hIx := MI.out
          have hHx := MH.out
          have hLx := ML.out
          rw [List.take_length, hst] at hHx hLx
          obtain ⟨hk1, hk2, hk3⟩ := RX.out.2.2.2.2.1
          have HDX := Lib.hid (show Dia wr dX B b (w3.heap.size + 1) w3.heap.size m rX ls.length (gOf (stamped 0 rs)) (lastOf (stamped 0 rs)) 0 from ⟨is_below RX.out PX.out.lt MB.out, PX.out.below MB.out PX.out.lt, hLx, ⟨f, hIx, hHx⟩, fun k e => ⟨Nat.lt_of_lt_of_le (DX.out k e) MB.out.size, by have := DX.out k e; omega, by have := DX.out k e; omega⟩, ⟨by omega, by omega, by omega, by omega, by omega⟩, ⟨by omega, by omega⟩, last_bd BZ.out, by
            have h1 := congrArg List.length ST.out
            rw [List.length_map, stamped_len] at h1
            have h2 := BZ.out
            have h3 := flat8 GD.out
            omega⟩)
          have FIN := Lib.hid (show OpenPost w1 d B b m rX rs (.returned (.tuple #[.pointer (some ⟨w3.heap.size + 1, 0, none⟩), .slice la ls.length lcap, .int .i64 0])) wr from ⟨ls, la, lcap, w3.heap.size + 1, w3.heap.size, ls.length, dX, rfl, EX.out.keep MB.out, fun x hx => ⟨(VX.out x hx).1.keep MB.out, (VX.out x hx).2⟩, hst, HDX.out, CX.out.next (Chg.of_below (S := fun _ => False) MB.out) (fun _ _ x => x.elim), by have := CX.out.size; omega, CX.out.size, rfl, TX.out⟩)
          clear hst hIx hHx hLx HDX hk1 hk2 hk3
          go_wp2_with fail
          exact bodyPost_ret (by simp [results, Try.results28, go_sem]) rfl FIN.out
end Go.Proofs.Ytcfjooeagfollaa.Dia

/- diary.Log.Add. -/
namespace Go.Proofs.Ytcfjooeagfollaa.Dia
open Go.RowKit Go.Proofs.Ytcfjooeagfollaa.Mem Go.Proofs.Ytcfjooeagfollaa.Bytes Go.Proofs.Ytcfjooeagfollaa.Mains Go.Proofs.Ytcfjooeagfollaa.Reel Go.Proofs.Ytcfjooeagfollaa.Note
set_option linter.unusedSimpArgs false
set_option linter.unusedVariables false
set_option maxRecDepth 20000

theorem nbytes_good (x : Sr) (w : World) (h : x.Has w) (hg : x.r.good = true) : Calls Try.prog 113 #[.agg x.recCells.toArray] w fun e w' => e = .returned (.tuple #[.string (bs x.r.bytes), .int .i64 0]) ∧ Below w.heap.size w w' :=
  bytes_good x.r hg _ _ _ _ _ _ _ _ _ w h.1 h.2.1 h.2.2
theorem nbytes_bad (x : Sr) (w : World) (h : x.Has w) (hg : x.r.good = false) : Calls Try.prog 113 #[.agg x.recCells.toArray] w fun e w' => e = .returned (.tuple #[.string ⟨#[]⟩, .int .i64 1]) ∧ Below w.heap.size w w' :=
  bytes_bad x.r hg _ _ _ _ _ _ _ _ _ w h.1 h.2.1 h.2.2
section
variable {w : World} {d : Option Nat} {B b L mb : Nat} {m : M} {r : R} {n : Nat} {g : Int → Option Rec} {last held : Int}
set_option maxHeartbeats 2000000 in
theorem add_bad (h : Dia w d B b L mb m r n g last held) (x : Sr) (hx : x.Has w) (hg : x.r.good = false) :
    Calls Try.prog 52 #[.pointer (some ⟨L, 0, none⟩), .agg x.recCells.toArray] w fun e w' => e = .returned (.tuple #[.int .i64 0, .int .i64 1]) ∧ Below w.heap.size w w' := by
  have X := Lib.hid (Row.new w 58 x.recCells)
  have B0 := Lib.hid ((Below.refl w.heap.size w).alloc (Nat.le_refl _) (.cells x.recCells.toArray 58))
  have BC := Lib.hid (nbytes_bad x _ (hx.keep B0.out) hg)
  clear h hx hg
  go_enter Try.func52, Try.ntmps52
  go_wp2_with (refine load_row X.out 58 Try.underlying58 rfl (by kernel_rfl) rfl rfl rfl ?_)
  refine BC.out.mono ?_
  rintro e w1 ⟨rfl, k1⟩
  have B1 := Lib.hid (B0.out.trans (k1.mono B0.out.size))
  clear k1
  go_wp2_with fail
  go_ret2
  exact ⟨rfl, B1.out⟩
set_option maxHeartbeats 2000000 in
theorem add_full (h : Dia w d B b L mb m r n g last held) (x : Sr) (hx : x.Has w) (hg : x.r.good = true) (hf : ((r.size - r.data.length : Nat) : Int) - held < (x.r.bytes.length : Int)) :
    Calls Try.prog 52 #[.pointer (some ⟨L, 0, none⟩), .agg x.recCells.toArray] w fun e w' => e = .returned (.tuple #[.int .i64 0, .int .i64 5]) ∧ Below w.heap.size w w' := by
  have X := Lib.hid (Row.new w 58 x.recCells)
  have B0 := Lib.hid ((Below.refl w.heap.size w).alloc (Nat.le_refl _) (.cells x.recCells.toArray 58))
  have BC := Lib.hid (nbytes_good x _ (hx.keep B0.out) hg)
  have HH := Lib.hid h
  obtain ⟨sb, hsb⟩ : ∃ l, x.r.bytes = l := ⟨_, rfl⟩
  rw [hsb] at BC hf
  have hz : (bs sb).size = sb.length := bs_size _
  clear h hx hg hsb
  go_enter Try.func52, Try.ntmps52
  go_wp2_with (refine load_row X.out 58 Try.underlying58 rfl (by kernel_rfl) rfl rfl rfl ?_)
  refine BC.out.mono ?_
  rintro e w1 ⟨rfl, k1⟩
  have B1 := Lib.hid (B0.out.trans (k1.mono B0.out.size))
  clear k1
  go_wp2_with fail
  refine (room_calls (HH.out.below B1.out)).mono ?_
  rintro e w2 ⟨rfl, q, rfl⟩
  go_wp2_with fail
  go_ret2
  exact ⟨rfl, below_drewN B1.out q⟩
def AddPost (w : World) (d : Option Nat) (B b L mb : Nat) (m : M) (r : R) (n : Nat) (g : Int → Option Rec) (held : Int) (q : Rec) (e : Ending) (w' : World) : Prop :=
  e = .returned (.tuple #[.int .i64 ((r.data.length : Int) + 1), .int .i64 0]) ∧ (∃ d', Dia w' d' B b L mb m (r.add (bs q.bytes)) (n + 1) (fun j => if j = (r.data.length : Int) + 1 then some q else g j) ((r.data.length : Int) + 1) held ∧ ∀ k, d' = some k → d = some k ∨ w.heap.size ≤ k) ∧ Chg (fun k => Reel.Own (Tight d w) B b k ∨ k = L ∨ k = mb) w w'
set_option maxHeartbeats 4000000 in
theorem add_calls (h : Dia w d B b L mb m r n g last held) (x : Sr) (hx : x.Has w) (hc : x.Caps) (ho : x.Off (Own d B b L mb)) (hg : x.r.good = true) (hf : (x.r.bytes.length : Int) ≤ ((r.size - r.data.length : Nat) : Int) - held) (hon : m.on = true) (hfu : m.fuse = -1) (hnew : g ((r.data.length : Int) + 1) = none) (hn : n < 1000000) :
    Calls Try.prog 52 #[.pointer (some ⟨L, 0, none⟩), .agg x.recCells.toArray] w fun e w' => AddPost w d B b L mb m r n g held x.r e w' := by
  have X := Lib.hid (Row.new w 58 x.recCells)
  have B0 := Lib.hid ((Below.refl w.heap.size w).alloc (Nat.le_refl _) (.cells x.recCells.toArray 58))
  have BC := Lib.hid (nbytes_good x _ (hx.keep B0.out) hg)
  have HH := Lib.hid h
  have XH := Lib.hid hx
  have XC := Lib.hid hc
  have XO := Lib.hid ho
  have SM := Lib.hid (good_small hg)
  have GN := Lib.hid hnew
  have LN := Lib.hid hn
  obtain ⟨l1, l2⟩ := h.hl
  obtain ⟨k1, k2, k3⟩ := h.reel.2.2.2.2.1
  have hus : m.errUse = 0 ∧ m.used = m := by
    obtain ⟨on, fu, bo⟩ := m
    simp only at hon hfu
    subst hon hfu
    exact ⟨by simp [M.errUse], by simp [M.used]⟩
  obtain ⟨sb, hsb⟩ : ∃ l, x.r.bytes = l := ⟨_, rfl⟩
  unfold AddPost
  rw [hsb] at BC hf ⊢
  have hz : (bs sb).size = sb.length := bs_size _
  have hnf : r.full (bs sb) = false := by unfold R.full; rw [hz]; simp; omega
  have AE : appErr m r (bs sb) = 0 := by unfold appErr; rw [hnf]; exact hus.1
  have AM : appM m r (bs sb) = m := by unfold appM; rw [hnf]; exact hus.2
  have AR : appR m r (bs sb) = r.add (bs sb) := by unfold appR; rw [hnf, hus.1]; rfl
  have hd1 : decide (((r.size - r.data.length : Nat) : Int) - held < (sb.length : Int)) = false := by simp; omega
  have hAL : (r.add (bs sb)).data.length = r.data.length + sb.length := by unfold R.add; simp; rfl
  have hAS : (r.add (bs sb)).size = r.size := rfl
  have hi1 : IntKind.i64.wrap ((r.data.length : Int) + 1) = (r.data.length : Int) + 1 := IntWalk.i64_in _ (by omega)
  have AC := Lib.hid (fun (w1 : World) (hb : Below w.heap.size w w1) => (show Calls Try.prog 26 #[.pointer (some ⟨b, 0, none⟩), .string (bs sb)] w1 fun e w' => e = .returned (.int .i64 0) ∧ Reel.Is w' (Tight d w1) B b (r.add (bs sb)) ∧ Row w' B 147 m.cells ∧ Chg (Reel.Own (Tight d w1) B b) w1 w' from by
    have := append_calls _ _ _ m r (bs sb) w1 (h.below hb).reel (h.below hb).pow (by omega)
    rwa [AE, AM, AR] at this))
  have HAL := Lib.hid hAL
  have HAS := Lib.hid hAS
  clear h hx hc ho hg hon hfu hnew hn hus hsb hnf AE AM AR hAL hAS
  go_enter Try.func52, Try.ntmps52
  go_wp2_with (refine load_row X.out 58 Try.underlying58 rfl (by kernel_rfl) rfl rfl rfl ?_)
  refine BC.out.mono ?_
  rintro e w1 ⟨rfl, kk⟩
  have B1 := Lib.hid (B0.out.trans (kk.mono B0.out.size))
  have X1 := Lib.hid (X.out.below kk X.out.lt)
  clear kk
  go_wp2_with fail
  refine (room_calls (HH.out.below B1.out)).mono ?_
  rintro e w2 ⟨rfl, q, rfl⟩
  have B2 := Lib.hid (below_drewN B1.out q)
  have X2 := Lib.hid (X1.out.drewN q)
  have H2 := Lib.hid (HH.out.below B2.out)
  have y0 := H2.out.log.cell (i := 0) rfl
  go_wp2_with fail
  refine (len_calls _ _ _ _ _ H2.out.reel).mono ?_
  rintro e w3 ⟨rfl, rfl⟩
  go_wp2_with fail
  refine (AC.out _ B2.out).mono ?_
  rintro e w4 ⟨rfl, hR, hM, hC⟩
  obtain ⟨d', hD, hd'⟩ := H2.out.reeled hR hM hC (by rw [HAL.out, HAS.out]; omega)
  have H4 := Lib.hid hD
  have DD := Lib.hid hd'
  have C4 := Lib.hid ((Chg.of_below (S := Reel.Own (Tight d w) B b) B2.out).next hC (fun j hj e => by
    rcases e with e | e | e | e
    · exact .inl e
    · exact .inr (.inl e)
    · exact .inr (.inr (.inl e))
    · have := B2.out.size; omega))
  have X4 := Lib.hid (X2.out.chg hC (fun e => by
    have hs := HH.out.pow.lt
    have hs2 : b < w.heap.size := by
      rcases Nat.lt_or_ge b w.heap.size with h | h
      · exact h
      · exact absurd (.inr h) HH.out.reel.2.2.1
    rcases e with e | e | e | e
    · omega
    · omega
    · have := (HH.out.hd _ e).1; omega
    · have := X2.out.lt; omega))
  have XH4 := Lib.hid ((XH.out.keep B2.out).chg hC ((XO.out.both (XH.out.keep B2.out).off).mono (fun k e => by
    rcases e with e | e | e | e
    · exact .inl (.inr (.inl e))
    · exact .inl (.inr (.inr (.inl e)))
    · exact .inl (.inl e)
    · exact .inr e)))
  clear hR hM hC hD hd' y0
  go_wp2_with fail
  obtain ⟨f, hf4, hh4⟩ := H4.out.map
  have hfn : f ((r.data.length : Int) + 1) = none := by
    have := hh4 ((r.data.length : Int) + 1)
    cases hq : f ((r.data.length : Int) + 1) with
    | none => rfl
    | some v =>
      rw [hq] at this
      obtain ⟨y, e, _⟩ := this
      rw [GN.out] at e
      cases e
  have I4 := Lib.hid hf4
  have M4 := Lib.hid hh4
  have FN := Lib.hid hfn
  have L4 := Lib.hid H4.out.log
  have y1 := L4.out.cell (i := 1) rfl
  have KB := Lib.hid (Below.refl w4.heap.size w4).drew
  have LL := Lib.hid L4.out.drew
  have XX := Lib.hid X4.out.drew
  have hmw : mb < w.heap.size := by
    obtain ⟨f0, hf0, _⟩ := HH.out.map
    exact hf0.lt
  have hml : L ≠ mb := fun e => H4.out.apart.2.2.2.2 e.symm
  have hwf : (Lit.int .i64 ((r.data.length : Int) + 1)).wf = true := wf_i64 (by omega) (by omega)
  clear hf4 hh4 hfn y1 BC AC
  refine Reg.start (fun w' => w'.cell? ⟨L, 1, none⟩ = some (.map (some mb)) ∧ Row w' w.heap.size 58 x.recCells) (fun i => i == 14) (by kernel_rfl) ⟨LL.out.cell rfl, XX.out⟩ (fun hHeld => ?_)
  generalize w4.drew = wd at *
  refine Reg.takeI 0 (v := ?_) rfl (by kernel_rfl) (by kernel_rfl) (by kernel_rfl) (by kernel_rfl) (fun _ _ _ h => h) (by rfl) ?_ hHeld ?_
  rotate_left 1
  · (intro w hSw; (try dsimp only at hSw); go_simp; try with_reducible rfl)
  try simp only [Act.put, List.setIfInBounds_toArray, List.set_cons_zero, List.set_cons_succ]
  refine Reg.takeI 1 (v := ?_) rfl (by kernel_rfl) (by kernel_rfl) (by kernel_rfl) (by kernel_rfl) (fun _ _ _ h => h) (by rfl) ?_ hHeld ?_
  rotate_left 1
  · (intro w hSw; (try dsimp only at hSw); go_simp; try with_reducible rfl)
  try simp only [Act.put, List.setIfInBounds_toArray, List.set_cons_zero, List.set_cons_succ]
  refine Reg.takeI 2 (v := ?_) rfl (by kernel_rfl) (by kernel_rfl) (by kernel_rfl) (by kernel_rfl) (fun _ _ _ h => h) (by rfl) ?_ hHeld ?_
  rotate_left 1
  · (intro w hSw; (try dsimp only at hSw); go_simp; try with_reducible rfl)
  try simp only [Act.put, List.setIfInBounds_toArray, List.set_cons_zero, List.set_cons_succ]
  refine Reg.takeI 3 (v := ?_) rfl (by kernel_rfl) (by kernel_rfl) (by kernel_rfl) (by kernel_rfl) (fun _ _ _ h => h) (by rfl) ?_ hHeld ?_
  rotate_left 1
  · (intro w hSw; (try dsimp only at hSw); go_simp; try with_reducible rfl)
  try simp only [Act.put, List.setIfInBounds_toArray, List.set_cons_zero, List.set_cons_succ]
  refine Reg.takeI 4 (v := ?_) rfl (by kernel_rfl) (by kernel_rfl) (by kernel_rfl) (by kernel_rfl) (fun _ _ _ h => h) (by rfl) ?_ hHeld ?_
  rotate_left 1
  · (intro w hSw; (try dsimp only at hSw); go_simp; try with_reducible rfl)
  try simp only [Act.put, List.setIfInBounds_toArray, List.set_cons_zero, List.set_cons_succ]
  refine Reg.takeI 5 (v := ?_) rfl (by kernel_rfl) (by kernel_rfl) (by kernel_rfl) (by kernel_rfl) (fun _ _ _ h => h) (by rfl) ?_ hHeld ?_
  rotate_left 1
  · (intro w hSw; (try dsimp only at hSw); go_simp; try with_reducible rfl)
  try simp only [Act.put, List.setIfInBounds_toArray, List.set_cons_zero, List.set_cons_succ]
  refine Reg.takeI 6 (v := .agg x.recCells.toArray) rfl (by kernel_rfl) (by kernel_rfl) (by kernel_rfl) (by kernel_rfl) (fun _ _ _ h => h) (by rfl) ?_ hHeld ?_
  · intro w hSw
    exact exec_row hSw.2 58 Try.underlying58 rfl (by kernel_rfl) (by rfl) (by rfl)
  try simp only [Act.put, List.setIfInBounds_toArray, List.set_cons_zero, List.set_cons_succ]
  refine Reg.takeI 8 (v := ?_) rfl (by kernel_rfl) (by kernel_rfl) (by kernel_rfl) (by kernel_rfl) (fun _ _ _ h => h) (by rfl) ?_ hHeld ?_
  rotate_left 1
  · (intro w hSw; (try dsimp only at hSw); go_simp; try with_reducible rfl)
  try simp only [Act.put, List.setIfInBounds_toArray, List.set_cons_zero, List.set_cons_succ]
  refine Reg.oneI 7 rfl (by kernel_rfl) (by rfl) (fun K hK => ?_)
  go_simp
  go_at_call 86
  refine (copied_calls _ _ _ ((XH4.out.keep KB.out).rec XC.out) SM.out).mono ?_
  rintro e w8 ⟨⟨v, rfl, hN⟩, k8⟩
  have SZ8 := Lib.hid KB.out.size
  replace KB := Lib.hid (KB.out.trans (k8.mono KB.out.size))
  replace LL := Lib.hid (LL.out.below k8 LL.out.lt)
  replace XX := Lib.hid (XX.out.below k8 XX.out.lt)
  obtain ⟨z, _, hzr, hzv, hzH, hzC, hzO⟩ := sr_of_new hN 0
  subst hzv
  have ZR := Lib.hid hzr
  have ZH := Lib.hid hzH
  have ZC := Lib.hid hzC
  have ZO := Lib.hid (hzO.mono (S2 := fun k => k < w4.heap.size) (fun k hk => Nat.lt_of_lt_of_le hk SZ8.out))
  clear k8 hN hzr hzH hzC hzO SZ8
  go_wp2_with fail
  refine hK.out _ _ (fun _ => ⟨LL.out.cell rfl, XX.out⟩) (fun hHeld => ?_)
  replace hHeld := hHeld (by first | rfl | trivial)
  clear hK K
  try simp only [Act.put, List.setIfInBounds_toArray, List.set_cons_zero, List.set_cons_succ]
  refine Reg.oneI 9 rfl (by kernel_rfl) (by rfl) (fun K hK => ?_)
  obtain ⟨st, w9, hr9, hC9, hz9, hfin⟩ := (I4.out.below KB.out I4.out.lt).entry_new (t := 156) (e := 58) Try.underlying3 Try.underlying156 (by have := LN.out; unfold maxLen; omega) (z := .agg #[.int .i64 0, .int .i64 0, .int .i64 0, .int .i64 0, .slice none 0 0, .int .i64 0, .int .i64 0, .string ⟨#[]⟩, .string ⟨#[]⟩, .slice none 0 0, .slice none 0 0]) (fun u => by kernel_rfl) hwf FN.out
  replace LL := Lib.hid (LL.out.chg hC9 (fun e => hml e))
  replace XX := Lib.hid (XX.out.chg hC9 (fun e => by have e : w.heap.size = mb := e; omega))
  go_simp
  refine hK.out _ _ (fun _ => ⟨LL.out.cell rfl, XX.out⟩) (fun hHeld => ?_)
  replace hHeld := hHeld (by first | rfl | trivial)
  clear hK K
  try simp only [Act.put, List.setIfInBounds_toArray, List.set_cons_zero, List.set_cons_succ]
  refine Reg.takeI 10 (v := ?_) rfl (by kernel_rfl) (by kernel_rfl) (by kernel_rfl) (by kernel_rfl) (fun _ _ _ h => h) (by rfl) ?_ hHeld ?_
  rotate_left 1
  · (intro w hSw; (try dsimp only at hSw); go_simp; try with_reducible rfl)
  try simp only [Act.put, List.setIfInBounds_toArray, List.set_cons_zero, List.set_cons_succ]
  refine Reg.oneI 11 rfl (by kernel_rfl) (by rfl) (fun K hK => ?_)
  obtain ⟨w10, hr11, hI10, hC10, hz10⟩ := hfin w9 (.agg z.recCells.toArray) rfl
  simp only [goInt] at hr11
  replace LL := Lib.hid (LL.out.chg hC10 (fun e => hml e))
  replace XX := Lib.hid (XX.out.chg hC10 (fun e => by have e : w.heap.size = mb := e; omega))
  go_simp
  refine hK.out _ _ (fun _ => ⟨LL.out.cell rfl, XX.out⟩) (fun hHeld => ?_)
  replace hHeld := hHeld (by first | rfl | trivial)
  clear hK K
  try simp only [Act.put, List.setIfInBounds_toArray, List.set_cons_zero, List.set_cons_succ]
  refine Reg.oneI 12 rfl (by kernel_rfl) (by rfl) (fun K hK => ?_)
  go_simp
  refine hK.out _ _ (fun _ => ⟨LL.out.cell rfl, XX.out⟩) (fun hHeld => ?_)
  replace hHeld := hHeld (by first | rfl | trivial)
  clear hK K
  try simp only [Act.put, List.setIfInBounds_toArray, List.set_cons_zero, List.set_cons_succ]
  refine Reg.takeI 13 (v := ?_) rfl (by kernel_rfl) (by kernel_rfl) (by kernel_rfl) (by kernel_rfl) (fun _ _ _ h => h) (by rfl) ?_ hHeld ?_
  rotate_left 1
  · (intro w hSw; (try dsimp only at hSw); go_simp; try with_reducible rfl)
  try simp only [Act.put, List.setIfInBounds_toArray, List.set_cons_zero, List.set_cons_succ]
  refine Reg.oneI 14 rfl (by kernel_rfl) (by rfl) (fun K hK => ?_)
  have hL10 := LL.out
  have y2 := hL10.cell (i := 2) rfl
  have f2 := hL10.frozen 2 (by simp [lcells])
  go_simp
  refine hK.out _ _ (fun h => by cases h) (fun _ => ?_)
  clear hK K
  try simp only [Act.put, List.setIfInBounds_toArray, List.set_cons_zero, List.set_cons_succ]
  refine Reg.doneI (by kernel_rfl) ?_
  have c1 : Chg (fun k => k = mb ∨ k = L) w4 w8 := Chg.of_below KB.out
  have c2 := c1.next hC9 (fun k hk e => .inl e)
  have c3 := c2.next hC10 (fun k hk e => .inl e)
  have hput : Chg (One L) w10 (w10.setCell ⟨L, 2, none⟩ (.int .i64 ((r.data.length : Int) + 1))) := (Chg.refl _ _).put 2 _
  have c4 := c3.next hput (fun k hk e => .inr e)
  obtain ⟨a1, a2, a3, a4, a5⟩ := H4.out.apart
  have hLl := H4.out.log.lt
  have hml4 := I4.out.lt
  have hBl := H4.out.pow.lt
  have hbl : b < w4.heap.size := by
    rcases Nat.lt_or_ge b w4.heap.size with h | h
    · exact h
    · exact absurd (.inr h) H4.out.reel.2.2.1
  have hzz := ((ZH.out.chg hC9 (ZO.out.mono (fun k e => by have e : k = mb := e; show k < w4.heap.size; omega))).chg hC10 (ZO.out.mono (fun k e => by have e : k = mb := e; show k < w4.heap.size; omega))).chg hput (ZO.out.mono (fun k e => by have e : k = L := e; show k < w4.heap.size; omega))
  have hstep := Held.step M4.out c4 (fun k hk e => by
    rcases e with e | e
    · exact .inr (.inr (.inr (.inr e)))
    · exact .inr (.inr (.inr (.inl e)))) (k := (r.data.length : Int) + 1) hzz ZC.out (ZO.out.mono (fun k e => by
    show k < w4.heap.size
    rcases e with e | e | e | e | e
    · exact (H4.out.hd k e).1
    · omega
    · omega
    · omega
    · omega)) (by rw [ZR.out]; exact SM.out)
  rw [ZR.out] at hstep
  have hD11 : Dia (w10.setCell ⟨L, 2, none⟩ (.int .i64 ((r.data.length : Int) + 1))) d' B b L mb m (r.add (bs sb)) (n + 1) (fun j => if j = (r.data.length : Int) + 1 then some x.r else g j) ((r.data.length : Int) + 1) held :=
    ⟨is_chg H4.out.reel hBl c4 (fun e => by rcases e with e | e; exact a4 e.symm; exact a2 e.symm) (fun k e x => by rcases x with x | x; exact (H4.out.hd k e).2.2 x; exact (H4.out.hd k e).2.1 x), H4.out.pow.chg c4 (fun e => by rcases e with e | e; exact a3 e.symm; exact a1 e.symm), (LL.out.set 2 _).cast rfl, ⟨_, hI10.chg hput (fun e => hml (show mb = L from e).symm), hstep⟩, fun k e => ⟨Nat.lt_of_lt_of_le (H4.out.hd k e).1 c4.size, (H4.out.hd k e).2⟩, H4.out.apart, H4.out.hl, ⟨by omega, by omega⟩, by have := LN.out; omega⟩
  have FIN := Lib.hid hD11
  have CF := Lib.hid (show Chg (fun k => Reel.Own (Tight d w) B b k ∨ k = L ∨ k = mb) w _ from (C4.out.mono (fun k _ e => .inl e)).next c4 (fun k _ e => by rcases e with e | e; exact .inr (.inr e); exact .inr (.inl e)))
  clear hD11 hstep hzz c1 c2 c3 c4 hput hI10 hC9 hC10 hr9 hr11 hfin hz9 hz10 y2 f2 hL10
  go_wp2_with fail
  go_ret2
  exact ⟨rfl, ⟨d', FIN.out, fun k e => (DD.out k e).imp id (fun h => Nat.le_trans B2.out.size h)⟩, CF.out⟩
end
end Go.Proofs.Ytcfjooeagfollaa.Dia

/- A log that is nil. -/
namespace Go.Proofs.Ytcfjooeagfollaa.Dia
open Go.RowKit Go.Proofs.Ytcfjooeagfollaa.Mem Go.Proofs.Ytcfjooeagfollaa.Bytes Go.Proofs.Ytcfjooeagfollaa.Mains Go.Proofs.Ytcfjooeagfollaa.Reel Go.Proofs.Ytcfjooeagfollaa.Note
set_option linter.unusedSimpArgs false
set_option linter.unusedVariables false
set_option maxRecDepth 20000

theorem room_nil (w : World) : Calls Try.prog 61 #[.pointer none] w fun e w' => e = .returned (.int .i64 0) ∧ w' = w := by
  go_enter Try.func61, Try.ntmps61
  go_wp2_with fail
  go_ret
  exact ⟨rfl, rfl⟩
theorem last_nil (w : World) : Calls Try.prog 64 #[.pointer none] w fun e w' => e = .returned (.int .i64 0) ∧ w' = w := by
  go_enter Try.func64, Try.ntmps64
  go_wp2_with fail
  go_ret
  exact ⟨rfl, rfl⟩
theorem hold_nil (w : World) (k : Int) : Calls Try.prog 59 #[.pointer none, .int .i64 k] w fun e w' => e = .returned (.int .i64 2) ∧ w' = w := by
  go_enter Try.func59, Try.ntmps59
  go_wp2_with fail
  go_ret
  exact ⟨rfl, rfl⟩
theorem free_nil (w : World) (k : Int) : Calls Try.prog 60 #[.pointer none, .int .i64 k] w fun e w' => e = .returned (.tuple #[]) ∧ w' = w := by
  go_enter Try.func60, Try.ntmps60
  go_wp2_with fail
  go_end0
  exact ⟨rfl, rfl⟩
theorem force_nil (w : World) (k : Int) : Calls Try.prog 56 #[.pointer none, .int .i64 k] w fun e w' => e = .returned (.int .i64 2) ∧ w' = w := by
  go_enter Try.func56, Try.ntmps56
  go_wp2_with fail
  go_ret
  exact ⟨rfl, rfl⟩
set_option maxHeartbeats 2000000 in
theorem add_nil (x : Sr) (w : World) : Calls Try.prog 52 #[.pointer none, .agg x.recCells.toArray] w fun e w' => e = .returned (.tuple #[.int .i64 0, .int .i64 2]) ∧ Below w.heap.size w w' := by
  have B0 := Lib.hid ((Below.refl w.heap.size w).alloc (Nat.le_refl _) (.cells x.recCells.toArray 58))
  go_enter Try.func52, Try.ntmps52
  go_wp2_with fail
  go_ret2
  exact ⟨rfl, B0.out⟩
theorem noRec_new (B : Nat) (w : World) : NewRec B w (.agg #[.int .i64 0, .int .i64 0, .int .i64 0, .int .i64 0, .slice none 0 0, .int .i64 0, .int .i64 0, .string ⟨#[]⟩, .string ⟨#[]⟩, .slice none 0 0, .slice none 0 0]) noRec :=
  ⟨none, 0, 0, none, 0, 0, none, 0, 0, rfl, ⟨⟨rfl, by simp [noRec], fun i x hx => by simp [noRec] at hx⟩, ⟨rfl, by simp [noRec], fun i x hx => by simp [noRec] at hx⟩, ⟨rfl, by simp [noRec], fun i x hx => by simp [noRec] at hx⟩⟩, ⟨Nat.le_refl _, Nat.le_refl _, Nat.le_refl _⟩, ⟨fun ad e => by simp at e, fun ad e => by simp at e, fun ad e => by simp at e⟩⟩
set_option maxHeartbeats 2000000 in
theorem at_nil (k : Int) (w : World) : Calls Try.prog 62 #[.pointer none, .int .i64 k] w fun e w' => AtPost w.heap.size none e w' ∧ Below w.heap.size w w' := by
  have A0 := Lib.hid (Row.new w 58 [.int .i64 0, .int .i64 0, .int .i64 0, .int .i64 0, .slice none 0 0, .int .i64 0, .int .i64 0, .string ⟨#[]⟩, .string ⟨#[]⟩, .slice none 0 0, .slice none 0 0])
  have B0 := Lib.hid ((Below.refl w.heap.size w).alloc (Nat.le_refl _) (.cells #[.int .i64 0, .int .i64 0, .int .i64 0, .int .i64 0, .slice none 0 0, .int .i64 0, .int .i64 0, .string ⟨#[]⟩, .string ⟨#[]⟩, .slice none 0 0, .slice none 0 0] 58))
  unfold AtPost
  go_enter Try.func62, Try.ntmps62
  go_wp2_with (refine store_row A0.out [.int .i64 0, .int .i64 0, .int .i64 0, .int .i64 0, .slice none 0 0, .int .i64 0, .int .i64 0, .string ⟨#[]⟩, .string ⟨#[]⟩, .slice none 0 0, .slice none 0 0] 58 (by kernel_rfl) rfl (by simp [Value.oneCell']) rfl rfl rfl rfl ?_; intro w3 h3 k3 z3; have A3 := Lib.hid h3; have B3 := Lib.hid (B0.out.trans (k3.below (B := w.heap.size) B0.out.size (fun i e => by have e : i = w.heap.size := e; omega))); clear h3 k3 z3)
  exact ret_row2 A3.out Try.results62 Try.underlying58 rfl (by kernel_rfl) rfl rfl ⟨⟨_, rfl, noRec_new _ _⟩, B3.out⟩
set_option maxHeartbeats 2000000 in
theorem issafe_nil (k : Int) (w : World) : Calls Try.prog 63 #[.pointer none, .int .i64 k] w fun e w' => e = .returned (.bool false) ∧ Below w.heap.size w w' := by
  go_enter Try.func63, Try.ntmps63
  go_wp2_with fail
  refine (at_nil k _).mono ?_
  rintro e w1 ⟨⟨v, rfl, hN⟩, k1⟩
  have B1 := Lib.hid k1
  obtain ⟨b0, n0, c0, b1, n1, c1, b2, n2, c2, hv, _⟩ := hN
  subst hv
  have C0 := Lib.hid (Row.new w1 58 [.int .i64 0, .int .i64 0, .int .i64 0, .int .i64 0, .slice none 0 0, .int .i64 0, .int .i64 0, .string ⟨#[]⟩, .string ⟨#[]⟩, .slice none 0 0, .slice none 0 0])
  have B2 := Lib.hid ((Below.refl w1.heap.size w1).alloc (Nat.le_refl _) (.cells #[.int .i64 0, .int .i64 0, .int .i64 0, .int .i64 0, .slice none 0 0, .int .i64 0, .int .i64 0, .string ⟨#[]⟩, .string ⟨#[]⟩, .slice none 0 0, .slice none 0 0] 58))
  clear k1
  go_wp2_with (refine store_row C0.out ((Option.none.getD noRec).cells (.slice b0 n0 c0) (.slice b1 n1 c1) (.slice b2 n2 c2)) 58 (by kernel_rfl) rfl (by simp [Rec.cells, Value.oneCell']) rfl rfl rfl rfl ?_; intro w3 h3 k3 z3; have C3 := Lib.hid h3; have B3 := Lib.hid (B2.out.trans (k3.below (B := w1.heap.size) B2.out.size (fun i e => by have e : i = w1.heap.size := e; omega))); clear h3 k3 z3)
  clear C0 C3
  have KB := Lib.hid (Below.refl w3.heap.size w3).drew
  refine Reg.start (fun w' => Below w3.heap.size w3 w') (fun i => false) (by kernel_rfl) KB.out (fun hHeld => ?_)
  generalize w3.drew = wd at *
  refine Reg.takeI 0 (v := ?_) rfl (by kernel_rfl) (by kernel_rfl) (by kernel_rfl) (by kernel_rfl) (fun _ _ _ h => h) (by rfl) ?_ hHeld ?_
  rotate_left 1
  · (intro w hSw; (try dsimp only at hSw); go_simp; try with_reducible rfl)
  try simp only [Act.put, List.setIfInBounds_toArray, List.set_cons_zero, List.set_cons_succ]
  refine Reg.takeI 1 (v := ?_) rfl (by kernel_rfl) (by kernel_rfl) (by kernel_rfl) (by kernel_rfl) (fun _ _ _ h => h) (by rfl) ?_ hHeld ?_
  rotate_left 1
  · (intro w hSw; (try dsimp only at hSw); go_simp; try with_reducible rfl)
  try simp only [Act.put, List.setIfInBounds_toArray, List.set_cons_zero, List.set_cons_succ]
  refine Reg.passI 2 rfl (by kernel_rfl) (by kernel_rfl) (by kernel_rfl) (by kernel_rfl) (fun _ _ _ h => h) (by rfl) hHeld ?_
  try simp only [Act.put, List.setIfInBounds_toArray, List.set_cons_zero, List.set_cons_succ]
  refine Reg.passI 3 rfl (by kernel_rfl) (by kernel_rfl) (by kernel_rfl) (by kernel_rfl) (fun _ _ _ h => h) (by rfl) hHeld ?_
  try simp only [Act.put, List.setIfInBounds_toArray, List.set_cons_zero, List.set_cons_succ]
  refine Reg.passI 4 rfl (by kernel_rfl) (by kernel_rfl) (by kernel_rfl) (by kernel_rfl) (fun _ _ _ h => h) (by rfl) hHeld ?_
  try simp only [Act.put, List.setIfInBounds_toArray, List.set_cons_zero, List.set_cons_succ]
  refine Reg.passI 5 rfl (by kernel_rfl) (by kernel_rfl) (by kernel_rfl) (by kernel_rfl) (fun _ _ _ h => h) (by rfl) hHeld ?_
  try simp only [Act.put, List.setIfInBounds_toArray, List.set_cons_zero, List.set_cons_succ]
  refine Reg.passI 6 rfl (by kernel_rfl) (by kernel_rfl) (by kernel_rfl) (by kernel_rfl) (fun _ _ _ h => h) (by rfl) hHeld ?_
  try simp only [Act.put, List.setIfInBounds_toArray, List.set_cons_zero, List.set_cons_succ]
  refine Reg.passI 7 rfl (by kernel_rfl) (by kernel_rfl) (by kernel_rfl) (by kernel_rfl) (fun _ _ _ h => h) (by rfl) hHeld ?_
  try simp only [Act.put, List.setIfInBounds_toArray, List.set_cons_zero, List.set_cons_succ]
  refine Reg.passI 8 rfl (by kernel_rfl) (by kernel_rfl) (by kernel_rfl) (by kernel_rfl) (fun _ _ _ h => h) (by rfl) hHeld ?_
  try simp only [Act.put, List.setIfInBounds_toArray, List.set_cons_zero, List.set_cons_succ]
  refine Reg.passI 9 rfl (by kernel_rfl) (by kernel_rfl) (by kernel_rfl) (by kernel_rfl) (fun _ _ _ h => h) (by rfl) hHeld ?_
  try simp only [Act.put, List.setIfInBounds_toArray, List.set_cons_zero, List.set_cons_succ]
  refine Reg.passI 10 rfl (by kernel_rfl) (by kernel_rfl) (by kernel_rfl) (by kernel_rfl) (fun _ _ _ h => h) (by rfl) hHeld ?_
  try simp only [Act.put, List.setIfInBounds_toArray, List.set_cons_zero, List.set_cons_succ]
  refine Reg.passI 11 rfl (by kernel_rfl) (by kernel_rfl) (by kernel_rfl) (by kernel_rfl) (fun _ _ _ h => h) (by rfl) hHeld ?_
  try simp only [Act.put, List.setIfInBounds_toArray, List.set_cons_zero, List.set_cons_succ]
  refine Reg.passI 12 rfl (by kernel_rfl) (by kernel_rfl) (by kernel_rfl) (by kernel_rfl) (fun _ _ _ h => h) (by rfl) hHeld ?_
  try simp only [Act.put, List.setIfInBounds_toArray, List.set_cons_zero, List.set_cons_succ]
  refine Reg.takeI 13 (v := ?_) rfl (by kernel_rfl) (by kernel_rfl) (by kernel_rfl) (by kernel_rfl) (fun _ _ _ h => h) (by rfl) ?_ hHeld ?_
  rotate_left 1
  · (intro w hSw; (try dsimp only at hSw); go_simp; try with_reducible rfl)
  try simp only [Act.put, List.setIfInBounds_toArray, List.set_cons_zero, List.set_cons_succ]
  refine Reg.takeI 14 (v := ?_) rfl (by kernel_rfl) (by kernel_rfl) (by kernel_rfl) (by kernel_rfl) (fun _ _ _ h => h) (by rfl) ?_ hHeld ?_
  rotate_left 1
  · (intro w hSw; (try dsimp only at hSw); go_simp; try with_reducible rfl)
  try simp only [Act.put, List.setIfInBounds_toArray, List.set_cons_zero, List.set_cons_succ]
  refine Reg.doneI (by kernel_rfl) ?_
  go_wp2_with fail
  go_ret
  exact ⟨rfl, B1.out.trans ((B3.out.trans (KB.out.mono B3.out.size)).mono B1.out.size)⟩
end Go.Proofs.Ytcfjooeagfollaa.Dia

/- gaugerlaw07.awake. -/
namespace Go.Proofs.Ytcfjooeagfollaa.Dia
open Go.RowKit Go.Proofs.Ytcfjooeagfollaa.Mem Go.Proofs.Ytcfjooeagfollaa.Bytes Go.Proofs.Ytcfjooeagfollaa.Mains Go.Proofs.Ytcfjooeagfollaa.Reel Go.Proofs.Ytcfjooeagfollaa.Note
set_option linter.unusedSimpArgs false
set_option linter.unusedVariables false
set_option maxRecDepth 20000

/-- A record without lists. -/
def bare (k d : Int) : Rec := ⟨k, d, 0, 0, 0, 0, ⟨#[]⟩, ⟨#[]⟩, [], [], []⟩
def bareS (k d : Int) : Sr := ⟨0, bare k d, none, 0, none, 0, none, 0⟩
theorem bareS_has (k d : Int) (w : World) : (bareS k d).Has w :=
  ⟨⟨rfl, by simp [bareS, bare], fun i x hx => by simp [bareS, bare] at hx⟩, ⟨rfl, by simp [bareS, bare], fun i x hx => by simp [bareS, bare] at hx⟩, ⟨rfl, by simp [bareS, bare], fun i x hx => by simp [bareS, bare] at hx⟩⟩
theorem bareS_caps (k d : Int) : (bareS k d).Caps := ⟨Nat.le_refl _, Nat.le_refl _, Nat.le_refl _⟩
theorem bareS_off (k d : Int) (S : Nat → Prop) : (bareS k d).Off S := ⟨fun ad e => by simp [bareS] at e, fun ad e => by simp [bareS] at e, fun ad e => by simp [bareS] at e⟩
theorem bare_size {k d : Int} (h : (bare k d).good = true) : (bare k d).size = 29 := by
  unfold Rec.size
  rw [if_pos h]
  rfl
theorem bare_len {k d : Int} (h : (bare k d).good = true) : (bare k d).bytes.length = 29 := by
  rw [bytes_length, body_len _ h, bare_size h]
theorem good3 : (bare 3 0).good = true := by decide
theorem good4 : (bare 4 2).good = true := by decide
theorem size3 : (bare 3 0).size = 29 := bare_size good3
set_option maxHeartbeats 4000000 in
theorem awake_calls (w : World) : Calls Try.prog 23 #[] w fun e w' => e = .returned (.bool true) ∧ Below w.heap.size w w' := by
  go_enter Try.func23, Try.ntmps23
  go_wp2_with fail
  refine (Mains.new_calls _).mono ?_
  rintro e w1 ⟨rfl, rfl⟩
  have M1 := Lib.hid (Row.new w 147 M.fresh.cells)
  have B1 := Lib.hid ((Below.refl w.heap.size w).alloc (Nat.le_refl _) (.cells M.fresh.cells.toArray 147))
  have z1 : (w.alloc (.cells M.fresh.cells.toArray 147)).heap.size = w.heap.size + 1 := by simp
  have Z1 := Lib.hid z1
  clear z1
  generalize w.alloc (.cells M.fresh.cells.toArray 147) = w1 at *
  go_wp2_with fail
  refine (Reel.new_calls w.heap.size 1000 w1 (by have := Z1.out; omega)).mono ?_
  rintro e w2 ⟨rfl, hF, k2, z2⟩
  have M2 := Lib.hid (M1.out.below k2 M1.out.lt)
  have B2 := Lib.hid (B1.out.trans (k2.mono B1.out.size))
  have Z2 := Lib.hid z2
  have FR := Lib.hid hF
  clear hF k2 z2
  go_wp2_with fail
  have RI := Lib.hid (show Reel.Is w2 (Tight none w2) w.heap.size w1.heap.size (R.fresh 1000) from FR.out.is (fun x => by
    have := Z1.out
    have := Z2.out
    rcases x with x | x
    · cases x
    · omega) (fun x => by
    have := Z2.out
    rcases x with x | x
    · cases x
    · omega) (fun k hk => .inr hk))
  refine (open_calls w2 none w.heap.size w1.heap.size M.fresh (R.fresh 1000) RI.out M2.out rfl rfl (fun k e => by cases e) (Nat.zero_le _)).mono ?_
  rintro e w3 ⟨ls, la, lcap, L, mb, n, d', rfl, hE, hV, hst, hD, hc, hL, hmb, hn, ht⟩
  obtain rfl : ls = [] := by
    have := congrArg List.length hst
    rw [List.length_map] at this
    exact List.eq_nil_of_length_eq_zero this
  obtain rfl : n = 0 := hn
  have B3 := Lib.hid (B2.out.trans (hc.below (B := w.heap.size) B2.out.size (fun i e => by
    rcases e with e | e | e | e
    · omega
    · have := Z1.out; omega
    · cases e
    · have := B2.out.size; omega)))
  have D3 := Lib.hid (show Dia w3 d' w.heap.size w1.heap.size L mb M.fresh (R.fresh 1000) 0 (fun _ => none) 0 0 from hD)
  have T3 := Lib.hid (show ∀ k, d' = some k → w.heap.size ≤ k from fun k e => by
    rcases ht k e with h | h
    · cases h
    · have := B2.out.size; omega)
  have HL := Lib.hid (show w.heap.size ≤ L from by have := B2.out.size; omega)
  have HM := Lib.hid (show w.heap.size ≤ mb from by have := B2.out.size; omega)
  have HR := Lib.hid (show w.heap.size ≤ w1.heap.size from by have := Z1.out; omega)
  clear hE hV hst hD hc ht hL hmb FR M1 M2
  obtain ⟨r4, hr4⟩ : ∃ r4, (R.fresh 1000).add (bs (bare 3 0).bytes) = r4 := ⟨_, rfl⟩
  have L4 := Lib.hid (show r4.data.length = 29 from by rw [← hr4]; exact bare_len good3)
  have S4 := Lib.hid (show r4.safe = 0 from by rw [← hr4]; rfl)
  have G4 := Lib.hid (show r4.size = 1000 from by rw [← hr4]; rfl)
  have A1 := Lib.hid (show Calls Try.prog 52 #[.pointer (some ⟨L, 0, none⟩), .agg (bareS 3 0).recCells.toArray] w3 (fun e w' => e = .returned (.tuple #[.int .i64 1, .int .i64 0]) ∧ (∃ d4, Dia w' d4 w.heap.size w1.heap.size L mb M.fresh r4 1 (fun j => if j = 1 then some (bare 3 0) else none) 1 0 ∧ ∀ k, d4 = some k → d' = some k ∨ w3.heap.size ≤ k) ∧ Chg (fun k => Reel.Own (Tight d' w3) w.heap.size w1.heap.size k ∨ k = L ∨ k = mb) w3 w') from by
    have h := add_calls D3.out (bareS 3 0) (bareS_has _ _ _) (bareS_caps _ _) (bareS_off _ _ _) good3 (by show (((bare 3 0).bytes.length : Nat) : Int) ≤ _; rw [bare_len good3]; decide) rfl rfl rfl (by decide)
    unfold AddPost at h
    rw [show (R.fresh 1000).add (bs (bareS 3 0).r.bytes) = r4 from hr4] at h
    exact h)
  clear hr4
  go_wp2_with fail
  refine A1.out.mono ?_
  rintro e w4 ⟨rfl, ⟨d4, hD4, ht4⟩, hc4⟩
  have D4 := Lib.hid hD4
  have B4 := Lib.hid (B3.out.trans (hc4.below (B := w.heap.size) B3.out.size (fun i e => by
    have := HL.out
    have := HM.out
    have := HR.out
    have := B3.out.size
    rcases e with (e | e | e | e) | e | e
    · omega
    · omega
    · exact T3.out _ e
    · omega
    · omega
    · omega)))
  have T4 := Lib.hid (show ∀ k, d4 = some k → w.heap.size ≤ k from fun k e => by
    rcases ht4 k e with h | h
    · exact T3.out k h
    · have := B3.out.size; omega)
  clear hD4 ht4 hc4 A1 D3 T3
  obtain ⟨r5, hr5⟩ : ∃ r5, r4.add (bs (bare 4 2).bytes) = r5 := ⟨_, rfl⟩
  have L5 := Lib.hid (show r5.data.length = 58 from by
    rw [← hr5]
    show (r4.data ++ (bare 4 2).bytes).length = 58
    rw [List.length_append, L4.out, bare_len good4])
  have S5 := Lib.hid (show r5.safe = 0 from by rw [← hr5]; exact S4.out)
  have G5 := Lib.hid (show r5.size = 1000 from by rw [← hr5]; exact G4.out)
  have A2 := Lib.hid (show Calls Try.prog 52 #[.pointer (some ⟨L, 0, none⟩), .agg (bareS 4 2).recCells.toArray] w4 (fun e w' => e = .returned (.tuple #[.int .i64 30, .int .i64 0]) ∧ (∃ d5, Dia w' d5 w.heap.size w1.heap.size L mb M.fresh r5 2 (fun j => if j = 30 then some (bare 4 2) else if j = 1 then some (bare 3 0) else none) 30 0 ∧ ∀ k, d5 = some k → d4 = some k ∨ w4.heap.size ≤ k) ∧ Chg (fun k => Reel.Own (Tight d4 w4) w.heap.size w1.heap.size k ∨ k = L ∨ k = mb) w4 w') from by
    have h := add_calls D4.out (bareS 4 2) (bareS_has _ _ _) (bareS_caps _ _) (bareS_off _ _ _) good4 (by show (((bare 4 2).bytes.length : Nat) : Int) ≤ _; rw [bare_len good4, L4.out, G4.out]; decide) rfl rfl (by rw [L4.out]; rfl) (by decide)
    unfold AddPost at h
    rw [show r4.add (bs (bareS 4 2).r.bytes) = r5 from hr5, L4.out] at h
    exact h)
  clear hr5
  go_wp2_with fail
  refine A2.out.mono ?_
  rintro e w5 ⟨rfl, ⟨d5, hD5, ht5⟩, hc5⟩
  have D5 := Lib.hid hD5
  have B5 := Lib.hid (B4.out.trans (hc5.below (B := w.heap.size) B4.out.size (fun i e => by
    have := HL.out
    have := HM.out
    have := HR.out
    have := B4.out.size
    rcases e with (e | e | e | e) | e | e
    · omega
    · omega
    · exact T4.out _ e
    · omega
    · omega
    · omega)))
  clear hD5 ht5 hc5 A2 D4 T4
  have AT := Lib.hid (show Calls Try.prog 62 #[.pointer (some ⟨L, 0, none⟩), .int .i64 30] w5 (fun e w' => AtPost w5.heap.size (some (bare 4 2)) e w' ∧ Below w5.heap.size w5 w') from at_calls D5.out 30 rfl)
  go_wp2_with fail
  refine AT.out.mono ?_
  rintro e w6 ⟨⟨v, rfl, hN⟩, k6⟩
  have D6 := Lib.hid (D5.out.below k6)
  have B6 := Lib.hid (B5.out.trans (k6.mono B5.out.size))
  clear k6 AT D5
  obtain ⟨b0, n0, c0, b1, n1, c1, b2, n2, c2, hv, _⟩ := hN
  subst hv
  have C6 := Lib.hid (Row.new w6 58 [.int .i64 0, .int .i64 0, .int .i64 0, .int .i64 0, .slice none 0 0, .int .i64 0, .int .i64 0, .string ⟨#[]⟩, .string ⟨#[]⟩, .slice none 0 0, .slice none 0 0])
  have B7 := Lib.hid ((Below.refl w6.heap.size w6).alloc (Nat.le_refl _) (.cells #[.int .i64 0, .int .i64 0, .int .i64 0, .int .i64 0, .slice none 0 0, .int .i64 0, .int .i64 0, .string ⟨#[]⟩, .string ⟨#[]⟩, .slice none 0 0, .slice none 0 0] 58))
  go_wp2_with (refine store_row C6.out (((some (bare 4 2)).getD noRec).cells (.slice b0 n0 c0) (.slice b1 n1 c1) (.slice b2 n2 c2)) 58 (by kernel_rfl) rfl (by simp [Rec.cells, Value.oneCell']) rfl rfl rfl rfl ?_; intro w7 h7 k7 z7; have C7 := Lib.hid h7; have B8 := Lib.hid (B7.out.trans (k7.below (B := w6.heap.size) B7.out.size (fun i e => by have e : i = w6.heap.size := e; omega))); have x1 := h7.cell (i := 1) (v := .int .i64 2) rfl; clear h7 k7 z7)
  have D7 := Lib.hid (D6.out.below B8.out)
  have B9 := Lib.hid (B6.out.trans (B8.out.mono B6.out.size))
  clear D6 B6 B7 B8 C6 C7
  refine (last_calls D7.out).mono ?_
  rintro e w8 ⟨rfl, rfl⟩
  have RM := Lib.hid (show Calls Try.prog 61 #[.pointer (some ⟨L, 0, none⟩)] w8 (fun e w' => e = .returned (.int .i64 942) ∧ ∃ q, w' = w8.drewN q) from by
    have h := room_calls D7.out
    rw [L5.out, G5.out] at h
    exact h)
  have IS := Lib.hid (fun q => (show Calls Try.prog 63 #[.pointer (some ⟨L, 0, none⟩), .int .i64 1] (w8.drewN q) (fun e w' => e = .returned (.bool false) ∧ Below (w8.drewN q).heap.size (w8.drewN q) w') from by
    have h := issafe_calls (D7.out.drewN q) 1 rfl (fun p hp => by
      have hp : some (bare 3 0) = some p := hp
      cases hp
      exact ⟨by decide, by decide, by rw [size3]; decide⟩)
    have hf : isSafe r5 1 (some (bare 3 0)) = false := by
      show decide ((1 : Int) - 1 + ((bare 3 0).size : Int) ≤ (r5.safe : Int)) = false
      rw [size3, S5.out]
      decide
    rw [show (if (1 : Int) = 30 then some (bare 4 2) else if (1 : Int) = 1 then some (bare 3 0) else none) = some (bare 3 0) from rfl, hf] at h
    exact h))
  go_wp2_with fail
  refine RM.out.mono ?_
  rintro e w9 ⟨rfl, q, rfl⟩
  go_wp2_with fail
  refine (IS.out q).mono ?_
  rintro e w10 ⟨rfl, k10⟩
  have FIN := Lib.hid ((below_drewN B9.out q).trans (k10.mono (below_drewN B9.out q).size))
  clear k10
  go_wp2_with fail
  go_ret
  exact ⟨rfl, FIN.out⟩
end Go.Proofs.Ytcfjooeagfollaa.Dia
