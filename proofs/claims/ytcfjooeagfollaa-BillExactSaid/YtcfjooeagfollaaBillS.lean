/- slices.Equal of values; bill.same, bill.Good. -/
import Derived.Test.YtcfjooeagfollaaBillV
import Derived.Test.YtcfjooeagfollaaNodeNum
import Derived.BigQuiet
import Derived.Deep.QuietTactic
namespace Go.Proofs.Ytcfjooeagfollaa.Bill
open Go.RowKit Go.Proofs.Ytcfjooeagfollaa.Mem Go.Proofs.Ytcfjooeagfollaa.Bytes Go.Proofs.Ytcfjooeagfollaa.Num Go.Proofs.Ytcfjooeagfollaa.Sign
set_option linter.unusedSimpArgs false
set_option linter.unusedVariables false
set_option maxRecDepth 20000

open Classical in
noncomputable def eqV (es es' : List V) : Bool := decide (es = es')
set_option maxHeartbeats 2000000 in
theorem equal_calls (es es' : List V) (a a' : Option Addr) (cap cap' : Nat) (w : World) (hE : Vs w a es) (hE' : Vs w a' es') (hl : es.length ≤ 9223372036854775807) (hl' : es'.length ≤ 9223372036854775807) :
    Calls Try.prog 154 #[.slice a es.length cap, .slice a' es'.length cap'] w fun e w' => e = .returned (.bool (eqV es es')) ∧ Below w.heap.size w w' := by
  obtain ⟨G, hG⟩ : ∃ G, eqV es es' = G := ⟨_, rfl⟩
  have hG1 : es = es' → G = true := fun e => by rw [← hG]; unfold eqV; simp [e]
  have hG2 : ¬ es = es' → G = false := fun e => by rw [← hG]; unfold eqV; simp [e]
  rw [hG]
  have G1 := Lib.hid hG1
  have G2 := Lib.hid hG2
  clear hG hG1 hG2
  by_cases cln : es.length = es'.length
  rotate_left
  · have hg := G2.out (fun e => cln (by rw [e]))
    have d2 : ((es.length : Int) != (es'.length : Int)) = true := by simp; omega
    go_enter Try.func154, Try.ntmps154
    go_wp2_with fail
    go_ret
    exact ⟨by rw [hg]; rfl, Below.refl _ _⟩
  have LN := Lib.hid cln
  have d2 : ((es.length : Int) != (es'.length : Int)) = false := by simp; omega
  clear cln
  go_enter Try.func154, Try.ntmps154
  go_wp2_with fail
  clear d2
  go_loopw [13] (fun i wr => ∃ k : Nat, k ≤ es.length ∧ i = .int .i64 k ∧ es.take k = es'.take k ∧ Below w.heap.size w wr) (fun i _ => es.length - (intOf i).toNat)
  case atStart => exact ⟨0, by omega, rfl, rfl, Below.refl _ _⟩
  case round =>
    obtain ⟨k, hk, rfl, htk, hb⟩ := hrel
    by_cases hlt : k < es.length
    · have hlt2 : k < es'.length := by rw [← LN.out]; exact hlt
      obtain ⟨ad, rfl, _, hx⟩ := hE k hlt
      obtain ⟨ad', rfl, _, hy⟩ := hE' k hlt2
      have hlt' : (k : Int) < (es.length : Int) := by omega
      have hlt2' : (k : Int) < (es'.length : Int) := by omega
      obtain ⟨z0, z1, z2⟩ := hx _ hb
      obtain ⟨u0, u1, u2⟩ := hy _ hb
      have HB := Lib.hid hb
      have TK := Lib.hid htk
      have t1 := List.take_succ_eq_append_getElem hlt
      have t2 := List.take_succ_eq_append_getElem hlt2
      have gg1 : es[k]? = some es[k] := List.getElem?_eq_getElem hlt
      have gg2 : es'[k]? = some es'[k] := List.getElem?_eq_getElem hlt2
      generalize es[k] = e at *
      generalize es'[k] = e' at *
      have T1 := Lib.hid t1
      have T2 := Lib.hid t2
      have Q1 := Lib.hid gg1
      have Q2 := Lib.hid gg2
      clear hx hy hb htk t1 t2 gg1 gg2
      by_cases he : e = e'
      · subst he
        obtain ⟨key, val, g⟩ := e
        simp only at z0 z1 z2 u0 u1 u2
        go_wp2_with fail
        go_quiet (fail)
        go_wp2_with fail
        exact ⟨⟨k + 1, by omega, by go_num, by rw [T1.out, T2.out, TK.out], by first | exact HB.out.drew | exact below_drewN HB.out _⟩, by simp [intOf]; omega⟩
      · have hG0 := G2.out (fun x => he (by have := Q1.out; rw [x, Q2.out] at this; injection this with this; exact this.symm))
        obtain ⟨key, val, g⟩ := e
        obtain ⟨key', val', g'⟩ := e'
        simp only at z0 z1 z2 u0 u1 u2
        have HG0 := Lib.hid hG0
        clear hG0
        by_cases ck : key = key'
        · by_cases cv : val = val'
          · subst ck cv
            have cg : ¬ g.toList = g'.toList := fun x => he (by rw [Bytes.toList_inj.1 x])
            clear he
            go_wp2_with fail
            go_quiet (fail)
            go_wp2_with fail
            go_ret
            exact ⟨by rw [HG0.out]; rfl, by first | exact HB.out.drew | exact below_drewN HB.out _⟩
          · subst ck
            have dv : ((val : Int) == val') = false := by simpa using cv
            clear he
            go_wp2_with fail
            go_quiet (fail)
            go_wp2_with fail
            go_ret
            exact ⟨by rw [HG0.out]; rfl, by first | exact HB.out.drew | exact below_drewN HB.out _⟩
        · have dk : ((key : Int) == key') = false := by simpa using ck
          clear he
          go_wp2_with fail
          go_quiet (fail)
          go_wp2_with fail
          go_ret
          exact ⟨by rw [HG0.out]; rfl, by first | exact HB.out.drew | exact below_drewN HB.out _⟩
    · obtain rfl : k = es.length := by omega
      have hee : es = es' := by
        rw [List.take_length] at htk
        rw [htk, LN.out, List.take_length]
      have hG0 := G1.out hee
      have HG0 := Lib.hid hG0
      clear hee hG0 htk
      go_wp2_with fail
      go_ret
      exact ⟨by rw [HG0.out]; rfl, hb⟩

theorem wp_store_row {P : Program} {o : Oper} {a : Act} {w : World} {K : Act → World → Prop} {Q : Exit → Act → World → Prop} {b : Nat} {e : TypeId} {cs : List Value} (hr : Row w b e cs) (vs : List Value) (ty : TypeId) (hi : (P.info? ty).map (·.size) = some vs.length) (hl : vs.length = cs.length) (h1 : ∀ v ∈ vs, v.oneCell' = true)
    {x y : Operand} (ho : o.op = .store ty x y) (hx : a.eval x = .pointer (some ⟨b, 0, none⟩)) (hy : a.eval y = .agg vs.toArray)
    (h : ∀ w', Row w' b e vs → Chg (One b) w w' → w'.heap.size = w.heap.size → K (a.put o.dst undef) w') : Oper.wp P o a w K Q := by
  refine wp_store_mid ty x y ho b 0 vs.toArray hx hy (by simpa [hl] using hr.there) (by simpa using hi) (all_oneCell_toArray h1) ?_
  refine h _ ?_ ?_ (setCells_size _ _ _ _)
  · have := Row.cells vs [] cs w hr hl
    simpa using this
  · exact Chg.cells (S := One b) b rfl _ _ _ (Chg.refl _ _)

set_option maxHeartbeats 16000000 in
theorem same_calls (x y : Mv) (w : World) (hV : Vs w x.w.ra x.w.row) (hU : Vs w y.w.ra y.w.row) (hl : x.w.row.length ≤ 9223372036854775807) (hl2 : y.w.row.length ≤ 9223372036854775807) :
    Calls Try.prog 106 #[.agg x.cells.toArray, .agg y.cells.toArray] w fun e w' => e = .returned (.bool (x.same y)) ∧ Below w.heap.size w w' := by
  obtain ⟨G, hG⟩ : ∃ G, x.same y = G := ⟨_, rfl⟩
  have hG1 : x.eqv y → G = true := fun e => by rw [← hG]; unfold Mv.same; simp [e]
  have hG2 : ¬ x.eqv y → G = false := fun e => by rw [← hG]; unfold Mv.same; simp [e]
  rw [hG]
  have G1 := Lib.hid hG1
  have G2 := Lib.hid hG2
  clear hG hG1 hG2
  obtain ⟨k, n, a, ⟨wk, wt, ⟨kk, kn, ks⟩, ⟨hk, hn, hs⟩, ra, rc, row, c, ⟨vk, vn, vs⟩, wn⟩, p, q⟩ := x
  obtain ⟨k', n', a', ⟨wk', wt', ⟨kk', kn', ks'⟩, ⟨hk', hn', hs'⟩, ra', rc', row', c', ⟨vk', vn', vs'⟩, wn'⟩, p', q'⟩ := y
  simp only at hV hU hl hl2
  show Calls Try.prog 106 #[.agg #[.int .i64 k, .int .i64 n, .int .i64 a, .int .i64 wk, .int .i64 wt, .int .i64 kk, .int .i64 kn, .string ks, .int .i64 hk, .int .i64 hn, .string hs, .slice ra row.length rc, .int .i64 c, .int .i64 vk, .int .i64 vn, .string vs, .int .i64 wn, .int .i64 p, .int .i64 q], .agg #[.int .i64 k', .int .i64 n', .int .i64 a', .int .i64 wk', .int .i64 wt', .int .i64 kk', .int .i64 kn', .string ks', .int .i64 hk', .int .i64 hn', .string hs', .slice ra' row'.length rc', .int .i64 c', .int .i64 vk', .int .i64 vn', .string vs', .int .i64 wn', .int .i64 p', .int .i64 q']] w _
  have hb := ((Below.refl w.heap.size w).alloc (Nat.le_refl _) (.cells #[.int .i64 k, .int .i64 n, .int .i64 a, .int .i64 wk, .int .i64 wt, .int .i64 kk, .int .i64 kn, .string ks, .int .i64 hk, .int .i64 hn, .string hs, .slice ra row.length rc, .int .i64 c, .int .i64 vk, .int .i64 vn, .string vs, .int .i64 wn, .int .i64 p, .int .i64 q] 94)).alloc (by simp) (.cells #[.int .i64 k', .int .i64 n', .int .i64 a', .int .i64 wk', .int .i64 wt', .int .i64 kk', .int .i64 kn', .string ks', .int .i64 hk', .int .i64 hn', .string hs', .slice ra' row'.length rc', .int .i64 c', .int .i64 vk', .int .i64 vn', .string vs', .int .i64 wn', .int .i64 p', .int .i64 q'] 94)
  have X := Lib.hid (((Row.new w 94 [.int .i64 k, .int .i64 n, .int .i64 a, .int .i64 wk, .int .i64 wt, .int .i64 kk, .int .i64 kn, .string ks, .int .i64 hk, .int .i64 hn, .string hs, .slice ra row.length rc, .int .i64 c, .int .i64 vk, .int .i64 vn, .string vs, .int .i64 wn, .int .i64 p, .int .i64 q]).alloc (.cells #[.int .i64 k', .int .i64 n', .int .i64 a', .int .i64 wk', .int .i64 wt', .int .i64 kk', .int .i64 kn', .string ks', .int .i64 hk', .int .i64 hn', .string hs', .slice ra' row'.length rc', .int .i64 c', .int .i64 vk', .int .i64 vn', .string vs', .int .i64 wn', .int .i64 p', .int .i64 q'] 94)).drew)
  have Y := Lib.hid ((show Row ((w.alloc (.cells #[.int .i64 k, .int .i64 n, .int .i64 a, .int .i64 wk, .int .i64 wt, .int .i64 kk, .int .i64 kn, .string ks, .int .i64 hk, .int .i64 hn, .string hs, .slice ra row.length rc, .int .i64 c, .int .i64 vk, .int .i64 vn, .string vs, .int .i64 wn, .int .i64 p, .int .i64 q] 94)).alloc (.cells #[.int .i64 k', .int .i64 n', .int .i64 a', .int .i64 wk', .int .i64 wt', .int .i64 kk', .int .i64 kn', .string ks', .int .i64 hk', .int .i64 hn', .string hs', .slice ra' row'.length rc', .int .i64 c', .int .i64 vk', .int .i64 vn', .string vs', .int .i64 wn', .int .i64 p', .int .i64 q'] 94)) (w.heap.size + 1) 94 [.int .i64 k', .int .i64 n', .int .i64 a', .int .i64 wk', .int .i64 wt', .int .i64 kk', .int .i64 kn', .string ks', .int .i64 hk', .int .i64 hn', .string hs', .slice ra' row'.length rc', .int .i64 c', .int .i64 vk', .int .i64 vn', .string vs', .int .i64 wn', .int .i64 p', .int .i64 q'] from Wide.new_at (by simp)).drew)
  have BB := Lib.hid (show Below w.heap.size w _ from hb.drew)
  have VV := Lib.hid hV
  have UU := Lib.hid hU
  clear hb hV hU
  go_enter Try.func106, Try.ntmps106
  go_wp2_with fail
  generalize hs1 : w.heap.size + 1 = s1 at *
  generalize hs0 : w.heap.size = s0 at *
  have HS1 := Lib.hid hs1
  have HS0 := Lib.hid hs0
  clear hs1 hs0
  refine Reg.start (fun w' => w'.cell? ⟨s0, 3, none⟩ = some (.int .i64 wk) ∧ w'.cell? ⟨s0, 4, none⟩ = some (.int .i64 wt) ∧ w'.cell? ⟨s0, 5, none⟩ = some (.int .i64 kk) ∧ w'.cell? ⟨s0, 6, none⟩ = some (.int .i64 kn) ∧ w'.cell? ⟨s0, 7, none⟩ = some (.string ks) ∧ w'.cell? ⟨s0, 8, none⟩ = some (.int .i64 hk) ∧ w'.cell? ⟨s0, 9, none⟩ = some (.int .i64 hn) ∧ w'.cell? ⟨s0, 10, none⟩ = some (.string hs) ∧ w'.cell? ⟨s0, 11, none⟩ = some (.slice ra row.length rc) ∧ w'.cell? ⟨s0, 12, none⟩ = some (.int .i64 c) ∧ w'.cell? ⟨s0, 13, none⟩ = some (.int .i64 vk) ∧ w'.cell? ⟨s0, 14, none⟩ = some (.int .i64 vn) ∧ w'.cell? ⟨s0, 15, none⟩ = some (.string vs) ∧ w'.cell? ⟨s0, 16, none⟩ = some (.int .i64 wn) ∧ w'.cell? ⟨s1, 3, none⟩ = some (.int .i64 wk') ∧ w'.cell? ⟨s1, 4, none⟩ = some (.int .i64 wt') ∧ w'.cell? ⟨s1, 5, none⟩ = some (.int .i64 kk') ∧ w'.cell? ⟨s1, 6, none⟩ = some (.int .i64 kn') ∧ w'.cell? ⟨s1, 7, none⟩ = some (.string ks') ∧ w'.cell? ⟨s1, 8, none⟩ = some (.int .i64 hk') ∧ w'.cell? ⟨s1, 9, none⟩ = some (.int .i64 hn') ∧ w'.cell? ⟨s1, 10, none⟩ = some (.string hs') ∧ w'.cell? ⟨s1, 11, none⟩ = some (.slice ra' row'.length rc') ∧ w'.cell? ⟨s1, 12, none⟩ = some (.int .i64 c') ∧ w'.cell? ⟨s1, 13, none⟩ = some (.int .i64 vk') ∧ w'.cell? ⟨s1, 14, none⟩ = some (.int .i64 vn') ∧ w'.cell? ⟨s1, 15, none⟩ = some (.string vs') ∧ w'.cell? ⟨s1, 16, none⟩ = some (.int .i64 wn')) (fun i => false) (by kernel_rfl) ⟨X.out.cell rfl, X.out.cell rfl, X.out.cell rfl, X.out.cell rfl, X.out.cell rfl, X.out.cell rfl, X.out.cell rfl, X.out.cell rfl, X.out.cell rfl, X.out.cell rfl, X.out.cell rfl, X.out.cell rfl, X.out.cell rfl, X.out.cell rfl, Y.out.cell rfl, Y.out.cell rfl, Y.out.cell rfl, Y.out.cell rfl, Y.out.cell rfl, Y.out.cell rfl, Y.out.cell rfl, Y.out.cell rfl, Y.out.cell rfl, Y.out.cell rfl, Y.out.cell rfl, Y.out.cell rfl, Y.out.cell rfl, Y.out.cell rfl⟩ (fun hHeld => ?_)
  generalize ((w.alloc (.cells #[.int .i64 k, .int .i64 n, .int .i64 a, .int .i64 wk, .int .i64 wt, .int .i64 kk, .int .i64 kn, .string ks, .int .i64 hk, .int .i64 hn, .string hs, .slice ra row.length rc, .int .i64 c, .int .i64 vk, .int .i64 vn, .string vs, .int .i64 wn, .int .i64 p, .int .i64 q] 94)).alloc (.cells #[.int .i64 k', .int .i64 n', .int .i64 a', .int .i64 wk', .int .i64 wt', .int .i64 kk', .int .i64 kn', .string ks', .int .i64 hk', .int .i64 hn', .string hs', .slice ra' row'.length rc', .int .i64 c', .int .i64 vk', .int .i64 vn', .string vs', .int .i64 wn', .int .i64 p', .int .i64 q'] 94)).drew = wd at *
  refine Reg.takeI 0 (v := ?_) rfl (by kernel_rfl) (by kernel_rfl) (by kernel_rfl) (by kernel_rfl) (fun _ _ _ h => h) (by rfl) ?_ hHeld ?_
  rotate_left 1
  · (intro w hSw; (try dsimp only at hSw); go_simp; try with_reducible rfl)
  try simp only [Act.put, List.setIfInBounds_toArray, List.set_cons_zero, List.set_cons_succ]
  refine Reg.takeI 1 (v := ?_) rfl (by kernel_rfl) (by kernel_rfl) (by kernel_rfl) (by kernel_rfl) (fun _ _ _ h => h) (by rfl) ?_ hHeld ?_
  rotate_left 1
  · (intro w hSw; (try dsimp only at hSw); go_simp; try with_reducible rfl)
  try simp only [Act.put, List.setIfInBounds_toArray, List.set_cons_zero, List.set_cons_succ]
  refine Reg.takeI 2 (v := ?_) rfl (by kernel_rfl) (by kernel_rfl) (by kernel_rfl) (by kernel_rfl) (fun _ _ _ h => h) (by rfl) ?_ hHeld ?_
  rotate_left 1
  · (intro w hSw; (try dsimp only at hSw); go_simp; try with_reducible rfl)
  try simp only [Act.put, List.setIfInBounds_toArray, List.set_cons_zero, List.set_cons_succ]
  refine Reg.takeI 3 (v := ?_) rfl (by kernel_rfl) (by kernel_rfl) (by kernel_rfl) (by kernel_rfl) (fun _ _ _ h => h) (by rfl) ?_ hHeld ?_
  rotate_left 1
  · (intro w hSw; (try dsimp only at hSw); go_simp; try with_reducible rfl)
  try simp only [Act.put, List.setIfInBounds_toArray, List.set_cons_zero, List.set_cons_succ]
  refine Reg.takeI 4 (v := ?_) rfl (by kernel_rfl) (by kernel_rfl) (by kernel_rfl) (by kernel_rfl) (fun _ _ _ h => h) (by rfl) ?_ hHeld ?_
  rotate_left 1
  · (intro w hSw; (try dsimp only at hSw); go_simp; try with_reducible rfl)
  try simp only [Act.put, List.setIfInBounds_toArray, List.set_cons_zero, List.set_cons_succ]
  refine Reg.takeI 5 (v := ?_) rfl (by kernel_rfl) (by kernel_rfl) (by kernel_rfl) (by kernel_rfl) (fun _ _ _ h => h) (by rfl) ?_ hHeld ?_
  rotate_left 1
  · (intro w hSw; (try dsimp only at hSw); go_simp; try with_reducible rfl)
  try simp only [Act.put, List.setIfInBounds_toArray, List.set_cons_zero, List.set_cons_succ]
  have XL := Lib.hid X.out.lt
  have YL := Lib.hid Y.out.lt
  refine Reg.twoI 6 7 rfl rfl (by kernel_rfl) (by rfl) (by rfl) (fun K hK => ?_) (fun K hK => ?_)
  · go_simp
    replace X := Lib.hid (X.out.alloc (.cells #[.int .i64 0, .int .i64 0, .int .i64 0, .int .i64 0, .string ⟨#[]⟩, .int .i64 0, .int .i64 0, .string ⟨#[]⟩, .slice none 0 0, .int .i64 0, .int .i64 0, .int .i64 0, .string ⟨#[]⟩, .int .i64 0] 90))
    replace Y := Lib.hid (Y.out.alloc (.cells #[.int .i64 0, .int .i64 0, .int .i64 0, .int .i64 0, .string ⟨#[]⟩, .int .i64 0, .int .i64 0, .string ⟨#[]⟩, .slice none 0 0, .int .i64 0, .int .i64 0, .int .i64 0, .string ⟨#[]⟩, .int .i64 0] 90))
    refine hK.out _ _ (fun _ => ⟨X.out.cell rfl, X.out.cell rfl, X.out.cell rfl, X.out.cell rfl, X.out.cell rfl, X.out.cell rfl, X.out.cell rfl, X.out.cell rfl, X.out.cell rfl, X.out.cell rfl, X.out.cell rfl, X.out.cell rfl, X.out.cell rfl, X.out.cell rfl, Y.out.cell rfl, Y.out.cell rfl, Y.out.cell rfl, Y.out.cell rfl, Y.out.cell rfl, Y.out.cell rfl, Y.out.cell rfl, Y.out.cell rfl, Y.out.cell rfl, Y.out.cell rfl, Y.out.cell rfl, Y.out.cell rfl, Y.out.cell rfl, Y.out.cell rfl⟩) (fun hHeld => ?_)
    replace hHeld := hHeld (by first | rfl | trivial)
    clear hK K
    try simp only [Act.put, List.setIfInBounds_toArray, List.set_cons_zero, List.set_cons_succ]
    refine Reg.oneI 7 rfl (by kernel_rfl) (by rfl) (fun K hK => ?_)
    go_simp
    replace X := Lib.hid (X.out.alloc (.cells #[.int .i64 0, .int .i64 0, .int .i64 0, .int .i64 0, .string ⟨#[]⟩, .int .i64 0, .int .i64 0, .string ⟨#[]⟩, .slice none 0 0, .int .i64 0, .int .i64 0, .int .i64 0, .string ⟨#[]⟩, .int .i64 0] 90))
    replace Y := Lib.hid (Y.out.alloc (.cells #[.int .i64 0, .int .i64 0, .int .i64 0, .int .i64 0, .string ⟨#[]⟩, .int .i64 0, .int .i64 0, .string ⟨#[]⟩, .slice none 0 0, .int .i64 0, .int .i64 0, .int .i64 0, .string ⟨#[]⟩, .int .i64 0] 90))
    have R1 := Lib.hid ((Row.new wd 90 [.int .i64 0, .int .i64 0, .int .i64 0, .int .i64 0, .string ⟨#[]⟩, .int .i64 0, .int .i64 0, .string ⟨#[]⟩, .slice none 0 0, .int .i64 0, .int .i64 0, .int .i64 0, .string ⟨#[]⟩, .int .i64 0]).alloc (.cells #[.int .i64 0, .int .i64 0, .int .i64 0, .int .i64 0, .string ⟨#[]⟩, .int .i64 0, .int .i64 0, .string ⟨#[]⟩, .slice none 0 0, .int .i64 0, .int .i64 0, .int .i64 0, .string ⟨#[]⟩, .int .i64 0] 90))
    have R2 := Lib.hid (show Row ((wd.alloc (.cells #[.int .i64 0, .int .i64 0, .int .i64 0, .int .i64 0, .string ⟨#[]⟩, .int .i64 0, .int .i64 0, .string ⟨#[]⟩, .slice none 0 0, .int .i64 0, .int .i64 0, .int .i64 0, .string ⟨#[]⟩, .int .i64 0] 90)).alloc (.cells #[.int .i64 0, .int .i64 0, .int .i64 0, .int .i64 0, .string ⟨#[]⟩, .int .i64 0, .int .i64 0, .string ⟨#[]⟩, .slice none 0 0, .int .i64 0, .int .i64 0, .int .i64 0, .string ⟨#[]⟩, .int .i64 0] 90)) (wd.heap.size + 1) 90 [.int .i64 0, .int .i64 0, .int .i64 0, .int .i64 0, .string ⟨#[]⟩, .int .i64 0, .int .i64 0, .string ⟨#[]⟩, .slice none 0 0, .int .i64 0, .int .i64 0, .int .i64 0, .string ⟨#[]⟩, .int .i64 0] from Wide.new_at (by simp))
    refine hK.out _ _ (fun _ => ⟨X.out.cell rfl, X.out.cell rfl, X.out.cell rfl, X.out.cell rfl, X.out.cell rfl, X.out.cell rfl, X.out.cell rfl, X.out.cell rfl, X.out.cell rfl, X.out.cell rfl, X.out.cell rfl, X.out.cell rfl, X.out.cell rfl, X.out.cell rfl, Y.out.cell rfl, Y.out.cell rfl, Y.out.cell rfl, Y.out.cell rfl, Y.out.cell rfl, Y.out.cell rfl, Y.out.cell rfl, Y.out.cell rfl, Y.out.cell rfl, Y.out.cell rfl, Y.out.cell rfl, Y.out.cell rfl, Y.out.cell rfl, Y.out.cell rfl⟩) (fun hHeld => ?_)
    replace hHeld := hHeld (by first | rfl | trivial)
    clear hK K
    try simp only [Act.put, List.setIfInBounds_toArray, List.set_cons_zero, List.set_cons_succ]
    have BA := Lib.hid (BB.out.trans ((((Below.refl _ _).alloc (Nat.le_refl _) (.cells #[.int .i64 0, .int .i64 0, .int .i64 0, .int .i64 0, .string ⟨#[]⟩, .int .i64 0, .int .i64 0, .string ⟨#[]⟩, .slice none 0 0, .int .i64 0, .int .i64 0, .int .i64 0, .string ⟨#[]⟩, .int .i64 0] 90)).alloc (by simp) (.cells #[.int .i64 0, .int .i64 0, .int .i64 0, .int .i64 0, .string ⟨#[]⟩, .int .i64 0, .int .i64 0, .string ⟨#[]⟩, .slice none 0 0, .int .i64 0, .int .i64 0, .int .i64 0, .string ⟨#[]⟩, .int .i64 0] 90)).mono (Nat.le_of_lt XL.out)))
    have L1 := X.out.lt
    have L2 := Y.out.lt
    have LW : s0 < wd.heap.size ∧ s1 < wd.heap.size := ⟨XL.out, YL.out⟩
    refine Reg.oneI 8 rfl (by kernel_rfl) (by rfl) (fun K hK => ?_)
    refine wp_store_row R1.out [.int .i64 wk, .int .i64 wt, .int .i64 kk, .int .i64 kn, .string ks, .int .i64 hk, .int .i64 hn, .string hs, .slice ra row.length rc, .int .i64 c, .int .i64 vk, .int .i64 vn, .string vs, .int .i64 wn] 90 (by kernel_rfl) rfl (by simp [Value.oneCell']) rfl rfl rfl ?_
    have LQ := Lib.hid (Nat.le_of_lt X.out.lt)
    intro wq hq kq zq
    replace X := Lib.hid (X.out.chg kq (fun e => by have e := (show s0 = wd.heap.size from e); omega))
    replace Y := Lib.hid (Y.out.chg kq (fun e => by have e := (show s1 = wd.heap.size from e); omega))
    have Q6 := Lib.hid (R2.out.chg kq (fun e => by have e := (show wd.heap.size + 1 = wd.heap.size from e); omega))
    have Q5 := Lib.hid hq
    have BC := Lib.hid (BA.out.trans (kq.below (B := s0) LQ.out (fun k e => by have e := (show k = wd.heap.size from e); omega)))
    clear hq kq zq
    refine hK.out _ _ (fun _ => ⟨X.out.cell rfl, X.out.cell rfl, X.out.cell rfl, X.out.cell rfl, X.out.cell rfl, X.out.cell rfl, X.out.cell rfl, X.out.cell rfl, X.out.cell rfl, X.out.cell rfl, X.out.cell rfl, X.out.cell rfl, X.out.cell rfl, X.out.cell rfl, Y.out.cell rfl, Y.out.cell rfl, Y.out.cell rfl, Y.out.cell rfl, Y.out.cell rfl, Y.out.cell rfl, Y.out.cell rfl, Y.out.cell rfl, Y.out.cell rfl, Y.out.cell rfl, Y.out.cell rfl, Y.out.cell rfl, Y.out.cell rfl, Y.out.cell rfl⟩) (fun hHeld => ?_)
    replace hHeld := hHeld (by first | rfl | trivial)
    clear hK K
    try simp only [Act.put, List.setIfInBounds_toArray, List.set_cons_zero, List.set_cons_succ]
    refine Reg.oneI 9 rfl (by kernel_rfl) (by rfl) (fun K hK => ?_)
    refine wp_store_row Q6.out [.int .i64 wk', .int .i64 wt', .int .i64 kk', .int .i64 kn', .string ks', .int .i64 hk', .int .i64 hn', .string hs', .slice ra' row'.length rc', .int .i64 c', .int .i64 vk', .int .i64 vn', .string vs', .int .i64 wn'] 90 (by kernel_rfl) rfl (by simp [Value.oneCell']) rfl rfl rfl ?_
    have LZ := Lib.hid (Nat.le_of_lt X.out.lt)
    intro wz hz kz zz
    replace X := Lib.hid (X.out.chg kz (fun e => by have e := (show s0 = wd.heap.size + 1 from e); omega))
    replace Y := Lib.hid (Y.out.chg kz (fun e => by have e := (show s1 = wd.heap.size + 1 from e); omega))
    have P6 := Lib.hid hz
    have P5 := Lib.hid (Q5.out.chg kz (fun e => by have e := (show wd.heap.size = wd.heap.size + 1 from e); omega))
    have BZ := Lib.hid (BC.out.trans (kz.below (B := s0) LZ.out (fun k e => by have e := (show k = wd.heap.size + 1 from e); omega)))
    clear hz kz zz Q5 Q6 R1 R2
    refine hK.out _ _ (fun _ => ⟨X.out.cell rfl, X.out.cell rfl, X.out.cell rfl, X.out.cell rfl, X.out.cell rfl, X.out.cell rfl, X.out.cell rfl, X.out.cell rfl, X.out.cell rfl, X.out.cell rfl, X.out.cell rfl, X.out.cell rfl, X.out.cell rfl, X.out.cell rfl, Y.out.cell rfl, Y.out.cell rfl, Y.out.cell rfl, Y.out.cell rfl, Y.out.cell rfl, Y.out.cell rfl, Y.out.cell rfl, Y.out.cell rfl, Y.out.cell rfl, Y.out.cell rfl, Y.out.cell rfl, Y.out.cell rfl, Y.out.cell rfl, Y.out.cell rfl⟩) (fun hHeld => ?_)
    clear hHeld hK K
    try simp only [Act.put, List.setIfInBounds_toArray, List.set_cons_zero, List.set_cons_succ]
    refine Reg.doneI (by kernel_rfl) ?_
    clear BA BC BB L1 L2 LW XL YL LQ LZ
    generalize wd.heap.size + 1 = b6 at *
    generalize wd.heap.size = b5 at *
    have x0 := X.out.cell (i := 0) rfl
    have y0 := Y.out.cell (i := 0) rfl
    have x1 := X.out.cell (i := 1) rfl
    have y1 := Y.out.cell (i := 1) rfl
    have x2 := X.out.cell (i := 2) rfl
    have y2 := Y.out.cell (i := 2) rfl
    have x17 := X.out.cell (i := 17) rfl
    have y17 := Y.out.cell (i := 17) rfl
    have x18 := X.out.cell (i := 18) rfl
    have y18 := Y.out.cell (i := 18) rfl
    by_cases c_k : k = k'
    rotate_left 1
    · have d_k : ((k : Int) != k') = true := by simpa using c_k
      go_wp2_with fail
      go_ret
      exact ⟨by rw [G2.out (fun e => c_k e.1)]; rfl, (by have h := BZ.out; rw [← HS0.out] at h; exact h)⟩
    have d_k : ((k : Int) != k') = false := by simpa using c_k
    have C_k := Lib.hid c_k
    clear c_k
    by_cases c_n : n = n'
    rotate_left 1
    · have d_n : ((n : Int) != n') = true := by simpa using c_n
      go_wp2_with fail
      go_ret
      exact ⟨by rw [G2.out (fun e => c_n e.2.1)]; rfl, (by have h := BZ.out; rw [← HS0.out] at h; exact h)⟩
    have d_n : ((n : Int) != n') = false := by simpa using c_n
    have C_n := Lib.hid c_n
    clear c_n
    by_cases c_p : p = p'
    rotate_left 1
    · have d_p : ((p : Int) != p') = true := by simpa using c_p
      go_wp2_with fail
      go_ret
      exact ⟨by rw [G2.out (fun e => c_p e.2.2.2.2.1)]; rfl, (by have h := BZ.out; rw [← HS0.out] at h; exact h)⟩
    have d_p : ((p : Int) != p') = false := by simpa using c_p
    have C_p := Lib.hid c_p
    clear c_p
    by_cases c_q : q = q'
    rotate_left 1
    · have d_q : ((q : Int) != q') = true := by simpa using c_q
      go_wp2_with fail
      go_ret
      exact ⟨by rw [G2.out (fun e => c_q e.2.2.2.2.2)]; rfl, (by have h := BZ.out; rw [← HS0.out] at h; exact h)⟩
    have d_q : ((q : Int) != q') = false := by simpa using c_q
    have C_q := Lib.hid c_q
    clear c_q
    by_cases c_a : a = a'
    rotate_left 1
    · have d_a : ((a : Int) != a') = true := by simpa using c_a
      go_wp2_with fail
      go_ret
      exact ⟨by rw [G2.out (fun e => c_a e.2.2.1)]; rfl, (by have h := BZ.out; rw [← HS0.out] at h; exact h)⟩
    have d_a : ((a : Int) != a') = false := by simpa using c_a
    have C_a := Lib.hid c_a
    clear c_a
    have u0 := P5.out.cell (i := 0) rfl
    have v0 := P6.out.cell (i := 0) rfl
    have u1 := P5.out.cell (i := 1) rfl
    have v1 := P6.out.cell (i := 1) rfl
    have u9 := P5.out.cell (i := 9) rfl
    have v9 := P6.out.cell (i := 9) rfl
    have u13 := P5.out.cell (i := 13) rfl
    have v13 := P6.out.cell (i := 13) rfl
    by_cases c_wk : wk = wk'
    rotate_left 1
    · have d_wk : ((wk : Int) != wk') = true := by simpa using c_wk
      go_wp2_with fail
      go_ret
      exact ⟨by rw [G2.out (fun e => c_wk e.2.2.2.1.1)]; rfl, (by have h := BZ.out; rw [← HS0.out] at h; exact h)⟩
    have d_wk : ((wk : Int) != wk') = false := by simpa using c_wk
    have C_wk := Lib.hid c_wk
    clear c_wk
    by_cases c_wt : wt = wt'
    rotate_left 1
    · have d_wt : ((wt : Int) != wt') = true := by simpa using c_wt
      go_wp2_with fail
      go_ret
      exact ⟨by rw [G2.out (fun e => c_wt e.2.2.2.1.2.1)]; rfl, (by have h := BZ.out; rw [← HS0.out] at h; exact h)⟩
    have d_wt : ((wt : Int) != wt') = false := by simpa using c_wt
    have C_wt := Lib.hid c_wt
    clear c_wt
    by_cases c_c : c = c'
    rotate_left 1
    · have d_c : ((c : Int) != c') = true := by simpa using c_c
      go_wp2_with fail
      go_ret
      exact ⟨by rw [G2.out (fun e => c_c e.2.2.2.1.2.2.2.2.2.1)]; rfl, (by have h := BZ.out; rw [← HS0.out] at h; exact h)⟩
    have d_c : ((c : Int) != c') = false := by simpa using c_c
    have C_c := Lib.hid c_c
    clear c_c
    by_cases c_wn : wn = wn'
    rotate_left 1
    · have d_wn : ((wn : Int) != wn') = true := by simpa using c_wn
      go_wp2_with fail
      go_ret
      exact ⟨by rw [G2.out (fun e => c_wn e.2.2.2.1.2.2.2.2.2.2.2)]; rfl, (by have h := BZ.out; rw [← HS0.out] at h; exact h)⟩
    have d_wn : ((wn : Int) != wn') = false := by simpa using c_wn
    have C_wn := Lib.hid c_wn
    clear c_wn
    have u2 := P5.out.cell (i := 2) rfl
    have v2 := P6.out.cell (i := 2) rfl
    have u3 := P5.out.cell (i := 3) rfl
    have v3 := P6.out.cell (i := 3) rfl
    have u4 := P5.out.cell (i := 4) rfl
    have v4 := P6.out.cell (i := 4) rfl
    have u5 := P5.out.cell (i := 5) rfl
    have v5 := P6.out.cell (i := 5) rfl
    have u6 := P5.out.cell (i := 6) rfl
    have v6 := P6.out.cell (i := 6) rfl
    have u7 := P5.out.cell (i := 7) rfl
    have v7 := P6.out.cell (i := 7) rfl
    have u8 := P5.out.cell (i := 8) rfl
    have v8 := P6.out.cell (i := 8) rfl
    have u10 := P5.out.cell (i := 10) rfl
    have v10 := P6.out.cell (i := 10) rfl
    have u11 := P5.out.cell (i := 11) rfl
    have v11 := P6.out.cell (i := 11) rfl
    have u12 := P5.out.cell (i := 12) rfl
    have v12 := P6.out.cell (i := 12) rfl
    by_cases c_kk : kk = kk'
    rotate_left 1
    · have d_kk : ((kk : Int) == kk') = false := by simpa using c_kk
      go_wp2_with fail
      go_ret
      exact ⟨by rw [G2.out (fun e => c_kk (V.mk.inj e.2.2.2.1.2.2.1).1)]; rfl, (by have h := BZ.out; rw [← HS0.out] at h; exact h)⟩
    by_cases c_kn : kn = kn'
    rotate_left 1
    · have d_kn : ((kn : Int) == kn') = false := by simpa using c_kn
      have d_kk : ((kk : Int) == kk') = true := by simpa using c_kk
      go_wp2_with fail
      go_ret
      exact ⟨by rw [G2.out (fun e => c_kn (V.mk.inj e.2.2.2.1.2.2.1).2.1)]; rfl, (by have h := BZ.out; rw [← HS0.out] at h; exact h)⟩
    by_cases c_ks : ks = ks'
    rotate_left 1
    · have d_ks : ¬ ks.toList = ks'.toList := fun e => c_ks (Bytes.toList_inj.1 e)
      have d_kk : ((kk : Int) == kk') = true := by simpa using c_kk
      have d_kn : ((kn : Int) == kn') = true := by simpa using c_kn
      go_wp2_with fail
      go_ret
      exact ⟨by rw [G2.out (fun e => c_ks (V.mk.inj e.2.2.2.1.2.2.1).2.2)]; rfl, (by have h := BZ.out; rw [← HS0.out] at h; exact h)⟩
    have d_kk : ((kk : Int) == kk') = true := by simpa using c_kk
    have d_kn : ((kn : Int) == kn') = true := by simpa using c_kn
    have d_ks : (ks.toList == ks'.toList) = true := by rw [c_ks]; simp
    have C_kV := Lib.hid (show (⟨kk, kn, ks⟩ : V) = ⟨kk', kn', ks'⟩ by rw [c_kk, c_kn, c_ks])
    clear c_kk c_kn c_ks
    by_cases c_hk : hk = hk'
    rotate_left 1
    · have d_hk : ((hk : Int) == hk') = false := by simpa using c_hk
      go_wp2_with fail
      go_ret
      exact ⟨by rw [G2.out (fun e => c_hk (V.mk.inj e.2.2.2.1.2.2.2.1).1)]; rfl, (by have h := BZ.out; rw [← HS0.out] at h; exact h)⟩
    by_cases c_hn : hn = hn'
    rotate_left 1
    · have d_hn : ((hn : Int) == hn') = false := by simpa using c_hn
      have d_hk : ((hk : Int) == hk') = true := by simpa using c_hk
      go_wp2_with fail
      go_ret
      exact ⟨by rw [G2.out (fun e => c_hn (V.mk.inj e.2.2.2.1.2.2.2.1).2.1)]; rfl, (by have h := BZ.out; rw [← HS0.out] at h; exact h)⟩
    by_cases c_hs : hs = hs'
    rotate_left 1
    · have d_hs : ¬ hs.toList = hs'.toList := fun e => c_hs (Bytes.toList_inj.1 e)
      have d_hk : ((hk : Int) == hk') = true := by simpa using c_hk
      have d_hn : ((hn : Int) == hn') = true := by simpa using c_hn
      go_wp2_with fail
      go_ret
      exact ⟨by rw [G2.out (fun e => c_hs (V.mk.inj e.2.2.2.1.2.2.2.1).2.2)]; rfl, (by have h := BZ.out; rw [← HS0.out] at h; exact h)⟩
    have d_hk : ((hk : Int) == hk') = true := by simpa using c_hk
    have d_hn : ((hn : Int) == hn') = true := by simpa using c_hn
    have d_hs : (hs.toList == hs'.toList) = true := by rw [c_hs]; simp
    have C_hV := Lib.hid (show (⟨hk, hn, hs⟩ : V) = ⟨hk', hn', hs'⟩ by rw [c_hk, c_hn, c_hs])
    clear c_hk c_hn c_hs
    by_cases c_vk : vk = vk'
    rotate_left 1
    · have d_vk : ((vk : Int) == vk') = false := by simpa using c_vk
      go_wp2_with fail
      go_ret
      exact ⟨by rw [G2.out (fun e => c_vk (V.mk.inj e.2.2.2.1.2.2.2.2.2.2.1).1)]; rfl, (by have h := BZ.out; rw [← HS0.out] at h; exact h)⟩
    by_cases c_vn : vn = vn'
    rotate_left 1
    · have d_vn : ((vn : Int) == vn') = false := by simpa using c_vn
      have d_vk : ((vk : Int) == vk') = true := by simpa using c_vk
      go_wp2_with fail
      go_ret
      exact ⟨by rw [G2.out (fun e => c_vn (V.mk.inj e.2.2.2.1.2.2.2.2.2.2.1).2.1)]; rfl, (by have h := BZ.out; rw [← HS0.out] at h; exact h)⟩
    by_cases c_vs : vs = vs'
    rotate_left 1
    · have d_vs : ¬ vs.toList = vs'.toList := fun e => c_vs (Bytes.toList_inj.1 e)
      have d_vk : ((vk : Int) == vk') = true := by simpa using c_vk
      have d_vn : ((vn : Int) == vn') = true := by simpa using c_vn
      go_wp2_with fail
      go_ret
      exact ⟨by rw [G2.out (fun e => c_vs (V.mk.inj e.2.2.2.1.2.2.2.2.2.2.1).2.2)]; rfl, (by have h := BZ.out; rw [← HS0.out] at h; exact h)⟩
    have d_vk : ((vk : Int) == vk') = true := by simpa using c_vk
    have d_vn : ((vn : Int) == vn') = true := by simpa using c_vn
    have d_vs : (vs.toList == vs'.toList) = true := by rw [c_vs]; simp
    have C_vV := Lib.hid (show (⟨vk, vn, vs⟩ : V) = ⟨vk', vn', vs'⟩ by rw [c_vk, c_vn, c_vs])
    clear c_vk c_vn c_vs
    go_wp2_with fail
    refine (equal_calls row row' _ _ _ _ _ (VV.out.keep (by have h := BZ.out; rw [← HS0.out] at h; exact h)) (UU.out.keep (by have h := BZ.out; rw [← HS0.out] at h; exact h)) hl hl2).mono ?_
    rintro e w9 ⟨rfl, k9⟩
    have B9 := Lib.hid (show Below w.heap.size w _ from (by have h := BZ.out; rw [← HS0.out] at h; exact h.trans (k9.mono h.size)))
    obtain ⟨r, hr⟩ : ∃ r, eqV row row' = r := ⟨_, rfl⟩
    rw [hr]
    have HR := Lib.hid hr
    clear hr k9
    go_wp2_with fail
    go_ret
    refine ⟨?_, B9.out⟩
    have hq := HR.out
    unfold eqV at hq
    by_cases hrr : row = row'
    · rw [G1.out ⟨C_k.out, C_n.out, C_a.out, ⟨C_wk.out, C_wt.out, C_kV.out, C_hV.out, hrr, C_c.out, C_vV.out, C_wn.out⟩, C_p.out, C_q.out⟩, ← hq]
      simp [hrr]
    · rw [G2.out (fun e => hrr e.2.2.2.1.2.2.2.2.1), ← hq]
      simp [hrr]
  · go_simp
    replace X := Lib.hid (X.out.alloc (.cells #[.int .i64 0, .int .i64 0, .int .i64 0, .int .i64 0, .string ⟨#[]⟩, .int .i64 0, .int .i64 0, .string ⟨#[]⟩, .slice none 0 0, .int .i64 0, .int .i64 0, .int .i64 0, .string ⟨#[]⟩, .int .i64 0] 90))
    replace Y := Lib.hid (Y.out.alloc (.cells #[.int .i64 0, .int .i64 0, .int .i64 0, .int .i64 0, .string ⟨#[]⟩, .int .i64 0, .int .i64 0, .string ⟨#[]⟩, .slice none 0 0, .int .i64 0, .int .i64 0, .int .i64 0, .string ⟨#[]⟩, .int .i64 0] 90))
    refine hK.out _ _ (fun _ => ⟨X.out.cell rfl, X.out.cell rfl, X.out.cell rfl, X.out.cell rfl, X.out.cell rfl, X.out.cell rfl, X.out.cell rfl, X.out.cell rfl, X.out.cell rfl, X.out.cell rfl, X.out.cell rfl, X.out.cell rfl, X.out.cell rfl, X.out.cell rfl, Y.out.cell rfl, Y.out.cell rfl, Y.out.cell rfl, Y.out.cell rfl, Y.out.cell rfl, Y.out.cell rfl, Y.out.cell rfl, Y.out.cell rfl, Y.out.cell rfl, Y.out.cell rfl, Y.out.cell rfl, Y.out.cell rfl, Y.out.cell rfl, Y.out.cell rfl⟩) (fun hHeld => ?_)
    replace hHeld := hHeld (by first | rfl | trivial)
    clear hK K
    try simp only [Act.put, List.setIfInBounds_toArray, List.set_cons_zero, List.set_cons_succ]
    refine Reg.oneI 6 rfl (by kernel_rfl) (by rfl) (fun K hK => ?_)
    go_simp
    replace X := Lib.hid (X.out.alloc (.cells #[.int .i64 0, .int .i64 0, .int .i64 0, .int .i64 0, .string ⟨#[]⟩, .int .i64 0, .int .i64 0, .string ⟨#[]⟩, .slice none 0 0, .int .i64 0, .int .i64 0, .int .i64 0, .string ⟨#[]⟩, .int .i64 0] 90))
    replace Y := Lib.hid (Y.out.alloc (.cells #[.int .i64 0, .int .i64 0, .int .i64 0, .int .i64 0, .string ⟨#[]⟩, .int .i64 0, .int .i64 0, .string ⟨#[]⟩, .slice none 0 0, .int .i64 0, .int .i64 0, .int .i64 0, .string ⟨#[]⟩, .int .i64 0] 90))
    have R1 := Lib.hid ((Row.new wd 90 [.int .i64 0, .int .i64 0, .int .i64 0, .int .i64 0, .string ⟨#[]⟩, .int .i64 0, .int .i64 0, .string ⟨#[]⟩, .slice none 0 0, .int .i64 0, .int .i64 0, .int .i64 0, .string ⟨#[]⟩, .int .i64 0]).alloc (.cells #[.int .i64 0, .int .i64 0, .int .i64 0, .int .i64 0, .string ⟨#[]⟩, .int .i64 0, .int .i64 0, .string ⟨#[]⟩, .slice none 0 0, .int .i64 0, .int .i64 0, .int .i64 0, .string ⟨#[]⟩, .int .i64 0] 90))
    have R2 := Lib.hid (show Row ((wd.alloc (.cells #[.int .i64 0, .int .i64 0, .int .i64 0, .int .i64 0, .string ⟨#[]⟩, .int .i64 0, .int .i64 0, .string ⟨#[]⟩, .slice none 0 0, .int .i64 0, .int .i64 0, .int .i64 0, .string ⟨#[]⟩, .int .i64 0] 90)).alloc (.cells #[.int .i64 0, .int .i64 0, .int .i64 0, .int .i64 0, .string ⟨#[]⟩, .int .i64 0, .int .i64 0, .string ⟨#[]⟩, .slice none 0 0, .int .i64 0, .int .i64 0, .int .i64 0, .string ⟨#[]⟩, .int .i64 0] 90)) (wd.heap.size + 1) 90 [.int .i64 0, .int .i64 0, .int .i64 0, .int .i64 0, .string ⟨#[]⟩, .int .i64 0, .int .i64 0, .string ⟨#[]⟩, .slice none 0 0, .int .i64 0, .int .i64 0, .int .i64 0, .string ⟨#[]⟩, .int .i64 0] from Wide.new_at (by simp))
    refine hK.out _ _ (fun _ => ⟨X.out.cell rfl, X.out.cell rfl, X.out.cell rfl, X.out.cell rfl, X.out.cell rfl, X.out.cell rfl, X.out.cell rfl, X.out.cell rfl, X.out.cell rfl, X.out.cell rfl, X.out.cell rfl, X.out.cell rfl, X.out.cell rfl, X.out.cell rfl, Y.out.cell rfl, Y.out.cell rfl, Y.out.cell rfl, Y.out.cell rfl, Y.out.cell rfl, Y.out.cell rfl, Y.out.cell rfl, Y.out.cell rfl, Y.out.cell rfl, Y.out.cell rfl, Y.out.cell rfl, Y.out.cell rfl, Y.out.cell rfl, Y.out.cell rfl⟩) (fun hHeld => ?_)
    replace hHeld := hHeld (by first | rfl | trivial)
    clear hK K
    try simp only [Act.put, List.setIfInBounds_toArray, List.set_cons_zero, List.set_cons_succ]
    have BA := Lib.hid (BB.out.trans ((((Below.refl _ _).alloc (Nat.le_refl _) (.cells #[.int .i64 0, .int .i64 0, .int .i64 0, .int .i64 0, .string ⟨#[]⟩, .int .i64 0, .int .i64 0, .string ⟨#[]⟩, .slice none 0 0, .int .i64 0, .int .i64 0, .int .i64 0, .string ⟨#[]⟩, .int .i64 0] 90)).alloc (by simp) (.cells #[.int .i64 0, .int .i64 0, .int .i64 0, .int .i64 0, .string ⟨#[]⟩, .int .i64 0, .int .i64 0, .string ⟨#[]⟩, .slice none 0 0, .int .i64 0, .int .i64 0, .int .i64 0, .string ⟨#[]⟩, .int .i64 0] 90)).mono (Nat.le_of_lt XL.out)))
    have L1 := X.out.lt
    have L2 := Y.out.lt
    have LW : s0 < wd.heap.size ∧ s1 < wd.heap.size := ⟨XL.out, YL.out⟩
    refine Reg.oneI 8 rfl (by kernel_rfl) (by rfl) (fun K hK => ?_)
    refine wp_store_row R2.out [.int .i64 wk, .int .i64 wt, .int .i64 kk, .int .i64 kn, .string ks, .int .i64 hk, .int .i64 hn, .string hs, .slice ra row.length rc, .int .i64 c, .int .i64 vk, .int .i64 vn, .string vs, .int .i64 wn] 90 (by kernel_rfl) rfl (by simp [Value.oneCell']) rfl rfl rfl ?_
    have LQ := Lib.hid (Nat.le_of_lt X.out.lt)
    intro wq hq kq zq
    replace X := Lib.hid (X.out.chg kq (fun e => by have e := (show s0 = wd.heap.size + 1 from e); omega))
    replace Y := Lib.hid (Y.out.chg kq (fun e => by have e := (show s1 = wd.heap.size + 1 from e); omega))
    have Q6 := Lib.hid (R1.out.chg kq (fun e => by have e := (show wd.heap.size = wd.heap.size + 1 from e); omega))
    have Q5 := Lib.hid hq
    have BC := Lib.hid (BA.out.trans (kq.below (B := s0) LQ.out (fun k e => by have e := (show k = wd.heap.size + 1 from e); omega)))
    clear hq kq zq
    refine hK.out _ _ (fun _ => ⟨X.out.cell rfl, X.out.cell rfl, X.out.cell rfl, X.out.cell rfl, X.out.cell rfl, X.out.cell rfl, X.out.cell rfl, X.out.cell rfl, X.out.cell rfl, X.out.cell rfl, X.out.cell rfl, X.out.cell rfl, X.out.cell rfl, X.out.cell rfl, Y.out.cell rfl, Y.out.cell rfl, Y.out.cell rfl, Y.out.cell rfl, Y.out.cell rfl, Y.out.cell rfl, Y.out.cell rfl, Y.out.cell rfl, Y.out.cell rfl, Y.out.cell rfl, Y.out.cell rfl, Y.out.cell rfl, Y.out.cell rfl, Y.out.cell rfl⟩) (fun hHeld => ?_)
    replace hHeld := hHeld (by first | rfl | trivial)
    clear hK K
    try simp only [Act.put, List.setIfInBounds_toArray, List.set_cons_zero, List.set_cons_succ]
    refine Reg.oneI 9 rfl (by kernel_rfl) (by rfl) (fun K hK => ?_)
    refine wp_store_row Q6.out [.int .i64 wk', .int .i64 wt', .int .i64 kk', .int .i64 kn', .string ks', .int .i64 hk', .int .i64 hn', .string hs', .slice ra' row'.length rc', .int .i64 c', .int .i64 vk', .int .i64 vn', .string vs', .int .i64 wn'] 90 (by kernel_rfl) rfl (by simp [Value.oneCell']) rfl rfl rfl ?_
    have LZ := Lib.hid (Nat.le_of_lt X.out.lt)
    intro wz hz kz zz
    replace X := Lib.hid (X.out.chg kz (fun e => by have e := (show s0 = wd.heap.size from e); omega))
    replace Y := Lib.hid (Y.out.chg kz (fun e => by have e := (show s1 = wd.heap.size from e); omega))
    have P6 := Lib.hid hz
    have P5 := Lib.hid (Q5.out.chg kz (fun e => by have e := (show wd.heap.size + 1 = wd.heap.size from e); omega))
    have BZ := Lib.hid (BC.out.trans (kz.below (B := s0) LZ.out (fun k e => by have e := (show k = wd.heap.size from e); omega)))
    clear hz kz zz Q5 Q6 R1 R2
    refine hK.out _ _ (fun _ => ⟨X.out.cell rfl, X.out.cell rfl, X.out.cell rfl, X.out.cell rfl, X.out.cell rfl, X.out.cell rfl, X.out.cell rfl, X.out.cell rfl, X.out.cell rfl, X.out.cell rfl, X.out.cell rfl, X.out.cell rfl, X.out.cell rfl, X.out.cell rfl, Y.out.cell rfl, Y.out.cell rfl, Y.out.cell rfl, Y.out.cell rfl, Y.out.cell rfl, Y.out.cell rfl, Y.out.cell rfl, Y.out.cell rfl, Y.out.cell rfl, Y.out.cell rfl, Y.out.cell rfl, Y.out.cell rfl, Y.out.cell rfl, Y.out.cell rfl⟩) (fun hHeld => ?_)
    clear hHeld hK K
    try simp only [Act.put, List.setIfInBounds_toArray, List.set_cons_zero, List.set_cons_succ]
    refine Reg.doneI (by kernel_rfl) ?_
    clear BA BC BB L1 L2 LW XL YL LQ LZ
    generalize wd.heap.size + 1 = b5 at *
    generalize wd.heap.size = b6 at *
    have x0 := X.out.cell (i := 0) rfl
    have y0 := Y.out.cell (i := 0) rfl
    have x1 := X.out.cell (i := 1) rfl
    have y1 := Y.out.cell (i := 1) rfl
    have x2 := X.out.cell (i := 2) rfl
    have y2 := Y.out.cell (i := 2) rfl
    have x17 := X.out.cell (i := 17) rfl
    have y17 := Y.out.cell (i := 17) rfl
    have x18 := X.out.cell (i := 18) rfl
    have y18 := Y.out.cell (i := 18) rfl
    by_cases c_k : k = k'
    rotate_left 1
    · have d_k : ((k : Int) != k') = true := by simpa using c_k
      go_wp2_with fail
      go_ret
      exact ⟨by rw [G2.out (fun e => c_k e.1)]; rfl, (by have h := BZ.out; rw [← HS0.out] at h; exact h)⟩
    have d_k : ((k : Int) != k') = false := by simpa using c_k
    have C_k := Lib.hid c_k
    clear c_k
    by_cases c_n : n = n'
    rotate_left 1
    · have d_n : ((n : Int) != n') = true := by simpa using c_n
      go_wp2_with fail
      go_ret
      exact ⟨by rw [G2.out (fun e => c_n e.2.1)]; rfl, (by have h := BZ.out; rw [← HS0.out] at h; exact h)⟩
    have d_n : ((n : Int) != n') = false := by simpa using c_n
    have C_n := Lib.hid c_n
    clear c_n
    by_cases c_p : p = p'
    rotate_left 1
    · have d_p : ((p : Int) != p') = true := by simpa using c_p
      go_wp2_with fail
      go_ret
      exact ⟨by rw [G2.out (fun e => c_p e.2.2.2.2.1)]; rfl, (by have h := BZ.out; rw [← HS0.out] at h; exact h)⟩
    have d_p : ((p : Int) != p') = false := by simpa using c_p
    have C_p := Lib.hid c_p
    clear c_p
    by_cases c_q : q = q'
    rotate_left 1
    · have d_q : ((q : Int) != q') = true := by simpa using c_q
      go_wp2_with fail
      go_ret
      exact ⟨by rw [G2.out (fun e => c_q e.2.2.2.2.2)]; rfl, (by have h := BZ.out; rw [← HS0.out] at h; exact h)⟩
    have d_q : ((q : Int) != q') = false := by simpa using c_q
    have C_q := Lib.hid c_q
    clear c_q
    by_cases c_a : a = a'
    rotate_left 1
    · have d_a : ((a : Int) != a') = true := by simpa using c_a
      go_wp2_with fail
      go_ret
      exact ⟨by rw [G2.out (fun e => c_a e.2.2.1)]; rfl, (by have h := BZ.out; rw [← HS0.out] at h; exact h)⟩
    have d_a : ((a : Int) != a') = false := by simpa using c_a
    have C_a := Lib.hid c_a
    clear c_a
    have u0 := P5.out.cell (i := 0) rfl
    have v0 := P6.out.cell (i := 0) rfl
    have u1 := P5.out.cell (i := 1) rfl
    have v1 := P6.out.cell (i := 1) rfl
    have u9 := P5.out.cell (i := 9) rfl
    have v9 := P6.out.cell (i := 9) rfl
    have u13 := P5.out.cell (i := 13) rfl
    have v13 := P6.out.cell (i := 13) rfl
    by_cases c_wk : wk = wk'
    rotate_left 1
    · have d_wk : ((wk : Int) != wk') = true := by simpa using c_wk
      go_wp2_with fail
      go_ret
      exact ⟨by rw [G2.out (fun e => c_wk e.2.2.2.1.1)]; rfl, (by have h := BZ.out; rw [← HS0.out] at h; exact h)⟩
    have d_wk : ((wk : Int) != wk') = false := by simpa using c_wk
    have C_wk := Lib.hid c_wk
    clear c_wk
    by_cases c_wt : wt = wt'
    rotate_left 1
    · have d_wt : ((wt : Int) != wt') = true := by simpa using c_wt
      go_wp2_with fail
      go_ret
      exact ⟨by rw [G2.out (fun e => c_wt e.2.2.2.1.2.1)]; rfl, (by have h := BZ.out; rw [← HS0.out] at h; exact h)⟩
    have d_wt : ((wt : Int) != wt') = false := by simpa using c_wt
    have C_wt := Lib.hid c_wt
    clear c_wt
    by_cases c_c : c = c'
    rotate_left 1
    · have d_c : ((c : Int) != c') = true := by simpa using c_c
      go_wp2_with fail
      go_ret
      exact ⟨by rw [G2.out (fun e => c_c e.2.2.2.1.2.2.2.2.2.1)]; rfl, (by have h := BZ.out; rw [← HS0.out] at h; exact h)⟩
    have d_c : ((c : Int) != c') = false := by simpa using c_c
    have C_c := Lib.hid c_c
    clear c_c
    by_cases c_wn : wn = wn'
    rotate_left 1
    · have d_wn : ((wn : Int) != wn') = true := by simpa using c_wn
      go_wp2_with fail
      go_ret
      exact ⟨by rw [G2.out (fun e => c_wn e.2.2.2.1.2.2.2.2.2.2.2)]; rfl, (by have h := BZ.out; rw [← HS0.out] at h; exact h)⟩
    have d_wn : ((wn : Int) != wn') = false := by simpa using c_wn
    have C_wn := Lib.hid c_wn
    clear c_wn
    have u2 := P5.out.cell (i := 2) rfl
    have v2 := P6.out.cell (i := 2) rfl
    have u3 := P5.out.cell (i := 3) rfl
    have v3 := P6.out.cell (i := 3) rfl
    have u4 := P5.out.cell (i := 4) rfl
    have v4 := P6.out.cell (i := 4) rfl
    have u5 := P5.out.cell (i := 5) rfl
    have v5 := P6.out.cell (i := 5) rfl
    have u6 := P5.out.cell (i := 6) rfl
    have v6 := P6.out.cell (i := 6) rfl
    have u7 := P5.out.cell (i := 7) rfl
    have v7 := P6.out.cell (i := 7) rfl
    have u8 := P5.out.cell (i := 8) rfl
    have v8 := P6.out.cell (i := 8) rfl
    have u10 := P5.out.cell (i := 10) rfl
    have v10 := P6.out.cell (i := 10) rfl
    have u11 := P5.out.cell (i := 11) rfl
    have v11 := P6.out.cell (i := 11) rfl
    have u12 := P5.out.cell (i := 12) rfl
    have v12 := P6.out.cell (i := 12) rfl
    by_cases c_kk : kk = kk'
    rotate_left 1
    · have d_kk : ((kk : Int) == kk') = false := by simpa using c_kk
      go_wp2_with fail
      go_ret
      exact ⟨by rw [G2.out (fun e => c_kk (V.mk.inj e.2.2.2.1.2.2.1).1)]; rfl, (by have h := BZ.out; rw [← HS0.out] at h; exact h)⟩
    by_cases c_kn : kn = kn'
    rotate_left 1
    · have d_kn : ((kn : Int) == kn') = false := by simpa using c_kn
      have d_kk : ((kk : Int) == kk') = true := by simpa using c_kk
      go_wp2_with fail
      go_ret
      exact ⟨by rw [G2.out (fun e => c_kn (V.mk.inj e.2.2.2.1.2.2.1).2.1)]; rfl, (by have h := BZ.out; rw [← HS0.out] at h; exact h)⟩
    by_cases c_ks : ks = ks'
    rotate_left 1
    · have d_ks : ¬ ks.toList = ks'.toList := fun e => c_ks (Bytes.toList_inj.1 e)
      have d_kk : ((kk : Int) == kk') = true := by simpa using c_kk
      have d_kn : ((kn : Int) == kn') = true := by simpa using c_kn
      go_wp2_with fail
      go_ret
      exact ⟨by rw [G2.out (fun e => c_ks (V.mk.inj e.2.2.2.1.2.2.1).2.2)]; rfl, (by have h := BZ.out; rw [← HS0.out] at h; exact h)⟩
    have d_kk : ((kk : Int) == kk') = true := by simpa using c_kk
    have d_kn : ((kn : Int) == kn') = true := by simpa using c_kn
    have d_ks : (ks.toList == ks'.toList) = true := by rw [c_ks]; simp
    have C_kV := Lib.hid (show (⟨kk, kn, ks⟩ : V) = ⟨kk', kn', ks'⟩ by rw [c_kk, c_kn, c_ks])
    clear c_kk c_kn c_ks
    by_cases c_hk : hk = hk'
    rotate_left 1
    · have d_hk : ((hk : Int) == hk') = false := by simpa using c_hk
      go_wp2_with fail
      go_ret
      exact ⟨by rw [G2.out (fun e => c_hk (V.mk.inj e.2.2.2.1.2.2.2.1).1)]; rfl, (by have h := BZ.out; rw [← HS0.out] at h; exact h)⟩
    by_cases c_hn : hn = hn'
    rotate_left 1
    · have d_hn : ((hn : Int) == hn') = false := by simpa using c_hn
      have d_hk : ((hk : Int) == hk') = true := by simpa using c_hk
      go_wp2_with fail
      go_ret
      exact ⟨by rw [G2.out (fun e => c_hn (V.mk.inj e.2.2.2.1.2.2.2.1).2.1)]; rfl, (by have h := BZ.out; rw [← HS0.out] at h; exact h)⟩
    by_cases c_hs : hs = hs'
    rotate_left 1
    · have d_hs : ¬ hs.toList = hs'.toList := fun e => c_hs (Bytes.toList_inj.1 e)
      have d_hk : ((hk : Int) == hk') = true := by simpa using c_hk
      have d_hn : ((hn : Int) == hn') = true := by simpa using c_hn
      go_wp2_with fail
      go_ret
      exact ⟨by rw [G2.out (fun e => c_hs (V.mk.inj e.2.2.2.1.2.2.2.1).2.2)]; rfl, (by have h := BZ.out; rw [← HS0.out] at h; exact h)⟩
    have d_hk : ((hk : Int) == hk') = true := by simpa using c_hk
    have d_hn : ((hn : Int) == hn') = true := by simpa using c_hn
    have d_hs : (hs.toList == hs'.toList) = true := by rw [c_hs]; simp
    have C_hV := Lib.hid (show (⟨hk, hn, hs⟩ : V) = ⟨hk', hn', hs'⟩ by rw [c_hk, c_hn, c_hs])
    clear c_hk c_hn c_hs
    by_cases c_vk : vk = vk'
    rotate_left 1
    · have d_vk : ((vk : Int) == vk') = false := by simpa using c_vk
      go_wp2_with fail
      go_ret
      exact ⟨by rw [G2.out (fun e => c_vk (V.mk.inj e.2.2.2.1.2.2.2.2.2.2.1).1)]; rfl, (by have h := BZ.out; rw [← HS0.out] at h; exact h)⟩
    by_cases c_vn : vn = vn'
    rotate_left 1
    · have d_vn : ((vn : Int) == vn') = false := by simpa using c_vn
      have d_vk : ((vk : Int) == vk') = true := by simpa using c_vk
      go_wp2_with fail
      go_ret
      exact ⟨by rw [G2.out (fun e => c_vn (V.mk.inj e.2.2.2.1.2.2.2.2.2.2.1).2.1)]; rfl, (by have h := BZ.out; rw [← HS0.out] at h; exact h)⟩
    by_cases c_vs : vs = vs'
    rotate_left 1
    · have d_vs : ¬ vs.toList = vs'.toList := fun e => c_vs (Bytes.toList_inj.1 e)
      have d_vk : ((vk : Int) == vk') = true := by simpa using c_vk
      have d_vn : ((vn : Int) == vn') = true := by simpa using c_vn
      go_wp2_with fail
      go_ret
      exact ⟨by rw [G2.out (fun e => c_vs (V.mk.inj e.2.2.2.1.2.2.2.2.2.2.1).2.2)]; rfl, (by have h := BZ.out; rw [← HS0.out] at h; exact h)⟩
    have d_vk : ((vk : Int) == vk') = true := by simpa using c_vk
    have d_vn : ((vn : Int) == vn') = true := by simpa using c_vn
    have d_vs : (vs.toList == vs'.toList) = true := by rw [c_vs]; simp
    have C_vV := Lib.hid (show (⟨vk, vn, vs⟩ : V) = ⟨vk', vn', vs'⟩ by rw [c_vk, c_vn, c_vs])
    clear c_vk c_vn c_vs
    go_wp2_with fail
    refine (equal_calls row row' _ _ _ _ _ (VV.out.keep (by have h := BZ.out; rw [← HS0.out] at h; exact h)) (UU.out.keep (by have h := BZ.out; rw [← HS0.out] at h; exact h)) hl hl2).mono ?_
    rintro e w9 ⟨rfl, k9⟩
    have B9 := Lib.hid (show Below w.heap.size w _ from (by have h := BZ.out; rw [← HS0.out] at h; exact h.trans (k9.mono h.size)))
    obtain ⟨r, hr⟩ : ∃ r, eqV row row' = r := ⟨_, rfl⟩
    rw [hr]
    have HR := Lib.hid hr
    clear hr k9
    go_wp2_with fail
    go_ret
    refine ⟨?_, B9.out⟩
    have hq := HR.out
    unfold eqV at hq
    by_cases hrr : row = row'
    · rw [G1.out ⟨C_k.out, C_n.out, C_a.out, ⟨C_wk.out, C_wt.out, C_kV.out, C_hV.out, hrr, C_c.out, C_vV.out, C_wn.out⟩, C_p.out, C_q.out⟩, ← hq]
      simp [hrr]
    · rw [G2.out (fun e => hrr e.2.2.2.1.2.2.2.2.1), ← hq]
      simp [hrr]
end Go.Proofs.Ytcfjooeagfollaa.Bill
