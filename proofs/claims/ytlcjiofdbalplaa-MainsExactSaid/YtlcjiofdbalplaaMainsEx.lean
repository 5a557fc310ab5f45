/- The law MainsExact: the document's power, and the walk. -/
import Derived.Test.YtlcjiofdbalplaaMainsLaw
import Derived.Test.YtlcjiofdbalplaaCod
import Derived.Deep.RegionWith
import Derived.StillTailTactics
namespace Go.Proofs.Ytlcjiofdbalplaa.Mains
open Go.RowKit Go.Proofs.Ytlcjiofdbalplaa.Mem
set_option linter.unusedSimpArgs false
set_option linter.unusedVariables false

def M.did (u : M) (act n : Int) : M := if act = 1 then u.used else if act = 2 then u.fused n else if act = 3 then u.offed else if act = 4 then u.oned else u
def M.errDo (u : M) (act : Int) : Int := if act = 1 then u.errUse else 0

theorem case_eq {a b : Int} (h : a = b) : (a == b) = true := by rw [beq_iff_eq]; exact h
theorem case_ne {a b : Int} (h : ¬ a = b) : (a == b) = false := by rw [beq_eq_false_iff_ne]; exact h

set_option maxHeartbeats 800000 in
theorem do_calls (b : Nat) (u : M) (act n : Int) (w : World) (h : Row w b 39 u.cells) (hf : -1 ≤ u.fuse ∧ u.fuse ≤ 9223372036854775807) (hb : 0 ≤ u.boots ∧ u.boots ≤ 4611686018427387904) :
    Calls Try.prog 22 #[.pointer (some ⟨b, 0, none⟩), .int .i64 act, .int .i64 n] w fun e w' => e = .returned (.int .i64 (u.errDo act)) ∧ Row w' b 39 (u.did act n).cells ∧ Chg (One b) w w' := by
  obtain ⟨on, fuse, boots⟩ := u
  obtain ⟨c0, c1, c2, f0, f1, f2⟩ := cells_at h
  have H := Lib.hid h
  clear h
  obtain ⟨hf0, hf1⟩ := hf
  obtain ⟨hb0, hb1⟩ := hb
  simp only at hf0 hf1 hb0 hb1 c0 c1 c2
  by_cases h1 : act = 1
  · subst h1
    cases on
    · have hu : Hid ((M.did ⟨false, fuse, boots⟩ 1 n) = ⟨false, fuse, boots⟩) := by
        show _ = _
        simp [M.did, M.used]
      have he : Hid ((M.errDo ⟨false, fuse, boots⟩ 1) = 4) := by
        show _ = _
        simp [M.errDo, M.errUse]
      rw [hu.out, he.out]
      go_enter Try.func22, Try.ntmps22
      go_wp2
      go_ret
      exact ⟨rfl, H.out, Chg.refl _ _⟩
    · by_cases h0 : fuse = 0
      · subst h0
        go_enter Try.func22, Try.ntmps22
        go_wp2
        go_ret
        exact ⟨rfl, (H.out.set 0 _).cast rfl, (Chg.refl _ _).put _ _⟩
      · have h0' := case_ne h0
        have he : Hid ((M.errDo ⟨true, fuse, boots⟩ 1) = 0) := by
          show _ = _
          simp [M.errDo, M.errUse, h0]
        by_cases hp : 0 < fuse
        · have hu : Hid ((M.did ⟨true, fuse, boots⟩ 1 n) = ⟨true, fuse - 1, boots⟩) := by
            show _ = _
            simp [M.did, M.used, h0, hp]
          rw [hu.out, he.out]
          clear h0
          go_enter Try.func22, Try.ntmps22
          go_wp2
          go_ret
          exact ⟨rfl, (H.out.set 1 _).cast rfl, (Chg.refl _ _).put _ _⟩
        · have hp' : fuse ≤ 0 := by omega
          have hu : Hid ((M.did ⟨true, fuse, boots⟩ 1 n) = ⟨true, fuse, boots⟩) := by
            show _ = _
            simp [M.did, M.used, h0, hp]
          rw [hu.out, he.out]
          clear h0
          go_enter Try.func22, Try.ntmps22
          go_wp2
          go_ret
          exact ⟨rfl, H.out, Chg.refl _ _⟩
  · have q1 := case_ne h1
    have he : Hid ((M.errDo ⟨on, fuse, boots⟩ act) = 0) := by
      show _ = _
      simp [M.errDo, h1]
    rw [he.out]
    by_cases h2 : act = 2
    · subst h2
      by_cases hn : n < 0
      · have hu : Hid ((M.did ⟨on, fuse, boots⟩ 2 n) = ⟨on, -1, boots⟩) := by
          show _ = _
          simp [M.did, M.fused, hn]
        rw [hu.out]
        go_enter Try.func22, Try.ntmps22
        go_wp2
        go_ret
        exact ⟨rfl, ((H.out.set 1 _).set 1 _).cast rfl, ((Chg.refl _ _).put _ _).put _ _⟩
      · have hn' : 0 ≤ n := by omega
        have hu : Hid ((M.did ⟨on, fuse, boots⟩ 2 n) = ⟨on, n, boots⟩) := by
          show _ = _
          simp [M.did, M.fused, hn]
        rw [hu.out]
        go_enter Try.func22, Try.ntmps22
        go_wp2
        go_ret
        exact ⟨rfl, (H.out.set 1 _).cast rfl, (Chg.refl _ _).put _ _⟩
    · have q2 := case_ne h2
      by_cases h3 : act = 3
      · subst h3
        go_enter Try.func22, Try.ntmps22
        go_wp2
        go_ret
        exact ⟨rfl, (H.out.set 0 _).cast rfl, (Chg.refl _ _).put _ _⟩
      · have q3 := case_ne h3
        by_cases h4 : act = 4
        · subst h4
          cases on
          · go_enter Try.func22, Try.ntmps22
            go_wp2
            go_ret
            exact ⟨rfl, (((H.out.set 0 _).set 1 _).set 2 _).cast rfl, (((Chg.refl _ _).put _ _).put _ _).put _ _⟩
          · go_enter Try.func22, Try.ntmps22
            go_wp2
            go_ret
            exact ⟨rfl, H.out, Chg.refl _ _⟩
        · have q4 := case_ne h4
          have hu : Hid ((M.did ⟨on, fuse, boots⟩ act n) = ⟨on, fuse, boots⟩) := by
            show _ = _
            simp [M.did, h1, h2, h3, h4]
          rw [hu.out]
          go_enter Try.func22, Try.ntmps22
          go_wp2
          go_ret
          exact ⟨rfl, H.out, Chg.refl _ _⟩

/-- What holds of power behind so many deeds. -/
def M.fit (N : Nat) (m : M) : Prop := -1 ≤ m.fuse ∧ m.fuse ≤ 9223372036854775807 ∧ 0 ≤ m.boots ∧ m.boots ≤ N + 1
theorem M.fit_did {N : Nat} {m : M} (h : m.fit N) (act n : Int) (hn : n ≤ 9223372036854775807) : (m.did act n).fit (N + 1) := by
  obtain ⟨h1, h2, h3, h4⟩ := h
  unfold M.fit M.did M.used M.fused M.offed M.oned
  split
  · split
    · simp only; omega
    · split
      · simp only; omega
      · omega
  · split
    · simp only; split <;> omega
    · split
      · simp only; omega
      · split
        · split
          · omega
          · simp only; omega
        · omega

theorem M.fit_cast {N : Nat} {m : M} (h : m.fit N) : m.fit N := h

set_option maxHeartbeats 4000000 in
theorem exact_calls (a0 : Option Addr) (l0 c0 : Nat) (zs : List Int) (a1 : Option Addr) (l1 c1 : Nat) (ns : List Int) (w : World) (h0 : Ints w a0 l0 zs) (h1 : Ints w a1 l1 ns) (hns : ∀ n ∈ ns, n ≤ 9223372036854775807) :
    Calls Try.prog 6 #[.slice a0 l0 c0, .slice a1 l1 c1] w fun e w' => e = .returned (.bool true) ∧ Below w.heap.size w w' := by
  have hl0 := h0.2.1
  have hl1 := h1.2.1
  go_enter Try.func6, Try.ntmps6
  go_wp2_with fail
  refine (awake_calls _).mono ?_
  rintro e w1 ⟨rfl, hb⟩
  go_wp2_with fail
  refine (new_calls _).mono ?_
  rintro e w2 ⟨rfl, rfl⟩
  have hr : Row (w1.alloc (.cells M.fresh.cells.toArray 53)) w1.heap.size 53 M.fresh.cells := Row.new _ _ _
  have hB : w.heap.size ≤ w1.heap.size := hb.size
  have hB2 : w1.heap.size < (w1.alloc (.cells M.fresh.cells.toArray 53)).heap.size := by simp
  replace hb : Below w.heap.size w (w1.alloc (.cells M.fresh.cells.toArray 53)) := hb.alloc hb.size _
  generalize w1.alloc (.cells M.fresh.cells.toArray 53) = w2 at hr hb hB2 ⊢
  generalize w1.heap.size = B at hr hB hB2 ⊢
  go_wp2_with fail
  have hr2 : Row (w2.alloc (.cells M.fresh.cells.toArray 39)) w2.heap.size 39 M.fresh.cells := Row.new _ _ _
  replace hr := hr.alloc (.cells M.fresh.cells.toArray 39)
  have hC : w.heap.size ≤ w2.heap.size := hb.size
  replace hb : Below w.heap.size w (w2.alloc (.cells M.fresh.cells.toArray 39)) := hb.alloc hb.size _
  change Code.wp _ _ _ _ (w2.alloc (.cells M.fresh.cells.toArray 39))
  generalize w2.alloc (.cells M.fresh.cells.toArray 39) = w3 at hr hr2 hb ⊢
  generalize w2.heap.size = C at hr2 hB2 hC ⊢
  go_loopw [7] (fun i wr => ∃ (j : Nat) (m : M), j ≤ l0 ∧ j ≤ l1 ∧ j ≤ 100 ∧ i = .int .i64 j ∧ Row wr B 53 m.cells ∧ Row wr C 39 m.cells ∧ m.fit j ∧ Below w.heap.size w wr) (fun i _ => 100 - (intOf i).toNat)
  case atStart => exact ⟨0, _, by omega, by omega, by omega, rfl, hr, hr2, ⟨by decide, by decide, by decide, by decide⟩, hb⟩
  case round =>
    clear hr hr2 hb
    obtain ⟨j, m, hj0, hj1, hj2, rfl, hr, hr2, hfit, hb⟩ := hrel
    by_cases hlt : j < l0 ∧ j < l1 ∧ j < 100
    · obtain ⟨g0, g1, g2⟩ := hlt
      obtain ⟨ad0, rfl, hx⟩ := h0.at g0 hb
      obtain ⟨ad1, rfl, hy⟩ := h1.at g1 hb
      have hyn : ns.getD j 0 ≤ 9223372036854775807 := by
        have hl := h1.1
        rw [List.getD_eq_getElem?_getD, List.getElem?_eq_getElem (by omega)]
        exact hns _ (List.getElem_mem _)
      have hxs : ∀ w', Below w.heap.size w w' → w'.cell? (ad0.add j) = some (.int .i64 (zs.getD j 0)) := fun w' h => h0.cell g0 h
      have hys : ∀ w', Below w.heap.size w w' → w'.cell? (ad1.add j) = some (.int .i64 (ns.getD j 0)) := fun w' h => h1.cell g1 h
      generalize zs.getD j 0 = x at hx hxs ⊢
      generalize ns.getD j 0 = y at hy hyn hys ⊢
      have HX := Lib.hid hxs
      have HY := Lib.hid hys
      clear hxs hys
      have hfit2 := M.fit_did hfit x y hyn
      obtain ⟨f1, f2, f3, f4⟩ := hfit
      go_wp2
      go_still_tail 9, (by kernel_rfl)
      change wpList _ _ _ _ _ wr.drew
      replace hr := hr.drew
      replace hr2 := hr2.drew
      replace hb := hb.drew
      replace hx : wr.drew.cell? (ad0.add j) = some (.int .i64 x) := hx
      replace hy : wr.drew.cell? (ad1.add j) = some (.int .i64 y) := hy
      generalize wr.drew = w4 at *
      go_wp2_with fail
      refine (do_calls C m x y _ hr2 ⟨f1, f2⟩ ⟨f3, by omega⟩).mono ?_
      rintro e w5 ⟨rfl, hs2, hc⟩
      replace hr := hr.chg hc (show ¬ B = C by omega)
      replace hb := below_one hb hc (Nat.le_refl _) hC
      replace hx := HX.out _ hb
      replace hy := HY.out _ hb
      clear hc hr2
      have hbo : 0 ≤ m.boots ∧ m.boots ≤ 4611686018427387904 := ⟨f3, by omega⟩
      have hfo : -1 ≤ m.fuse ∧ m.fuse ≤ 9223372036854775807 := ⟨f1, f2⟩
      have hne1 : (m.errDo 1 != m.errUse) = false := by simp [M.errDo]
      clear f1 f2 f3 f4
      by_cases q1 : x = 1
      · subst q1
        go_wp2_with fail
        refine (use_calls B m _ hr hfo).mono ?_
        rintro e w6 ⟨rfl, hr6, hc⟩
        replace hs2 := hs2.chg hc (show ¬ C = B by omega)
        replace hb := below_one hb hc (Nat.le_refl _) hB
        replace hr6 : Row w6 B 53 (m.did 1 y).cells := hr6
        clear hc hr hx hy
        generalize m.did 1 y = m2 at hr6 hs2 hfit2
        obtain ⟨k0, k1, k2, -, -, -⟩ := cells_at hs2
        go_wp2
        go_quiet ((first | (go_at_call 27; exact Calls.quiet_of_same (ison_calls B m2 _ (Row.drewN hr6 _))) | (go_at_call 28; exact Calls.quiet_of_same (boots_calls B m2 _ (Row.drewN hr6 _)))))
        go_wp2
        go_roundw
        case rel => exact ⟨j + 1, m2, by omega, by omega, by omega, by go_num, hr6.drewN _, hs2.drewN _, M.fit_cast hfit2, below_drewN hb _⟩
        case measure => simp [intOf]; omega
      · have p1 := case_ne q1
        by_cases q2 : x = 2
        · subst q2
          go_wp2_with fail
          refine (fuse_calls B m y _ hr).mono ?_
          rintro e w6 ⟨rfl, hr6, hc⟩
          replace hs2 := hs2.chg hc (show ¬ C = B by omega)
          replace hb := below_one hb hc (Nat.le_refl _) hB
          replace hr6 : Row w6 B 53 (m.did 2 y).cells := hr6
          clear hc hr hx hy
          generalize m.did 2 y = m2 at hr6 hs2 hfit2
          obtain ⟨k0, k1, k2, -, -, -⟩ := cells_at hs2
          go_wp2
          go_quiet ((first | (go_at_call 27; exact Calls.quiet_of_same (ison_calls B m2 _ (Row.drewN hr6 _))) | (go_at_call 28; exact Calls.quiet_of_same (boots_calls B m2 _ (Row.drewN hr6 _)))))
          go_wp2
          go_roundw
          case rel => exact ⟨j + 1, m2, by omega, by omega, by omega, by go_num, hr6.drewN _, hs2.drewN _, M.fit_cast hfit2, below_drewN hb _⟩
          case measure => simp [intOf]; omega
        · have p2 := case_ne q2
          by_cases q3 : x = 3
          · subst q3
            go_wp2_with fail
            refine (off_calls B m _ hr).mono ?_
            rintro e w6 ⟨rfl, hr6, hc⟩
            replace hs2 := hs2.chg hc (show ¬ C = B by omega)
            replace hb := below_one hb hc (Nat.le_refl _) hB
            replace hr6 : Row w6 B 53 (m.did 3 y).cells := hr6
            clear hc hr hx hy
            generalize m.did 3 y = m2 at hr6 hs2 hfit2
            obtain ⟨k0, k1, k2, -, -, -⟩ := cells_at hs2
            go_wp2
            go_quiet ((first | (go_at_call 27; exact Calls.quiet_of_same (ison_calls B m2 _ (Row.drewN hr6 _))) | (go_at_call 28; exact Calls.quiet_of_same (boots_calls B m2 _ (Row.drewN hr6 _)))))
            go_wp2
            go_roundw
            case rel => exact ⟨j + 1, m2, by omega, by omega, by omega, by go_num, hr6.drewN _, hs2.drewN _, M.fit_cast hfit2, below_drewN hb _⟩
            case measure => simp [intOf]; omega
          · have p3 := case_ne q3
            by_cases q4 : x = 4
            · subst q4
              go_wp2_with fail
              refine (on_calls B m _ hr hbo).mono ?_
              rintro e w6 ⟨rfl, hr6, hc⟩
              replace hs2 := hs2.chg hc (show ¬ C = B by omega)
              replace hb := below_one hb hc (Nat.le_refl _) hB
              replace hr6 : Row w6 B 53 (m.did 4 y).cells := hr6
              clear hc hr hx hy
              generalize m.did 4 y = m2 at hr6 hs2 hfit2
              obtain ⟨k0, k1, k2, -, -, -⟩ := cells_at hs2
              go_wp2
              go_quiet ((first | (go_at_call 27; exact Calls.quiet_of_same (ison_calls B m2 _ (Row.drewN hr6 _))) | (go_at_call 28; exact Calls.quiet_of_same (boots_calls B m2 _ (Row.drewN hr6 _)))))
              go_wp2
              go_roundw
              case rel => exact ⟨j + 1, m2, by omega, by omega, by omega, by go_num, hr6.drewN _, hs2.drewN _, M.fit_cast hfit2, below_drewN hb _⟩
              case measure => simp [intOf]; omega
            · have p4 := case_ne q4
              have hdid : m.did x y = m := by simp [M.did, q1, q2, q3, q4]
              rw [hdid] at hs2 hfit2
              have hr6 := hr
              clear hr hdid
              obtain ⟨k0, k1, k2, -, -, -⟩ := cells_at hs2
              go_wp2
              go_quiet ((first | (go_at_call 27; exact Calls.quiet_of_same (ison_calls B m _ (Row.drewN hr6 _))) | (go_at_call 28; exact Calls.quiet_of_same (boots_calls B m _ (Row.drewN hr6 _)))))
              go_wp2
              go_roundw
              case rel => exact ⟨j + 1, m, by omega, by omega, by omega, by go_num, hr6.drewN _, hs2.drewN _, M.fit_cast hfit2, below_drewN hb _⟩
              case measure => simp [intOf]; omega
    · have hcond : l0 ≤ j ∨ l1 ≤ j ∨ 100 ≤ j := by omega
      by_cases g0 : j < l0
      · by_cases g1 : j < l1
        · have g2 : 100 ≤ j := by omega
          go_wp2
          go_ret
          exact ⟨rfl, hb⟩
        · have g1' : l1 ≤ j := by omega
          clear hcond hlt
          go_wp2
          go_ret
          exact ⟨rfl, hb⟩
      · have g0' : l0 ≤ j := by omega
        clear hcond hlt
        go_wp2
        go_ret
        exact ⟨rfl, hb⟩
theorem wf_le {x : Int} (h : (Lit.int .i64 x).wf = true) : x ≤ 9223372036854775807 := by
  simp [Lit.wf, IntKind.min, IntKind.max, IntKind.bits, IntKind.signed] at h
  omega
theorem exact_row (a0 : Option Addr) (l0 c0 : Nat) (zs : List Int) (a1 : Option Addr) (l1 c1 : Nat) (ns : List Int) (w : World) (h0 : SlcIn (Cod.int .i64) w a0 l0 c0 zs) (h1 : SlcIn (Cod.int .i64) w a1 l1 c1 ns) :
    Calls Try.prog 6 #[.slice a0 l0 c0, .slice a1 l1 c1] w fun e w' => e = .returned (.bool true) ∧ Below w.heap.size w w' :=
  exact_calls a0 l0 c0 zs a1 l1 c1 ns w (ints_of h0).1 (ints_of h1).1 (fun n hn => wf_le ((ints_of h1).2 n hn))
end Go.Proofs.Ytlcjiofdbalplaa.Mains
