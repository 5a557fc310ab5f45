/- The law NodeLeads; great. -/
import Derived.Test.YtebmalmciakhcaaNodeAwake
namespace Go.Proofs.Ytebmalmciakhcaa.Node
open Go.RowKit Go.Proofs.Ytebmalmciakhcaa.Mem Go.Proofs.Ytebmalmciakhcaa.Bytes Go.Proofs.Ytebmalmciakhcaa.Ord
set_option linter.unusedSimpArgs false
set_option linter.unusedVariables false

/-- A node that is no more than is asked. -/
def Small (n : Nd) : Prop := n.list.length ≤ 120 ∧ n.high.size ≤ 100 ∧ ∀ i (h : i < n.list.length), n.list[i].key.size ≤ 100 ∧ n.list[i].val.size ≤ 200
def GreatPost (n : Nd) (e : Ending) : Prop := ∃ b : Bool, e = .returned (.bool b) ∧ (b = false → Small n)
theorem great_yes (n : Nd) : GreatPost n (.returned (.bool true)) := ⟨true, rfl, fun h => by cases h⟩
theorem great_no {n : Nd} (h : Small n) : GreatPost n (.returned (.bool false)) := ⟨false, rfl, fun _ => h⟩
set_option maxHeartbeats 2000000 in
theorem great_calls (n : Nd) (a : Option Addr) (cap : Nat) (w : World) (hE : Es w a n.list) (hl : n.list.length ≤ 9223372036854775807) :
    Calls Try.prog 9 #[.agg (n.cells (.slice a n.list.length cap)).toArray] w fun e w' => GreatPost n e ∧ Below w.heap.size w w' := by
  obtain ⟨t, l, s, h, hi, r, es⟩ := n
  simp only at hE hl
  have hX : Row (w.alloc (.cells #[.int .i64 t, .int .i64 l, .int .i64 s, .bool h, .string hi, .int .i64 r, .slice a es.length cap] 24)) w.heap.size 24 [.int .i64 t, .int .i64 l, .int .i64 s, .bool h, .string hi, .int .i64 r, .slice a es.length cap] := new_at rfl
  have hb : Below w.heap.size w (w.alloc (.cells #[.int .i64 t, .int .i64 l, .int .i64 s, .bool h, .string hi, .int .i64 r, .slice a es.length cap] 24)) := (Below.refl _ _).alloc (Nat.le_refl _) _
  have x4 := hX.cell (i := 4) rfl
  have x6 := hX.cell (i := 6) rfl
  show Calls Try.prog 9 #[.agg #[.int .i64 t, .int .i64 l, .int .i64 s, .bool h, .string hi, .int .i64 r, .slice a es.length cap]] w _
  by_cases c1 : (es.length : Int) > 120
  · go_enter Try.func9, Try.ntmps9
    go_wp2_with fail
    go_ret
    exact ⟨great_yes _, hb⟩
  · by_cases c2 : (hi.size : Int) > 100
    · go_enter Try.func9, Try.ntmps9
      go_wp2_with fail
      go_ret
      exact ⟨great_yes _, hb⟩
    · go_enter Try.func9, Try.ntmps9
      go_wp2_with fail
      go_loopw [3] (fun i wr => ∃ k : Nat, k ≤ es.length ∧ i = .int .i64 k ∧ (∀ j (hj : j < es.length), j < k → es[j].key.size ≤ 100 ∧ es[j].val.size ≤ 200) ∧ wr.cell? ⟨w.heap.size, 6, none⟩ = some (.slice a es.length cap) ∧ Below w.heap.size w wr) (fun i _ => es.length - (intOf i).toNat)
      case atStart => exact ⟨0, by omega, rfl, fun j _ h => by omega, x6, hb⟩
      case round =>
        clear x4 x6 hX hb
        obtain ⟨k, hk, rfl, hall, x6, hb⟩ := hrel
        by_cases hlt : k < es.length
        · obtain ⟨ad, rfl, _, hx⟩ := hE k hlt
          have hlt' : (k : Int) < (es.length : Int) := by omega
          obtain ⟨z0, z1, z2⟩ := hx _ hb
          have hall2 : es[k].key.size ≤ 100 → es[k].val.size ≤ 200 → ∀ j (hj : j < es.length), j < k + 1 → es[j].key.size ≤ 100 ∧ es[j].val.size ≤ 200 := fun h1 h2 j hj hjk => by
            rcases Nat.lt_or_ge j k with h' | h'
            · exact hall j hj h'
            · obtain rfl : j = k := by omega
              exact ⟨h1, h2⟩
          have A2 := Lib.hid hall2
          clear hall hx hall2
          generalize es[k] = e at *
          obtain ⟨key, val, g⟩ := e
          simp only at z0 z1 z2
          by_cases d1 : (key.size : Int) > 100
          · go_wp2_with fail
            go_ret
            exact ⟨great_yes _, hb⟩
          · by_cases d2 : (val.size : Int) > 200
            · go_wp2_with fail
              go_ret
              exact ⟨great_yes _, hb⟩
            · have A3 := A2.out (by show key.size ≤ 100; omega) (by show val.size ≤ 200; omega)
              have A4 := Lib.hid A3
              clear A3
              go_wp2_with fail
              exact ⟨⟨k + 1, by omega, by go_num, A4.out, x6, hb⟩, by simp [intOf]; omega⟩
        · obtain rfl : k = es.length := by omega
          go_wp2_with fail
          go_ret
          exact ⟨great_no ⟨by show es.length ≤ 120; omega, by show hi.size ≤ 100; omega, fun i hi => hall i hi hi⟩, hb⟩

set_option maxHeartbeats 2000000 in
theorem leads_calls (key : ByteArray) (page : Int) (e : Ent) (w : World) (hks : key.size ≤ 140737488351232) (hp : wf64 page) (hvs : e.val.size ≤ maxLen) :
    Calls Try.prog 6 #[.string key, .int .i64 page, .agg #[.string e.key, .string e.val, .bool e.ghost]] w fun x w' => x = .returned (.bool true) ∧ Below w.heap.size w w' := by
  obtain ⟨ek, ev, eg⟩ := e
  simp only at hvs
  obtain ⟨hp1, hp2⟩ := hp
  have hX : Row (w.alloc (.cells #[.string ek, .string ev, .bool eg] 44)) w.heap.size 44 [.string ek, .string ev, .bool eg] := new_at rfl
  have hb : Below w.heap.size w (w.alloc (.cells #[.string ek, .string ev, .bool eg] 44)) := (Below.refl _ _).alloc (Nat.le_refl _) _
  have X := Lib.hid hX
  have B := Lib.hid hb
  have AW := Lib.hid awake_calls
  clear hX hb
  by_cases c1 : (key.size : Int) > 100
  · go_enter Try.func6, Try.ntmps6
    go_wp2_with fail
    refine (AW.out _).mono ?_
    rintro e w1 ⟨rfl, h1⟩
    have B1 := Lib.hid (B.out.trans (h1.mono B.out.size))
    go_wp2_with fail
    go_ret
    exact ⟨rfl, B1.out⟩
  · by_cases c2 : (ev.size : Int) > 100
    · go_enter Try.func6, Try.ntmps6
      go_wp2_with fail
      refine (AW.out _).mono ?_
      rintro e w1 ⟨rfl, h1⟩
      have B1 := Lib.hid (B.out.trans (h1.mono B.out.size))
      have x1 := (X.out.below h1 X.out.lt).cell (i := 1) rfl
      go_wp2_with fail
      go_ret
      exact ⟨rfl, B1.out⟩
    · have hl2 : (bs (leadV page)).size = 2 := by rw [bs_size]; unfold leadV; rw [le_length]
      have LD := Lib.hid (fun w => lead_calls key page w)
      have CH := Lib.hid (fun w => child_calls ⟨key, bs (leadV page), false⟩ w (by show (bs (leadV page)).size ≤ _; omega))
      rw [lead_child] at CH
      have CE := Lib.hid (fun w => child_calls ⟨ek, ev, eg⟩ w (by show ev.size ≤ _; omega))
      generalize bs (leadV page) = V at *
      replace CH : RowKit.Hid (∀ w, Calls Try.prog 21 #[.agg #[.string key, .string V, .bool false]] w fun x w' => x = .returned (.int .i64 ((page % 65536).toNat : Int)) ∧ Below w.heap.size w w') := CH
      replace CE : RowKit.Hid (∀ w, Calls Try.prog 21 #[.agg #[.string ek, .string ev, .bool eg]] w fun x w' => x = .returned (.int .i64 (childN ⟨ek, ev, eg⟩ : Int)) ∧ Below w.heap.size w w') := CE
      have hce : ¬ ev.size = 2 → childN ⟨ek, ev, eg⟩ = 0 := fun h => by unfold childN; rw [if_neg h]
      have hpt : ((page % 65536).toNat : Int) = page % 65536 := by omega
      rw [hpt] at CH
      have hmod : (page % 18446744073709551616).tmod 65536 = page % 65536 := by
        rw [Int.tmod_eq_emod_of_nonneg (by omega)]
        omega
      have hu : IntKind.u64.wrap page = page % 18446744073709551616 := by simp [IntKind.wrap, IntKind.bits, IntKind.signed]
      have hwm : wrap64 ((IntKind.u64.wrap page).tmod 65536) = page % 65536 := by rw [hu, hmod]; unfold wrap64; omega
      have hwm2 : (page % 65536 == wrap64 ((IntKind.u64.wrap page).tmod 65536)) = true := by rw [hwm, beq_self_eq_true]
      clear hu hmod
      have hq : ((V.size : Int) == 2) = true := by simp; omega
      have hs1 : (key.toList == key.toList) = true := beq_self_eq_true _
      clear hpt
      by_cases c3 : ev.size = 2
      · have c3' : ((ev.size : Int) == 2) = true := by simp; omega
        go_enter Try.func6, Try.ntmps6
        go_wp2_with fail
        refine (AW.out _).mono ?_
        rintro e w1 ⟨rfl, h1⟩
        have B1 := Lib.hid (B.out.trans (h1.mono B.out.size))
        have X1 := Lib.hid (X.out.below h1 X.out.lt)
        clear h1
        have x1 := X1.out.cell (i := 1) rfl
        go_wp2_with fail
        clear x1
        refine (LD.out _).mono ?_
        rintro e w2 ⟨rfl, h2⟩
        have hY : Row (w2.alloc (.cells #[.string key, .string V, .bool false] 44)) w2.heap.size 44 [.string key, .string V, .bool false] := new_at rfl
        have Y2 := Lib.hid hY
        have X2 := Lib.hid ((X1.out.below h2 X1.out.lt).alloc (.cells #[.string key, .string V, .bool false] 44))
        have B2 := B1.out.trans (h2.mono B1.out.size)
        have B3 := Lib.hid (B2.alloc B2.size (.cells #[.string key, .string V, .bool false] 44))
        clear h2 hY B2
        go_wp2_with fail
        refine (CH.out _).mono ?_
        rintro e w3 ⟨rfl, h3⟩
        have X3 := Lib.hid (X2.out.below h3 X2.out.lt)
        have B4 := Lib.hid (B3.out.trans (h3.mono B3.out.size))
        clear h3
        have x1 := X3.out.cell (i := 1) rfl
        go_wp2_with fail
        go_ret
        exact ⟨by first | rfl | simp, B4.out⟩
      · have c3' : ((ev.size : Int) == 2) = false := by simp; omega
        rw [hce c3] at CE
        go_enter Try.func6, Try.ntmps6
        go_wp2_with fail
        refine (AW.out _).mono ?_
        rintro e w1 ⟨rfl, h1⟩
        have B1 := Lib.hid (B.out.trans (h1.mono B.out.size))
        have X1 := Lib.hid (X.out.below h1 X.out.lt)
        clear h1
        have x1 := X1.out.cell (i := 1) rfl
        go_wp2_with fail
        clear x1
        refine (LD.out _).mono ?_
        rintro e w2 ⟨rfl, h2⟩
        have hY : Row (w2.alloc (.cells #[.string key, .string V, .bool false] 44)) w2.heap.size 44 [.string key, .string V, .bool false] := new_at rfl
        have Y2 := Lib.hid hY
        have X2 := Lib.hid ((X1.out.below h2 X1.out.lt).alloc (.cells #[.string key, .string V, .bool false] 44))
        have B2 := B1.out.trans (h2.mono B1.out.size)
        have B3 := Lib.hid (B2.alloc B2.size (.cells #[.string key, .string V, .bool false] 44))
        clear h2 hY B2
        go_wp2_with fail
        refine (CH.out _).mono ?_
        rintro e w3 ⟨rfl, h3⟩
        have X3 := Lib.hid (X2.out.below h3 X2.out.lt)
        have B4 := Lib.hid (B3.out.trans (h3.mono B3.out.size))
        clear h3
        have x0 := X3.out.cell (i := 0) rfl
        have x1 := X3.out.cell (i := 1) rfl
        have x2 := X3.out.cell (i := 2) rfl
        go_wp2_with fail
        refine (CE.out _).mono ?_
        rintro e w4 ⟨rfl, h4⟩
        have B5 := Lib.hid (B4.out.trans (h4.mono B4.out.size))
        clear h4
        go_wp2_with fail
        go_ret
        exact ⟨by first | rfl | simp, B5.out⟩
theorem leads_row (key : ByteArray) (page : Int) (cs : List Value) (y : ByteArray × ByteArray × Bool × Unit) (W : World) (hk : key.size ≤ 140737488351232) (hp : (Lit.int .i64 page).wf = true) (h : (Cod.pair Cod.str (Cod.pair Cod.str (Cod.pair Cod.bool Cod.unit))).R W cs y) :
    Calls Try.prog 6 #[.string key, .int .i64 page, .agg cs.toArray] W fun e w' => e = .returned (.bool true) ∧ Below W.heap.size W w' := by
  obtain ⟨c1, c2, rfl, ⟨rfl, _⟩, c3, c4, rfl, ⟨rfl, hv⟩, c5, c6, rfl, rfl, hu⟩ := h
  obtain rfl : c6 = [] := hu
  exact leads_calls key page ⟨y.1, y.2.1, y.2.2.1⟩ W hk (wf64_of hp) hv
end Go.Proofs.Ytebmalmciakhcaa.Node
