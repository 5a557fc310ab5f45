/- gaugerlaw17.great: it answers. -/
import Derived.Test.YtcfjooeagfollaaPlanF
namespace Go.Proofs.Ytcfjooeagfollaa.Plan
open Go.RowKit Go.Proofs.Ytcfjooeagfollaa.Mem Go.Proofs.Ytcfjooeagfollaa.Bytes Go.Proofs.Ytcfjooeagfollaa.Num Go.Proofs.Ytcfjooeagfollaa.Sign
set_option linter.unusedSimpArgs false
set_option linter.unusedVariables false
set_option maxRecDepth 20000

def Says (e : Ending) : Prop := ∃ g : Bool, e = .returned (.bool g)
set_option maxHeartbeats 4000000 in
theorem great_calls (p : Pl) (l : List V) (ra : Option Addr) (rcap : Nat) (w : World) (h : HasP w p) (hV : Vs w ra l) (hl : l.length ≤ 9223372036854775807) :
    Calls Try.prog 34 #[.agg #[.slice p.ta p.tables.length p.tcap, .slice p.va p.views.length p.vcap], .slice ra l.length rcap] w fun e w' => Says e ∧ Below w.heap.size w w' := by
  obtain ⟨ta, tcap, tables, va, vcap, views⟩ := p
  obtain ⟨⟨hT, hC, hTl⟩, hW, hS, hWl⟩ := h
  simp only at hT hC hTl hW hS hWl
  have hX : Row (w.alloc (.cells #[.slice ta tables.length tcap, .slice va views.length vcap] 67)) w.heap.size 67 [.slice ta tables.length tcap, .slice va views.length vcap] := Wide.new_at rfl
  have hb : Below w.heap.size w (w.alloc (.cells #[.slice ta tables.length tcap, .slice va views.length vcap] 67)) := (Below.refl _ _).alloc (Nat.le_refl _) _
  show Calls Try.prog 34 #[.agg #[.slice ta tables.length tcap, .slice va views.length vcap], .slice ra l.length rcap] w _
  have X := Lib.hid hX
  have B := Lib.hid hb
  have T := Lib.hid hT
  have C := Lib.hid (fun (i : Nat) (hi : i < tables.length) => (hC _ (List.getElem_mem hi)).2)
  have W := Lib.hid hW
  have S := Lib.hid (fun (i : Nat) (hi : i < views.length) => (hS _ (List.getElem_mem hi)).2)
  have VV := Lib.hid hV
  have x0 := hX.cell (i := 0) rfl
  have x1 := hX.cell (i := 1) rfl
  clear hX hb hT hC hW hS hV
  by_cases c1 : 6 < tables.length
  · have c1' : (6 : Int) < (tables.length : Int) := by omega
    go_enter Try.func34, Try.ntmps34
    go_wp2_with fail
    go_ret
    exact ⟨⟨_, rfl⟩, B.out⟩
  by_cases c2 : 8 < views.length
  · have c1' : decide ((6 : Int) < (tables.length : Int)) = false := by simp; omega
    have c2' : (8 : Int) < (views.length : Int) := by omega
    go_enter Try.func34, Try.ntmps34
    go_wp2_with fail
    go_ret
    exact ⟨⟨_, rfl⟩, B.out⟩
  have c1' : decide ((6 : Int) < (tables.length : Int)) = false := by simp; omega
  have c2' : decide ((8 : Int) < (views.length : Int)) = false := by simp; omega
  by_cases c3 : 10 < l.length
  · have c3' : (10 : Int) < (l.length : Int) := by omega
    go_enter Try.func34, Try.ntmps34
    go_wp2_with fail
    go_ret
    exact ⟨⟨_, rfl⟩, B.out⟩
  have c3' : decide ((10 : Int) < (l.length : Int)) = false := by simp; omega
  go_enter Try.func34, Try.ntmps34
  go_wp2_with fail
  go_loopw [5] (fun i wr => ∃ k : Nat, k ≤ tables.length ∧ i = .int .i64 k ∧ Row wr w.heap.size 67 [.slice ta tables.length tcap, .slice va views.length vcap] ∧ Below w.heap.size w wr) (fun i _ => tables.length - (intOf i).toNat)
  case atStart => exact ⟨0, by omega, rfl, X.out, B.out⟩
  case round =>
    clear X B x0 x1
    obtain ⟨k, hk, rfl, hx, hb⟩ := hrel
    have X := Lib.hid hx
    have B := Lib.hid hb
    have x0 := hx.cell (i := 0) rfl
    clear hx hb
    by_cases hlt : k < tables.length
    · have hlt' : (k : Int) < (tables.length : Int) := by omega
      obtain ⟨ad, rfl, hlb, z0, _⟩ := T.out.at hlt B.out
      have hc := C.out k hlt
      generalize tables[k] = tb at *
      obtain ⟨ca, ccap, cols⟩ := tb
      have z := z0 _ rfl
      rw [Nat.mul_one] at z
      simp only at z hc
      clear z0
      by_cases d : 10 < cols.length
      · have d' : (10 : Int) < (cols.length : Int) := by omega
        go_wp2_with fail
        go_ret
        exact ⟨⟨_, rfl⟩, B.out⟩
      · have d' : decide ((10 : Int) < (cols.length : Int)) = false := by simp; omega
        go_wp2_with fail
        exact ⟨⟨k + 1, by omega, by go_num, X.out, B.out⟩, by simp [intOf]; omega⟩
    · obtain rfl : k = tables.length := by omega
      go_wp2_with fail
      go_loopw [6] (fun i wr => ∃ k : Nat, k ≤ views.length ∧ i = .int .i64 k ∧ Row wr w.heap.size 67 [.slice ta tables.length tcap, .slice va views.length vcap] ∧ Below w.heap.size w wr) (fun i _ => views.length - (intOf i).toNat)
      case atStart => exact ⟨0, by omega, rfl, X.out, B.out⟩
      case round =>
        clear X B x0
        obtain ⟨k, hk, rfl, hx, hb⟩ := hrel
        have X := Lib.hid hx
        have B := Lib.hid hb
        have x1 := hx.cell (i := 1) rfl
        clear hx hb
        by_cases hlt : k < views.length
        · have hlt' : (k : Int) < (views.length : Int) := by omega
          obtain ⟨ad, rfl, hlb, _, z0⟩ := W.out.at hlt B.out
          have hc := S.out k hlt
          generalize views[k] = vw at *
          obtain ⟨v1, v2, ca, ccap, cols⟩ := vw
          have z := z0 1 _ rfl
          simp only at z hc
          clear z0
          by_cases d : 10 < cols.length
          · have d' : (10 : Int) < (cols.length : Int) := by omega
            go_wp2_with fail
            go_ret
            exact ⟨⟨_, rfl⟩, B.out⟩
          · have d' : decide ((10 : Int) < (cols.length : Int)) = false := by simp; omega
            go_wp2_with fail
            exact ⟨⟨k + 1, by omega, by go_num, X.out, B.out⟩, by simp [intOf]; omega⟩
        · obtain rfl : k = views.length := by omega
          go_wp2_with fail
          go_loopw [7] (fun i wr => ∃ k : Nat, k ≤ l.length ∧ i = .int .i64 k ∧ Below w.heap.size w wr) (fun i _ => l.length - (intOf i).toNat)
          case atStart => exact ⟨0, by omega, rfl, B.out⟩
          case round =>
            clear X B x1
            obtain ⟨k, hk, rfl, hb⟩ := hrel
            have B := Lib.hid hb
            clear hb
            by_cases hlt : k < l.length
            · have hlt' : (k : Int) < (l.length : Int) := by omega
              obtain ⟨ad, rfl, hlb, hz⟩ := VV.out k hlt
              obtain ⟨_, _, z⟩ := hz _ B.out
              generalize l[k] = v at *
              obtain ⟨k0, n0, s0⟩ := v
              simp only at z
              clear hz
              by_cases d : 60 < s0.size
              · have d' : (60 : Int) < (s0.size : Int) := by omega
                go_wp2_with fail
                go_ret
                exact ⟨⟨_, rfl⟩, B.out⟩
              · have d' : decide ((60 : Int) < (s0.size : Int)) = false := by simp; omega
                go_wp2_with fail
                exact ⟨⟨k + 1, by omega, by go_num, B.out⟩, by simp [intOf]; omega⟩
            · obtain rfl : k = l.length := by omega
              go_wp2_with fail
              go_ret
              exact ⟨⟨_, rfl⟩, B.out⟩
end Go.Proofs.Ytcfjooeagfollaa.Plan
