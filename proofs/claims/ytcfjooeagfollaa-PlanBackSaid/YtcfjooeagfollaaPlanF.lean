/- plan.Fits, Entry. -/
import Derived.Test.YtcfjooeagfollaaPlanW
import Derived.Test.YtcfjooeagfollaaSignRow
namespace Go.Proofs.Ytcfjooeagfollaa.Plan
open Go.RowKit Go.Proofs.Ytcfjooeagfollaa.Mem Go.Proofs.Ytcfjooeagfollaa.Bytes Go.Proofs.Ytcfjooeagfollaa.Num Go.Proofs.Ytcfjooeagfollaa.Sign
set_option linter.unusedSimpArgs false
set_option linter.unusedVariables false
set_option maxRecDepth 20000

def fitL : List Int → List V → Bool
  | [], [] => true
  | c :: cs, v :: vs => (decide (v.k = c) && v.good) && fitL cs vs
  | _, _ => false
def Pl.fit (p : Pl) (n : Int) (l : List V) : Bool := !(decide (n < 0) || decide ((p.tables.length : Int) ≤ n)) && fitL (colsOf p.tables n) l
theorem fitL_len : ∀ (cs : List Int) (l : List V), fitL cs l = true → l.length = cs.length
  | [], [], _ => rfl
  | c :: cs, v :: vs, h => by
    simp only [fitL, Bool.and_eq_true] at h
    rw [List.length_cons, List.length_cons, fitL_len cs vs h.2]
  | [], v :: vs, h => by simp [fitL] at h
  | c :: cs, [], h => by simp [fitL] at h
theorem fitL_good : ∀ (cs : List Int) (l : List V), fitL cs l = true → ∀ v ∈ l, v.good = true
  | [], [], _, v, hv => by cases hv
  | c :: cs, v :: vs, h, u, hu => by
    simp only [fitL, Bool.and_eq_true] at h
    rcases List.mem_cons.1 hu with rfl | hu
    · exact h.1.2
    · exact fitL_good cs vs h.2 u hu
  | [], v :: vs, h, _, _ => by simp [fitL] at h
  | c :: cs, [], h, _, _ => by simp [fitL] at h

def fitN (b : Bool) : Int := if b then 0 else 1
set_option maxHeartbeats 2000000 in
theorem fits_calls (p : Pl) (n : Int) (l : List V) (ra : Option Addr) (rcap : Nat) (w : World) (h : HasP w p) (hV : Vs w ra l) (hl : l.length ≤ 9223372036854775807) :
    Calls Try.prog 97 #[.agg #[.slice p.ta p.tables.length p.tcap, .slice p.va p.views.length p.vcap], .int .i64 n, .slice ra l.length rcap] w fun e w' => e = .returned (.int .i64 (fitN (p.fit n l))) ∧ Below w.heap.size w w' := by
  have hX : Row (w.alloc (.cells #[.slice p.ta p.tables.length p.tcap, .slice p.va p.views.length p.vcap] 67)) w.heap.size 67 [.slice p.ta p.tables.length p.tcap, .slice p.va p.views.length p.vcap] := Wide.new_at rfl
  have hb : Below w.heap.size w (w.alloc (.cells #[.slice p.ta p.tables.length p.tcap, .slice p.va p.views.length p.vcap] 67)) := (Below.refl _ _).alloc (Nat.le_refl _) _
  have x0 := hX.cell (i := 0) rfl
  have hT := h.tabs
  have X := Lib.hid hX
  have HB := Lib.hid hb
  have TL := hT.len
  clear hX hb
  have hk : p.fit n l = (!(decide (n < 0) || decide ((p.tables.length : Int) ≤ n)) && fitL (colsOf p.tables n) l) := rfl
  rw [hk]
  by_cases c1 : n < 0
  · have e : (!(decide (n < 0) || decide ((p.tables.length : Int) ≤ n)) && fitL (colsOf p.tables n) l) = false := by simp [c1]
    rw [e]
    clear hk e
    go_enter Try.func97, Try.ntmps97
    go_wp2_with fail
    go_ret
    exact ⟨rfl, HB.out⟩
  by_cases c2 : (p.tables.length : Int) ≤ n
  · have e : (!(decide (n < 0) || decide ((p.tables.length : Int) ≤ n)) && fitL (colsOf p.tables n) l) = false := by simp [c2]
    rw [e]
    clear hk e
    go_enter Try.func97, Try.ntmps97
    go_wp2_with fail
    go_ret
    exact ⟨rfl, HB.out⟩
  have e : (!(decide (n < 0) || decide ((p.tables.length : Int) ≤ n)) && fitL (colsOf p.tables n) l) = fitL (colsOf p.tables n) l := by
    rw [decide_eq_false c1, decide_eq_false c2]; rfl
  rw [e]
  obtain ⟨m, rfl⟩ := Int.eq_ofNat_of_zero_le (show 0 ≤ n by omega)
  have hm : m < p.tables.length := by omega
  have hm' : (m : Int) < (p.tables.length : Int) := by omega
  have hco : colsOf p.tables (m : Int) = p.tables[m].cols := by unfold colsOf; rw [Int.toNat_natCast, List.getD_eq_getElem?_getD, List.getElem?_eq_getElem hm]; rfl
  rw [hco]
  obtain ⟨ta, tcap, tables, va, vcap, views⟩ := p
  simp only at hT hm hm' TL c2 hco x0 X HB ⊢
  obtain ⟨ad, rfl, hlb, hz⟩ := hT.row.all hm
  obtain ⟨hI, hcl⟩ := hT.cols _ (List.getElem_mem hm)
  generalize tables[m] = tb at *
  obtain ⟨ca, ccap, cols⟩ := tb
  simp only at hI hcl hz ⊢
  have Z := Lib.hid (show ∀ w', Below w.heap.size w w' → w'.cell? (ad.add m) = some (.slice ca cols.length ccap) from fun w' hb => by have := (hz w' hb).1 _ rfl; rwa [Nat.mul_one] at this)
  have z0 := Z.out _ HB.out
  have CI := Lib.hid hI
  have VS := Lib.hid hV
  have e1 : decide ((m : Int) < 0) = false := by simp
  have e2 : decide (tables.length ≤ m) = false := by simp; omega
  clear hz hI hk e hco c1 c2 hT hV h
  by_cases c4 : l.length = cols.length
  · have c4' : ((l.length : Int) != (cols.length : Int)) = false := by rw [c4]; simp
    have ca1 := Nat.le_of_eq c4
    have ca2 := Nat.le_of_eq c4.symm
    have C4 := Lib.hid c4
    clear c4
    go_enter Try.func97, Try.ntmps97
    go_wp2_with fail
    generalize (w.alloc (.cells #[.slice (some ad) tables.length tcap, .slice va views.length vcap] 67)) = w1 at *
    go_loopw [32] (fun i wr => ∃ k : Nat, k ≤ l.length ∧ i = .int .i64 k ∧ fitL cols l = fitL (cols.drop k) (l.drop k) ∧ Row wr w.heap.size 67 [.slice (some ad) tables.length tcap, .slice va views.length vcap] ∧ Below w.heap.size w wr) (fun i _ => l.length - (intOf i).toNat)
    case atStart => exact ⟨0, by omega, rfl, by rw [List.drop_zero, List.drop_zero], X.out, HB.out⟩
    case round =>
      clear X HB x0 z0
      obtain ⟨k, hk, rfl, hI, X, B⟩ := hrel
      have hX := Lib.hid X
      have hB := Lib.hid B
      have I := Lib.hid hI
      clear X B hI
      by_cases hlt : k < l.length
      · have hlt' : (k : Int) < (l.length : Int) := by omega
        have hltc : k < cols.length := by omega
        have hltc' : (k : Int) < (cols.length : Int) := by omega
        obtain ⟨rd, rfl, hlb2, hx⟩ := VS.out k hlt
        obtain ⟨cd, rfl, hlb3, hc0⟩ := CI.out.all hltc
        have hd1 : l.drop k = l[k] :: l.drop (k + 1) := List.drop_eq_getElem_cons hlt
        have hd2 : cols.drop k = cols[k] :: cols.drop (k + 1) := List.drop_eq_getElem_cons hltc
        generalize l[k] = v at *
        generalize cols[k] = c at *
        have I2 := Lib.hid (show fitL cols l = ((decide (v.k = c) && v.good) && fitL (cols.drop (k + 1)) (l.drop (k + 1))) by rw [I.out, hd1, hd2]; rfl)
        have C0 := Lib.hid (show ∀ w', Below w.heap.size w w' → w'.cell? (cd.add k) = some (.int .i64 c) from fun w' hb => by have := (hc0 w' hb).1 _ rfl; rwa [Nat.mul_one] at this)
        obtain ⟨v0, v1, v2⟩ := hx _ hB.out
        have G := Lib.hid (fun w => Sign.good_calls v w)
        generalize v.good = gd at *
        obtain ⟨vk, vn, vs⟩ := v
        replace G : RowKit.Hid (∀ w, Calls Try.prog 144 #[.agg #[.int .i64 vk, .int .i64 vn, .string vs]] w fun e w' => e = .returned (.bool gd) ∧ Below w.heap.size w w') := G
        simp only at v0 v1 v2 I2
        have hY : Row (wr.alloc (.cells #[.int .i64 vk, .int .i64 vn, .string vs] 81)) wr.heap.size 81 [.int .i64 vk, .int .i64 vn, .string vs] := Wide.new_at rfl
        have Y := Lib.hid hY.drew
        have X1 := Lib.hid ((hX.out.alloc (.cells #[.int .i64 vk, .int .i64 vn, .string vs] 81)).drew)
        have B1 := Lib.hid ((hB.out.alloc hB.out.size (.cells #[.int .i64 vk, .int .i64 vn, .string vs] 81)).drew)
        clear hx hc0 hd1 hd2 hY hX hB
        go_wp2_with fail
        clear v0 v1 v2
        by_cases d1 : vk = c
        · subst d1
          refine Reg.start (fun w' => w'.cell? ⟨wr.heap.size, 0, none⟩ = some (.int .i64 vk) ∧ w'.cell? ⟨wr.heap.size, 1, none⟩ = some (.int .i64 vn) ∧ w'.cell? ⟨wr.heap.size, 2, none⟩ = some (.string vs) ∧ w'.cell? ⟨w.heap.size, 0, none⟩ = some (.slice (some ad) tables.length tcap) ∧ w'.cell? (ad.add m) = some (.slice (some cd) cols.length ccap) ∧ w'.cell? (cd.add k) = some (.int .i64 vk)) (fun i => false) (by kernel_rfl) ⟨Y.out.cell rfl, Y.out.cell rfl, Y.out.cell rfl, X1.out.cell rfl, Z.out _ B1.out, C0.out _ B1.out⟩ (fun hHeld => ?_)
          generalize (wr.alloc (.cells #[.int .i64 vk, .int .i64 vn, .string vs] 81)).drew = wd at *
          refine Reg.takeI 0 (v := ?_) rfl (by kernel_rfl) (by kernel_rfl) (by kernel_rfl) (by kernel_rfl) (fun _ _ _ h => h) (by rfl) ?_ hHeld ?_
          rotate_left 1
          · (intro w hSw; (try dsimp only at hSw); go_simp; try with_reducible rfl)
          try simp only [Act.put, List.setIfInBounds_toArray, List.set_cons_zero, List.set_cons_succ]
          refine Reg.takeI 1 (v := ?_) rfl (by kernel_rfl) (by kernel_rfl) (by kernel_rfl) (by kernel_rfl) (fun _ _ _ h => h) (by rfl) ?_ hHeld ?_
          rotate_left 1
          · (intro w hSw; (try dsimp only at hSw); go_simp; try with_reducible rfl)
          try simp only [Act.put, List.setIfInBounds_toArray, List.set_cons_zero, List.set_cons_succ]
          refine Reg.takeI 2 (v := ?_) rfl (by kernel_rfl) (by kernel_rfl) (by kernel_rfl) (by kernel_rfl) (fun _ _ _ h => h) (by rfl) ?_ hHeld ?_
          rotate_left 1
          · (intro w hSw; (try dsimp only at hSw); go_simp; try with_reducible rfl)
          try simp only [Act.put, List.setIfInBounds_toArray, List.set_cons_zero, List.set_cons_succ]
          refine Reg.takeI 3 (v := ?_) rfl (by kernel_rfl) (by kernel_rfl) (by kernel_rfl) (by kernel_rfl) (fun _ _ _ h => h) (by rfl) ?_ hHeld ?_
          rotate_left 1
          · (intro w hSw; (try dsimp only at hSw); go_simp; try with_reducible rfl)
          try simp only [Act.put, List.setIfInBounds_toArray, List.set_cons_zero, List.set_cons_succ]
          refine Reg.takeI 4 (v := ?_) rfl (by kernel_rfl) (by kernel_rfl) (by kernel_rfl) (by kernel_rfl) (fun _ _ _ h => h) (by rfl) ?_ hHeld ?_
          rotate_left 1
          · (intro w hSw; (try dsimp only at hSw); go_simp; try with_reducible rfl)
          try simp only [Act.put, List.setIfInBounds_toArray, List.set_cons_zero, List.set_cons_succ]
          refine Reg.takeI 5 (v := ?_) rfl (by kernel_rfl) (by kernel_rfl) (by kernel_rfl) (by kernel_rfl) (fun _ _ _ h => h) (by rfl) ?_ hHeld ?_
          rotate_left 1
          · (intro w hSw; (try dsimp only at hSw); go_simp; try with_reducible rfl)
          try simp only [Act.put, List.setIfInBounds_toArray, List.set_cons_zero, List.set_cons_succ]
          refine Reg.takeI 6 (v := ?_) rfl (by kernel_rfl) (by kernel_rfl) (by kernel_rfl) (by kernel_rfl) (fun _ _ _ h => h) (by rfl) ?_ hHeld ?_
          rotate_left 1
          · (intro w hSw; (try dsimp only at hSw); go_simp; try with_reducible rfl)
          try simp only [Act.put, List.setIfInBounds_toArray, List.set_cons_zero, List.set_cons_succ]
          refine Reg.takeI 7 (v := ?_) rfl (by kernel_rfl) (by kernel_rfl) (by kernel_rfl) (by kernel_rfl) (fun _ _ _ h => h) (by rfl) ?_ hHeld ?_
          rotate_left 1
          · (intro w hSw; (try dsimp only at hSw); go_simp; try with_reducible rfl)
          try simp only [Act.put, List.setIfInBounds_toArray, List.set_cons_zero, List.set_cons_succ]
          refine Reg.takeI 8 (v := ?_) rfl (by kernel_rfl) (by kernel_rfl) (by kernel_rfl) (by kernel_rfl) (fun _ _ _ h => h) (by rfl) ?_ hHeld ?_
          rotate_left 1
          · (intro w hSw; (try dsimp only at hSw); go_simp; try with_reducible rfl)
          try simp only [Act.put, List.setIfInBounds_toArray, List.set_cons_zero, List.set_cons_succ]
          refine Reg.takeI 9 (v := ?_) rfl (by kernel_rfl) (by kernel_rfl) (by kernel_rfl) (by kernel_rfl) (fun _ _ _ h => h) (by rfl) ?_ hHeld ?_
          rotate_left 1
          · (intro w hSw; (try dsimp only at hSw); go_simp; try with_reducible rfl)
          try simp only [Act.put, List.setIfInBounds_toArray, List.set_cons_zero, List.set_cons_succ]
          refine Reg.takeI 10 (v := ?_) rfl (by kernel_rfl) (by kernel_rfl) (by kernel_rfl) (by kernel_rfl) (fun _ _ _ h => h) (by rfl) ?_ hHeld ?_
          rotate_left 1
          · (intro w hSw; (try dsimp only at hSw); go_simp; try with_reducible rfl)
          try simp only [Act.put, List.setIfInBounds_toArray, List.set_cons_zero, List.set_cons_succ]
          refine Reg.takeI 11 (v := ?_) rfl (by kernel_rfl) (by kernel_rfl) (by kernel_rfl) (by kernel_rfl) (fun _ _ _ h => h) (by rfl) ?_ hHeld ?_
          rotate_left 1
          · (intro w hSw; (try dsimp only at hSw); go_simp; try with_reducible rfl)
          try simp only [Act.put, List.setIfInBounds_toArray, List.set_cons_zero, List.set_cons_succ]
          refine Reg.takeI 12 (v := ?_) rfl (by kernel_rfl) (by kernel_rfl) (by kernel_rfl) (by kernel_rfl) (fun _ _ _ h => h) (by rfl) ?_ hHeld ?_
          rotate_left 1
          · (intro w hSw; (try dsimp only at hSw); go_simp; try with_reducible rfl)
          try simp only [Act.put, List.setIfInBounds_toArray, List.set_cons_zero, List.set_cons_succ]
          refine Reg.takeI 13 (v := ?_) rfl (by kernel_rfl) (by kernel_rfl) (by kernel_rfl) (by kernel_rfl) (fun _ _ _ h => h) (by rfl) ?_ hHeld ?_
          rotate_left 1
          · (intro w hSw; (try dsimp only at hSw); go_simp; try with_reducible rfl)
          try simp only [Act.put, List.setIfInBounds_toArray, List.set_cons_zero, List.set_cons_succ]
          refine Reg.oneI 14 rfl (by kernel_rfl) (by rfl) (fun K hK => ?_)
          go_simp
          go_at_call 144
          refine (G.out _).mono ?_
          rintro e w4 ⟨rfl, k4⟩
          replace Y := Lib.hid (Y.out.below k4 Y.out.lt)
          replace X1 := Lib.hid (X1.out.below k4 X1.out.lt)
          replace B1 := Lib.hid (B1.out.trans (k4.mono B1.out.size))
          clear k4
          go_wp2_with fail
          refine hK.out _ _ (fun _ => ⟨Y.out.cell rfl, Y.out.cell rfl, Y.out.cell rfl, X1.out.cell rfl, Z.out _ B1.out, C0.out _ B1.out⟩) (fun hHeld => ?_)
          replace hHeld := hHeld (by first | rfl | trivial)
          clear hK K
          try simp only [Act.put, List.setIfInBounds_toArray, List.set_cons_zero, List.set_cons_succ]
          refine Reg.takeI 15 (v := ?_) rfl (by kernel_rfl) (by kernel_rfl) (by kernel_rfl) (by kernel_rfl) (fun _ _ _ h => h) (by rfl) ?_ hHeld ?_
          rotate_left 1
          · (intro w hSw; (try dsimp only at hSw); go_simp; try with_reducible rfl)
          try simp only [Act.put, List.setIfInBounds_toArray, List.set_cons_zero, List.set_cons_succ]
          refine Reg.takeI 16 (v := ?_) rfl (by kernel_rfl) (by kernel_rfl) (by kernel_rfl) (by kernel_rfl) (fun _ _ _ h => h) (by rfl) ?_ hHeld ?_
          rotate_left 1
          · (intro w hSw; (try dsimp only at hSw); go_simp; try with_reducible rfl)
          try simp only [Act.put, List.setIfInBounds_toArray, List.set_cons_zero, List.set_cons_succ]
          refine Reg.doneI (by kernel_rfl) ?_
          cases gd
          · go_wp2_with fail
            go_ret
            exact ⟨by rw [I2.out]; simp [fitN], B1.out⟩
          · have I3 := Lib.hid (show fitL cols l = fitL (cols.drop (k + 1)) (l.drop (k + 1)) by rw [I2.out]; simp)
            go_wp2_with fail
            exact ⟨⟨k + 1, by omega, by go_num, I3.out, X1.out, B1.out⟩, by simp [intOf]; omega⟩
        · have d1' : (vk != c) = true := by simpa using d1
          have I3 := Lib.hid (show fitL cols l = false by rw [I2.out]; simp [d1])
          clear d1 I2
          refine Reg.start (fun w' => w'.cell? ⟨wr.heap.size, 0, none⟩ = some (.int .i64 vk) ∧ w'.cell? ⟨w.heap.size, 0, none⟩ = some (.slice (some ad) tables.length tcap) ∧ w'.cell? (ad.add m) = some (.slice (some cd) cols.length ccap) ∧ w'.cell? (cd.add k) = some (.int .i64 c)) (fun i => false) (by kernel_rfl) ⟨Y.out.cell rfl, X1.out.cell rfl, Z.out _ B1.out, C0.out _ B1.out⟩ (fun hHeld => ?_)
          generalize (wr.alloc (.cells #[.int .i64 vk, .int .i64 vn, .string vs] 81)).drew = wd at *
          refine Reg.takeI 0 (v := ?_) rfl (by kernel_rfl) (by kernel_rfl) (by kernel_rfl) (by kernel_rfl) (fun _ _ _ h => h) (by rfl) ?_ hHeld ?_
          rotate_left 1
          · (intro w hSw; (try dsimp only at hSw); go_simp; try with_reducible rfl)
          try simp only [Act.put, List.setIfInBounds_toArray, List.set_cons_zero, List.set_cons_succ]
          refine Reg.takeI 1 (v := ?_) rfl (by kernel_rfl) (by kernel_rfl) (by kernel_rfl) (by kernel_rfl) (fun _ _ _ h => h) (by rfl) ?_ hHeld ?_
          rotate_left 1
          · (intro w hSw; (try dsimp only at hSw); go_simp; try with_reducible rfl)
          try simp only [Act.put, List.setIfInBounds_toArray, List.set_cons_zero, List.set_cons_succ]
          refine Reg.takeI 2 (v := ?_) rfl (by kernel_rfl) (by kernel_rfl) (by kernel_rfl) (by kernel_rfl) (fun _ _ _ h => h) (by rfl) ?_ hHeld ?_
          rotate_left 1
          · (intro w hSw; (try dsimp only at hSw); go_simp; try with_reducible rfl)
          try simp only [Act.put, List.setIfInBounds_toArray, List.set_cons_zero, List.set_cons_succ]
          refine Reg.takeI 3 (v := ?_) rfl (by kernel_rfl) (by kernel_rfl) (by kernel_rfl) (by kernel_rfl) (fun _ _ _ h => h) (by rfl) ?_ hHeld ?_
          rotate_left 1
          · (intro w hSw; (try dsimp only at hSw); go_simp; try with_reducible rfl)
          try simp only [Act.put, List.setIfInBounds_toArray, List.set_cons_zero, List.set_cons_succ]
          refine Reg.takeI 4 (v := ?_) rfl (by kernel_rfl) (by kernel_rfl) (by kernel_rfl) (by kernel_rfl) (fun _ _ _ h => h) (by rfl) ?_ hHeld ?_
          rotate_left 1
          · (intro w hSw; (try dsimp only at hSw); go_simp; try with_reducible rfl)
          try simp only [Act.put, List.setIfInBounds_toArray, List.set_cons_zero, List.set_cons_succ]
          refine Reg.takeI 5 (v := ?_) rfl (by kernel_rfl) (by kernel_rfl) (by kernel_rfl) (by kernel_rfl) (fun _ _ _ h => h) (by rfl) ?_ hHeld ?_
          rotate_left 1
          · (intro w hSw; (try dsimp only at hSw); go_simp; try with_reducible rfl)
          try simp only [Act.put, List.setIfInBounds_toArray, List.set_cons_zero, List.set_cons_succ]
          refine Reg.takeI 6 (v := ?_) rfl (by kernel_rfl) (by kernel_rfl) (by kernel_rfl) (by kernel_rfl) (fun _ _ _ h => h) (by rfl) ?_ hHeld ?_
          rotate_left 1
          · (intro w hSw; (try dsimp only at hSw); go_simp; try with_reducible rfl)
          try simp only [Act.put, List.setIfInBounds_toArray, List.set_cons_zero, List.set_cons_succ]
          refine Reg.takeI 7 (v := ?_) rfl (by kernel_rfl) (by kernel_rfl) (by kernel_rfl) (by kernel_rfl) (fun _ _ _ h => h) (by rfl) ?_ hHeld ?_
          rotate_left 1
          · (intro w hSw; (try dsimp only at hSw); go_simp; try with_reducible rfl)
          try simp only [Act.put, List.setIfInBounds_toArray, List.set_cons_zero, List.set_cons_succ]
          refine Reg.takeI 8 (v := ?_) rfl (by kernel_rfl) (by kernel_rfl) (by kernel_rfl) (by kernel_rfl) (fun _ _ _ h => h) (by rfl) ?_ hHeld ?_
          rotate_left 1
          · (intro w hSw; (try dsimp only at hSw); go_simp; try with_reducible rfl)
          try simp only [Act.put, List.setIfInBounds_toArray, List.set_cons_zero, List.set_cons_succ]
          refine Reg.takeI 9 (v := ?_) rfl (by kernel_rfl) (by kernel_rfl) (by kernel_rfl) (by kernel_rfl) (fun _ _ _ h => h) (by rfl) ?_ hHeld ?_
          rotate_left 1
          · (intro w hSw; (try dsimp only at hSw); go_simp; try with_reducible rfl)
          try simp only [Act.put, List.setIfInBounds_toArray, List.set_cons_zero, List.set_cons_succ]
          refine Reg.takeI 10 (v := ?_) rfl (by kernel_rfl) (by kernel_rfl) (by kernel_rfl) (by kernel_rfl) (fun _ _ _ h => h) (by rfl) ?_ hHeld ?_
          rotate_left 1
          · (intro w hSw; (try dsimp only at hSw); go_simp; try with_reducible rfl)
          try simp only [Act.put, List.setIfInBounds_toArray, List.set_cons_zero, List.set_cons_succ]
          refine Reg.takeI 11 (v := ?_) rfl (by kernel_rfl) (by kernel_rfl) (by kernel_rfl) (by kernel_rfl) (fun _ _ _ h => h) (by rfl) ?_ hHeld ?_
          rotate_left 1
          · (intro w hSw; (try dsimp only at hSw); go_simp; try with_reducible rfl)
          try simp only [Act.put, List.setIfInBounds_toArray, List.set_cons_zero, List.set_cons_succ]
          refine Reg.takeI 12 (v := ?_) rfl (by kernel_rfl) (by kernel_rfl) (by kernel_rfl) (by kernel_rfl) (fun _ _ _ h => h) (by rfl) ?_ hHeld ?_
          rotate_left 1
          · (intro w hSw; (try dsimp only at hSw); go_simp; try with_reducible rfl)
          try simp only [Act.put, List.setIfInBounds_toArray, List.set_cons_zero, List.set_cons_succ]
          refine Reg.passI 13 rfl (by kernel_rfl) (by kernel_rfl) (by kernel_rfl) (by kernel_rfl) (fun _ _ _ h => h) (by rfl) hHeld ?_
          try simp only [Act.put, List.setIfInBounds_toArray, List.set_cons_zero, List.set_cons_succ]
          refine Reg.passI 14 rfl (by kernel_rfl) (by kernel_rfl) (by kernel_rfl) (by kernel_rfl) (fun _ _ _ h => h) (by rfl) hHeld ?_
          try simp only [Act.put, List.setIfInBounds_toArray, List.set_cons_zero, List.set_cons_succ]
          refine Reg.passI 15 rfl (by kernel_rfl) (by kernel_rfl) (by kernel_rfl) (by kernel_rfl) (fun _ _ _ h => h) (by rfl) hHeld ?_
          try simp only [Act.put, List.setIfInBounds_toArray, List.set_cons_zero, List.set_cons_succ]
          refine Reg.takeI 16 (v := ?_) rfl (by kernel_rfl) (by kernel_rfl) (by kernel_rfl) (by kernel_rfl) (fun _ _ _ h => h) (by rfl) ?_ hHeld ?_
          rotate_left 1
          · (intro w hSw; (try dsimp only at hSw); go_simp; try with_reducible rfl)
          try simp only [Act.put, List.setIfInBounds_toArray, List.set_cons_zero, List.set_cons_succ]
          refine Reg.doneI (by kernel_rfl) ?_
          go_wp2_with fail
          go_ret
          exact ⟨by rw [I3.out]; rfl, B1.out⟩
      · obtain rfl : k = l.length := by omega
        have I3 : fitL cols l = true := by rw [I.out, List.drop_length, C4.out, List.drop_length]; rfl
        have I3 := Lib.hid I3
        go_wp2_with fail
        go_ret
        exact ⟨by rw [I3.out]; rfl, hB.out⟩
  · have c4' : ((l.length : Int) != (cols.length : Int)) = true := by simp; omega
    have I3 : fitL cols l = false := by
      rw [Bool.eq_false_iff]
      intro hh
      exact c4 (fitL_len _ _ hh)
    rw [I3]
    go_enter Try.func97, Try.ntmps97
    go_wp2_with fail
    go_ret
    exact ⟨rfl, HB.out⟩

def noE : Value := .agg #[.string ⟨#[]⟩, .string ⟨#[]⟩, .bool false]
def entV (k v : List UInt8) : Value := .agg #[.string (bs k), .string (bs v), .bool false]
/-- A row's entry: its key's bytes, the others' bytes. -/
def rowKey (l : List V) : List UInt8 := (codes l).take 9
def rowVal (l : List V) : List UInt8 := (codes l).drop 9
def EntPost (o : Option (List V)) (e : Ending) : Prop := match o with
  | some l => e = .returned (.tuple #[entV (rowKey l) (rowVal l), .int .i64 0])
  | none => e = .returned (.tuple #[noE, .int .i64 1])
def Pl.ent (p : Pl) (n : Int) (l : List V) : Option (List V) := if p.fit n l = true ∧ l.length ≤ 4 ∧ 1 ≤ l.length then some l else none

set_option maxHeartbeats 2000000 in
theorem entry_calls (p : Pl) (n : Int) (l : List V) (ra : Option Addr) (rcap : Nat) (w : World) (h : HasP w p) (hV : Vs w ra l) (hf : ∀ v ∈ l, v.fits) (hl : l.length ≤ 9223372036854775807) (h1 : 1 ≤ l.length ∨ p.fit n l = false) :
    Calls Try.prog 37 #[.agg #[.slice p.ta p.tables.length p.tcap, .slice p.va p.views.length p.vcap], .int .i64 n, .slice ra l.length rcap] w fun e w' => EntPost (p.ent n l) e ∧ Below w.heap.size w w' := by
  have hX : Row (w.alloc (.cells #[.slice p.ta p.tables.length p.tcap, .slice p.va p.views.length p.vcap] 67)) w.heap.size 67 [.slice p.ta p.tables.length p.tcap, .slice p.va p.views.length p.vcap] := Wide.new_at rfl
  have hb : Below w.heap.size w (w.alloc (.cells #[.slice p.ta p.tables.length p.tcap, .slice p.va p.views.length p.vcap] 67)) := (Below.refl _ _).alloc (Nat.le_refl _) _
  have X0 := hX.alloc (.cells #[.string ⟨#[]⟩, .string ⟨#[]⟩, .bool false] 70)
  have hb2 := hb.alloc hb.size (.cells #[.string ⟨#[]⟩, .string ⟨#[]⟩, .bool false] 70)
  have Z0 : Row ((w.alloc (.cells #[.slice p.ta p.tables.length p.tcap, .slice p.va p.views.length p.vcap] 67)).alloc (.cells #[.string ⟨#[]⟩, .string ⟨#[]⟩, .bool false] 70)) (w.heap.size + 1) 70 [.string ⟨#[]⟩, .string ⟨#[]⟩, .bool false] := Wide.new_at (by simp)
  have x0 := X0.cell (i := 0) rfl
  have x1 := X0.cell (i := 1) rfl
  have F1 := Lib.hid (fits_calls p n l ra rcap _ (h.keep hb2) (hV.keep hb2) hl)
  have HV := Lib.hid hV
  have Z := Lib.hid Z0
  have B := Lib.hid hb2
  obtain ⟨C, hC⟩ : ∃ C, p.fit n l = C := ⟨_, rfl⟩
  rw [hC] at F1 h1
  have HC := Lib.hid hC
  clear hX hb X0 hb2 Z0 hC h hV
  go_enter Try.func37, Try.ntmps37
  go_wp2_with fail
  clear x0 x1
  refine F1.out.mono ?_
  rintro e w1 ⟨rfl, k1⟩
  have Z1 := Lib.hid (Z.out.below k1 Z.out.lt)
  have B1 := Lib.hid (B.out.trans (k1.mono B.out.size))
  clear k1 F1 Z B
  have z0 := Z1.out.cell (i := 0) rfl
  have z1 := Z1.out.cell (i := 1) rfl
  have z2 := Z1.out.cell (i := 2) rfl
  have f0 := Z1.out.frozen 0 (by simp)
  have f1 := Z1.out.frozen 1 (by simp)
  have f2 := Z1.out.frozen 2 (by simp)
  cases C
  · have hno : p.ent n l = none := by unfold Pl.ent; rw [if_neg]; intro hh; rw [HC.out] at hh; exact absurd hh.1 (by simp)
    have e1 : fitN false = 1 := rfl
    rw [e1]
    have HNO := Lib.hid hno
    clear hno
    have R := (((Z1.out.set 0 (.string ⟨#[]⟩)).set 1 (.string ⟨#[]⟩)).set 2 (.bool false)).cast (cs' := [.string ⟨#[]⟩, .string ⟨#[]⟩, .bool false]) rfl
    have BF := ((B1.out.setCell (p := ⟨w.heap.size + 1, 0, none⟩) (by show w.heap.size ≤ w.heap.size + 1; omega) (.string ⟨#[]⟩)).setCell (p := ⟨w.heap.size + 1, 1, none⟩) (by show w.heap.size ≤ w.heap.size + 1; omega) (.string ⟨#[]⟩)).setCell (p := ⟨w.heap.size + 1, 2, none⟩) (by show w.heap.size ≤ w.heap.size + 1; omega) (.bool false)
    have R := Lib.hid R
    have BF := Lib.hid BF
    go_wp2_with fail
    exact ret_row2 R.out Try.results37 Try.underlying70 rfl (by kernel_rfl) rfl rfl ⟨by rw [HNO.out]; rfl, BF.out⟩
  · have e1 : fitN true = 0 := rfl
    have hgl := fitL_good _ l (show fitL (colsOf p.tables n) l = true by have := HC.out; unfold Pl.fit at this; rw [Bool.and_eq_true] at this; exact this.2)
    have RW := Lib.hid (row_calls l ra rcap w1 (HV.out.keep B1.out) hf hl)
    rw [e1]
    by_cases h4 : l.length ≤ 4
    · have hl1 : 1 ≤ l.length := by rcases h1 with h | h; exact h; cases h
      have hyes : p.ent n l = some l := by unfold Pl.ent; rw [if_pos ⟨HC.out, h4, hl1⟩]
      have hro : rowOut l = (codes l, 0) := rowOut_some (rowV_all h4 hgl)
      rw [hro] at RW
      have hcl := codes_length hgl
      have hrk : (bs (codes l)).extract 0 9 = bs (rowKey l) := by rw [extract_take, bs_data]; rfl
      have hrv : (bs (codes l)).extract 9 (bs (codes l)).size = bs (rowVal l) := by rw [extract_drop, bs_data]; rfl
      have hsz : (bs (codes l)).size = 9 * l.length := hcl
      rw [hsz] at hrv
      have i9 : (9 : Int) ≤ ((bs (codes l)).size : Int) := by rw [hsz]; omega
      have HY := Lib.hid hyes
      have i9b : (9 : Int) ≤ 9 * (l.length : Int) := by omega
      obtain ⟨L, hL⟩ : ∃ L, bs (codes l) = L := ⟨_, rfl⟩
      simp only at RW
      rw [hL] at RW hrk hrv hsz i9
      obtain ⟨K, hK⟩ : ∃ K, bs (rowKey l) = K := ⟨_, rfl⟩
      obtain ⟨U, hU⟩ : ∃ U, bs (rowVal l) = U := ⟨_, rfl⟩
      rw [hK] at hrk
      rw [hU] at hrv
      have HKU := Lib.hid (And.intro hK hU)
      clear hK hU hL hyes hro hcl z0 z1 z2 f0 f1 f2 hgl e1 h1
      go_wp2_with fail
      refine RW.out.mono ?_
      rintro e w2 ⟨rfl, k2⟩
      have Z2 := Lib.hid (Z1.out.below k2 Z1.out.lt).drew
      have B2 := Lib.hid (B1.out.trans (k2.mono B1.out.size)).drew
      clear k2 Z1 B1
      go_wp2_with fail
      refine Reg.start (fun _ => True) (fun i => i == 5 || i == 6) (by kernel_rfl) trivial (fun hHeld => ?_)
      generalize w2.drew = wd at *
      refine Reg.takeI 0 (v := ?_) rfl (by kernel_rfl) (by kernel_rfl) (by kernel_rfl) (by kernel_rfl) (fun _ _ _ h => h) (by rfl) ?_ hHeld ?_
      rotate_left 1
      · (intro w hSw; (try dsimp only at hSw); go_simp; try with_reducible rfl)
      try simp only [Act.put, List.setIfInBounds_toArray, List.set_cons_zero, List.set_cons_succ]
      refine Reg.takeI 1 (v := ?_) rfl (by kernel_rfl) (by kernel_rfl) (by kernel_rfl) (by kernel_rfl) (fun _ _ _ h => h) (by rfl) ?_ hHeld ?_
      rotate_left 1
      · (intro w hSw; (try dsimp only at hSw); go_simp; try with_reducible rfl)
      try simp only [Act.put, List.setIfInBounds_toArray, List.set_cons_zero, List.set_cons_succ]
      refine Reg.takeI 2 (v := ?_) rfl (by kernel_rfl) (by kernel_rfl) (by kernel_rfl) (by kernel_rfl) (fun _ _ _ h => h) (by rfl) ?_ hHeld ?_
      rotate_left 1
      · (intro w hSw; (try dsimp only at hSw); go_simp; try with_reducible rfl)
      try simp only [Act.put, List.setIfInBounds_toArray, List.set_cons_zero, List.set_cons_succ]
      refine Reg.takeI 3 (v := ?_) rfl (by kernel_rfl) (by kernel_rfl) (by kernel_rfl) (by kernel_rfl) (fun _ _ _ h => h) (by rfl) ?_ hHeld ?_
      rotate_left 1
      · (intro w hSw; (try dsimp only at hSw); go_simp; try with_reducible rfl)
      try simp only [Act.put, List.setIfInBounds_toArray, List.set_cons_zero, List.set_cons_succ]
      refine Reg.takeI 4 (v := ?_) rfl (by kernel_rfl) (by kernel_rfl) (by kernel_rfl) (by kernel_rfl) (fun _ _ _ h => h) (by rfl) ?_ hHeld ?_
      rotate_left 1
      · (intro w hSw; (try dsimp only at hSw); go_simp; try with_reducible rfl)
      try simp only [Act.put, List.setIfInBounds_toArray, List.set_cons_zero, List.set_cons_succ]
      refine Reg.oneI 5 rfl (by kernel_rfl) (by rfl) (fun K hK => ?_)
      have z0 := Z2.out.cell (i := 0) rfl
      have z1 := Z2.out.cell (i := 1) rfl
      have z2 := Z2.out.cell (i := 2) rfl
      have f0 := Z2.out.frozen 0 (by simp)
      have f1 := Z2.out.frozen 1 (by simp)
      have f2 := Z2.out.frozen 2 (by simp)
      go_simp
      clear z0 z1 z2 f0 f1 f2
      refine hK.out _ _ (fun h => by cases h) (fun _ => ?_)
      clear hK K
      try simp only [Act.put, List.setIfInBounds_toArray, List.set_cons_zero, List.set_cons_succ]
      refine Reg.oneI 6 rfl (by kernel_rfl) (by rfl) (fun K hK => ?_)
      go_simp
      refine hK.out _ _ (fun h => by cases h) (fun _ => ?_)
      clear hK K
      try simp only [Act.put, List.setIfInBounds_toArray, List.set_cons_zero, List.set_cons_succ]
      refine Reg.doneI (by kernel_rfl) ?_
      have R := (((Z2.out.set 0 (.string K)).set 1 (.string U)).set 2 (.bool false)).cast (cs' := [.string K, .string U, .bool false]) rfl
      have BF := ((B2.out.setCell (p := ⟨w.heap.size + 1, 0, none⟩) (by show w.heap.size ≤ w.heap.size + 1; omega) (.string K)).setCell (p := ⟨w.heap.size + 1, 1, none⟩) (by show w.heap.size ≤ w.heap.size + 1; omega) (.string U)).setCell (p := ⟨w.heap.size + 1, 2, none⟩) (by show w.heap.size ≤ w.heap.size + 1; omega) (.bool false)
      have R := Lib.hid R
      have BF := Lib.hid BF
      go_wp2_with fail
      exact ret_row2 R.out Try.results37 Try.underlying70 rfl (by kernel_rfl) rfl rfl ⟨by rw [HY.out]; show _ = Ending.returned (.tuple #[entV (rowKey l) (rowVal l), .int .i64 0]); unfold entV; rw [HKU.out.1, HKU.out.2]; rfl, BF.out⟩
    · have hno : p.ent n l = none := by unfold Pl.ent; rw [if_neg]; intro hh; exact h4 hh.2.1
      have HNO := Lib.hid hno
      have hro : rowOut l = ([], 1) := rowOut_none (by unfold rowV; rw [if_neg (fun hh => h4 hh.1)])
      rw [hro] at RW
      clear hno hro z0 z1 z2 f0 f1 f2 e1
      go_wp2_with fail
      refine RW.out.mono ?_
      rintro e w2 ⟨rfl, k2⟩
      have Z2 := Lib.hid (Z1.out.below k2 Z1.out.lt)
      have B2 := Lib.hid (B1.out.trans (k2.mono B1.out.size))
      clear k2 Z1 B1
      have z0 := Z2.out.cell (i := 0) rfl
      have z1 := Z2.out.cell (i := 1) rfl
      have z2 := Z2.out.cell (i := 2) rfl
      have f0 := Z2.out.frozen 0 (by simp)
      have f1 := Z2.out.frozen 1 (by simp)
      have f2 := Z2.out.frozen 2 (by simp)
      have R := (((Z2.out.set 0 (.string ⟨#[]⟩)).set 1 (.string ⟨#[]⟩)).set 2 (.bool false)).cast (cs' := [.string ⟨#[]⟩, .string ⟨#[]⟩, .bool false]) rfl
      have BF := ((B2.out.setCell (p := ⟨w.heap.size + 1, 0, none⟩) (by show w.heap.size ≤ w.heap.size + 1; omega) (.string ⟨#[]⟩)).setCell (p := ⟨w.heap.size + 1, 1, none⟩) (by show w.heap.size ≤ w.heap.size + 1; omega) (.string ⟨#[]⟩)).setCell (p := ⟨w.heap.size + 1, 2, none⟩) (by show w.heap.size ≤ w.heap.size + 1; omega) (.bool false)
      have R := Lib.hid R
      have BF := Lib.hid BF
      go_wp2_with fail
      exact ret_row2 R.out Try.results37 Try.underlying70 rfl (by kernel_rfl) rfl rfl ⟨by rw [HNO.out]; rfl, BF.out⟩
end Go.Proofs.Ytcfjooeagfollaa.Plan
