/- The law BillBack: scripts there and back. -/
import Derived.Test.YtcfjooeagfollaaBillJ
namespace Go.Proofs.Ytcfjooeagfollaa.Bill
open Go.RowKit Go.Proofs.Ytcfjooeagfollaa.Mem Go.Proofs.Ytcfjooeagfollaa.Bytes Go.Proofs.Ytcfjooeagfollaa.Num Go.Proofs.Ytcfjooeagfollaa.Sign
set_option linter.unusedSimpArgs false
set_option linter.unusedVariables false
set_option maxRecDepth 20000

/-- An element of a row is loaded, in whatever world. -/
theorem exec_els {P : Program} {o : Oper} {a : Act} {w0 w : World} {α : Type} {enc : α → List Value} {sz : Nat} {ad : Addr} {l : List α} (hE : Els enc sz w0 (some ad) l) (hb : Below w0.heap.size w0 w) (i : Nat) (hi : i < l.length) (x : α) (hx : l[i] = x) (ty : TypeId) {d : TypeDesc} (hu : P.underlying ty = some d) (hd : d.isRow = true) (hs : (P.info? ty).map (·.size) = some (enc x).length)
    {y : Operand} (ho : o.op = .load ty y) (hy : a.eval y = .pointer (some (ad.add (i * sz)))) : (execOp a.eval o).run P w = .ok (.value (.agg (enc x).toArray)) w := by
  subst hx
  obtain ⟨ad', e, _, hc⟩ := hE i hi
  cases e
  have hl : (loadCells (ad.add (i * sz)) (enc l[i]).length).run P w = .ok (enc l[i]).toArray w :=
    run_loadCells_list (P := P) w _ _ (fun j v hv => by rw [add_two]; exact hc w hb j v hv)
  have hv : (loadVar ty (ad.add (i * sz))).run P w = .ok (.agg (enc l[i]).toArray) w := by
    cases hq : P.info? ty with
    | none => simp [hq] at hs
    | some i0 =>
      have hs' : i0.size = (enc l[i]).length := by simpa [hq] using hs
      have hagg : (isAgg ty).run P w = .ok true w := by
        unfold isAgg
        rw [Sem.run_bind, run_underlying hu w]
        cases d <;> simp_all
      simp [loadVar, Sem.run_bind, hagg, sizeOf, typeInfo, hq, hs', hl]
  unfold execOp
  simp only [ho, hy, Instr.loadAt, Instr.sureAddr, Sem.run_bind, Sem.run_pure, Result.andThen_ok, hv]
theorem strip_eq {x y : Mv} (h : x.strip = y.strip) : y = x.at y.w.ra y.w.rc := by
  obtain ⟨k, n, a, ⟨wk, wt, key, high, ra, rc, row, c, val, wn⟩, p, q⟩ := x
  obtain ⟨k', n', a', ⟨wk', wt', key', high', ra', rc', row', c', val', wn'⟩, p', q'⟩ := y
  unfold Mv.strip Mv.at at h
  simp only [Mv.mk.injEq, Wsh.mk.injEq] at h
  obtain ⟨rfl, rfl, rfl, ⟨rfl, rfl, rfl, rfl, _, _, rfl, rfl, rfl, rfl⟩, rfl, rfl⟩ := h
  rfl
theorem out_two (l : List Mv) : (bytesOut l).2 = 0 ∨ (bytesOut l).2 = 1 := by
  unfold bytesOut
  split
  · exact .inl rfl
  · exact .inr rfl
set_option maxHeartbeats 8000000 in
theorem back_calls (la lb : List Mv) (aa ab : Option Addr) (ca cb : Nat) (s : ByteArray) (w : World) (hA : Els Mv.cells 19 w aa la) (hAM : ∀ m ∈ la, MIn w m) (hB : Els Mv.cells 19 w ab lb) (hBM : ∀ m ∈ lb, MIn w m) (hla : la.length ≤ 9223372036854775807) (hlb : lb.length ≤ 9223372036854775807) (hs : s.size ≤ 140737488351232) :
    Calls Try.prog 8 #[.slice aa la.length ca, .slice ab lb.length cb, .string s] w fun e w' => e = .returned (.bool true) ∧ Below w.heap.size w w' := by
  have EA := Lib.hid hA
  have EB := Lib.hid hB
  have MA := Lib.hid hAM
  have MB := Lib.hid hBM
  have AW := Lib.hid awake_calls
  clear hA hB hAM hBM
  go_enter Try.func8, Try.ntmps8
  go_wp2_with fail
  refine (AW.out _).mono ?_
  rintro e w1 ⟨rfl, k1⟩
  have B := Lib.hid k1
  clear k1 AW
  by_cases c1 : 20 < la.length
  · have c1' : (20 : Int) < (la.length : Int) := by omega
    go_wp2_with fail
    go_ret
    exact ⟨rfl, B.out⟩
  have c1' : decide ((20 : Int) < (la.length : Int)) = false := by simp; omega
  by_cases c2 : 20 < lb.length
  · have c2' : (20 : Int) < (lb.length : Int) := by omega
    go_wp2_with fail
    go_ret
    exact ⟨rfl, B.out⟩
  have c2' : decide ((20 : Int) < (lb.length : Int)) = false := by simp; omega
  by_cases c3 : 1024 < s.size
  · have c3' : (1024 : Int) < (s.size : Int) := by omega
    go_wp2_with fail
    go_ret
    exact ⟨rfl, B.out⟩
  have c3' : decide ((1024 : Int) < (s.size : Int)) = false := by simp; omega
  go_wp2_with fail
  clear c1' c2' c3'
  go_loopw [7] (fun i wr => ∃ j : Nat, j ≤ la.length ∧ i = .int .i64 (j : Int) ∧ (∀ m ∈ la.take j, m.w.row.length ≤ 8) ∧ Below w.heap.size w wr) (fun i _ => la.length - (intOf i).toNat)
  case atStart => exact ⟨0, by omega, rfl, fun m hm => by simp at hm, B.out⟩
  case round =>
    clear B
    obtain ⟨j, hj, rfl, hg, hb⟩ := hrel
    have B := Lib.hid hb
    have G := Lib.hid hg
    clear hb hg
    by_cases hlt : j < la.length
    · have hlt' : (j : Int) < (la.length : Int) := by omega
      obtain ⟨ad, rfl, _, _⟩ := EA.out j hlt
      have hmem := List.getElem_mem hlt
      have htk := List.take_succ_eq_append_getElem hlt
      obtain ⟨m, hmm⟩ : ∃ m, la[j] = m := ⟨_, rfl⟩
      rw [hmm] at hmem htk
      have HMM := Lib.hid hmm
      have TK := Lib.hid htk
      obtain ⟨hV, hf, hr⟩ := MA.out m hmem
      have GC := Lib.hid (fun wx (hk : Below w.heap.size w wx) => great_calls m wx (hV.keep hk) hr)
      clear hmm htk hmem hV hf hr
      go_wp2_with (refine load_els EA.out B.out j hlt m HMM.out 94 Try.underlying94 rfl (by kernel_rfl) rfl rfl rfl ?_)
      refine (GC.out _ B.out).mono ?_
      rintro e w2 ⟨⟨g, rfl, hg8⟩, k2⟩
      have B2 := Lib.hid (B.out.trans (k2.mono B.out.size))
      have G8 := Lib.hid hg8
      clear k2 hg8 GC
      cases g
      · go_wp2_with fail
        exact ⟨⟨j + 1, by omega, by go_num, fun x hx => by
          rw [TK.out] at hx
          rcases List.mem_append.1 hx with hx | hx
          · exact G.out x hx
          · rw [List.mem_singleton.1 hx]; exact G8.out (by first | rfl | trivial), B2.out⟩, by simp [intOf]; omega⟩
      · go_wp2_with fail
        go_ret
        exact ⟨rfl, B2.out⟩
    · obtain rfl : j = la.length := by omega
      have GA := Lib.hid (fun m hm => G.out m (by rw [List.take_length]; exact hm))
      clear G
      go_wp2_with fail
      go_loopw [8] (fun i wr => ∃ j : Nat, j ≤ lb.length ∧ i = .int .i64 (j : Int) ∧ (∀ m ∈ lb.take j, m.w.row.length ≤ 8) ∧ Below w.heap.size w wr) (fun i _ => lb.length - (intOf i).toNat)
      case atStart => exact ⟨0, by omega, rfl, fun m hm => by simp at hm, B.out⟩
      case round =>
        clear B
        obtain ⟨j, hj, rfl, hg, hb⟩ := hrel
        have B := Lib.hid hb
        have G := Lib.hid hg
        clear hb hg
        by_cases hlt : j < lb.length
        · have hlt' : (j : Int) < (lb.length : Int) := by omega
          obtain ⟨ad, rfl, _, _⟩ := EB.out j hlt
          have hmem := List.getElem_mem hlt
          have htk := List.take_succ_eq_append_getElem hlt
          obtain ⟨m, hmm⟩ : ∃ m, lb[j] = m := ⟨_, rfl⟩
          rw [hmm] at hmem htk
          have HMM := Lib.hid hmm
          have TK := Lib.hid htk
          obtain ⟨hV, hf, hr⟩ := MB.out m hmem
          have GC := Lib.hid (fun wx (hk : Below w.heap.size w wx) => great_calls m wx (hV.keep hk) hr)
          clear hmm htk hmem hV hf hr
          go_wp2_with (refine load_els EB.out B.out j hlt m HMM.out 94 Try.underlying94 rfl (by kernel_rfl) rfl rfl rfl ?_)
          refine (GC.out _ B.out).mono ?_
          rintro e w2 ⟨⟨g, rfl, hg8⟩, k2⟩
          have B2 := Lib.hid (B.out.trans (k2.mono B.out.size))
          have G8 := Lib.hid hg8
          clear k2 hg8 GC
          cases g
          · go_wp2_with fail
            exact ⟨⟨j + 1, by omega, by go_num, fun x hx => by
              rw [TK.out] at hx
              rcases List.mem_append.1 hx with hx | hx
              · exact G.out x hx
              · rw [List.mem_singleton.1 hx]; exact G8.out (by first | rfl | trivial), B2.out⟩, by simp [intOf]; omega⟩
          · go_wp2_with fail
            go_ret
            exact ⟨rfl, B2.out⟩
        · obtain rfl : j = lb.length := by omega
          have GB := Lib.hid (fun m hm => G.out m (by rw [List.take_length]; exact hm))
          clear G
          go_wp2_with fail
          have RC := Lib.hid (fun wx => read_calls s wx (by omega))
          refine (RC.out _).mono ?_
          rintro e w5 ⟨⟨ls, ra, rcap, rfl, hE, hV, hst, hn⟩, k5⟩
          have B5 := Lib.hid (B.out.trans (k5.mono B.out.size))
          have EL := Lib.hid hE
          have VL := Lib.hid hV
          have RO := read_out hst
          have RP := read_props hst
          obtain ⟨N, hN⟩ : ∃ N, (rd 400 s.data.toList).2.length = N := ⟨_, rfl⟩
          rw [hN] at RO hn ⊢
          have hl5 : ls.length ≤ 400 := RP.1
          have BC := bytes_calls ls ra rcap _ hE (fun m hm => ⟨hV m hm, (RP.2.1 m hm).2.1.1, by have := (RP.2.1 m hm).2.2; omega⟩) (by omega)
          rw [RO] at BC
          have BCH := Lib.hid BC
          have RPH := Lib.hid RP
          clear k5 hE hV hst hN RC BC RO RP
          obtain ⟨n0, hn0⟩ : ∃ n0 : Nat, (s.size : Int) - (N : Int) = (n0 : Int) := ⟨s.size - N, by omega⟩
          have hn0' : s.size - N = n0 := by omega
          have hle : n0 ≤ s.size := by omega
          have hle' : (n0 : Int) ≤ (s.size : Int) := by omega
          rw [hn0]
          have hsl : s.data.toList.length = s.size := rfl
          rw [hsl, hn0'] at BCH
          have x1 := extract_take s n0
          have d1 : decide ((n0 : Int) < 0) = false := by simp
          have d2 : decide ((s.size : Int) < (n0 : Int)) = false := by simp; omega
          clear hn0 hn0' hn hsl
          go_wp2_with fail
          refine BCH.out.mono ?_
          rintro e w6 ⟨rfl, k6⟩
          have B6 := Lib.hid (B5.out.trans (k6.mono B5.out.size))
          clear k6 BCH
          go_wp2_with fail
          have BA := bytes_calls la aa ca _ (EA.out.keep B6.out) (fun m hm => ⟨(MA.out m hm).1.keep B6.out, (MA.out m hm).2.1.1, by have := GA.out m hm; omega⟩) hla
          have ta := out_two la
          have oka := fun h => @out_ok la h
          obtain ⟨OA, hOA⟩ : ∃ O, bytesOut la = O := ⟨_, rfl⟩
          rw [hOA] at BA ta oka
          obtain ⟨xa, ea⟩ := OA
          have BAH := Lib.hid BA
          have OKA := Lib.hid oka
          have TA := Lib.hid ta
          clear BA hOA oka ta
          refine BAH.out.mono ?_
          rintro e w7 ⟨rfl, k7⟩
          have B7 := Lib.hid (B6.out.trans (k7.mono B6.out.size))
          clear k7 BAH
          go_wp2_with fail
          have BB := bytes_calls lb ab cb _ (EB.out.keep B7.out) (fun m hm => ⟨(MB.out m hm).1.keep B7.out, (MB.out m hm).2.1.1, by have := GB.out m hm; omega⟩) hlb
          have tb := out_two lb
          have okb := fun h => @out_ok lb h
          obtain ⟨OB, hOB⟩ : ∃ O, bytesOut lb = O := ⟨_, rfl⟩
          rw [hOB] at BB tb okb
          obtain ⟨xb, eb⟩ := OB
          have BBH := Lib.hid BB
          have OKB := Lib.hid okb
          have TB := Lib.hid tb
          clear BB hOB okb tb
          refine BBH.out.mono ?_
          rintro e w8 ⟨rfl, k8⟩
          have B8 := Lib.hid (B7.out.trans (k8.mono B7.out.size))
          clear k8 BBH x1 d1 d2
          rcases TA.out with h | h
          rotate_left 1
          · have h : ea = 1 := h
            subst h
            go_wp2_with fail
            go_ret
            exact ⟨rfl, B8.out⟩
          have h : ea = 0 := h
          subst h
          rcases TB.out with h | h
          rotate_left 1
          · have h : eb = 1 := h
            subst h
            go_wp2_with fail
            go_ret
            exact ⟨rfl, B8.out⟩
          have h : eb = 0 := h
          subst h
          obtain ⟨_, ga, hx1⟩ := OKA.out rfl
          obtain ⟨_, gb, hx2⟩ := OKB.out rfl
          have hxa : xa = la.flatMap Mv.bytes := hx1
          have hxb : xb = lb.flatMap Mv.bytes := hx2
          clear hx1 hx2
          have za : xa.length ≤ 200000 := by
            have := flat_le la (fun m hm => by have := GA.out m hm; omega)
            rw [hxa]
            omega
          have zb : xb.length ≤ 200000 := by
            have := flat_le lb (fun m hm => by have := GB.out m hm; omega)
            rw [hxb]
            omega
          have hrd : rd 400 (xa ++ xb) = ((la ++ lb).map Mv.strip, []) := by
            rw [hxa, hxb]
            exact two_scripts (fun m hm => ⟨ga m hm, (MA.out m hm).2.1⟩) (fun m hm => ⟨gb m hm, (MB.out m hm).2.1⟩) (by omega)
          have hq : ¬ 9223372036854775807 < (bs xa).size + (bs xb).size := by rw [bs_size, bs_size]; omega
          have RC := read_calls (bs xa ++ bs xb)
          have hdd : (bs xa ++ bs xb).data.toList = xa ++ xb := by rw [bs_append, bs_data]
          have hzz : (bs xa ++ bs xb).size = xa.length + xb.length := by rw [bs_append, bs_size, List.length_append]
          rw [hdd, hrd, hzz] at RC
          have RCH := Lib.hid (fun wx => RC wx (by omega))
          clear hrd hdd hzz RC hxa hxb ga gb
          go_wp2_with fail
          refine (RCH.out _).mono ?_
          rintro e w9 ⟨⟨lm, ma, mcap, rfl, hE, hV, hst, hn⟩, k9⟩
          have B9 := Lib.hid (B8.out.trans (k9.mono B8.out.size))
          have EM := Lib.hid hE
          have VM := Lib.hid hV
          have hst2 : lm.map Mv.strip = (la ++ lb).map Mv.strip := hst
          have hll : lm.length = la.length + lb.length := by
            have := congrArg List.length hst2
            simpa using this
          have ST := Lib.hid hst2
          have LL := Lib.hid hll
          have XR := Lib.hid (fun x (hx : x ∈ lm) => (show x.w.row.length ≤ 9223372036854775807 from by
            have h1 := List.mem_map_of_mem (f := Mv.strip) hx
            rw [hst2] at h1
            obtain ⟨y, hy, hyx⟩ := List.mem_map.1 h1
            have e : y.w.row = x.w.row := by rw [← strip_row y, hyx, strip_row]
            rw [← e]
            rcases List.mem_append.1 hy with hy | hy
            · exact (MA.out y hy).2.2
            · exact (MB.out y hy).2.2))
          have d1 : ((lm.length : Int) != (la.length : Int) + (lb.length : Int)) = false := by rw [hll]; simp
          have d2 : ((xa.length : Int) + (xb.length : Int) != ((bs xa).size : Int) + ((bs xb).size : Int)) = false := by rw [bs_size, bs_size]; simp
          have z1 : (bs xa).size ≤ 200000 := za
          have z2 : (bs xb).size ≤ 200000 := zb
          clear k9 hE hV hst hst2 hn hll RCH
          go_wp2_with fail
          clear d1 d2 hq
          go_loopw [19] (fun i wr => ∃ j : Nat, j ≤ lm.length ∧ i = .int .i64 (j : Int) ∧ Below w.heap.size w wr ∧ Below w9.heap.size w9 wr) (fun i _ => lm.length - (intOf i).toNat)
          case atStart => exact ⟨0, by omega, rfl, B9.out, Below.refl _ _⟩
          case round =>
            obtain ⟨j, hj, rfl, hb, hb9⟩ := hrel
            have B := Lib.hid hb
            have KN := Lib.hid hb9
            clear hb hb9
            by_cases hlt : j < lm.length
            · have hlt' : (j : Int) < (lm.length : Int) := by omega
              obtain ⟨md, rfl, _, _⟩ := EM.out j hlt
              obtain ⟨x, hxx⟩ : ∃ x, lm[j] = x := ⟨_, rfl⟩
              have HX := Lib.hid hxx
              have hxV := VM.out x (by rw [← hxx]; exact List.getElem_mem hlt)
              have hxl : x.w.row.length ≤ 9223372036854775807 := XR.out x (by rw [← hxx]; exact List.getElem_mem hlt)
              have hst := congrArg (fun l => l[j]?) ST.out
              simp only [List.getElem?_map] at hst
              rw [List.getElem?_eq_getElem hlt, hxx] at hst
              by_cases hja : j < la.length
              · as_aux_lemma =>
                  rw [List.getElem?_append_left hja, List.getElem?_eq_getElem hja] at hst
                  replace hst := Option.some.inj hst
                  obtain ⟨y, hyy⟩ : ∃ y, la[j] = y := ⟨_, rfl⟩
                  rw [hyy] at hst
                  have HY := Lib.hid hyy
                  have hyV := (MA.out y (by rw [← hyy]; exact List.getElem_mem hja)).1
                  obtain ⟨ad, rfl, _, _⟩ := EA.out j hja
                  have hq := strip_eq hst
                  have hrow : y.w.row = x.w.row := by rw [hq]; rfl
                  have SC := Lib.hid (fun wx (h9 : Below w9.heap.size w9 wx) (h0 : Below w.heap.size w wx) => (show Calls Try.prog 50 #[.agg x.cells.toArray, .agg y.cells.toArray] wx fun e w' => e = .returned (.bool true) ∧ Below wx.heap.size wx w' from by
                    have h := refsame_calls x y.w.ra y.w.rc wx (hxV.keep h9) (by rw [← hrow]; exact hyV.keep h0) hxl
                    rw [← hq] at h
                    exact h))
                  clear hq hrow hst hxV hyV hxx hyy hxl
                  have hja' : (j : Int) < (la.length : Int) := by omega
                  have d3 : decide (la.length ≤ j) = false := by simp; omega
                  go_wp2_with fail
                  replace B := Lib.hid B.out.drew
                  replace KN := Lib.hid KN.out.drew
                  refine Reg.start (fun w' => Below w9.heap.size w9 w' ∧ Below w.heap.size w w') (fun i => false) (by kernel_rfl) ⟨KN.out, B.out⟩ (fun hHeld => ?_)
                  generalize wr.drew = wd at *
                  refine Reg.takeI 0 (v := ?_) rfl (by kernel_rfl) (by kernel_rfl) (by kernel_rfl) (by kernel_rfl) (fun _ _ _ h => h) (by rfl) ?_ hHeld ?_
                  rotate_left 1
                  · (intro w hSw; (try dsimp only at hSw); go_simp; try with_reducible rfl)
                  try simp only [Act.put, List.setIfInBounds_toArray, List.set_cons_zero, List.set_cons_succ]
                  refine Reg.takeI 1 (v := ?_) rfl (by kernel_rfl) (by kernel_rfl) (by kernel_rfl) (by kernel_rfl) (fun _ _ _ h => h) (by rfl) ?_ hHeld ?_
                  rotate_left 1
                  · (intro w hSw; (try dsimp only at hSw); go_simp; try with_reducible rfl)
                  try simp only [Act.put, List.setIfInBounds_toArray, List.set_cons_zero, List.set_cons_succ]
                  refine Reg.takeI 2 (v := ?_) rfl (by kernel_rfl) (by kernel_rfl) (by kernel_rfl) (by kernel_rfl) (fun _ _ _ h => h) (by rfl) ?_ hHeld ?_
                  rotate_left 1
                  · (intro w hSw; (try dsimp only at hSw); go_simp; try with_reducible rfl)
                  try simp only [Act.put, List.setIfInBounds_toArray, List.set_cons_zero, List.set_cons_succ]
                  refine Reg.takeI 3 (v := ?_) rfl (by kernel_rfl) (by kernel_rfl) (by kernel_rfl) (by kernel_rfl) (fun _ _ _ h => h) (by rfl) ?_ hHeld ?_
                  rotate_left 1
                  · (intro w hSw; (try dsimp only at hSw); go_simp; try with_reducible rfl)
                  try simp only [Act.put, List.setIfInBounds_toArray, List.set_cons_zero, List.set_cons_succ]
                  refine Reg.takeI 4 (v := ?_) rfl (by kernel_rfl) (by kernel_rfl) (by kernel_rfl) (by kernel_rfl) (fun _ _ _ h => h) (by rfl) ?_ hHeld ?_
                  rotate_left 1
                  · (intro w hSw; (try dsimp only at hSw); go_simp; try with_reducible rfl)
                  try simp only [Act.put, List.setIfInBounds_toArray, List.set_cons_zero, List.set_cons_succ]
                  refine Reg.takeI 5 (v := ?_) rfl (by kernel_rfl) (by kernel_rfl) (by kernel_rfl) (by kernel_rfl) (fun _ _ _ h => h) (by rfl) ?_ hHeld ?_
                  rotate_left 1
                  · (intro w hSw; (try dsimp only at hSw); go_simp; try with_reducible rfl)
                  try simp only [Act.put, List.setIfInBounds_toArray, List.set_cons_zero, List.set_cons_succ]
                  refine Reg.takeI 6 (v := ?_) rfl (by kernel_rfl) (by kernel_rfl) (by kernel_rfl) (by kernel_rfl) (fun _ _ _ h => h) (by rfl) ?_ hHeld ?_
                  rotate_left 1
                  · (intro w hSw; (try dsimp only at hSw); go_simp; try with_reducible rfl)
                  try simp only [Act.put, List.setIfInBounds_toArray, List.set_cons_zero, List.set_cons_succ]
                  refine Reg.takeI 7 (v := ?_) rfl (by kernel_rfl) (by kernel_rfl) (by kernel_rfl) (by kernel_rfl) (fun _ _ _ h => h) (by rfl) ?_ hHeld ?_
                  rotate_left 1
                  · (intro w hSw; (try dsimp only at hSw); go_simp; try with_reducible rfl)
                  try simp only [Act.put, List.setIfInBounds_toArray, List.set_cons_zero, List.set_cons_succ]
                  refine Reg.takeI 8 (v := .agg x.cells.toArray) rfl (by kernel_rfl) (by kernel_rfl) (by kernel_rfl) (by kernel_rfl) (fun _ _ _ h => h) (by rfl) ?_ hHeld ?_
                  · intro w hSw
                    exact exec_els EM.out hSw.1 j hlt x HX.out 94 Try.underlying94 rfl (by kernel_rfl) (by rfl) (by rfl)
                  try simp only [Act.put, List.setIfInBounds_toArray, List.set_cons_zero, List.set_cons_succ]
                  refine Reg.takeI 10 (v := ?_) rfl (by kernel_rfl) (by kernel_rfl) (by kernel_rfl) (by kernel_rfl) (fun _ _ _ h => h) (by rfl) ?_ hHeld ?_
                  rotate_left 1
                  · (intro w hSw; (try dsimp only at hSw); go_simp; try with_reducible rfl)
                  try simp only [Act.put, List.setIfInBounds_toArray, List.set_cons_zero, List.set_cons_succ]
                  refine Reg.takeI 11 (v := ?_) rfl (by kernel_rfl) (by kernel_rfl) (by kernel_rfl) (by kernel_rfl) (fun _ _ _ h => h) (by rfl) ?_ hHeld ?_
                  rotate_left 1
                  · (intro w hSw; (try dsimp only at hSw); go_simp; try with_reducible rfl)
                  try simp only [Act.put, List.setIfInBounds_toArray, List.set_cons_zero, List.set_cons_succ]
                  refine Reg.takeI 12 (v := ?_) rfl (by kernel_rfl) (by kernel_rfl) (by kernel_rfl) (by kernel_rfl) (fun _ _ _ h => h) (by rfl) ?_ hHeld ?_
                  rotate_left 1
                  · (intro w hSw; (try dsimp only at hSw); go_simp; try with_reducible rfl)
                  try simp only [Act.put, List.setIfInBounds_toArray, List.set_cons_zero, List.set_cons_succ]
                  refine Reg.takeI 13 (v := .agg y.cells.toArray) rfl (by kernel_rfl) (by kernel_rfl) (by kernel_rfl) (by kernel_rfl) (fun _ _ _ h => h) (by rfl) ?_ hHeld ?_
                  · intro w hSw
                    exact exec_els EA.out hSw.2 j hja y HY.out 94 Try.underlying94 rfl (by kernel_rfl) (by rfl) (by rfl)
                  try simp only [Act.put, List.setIfInBounds_toArray, List.set_cons_zero, List.set_cons_succ]
                  refine Reg.oneI 9 rfl (by kernel_rfl) (by rfl) (fun K hK => ?_)
                  go_simp
                  go_at_call 45
                  refine (form_calls x _).mono ?_
                  rintro e wf1 ⟨rfl, k⟩
                  replace B := Lib.hid (B.out.trans (k.mono B.out.size))
                  replace KN := Lib.hid (KN.out.trans (k.mono KN.out.size))
                  clear k
                  go_wp2_with fail
                  refine hK.out _ _ (fun _ => ⟨KN.out, B.out⟩) (fun hHeld => ?_)
                  replace hHeld := hHeld (by first | rfl | trivial)
                  clear hK K
                  try simp only [Act.put, List.setIfInBounds_toArray, List.set_cons_zero, List.set_cons_succ]
                  refine Reg.oneI 14 rfl (by kernel_rfl) (by rfl) (fun K hK => ?_)
                  go_simp
                  go_at_call 45
                  refine (form_calls y _).mono ?_
                  rintro e wf2 ⟨rfl, k⟩
                  replace B := Lib.hid (B.out.trans (k.mono B.out.size))
                  replace KN := Lib.hid (KN.out.trans (k.mono KN.out.size))
                  clear k
                  go_wp2_with fail
                  refine hK.out _ _ (fun _ => ⟨KN.out, B.out⟩) (fun hHeld => ?_)
                  replace hHeld := hHeld (by first | rfl | trivial)
                  clear hK K
                  try simp only [Act.put, List.setIfInBounds_toArray, List.set_cons_zero, List.set_cons_succ]
                  refine Reg.oneI 15 rfl (by kernel_rfl) (by rfl) (fun K hK => ?_)
                  go_simp
                  go_at_call 50
                  refine (SC.out _ KN.out B.out).mono ?_
                  rintro e wf3 ⟨rfl, k⟩
                  replace B := Lib.hid (B.out.trans (k.mono B.out.size))
                  replace KN := Lib.hid (KN.out.trans (k.mono KN.out.size))
                  clear k
                  go_wp2_with fail
                  refine hK.out _ _ (fun _ => ⟨KN.out, B.out⟩) (fun hHeld => ?_)
                  replace hHeld := hHeld (by first | rfl | trivial)
                  clear hK K
                  try simp only [Act.put, List.setIfInBounds_toArray, List.set_cons_zero, List.set_cons_succ]
                  refine Reg.takeI 16 (v := ?_) rfl (by kernel_rfl) (by kernel_rfl) (by kernel_rfl) (by kernel_rfl) (fun _ _ _ h => h) (by rfl) ?_ hHeld ?_
                  rotate_left 1
                  · (intro w hSw; (try dsimp only at hSw); go_simp; try with_reducible rfl)
                  try simp only [Act.put, List.setIfInBounds_toArray, List.set_cons_zero, List.set_cons_succ]
                  refine Reg.takeI 17 (v := ?_) rfl (by kernel_rfl) (by kernel_rfl) (by kernel_rfl) (by kernel_rfl) (fun _ _ _ h => h) (by rfl) ?_ hHeld ?_
                  rotate_left 1
                  · (intro w hSw; (try dsimp only at hSw); go_simp; try with_reducible rfl)
                  try simp only [Act.put, List.setIfInBounds_toArray, List.set_cons_zero, List.set_cons_succ]
                  refine Reg.takeI 18 (v := ?_) rfl (by kernel_rfl) (by kernel_rfl) (by kernel_rfl) (by kernel_rfl) (fun _ _ _ h => h) (by rfl) ?_ hHeld ?_
                  rotate_left 1
                  · (intro w hSw; (try dsimp only at hSw); go_simp; try with_reducible rfl)
                  try simp only [Act.put, List.setIfInBounds_toArray, List.set_cons_zero, List.set_cons_succ]
                  refine Reg.takeI 19 (v := ?_) rfl (by kernel_rfl) (by kernel_rfl) (by kernel_rfl) (by kernel_rfl) (fun _ _ _ h => h) (by rfl) ?_ hHeld ?_
                  rotate_left 1
                  · (intro w hSw; (try dsimp only at hSw); go_simp; try with_reducible rfl)
                  try simp only [Act.put, List.setIfInBounds_toArray, List.set_cons_zero, List.set_cons_succ]
                  refine Reg.takeI 20 (v := ?_) rfl (by kernel_rfl) (by kernel_rfl) (by kernel_rfl) (by kernel_rfl) (fun _ _ _ h => h) (by rfl) ?_ hHeld ?_
                  rotate_left 1
                  · (intro w hSw; (try dsimp only at hSw); go_simp; try with_reducible rfl)
                  try simp only [Act.put, List.setIfInBounds_toArray, List.set_cons_zero, List.set_cons_succ]
                  refine Reg.takeI 21 (v := ?_) rfl (by kernel_rfl) (by kernel_rfl) (by kernel_rfl) (by kernel_rfl) (fun _ _ _ h => h) (by rfl) ?_ hHeld ?_
                  rotate_left 1
                  · (intro w hSw; (try dsimp only at hSw); go_simp; try with_reducible rfl)
                  try simp only [Act.put, List.setIfInBounds_toArray, List.set_cons_zero, List.set_cons_succ]
                  refine Reg.takeI 22 (v := ?_) rfl (by kernel_rfl) (by kernel_rfl) (by kernel_rfl) (by kernel_rfl) (fun _ _ _ h => h) (by rfl) ?_ hHeld ?_
                  rotate_left 1
                  · (intro w hSw; (try dsimp only at hSw); go_simp; try with_reducible rfl)
                  try simp only [Act.put, List.setIfInBounds_toArray, List.set_cons_zero, List.set_cons_succ]
                  refine Reg.takeI 23 (v := ?_) rfl (by kernel_rfl) (by kernel_rfl) (by kernel_rfl) (by kernel_rfl) (fun _ _ _ h => h) (by rfl) ?_ hHeld ?_
                  rotate_left 1
                  · (intro w hSw; (try dsimp only at hSw); go_simp; try with_reducible rfl)
                  try simp only [Act.put, List.setIfInBounds_toArray, List.set_cons_zero, List.set_cons_succ]
                  refine Reg.passI 24 rfl (by kernel_rfl) (by kernel_rfl) (by kernel_rfl) (by kernel_rfl) (fun _ _ _ h => h) (by rfl) hHeld ?_
                  try simp only [Act.put, List.setIfInBounds_toArray, List.set_cons_zero, List.set_cons_succ]
                  refine Reg.passI 25 rfl (by kernel_rfl) (by kernel_rfl) (by kernel_rfl) (by kernel_rfl) (fun _ _ _ h => h) (by rfl) hHeld ?_
                  try simp only [Act.put, List.setIfInBounds_toArray, List.set_cons_zero, List.set_cons_succ]
                  refine Reg.passI 26 rfl (by kernel_rfl) (by kernel_rfl) (by kernel_rfl) (by kernel_rfl) (fun _ _ _ h => h) (by rfl) hHeld ?_
                  try simp only [Act.put, List.setIfInBounds_toArray, List.set_cons_zero, List.set_cons_succ]
                  refine Reg.passI 27 rfl (by kernel_rfl) (by kernel_rfl) (by kernel_rfl) (by kernel_rfl) (fun _ _ _ h => h) (by rfl) hHeld ?_
                  try simp only [Act.put, List.setIfInBounds_toArray, List.set_cons_zero, List.set_cons_succ]
                  refine Reg.passI 28 rfl (by kernel_rfl) (by kernel_rfl) (by kernel_rfl) (by kernel_rfl) (fun _ _ _ h => h) (by rfl) hHeld ?_
                  try simp only [Act.put, List.setIfInBounds_toArray, List.set_cons_zero, List.set_cons_succ]
                  refine Reg.passI 29 rfl (by kernel_rfl) (by kernel_rfl) (by kernel_rfl) (by kernel_rfl) (fun _ _ _ h => h) (by rfl) hHeld ?_
                  try simp only [Act.put, List.setIfInBounds_toArray, List.set_cons_zero, List.set_cons_succ]
                  refine Reg.passI 30 rfl (by kernel_rfl) (by kernel_rfl) (by kernel_rfl) (by kernel_rfl) (fun _ _ _ h => h) (by rfl) hHeld ?_
                  try simp only [Act.put, List.setIfInBounds_toArray, List.set_cons_zero, List.set_cons_succ]
                  refine Reg.passI 31 rfl (by kernel_rfl) (by kernel_rfl) (by kernel_rfl) (by kernel_rfl) (fun _ _ _ h => h) (by rfl) hHeld ?_
                  try simp only [Act.put, List.setIfInBounds_toArray, List.set_cons_zero, List.set_cons_succ]
                  refine Reg.passI 32 rfl (by kernel_rfl) (by kernel_rfl) (by kernel_rfl) (by kernel_rfl) (fun _ _ _ h => h) (by rfl) hHeld ?_
                  try simp only [Act.put, List.setIfInBounds_toArray, List.set_cons_zero, List.set_cons_succ]
                  refine Reg.passI 33 rfl (by kernel_rfl) (by kernel_rfl) (by kernel_rfl) (by kernel_rfl) (fun _ _ _ h => h) (by rfl) hHeld ?_
                  try simp only [Act.put, List.setIfInBounds_toArray, List.set_cons_zero, List.set_cons_succ]
                  refine Reg.passI 34 rfl (by kernel_rfl) (by kernel_rfl) (by kernel_rfl) (by kernel_rfl) (fun _ _ _ h => h) (by rfl) hHeld ?_
                  try simp only [Act.put, List.setIfInBounds_toArray, List.set_cons_zero, List.set_cons_succ]
                  refine Reg.passI 35 rfl (by kernel_rfl) (by kernel_rfl) (by kernel_rfl) (by kernel_rfl) (fun _ _ _ h => h) (by rfl) hHeld ?_
                  try simp only [Act.put, List.setIfInBounds_toArray, List.set_cons_zero, List.set_cons_succ]
                  refine Reg.passI 36 rfl (by kernel_rfl) (by kernel_rfl) (by kernel_rfl) (by kernel_rfl) (fun _ _ _ h => h) (by rfl) hHeld ?_
                  try simp only [Act.put, List.setIfInBounds_toArray, List.set_cons_zero, List.set_cons_succ]
                  refine Reg.passI 37 rfl (by kernel_rfl) (by kernel_rfl) (by kernel_rfl) (by kernel_rfl) (fun _ _ _ h => h) (by rfl) hHeld ?_
                  try simp only [Act.put, List.setIfInBounds_toArray, List.set_cons_zero, List.set_cons_succ]
                  refine Reg.passI 38 rfl (by kernel_rfl) (by kernel_rfl) (by kernel_rfl) (by kernel_rfl) (fun _ _ _ h => h) (by rfl) hHeld ?_
                  try simp only [Act.put, List.setIfInBounds_toArray, List.set_cons_zero, List.set_cons_succ]
                  refine Reg.takeI 39 (v := ?_) rfl (by kernel_rfl) (by kernel_rfl) (by kernel_rfl) (by kernel_rfl) (fun _ _ _ h => h) (by rfl) ?_ hHeld ?_
                  rotate_left 1
                  · (intro w hSw; (try dsimp only at hSw); go_simp; try with_reducible rfl)
                  try simp only [Act.put, List.setIfInBounds_toArray, List.set_cons_zero, List.set_cons_succ]
                  refine Reg.takeI 40 (v := ?_) rfl (by kernel_rfl) (by kernel_rfl) (by kernel_rfl) (by kernel_rfl) (fun _ _ _ h => h) (by rfl) ?_ hHeld ?_
                  rotate_left 1
                  · (intro w hSw; (try dsimp only at hSw); go_simp; try with_reducible rfl)
                  try simp only [Act.put, List.setIfInBounds_toArray, List.set_cons_zero, List.set_cons_succ]
                  refine Reg.doneI (by kernel_rfl) ?_
                  go_wp2_with fail
                  exact ⟨⟨j + 1, by omega, by go_num, B.out, KN.out⟩, by simp [intOf]; omega⟩
              · as_aux_lemma =>
                  rw [List.getElem?_append_right (by omega)] at hst
                  have hjl := LL.out
                  obtain ⟨J, hJ⟩ : ∃ J, j - la.length = J := ⟨_, rfl⟩
                  rw [hJ] at hst
                  have hjb : J < lb.length := by omega
                  rw [List.getElem?_eq_getElem hjb] at hst
                  replace hst := Option.some.inj hst
                  obtain ⟨y, hyy⟩ : ∃ y, lb[J] = y := ⟨_, rfl⟩
                  rw [hyy] at hst
                  have HY := Lib.hid hyy
                  have hyV := (MB.out y (by rw [← hyy]; exact List.getElem_mem hjb)).1
                  obtain ⟨bd, rfl, _, _⟩ := EB.out J hjb
                  have hq := strip_eq hst
                  have hrow : y.w.row = x.w.row := by rw [hq]; rfl
                  have SC := Lib.hid (fun wx (h9 : Below w9.heap.size w9 wx) (h0 : Below w.heap.size w wx) => (show Calls Try.prog 50 #[.agg x.cells.toArray, .agg y.cells.toArray] wx fun e w' => e = .returned (.bool true) ∧ Below wx.heap.size wx w' from by
                    have h := refsame_calls x y.w.ra y.w.rc wx (hxV.keep h9) (by rw [← hrow]; exact hyV.keep h0) hxl
                    rw [← hq] at h
                    exact h))
                  clear hq hrow hst hxV hyV hxx hyy hxl
                  have hja' : ¬ (j : Int) < (la.length : Int) := by omega
                  have hja2 : decide ((j : Int) < (la.length : Int)) = false := by simp; omega
                  have d3 : decide (la.length ≤ j) = true := by simp; omega
                  have hsub : (IntKind.i64.wrap ((j : Int) - (la.length : Int)) : Int) = (J : Int) := by
                    rw [IntWalk.i64_in _ (by omega)]
                    omega
                  have hj1 : decide ((J : Int) < 0) = false := by simp
                  have hj2 : decide ((lb.length : Int) ≤ (J : Int)) = false := by simp; omega
                  have hj3 : (J : Int) < (lb.length : Int) := by omega
                  have hj40 : (j : Int) < 40 := by omega
                  clear hjl hJ
                  go_wp2_with fail
                  replace B := Lib.hid B.out.drew
                  replace KN := Lib.hid KN.out.drew
                  refine Reg.start (fun w' => Below w9.heap.size w9 w' ∧ Below w.heap.size w w') (fun i => false) (by kernel_rfl) ⟨KN.out, B.out⟩ (fun hHeld => ?_)
                  generalize wr.drew = wd at *
                  refine Reg.takeI 0 (v := ?_) rfl (by kernel_rfl) (by kernel_rfl) (by kernel_rfl) (by kernel_rfl) (fun _ _ _ h => h) (by rfl) ?_ hHeld ?_
                  rotate_left 1
                  · (intro w hSw; (try dsimp only at hSw); go_simp; try with_reducible rfl)
                  try simp only [Act.put, List.setIfInBounds_toArray, List.set_cons_zero, List.set_cons_succ]
                  refine Reg.takeI 1 (v := ?_) rfl (by kernel_rfl) (by kernel_rfl) (by kernel_rfl) (by kernel_rfl) (fun _ _ _ h => h) (by rfl) ?_ hHeld ?_
                  rotate_left 1
                  · (intro w hSw; (try dsimp only at hSw); go_simp; try with_reducible rfl)
                  try simp only [Act.put, List.setIfInBounds_toArray, List.set_cons_zero, List.set_cons_succ]
                  refine Reg.takeI 2 (v := ?_) rfl (by kernel_rfl) (by kernel_rfl) (by kernel_rfl) (by kernel_rfl) (fun _ _ _ h => h) (by rfl) ?_ hHeld ?_
                  rotate_left 1
                  · (intro w hSw; (try dsimp only at hSw); go_simp; try with_reducible rfl)
                  try simp only [Act.put, List.setIfInBounds_toArray, List.set_cons_zero, List.set_cons_succ]
                  refine Reg.takeI 3 (v := ?_) rfl (by kernel_rfl) (by kernel_rfl) (by kernel_rfl) (by kernel_rfl) (fun _ _ _ h => h) (by rfl) ?_ hHeld ?_
                  rotate_left 1
                  · (intro w hSw; (try dsimp only at hSw); go_simp; try with_reducible rfl)
                  try simp only [Act.put, List.setIfInBounds_toArray, List.set_cons_zero, List.set_cons_succ]
                  refine Reg.takeI 4 (v := ?_) rfl (by kernel_rfl) (by kernel_rfl) (by kernel_rfl) (by kernel_rfl) (fun _ _ _ h => h) (by rfl) ?_ hHeld ?_
                  rotate_left 1
                  · (intro w hSw; (try dsimp only at hSw); go_simp; try with_reducible rfl)
                  try simp only [Act.put, List.setIfInBounds_toArray, List.set_cons_zero, List.set_cons_succ]
                  refine Reg.passI 5 rfl (by kernel_rfl) (by kernel_rfl) (by kernel_rfl) (by kernel_rfl) (fun _ _ _ h => h) (by rfl) hHeld ?_
                  try simp only [Act.put, List.setIfInBounds_toArray, List.set_cons_zero, List.set_cons_succ]
                  refine Reg.passI 6 rfl (by kernel_rfl) (by kernel_rfl) (by kernel_rfl) (by kernel_rfl) (fun _ _ _ h => h) (by rfl) hHeld ?_
                  try simp only [Act.put, List.setIfInBounds_toArray, List.set_cons_zero, List.set_cons_succ]
                  refine Reg.passI 7 rfl (by kernel_rfl) (by kernel_rfl) (by kernel_rfl) (by kernel_rfl) (fun _ _ _ h => h) (by rfl) hHeld ?_
                  try simp only [Act.put, List.setIfInBounds_toArray, List.set_cons_zero, List.set_cons_succ]
                  refine Reg.passI 8 rfl (by kernel_rfl) (by kernel_rfl) (by kernel_rfl) (by kernel_rfl) (fun _ _ _ h => h) (by rfl) hHeld ?_
                  try simp only [Act.put, List.setIfInBounds_toArray, List.set_cons_zero, List.set_cons_succ]
                  refine Reg.passI 9 rfl (by kernel_rfl) (by kernel_rfl) (by kernel_rfl) (by kernel_rfl) (fun _ _ _ h => h) (by rfl) hHeld ?_
                  try simp only [Act.put, List.setIfInBounds_toArray, List.set_cons_zero, List.set_cons_succ]
                  refine Reg.passI 10 rfl (by kernel_rfl) (by kernel_rfl) (by kernel_rfl) (by kernel_rfl) (fun _ _ _ h => h) (by rfl) hHeld ?_
                  try simp only [Act.put, List.setIfInBounds_toArray, List.set_cons_zero, List.set_cons_succ]
                  refine Reg.passI 11 rfl (by kernel_rfl) (by kernel_rfl) (by kernel_rfl) (by kernel_rfl) (fun _ _ _ h => h) (by rfl) hHeld ?_
                  try simp only [Act.put, List.setIfInBounds_toArray, List.set_cons_zero, List.set_cons_succ]
                  refine Reg.passI 12 rfl (by kernel_rfl) (by kernel_rfl) (by kernel_rfl) (by kernel_rfl) (fun _ _ _ h => h) (by rfl) hHeld ?_
                  try simp only [Act.put, List.setIfInBounds_toArray, List.set_cons_zero, List.set_cons_succ]
                  refine Reg.passI 13 rfl (by kernel_rfl) (by kernel_rfl) (by kernel_rfl) (by kernel_rfl) (fun _ _ _ h => h) (by rfl) hHeld ?_
                  try simp only [Act.put, List.setIfInBounds_toArray, List.set_cons_zero, List.set_cons_succ]
                  refine Reg.passI 14 rfl (by kernel_rfl) (by kernel_rfl) (by kernel_rfl) (by kernel_rfl) (fun _ _ _ h => h) (by rfl) hHeld ?_
                  try simp only [Act.put, List.setIfInBounds_toArray, List.set_cons_zero, List.set_cons_succ]
                  refine Reg.passI 15 rfl (by kernel_rfl) (by kernel_rfl) (by kernel_rfl) (by kernel_rfl) (fun _ _ _ h => h) (by rfl) hHeld ?_
                  try simp only [Act.put, List.setIfInBounds_toArray, List.set_cons_zero, List.set_cons_succ]
                  refine Reg.passI 16 rfl (by kernel_rfl) (by kernel_rfl) (by kernel_rfl) (by kernel_rfl) (fun _ _ _ h => h) (by rfl) hHeld ?_
                  try simp only [Act.put, List.setIfInBounds_toArray, List.set_cons_zero, List.set_cons_succ]
                  refine Reg.takeI 17 (v := ?_) rfl (by kernel_rfl) (by kernel_rfl) (by kernel_rfl) (by kernel_rfl) (fun _ _ _ h => h) (by rfl) ?_ hHeld ?_
                  rotate_left 1
                  · (intro w hSw; (try dsimp only at hSw); go_simp; try with_reducible rfl)
                  try simp only [Act.put, List.setIfInBounds_toArray, List.set_cons_zero, List.set_cons_succ]
                  refine Reg.takeI 18 (v := ?_) rfl (by kernel_rfl) (by kernel_rfl) (by kernel_rfl) (by kernel_rfl) (fun _ _ _ h => h) (by rfl) ?_ hHeld ?_
                  rotate_left 1
                  · (intro w hSw; (try dsimp only at hSw); go_simp; try with_reducible rfl)
                  try simp only [Act.put, List.setIfInBounds_toArray, List.set_cons_zero, List.set_cons_succ]
                  refine Reg.takeI 19 (v := ?_) rfl (by kernel_rfl) (by kernel_rfl) (by kernel_rfl) (by kernel_rfl) (fun _ _ _ h => h) (by rfl) ?_ hHeld ?_
                  rotate_left 1
                  · (intro w hSw; (try dsimp only at hSw); go_simp; try with_reducible rfl)
                  try simp only [Act.put, List.setIfInBounds_toArray, List.set_cons_zero, List.set_cons_succ]
                  refine Reg.takeI 20 (v := ?_) rfl (by kernel_rfl) (by kernel_rfl) (by kernel_rfl) (by kernel_rfl) (fun _ _ _ h => h) (by rfl) ?_ hHeld ?_
                  rotate_left 1
                  · (intro w hSw; (try dsimp only at hSw); go_simp; try with_reducible rfl)
                  try simp only [Act.put, List.setIfInBounds_toArray, List.set_cons_zero, List.set_cons_succ]
                  refine Reg.takeI 21 (v := ?_) rfl (by kernel_rfl) (by kernel_rfl) (by kernel_rfl) (by kernel_rfl) (fun _ _ _ h => h) (by rfl) ?_ hHeld ?_
                  rotate_left 1
                  · (intro w hSw; (try dsimp only at hSw); go_simp; try with_reducible rfl)
                  try simp only [Act.put, List.setIfInBounds_toArray, List.set_cons_zero, List.set_cons_succ]
                  refine Reg.takeI 22 (v := ?_) rfl (by kernel_rfl) (by kernel_rfl) (by kernel_rfl) (by kernel_rfl) (fun _ _ _ h => h) (by rfl) ?_ hHeld ?_
                  rotate_left 1
                  · (intro w hSw; (try dsimp only at hSw); go_simp; try with_reducible rfl)
                  try simp only [Act.put, List.setIfInBounds_toArray, List.set_cons_zero, List.set_cons_succ]
                  refine Reg.takeI 23 (v := ?_) rfl (by kernel_rfl) (by kernel_rfl) (by kernel_rfl) (by kernel_rfl) (fun _ _ _ h => h) (by rfl) ?_ hHeld ?_
                  rotate_left 1
                  · (intro w hSw; (try dsimp only at hSw); go_simp; try with_reducible rfl)
                  try simp only [Act.put, List.setIfInBounds_toArray, List.set_cons_zero, List.set_cons_succ]
                  refine Reg.takeI 24 (v := ?_) rfl (by kernel_rfl) (by kernel_rfl) (by kernel_rfl) (by kernel_rfl) (fun _ _ _ h => h) (by rfl) ?_ hHeld ?_
                  rotate_left 1
                  · (intro w hSw; (try dsimp only at hSw); go_simp; try with_reducible rfl)
                  try simp only [Act.put, List.setIfInBounds_toArray, List.set_cons_zero, List.set_cons_succ]
                  refine Reg.takeI 25 (v := ?_) rfl (by kernel_rfl) (by kernel_rfl) (by kernel_rfl) (by kernel_rfl) (fun _ _ _ h => h) (by rfl) ?_ hHeld ?_
                  rotate_left 1
                  · (intro w hSw; (try dsimp only at hSw); go_simp; try with_reducible rfl)
                  try simp only [Act.put, List.setIfInBounds_toArray, List.set_cons_zero, List.set_cons_succ]
                  refine Reg.takeI 26 (v := ?_) rfl (by kernel_rfl) (by kernel_rfl) (by kernel_rfl) (by kernel_rfl) (fun _ _ _ h => h) (by rfl) ?_ hHeld ?_
                  rotate_left 1
                  · (intro w hSw; (try dsimp only at hSw); go_simp; try with_reducible rfl)
                  try simp only [Act.put, List.setIfInBounds_toArray, List.set_cons_zero, List.set_cons_succ]
                  refine Reg.takeI 27 (v := .agg x.cells.toArray) rfl (by kernel_rfl) (by kernel_rfl) (by kernel_rfl) (by kernel_rfl) (fun _ _ _ h => h) (by rfl) ?_ hHeld ?_
                  · intro w hSw
                    exact exec_els EM.out hSw.1 j hlt x HX.out 94 Try.underlying94 rfl (by kernel_rfl) (by rfl) (by rfl)
                  try simp only [Act.put, List.setIfInBounds_toArray, List.set_cons_zero, List.set_cons_succ]
                  refine Reg.takeI 29 (v := ?_) rfl (by kernel_rfl) (by kernel_rfl) (by kernel_rfl) (by kernel_rfl) (fun _ _ _ h => h) (by rfl) ?_ hHeld ?_
                  rotate_left 1
                  · (intro w hSw; (try dsimp only at hSw); go_simp; try with_reducible rfl)
                  try simp only [Act.put, List.setIfInBounds_toArray, List.set_cons_zero, List.set_cons_succ]
                  refine Reg.takeI 30 (v := ?_) rfl (by kernel_rfl) (by kernel_rfl) (by kernel_rfl) (by kernel_rfl) (fun _ _ _ h => h) (by rfl) ?_ hHeld ?_
                  rotate_left 1
                  · (intro w hSw; (try dsimp only at hSw); go_simp; try with_reducible rfl)
                  try simp only [Act.put, List.setIfInBounds_toArray, List.set_cons_zero, List.set_cons_succ]
                  refine Reg.takeI 31 (v := ?_) rfl (by kernel_rfl) (by kernel_rfl) (by kernel_rfl) (by kernel_rfl) (fun _ _ _ h => h) (by rfl) ?_ hHeld ?_
                  rotate_left 1
                  · (intro w hSw; (try dsimp only at hSw); go_simp; try with_reducible rfl)
                  try simp only [Act.put, List.setIfInBounds_toArray, List.set_cons_zero, List.set_cons_succ]
                  refine Reg.takeI 32 (v := ?_) rfl (by kernel_rfl) (by kernel_rfl) (by kernel_rfl) (by kernel_rfl) (fun _ _ _ h => h) (by rfl) ?_ hHeld ?_
                  rotate_left 1
                  · (intro w hSw; (try dsimp only at hSw); go_simp; try with_reducible rfl)
                  try simp only [Act.put, List.setIfInBounds_toArray, List.set_cons_zero, List.set_cons_succ]
                  refine Reg.takeI 33 (v := ?_) rfl (by kernel_rfl) (by kernel_rfl) (by kernel_rfl) (by kernel_rfl) (fun _ _ _ h => h) (by rfl) ?_ hHeld ?_
                  rotate_left 1
                  · (intro w hSw; (try dsimp only at hSw); go_simp; try with_reducible rfl)
                  try simp only [Act.put, List.setIfInBounds_toArray, List.set_cons_zero, List.set_cons_succ]
                  refine Reg.takeI 34 (v := ?_) rfl (by kernel_rfl) (by kernel_rfl) (by kernel_rfl) (by kernel_rfl) (fun _ _ _ h => h) (by rfl) ?_ hHeld ?_
                  rotate_left 1
                  · (intro w hSw; (try dsimp only at hSw); go_simp; try with_reducible rfl)
                  try simp only [Act.put, List.setIfInBounds_toArray, List.set_cons_zero, List.set_cons_succ]
                  refine Reg.takeI 35 (v := .agg y.cells.toArray) rfl (by kernel_rfl) (by kernel_rfl) (by kernel_rfl) (by kernel_rfl) (fun _ _ _ h => h) (by rfl) ?_ hHeld ?_
                  · intro w hSw
                    exact exec_els EB.out hSw.2 J hjb y HY.out 94 Try.underlying94 rfl (by kernel_rfl) (by rfl) (by rfl)
                  try simp only [Act.put, List.setIfInBounds_toArray, List.set_cons_zero, List.set_cons_succ]
                  refine Reg.oneI 28 rfl (by kernel_rfl) (by rfl) (fun K hK => ?_)
                  go_simp
                  go_at_call 45
                  refine (form_calls x _).mono ?_
                  rintro e wf1 ⟨rfl, k⟩
                  replace B := Lib.hid (B.out.trans (k.mono B.out.size))
                  replace KN := Lib.hid (KN.out.trans (k.mono KN.out.size))
                  clear k
                  go_wp2_with fail
                  refine hK.out _ _ (fun _ => ⟨KN.out, B.out⟩) (fun hHeld => ?_)
                  replace hHeld := hHeld (by first | rfl | trivial)
                  clear hK K
                  try simp only [Act.put, List.setIfInBounds_toArray, List.set_cons_zero, List.set_cons_succ]
                  refine Reg.oneI 36 rfl (by kernel_rfl) (by rfl) (fun K hK => ?_)
                  go_simp
                  go_at_call 45
                  refine (form_calls y _).mono ?_
                  rintro e wf2 ⟨rfl, k⟩
                  replace B := Lib.hid (B.out.trans (k.mono B.out.size))
                  replace KN := Lib.hid (KN.out.trans (k.mono KN.out.size))
                  clear k
                  go_wp2_with fail
                  refine hK.out _ _ (fun _ => ⟨KN.out, B.out⟩) (fun hHeld => ?_)
                  replace hHeld := hHeld (by first | rfl | trivial)
                  clear hK K
                  try simp only [Act.put, List.setIfInBounds_toArray, List.set_cons_zero, List.set_cons_succ]
                  refine Reg.oneI 37 rfl (by kernel_rfl) (by rfl) (fun K hK => ?_)
                  go_simp
                  go_at_call 50
                  refine (SC.out _ KN.out B.out).mono ?_
                  rintro e wf3 ⟨rfl, k⟩
                  replace B := Lib.hid (B.out.trans (k.mono B.out.size))
                  replace KN := Lib.hid (KN.out.trans (k.mono KN.out.size))
                  clear k
                  go_wp2_with fail
                  refine hK.out _ _ (fun _ => ⟨KN.out, B.out⟩) (fun hHeld => ?_)
                  replace hHeld := hHeld (by first | rfl | trivial)
                  clear hK K
                  try simp only [Act.put, List.setIfInBounds_toArray, List.set_cons_zero, List.set_cons_succ]
                  refine Reg.takeI 38 (v := ?_) rfl (by kernel_rfl) (by kernel_rfl) (by kernel_rfl) (by kernel_rfl) (fun _ _ _ h => h) (by rfl) ?_ hHeld ?_
                  rotate_left 1
                  · (intro w hSw; (try dsimp only at hSw); go_simp; try with_reducible rfl)
                  try simp only [Act.put, List.setIfInBounds_toArray, List.set_cons_zero, List.set_cons_succ]
                  refine Reg.takeI 39 (v := ?_) rfl (by kernel_rfl) (by kernel_rfl) (by kernel_rfl) (by kernel_rfl) (fun _ _ _ h => h) (by rfl) ?_ hHeld ?_
                  rotate_left 1
                  · (intro w hSw; (try dsimp only at hSw); go_simp; try with_reducible rfl)
                  try simp only [Act.put, List.setIfInBounds_toArray, List.set_cons_zero, List.set_cons_succ]
                  refine Reg.takeI 40 (v := ?_) rfl (by kernel_rfl) (by kernel_rfl) (by kernel_rfl) (by kernel_rfl) (fun _ _ _ h => h) (by rfl) ?_ hHeld ?_
                  rotate_left 1
                  · (intro w hSw; (try dsimp only at hSw); go_simp; try with_reducible rfl)
                  try simp only [Act.put, List.setIfInBounds_toArray, List.set_cons_zero, List.set_cons_succ]
                  refine Reg.doneI (by kernel_rfl) ?_
                  clear hsub
                  go_wp2_with fail
                  exact ⟨⟨j + 1, by omega, by go_num, B.out, KN.out⟩, by simp [intOf]; omega⟩
            · obtain rfl : j = lm.length := by omega
              go_wp2_with fail
              go_ret
              exact ⟨rfl, B.out⟩
theorem back_row (a : Option Addr) (la ca : Nat) (xs : _) (b : Option Addr) (lb cb : Nat) (ys : _) (s : ByteArray) (W : World)
    (h1 : SlcIn moveC W a la ca xs) (h2 : SlcIn moveC W b lb cb ys) (h3 : s.size ≤ 140737488351232) :
    Calls Try.prog 8 #[.slice a la ca, .slice b lb cb, .string s] W fun e w' => e = .returned (.bool true) ∧ Below W.heap.size W w' := by
  obtain ⟨l, rfl, l1, l2, l3⟩ := moves_in h1
  obtain ⟨m, rfl, m1, m2, m3⟩ := moves_in h2
  exact back_calls l m a b ca cb s W l2 l3 m2 m3 l1 m1 h3
end Go.Proofs.Ytcfjooeagfollaa.Bill
