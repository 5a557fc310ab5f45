/- bill.Bytes. -/
import Derived.Test.YtcfjooeagfollaaBillG
import Derived.Test.YtcfjooeagfollaaEls
namespace Go.Proofs.Ytcfjooeagfollaa.Bill
open Go.RowKit Go.Proofs.Ytcfjooeagfollaa.Mem Go.Proofs.Ytcfjooeagfollaa.Bytes Go.Proofs.Ytcfjooeagfollaa.Num Go.Proofs.Ytcfjooeagfollaa.Sign
set_option linter.unusedSimpArgs false
set_option linter.unusedVariables false
set_option maxRecDepth 20000

theorem add_two (ad : Addr) (n j : Nat) : (ad.add n).add j = ad.add (n + j) := by
  unfold Addr.add
  split <;> split <;> simp_all <;> omega
/-- An element of a row is loaded. -/
theorem load_els {P : Program} {ops : Array Oper} {rest : List Oper} {o : Oper} {a : Act} {w0 w : World} {Q : Exit → Act → World → Prop} {α : Type} {enc : α → List Value} {sz : Nat} {ad : Addr} {l : List α} (hE : Els enc sz w0 (some ad) l) (hb : Below w0.heap.size w0 w) (i : Nat) (hi : i < l.length) (x : α) (hx : l[i] = x) (ty : TypeId) {d : TypeDesc} (hu : P.underlying ty = some d) (hd : d.isRow = true) (hs : (P.info? ty).map (·.size) = some (enc x).length)
    (hgd : o.guard = none) {y : Operand} (ho : o.op = .load ty y) (hy : a.eval y = .pointer (some (ad.add (i * sz))))
    (h : wpList P ops Q rest (a.put o.dst (.agg (enc x).toArray)) w) : wpList P ops Q (o :: rest) a w := by
  subst hx
  obtain ⟨ad', e, _, hc⟩ := hE i hi
  cases e
  have hl : (loadCells (ad.add (i * sz)) (enc l[i]).length).run P w = .ok (enc l[i]).toArray w :=
    run_loadCells_list (P := P) w _ _ (fun j v hv => by rw [add_two]; exact hc w hb j v hv)
  have hv : (loadVar ty (ad.add (i * sz))).run P w = .ok (.agg (enc l[i]).toArray) w := by
    cases hq : P.info? ty with
    | none => simp [hq] at hs
    | some i0 =>
      have hs' : i0.size = (enc l[i]).length := by simpa [hq] using hs
      have hagg : (isAgg ty).run P w = .ok true w := by
        unfold isAgg
        rw [Sem.run_bind, run_underlying hu w]
        cases d <;> simp_all
      simp [loadVar, Sem.run_bind, hagg, sizeOf, typeInfo, hq, hs', hl]
  refine wpList_plain hgd fun _ hK => ?_
  unfold Oper.wp execOp
  simp only [ho, hy, Instr.loadAt, Instr.sureAddr, Sem.run_bind, Sem.run_pure, Result.andThen_ok, hv]
  exact hK _ _ h
noncomputable def bytesOut (l : List Mv) : List UInt8 × Int := if l.length ≤ 400 ∧ ∀ m ∈ l, m.good = true then (l.flatMap Mv.bytes, 0) else ([], 1)
theorem wbytes_len (x : Wsh) (h : x.row.length ≤ 1000) : x.bytes.length ≤ 9010 := by
  unfold Wsh.bytes
  have h1 := vals_len x.row
  have h2 := vals_len [x.key]
  have h3 := vals_len [x.val]
  have h4 := vals_len [x.key, x.high]
  simp only [List.length_cons, List.length_nil] at h2 h3 h4
  rw [List.length_append]
  split
  · simp only [List.length_cons, List.length_nil]; omega
  · split
    · simp only [List.length_cons, List.length_nil]; omega
    · split
      · simp only [List.length_cons, List.length_nil, List.length_append]; omega
      · split
        · simp only [List.length_cons, List.length_nil]; omega
        · split <;> simp
theorem mbytes_len (m : Mv) (h : m.w.row.length ≤ 1000) : m.bytes.length ≤ 9100 := by
  unfold Mv.bytes
  have h1 := wbytes_len m.w h
  rw [List.length_cons]
  split
  · split
    · simp only [List.length_cons]; omega
    · simp
  · split
    · simp
    · split
      · simp [le_length]
      · simp
theorem flat_le : ∀ (l : List Mv), (∀ m ∈ l, m.w.row.length ≤ 1000) → (l.flatMap Mv.bytes).length ≤ 9100 * l.length
  | [], _ => by simp
  | m :: l, h => by
    have h1 := mbytes_len m (h m List.mem_cons_self)
    have h2 := flat_le l (fun x hx => h x (List.mem_cons_of_mem _ hx))
    rw [List.flatMap_cons, List.length_append, List.length_cons]
    omega
theorem flat_nil {l : List Mv} (h : l.flatMap Mv.bytes = []) : l = [] := by
  cases l with
  | nil => rfl
  | cons m r =>
    rw [List.flatMap_cons] at h
    have := (List.append_eq_nil_iff.1 h).1
    unfold Mv.bytes at this
    cases this
theorem good_bad {m : Mv} (h : m.good = true) : m.bad = false := by
  unfold Mv.good at h
  rw [Bool.and_eq_true] at h
  simpa using h.1
set_option maxHeartbeats 4000000 in
theorem bytes_calls (l : List Mv) (a : Option Addr) (cap : Nat) (w : World) (hE : Els Mv.cells 19 w a l) (hM : ∀ m ∈ l, Vs w m.w.ra m.w.row ∧ m.w.fits ∧ m.w.row.length ≤ 1000) (hl : l.length ≤ 9223372036854775807) :
    Calls Try.prog 47 #[.slice a l.length cap] w fun e w' => e = .returned (.tuple #[.string (bs (bytesOut l).1), .int .i64 (bytesOut l).2]) ∧ Below w.heap.size w w' := by
  obtain ⟨O, hO⟩ : ∃ O, bytesOut l = O := ⟨_, rfl⟩
  have hO1 : l.length ≤ 400 → (∀ m ∈ l, m.good = true) → O = (l.flatMap Mv.bytes, 0) := fun h g => by rw [← hO]; unfold bytesOut; rw [if_pos ⟨h, g⟩]
  have hO2 : ¬ (l.length ≤ 400 ∧ ∀ m ∈ l, m.good = true) → O = ([], 1) := fun h => by rw [← hO]; unfold bytesOut; rw [if_neg h]
  rw [hO]
  have O1 := Lib.hid hO1
  have O2 := Lib.hid hO2
  clear hO hO1 hO2
  by_cases c4 : 400 < l.length
  · have c4' : (400 : Int) < (l.length : Int) := by omega
    obtain rfl := O2.out (fun h => by omega)
    clear O1 O2
    go_enter Try.func47, Try.ntmps47
    go_wp2_with fail
    go_ret2
    exact ⟨rfl, Below.refl _ _⟩
  have c4' : decide ((400 : Int) < (l.length : Int)) = false := by simp; omega
  have hr0 := Row.new w 188 [.pointer none, .slice none 0 0, .bool false]
  have hp : Pen (w.alloc (.cells #[.pointer none, .slice none 0 0, .bool false] 188)) (fun k => w.heap.size < k) w.heap.size [] false := BldX.Is.fresh hr0 (by omega) (fun k hk => by simp at hk; omega)
  have hb : Below w.heap.size w (w.alloc (.cells #[.pointer none, .slice none 0 0, .bool false] 188)) := (Below.refl _ _).alloc (Nat.le_refl _) _
  have E := Lib.hid hE
  have M := Lib.hid hM
  have R0 := Lib.hid hr0
  have P0 := Lib.hid hp
  have B0 := Lib.hid hb
  clear hE hM hr0 hp hb
  go_enter Try.func47, Try.ntmps47
  go_wp2_with fail
  go_loopw [14] (fun i wr => ∃ k : Nat, k ≤ l.length ∧ i = .int .i64 k ∧ (∀ m ∈ l.take k, m.good = true) ∧ Pen wr (fun k => w.heap.size < k) w.heap.size ((l.take k).flatMap Mv.bytes) false ∧ (k = 0 → Row wr w.heap.size 188 [.pointer none, .slice none 0 0, .bool false]) ∧ Below w.heap.size w wr) (fun i _ => l.length - (intOf i).toNat)
  case atStart => exact ⟨0, by omega, rfl, fun m hm => by simp at hm, P0.out, fun _ => R0.out, B0.out⟩
  case round =>
    clear P0 R0 B0
    obtain ⟨k, hk, rfl, hg, hp, h0, hb⟩ := hrel
    have P := Lib.hid hp
    have B := Lib.hid hb
    have HG := Lib.hid hg
    have H0 := Lib.hid h0
    clear hp hb hg h0
    by_cases hlt : k < l.length
    · have hlt' : (k : Int) < (l.length : Int) := by omega
      obtain ⟨ad, rfl, _, _⟩ := E.out k hlt
      have hmem := List.getElem_mem hlt
      obtain ⟨hV, hf, hr⟩ := M.out _ hmem
      have hvb := vs_block hV
      have htk := List.take_succ_eq_append_getElem hlt
      have hfl : ((l.take k).flatMap Mv.bytes).length ≤ 9100 * k := by
        have := flat_le (l.take k) (fun m hm => (M.out m (List.mem_of_mem_take hm)).2.2)
        rw [List.length_take] at this
        omega
      have hbo : l[k].good = false → O = ([], 1) := fun h => O2.out (fun g => by have := g.2 _ hmem; rw [h] at this; cases this)
      have BO := Lib.hid hbo
      obtain ⟨m, hmm⟩ : ∃ m, l[k] = m := ⟨_, rfl⟩
      rw [hmm] at hV hf hr hvb BO htk
      have TK := Lib.hid htk
      have VB := Lib.hid hvb
      have HMM := Lib.hid hmm
      have HV := Lib.hid hV
      have HF := Lib.hid hf
      clear hbo htk hmem hmm hV hf hvb
      have X0 := Lib.hid (Row.new wr 94 [.int .i64 0, .int .i64 0, .int .i64 0, .int .i64 0, .int .i64 0, .int .i64 0, .int .i64 0, .string ⟨#[]⟩, .int .i64 0, .int .i64 0, .string ⟨#[]⟩, .slice none 0 0, .int .i64 0, .int .i64 0, .int .i64 0, .string ⟨#[]⟩, .int .i64 0, .int .i64 0, .int .i64 0])
      have PB := Lib.hid (BldX.Is.alloc P.out (.cells #[.int .i64 0, .int .i64 0, .int .i64 0, .int .i64 0, .int .i64 0, .int .i64 0, .int .i64 0, .string ⟨#[]⟩, .int .i64 0, .int .i64 0, .string ⟨#[]⟩, .slice none 0 0, .int .i64 0, .int .i64 0, .int .i64 0, .string ⟨#[]⟩, .int .i64 0, .int .i64 0, .int .i64 0] 94))
      have PC := Lib.hid (BldX.Is.beside P.out (.cells #[.int .i64 0, .int .i64 0, .int .i64 0, .int .i64 0, .int .i64 0, .int .i64 0, .int .i64 0, .string ⟨#[]⟩, .int .i64 0, .int .i64 0, .string ⟨#[]⟩, .slice none 0 0, .int .i64 0, .int .i64 0, .int .i64 0, .string ⟨#[]⟩, .int .i64 0, .int .i64 0, .int .i64 0] 94))
      have BA := Lib.hid (B.out.alloc B.out.size (.cells #[.int .i64 0, .int .i64 0, .int .i64 0, .int .i64 0, .int .i64 0, .int .i64 0, .int .i64 0, .string ⟨#[]⟩, .int .i64 0, .int .i64 0, .string ⟨#[]⟩, .slice none 0 0, .int .i64 0, .int .i64 0, .int .i64 0, .string ⟨#[]⟩, .int .i64 0, .int .i64 0, .int .i64 0] 94))
      have LP := Lib.hid P.out.lt
      go_wp2_with (first | (refine load_els E.out B.out k hlt m HMM.out 94 Try.underlying94 rfl (by kernel_rfl) rfl rfl rfl ?_) | (refine store_row X0.out m.cells 94 (by kernel_rfl) rfl (mcells_one _) rfl rfl rfl rfl ?_; intro w2 h2 k2 z2; have X2 := Lib.hid h2; have P2 := Lib.hid (BldX.Is.wider (F' := fun k => w.heap.size < k) (BldX.Is.chg PC.out k2 (fun e => by have e := (show w.heap.size = wr.heap.size from e); have := LP.out; omega) (fun k hk e => hk.2 e)) (fun k hk => hk.1) (by omega)); have B2 := Lib.hid (BA.out.trans (k2.below (B := w.heap.size) BA.out.size (fun k e => by have e := (show k = wr.heap.size from e); have := B.out.size; omega))); clear h2 k2 z2) | (refine load_row X2.out 94 Try.underlying94 rfl (by kernel_rfl) rfl rfl rfl ?_))
      clear PB PC BA X0
      obtain ⟨g, hgg⟩ : ∃ g, m.good = g := ⟨_, rfl⟩
      have GC := Lib.hid (good_calls m w2 (HV.out.keep B2.out) HF.out hr)
      rw [hgg] at GC BO
      have HGG := Lib.hid hgg
      clear hgg
      refine GC.out.mono ?_
      rintro e w3 ⟨rfl, k3⟩
      have B3 := Lib.hid (B2.out.trans (k3.mono B2.out.size))
      have X3 := Lib.hid (X2.out.below k3 X2.out.lt)
      have P3 := Lib.hid (BldX.Is.below P2.out k3)
      clear k3 GC
      cases g
      · obtain rfl := BO.out rfl
        go_wp2_with fail
        go_ret2
        exact ⟨rfl, B3.out⟩
      · go_wp2_with (refine load_row X3.out 94 Try.underlying94 rfl (by kernel_rfl) rfl rfl rfl ?_)
        have MC := move_calls (fun k => w.heap.size < k) w.heap.size ((l.take k).flatMap Mv.bytes) false m _ P3.out (HV.out.keep B3.out) (fun ad e z x => by
          have := VB.out ad e z
          rcases x with x | x
          · have x : ad.block = w.heap.size := x
            omega
          · have x : w.heap.size < ad.block := x
            omega) HF.out (by omega) hr
        unfold MovePost at MC
        rw [good_bad HGG.out] at MC
        refine MC.mono ?_
        rintro e w4 ⟨rfl, h4, k4⟩
        have P4 := Lib.hid h4
        have B4 := Lib.hid (pen_below B3.out k4 (fun k hk => Nat.le_of_lt hk) (Nat.le_refl _) B3.out.size)
        clear h4 k4 MC
        go_wp2_with fail
        refine ⟨⟨k + 1, by omega, by go_num, fun x hx => ?_, ?_, fun e => by omega, B4.out⟩, by simp [intOf]; omega⟩
        · rw [TK.out] at hx
          rcases List.mem_append.1 hx with hx | hx
          · exact HG.out x hx
          · rw [List.mem_singleton.1 hx]; exact HGG.out
        · rw [TK.out, List.flatMap_append, List.flatMap_cons, List.flatMap_nil, List.append_nil]
          exact P4.out
    · obtain rfl : k = l.length := by omega
      have hOO := O1.out (by omega) (fun m hm => HG.out m (by rw [List.take_length]; exact hm))
      have P' := P.out
      rw [List.take_length] at P'
      subst hOO
      by_cases he : l = []
      · have TN := Lib.hid (BldX.text_none (fun k => w.heap.size < k) 188 [.bool false] w.heap.size wr (H0.out (by rw [he]; rfl)))
        have HE := Lib.hid he
        clear he P'
        go_wp2_with fail
        refine TN.out.mono ?_
        rintro e w5 ⟨rfl, k5⟩
        have B5 := Lib.hid (B.out.trans (k5.mono B.out.size))
        clear k5
        go_wp2_with fail
        go_ret2
        exact ⟨by rw [HE.out]; rfl, B5.out⟩
      · have TX := Lib.hid (BldX.text_calls (fun k => w.heap.size < k) 188 [.bool false] w.heap.size _ wr P' (fun h => he (flat_nil h)))
        clear he P'
        go_wp2_with fail
        refine TX.out.mono ?_
        rintro e w5 ⟨rfl, k5⟩
        have B5 := Lib.hid (pen_below B.out k5 (fun k hk => Nat.le_of_lt hk) (Nat.le_refl _) B.out.size)
        clear k5
        go_wp2_with fail
        go_ret2
        exact ⟨rfl, B5.out⟩
end Go.Proofs.Ytcfjooeagfollaa.Bill
