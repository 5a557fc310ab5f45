/- gaugerlaw26.awake. -/
import Derived.Test.YtcfjooeagfollaaBillM
namespace Go.Proofs.Ytcfjooeagfollaa.Bill
open Go.RowKit Go.Proofs.Ytcfjooeagfollaa.Mem Go.Proofs.Ytcfjooeagfollaa.Bytes Go.Proofs.Ytcfjooeagfollaa.Num Go.Proofs.Ytcfjooeagfollaa.Sign
set_option linter.unusedSimpArgs false
set_option linter.unusedVariables false
set_option maxRecDepth 20000

def zmv : Value := .agg #[.int .i64 0, .int .i64 0, .int .i64 0, .int .i64 0, .int .i64 0, .int .i64 0, .int .i64 0, .string ⟨#[]⟩, .int .i64 0, .int .i64 0, .string ⟨#[]⟩, .slice none 0 0, .int .i64 0, .int .i64 0, .int .i64 0, .string ⟨#[]⟩, .int .i64 0, .int .i64 0, .int .i64 0]
theorem fill_two (m1 m2 : Mv) : Instr.fill (fun i => some (i * 19, 19)) ((Array.range (2 * 19)).map (zmv.cells[· % zmv.cells.size]!)) [(0, Value.agg m1.cells.toArray), (1, Value.agg m2.cells.toArray)] = some ([m1, m2].flatMap Mv.cells).toArray := by
  kernel_rfl
theorem build_two {ops : Array Oper} {rest : List Oper} {o : Oper} {a : Act} {w : World} {Q : Exit → Act → World → Prop} (m1 m2 : Mv) (hg : o.guard = none) (x y : Operand) (ho : o.op = .buildSlice 87 2 #[(0, x), (1, y)]) (hx : a.eval x = .agg m1.cells.toArray) (hy : a.eval y = .agg m2.cells.toArray)
    (h : wpList Try.prog ops Q rest (a.put o.dst (.slice (some ⟨w.heap.size, 0, none⟩) 2 2)) (w.alloc (.cells ([m1, m2].flatMap Mv.cells).toArray 94))) : wpList Try.prog ops Q (o :: rest) a w := by
  have hi : (Try.prog.info? 94).map (fun i => (i.zero, i.size)) = some (some zmv, 19) := by kernel_rfl
  obtain ⟨ie, hie, he⟩ := Option.map_eq_some_iff.1 hi
  simp only [Prod.mk.injEq] at he
  obtain ⟨hz, hs⟩ := he
  refine wpList_buildSlice hg 87 94 2 #[(0, x), (1, y)] ho ([m1, m2].flatMap Mv.cells).toArray ie zmv Try.underlying87 hie hz (by rw [hs]; decide) (by rw [hs]; decide) ?_ h
  rw [hs]
  have e : (#[(0, x), (1, y)].map fun (i, x) => (i, a.eval x)).toList = [(0, Value.agg m1.cells.toArray), (1, Value.agg m2.cells.toArray)] := by simp [hx, hy]
  rw [e]
  exact fill_two m1 m2
def mvP : Mv := ⟨2, 1, 0, noW, 0, 0⟩
def mvC : Mv := ⟨1, 2, 2, noW, 0, 0⟩
theorem mvP_good : mvP.good = true := (good_iff _).2 ⟨by decide, rfl, rfl, rfl, ⟨rfl, rfl, rfl, rfl, rfl, rfl, rfl, rfl⟩, rfl, rfl⟩
theorem mvC_good : mvC.good = true := (good_iff _).2 ⟨by decide, rfl, rfl, rfl, ⟨rfl, rfl, rfl, rfl, rfl, rfl, rfl, rfl⟩, rfl, rfl⟩
theorem mvP_fits : mvP.fits := ⟨noW_fits, i64_zero, i64_zero⟩
theorem mvC_fits : mvC.fits := ⟨noW_fits, i64_zero, i64_zero⟩
theorem two_bytes : [mvP, mvC].flatMap Mv.bytes = [2, 1, 1, 2, 2] := by decide
theorem two_out : bytesOut [mvP, mvC] = ([2, 1, 1, 2, 2], 0) := by
  have h : ∀ m ∈ [mvP, mvC], m.good = true := fun m hm => by
    rcases List.mem_cons.1 hm with rfl | hm
    · exact mvP_good
    · rw [List.mem_singleton.1 hm]; exact mvC_good
  unfold bytesOut
  rw [if_pos ⟨by decide, h⟩, two_bytes]
theorem only_bad : (Mv.only 0).good = false := by
  cases h : (Mv.only 0).good with
  | false => rfl
  | true =>
    have := good_bad h
    exact absurd this (by decide)
theorem rd_zero (n : Nat) : rd n [0] = ([], [0]) := by
  cases n with
  | zero => rfl
  | succ n =>
    have e : eMove ([0], false) = (Mv.only 0, ([], false)) := by
      have e : eOne ([0], false) = (0, ([], false)) := rfl
      unfold eMove
      rw [e]
      rfl
    rw [rd, e]
    simp only [only_bad]
    rfl
theorem two_read : rd 400 [2, 1, 1, 2, 2, 0] = ([mvP, mvC], [0]) := by
  have h := rd_app [mvP, mvC] 400 [0] (fun m hm => by
    rcases List.mem_cons.1 hm with rfl | hm
    · exact ⟨mvP_good, mvP_fits⟩
    · rw [List.mem_singleton.1 hm]; exact ⟨mvC_good, mvC_fits⟩) (by decide)
  rw [two_bytes] at h
  rw [show ([2, 1, 1, 2, 2, 0] : List UInt8) = [2, 1, 1, 2, 2] ++ [0] from rfl, h, rd_zero]
  rfl
theorem els_two (m1 m2 : Mv) (w : World) : Els Mv.cells 19 (w.alloc (.cells ([m1, m2].flatMap Mv.cells).toArray 94)) (some ⟨w.heap.size, 0, none⟩) [m1, m2] :=
  els_row (enc := Mv.cells) (pre := []) (post := []) (e := 94) (fun x => rfl) ((Row.new w 94 ([m1, m2].flatMap Mv.cells)).cast (by simp)) rfl
set_option maxHeartbeats 4000000 in
theorem awake_calls (w : World) : Calls Try.prog 42 #[] w fun e w' => e = .returned (.bool true) ∧ Below w.heap.size w w' := by
  have hb : Below w.heap.size w (w.alloc (.cells ([mvP, mvC].flatMap Mv.cells).toArray 94)) := (Below.refl _ _).alloc (Nat.le_refl _) _
  have hBC := bytes_calls [mvP, mvC] _ 2 _ (els_two mvP mvC w) (fun m hm => by
    rcases List.mem_cons.1 hm with rfl | hm
    · exact ⟨Vs.nil _ _, noW_fits, Nat.zero_le _⟩
    · rw [List.mem_singleton.1 hm]; exact ⟨Vs.nil _ _, noW_fits, Nat.zero_le _⟩) (by decide)
  rw [two_out] at hBC
  have BC := Lib.hid hBC
  have B := Lib.hid hb
  have hst : bs [2, 1, 1, 2, 2] ++ (⟨#[0]⟩ : ByteArray) = ⟨#[2, 1, 1, 2, 2, 0]⟩ := by
    rw [show (⟨#[0]⟩ : ByteArray) = bs [0] from rfl, bs_append]
    rfl
  have hRC : ∀ wx, Calls Try.prog 48 #[.string ⟨#[2, 1, 1, 2, 2, 0]⟩] wx fun e w' => ReadRes ([mvP, mvC], [0]) 6 e w' ∧ Below wx.heap.size wx w' := fun wx => by
    have h := read_calls ⟨#[2, 1, 1, 2, 2, 0]⟩ wx (by decide)
    have hr : rd 400 (ByteArray.mk #[2, 1, 1, 2, 2, 0]).data.toList = ([mvP, mvC], [0]) := two_read
    rw [hr] at h
    exact h
  rw [← hst] at hRC
  have RC := Lib.hid hRC
  have q0 : ((bs [2, 1, 1, 2, 2]).toList == (⟨#[2, 1, 1, 2, 2]⟩ : ByteArray).toList) = true := by
    rw [beq_iff_eq]
    rfl
  have Q0 := Lib.hid q0
  clear hBC hb hst hRC q0
  go_enter Try.func42, Try.ntmps42
  have q5 : ¬ 9223372036854775807 < (bs [2, 1, 1, 2, 2]).size + 1 := by decide
  go_wp2_with (refine build_two mvP mvC rfl _ _ rfl rfl rfl ?_)
  refine BC.out.mono ?_
  rintro e w1 ⟨rfl, k1⟩
  have B1 := Lib.hid (B.out.trans (k1.mono B.out.size))
  clear k1 BC
  go_wp2_with fail
  refine (RC.out _).mono ?_
  rintro e w2 ⟨⟨ls, a, cap, rfl, hE, hV, hs, hn⟩, k2⟩
  have B2 := Lib.hid (B1.out.trans (k2.mono B1.out.size))
  have hl : ls.length = 2 := by
    have := congrArg List.length hs
    simpa using this
  have i1 : 1 < ls.length := by omega
  have i1' : (1 : Int) < (ls.length : Int) := by omega
  obtain ⟨ad, rfl, _, z0, zz⟩ := hE.at (i := 1) i1 (Below.refl _ _)
  have ha : ls[1].a = 2 := by
    have h1 : (ls.map Mv.strip)[1]? = some mvC := by rw [hs]; rfl
    rw [List.getElem?_map, List.getElem?_eq_getElem i1] at h1
    have h2 := congrArg Mv.a (Option.some.inj h1)
    exact h2
  have z2 : w2.cell? ⟨ad.block, ad.off + 21, none⟩ = some (.int .i64 2) := by
    have := zz 1 (.int .i64 ls[1].a) rfl
    rw [ha] at this
    exact this
  have d1 : ((ls.length : Int) == 2) = true := by rw [hl]; rfl
  have d2 : ((((6 : Nat) : Int) - (([0] : List UInt8).length : Int)) == 5) = true := by decide
  have q0 := bs_toList [2, 1, 1, 2, 2]
  clear hE hV hs hn hl ha z0 zz k2 RC
  go_wp2_with fail
  go_ret
  exact ⟨rfl, B2.out⟩
end Go.Proofs.Ytcfjooeagfollaa.Bill
