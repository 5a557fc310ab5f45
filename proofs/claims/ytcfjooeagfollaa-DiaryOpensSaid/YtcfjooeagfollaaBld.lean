/- Contracts of strings.Builder: by the blocks that it may change. -/
import Derived.Test.YtcfjooeagfollaaOwn
import Derived.Lib.AppendStr
import Derived.Lib.Hide
import Derived.Deep.RegionWith
import Derived.Deep.RegionLaw
import Derived.StillTailTactics
import Derived.Lib.Builder
import Derived.Lib.UnsafeStr
import Derived.Laws.Externs
import Derived.Maps.AppendAt
namespace Go.Proofs.Ytcfjooeagfollaa.Bld
open Go.RowKit Go.Proofs.Ytcfjooeagfollaa.Mem Go.Proofs.Ytcfjooeagfollaa.Bytes Go.Proofs.Ytcfjooeagfollaa.Reel
set_option linter.unusedSimpArgs false
set_option linter.unusedVariables false
set_option maxRecDepth 20000

/-- Block b (of type T: a builder, or a struct that is one) holds a builder that was written the bytes l; its buffer lies in a block of F, in which all blocks lie that are yet to be made. -/
def Is (w : World) (F : Nat → Prop) (T : TypeId) (b : Nat) (l : List UInt8) : Prop := ¬ F b ∧ (∀ k, w.heap.size ≤ k → F k) ∧ ∃ p v, (p = .pointer none ∨ p = .pointer (some ⟨b, 0, none⟩)) ∧ Row w b T [p, v] ∧ w.ownsRow 0 5 1 v l.length (l.map bv) ∧ ∀ k, v.ownBlock = some k → F k
/-- What its writing may change. -/
def Own (F : Nat → Prop) (b : Nat) (k : Nat) : Prop := k = b ∨ F k
/-- A builder lies at the block's beginning. -/
def Lies (T : TypeId) : Prop := liesAt Try.prog Try.prog.depth T (2 / Try.prog.cellsOf T) 0 186 1 = true

theorem shape_of {w : World} {b : Nat} {T : TypeId} {p v : Value} (h : Row w b T [p, v]) : w.shape? b = some (T, 2) := by
  obtain ⟨fz, h, _⟩ := h
  simp [World.shape?, h]

set_option maxHeartbeats 1000000 in
set_option maxRecDepth 100000 in
theorem check_calls (F : Nat → Prop) (T : TypeId) (hT : Lies T) (b : Nat) (l : List UInt8) (w : World) (h : Is w F T b l) :
    Calls Try.prog 172 #[.pointer (some ⟨b, 0, none⟩)] w fun e w' => e = .returned (.tuple #[]) ∧ ∃ v, Row w' b T [.pointer (some ⟨b, 0, none⟩), v] ∧ w'.ownsRow 0 5 1 v l.length (l.map bv) ∧ (∀ k, v.ownBlock = some k → F k) ∧ Chg (One b) w w' := by
  obtain ⟨hb, hF, p, v, hp, hr, ho, hv⟩ := h
  have hj : ∃ j, Try.prog.info? 186 = some j ∧ j.size ≠ 0 := by
    have : (Try.prog.info? 186).map (fun i => i.size) = some 2 := by kernel_rfl
    obtain ⟨j, hj, hs⟩ := Option.map_eq_some_iff.1 this
    exact ⟨j, hj, by omega⟩
  obtain ⟨j, hj, hj0⟩ := hj
  have c0 := hr.cell (i := 0) rfl
  have f0 := hr.frozen 0 (by simp)
  have hsh := shape_of hr
  have key : ∀ w', Row w' b T [.pointer (some ⟨b, 0, none⟩), v] → Chg (One b) w w' → ∃ v, Row w' b T [.pointer (some ⟨b, 0, none⟩), v] ∧ w'.ownsRow 0 5 1 v l.length (l.map bv) ∧ (∀ k, v.ownBlock = some k → F k) ∧ Chg (One b) w w' := fun w' hr' hc =>
    ⟨v, hr', own_chg ho hc (fun k hk x => hb (by have e : k = b := x; rw [← e]; exact hv k hk)), hv, hc⟩
  have K := Lib.hid key
  have HR := Lib.hid hr
  clear key hr ho hv hF
  rcases hp with rfl | rfl
  · go_enter Try.func172, Try.ntmps172
    go_wp2
    rw [Lib.run_to_unsafe w ⟨b, 0, none⟩ Try.underlying184 Try.underlying267 hj hj0 hsh (Nat.zero_lt_succ 1)]
    simp only [Result.andThen]
    rw [Oper.upon_value]
    go_wp2
    rw [run_callFunc_extern Try.func187 (by kernel_rfl) (by kernel_rfl) (by kernel_rfl) (e := Extern.AbiNoEscape.same) (by kernel_rfl)]
    rw [Lib.run_noEscape]
    simp only [Result.andThen]
    rw [Oper.upon_value]
    go_wp2
    rw [Lib.run_from_unsafe w ⟨b, 0, none⟩ Try.underlying267 Try.underlying184 hj hsh hT]
    simp only [Result.andThen]
    rw [Oper.upon_value]
    go_wp2
    go_end0
    exact ⟨rfl, K.out _ ((HR.out.set 0 _).cast rfl) ((Chg.refl _ _).put _ _)⟩
  · go_enter Try.func172, Try.ntmps172
    go_wp2
    rw [Lib.run_neq_ptr_same w _ Try.underlying184 hj]
    go_wp2
    go_end0
    exact ⟨rfl, K.out _ HR.out (Chg.refl _ _)⟩

/-- A new buffer laid into the builder. -/
theorem Is.put {w w3 w4 : World} {F : Nat → Prop} {T : TypeId} {b : Nat} {l' : List UInt8} {q v v' : Value} (hb : ¬ F b) (hF : ∀ k, w.heap.size ≤ k → F k) (hr : Row w3 b T [q, v]) (hq : q = .pointer none ∨ q = .pointer (some ⟨b, 0, none⟩)) (hc : Chg (One b) w w3)
    (hv : ∀ k, v.ownBlock = some k → F k) (ho4 : w4.ownsRow 0 5 1 v' l'.length (l'.map bv)) (hg4 : w3.grownBy w4 v.ownBlock) (hor : v'.ownBlock = v.ownBlock ∨ ∃ k, v'.ownBlock = some k ∧ w3.heap.size ≤ k) :
    Is (w4.setCell ⟨b, 1, none⟩ v') F T b l' ∧ Chg (Own F b) w (w4.setCell ⟨b, 1, none⟩ v') := by
  have hne : some b ≠ v.ownBlock := fun e => hb (hv b e.symm)
  have hr4 := hr.grown hg4 hne
  have hset := Chg.setCell (Chg.refl (One b) w4) (fun _ => (rfl : b = b)) v' (a := ⟨b, 1, none⟩)
  have hv' : ∀ k, v'.ownBlock = some k → F k := fun k hk => by
    rcases hor with e | ⟨j, e, hj⟩
    · exact hv k (e.symm.trans hk)
    · rw [e] at hk
      cases hk
      exact hF _ (Nat.le_trans hc.size hj)
  refine ⟨⟨hb, fun k hk => hF k (Nat.le_trans hc.size (Nat.le_trans hg4.size (Nat.le_trans hset.size hk))), q, v', hq, (hr4.set 1 _).cast rfl, own_chg ho4 hset (fun k hk x => hb (by have e : k = b := x; rw [← e]; exact hv' k hk)), hv'⟩, ?_⟩
  exact ((hc.mono (fun k _ x => (.inl x : Own F b k))).next (Chg.of_grown hg4) (fun k _ hk => .inr (hv k hk.symm))).next hset (fun k _ x => .inl x)

set_option maxHeartbeats 2000000 in
set_option maxRecDepth 100000 in
theorem byte_calls (F : Nat → Prop) (T : TypeId) (hT : Lies T) (b : Nat) (l : List UInt8) (x : UInt8) (w : World) (h : Is w F T b l) (hl : l.length ≤ 100000000) :
    Calls Try.prog 174 #[.pointer (some ⟨b, 0, none⟩), .int .u8 (x.toNat : Int)] w fun e w' => e = .returned .nilIface ∧ Is w' F T b (l ++ [x]) ∧ Chg (Own F b) w w' := by
  have hb := h.1
  have hF := h.2.1
  obtain ⟨i0, hi, hzz⟩ := Option.map_eq_some_iff.1 info_u8
  simp only [Prod.mk.injEq] at hzz
  obtain ⟨hz0, hz1, hz2⟩ := hzz
  go_enter Try.func174, Try.ntmps174
  go_wp2_with (go_at_call 172; refine (check_calls F T hT b l _ h).mono ?_)
  rintro e w3 ⟨rfl, v, hr3, ho3, hv3, hc3⟩
  obtain ⟨a, cap, rfl, _⟩ := own_shape ho3
  have c1 := hr3.cell (i := 1) rfl
  have hne : some b ≠ (Value.slice a l.length cap).ownBlock := fun e => hb (hv3 b e.symm)
  have H3 := Lib.hid hr3
  have HO := Lib.hid ho3
  have HV := Lib.hid hv3
  have HC := Lib.hid hc3
  have HF := Lib.hid hF
  clear hr3 ho3 hv3 hc3 hF h
  go_wp2_with (at_builtin; refine wpList_append_own_at _ rfl _ _ 112 rfl 0 5 i0 (.int .u8 0) 1 1 Try.underlying112 hi hz0 hz1 hz2 rfl (by decide) _ _ _ rfl (HO.out.alloc _) ⟨w3.heap.size, 0, none⟩ 1 1 [.int .u8 (x.toNat : Int)] rfl rfl ?d1 ?d2 ?d3 ?d4 ?d5 ?_)
  case d1 =>
    intro j u hu
    have ha : (⟨w3.heap.size, 0, none⟩ : Addr).add j = ⟨w3.heap.size, j, none⟩ := by unfold Addr.add; split <;> simp_all
    rw [ha]
    exact (Row.new w3 _ [.int .u8 (x.toNat : Int)]).cell hu
  case d2 => intro u hu; simp at hu; rw [hu]; rfl
  case d3 => unfold maxLen; omega
  case d4 => omega
  case d5 => exact Nat.zero_le _
  intro v4 w4 ho4 hg4 _ hor
  replace hg4 := grown_of_alloc hg4
  obtain ⟨a4, cap4, rfl, _⟩ := own_shape ho4
  have hr4 := H3.out.grown hg4 hne
  have g0 := hr4.frozen 1 (by simp)
  have g1 := hr4.cell (i := 1) rfl
  have hput := Is.put (l' := l ++ [x]) hb HF.out H3.out (.inr rfl) HC.out HV.out (by rw [List.map_append]; rw [List.length_append]; exact ho4) hg4 (hor.imp id (fun e => ⟨_, e, by simp⟩))
  have HP := Lib.hid hput
  clear hput hor hg4 ho4 hr4 hne c1
  go_wp2
  go_ret
  exact ⟨rfl, HP.out.1, HP.out.2⟩

set_option maxHeartbeats 2000000 in
set_option maxRecDepth 100000 in
theorem string_calls (F : Nat → Prop) (T : TypeId) (hT : Lies T) (b : Nat) (l : List UInt8) (s : ByteArray) (w : World) (h : Is w F T b l) (hl : l.length ≤ 100000000) (hs : s.size ≤ 100000000) :
    Calls Try.prog 146 #[.pointer (some ⟨b, 0, none⟩), .string s] w fun e w' => e = .returned (.tuple #[.int .i64 (s.size : Int), .nilIface]) ∧ Is w' F T b (l ++ s.data.toList) ∧ Chg (Own F b) w w' := by
  have hb := h.1
  have hF := h.2.1
  obtain ⟨i0, hi, hzz⟩ := Option.map_eq_some_iff.1 info_u8
  simp only [Prod.mk.injEq] at hzz
  obtain ⟨hz0, hz1, hz2⟩ := hzz
  go_enter Try.func146, Try.ntmps146
  go_wp2_with (go_at_call 172; refine (check_calls F T hT b l _ h).mono ?_)
  rintro e w3 ⟨rfl, v, hr3, ho3, hv3, hc3⟩
  obtain ⟨a, cap, rfl, _⟩ := own_shape ho3
  have c1 := hr3.cell (i := 1) rfl
  have hne : some b ≠ (Value.slice a l.length cap).ownBlock := fun e => hb (hv3 b e.symm)
  have H3 := Lib.hid hr3
  have HO := Lib.hid ho3
  have HV := Lib.hid hv3
  have HC := Lib.hid hc3
  have HF := Lib.hid hF
  clear hr3 ho3 hv3 hc3 hF h
  go_wp2_with (at_builtin; refine wpList_append_string rfl _ _ _ _ rfl _ i0 Try.underlying112 Try.underlying9 hi hz0 hz1 hz2 _ _ _ rfl HO.out s rfl (by omega) ?_)
  intro v4 w4 ho4 hg4 hor
  obtain ⟨a4, cap4, rfl, _⟩ := own_shape ho4
  have hr4 := H3.out.grown hg4 hne
  have g0 := hr4.frozen 1 (by simp)
  have g1 := hr4.cell (i := 1) rfl
  have hput := Is.put (l' := l ++ s.data.toList) hb HF.out H3.out (.inr rfl) HC.out HV.out (by rw [List.map_append]; rw [List.length_append]; exact ho4) hg4 (hor.imp id (fun e => ⟨_, e, Nat.le_refl _⟩))
  have HP := Lib.hid hput
  clear hput hor hg4 ho4 hr4 hne c1
  go_wp2
  go_ret2
  exact ⟨rfl, HP.out.1, HP.out.2⟩

theorem chg_freeze {S : Nat → Prop} {w w' : World} (h : Chg S w w') {a : Addr} (ha : S a.block) (n : Nat) : Chg S w (w'.freeze a n) := by
  unfold World.freeze
  split
  · exact h
  · refine ⟨h.os, h.tape, h.output, by have := h.size; simp; omega, fun b hb hn => ?_⟩
    rw [← h.block b hb hn]
    have hne : a.block ≠ b := fun e => hn (e ▸ ha)
    simp [Array.getElem?_modify, hne]

set_option maxHeartbeats 2000000 in
set_option maxRecDepth 100000 in
theorem text_calls (F : Nat → Prop) (T : TypeId) (b : Nat) (l : List UInt8) (w : World) (h : Is w F T b l) (h0 : l ≠ []) :
    Calls Try.prog 107 #[.pointer (some ⟨b, 0, none⟩)] w fun e w' => e = .returned (.string (bs l)) ∧ Chg (Own F b) w w' := by
  obtain ⟨hb, hF, p, v, hp, hr, hown, hv⟩ := h
  have hl0 : l.length ≠ 0 := by simpa using h0
  obtain ⟨g, cap, cur, rfl, hbg, hg, hnc, hcm, hcs, htake⟩ : ∃ g cap cur, v = .slice (some ⟨g, 0, none⟩) l.length cap ∧ 0 ≤ g ∧ w.heap[g]? = some (.cells cur 5 (0, 0)) ∧ l.length ≤ cap ∧ cap ≤ maxLen ∧ cur.size = cap * 1 ∧ cur.toList.take (l.length * 1) = l.map bv := by
    rcases hown.2 with ⟨_, hz⟩ | ⟨g, cap, cur, hv, r⟩
    · exact absurd hz hl0
    · exact ⟨g, cap, cur, hv, r⟩
  have c1 : w.drew.cell? ⟨b, 1, none⟩ = some (.slice (some ⟨g, 0, none⟩) l.length cap) := hr.drew.cell rfl
  have hFg : F g := hv g rfl
  have hfin : Chg (Own F b) w (w.drew.freeze ⟨g, 0, none⟩ l.length) := chg_freeze ((Chg.refl _ _).drew) (.inr hFg) _
  have hSD : (Builtin.unsafeSliceData_ #[112] 240 #[.slice (some ⟨g, 0, none⟩) l.length cap]).run Try.prog w.drew = .ok (.pointer (some ⟨g, 0, none⟩)) w.drew :=
    Lib.run_unsafeSliceData_row _ _ _ _ _ _ (by omega)
  have hUS : (Builtin.unsafeString_ #[240, 3] 9 #[.pointer (some ⟨g, 0, none⟩), .int .i64 l.length]).run Try.prog w.drew = .ok (.string (bs l)) (w.drew.freeze ⟨g, 0, none⟩ l.length) := by
    refine Lib.run_unsafeString_row w.drew 240 3 9 5 Try.underlying240 (by kernel_rfl) g cur.size (by have hg' : w.drew.heap[g]? = some (.cells cur 5 (0, 0)) := hg; simp [World.shape?, hg']) l h0 (by omega) (by unfold maxLen at hcm; omega) ?_
    intro j x hx
    exact hown.cells (g := g) rfl j (.int .u8 x.toNat) (by simp [bv, hx])
  have HFIN := Lib.hid hfin
  clear hr hown hv hF hfin hg hcs htake
  go_enter Try.func107, Try.ntmps107
  go_wp2
  go_region
  all_goals
    go_wp2
    go_ret
    exact ⟨rfl, HFIN.out⟩

/-! a builder beside other changes -/
theorem Is.chg {w w' : World} {F : Nat → Prop} {T : TypeId} {b : Nat} {l : List UInt8} {S : Nat → Prop} (h : Is w F T b l) (hc : Chg S w w') (hb : ¬ S b) (hn : ∀ k, F k → ¬ S k) : Is w' F T b l := by
  obtain ⟨h1, h3, p, v, hp, hr, ho, hv⟩ := h
  exact ⟨h1, fun k hk => h3 k (Nat.le_trans hc.size hk), p, v, hp, hr.chg hc hb, own_chg ho hc (fun k hk => hn k (hv k hk)), hv⟩
theorem Is.drewN {w : World} {F : Nat → Prop} {T : TypeId} {b : Nat} {l : List UInt8} (h : Is w F T b l) (n : Nat) : Is (w.drewN n) F T b l := h
theorem Is.drew {w : World} {F : Nat → Prop} {T : TypeId} {b : Nat} {l : List UInt8} (h : Is w F T b l) : Is w.drew F T b l := h
theorem Is.alloc {w : World} {F : Nat → Prop} {T : TypeId} {b : Nat} {l : List UInt8} (h : Is w F T b l) (o : Obj) : Is (w.alloc o) F T b l := h.chg (S := fun _ => False) ((Chg.refl _ _).alloc o) (fun x => x) (fun _ _ x => x)
/-- A change below the blocks that are yet to be made leaves the builder, if its blocks all lie from there on. -/
theorem Is.below {w w' : World} {F : Nat → Prop} {T : TypeId} {b : Nat} {l : List UInt8} (h : Is w F T b l) (hb : Below w.heap.size w w') : Is w' F T b l := h.chg (S := fun _ => False) (Chg.of_below hb) (fun x => x) (fun _ _ x => x)
/-- A block that is made now is none of the builder's. -/
theorem Is.beside {w : World} {F : Nat → Prop} {T : TypeId} {b : Nat} {l : List UInt8} (h : Is w F T b l) (o : Obj) : Is (w.alloc o) (fun k => F k ∧ k ≠ w.heap.size) T b l := by
  obtain ⟨h1, h3, p, v, hp, hr, ho, hv⟩ := h
  refine ⟨fun x => h1 x.1, fun k hk => ?_, p, v, hp, hr.alloc o, own_chg ho (S := fun _ => False) ((Chg.refl _ _).alloc o) (fun _ _ x => x), fun k hk => ⟨hv k hk, ?_⟩⟩
  · simp at hk
    exact ⟨h3 k (by omega), by omega⟩
  · have := (ho.lt k hk).2
    omega
theorem Is.wider {w : World} {F F' : Nat → Prop} {T : TypeId} {b : Nat} {l : List UInt8} (h : Is w F T b l) (hF : ∀ k, F k → F' k) (h2 : ¬ F' b) : Is w F' T b l := by
  obtain ⟨_, h3, p, v, hp, hr, ho, hv⟩ := h
  exact ⟨h2, fun k hk => hF k (h3 k hk), p, v, hp, hr, ho, fun k hk => hF k (hv k hk)⟩
/-- A builder as it was made. -/
theorem Is.fresh {w : World} {F : Nat → Prop} {T : TypeId} {b : Nat} (hr : Row w b T [.pointer none, .slice none 0 0]) (h1 : ¬ F b) (h2 : ∀ k, w.heap.size ≤ k → F k) : Is w F T b [] :=
  ⟨h1, h2, .pointer none, .slice none 0 0, .inl rfl, hr, World.ownsRow_nil _ _ _ _, fun k hk => by cases hk⟩
end Go.Proofs.Ytcfjooeagfollaa.Bld
