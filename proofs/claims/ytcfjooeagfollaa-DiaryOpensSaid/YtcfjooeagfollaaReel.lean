/- Contracts of reel. -/
import Derived.Test.YtcfjooeagfollaaMains
import Derived.Test.YtcfjooeagfollaaApp
import Derived.Test.YtcfjooeagfollaaOwn
import Derived.Lib.AppendStr
import Derived.Deep.RegionWith
import Derived.Deep.RegionLaw
import Derived.StillTailTactics
namespace Go.Proofs.Ytcfjooeagfollaa.Reel
open Go.RowKit Go.Proofs.Ytcfjooeagfollaa.Mem Go.Proofs.Ytcfjooeagfollaa.Bytes Go.Proofs.Ytcfjooeagfollaa.Mains
set_option linter.unusedSimpArgs false
set_option linter.unusedVariables false
set_option maxRecDepth 20000

/-- A reel: its bytes, how many are safe, how many have room. -/
structure R where
  data : List UInt8
  safe : Nat
  size : Nat
def R.ok (r : R) : Prop := r.safe ≤ r.data.length ∧ r.data.length ≤ r.size ∧ r.size ≤ 262144
def room (n : Int) : Nat := if n < 0 then 0 else if 262144 < n then 262144 else n.toNat
def R.fresh (n : Nat) : R := ⟨[], 0, n⟩
def R.full (r : R) (s : ByteArray) : Bool := decide (r.size < s.size + r.data.length)
def R.add (r : R) (s : ByteArray) : R := { r with data := r.data ++ s.data.toList }
def R.synced (r : R) : R := { r with safe := r.data.length }
def R.cut (r : R) (n : Nat) : R := { r with data := r.data.take n, safe := n }
def kept (r : R) (n : Int) : Nat := r.safe + (IntKind.u64.wrap n % ((r.data.length - r.safe : Nat) + 1 : Int)).toNat

/-- Block b holds the reel r with its power at B; its bytes lie in a block of F, in which all blocks lie that are yet to be made. -/
def Is (w : World) (F : Nat → Prop) (B b : Nat) (r : R) : Prop := B ≠ b ∧ ¬ F B ∧ ¬ F b ∧ (∀ k, w.heap.size ≤ k → F k) ∧ r.ok ∧ ∃ v, Row w b 149 [.pointer (some ⟨B, 0, none⟩), v, .int .i64 (r.safe : Int), .int .i64 (r.size : Int)] ∧ w.ownsRow 0 5 1 v r.data.length (r.data.map bv) ∧ ∀ k, v.ownBlock = some k → F k
/-- What a reel's deeds may change. -/
def Own (F : Nat → Prop) (B b : Nat) (k : Nat) : Prop := k = B ∨ k = b ∨ F k

theorem Is.chg {w w' : World} {F : Nat → Prop} {B b : Nat} {r : R} {S : Nat → Prop} (h : Is w F B b r) (hc : Chg S w w') (hb : ¬ S b) (hn : ∀ k, F k → ¬ S k) : Is w' F B b r := by
  obtain ⟨h0, h1, h2, h3, hk, v, hr, ho, hv⟩ := h
  exact ⟨h0, h1, h2, fun k hk => h3 k (Nat.le_trans hc.size hk), hk, v, hr.chg hc hb, own_chg ho hc (fun k hk => hn k (hv k hk)), hv⟩
theorem Is.mains {w w' : World} {F : Nat → Prop} {B b : Nat} {r : R} (h : Is w F B b r) (hc : Chg (One B) w w') : Is w' F B b r :=
  h.chg hc (fun x => h.1 x.symm) (fun k hk x => h.2.1 (by have : k = B := x; rwa [this] at hk))
theorem Is.drewN {w : World} {F : Nat → Prop} {B b : Nat} {r : R} (h : Is w F B b r) (n : Nat) : Is (w.drewN n) F B b r := h
theorem Is.drew {w : World} {F : Nat → Prop} {B b : Nat} {r : R} (h : Is w F B b r) : Is w.drew F B b r := h
theorem Is.alloc {w : World} {F : Nat → Prop} {B b : Nat} {r : R} (h : Is w F B b r) (o : Obj) : Is (w.alloc o) F B b r := h.chg (S := fun _ => False) ((Chg.refl _ _).alloc o) (fun x => x) (fun _ _ x => x)
/-- A block that is made now is none of the reel's. -/
theorem Is.beside {w : World} {F : Nat → Prop} {B b : Nat} {r : R} (h : Is w F B b r) (o : Obj) : Is (w.alloc o) (fun k => F k ∧ k ≠ w.heap.size) B b r := by
  obtain ⟨h0, h1, h2, h3, hk, v, hr, ho, hv⟩ := h
  refine ⟨h0, fun x => h1 x.1, fun x => h2 x.1, fun k hk => ?_, hk, v, hr.alloc o, own_chg ho (S := fun _ => False) ((Chg.refl _ _).alloc o) (fun _ _ x => x), fun k hk => ⟨hv k hk, ?_⟩⟩
  · simp at hk
    exact ⟨h3 k (by omega), by omega⟩
  · have := (ho.lt k hk).2
    omega
theorem Is.wider {w : World} {F F' : Nat → Prop} {B b : Nat} {r : R} (h : Is w F B b r) (hF : ∀ k, F k → F' k) (h1 : ¬ F' B) (h2 : ¬ F' b) : Is w F' B b r := by
  obtain ⟨h0, _, _, h3, hk, v, hr, ho, hv⟩ := h
  exact ⟨h0, h1, h2, fun k hk => hF k (h3 k hk), hk, v, hr, ho, fun k hk => hF k (hv k hk)⟩
/-- A reel as it was made. -/
def Fresh (w : World) (B b n : Nat) : Prop := B ≠ b ∧ n ≤ 262144 ∧ Row w b 149 [.pointer (some ⟨B, 0, none⟩), .slice none 0 0, .int .i64 0, .int .i64 (n : Int)]
theorem Fresh.is {w : World} {F : Nat → Prop} {B b n : Nat} (h : Fresh w B b n) (h1 : ¬ F B) (h2 : ¬ F b) (h3 : ∀ k, w.heap.size ≤ k → F k) : Is w F B b (R.fresh n) :=
  ⟨h.1, h1, h2, h3, ⟨by simp [R.fresh], by simp [R.fresh], by simpa [R.fresh] using h.2.1⟩, .slice none 0 0, h.2.2, World.ownsRow_nil _ _ _ _, fun k hk => by cases hk⟩
theorem Fresh.chg {w w' : World} {B b n : Nat} {S : Nat → Prop} (h : Fresh w B b n) (hc : Chg S w w') (hb : ¬ S b) : Fresh w' B b n := ⟨h.1, h.2.1, h.2.2.chg hc hb⟩
theorem Fresh.alloc {w : World} {B b n : Nat} (h : Fresh w B b n) (o : Obj) : Fresh (w.alloc o) B b n := ⟨h.1, h.2.1, h.2.2.alloc o⟩
theorem Fresh.drewN {w : World} {B b n : Nat} (h : Fresh w B b n) (k : Nat) : Fresh (w.drewN k) B b n := h


theorem room_max (n : Int) : ∀ W : World, (Builtin.max_ #[3, 3] 3 #[.int .i64 n, .int .i64 0]).run Try.prog W = .ok (.int .i64 (if n < 0 then 0 else n)) W := by
  intro W
  rw [max_of_two, max2_ints]
  simp
theorem room_min (n : Int) : ∀ W : World, (Builtin.min_ #[3, 3] 3 #[.int .i64 (if n < 0 then 0 else n), .int .i64 262144]).run Try.prog W = .ok (.int .i64 ((room n : Nat) : Int)) W := by
  intro W
  rw [min_of_two, min2_ints]
  have : (if (262144 : Int) < (if n < 0 then 0 else n) then (262144 : Int) else (if n < 0 then 0 else n)) = ((room n : Nat) : Int) := by
    unfold room
    repeat' split
    all_goals omega
  rw [this]
  simp

theorem room_le (n : Int) : room n ≤ 262144 := by
  unfold room
  repeat' split
  all_goals omega
theorem room_id {n : Int} (h0 : 0 ≤ n) (h1 : n ≤ 262144) : (room n : Int) = n := by
  unfold room
  repeat' split
  all_goals omega

set_option maxHeartbeats 400000 in
theorem new_calls (B : Nat) (n : Int) (w : World) (hB : B < w.heap.size) :
    Calls Try.prog 25 #[.pointer (some ⟨B, 0, none⟩), .int .i64 n] w fun e w' => e = .returned (.pointer (some ⟨w.heap.size, 0, none⟩)) ∧ Fresh w' B w.heap.size (room n) ∧ Below w.heap.size w w' ∧ w'.heap.size = w.heap.size + 1 := by
  have h1 := room_max n
  have h2 := room_min n
  go_enter Try.func25, Try.ntmps25
  go_wp2
  all_goals
    go_ret
    exact ⟨rfl, ⟨by omega, room_le n, Row.new _ _ _⟩, (Below.refl _ _).alloc (Nat.le_refl _) _, by simp⟩

/-- The cells of a reel, for the walk. -/
theorem Is.open {w : World} {F : Nat → Prop} {B b : Nat} {r : R} (h : Is w F B b r) : ∃ a cap, w.cell? ⟨b, 0, none⟩ = some (.pointer (some ⟨B, 0, none⟩)) ∧ w.cell? ⟨b, 1, none⟩ = some (.slice a r.data.length cap) ∧ w.cell? ⟨b, 2, none⟩ = some (.int .i64 (r.safe : Int)) ∧ w.cell? ⟨b, 3, none⟩ = some (.int .i64 (r.size : Int))
    ∧ w.frozen? ⟨b, 0, none⟩ = false ∧ w.frozen? ⟨b, 1, none⟩ = false ∧ w.frozen? ⟨b, 2, none⟩ = false ∧ w.frozen? ⟨b, 3, none⟩ = false
    ∧ Row w b 149 [.pointer (some ⟨B, 0, none⟩), .slice a r.data.length cap, .int .i64 (r.safe : Int), .int .i64 (r.size : Int)] ∧ w.ownsRow 0 5 1 (.slice a r.data.length cap) r.data.length (r.data.map bv)
    ∧ r.data.length ≤ cap ∧ (∀ k, (Value.slice a r.data.length cap).ownBlock = some k → F k) ∧ (a = none ∧ r.data.length = 0 ∧ cap = 0 ∨ ∃ g, a = some ⟨g, 0, none⟩) := by
  obtain ⟨_, _, _, _, _, v, hr, ho, hv⟩ := h
  obtain ⟨a, cap, rfl, hc1, hc2⟩ := own_shape ho
  exact ⟨a, cap, hr.cell rfl, hr.cell rfl, hr.cell rfl, hr.cell rfl, hr.frozen 0 (by simp), hr.frozen 1 (by simp), hr.frozen 2 (by simp), hr.frozen 3 (by simp), hr, ho, hc1, hv, hc2⟩

set_option maxHeartbeats 400000 in
theorem len_calls (F : Nat → Prop) (B b : Nat) (r : R) (w : World) (h : Is w F B b r) :
    Calls Try.prog 29 #[.pointer (some ⟨b, 0, none⟩)] w fun e w' => e = .returned (.int .i64 (r.data.length : Int)) ∧ w' = w := by
  obtain ⟨a, cap, c0, c1, c2, c3, f0, f1, f2, f3, hr, ho, _⟩ := h.open
  clear h hr ho
  go_enter Try.func29, Try.ntmps29
  go_wp2
  go_ret
  exact ⟨rfl, rfl⟩

set_option maxHeartbeats 400000 in
theorem safe_calls (F : Nat → Prop) (B b : Nat) (r : R) (w : World) (h : Is w F B b r) :
    Calls Try.prog 30 #[.pointer (some ⟨b, 0, none⟩)] w fun e w' => e = .returned (.int .i64 (r.safe : Int)) ∧ w' = w := by
  obtain ⟨a, cap, c0, c1, c2, c3, f0, f1, f2, f3, hr, ho, _⟩ := h.open
  clear h hr ho
  go_enter Try.func30, Try.ntmps30
  go_wp2
  go_ret
  exact ⟨rfl, rfl⟩

set_option maxHeartbeats 400000 in
theorem left_calls (F : Nat → Prop) (B b : Nat) (r : R) (w : World) (h : Is w F B b r) :
    Calls Try.prog 80 #[.pointer (some ⟨b, 0, none⟩)] w fun e w' => e = .returned (.int .i64 ((r.size - r.data.length : Nat) : Int)) ∧ ∃ n, w' = w.drewN n := by
  obtain ⟨a, cap, c0, c1, c2, c3, f0, f1, f2, f3, hr, ho, _⟩ := h.open
  have hk := h.2.2.2.2.1
  obtain ⟨hk1, hk2, hk3⟩ := hk
  clear h hr ho
  have hw : IntKind.i64.wrap ((r.size : Int) - (r.data.length : Int)) = ((r.size - r.data.length : Nat) : Int) := by rw [IntKind.wrap_i64]; omega
  go_enter Try.func80, Try.ntmps80
  go_wp2
  go_quiet (fail)
  go_wp2
  go_ret
  exact ⟨rfl, _, rfl⟩

/-- What Append answers, leaves of power, and of the reel. -/
def appErr (m : M) (r : R) (s : ByteArray) : Int := if r.full s then 5 else m.errUse
def appM (m : M) (r : R) (s : ByteArray) : M := if r.full s then m else m.used
def appR (m : M) (r : R) (s : ByteArray) : R := if r.full s then r else if m.errUse = 0 then r.add s else r

theorem own_mono {F : Nat → Prop} {B b : Nat} : ∀ k : Nat, One B k → Own F B b k := fun k h => .inl h
theorem chg_mains {w w' : World} {F : Nat → Prop} {B b : Nat} (h : Chg (One B) w w') : Chg (Own F B b) w w' := h.mono fun k _ x => .inl x

set_option maxHeartbeats 800000 in
set_option maxRecDepth 4000 in
theorem append_calls (F : Nat → Prop) (B b : Nat) (m : M) (r : R) (s : ByteArray) (w : World) (h : Is w F B b r) (hm : Row w B 147 m.cells) (hf : -1 ≤ m.fuse ∧ m.fuse ≤ 9223372036854775807) :
    Calls Try.prog 26 #[.pointer (some ⟨b, 0, none⟩), .string s] w fun e w' => e = .returned (.int .i64 (appErr m r s)) ∧ Is w' F B b (appR m r s) ∧ Row w' B 147 (appM m r s).cells ∧ Chg (Own F B b) w w' := by
  obtain ⟨hk1, hk2, hk3⟩ := h.2.2.2.2.1
  have hbase := h.2.2.2.1
  have hBb := h.1
  have hBl := h.2.1
  have hbl := h.2.2.1
  by_cases hfull : r.full s = true
  · have e1 : appErr m r s = 5 := by simp [appErr, hfull]
    have e2 : appM m r s = m := by simp [appM, hfull]
    have e3 : appR m r s = r := by simp [appR, hfull]
    rw [e1, e2, e3]
    have hg : r.size - r.data.length < s.size := by simp [R.full] at hfull; omega
    clear e1 e2 e3 hfull
    go_enter Try.func26, Try.ntmps26
    go_wp2_with (go_at_call 80; refine (left_calls F B b r _ h).mono ?_; rintro e w' ⟨rfl, nd, rfl⟩)
    go_ret
    exact ⟨rfl, h.drewN _, hm.drewN _, (Chg.refl _ _).drewN _⟩
  · have hfull' : r.full s = false := by simpa using hfull
    have hg : ¬ (r.size - r.data.length < s.size) := by simp [R.full] at hfull; omega
    have hfit : s.size + r.data.length ≤ r.size := by simpa [R.full] using hfull
    obtain ⟨i0, hi, hzz⟩ := Option.map_eq_some_iff.1 info_u8
    simp only [Prod.mk.injEq] at hzz
    obtain ⟨hz0, hz1, hz2⟩ := hzz
    obtain ⟨a, cap, c0, c1, c2, c3, f0, f1, f2, f3, _, _, _, _⟩ := h.open
    by_cases he : m.errUse = 0
    · have e1 : appErr m r s = 0 := by simp [appErr, hfull', he]
      have e2 : appM m r s = m.used := by simp [appM, hfull']
      have e3 : appR m r s = r.add s := by simp [appR, hfull', he]
      rw [e1, e2, e3]
      clear e1 e2 e3 hfull hfull'
      go_enter Try.func26, Try.ntmps26
      go_wp2_with (first
        | (go_at_call 80; refine (left_calls F B b r _ h).mono ?_; rintro e w' ⟨rfl, nd, rfl⟩)
        | (go_at_call 81; refine (use_calls B m _ (hm.drewN nd) hf).mono ?_; rintro e w3 ⟨rfl, hm3, hc3⟩
           have h3 := (h.drewN nd).mains hc3
           have hch3 : Chg (Own F B b) w w3 := chg_mains (((Chg.refl _ _).drewN nd).trans hc3)
           rw [he]
           clear hc3 h hm c0 c1 c2 c3 f0 f1 f2 f3 he
           obtain ⟨a, cap, c0, c1, c2, c3, f0, f1, f2, f3, hr3, ho3, hcap, hv3, hsh⟩ := h3.open
           have hbase3 := h3.2.2.2.1
           have H3 := Lib.hid hr3
           have HB := Lib.hid h3
           clear h3 hr3)
        | (at_builtin; refine wpList_append_string rfl _ _ _ _ rfl _ i0 Try.underlying112 Try.underlying9 hi hz0 hz1 hz2 _ _ _ rfl ho3 s rfl (by omega) ?_
           intro v' w4 ho4 hg4 hor
           obtain ⟨a4, cap4, rfl, _⟩ := own_shape ho4
           have hne : ∀ k, ¬ F k → some k ≠ (Value.slice a r.data.length cap).ownBlock := fun k hk e => hk (hv3 k e.symm)
           have hr4 := H3.out.grown hg4 (hne b hbl)
           have hm4 := hm3.grown hg4 (hne B hBl)
           have hch4 : Chg (Own F B b) w w4 := hch3.next (Chg.of_grown hg4) (fun k _ hk => .inr (.inr (hv3 k hk.symm)))
           have hbase4 : ∀ k, w4.heap.size ≤ k → F k := fun k hk => hbase3 k (Nat.le_trans hg4.size hk)
           have hv4 : ∀ k, (Value.slice a4 (r.data.length + s.size) cap4).ownBlock = some k → F k := fun k hk => by
             rcases hor with e | e
             · exact hv3 k (e.symm.trans hk)
             · rw [e] at hk
               cases hk
               exact hbase3 _ (Nat.le_refl _)
           have g0 := hr4.frozen 1 (by simp)
           have g1 := hr4.cell (i := 1) rfl
           clear hm3 hg4 hch3 hne ho3 H3 HB hor hv3 hbase3 c0 c1 c2 c3 f0 f1 f2 f3
           have H4 := Lib.hid hr4
           have HM := Lib.hid hm4
           have HO := Lib.hid ho4
           have HC := Lib.hid hch4
           have HV := Lib.hid hv4
           have HF := Lib.hid hbase4
           clear hr4 hm4 ho4 hch4 hv4 hbase4))
      go_ret
      have hset := Chg.setCell (Chg.refl (One b) _) (fun _ => (rfl : b = b)) (.slice a4 (r.data.length + s.size) cap4) (a := ⟨b, 1, none⟩) (w' := w4)
      refine ⟨rfl, ⟨hBb, hBl, hbl, fun k hk => HF.out k (Nat.le_trans hset.size hk), ⟨by simp [R.add]; omega, by simp [R.add]; omega, hk3⟩, _, (H4.out.set 1 _).cast rfl, ?_, HV.out⟩, HM.out.chg hset hBb, HC.out.next hset (fun k _ x => .inr (.inl x))⟩
      have := own_chg HO.out hset (fun k hk x => hbl (by have e : k = b := x; rw [← e]; exact HV.out k hk))
      refine cast ?_ this
      congr 1
      · simp [R.add]
      · simp [R.add, Lib.strCells, bv]
    · have e1 : appErr m r s = m.errUse := by simp [appErr, hfull']
      have e2 : appM m r s = m.used := by simp [appM, hfull']
      have e3 : appR m r s = r := by simp [appR, hfull', he]
      have he4 : m.errUse = 4 := by unfold M.errUse at he ⊢; split at he <;> simp_all
      rw [e1, e2, e3, he4]
      clear e1 e2 e3 hfull hfull'
      go_enter Try.func26, Try.ntmps26
      go_wp2_with (first
        | (go_at_call 80; refine (left_calls F B b r _ h).mono ?_; rintro e w' ⟨rfl, nd, rfl⟩)
        | (go_at_call 81; refine (use_calls B m _ (hm.drewN nd) hf).mono ?_; rintro e w3 ⟨rfl, hm3, hc3⟩
           rw [he4]))
      go_ret
      exact ⟨rfl, (h.drewN nd).mains hc3, hm3, chg_mains (((Chg.refl _ _).drewN nd).trans hc3)⟩

def syncR (m : M) (r : R) : R := if m.errUse = 0 then r.synced else r
theorem errUse_cases (m : M) : m.errUse = 0 ∨ m.errUse = 4 := by unfold M.errUse; split <;> (try split) <;> simp

set_option maxHeartbeats 800000 in
set_option maxRecDepth 4000 in
theorem sync_calls (F : Nat → Prop) (B b : Nat) (m : M) (r : R) (w : World) (h : Is w F B b r) (hm : Row w B 147 m.cells) (hf : -1 ≤ m.fuse ∧ m.fuse ≤ 9223372036854775807) :
    Calls Try.prog 115 #[.pointer (some ⟨b, 0, none⟩)] w fun e w' => e = .returned (.int .i64 m.errUse) ∧ Is w' F B b (syncR m r) ∧ Row w' B 147 m.used.cells ∧ Chg (Own F B b) w w' := by
  obtain ⟨hk1, hk2, hk3⟩ := h.2.2.2.2.1
  have hBb := h.1
  have hbl := h.2.2.1
  obtain ⟨a, cap, c0, c1, c2, c3, f0, f1, f2, f3, _, _, _, _⟩ := h.open
  rcases errUse_cases m with he | he
  · have e3 : syncR m r = r.synced := by simp [syncR, he]
    rw [he, e3]
    clear e3
    go_enter Try.func115, Try.ntmps115
    go_wp2_with (go_at_call 81; refine (use_calls B m _ hm hf).mono ?_; rintro e w3 ⟨rfl, hm3, hc3⟩
                 have h3 := h.mains hc3
                 have hch3 : Chg (Own F B b) w w3 := chg_mains hc3
                 rw [he]
                 clear hc3 h hm c0 c1 c2 c3 f0 f1 f2 f3 he
                 obtain ⟨a, cap, c0, c1, c2, c3, f0, f1, f2, f3, hr3, ho3, hcap, hv3, hsh⟩ := h3.open
                 have HV := Lib.hid hv3
                 have H3 := Lib.hid hr3
                 have HB := Lib.hid h3
                 have HO := Lib.hid ho3
                 clear h3 hr3 ho3 hv3)
    go_ret
    have hset := Chg.setCell (Chg.refl (One b) w3) (fun _ => (rfl : b = b)) (.int .i64 (r.data.length : Int)) (a := ⟨b, 2, none⟩)
    have hbase3 := HB.out.2.2.2.1
    exact ⟨rfl, ⟨hBb, HB.out.2.1, hbl, fun k hk => hbase3 k (Nat.le_trans hset.size hk), ⟨by simp [R.synced], by simpa [R.synced] using hk2, hk3⟩, _, (H3.out.set 2 _).cast rfl, own_chg HO.out hset (fun k hk x => hbl (by have e : k = b := x; rw [← e]; exact HV.out k hk)), HV.out⟩, hm3.chg hset hBb, hch3.next hset (fun k _ x => .inr (.inl x))⟩
  · have e3 : syncR m r = r := by simp [syncR, he]
    rw [he, e3]
    clear e3
    go_enter Try.func115, Try.ntmps115
    go_wp2_with (go_at_call 81; refine (use_calls B m _ hm hf).mono ?_; rintro e w3 ⟨rfl, hm3, hc3⟩
                 rw [he])
    go_ret
    exact ⟨rfl, h.mains hc3, hm3, chg_mains hc3⟩

set_option maxHeartbeats 800000 in
set_option maxRecDepth 4000 in
theorem cut_calls (F : Nat → Prop) (B b : Nat) (r : R) (n : Nat) (w : World) (h : Is w F B b r) (hn : n ≤ r.data.length) :
    Calls Try.prog 125 #[.pointer (some ⟨b, 0, none⟩), .int .i64 (n : Int)] w fun e w' => e = .returned (.tuple #[]) ∧ Is w' F B b (r.cut n) ∧ Chg (One b) w w' := by
  obtain ⟨hk1, hk2, hk3⟩ := h.2.2.2.2.1
  have hbase := h.2.2.2.1
  have hBb := h.1
  have hBl := h.2.1
  have hbl := h.2.2.1
  obtain ⟨a, cap, c0, c1, c2, c3, f0, f1, f2, f3, hr, ho, hcap, hv, hsh⟩ := h.open
  have key : ∀ w' : World, Row w' b 149 [.pointer (some ⟨B, 0, none⟩), .slice a n cap, .int .i64 (n : Int), .int .i64 (r.size : Int)] → Chg (One b) w w' → Is w' F B b (r.cut n) := by
    intro w' hr' hc
    refine ⟨hBb, hBl, hbl, fun k hk => hbase k (Nat.le_trans hc.size hk), ⟨by simp [R.cut]; omega, by simp [R.cut]; omega, hk3⟩, _, hr', ?_, fun k hk => hv k (own_cut.symm.trans hk)⟩
    have := own_take (own_chg ho hc (fun k hk x => hbl (by have e : k = b := x; rw [← e]; exact hv k hk))) hn
    refine cast ?_ this
    have : (r.data.take n).length = n := by simp; omega
    simp only [R.cut, this]
    rw [List.map_take]
  have H := Lib.hid hr
  have K := Lib.hid key
  clear hr ho h key hv hbase
  rcases hsh with ⟨rfl, h0, rfl⟩ | ⟨g, rfl⟩
  · obtain rfl : n = 0 := by omega
    go_enter Try.func125, Try.ntmps125
    go_wp2
    go_end0
    exact ⟨rfl, K.out _ (((H.out.set 1 _).set 2 _).cast rfl) (((Chg.refl _ _).put _ _).put _ _), ((Chg.refl _ _).put _ _).put _ _⟩
  · go_enter Try.func125, Try.ntmps125
    go_wp2
    go_end0
    exact ⟨rfl, K.out _ (((H.out.set 1 _).set 2 _).cast rfl) (((Chg.refl _ _).put _ _).put _ _), ((Chg.refl _ _).put _ _).put _ _⟩

def R.has (r : R) (n : Int) : Bool := decide (0 ≤ n) && decide (n ≤ (r.data.length : Int))
def trimErr (m : M) (r : R) (n : Int) : Int := if r.has n then m.errUse else 1
def trimM (m : M) (r : R) (n : Int) : M := if r.has n then m.used else m
def trimR (m : M) (r : R) (n : Int) : R := if r.has n then if m.errUse = 0 then r.cut n.toNat else r else r

set_option maxHeartbeats 800000 in
set_option maxRecDepth 4000 in
theorem trim_calls (F : Nat → Prop) (B b : Nat) (m : M) (r : R) (n : Int) (w : World) (h : Is w F B b r) (hm : Row w B 147 m.cells) (hf : -1 ≤ m.fuse ∧ m.fuse ≤ 9223372036854775807) :
    Calls Try.prog 85 #[.pointer (some ⟨b, 0, none⟩), .int .i64 n] w fun e w' => e = .returned (.int .i64 (trimErr m r n)) ∧ Is w' F B b (trimR m r n) ∧ Row w' B 147 (trimM m r n).cells ∧ Chg (Own F B b) w w' := by
  obtain ⟨hk1, hk2, hk3⟩ := h.2.2.2.2.1
  have hBb := h.1
  have hbl := h.2.2.1
  obtain ⟨a, cap, c0, c1, c2, c3, f0, f1, f2, f3, _, _, _, _⟩ := h.open
  by_cases hn : r.has n = true
  · have hn' := hn
    simp [R.has] at hn'
    obtain ⟨k, rfl⟩ : ∃ k : Nat, n = (k : Int) := ⟨n.toNat, by omega⟩
    have e2 : trimM m r k = m.used := by simp [trimM, hn]
    have hg1 : ((k : Int) < 0) = False := by simp
    have hkl : k ≤ r.data.length := by omega
    have hg2 : ¬ (r.data.length < k) := by omega
    rcases errUse_cases m with he | he
    · have e1 : trimErr m r k = 0 := by simp [trimErr, hn, he]
      have e3 : trimR m r k = r.cut k := by simp [trimR, hn, he]
      rw [e1, e2, e3]
      clear e1 e2 e3 hn hn'
      go_enter Try.func85, Try.ntmps85
      go_wp2_with (first
        | (go_at_call 81; refine (use_calls B m _ hm hf).mono ?_; rintro e w3 ⟨rfl, hm3, hc3⟩
           have h3 := h.mains hc3
           rw [he]
           clear h hm c0 c1 c2 c3 f0 f1 f2 f3 he)
        | (go_at_call 125; refine (cut_calls F B b r k _ h3 hkl).mono ?_; rintro e w4 ⟨rfl, h4, hc4⟩))
      go_ret
      exact ⟨rfl, h4, hm3.chg hc4 hBb, (chg_mains hc3).next hc4 (fun k _ x => .inr (.inl x))⟩
    · have e1 : trimErr m r k = 4 := by simp [trimErr, hn, he]
      have e3 : trimR m r k = r := by simp [trimR, hn, he]
      rw [e1, e2, e3]
      clear e1 e2 e3 hn hn'
      go_enter Try.func85, Try.ntmps85
      go_wp2_with (go_at_call 81; refine (use_calls B m _ hm hf).mono ?_; rintro e w3 ⟨rfl, hm3, hc3⟩
                   rw [he])
      go_ret
      exact ⟨rfl, h.mains hc3, hm3, chg_mains hc3⟩
  · have e1 : trimErr m r n = 1 := by simp [trimErr, hn]
    have e2 : trimM m r n = m := by simp [trimM, hn]
    have e3 : trimR m r n = r := by simp [trimR, hn]
    rw [e1, e2, e3]
    clear e1 e2 e3
    simp [R.has] at hn
    by_cases hg1 : n < 0
    · go_enter Try.func85, Try.ntmps85
      go_wp2
      go_ret
      exact ⟨rfl, h, hm, Chg.refl _ _⟩
    · have hg2 : (r.data.length : Int) < n := hn (by omega)
      clear hn
      go_enter Try.func85, Try.ntmps85
      go_wp2
      go_ret
      exact ⟨rfl, h, hm, Chg.refl _ _⟩

def readS (m : M) (r : R) : ByteArray := if m.on then bs r.data else ⟨#[]⟩
def readE (m : M) : Int := if m.on then 0 else 4

set_option maxHeartbeats 800000 in
theorem read_calls (F : Nat → Prop) (B b : Nat) (m : M) (r : R) (w : World) (h : Is w F B b r) (hm : Row w B 147 m.cells) :
    Calls Try.prog 83 #[.pointer (some ⟨b, 0, none⟩)] w fun e w' => e = .returned (.tuple #[.string (readS m r), .int .i64 (readE m)]) ∧ w' = w := by
  obtain ⟨a, cap, c0, c1, c2, c3, f0, f1, f2, f3, hr, ho, _⟩ := h.open
  cases hon : m.on
  · have e1 : readS m r = ⟨#[]⟩ := by simp [readS, hon]
    have e2 : readE m = 4 := by simp [readE, hon]
    rw [e1, e2]
    clear e1 e2
    go_enter Try.func83, Try.ntmps83
    go_wp2_with (go_at_call 124; refine (ison_calls B m _ hm).mono ?_; rintro e w3 ⟨rfl, rfl⟩; rw [hon])
    go_ret2
    exact ⟨rfl, rfl⟩
  · have e1 : readS m r = bs r.data := by simp [readS, hon]
    have e2 : readE m = 0 := by simp [readE, hon]
    rw [e1, e2]
    clear e1 e2
    have hcv : (convert 112 9 (.slice a r.data.length cap)).run Try.prog w = .ok (.string (bs r.data)) w := run_string_own ho Try.underlying112 Try.underlying5 Try.underlying9
    clear h hr ho
    go_enter Try.func83, Try.ntmps83
    go_wp2_with (go_at_call 124; refine (ison_calls B m _ hm).mono ?_; rintro e w3 ⟨rfl, rfl⟩; rw [hon])
    go_ret2
    exact ⟨rfl, rfl⟩

def settleErr (m : M) : Int := if m.on then 13 else 0
def settleR (m : M) (r : R) (n : Int) : R := if m.on then r else r.cut (kept r n)
theorem kept_le {r : R} (n : Int) (h : r.safe ≤ r.data.length) : kept r n ≤ r.data.length := by
  unfold kept
  have h1 := Int.emod_lt_of_pos (IntKind.u64.wrap n) (show (0 : Int) < ((r.data.length - r.safe : Nat) : Int) + 1 by omega)
  have h2 := Int.emod_nonneg (IntKind.u64.wrap n) (show ((r.data.length - r.safe : Nat) : Int) + 1 ≠ 0 by omega)
  omega
theorem wrap_u64_nn (n : Int) : 0 ≤ IntKind.u64.wrap n := by
  simp only [IntKind.wrap, IntKind.bits, IntKind.signed]
  simp
  exact Int.emod_nonneg _ (by decide)
/-- 'safe + int(uint(n) % uint(len - safe + 1))'. -/
theorem kept_num {r : R} (n : Int) (h : r.safe ≤ r.data.length) (h2 : r.data.length ≤ 262144) : IntKind.i64.wrap ((r.safe : Int) + IntKind.i64.wrap ((IntKind.u64.wrap n).tmod ((r.data.length - r.safe : Nat) + 1 : Int))) = (kept r n : Int) := by
  unfold kept
  rw [Int.tmod_eq_emod_of_nonneg (wrap_u64_nn n)]
  have h1 := Int.emod_lt_of_pos (IntKind.u64.wrap n) (show (0 : Int) < ((r.data.length - r.safe : Nat) : Int) + 1 by omega)
  have h3 := Int.emod_nonneg (IntKind.u64.wrap n) (show ((r.data.length - r.safe : Nat) : Int) + 1 ≠ 0 by omega)
  generalize IntKind.u64.wrap n % (((r.data.length - r.safe : Nat) : Int) + 1) = y at h1 h3
  have e1 : IntKind.i64.wrap y = y := by rw [IntKind.wrap_i64]; omega
  rw [e1, IntKind.wrap_i64]
  omega

set_option maxHeartbeats 800000 in
set_option maxRecDepth 4000 in
theorem settle_calls (F : Nat → Prop) (B b : Nat) (m : M) (r : R) (n : Int) (w : World) (h : Is w F B b r) (hm : Row w B 147 m.cells) :
    Calls Try.prog 67 #[.pointer (some ⟨b, 0, none⟩), .int .i64 n] w fun e w' => e = .returned (.int .i64 (settleErr m)) ∧ Is w' F B b (settleR m r n) ∧ Row w' B 147 m.cells ∧ Chg (Own F B b) w w' := by
  obtain ⟨hk1, hk2, hk3⟩ := h.2.2.2.2.1
  have hBb := h.1
  have hbl := h.2.2.1
  obtain ⟨a, cap, c0, c1, c2, c3, f0, f1, f2, f3, _, _, _, _⟩ := h.open
  cases hon : m.on
  · have e1 : settleErr m = 0 := by simp [settleErr, hon]
    have e2 : settleR m r n = r.cut (kept r n) := by simp [settleR, hon]
    rw [e1, e2]
    clear e1 e2
    go_enter Try.func67, Try.ntmps67
    go_wp2_with (go_at_call 124; refine (ison_calls B m _ hm).mono ?_; rintro e w3 ⟨rfl, rfl⟩; rw [hon])
    go_quiet (fail)
    go_wp2
    have hkd : (r.data.length : Int) - (r.safe : Int) = ((r.data.length - r.safe : Nat) : Int) := by omega
    rw [hkd]
    have hkn := kept_num (r := r) n hk1 (by omega)
    have hkl := kept_le (r := r) n hk1
    have hnz : ((r.data.length - r.safe : Nat) : Int) + 1 ≠ 0 := by omega
    have hnz' : ((((r.data.length - r.safe : Nat) : Int) + 1) == 0) = false := by simp; omega
    have hw1 : IntKind.i64.wrap (((r.data.length - r.safe : Nat) : Int) + 1) = ((r.data.length - r.safe : Nat) : Int) + 1 := by rw [IntKind.wrap_i64]; omega
    have hw2 : IntKind.u64.wrap (((r.data.length - r.safe : Nat) : Int) + 1) = ((r.data.length - r.safe : Nat) : Int) + 1 := by simp only [IntKind.wrap, IntKind.bits, IntKind.signed]; simp; omega
    clear hkd
    replace h := h.drewN nq
    replace hm := hm.drewN nq
    replace c2 : (w3.drewN nq).cell? ⟨b, 2, none⟩ = some (.int .i64 (r.safe : Int)) := c2
    have hc0 : Chg (Own F B b) w3 (w3.drewN nq) := (Chg.refl _ _).drewN _
    clear c0 c1 c3 f0 f1 f2 f3
    generalize w3.drewN nq = w4 at *
    go_region_with (go_at_call 125; refine (cut_calls F B b r (kept r n) _ (Is.drew h) hkl).mono ?_; rintro e w5 ⟨rfl, h5, hc5⟩)
    all_goals
      go_wp2
      go_ret
      exact ⟨rfl, h5, (Row.drew hm).chg hc5 hBb, (hc0.drew).next hc5 (fun k _ x => .inr (.inl x))⟩
  · have e1 : settleErr m = 13 := by simp [settleErr, hon]
    have e2 : settleR m r n = r := by simp [settleR, hon]
    rw [e1, e2]
    clear e1 e2
    go_enter Try.func67, Try.ntmps67
    go_wp2_with (go_at_call 124; refine (ison_calls B m _ hm).mono ?_; rintro e w3 ⟨rfl, rfl⟩; rw [hon])
    go_ret
    exact ⟨rfl, h, hm, Chg.refl _ _⟩
end Go.Proofs.Ytcfjooeagfollaa.Reel
