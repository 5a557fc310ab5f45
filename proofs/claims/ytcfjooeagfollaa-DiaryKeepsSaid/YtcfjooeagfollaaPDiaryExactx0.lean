-- PRINTED BY print.sh 35421559b90ae4d0a3588c463048766b98c2df88dd9212a6774a882060cdf62d: not written by this session
import Derived.Test.YtcfjooeagfollaaProg
import Derived.Below
import Derived.Deep.Draws
import Derived.Deep.AppendLies
import Derived.Maps.AppendAt
import Derived.OwnWalk
import Derived.Laws.BytesArg
import Derived.Laws.MakeOwn
import Derived.Laws.OwnMore
import Derived.Deep.OwnRows
import Derived.Tactics
import Derived.Lib.ConvBytes
import Derived.Laws.Slices
import Derived.WalkKit
import Derived.KernelRfl
import Derived.RowKit3
import Derived.Deep.LoopGhost
import Derived.Deep.QuietTactic
import Derived.BigQuiet
import Derived.WideLaws
import Derived.Deep.DeepCutAuto
import Derived.Deep.CutBlock
import Derived.Deep.RegionHeld3
import Derived.Laws.Rows
import Derived.Lib.AppendStr
import Derived.ArgAppend
import Derived.Laws.IdiomCopy
import Derived.OrdersHeld
import Derived.Laws.BitsLemmas
import Derived.RowKit
import Derived.Test.YtcfjooeagfollaaWWords
import Derived.Test.YtcfjooeagfollaaWLast
import Derived.Test.YtcfjooeagfollaaWTab
import Derived.Test.YtcfjooeagfollaaWFour
import Derived.Test.YtcfjooeagfollaaWQPut
import Derived.Test.YtcfjooeagfollaaWApart
import Derived.Test.YtcfjooeagfollaaWArr
import Derived.Test.YtcfjooeagfollaaWZeros
import Derived.Test.YtcfjooeagfollaaWFoot
import Derived.Test.YtcfjooeagfollaaWKept
import Derived.Test.YtcfjooeagfollaaWShare
import Derived.Test.YtcfjooeagfollaaWN
import Derived.Test.YtcfjooeagfollaaWFootNe
import Derived.Test.YtcfjooeagfollaaWAt
import Derived.Test.YtcfjooeagfollaaWEqStruct
import Derived.Test.YtcfjooeagfollaaWRepsOne
import Derived.Test.YtcfjooeagfollaaWInv
import Derived.Test.YtcfjooeagfollaaWInvWords
import Derived.Test.YtcfjooeagfollaaWGuard
import Derived.Test.YtcfjooeagfollaaWNEv
import Derived.Test.YtcfjooeagfollaaWMore
namespace Go.Proofs.Ytcfjooeagfollaa.PDiaryExact
open Go.RowKit Go.Proofs.YtcfjooeagfollaaW.PrintWords Go.Proofs.YtcfjooeagfollaaW.PrintLast Go.Proofs.YtcfjooeagfollaaW.PrintMore
attribute [local go_sem] max2_int min2_int max_two min_two max_three min_three max_four min_four   -- for this text's walks alone
set_option linter.unusedVariables false
set_option linter.unusedSimpArgs false



def errW : Option Int → Value
  | none => .nilIface
  | some c => .iface 0 (.int .i64 c)
theorem errW_none : errW none = .nilIface := rfl
theorem errW_some (c : Int) : errW (some c) = .iface 0 (.int .i64 c) := rfl

theorem info5 : (Try.prog.info? 5).map (fun i => (i.zero, i.size, i.bytes)) = some (some (.int .u8 0), 1, 1) := by kernel_rfl
-- the values' own types
/-! #### struct type 161 -/
structure S161 where
  f0 : Int
  f1 : ByteArray
def z161 : S161 := ⟨(0 : Int), (⟨#[]⟩ : ByteArray)⟩
def k161 : Kd S161 := Kd.iso (Kd.pair (Kd.int .i64) Kd.string) (fun x : S161 => (x.f0, x.f1))
theorem k161_open {w : World} {x : S161} {cs : List Value} (h : k161.K w x cs) : cs = [.int .i64 x.f0, .string x.f1] := by
  obtain ⟨_, _, rfl, rfl, rfl⟩ := h
  exact rfl
theorem k161_openM {w : World} {base : Nat} {ok : Nat → Prop} {x : S161} {cs : List Value} (h : k161.M w base ok x cs) : cs = [.int .i64 x.f0, .string x.f1] := by
  obtain ⟨_, _, rfl, rfl, rfl⟩ := h
  exact rfl
theorem k161_mk (w : World) (x : S161)  : k161.K w x [.int .i64 x.f0, .string x.f1] := ⟨[.int .i64 x.f0], [.string x.f1], rfl, rfl, rfl⟩
theorem k161_mkM (w : World) (base : Nat) (ok : Nat → Prop) (x : S161)  : k161.M w base ok x [.int .i64 x.f0, .string x.f1] := ⟨[.int .i64 x.f0], [.string x.f1], rfl, rfl, rfl⟩
theorem k161_mkF (W : World) (ok : Nat → Prop) (x : S161) : Kd.FK k161 W ok x [.int .i64 x.f0, .string x.f1] := fun W2 _ => k161_mk W2 x
def rd_T161 (xs : List S161) (i : Int) : S161 := xs.getD i.toNat z161
theorem at_T161 {w : World} {A : Option Addr} {n : Nat} {xs : List S161} (h : Kd.C k161 w A n xs) (i : Int) (h0 : 0 ≤ i) (h1 : i < n) : ∃ ad , A = some ad ∧ w.cell? (ad.add (i.toNat * 2)) = some (.int .i64 (rd_T161 xs i).f0) ∧ w.cell? ⟨(ad.add (i.toNat * 2)).block, (ad.add (i.toNat * 2)).off + 1, none⟩ = some (.string (rd_T161 xs i).f1) := by
  obtain ⟨ad, c, e, _, hK, hc0⟩ := Kd.C_get h z161 i h0 h1
  have hc : ∀ j u, c[j]? = some u → w.cell? (ad.add (i.toNat * 2 + j)) = some u := hc0
  obtain rfl := k161_open hK
  exact ⟨ad, e, hc 0 _ rfl, by rw [← add_field _ _ 1 (by omega)]; exact hc 1 _ rfl⟩

/-! #### struct type 163 -/
structure S163 where
  f0 : Int
  f1 : Int
def z163 : S163 := ⟨(0 : Int), (0 : Int)⟩
def k163 : Kd S163 := Kd.iso (Kd.pair (Kd.int .i64) (Kd.int .i64)) (fun x : S163 => (x.f0, x.f1))
theorem k163_open {w : World} {x : S163} {cs : List Value} (h : k163.K w x cs) : cs = [.int .i64 x.f0, .int .i64 x.f1] := by
  obtain ⟨_, _, rfl, rfl, rfl⟩ := h
  exact rfl
theorem k163_openM {w : World} {base : Nat} {ok : Nat → Prop} {x : S163} {cs : List Value} (h : k163.M w base ok x cs) : cs = [.int .i64 x.f0, .int .i64 x.f1] := by
  obtain ⟨_, _, rfl, rfl, rfl⟩ := h
  exact rfl
theorem k163_mk (w : World) (x : S163)  : k163.K w x [.int .i64 x.f0, .int .i64 x.f1] := ⟨[.int .i64 x.f0], [.int .i64 x.f1], rfl, rfl, rfl⟩
theorem k163_mkM (w : World) (base : Nat) (ok : Nat → Prop) (x : S163)  : k163.M w base ok x [.int .i64 x.f0, .int .i64 x.f1] := ⟨[.int .i64 x.f0], [.int .i64 x.f1], rfl, rfl, rfl⟩
theorem k163_mkF (W : World) (ok : Nat → Prop) (x : S163) : Kd.FK k163 W ok x [.int .i64 x.f0, .int .i64 x.f1] := fun W2 _ => k163_mk W2 x
def rd_T163 (xs : List S163) (i : Int) : S163 := xs.getD i.toNat z163
theorem at_T163 {w : World} {A : Option Addr} {n : Nat} {xs : List S163} (h : Kd.C k163 w A n xs) (i : Int) (h0 : 0 ≤ i) (h1 : i < n) : ∃ ad , A = some ad ∧ w.cell? (ad.add (i.toNat * 2)) = some (.int .i64 (rd_T163 xs i).f0) ∧ w.cell? ⟨(ad.add (i.toNat * 2)).block, (ad.add (i.toNat * 2)).off + 1, none⟩ = some (.int .i64 (rd_T163 xs i).f1) := by
  obtain ⟨ad, c, e, _, hK, hc0⟩ := Kd.C_get h z163 i h0 h1
  have hc : ∀ j u, c[j]? = some u → w.cell? (ad.add (i.toNat * 2 + j)) = some u := hc0
  obtain rfl := k163_open hK
  exact ⟨ad, e, hc 0 _ rfl, by rw [← add_field _ _ 1 (by omega)]; exact hc 1 _ rfl⟩

/-! #### struct type 165 -/
structure S165 where
  f0 : Int
  f1 : Int
def z165 : S165 := ⟨(0 : Int), (0 : Int)⟩
def k165 : Kd S165 := Kd.iso (Kd.pair (Kd.int .i64) (Kd.int .i64)) (fun x : S165 => (x.f0, x.f1))
theorem k165_open {w : World} {x : S165} {cs : List Value} (h : k165.K w x cs) : cs = [.int .i64 x.f0, .int .i64 x.f1] := by
  obtain ⟨_, _, rfl, rfl, rfl⟩ := h
  exact rfl
theorem k165_openM {w : World} {base : Nat} {ok : Nat → Prop} {x : S165} {cs : List Value} (h : k165.M w base ok x cs) : cs = [.int .i64 x.f0, .int .i64 x.f1] := by
  obtain ⟨_, _, rfl, rfl, rfl⟩ := h
  exact rfl
theorem k165_mk (w : World) (x : S165)  : k165.K w x [.int .i64 x.f0, .int .i64 x.f1] := ⟨[.int .i64 x.f0], [.int .i64 x.f1], rfl, rfl, rfl⟩
theorem k165_mkM (w : World) (base : Nat) (ok : Nat → Prop) (x : S165)  : k165.M w base ok x [.int .i64 x.f0, .int .i64 x.f1] := ⟨[.int .i64 x.f0], [.int .i64 x.f1], rfl, rfl, rfl⟩
theorem k165_mkF (W : World) (ok : Nat → Prop) (x : S165) : Kd.FK k165 W ok x [.int .i64 x.f0, .int .i64 x.f1] := fun W2 _ => k165_mk W2 x
def rd_T165 (xs : List S165) (i : Int) : S165 := xs.getD i.toNat z165
theorem at_T165 {w : World} {A : Option Addr} {n : Nat} {xs : List S165} (h : Kd.C k165 w A n xs) (i : Int) (h0 : 0 ≤ i) (h1 : i < n) : ∃ ad , A = some ad ∧ w.cell? (ad.add (i.toNat * 2)) = some (.int .i64 (rd_T165 xs i).f0) ∧ w.cell? ⟨(ad.add (i.toNat * 2)).block, (ad.add (i.toNat * 2)).off + 1, none⟩ = some (.int .i64 (rd_T165 xs i).f1) := by
  obtain ⟨ad, c, e, _, hK, hc0⟩ := Kd.C_get h z165 i h0 h1
  have hc : ∀ j u, c[j]? = some u → w.cell? (ad.add (i.toNat * 2 + j)) = some u := hc0
  obtain rfl := k165_open hK
  exact ⟨ad, e, hc 0 _ rfl, by rw [← add_field _ _ 1 (by omega)]; exact hc 1 _ rfl⟩

def rd_L6 (xs : List (List S161)) (i : Int) : (List S161) := xs.getD i.toNat ([] : List S161)
theorem at_L6 {w : World} {A : Option Addr} {n : Nat} {xs : List (List S161)} (h : Kd.C (Kd.slice 161 k161) w A n xs) (i : Int) (h0 : 0 ≤ i) (h1 : i < n) : ∃ ad A0 c0, A = some ad ∧ w.cell? (ad.add i.toNat) = some (.slice A0 (rd_L6 xs i).length c0) ∧ (rd_L6 xs i).length ≤ c0 ∧ k161.C w A0 (rd_L6 xs i).length (rd_L6 xs i) := by
  obtain ⟨ad, c, e, _, hK, hc0⟩ := Kd.C_get h ([] : List S161) i h0 h1
  have hc : ∀ j u, c[j]? = some u → w.cell? (ad.add (i.toNat * 1 + j)) = some u := hc0
  obtain ⟨A0, c0, rfl, l0, g0⟩ := hK
  exact ⟨ad, A0, c0, e, by have hq := hc 0 _ rfl; rwa [Nat.mul_one, Nat.add_zero] at hq, l0, g0⟩

/-! #### struct type 54 -/
structure S54 where
  f0 : Int
  f1 : Int
  f2 : ByteArray
  f3 : ByteArray
def z54 : S54 := ⟨(0 : Int), (0 : Int), (⟨#[]⟩ : ByteArray), (⟨#[]⟩ : ByteArray)⟩
def k54 : Kd S54 := Kd.iso (Kd.pair (Kd.int .i64) (Kd.pair (Kd.int .i64) (Kd.pair Kd.string Kd.string))) (fun x : S54 => (x.f0, x.f1, x.f2, x.f3))
theorem k54_open {w : World} {x : S54} {cs : List Value} (h : k54.K w x cs) : cs = [.int .i64 x.f0, .int .i64 x.f1, .string x.f2, .string x.f3] := by
  obtain ⟨_, _, rfl, rfl, ⟨_, _, rfl, rfl, ⟨_, _, rfl, rfl, rfl⟩⟩⟩ := h
  exact rfl
theorem k54_openM {w : World} {base : Nat} {ok : Nat → Prop} {x : S54} {cs : List Value} (h : k54.M w base ok x cs) : cs = [.int .i64 x.f0, .int .i64 x.f1, .string x.f2, .string x.f3] := by
  obtain ⟨_, _, rfl, rfl, ⟨_, _, rfl, rfl, ⟨_, _, rfl, rfl, rfl⟩⟩⟩ := h
  exact rfl
theorem k54_mk (w : World) (x : S54)  : k54.K w x [.int .i64 x.f0, .int .i64 x.f1, .string x.f2, .string x.f3] := ⟨[.int .i64 x.f0], [.int .i64 x.f1, .string x.f2, .string x.f3], rfl, rfl, ⟨[.int .i64 x.f1], [.string x.f2, .string x.f3], rfl, rfl, ⟨[.string x.f2], [.string x.f3], rfl, rfl, rfl⟩⟩⟩
theorem k54_mkM (w : World) (base : Nat) (ok : Nat → Prop) (x : S54)  : k54.M w base ok x [.int .i64 x.f0, .int .i64 x.f1, .string x.f2, .string x.f3] := ⟨[.int .i64 x.f0], [.int .i64 x.f1, .string x.f2, .string x.f3], rfl, rfl, ⟨[.int .i64 x.f1], [.string x.f2, .string x.f3], rfl, rfl, ⟨[.string x.f2], [.string x.f3], rfl, rfl, rfl⟩⟩⟩
theorem k54_mkF (W : World) (ok : Nat → Prop) (x : S54) : Kd.FK k54 W ok x [.int .i64 x.f0, .int .i64 x.f1, .string x.f2, .string x.f3] := fun W2 _ => k54_mk W2 x
def rd_T54 (xs : List S54) (i : Int) : S54 := xs.getD i.toNat z54
theorem at_T54 {w : World} {A : Option Addr} {n : Nat} {xs : List S54} (h : Kd.C k54 w A n xs) (i : Int) (h0 : 0 ≤ i) (h1 : i < n) : ∃ ad , A = some ad ∧ w.cell? (ad.add (i.toNat * 4)) = some (.int .i64 (rd_T54 xs i).f0) ∧ w.cell? ⟨(ad.add (i.toNat * 4)).block, (ad.add (i.toNat * 4)).off + 1, none⟩ = some (.int .i64 (rd_T54 xs i).f1) ∧ w.cell? ⟨(ad.add (i.toNat * 4)).block, (ad.add (i.toNat * 4)).off + 2, none⟩ = some (.string (rd_T54 xs i).f2) ∧ w.cell? ⟨(ad.add (i.toNat * 4)).block, (ad.add (i.toNat * 4)).off + 3, none⟩ = some (.string (rd_T54 xs i).f3) := by
  obtain ⟨ad, c, e, _, hK, hc0⟩ := Kd.C_get h z54 i h0 h1
  have hc : ∀ j u, c[j]? = some u → w.cell? (ad.add (i.toNat * 4 + j)) = some u := hc0
  obtain rfl := k54_open hK
  exact ⟨ad, e, hc 0 _ rfl, by rw [← add_field _ _ 1 (by omega)]; exact hc 1 _ rfl, by rw [← add_field _ _ 2 (by omega)]; exact hc 2 _ rfl, by rw [← add_field _ _ 3 (by omega)]; exact hc 3 _ rfl⟩

def rd_L8 (xs : List (List S163)) (i : Int) : (List S163) := xs.getD i.toNat ([] : List S163)
theorem at_L8 {w : World} {A : Option Addr} {n : Nat} {xs : List (List S163)} (h : Kd.C (Kd.slice 163 k163) w A n xs) (i : Int) (h0 : 0 ≤ i) (h1 : i < n) : ∃ ad A0 c0, A = some ad ∧ w.cell? (ad.add i.toNat) = some (.slice A0 (rd_L8 xs i).length c0) ∧ (rd_L8 xs i).length ≤ c0 ∧ k163.C w A0 (rd_L8 xs i).length (rd_L8 xs i) := by
  obtain ⟨ad, c, e, _, hK, hc0⟩ := Kd.C_get h ([] : List S163) i h0 h1
  have hc : ∀ j u, c[j]? = some u → w.cell? (ad.add (i.toNat * 1 + j)) = some u := hc0
  obtain ⟨A0, c0, rfl, l0, g0⟩ := hK
  exact ⟨ad, A0, c0, e, by have hq := hc 0 _ rfl; rwa [Nat.mul_one, Nat.add_zero] at hq, l0, g0⟩

def rd_L9 (xs : List (List S165)) (i : Int) : (List S165) := xs.getD i.toNat ([] : List S165)
theorem at_L9 {w : World} {A : Option Addr} {n : Nat} {xs : List (List S165)} (h : Kd.C (Kd.slice 165 k165) w A n xs) (i : Int) (h0 : 0 ≤ i) (h1 : i < n) : ∃ ad A0 c0, A = some ad ∧ w.cell? (ad.add i.toNat) = some (.slice A0 (rd_L9 xs i).length c0) ∧ (rd_L9 xs i).length ≤ c0 ∧ k165.C w A0 (rd_L9 xs i).length (rd_L9 xs i) := by
  obtain ⟨ad, c, e, _, hK, hc0⟩ := Kd.C_get h ([] : List S165) i h0 h1
  have hc : ∀ j u, c[j]? = some u → w.cell? (ad.add (i.toNat * 1 + j)) = some u := hc0
  obtain ⟨A0, c0, rfl, l0, g0⟩ := hK
  exact ⟨ad, A0, c0, e, by have hq := hc 0 _ rfl; rwa [Nat.mul_one, Nat.add_zero] at hq, l0, g0⟩

/-! #### struct type 58 -/
structure S58 where
  f0 : Int
  f1 : Int
  f2 : Int
  f3 : Int
  f4 : (List S161)
  f5 : S54
  f6 : (List S163)
  f7 : (List S165)
def z58 : S58 := ⟨(0 : Int), (0 : Int), (0 : Int), (0 : Int), ([] : List S161), z54, ([] : List S163), ([] : List S165)⟩
def k58 : Kd S58 := Kd.iso (Kd.pair (Kd.int .i64) (Kd.pair (Kd.int .i64) (Kd.pair (Kd.int .i64) (Kd.pair (Kd.int .i64) (Kd.pair (Kd.slice 161 k161) (Kd.pair k54 (Kd.pair (Kd.slice 163 k163) (Kd.slice 165 k165)))))))) (fun x : S58 => (x.f0, x.f1, x.f2, x.f3, x.f4, x.f5, x.f6, x.f7))
theorem k58_open {w : World} {x : S58} {cs : List Value} (h : k58.K w x cs) : ∃ A4 c4 A9 c9 A10 c10, cs = [.int .i64 x.f0, .int .i64 x.f1, .int .i64 x.f2, .int .i64 x.f3, .slice A4 x.f4.length c4, .int .i64 x.f5.f0, .int .i64 x.f5.f1, .string x.f5.f2, .string x.f5.f3, .slice A9 x.f6.length c9, .slice A10 x.f7.length c10] ∧ x.f4.length ≤ c4 ∧ k161.C w A4 x.f4.length x.f4 ∧ x.f6.length ≤ c9 ∧ k163.C w A9 x.f6.length x.f6 ∧ x.f7.length ≤ c10 ∧ k165.C w A10 x.f7.length x.f7 := by
  obtain ⟨_, _, rfl, rfl, ⟨_, _, rfl, rfl, ⟨_, _, rfl, rfl, ⟨_, _, rfl, rfl, ⟨_, _, rfl, ⟨A4, c4, rfl, l4, g4⟩, ⟨_, _, rfl, s5, ⟨_, _, rfl, ⟨A9, c9, rfl, l9, g9⟩, ⟨A10, c10, rfl, l10, g10⟩⟩⟩⟩⟩⟩⟩⟩ := h
  obtain rfl := k54_open s5
  exact ⟨A4, c4, A9, c9, A10, c10, rfl, l4, g4, l9, g9, l10, g10⟩
theorem k58_openM {w : World} {base : Nat} {ok : Nat → Prop} {x : S58} {cs : List Value} (h : k58.M w base ok x cs) : ∃ v4 v9 v10, cs = [.int .i64 x.f0, .int .i64 x.f1, .int .i64 x.f2, .int .i64 x.f3, v4, .int .i64 x.f5.f0, .int .i64 x.f5.f1, .string x.f5.f2, .string x.f5.f3, v9, v10] ∧ k161.R 161 w base ok v4 x.f4 ∧ k163.R 163 w base ok v9 x.f6 ∧ k165.R 165 w base ok v10 x.f7 := by
  obtain ⟨_, _, rfl, rfl, ⟨_, _, rfl, rfl, ⟨_, _, rfl, rfl, ⟨_, _, rfl, rfl, ⟨_, _, rfl, ⟨v4, rfl, g4⟩, ⟨_, _, rfl, s5, ⟨_, _, rfl, ⟨v9, rfl, g9⟩, ⟨v10, rfl, g10⟩⟩⟩⟩⟩⟩⟩⟩ := h
  obtain rfl := k54_openM s5
  exact ⟨v4, v9, v10, rfl, g4, g9, g10⟩
theorem k58_mk (w : World) (x : S58) {A4 : Option Addr} {c4 : Nat} (l4 : x.f4.length ≤ c4) (g4 : k161.C w A4 x.f4.length x.f4) {A9 : Option Addr} {c9 : Nat} (l9 : x.f6.length ≤ c9) (g9 : k163.C w A9 x.f6.length x.f6) {A10 : Option Addr} {c10 : Nat} (l10 : x.f7.length ≤ c10) (g10 : k165.C w A10 x.f7.length x.f7) : k58.K w x [.int .i64 x.f0, .int .i64 x.f1, .int .i64 x.f2, .int .i64 x.f3, .slice A4 x.f4.length c4, .int .i64 x.f5.f0, .int .i64 x.f5.f1, .string x.f5.f2, .string x.f5.f3, .slice A9 x.f6.length c9, .slice A10 x.f7.length c10] := ⟨[.int .i64 x.f0], [.int .i64 x.f1, .int .i64 x.f2, .int .i64 x.f3, .slice A4 x.f4.length c4, .int .i64 x.f5.f0, .int .i64 x.f5.f1, .string x.f5.f2, .string x.f5.f3, .slice A9 x.f6.length c9, .slice A10 x.f7.length c10], rfl, rfl, ⟨[.int .i64 x.f1], [.int .i64 x.f2, .int .i64 x.f3, .slice A4 x.f4.length c4, .int .i64 x.f5.f0, .int .i64 x.f5.f1, .string x.f5.f2, .string x.f5.f3, .slice A9 x.f6.length c9, .slice A10 x.f7.length c10], rfl, rfl, ⟨[.int .i64 x.f2], [.int .i64 x.f3, .slice A4 x.f4.length c4, .int .i64 x.f5.f0, .int .i64 x.f5.f1, .string x.f5.f2, .string x.f5.f3, .slice A9 x.f6.length c9, .slice A10 x.f7.length c10], rfl, rfl, ⟨[.int .i64 x.f3], [.slice A4 x.f4.length c4, .int .i64 x.f5.f0, .int .i64 x.f5.f1, .string x.f5.f2, .string x.f5.f3, .slice A9 x.f6.length c9, .slice A10 x.f7.length c10], rfl, rfl, ⟨[.slice A4 x.f4.length c4], [.int .i64 x.f5.f0, .int .i64 x.f5.f1, .string x.f5.f2, .string x.f5.f3, .slice A9 x.f6.length c9, .slice A10 x.f7.length c10], rfl, ⟨A4, c4, rfl, l4, g4⟩, ⟨[.int .i64 x.f5.f0, .int .i64 x.f5.f1, .string x.f5.f2, .string x.f5.f3], [.slice A9 x.f6.length c9, .slice A10 x.f7.length c10], rfl, (k54_mk w x.f5 ), ⟨[.slice A9 x.f6.length c9], [.slice A10 x.f7.length c10], rfl, ⟨A9, c9, rfl, l9, g9⟩, ⟨A10, c10, rfl, l10, g10⟩⟩⟩⟩⟩⟩⟩⟩
theorem k58_mkM (w : World) (base : Nat) (ok : Nat → Prop) (x : S58) {v4 : Value} (g4 : k161.R 161 w base ok v4 x.f4) {v9 : Value} (g9 : k163.R 163 w base ok v9 x.f6) {v10 : Value} (g10 : k165.R 165 w base ok v10 x.f7) : k58.M w base ok x [.int .i64 x.f0, .int .i64 x.f1, .int .i64 x.f2, .int .i64 x.f3, v4, .int .i64 x.f5.f0, .int .i64 x.f5.f1, .string x.f5.f2, .string x.f5.f3, v9, v10] := ⟨[.int .i64 x.f0], [.int .i64 x.f1, .int .i64 x.f2, .int .i64 x.f3, v4, .int .i64 x.f5.f0, .int .i64 x.f5.f1, .string x.f5.f2, .string x.f5.f3, v9, v10], rfl, rfl, ⟨[.int .i64 x.f1], [.int .i64 x.f2, .int .i64 x.f3, v4, .int .i64 x.f5.f0, .int .i64 x.f5.f1, .string x.f5.f2, .string x.f5.f3, v9, v10], rfl, rfl, ⟨[.int .i64 x.f2], [.int .i64 x.f3, v4, .int .i64 x.f5.f0, .int .i64 x.f5.f1, .string x.f5.f2, .string x.f5.f3, v9, v10], rfl, rfl, ⟨[.int .i64 x.f3], [v4, .int .i64 x.f5.f0, .int .i64 x.f5.f1, .string x.f5.f2, .string x.f5.f3, v9, v10], rfl, rfl, ⟨[v4], [.int .i64 x.f5.f0, .int .i64 x.f5.f1, .string x.f5.f2, .string x.f5.f3, v9, v10], rfl, ⟨v4, rfl, g4⟩, ⟨[.int .i64 x.f5.f0, .int .i64 x.f5.f1, .string x.f5.f2, .string x.f5.f3], [v9, v10], rfl, (k54_mkM w base ok x.f5 ), ⟨[v9], [v10], rfl, ⟨v9, rfl, g9⟩, ⟨v10, rfl, g10⟩⟩⟩⟩⟩⟩⟩⟩
theorem k58_openF {W : World} {ok : Nat → Prop} {x : S58} {cs : List Value} (h : Kd.FK k58 W ok x cs) : ∃ A4 c4 A9 c9 A10 c10, cs = [.int .i64 x.f0, .int .i64 x.f1, .int .i64 x.f2, .int .i64 x.f3, .slice A4 x.f4.length c4, .int .i64 x.f5.f0, .int .i64 x.f5.f1, .string x.f5.f2, .string x.f5.f3, .slice A9 x.f6.length c9, .slice A10 x.f7.length c10] ∧ x.f4.length ≤ c4 ∧ Kd.F k161 W ok A4 x.f4.length x.f4 ∧ x.f6.length ≤ c9 ∧ Kd.F k163 W ok A9 x.f6.length x.f6 ∧ x.f7.length ≤ c10 ∧ Kd.F k165 W ok A10 x.f7.length x.f7 := by
  obtain ⟨A4, c4, A9, c9, A10, c10, rfl, l4, _, l9, _, l10, _⟩ := k58_open (Kd.FK_now h)
  exact ⟨A4, c4, A9, c9, A10, c10, rfl, l4, (fun W' hW => by obtain ⟨A4_, c4_, A9_, c9_, A10_, c10_, he, l4_, g4_, l9_, g9_, l10_, g10_⟩ := k58_open (h W' hW); injection (Option.some.inj (show some (Value.slice A4 x.f4.length c4) = some (Value.slice A4_ x.f4.length c4_) from congrArg (fun l => l[4]?) he)) with ha_ _ _; rw [ha_]; exact g4_), l9, (fun W' hW => by obtain ⟨A4_, c4_, A9_, c9_, A10_, c10_, he, l4_, g4_, l9_, g9_, l10_, g10_⟩ := k58_open (h W' hW); injection (Option.some.inj (show some (Value.slice A9 x.f6.length c9) = some (Value.slice A9_ x.f6.length c9_) from congrArg (fun l => l[9]?) he)) with ha_ _ _; rw [ha_]; exact g9_), l10, (fun W' hW => by obtain ⟨A4_, c4_, A9_, c9_, A10_, c10_, he, l4_, g4_, l9_, g9_, l10_, g10_⟩ := k58_open (h W' hW); injection (Option.some.inj (show some (Value.slice A10 x.f7.length c10) = some (Value.slice A10_ x.f7.length c10_) from congrArg (fun l => l[10]?) he)) with ha_ _ _; rw [ha_]; exact g10_)⟩
theorem k58_mkF (W : World) (ok : Nat → Prop) (x : S58) {A4 : Option Addr} {c4 : Nat} (l4 : x.f4.length ≤ c4) (g4 : Kd.F k161 W ok A4 x.f4.length x.f4) {A9 : Option Addr} {c9 : Nat} (l9 : x.f6.length ≤ c9) (g9 : Kd.F k163 W ok A9 x.f6.length x.f6) {A10 : Option Addr} {c10 : Nat} (l10 : x.f7.length ≤ c10) (g10 : Kd.F k165 W ok A10 x.f7.length x.f7) : Kd.FK k58 W ok x [.int .i64 x.f0, .int .i64 x.f1, .int .i64 x.f2, .int .i64 x.f3, .slice A4 x.f4.length c4, .int .i64 x.f5.f0, .int .i64 x.f5.f1, .string x.f5.f2, .string x.f5.f3, .slice A9 x.f6.length c9, .slice A10 x.f7.length c10] := fun W2 hW => k58_mk W2 x l4 (g4 W2 hW) l9 (g9 W2 hW) l10 (g10 W2 hW)
def rd_T58 (xs : List S58) (i : Int) : S58 := xs.getD i.toNat z58
theorem at_T58 {w : World} {A : Option Addr} {n : Nat} {xs : List S58} (h : Kd.C k58 w A n xs) (i : Int) (h0 : 0 ≤ i) (h1 : i < n) : ∃ ad A4 c4 A9 c9 A10 c10, A = some ad ∧ w.cell? (ad.add (i.toNat * 11)) = some (.int .i64 (rd_T58 xs i).f0) ∧ w.cell? ⟨(ad.add (i.toNat * 11)).block, (ad.add (i.toNat * 11)).off + 1, none⟩ = some (.int .i64 (rd_T58 xs i).f1) ∧ w.cell? ⟨(ad.add (i.toNat * 11)).block, (ad.add (i.toNat * 11)).off + 2, none⟩ = some (.int .i64 (rd_T58 xs i).f2) ∧ w.cell? ⟨(ad.add (i.toNat * 11)).block, (ad.add (i.toNat * 11)).off + 3, none⟩ = some (.int .i64 (rd_T58 xs i).f3) ∧ w.cell? ⟨(ad.add (i.toNat * 11)).block, (ad.add (i.toNat * 11)).off + 4, none⟩ = some (.slice A4 (rd_T58 xs i).f4.length c4) ∧ w.cell? ⟨(ad.add (i.toNat * 11)).block, (ad.add (i.toNat * 11)).off + 5, none⟩ = some (.int .i64 (rd_T58 xs i).f5.f0) ∧ w.cell? ⟨(ad.add (i.toNat * 11)).block, (ad.add (i.toNat * 11)).off + 6, none⟩ = some (.int .i64 (rd_T58 xs i).f5.f1) ∧ w.cell? ⟨(ad.add (i.toNat * 11)).block, (ad.add (i.toNat * 11)).off + 7, none⟩ = some (.string (rd_T58 xs i).f5.f2) ∧ w.cell? ⟨(ad.add (i.toNat * 11)).block, (ad.add (i.toNat * 11)).off + 8, none⟩ = some (.string (rd_T58 xs i).f5.f3) ∧ w.cell? ⟨(ad.add (i.toNat * 11)).block, (ad.add (i.toNat * 11)).off + 9, none⟩ = some (.slice A9 (rd_T58 xs i).f6.length c9) ∧ w.cell? ⟨(ad.add (i.toNat * 11)).block, (ad.add (i.toNat * 11)).off + 10, none⟩ = some (.slice A10 (rd_T58 xs i).f7.length c10) ∧ (rd_T58 xs i).f4.length ≤ c4 ∧ k161.C w A4 (rd_T58 xs i).f4.length (rd_T58 xs i).f4 ∧ (rd_T58 xs i).f6.length ≤ c9 ∧ k163.C w A9 (rd_T58 xs i).f6.length (rd_T58 xs i).f6 ∧ (rd_T58 xs i).f7.length ≤ c10 ∧ k165.C w A10 (rd_T58 xs i).f7.length (rd_T58 xs i).f7 := by
  obtain ⟨ad, c, e, _, hK, hc0⟩ := Kd.C_get h z58 i h0 h1
  have hc : ∀ j u, c[j]? = some u → w.cell? (ad.add (i.toNat * 11 + j)) = some u := hc0
  obtain ⟨A4, c4, A9, c9, A10, c10, rfl, l4, g4, l9, g9, l10, g10⟩ := k58_open hK
  exact ⟨ad, A4, c4, A9, c9, A10, c10, e, hc 0 _ rfl, by rw [← add_field _ _ 1 (by omega)]; exact hc 1 _ rfl, by rw [← add_field _ _ 2 (by omega)]; exact hc 2 _ rfl, by rw [← add_field _ _ 3 (by omega)]; exact hc 3 _ rfl, by rw [← add_field _ _ 4 (by omega)]; exact hc 4 _ rfl, by rw [← add_field _ _ 5 (by omega)]; exact hc 5 _ rfl, by rw [← add_field _ _ 6 (by omega)]; exact hc 6 _ rfl, by rw [← add_field _ _ 7 (by omega)]; exact hc 7 _ rfl, by rw [← add_field _ _ 8 (by omega)]; exact hc 8 _ rfl, by rw [← add_field _ _ 9 (by omega)]; exact hc 9 _ rfl, by rw [← add_field _ _ 10 (by omega)]; exact hc 10 _ rfl, l4, g4, l9, g9, l10, g10⟩

end Go.Proofs.Ytcfjooeagfollaa.PDiaryExact
