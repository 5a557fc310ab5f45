/- Wishes and moves as plain values; their bytes; what is told of them. -/
import Derived.Test.YtcfjooeagfollaaSignVs
import Derived.Test.YtcfjooeagfollaaBldX
namespace Go.Proofs.Ytcfjooeagfollaa.Bill
open Go.RowKit Go.Proofs.Ytcfjooeagfollaa.Mem Go.Proofs.Ytcfjooeagfollaa.Bytes Go.Proofs.Ytcfjooeagfollaa.Num Go.Proofs.Ytcfjooeagfollaa.Sign
set_option linter.unusedSimpArgs false
set_option linter.unusedVariables false
set_option maxRecDepth 20000

structure Wsh where
  k : Int
  t : Int
  key : V
  high : V
  ra : Option Addr
  rc : Nat
  row : List V
  c : Int
  val : V
  n : Int
def Wsh.cells (x : Wsh) : List Value := [.int .i64 x.k, .int .i64 x.t, .int .i64 x.key.k, .int .i64 x.key.n, .string x.key.s, .int .i64 x.high.k, .int .i64 x.high.n, .string x.high.s, .slice x.ra x.row.length x.rc, .int .i64 x.c, .int .i64 x.val.k, .int .i64 x.val.n, .string x.val.s, .int .i64 x.n]
structure Mv where
  k : Int
  n : Int
  a : Int
  w : Wsh
  p : Int
  q : Int
def Mv.cells (m : Mv) : List Value := [.int .i64 m.k, .int .i64 m.n, .int .i64 m.a, .int .i64 m.w.k, .int .i64 m.w.t, .int .i64 m.w.key.k, .int .i64 m.w.key.n, .string m.w.key.s, .int .i64 m.w.high.k, .int .i64 m.w.high.n, .string m.w.high.s, .slice m.w.ra m.w.row.length m.w.rc, .int .i64 m.w.c, .int .i64 m.w.val.k, .int .i64 m.w.val.n, .string m.w.val.s, .int .i64 m.w.n, .int .i64 m.p, .int .i64 m.q]
def noW : Wsh := ⟨0, 0, noV, noV, none, 0, [], 0, noV, 0⟩
def Wsh.only (k t : Int) : Wsh := ⟨k, t, noV, noV, none, 0, [], 0, noV, 0⟩
def Mv.only (k : Int) : Mv := ⟨k, 0, 0, noW, 0, 0⟩
def Wsh.fits (x : Wsh) : Prop := x.key.fits ∧ x.high.fits ∧ x.val.fits ∧ ∀ v ∈ x.row, v.fits
def i64 (n : Int) : Prop := -9223372036854775808 ≤ n ∧ n ≤ 9223372036854775807
def Mv.fits (m : Mv) : Prop := m.w.fits ∧ i64 m.p ∧ i64 m.q
/-- Of values the bytes; whether one can't be. -/
def vals (l : List V) : List UInt8 := l.flatMap fun v => (codeOut v).1
def valsBad (l : List V) : Bool := l.any fun v => !v.good
def oneB (n : Int) : UInt8 := UInt8.ofNat (n % 256).toNat
def oneBad (n : Int) : Bool := decide (n < 0) || decide (255 < n)
def u64 (n : Int) : Nat := (n % 18446744073709551616).toNat
def Wsh.bytes (x : Wsh) : List UInt8 := [oneB x.k, oneB x.t] ++
  if x.k = 1 then oneB x.row.length :: vals x.row
  else if x.k = 2 ∨ x.k = 4 ∨ x.k = 6 then vals [x.key]
  else if x.k = 3 then vals [x.key] ++ oneB x.c :: vals [x.val]
  else if x.k = 5 ∨ x.k = 7 then vals [x.key, x.high]
  else if x.k = 9 ∨ x.k = 10 then [oneB x.n] else []
def Wsh.bad (x : Wsh) : Bool := oneBad x.k || oneBad x.t ||
  if x.k = 1 then decide (4 < x.row.length) || oneBad x.row.length || valsBad x.row
  else if x.k = 2 ∨ x.k = 4 ∨ x.k = 6 then valsBad [x.key]
  else if x.k = 3 then valsBad [x.key] || oneBad x.c || valsBad [x.val]
  else if x.k = 5 ∨ x.k = 7 then valsBad [x.key, x.high]
  else if x.k = 9 ∨ x.k = 10 then oneBad x.n else !decide (x.k = 8)
def Wsh.told (x : Wsh) : Wsh :=
  if x.k = 1 then ⟨x.k, x.t, noV, noV, x.ra, x.rc, x.row, 0, noV, 0⟩
  else if x.k = 2 ∨ x.k = 4 ∨ x.k = 6 then ⟨x.k, x.t, x.key, noV, none, 0, [], 0, noV, 0⟩
  else if x.k = 3 then ⟨x.k, x.t, x.key, noV, none, 0, [], x.c, x.val, 0⟩
  else if x.k = 5 ∨ x.k = 7 then ⟨x.k, x.t, x.key, x.high, none, 0, [], 0, noV, 0⟩
  else if x.k = 9 ∨ x.k = 10 then ⟨x.k, x.t, noV, noV, none, 0, [], 0, noV, x.n⟩ else Wsh.only x.k x.t
def Mv.bytes (m : Mv) : List UInt8 := oneB m.k ::
  if m.k = 1 then oneB m.n :: oneB m.a :: (if m.a = 4 then m.w.bytes else [])
  else if m.k = 2 ∨ m.k = 3 ∨ m.k = 4 ∨ m.k = 8 then [oneB m.n]
  else if m.k = 9 then oneB m.n :: (le (u64 m.p) 8 ++ le (u64 m.q) 8) else []
def Mv.bad (m : Mv) : Bool := oneBad m.k ||
  if m.k = 1 then decide (m.a < 1) || decide (4 < m.a) || oneBad m.n || oneBad m.a || (if m.a = 4 then m.w.bad else false)
  else if m.k = 2 ∨ m.k = 3 ∨ m.k = 4 ∨ m.k = 8 then oneBad m.n
  else if m.k = 9 then oneBad m.n else !(decide (m.k = 5) || decide (m.k = 6) || decide (m.k = 7))
def Mv.told (m : Mv) : Mv :=
  if m.k = 1 then ⟨m.k, m.n, m.a, if m.a = 4 then m.w.told else noW, 0, 0⟩
  else if m.k = 2 ∨ m.k = 3 ∨ m.k = 4 ∨ m.k = 8 then ⟨m.k, m.n, 0, noW, 0, 0⟩
  else if m.k = 9 then ⟨m.k, m.n, 0, noW, m.p, m.q⟩ else Mv.only m.k
/-- The same but for where the row lies. -/
def Wsh.eqv (x y : Wsh) : Prop := x.k = y.k ∧ x.t = y.t ∧ x.key = y.key ∧ x.high = y.high ∧ x.row = y.row ∧ x.c = y.c ∧ x.val = y.val ∧ x.n = y.n
def Mv.eqv (x y : Mv) : Prop := x.k = y.k ∧ x.n = y.n ∧ x.a = y.a ∧ x.w.eqv y.w ∧ x.p = y.p ∧ x.q = y.q
open Classical in
noncomputable def Mv.same (x y : Mv) : Bool := decide (x.eqv y)
noncomputable def Mv.good (m : Mv) : Bool := !m.bad && m.told.same m
theorem vals_len (l : List V) : (vals l).length ≤ 9 * l.length := by
  induction l with
  | nil => simp [vals]
  | cons v r ih =>
    have h : ((codeOut v).1).length ≤ 9 := by
      unfold codeOut
      split
      · rename_i h; rw [V.code_length h]; omega
      · simp
    simp only [vals, List.flatMap_cons, List.length_append, List.length_cons] at *
    omega
/-- The row of a move lies in memory. -/
def HasM (w : World) (m : Mv) : Prop := Vs w m.w.ra m.w.row
theorem oneB_mod (n : Int) : IntKind.u8.wrap n = ((oneB n).toNat : Int) := by
  unfold oneB
  rw [UInt8.toNat_ofNat']
  simp only [IntKind.wrap, IntKind.bits, IntKind.signed]
  have h0 := Int.emod_nonneg n (show (256 : Int) ≠ 0 by decide)
  have h1 := Int.emod_lt_of_pos n (show (0 : Int) < 256 by decide)
  simp
  omega
end Go.Proofs.Ytcfjooeagfollaa.Bill
