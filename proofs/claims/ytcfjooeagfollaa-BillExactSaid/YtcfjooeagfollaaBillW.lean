/- bill.pen.wish. Printed by bill_wish.py -/
import Derived.Test.YtcfjooeagfollaaBillP
import Derived.Test.YtcfjooeagfollaaWide
namespace Go.Proofs.Ytcfjooeagfollaa.Bill
open Go.RowKit Go.Proofs.Ytcfjooeagfollaa.Mem Go.Proofs.Ytcfjooeagfollaa.Bytes Go.Proofs.Ytcfjooeagfollaa.Num Go.Proofs.Ytcfjooeagfollaa.Sign
set_option linter.unusedSimpArgs false
set_option linter.unusedVariables false
set_option maxRecDepth 20000

theorem vs_row {w : World} {b : Nat} {e : TypeId} {l : List V} (hR : Row w b e (l.flatMap V.cells)) : Vs w (some ⟨b, 0, none⟩) l := fun i hi => by
  refine ⟨⟨b, 0, none⟩, rfl, hR.lt, fun w' hb => ?_⟩
  have h := hR.below hb hR.lt
  have key : ∀ j, j < 3 → ∀ v, (l[i].cells)[j]? = some v → w'.cell? ⟨b, i * 3 + j, none⟩ = some v := fun j hj v hv => h.cell (by rw [flat_get l i j hi hj]; exact hv)
  have e0 : (⟨b, 0, none⟩ : Addr).add (i * 3) = ⟨b, i * 3, none⟩ := by unfold Addr.add; split <;> simp_all
  rw [e0]
  exact ⟨key 0 (by decide) _ rfl, key 1 (by decide) _ rfl, key 2 (by decide) _ rfl⟩
theorem built_calls (F : Nat → Prop) (b : Nat) (l : List UInt8) (bad : Bool) (vs : List V) (w : World) (h : Pen w F b l bad) (hf : ∀ v ∈ vs, v.fits) (hl : l.length + 9 * vs.length ≤ 90000000) :
    Calls Try.prog 175 #[.pointer (some ⟨b, 0, none⟩), .slice (some ⟨w.heap.size, 0, none⟩) vs.length vs.length] (w.alloc (.cells (vs.flatMap V.cells).toArray 81)) fun e w' => e = .returned (.tuple #[]) ∧ Pen w' F b (l ++ vals vs) (bad || valsBad vs) ∧ Chg (BldX.Own F b) w w' := by
  have hp := BldX.Is.beside h (.cells (vs.flatMap V.cells).toArray 81)
  have hR := Row.new w 81 (vs.flatMap V.cells)
  refine (values_calls _ b l bad vs _ vs.length _ hp (vs_row hR) (fun ad e _ => ?_) hf hl).mono ?_
  · cases e
    rintro (e | e)
    · have := BldX.Is.lt h
      have e : w.heap.size = b := e
      omega
    · exact e.2 rfl
  · rintro e w' ⟨rfl, h1, h2⟩
    refine ⟨rfl, BldX.Is.wider h1 (fun k hk => hk.1) h.1, ((Chg.refl _ _).alloc _).trans (h2.mono ?_)⟩
    rintro k _ (e | e)
    · exact .inl e
    · exact .inr e.1
abbrev F3 (F : Nat → Prop) (s : Nat) : Nat → Prop := fun k => F k ∧ k ≠ s ∧ k ≠ s + 1 ∧ k ≠ s + 1 + 1
theorem built1_calls (F : Nat → Prop) (b : Nat) (l : List UInt8) (bad : Bool) (k n : Int) (s : ByteArray) (B : Nat) (w : World) (hB : B = w.heap.size) (h : Pen w F b l bad) (hf : V.fits ⟨k, n, s⟩) (hl : l.length + 9 ≤ 90000000) :
    Calls Try.prog 175 #[.pointer (some ⟨b, 0, none⟩), .slice (some ⟨B, 0, none⟩) 1 1] (w.alloc (.cells #[.int .i64 k, .int .i64 n, .string s] 81)) fun e w' => e = .returned (.tuple #[]) ∧ Pen w' F b (l ++ vals [⟨k, n, s⟩]) (bad || valsBad [⟨k, n, s⟩]) ∧ Chg (BldX.Own F b) w w' := by
  subst hB
  exact built_calls F b l bad [⟨k, n, s⟩] w h (fun v hv => by rw [List.mem_singleton.1 hv]; exact hf) (by simpa using hl)
theorem built2_calls (F : Nat → Prop) (b : Nat) (l : List UInt8) (bad : Bool) (k n : Int) (s : ByteArray) (k' n' : Int) (s' : ByteArray) (B : Nat) (w : World) (hB : B = w.heap.size) (h : Pen w F b l bad) (hf : V.fits ⟨k, n, s⟩) (hf' : V.fits ⟨k', n', s'⟩) (hl : l.length + 18 ≤ 90000000) :
    Calls Try.prog 175 #[.pointer (some ⟨b, 0, none⟩), .slice (some ⟨B, 0, none⟩) 2 2] (w.alloc (.cells #[.int .i64 k, .int .i64 n, .string s, .int .i64 k', .int .i64 n', .string s'] 81)) fun e w' => e = .returned (.tuple #[]) ∧ Pen w' F b (l ++ vals [⟨k, n, s⟩, ⟨k', n', s'⟩]) (bad || valsBad [⟨k, n, s⟩, ⟨k', n', s'⟩]) ∧ Chg (BldX.Own F b) w w' := by
  subst hB
  exact built_calls F b l bad [⟨k, n, s⟩, ⟨k', n', s'⟩] w h (fun v hv => by rcases List.mem_cons.1 hv with rfl | hv; exact hf; rw [List.mem_singleton.1 hv]; exact hf') (by simpa using hl)
theorem three {w : World} {F : Nat → Prop} {b : Nat} {l : List UInt8} {bad : Bool} (h : Pen w F b l bad) (o1 o2 o3 : Obj) :
    Pen (((w.alloc o1).alloc o2).alloc o3) (F3 F w.heap.size) b l bad ∧ ¬ BldX.Own (F3 F w.heap.size) b w.heap.size ∧ ¬ BldX.Own (F3 F w.heap.size) b (w.heap.size + 1) ∧ ¬ BldX.Own (F3 F w.heap.size) b (w.heap.size + 1 + 1)
      ∧ (∀ k, BldX.Own (F3 F w.heap.size) b k → BldX.Own F b k) ∧ F (w.heap.size + 1) ∧ F (w.heap.size + 1 + 1) ∧ (w.heap.size + 1 + 1 ≠ b ∧ b ≠ w.heap.size + 1 + 1) ∧ w.heap.size + 1 ≠ b ∧ b ≠ w.heap.size + 1 ∧ b ≠ w.heap.size ∧ (w.heap.size + 1 + 1 ≠ w.heap.size ∧ w.heap.size + 1 + 1 ≠ w.heap.size + 1 ∧ w.heap.size ≠ w.heap.size + 1 + 1) := by
  have hlt := BldX.Is.lt h
  have h1 := BldX.Is.beside (BldX.Is.beside (BldX.Is.beside h o1) o2) o3
  refine ⟨BldX.Is.wider h1 (fun k hk => ?_) (fun x => h.1 x.1), ?_, ?_, ?_, ?_, h.2.1 _ (by omega), h.2.1 _ (by omega), ⟨by omega, by omega⟩, by omega, by omega, by omega, by omega, by omega, by omega⟩
  · obtain ⟨⟨⟨a, c⟩, d⟩, e⟩ := hk
    simp at d e
    exact ⟨a, c, d, e⟩
  · rintro (e | e)
    · have e : w.heap.size = b := e
      omega
    · exact e.2.1 rfl
  · rintro (e | e)
    · have e : w.heap.size + 1 = b := e
      omega
    · exact e.2.2.1 rfl
  · rintro (e | e)
    · have e : w.heap.size + 1 + 1 = b := e
      omega
    · exact e.2.2.2 rfl
  · rintro k (e | e)
    · exact .inl e
    · exact .inr e.1
theorem beyond {w : World} {F : Nat → Prop} {b z : Nat} {l : List UInt8} {bad : Bool} (h : Pen w F b l bad) (hz : z ≠ b) (hF : ¬ BldX.Own F b z) (i : Nat) (v : Value) : Pen (w.setCell ⟨z, i, none⟩ v) F b l bad :=
  BldX.Is.chg h (S := One z) ((Chg.refl (One z) w).put i v) (fun e => hz (show z = b from (show b = z from e).symm)) (fun k hk e => hF (.inr ((show k = z from e) ▸ hk)))
def WishPost (F : Nat → Prop) (b : Nat) (l : List UInt8) (bad : Bool) (x : Wsh) (w : World) : Prop :=
  Calls Try.prog 152 #[.pointer (some ⟨b, 0, none⟩), .agg x.cells.toArray] w fun e w' => e = .returned (.agg x.told.cells.toArray) ∧ Pen w' F b (l ++ x.bytes) (bad || x.bad) ∧ Chg (BldX.Own F b) w w'

set_option maxHeartbeats 8000000 in
theorem wish_1 (F : Nat → Prop) (b : Nat) (l : List UInt8) (bad : Bool) (t kk kn : Int) (ks : ByteArray) (hk hn : Int) (hs : ByteArray) (ra : Option Addr) (rc : Nat) (row : List V) (c vk vn : Int) (vs : ByteArray) (n : Int) (w : World) (h : Pen w F b l bad) (hV : Vs w ra row) (hN : ∀ ad, ra = some ad → row ≠ [] → ¬ BldX.Own F b ad.block) (hf : Wsh.fits ⟨1, t, ⟨kk, kn, ks⟩, ⟨hk, hn, hs⟩, ra, rc, row, c, ⟨vk, vn, vs⟩, n⟩) (hl : l.length ≤ 80000000) (hr : row.length ≤ 1000) :
    WishPost F b l bad ⟨1, t, ⟨kk, kn, ks⟩, ⟨hk, hn, hs⟩, ra, rc, row, c, ⟨vk, vn, vs⟩, n⟩ w := by
  unfold WishPost
  show Calls Try.prog 152 #[.pointer (some ⟨b, 0, none⟩), .agg #[.int .i64 1, .int .i64 t, .int .i64 kk, .int .i64 kn, .string ks, .int .i64 hk, .int .i64 hn, .string hs, .slice ra row.length rc, .int .i64 c, .int .i64 vk, .int .i64 vn, .string vs, .int .i64 n]] w _
  obtain ⟨p3, n0, n1, n2, hm, f1, f2, ⟨q0, q5⟩, q1, q4, q3, q2, q7, q6⟩ := three h (.cells #[.int .i64 1, .int .i64 t, .int .i64 kk, .int .i64 kn, .string ks, .int .i64 hk, .int .i64 hn, .string hs, .slice ra row.length rc, .int .i64 c, .int .i64 vk, .int .i64 vn, .string vs, .int .i64 n] 90) (.cells #[.int .i64 0, .int .i64 0, .int .i64 0, .int .i64 0, .string ⟨#[]⟩, .int .i64 0, .int .i64 0, .string ⟨#[]⟩, .slice none 0 0, .int .i64 0, .int .i64 0, .int .i64 0, .string ⟨#[]⟩, .int .i64 0] 90) (.cells #[.int .i64 1, .int .i64 t, .int .i64 0, .int .i64 0, .string ⟨#[]⟩, .int .i64 0, .int .i64 0, .string ⟨#[]⟩, .slice none 0 0, .int .i64 0, .int .i64 0, .int .i64 0, .string ⟨#[]⟩, .int .i64 0] 90)
  have P := Lib.hid p3
  have X := Lib.hid (((Row.new w 90 [.int .i64 1, .int .i64 t, .int .i64 kk, .int .i64 kn, .string ks, .int .i64 hk, .int .i64 hn, .string hs, .slice ra row.length rc, .int .i64 c, .int .i64 vk, .int .i64 vn, .string vs, .int .i64 n]).alloc (.cells #[.int .i64 0, .int .i64 0, .int .i64 0, .int .i64 0, .string ⟨#[]⟩, .int .i64 0, .int .i64 0, .string ⟨#[]⟩, .slice none 0 0, .int .i64 0, .int .i64 0, .int .i64 0, .string ⟨#[]⟩, .int .i64 0] 90)).alloc (.cells #[.int .i64 1, .int .i64 t, .int .i64 0, .int .i64 0, .string ⟨#[]⟩, .int .i64 0, .int .i64 0, .string ⟨#[]⟩, .slice none 0 0, .int .i64 0, .int .i64 0, .int .i64 0, .string ⟨#[]⟩, .int .i64 0] 90))
  have Y := Lib.hid ((show Row ((w.alloc (.cells #[.int .i64 1, .int .i64 t, .int .i64 kk, .int .i64 kn, .string ks, .int .i64 hk, .int .i64 hn, .string hs, .slice ra row.length rc, .int .i64 c, .int .i64 vk, .int .i64 vn, .string vs, .int .i64 n] 90)).alloc (.cells #[.int .i64 0, .int .i64 0, .int .i64 0, .int .i64 0, .string ⟨#[]⟩, .int .i64 0, .int .i64 0, .string ⟨#[]⟩, .slice none 0 0, .int .i64 0, .int .i64 0, .int .i64 0, .string ⟨#[]⟩, .int .i64 0] 90)) (w.heap.size + 1) 90 [.int .i64 0, .int .i64 0, .int .i64 0, .int .i64 0, .string ⟨#[]⟩, .int .i64 0, .int .i64 0, .string ⟨#[]⟩, .slice none 0 0, .int .i64 0, .int .i64 0, .int .i64 0, .string ⟨#[]⟩, .int .i64 0] from Wide.new_at (by simp)).alloc (.cells #[.int .i64 1, .int .i64 t, .int .i64 0, .int .i64 0, .string ⟨#[]⟩, .int .i64 0, .int .i64 0, .string ⟨#[]⟩, .slice none 0 0, .int .i64 0, .int .i64 0, .int .i64 0, .string ⟨#[]⟩, .int .i64 0] 90))
  have Z := Lib.hid (show Row (((w.alloc (.cells #[.int .i64 1, .int .i64 t, .int .i64 kk, .int .i64 kn, .string ks, .int .i64 hk, .int .i64 hn, .string hs, .slice ra row.length rc, .int .i64 c, .int .i64 vk, .int .i64 vn, .string vs, .int .i64 n] 90)).alloc (.cells #[.int .i64 0, .int .i64 0, .int .i64 0, .int .i64 0, .string ⟨#[]⟩, .int .i64 0, .int .i64 0, .string ⟨#[]⟩, .slice none 0 0, .int .i64 0, .int .i64 0, .int .i64 0, .string ⟨#[]⟩, .int .i64 0] 90)).alloc (.cells #[.int .i64 1, .int .i64 t, .int .i64 0, .int .i64 0, .string ⟨#[]⟩, .int .i64 0, .int .i64 0, .string ⟨#[]⟩, .slice none 0 0, .int .i64 0, .int .i64 0, .int .i64 0, .string ⟨#[]⟩, .int .i64 0] 90)) (w.heap.size + 1 + 1) 90 [.int .i64 1, .int .i64 t, .int .i64 0, .int .i64 0, .string ⟨#[]⟩, .int .i64 0, .int .i64 0, .string ⟨#[]⟩, .slice none 0 0, .int .i64 0, .int .i64 0, .int .i64 0, .string ⟨#[]⟩, .int .i64 0] from Wide.new_at (by simp))
  have C := Lib.hid ((((Chg.refl (BldX.Own F b) w).alloc (.cells #[.int .i64 1, .int .i64 t, .int .i64 kk, .int .i64 kn, .string ks, .int .i64 hk, .int .i64 hn, .string hs, .slice ra row.length rc, .int .i64 c, .int .i64 vk, .int .i64 vn, .string vs, .int .i64 n] 90)).alloc (.cells #[.int .i64 0, .int .i64 0, .int .i64 0, .int .i64 0, .string ⟨#[]⟩, .int .i64 0, .int .i64 0, .string ⟨#[]⟩, .slice none 0 0, .int .i64 0, .int .i64 0, .int .i64 0, .string ⟨#[]⟩, .int .i64 0] 90)).alloc (.cells #[.int .i64 1, .int .i64 t, .int .i64 0, .int .i64 0, .string ⟨#[]⟩, .int .i64 0, .int .i64 0, .string ⟨#[]⟩, .slice none 0 0, .int .i64 0, .int .i64 0, .int .i64 0, .string ⟨#[]⟩, .int .i64 0] 90))
  have VV := Lib.hid hV
  have VN := Lib.hid hN
  have FF := Lib.hid hf
  have Hn0 := Lib.hid n0
  have Hn1 := Lib.hid n1
  have Hn2 := Lib.hid n2
  have Hhm := Lib.hid hm
  have Hf1 := Lib.hid f1
  have Hf2 := Lib.hid f2
  have hb : ¬ F b := h.1
  have HB := Lib.hid hb
  have x0 := X.out.cell (i := 0) rfl
  have x1 := X.out.cell (i := 1) rfl
  have x2 := X.out.cell (i := 2) rfl
  have x3 := X.out.cell (i := 3) rfl
  have x4 := X.out.cell (i := 4) rfl
  have x5 := X.out.cell (i := 5) rfl
  have x6 := X.out.cell (i := 6) rfl
  have x7 := X.out.cell (i := 7) rfl
  have x8 := X.out.cell (i := 8) rfl
  have x9 := X.out.cell (i := 9) rfl
  have x10 := X.out.cell (i := 10) rfl
  have x11 := X.out.cell (i := 11) rfl
  have x12 := X.out.cell (i := 12) rfl
  have x13 := X.out.cell (i := 13) rfl
  clear p3 n0 n1 n2 hm f1 f2 h hV hN hf hb
  go_enter Try.func152, Try.ntmps152
  go_wp2_with fail
  clear x0 x1 x2 x3 x4 x5 x6 x7 x8 x9 x10 x11 x12 x13
  generalize w.heap.size + 1 + 1 = s2 at *
  generalize w.heap.size + 1 = s1 at *
  generalize w.heap.size = s0 at *
  refine (one_calls _ b (l) (bad) (1) _ P.out (by have := vals_len row; have := vals_len [(⟨kk, kn, ks⟩ : V)]; have := vals_len [(⟨vk, vn, vs⟩ : V)]; have := vals_len [(⟨kk, kn, ks⟩ : V), ⟨hk, hn, hs⟩]; simp only [List.length_append, List.length_cons, List.length_nil] at *; omega)).mono ?_
  rintro e w1 ⟨rfl, hp, kc⟩
  replace X := Lib.hid (X.out.chg kc Hn0.out)
  replace Y := Lib.hid (Y.out.chg kc Hn1.out)
  replace Z := Lib.hid (Z.out.chg kc Hn2.out)
  replace C := Lib.hid (C.out.trans (kc.mono (fun k _ e => Hhm.out k e)))
  replace P := Lib.hid hp
  clear kc hp
  have x1 := X.out.cell (i := 1) rfl
  go_wp2_with fail
  refine (one_calls _ b (l ++ [oneB (1)]) (bad || oneBad (1)) (t) _ P.out (by have := vals_len row; have := vals_len [(⟨kk, kn, ks⟩ : V)]; have := vals_len [(⟨vk, vn, vs⟩ : V)]; have := vals_len [(⟨kk, kn, ks⟩ : V), ⟨hk, hn, hs⟩]; simp only [List.length_append, List.length_cons, List.length_nil] at *; omega)).mono ?_
  rintro e w2 ⟨rfl, hp, kc⟩
  replace X := Lib.hid (X.out.chg kc Hn0.out)
  replace Y := Lib.hid (Y.out.chg kc Hn1.out)
  replace Z := Lib.hid (Z.out.chg kc Hn2.out)
  replace C := Lib.hid (C.out.trans (kc.mono (fun k _ e => Hhm.out k e)))
  replace P := Lib.hid hp
  clear kc hp x1
  obtain ⟨D, hD⟩ : ∃ D, (bad || oneBad (1) || oneBad (t)) = D := ⟨_, rfl⟩
  rw [hD] at P
  have HD := Lib.hid hD
  clear hD
  cases D
  · by_cases c4 : 4 < row.length
    · have c4' : (4 : Int) < (row.length : Int) := by omega
      have z8 := Z.out.cell (i := 8) rfl
      have g8 := Z.out.frozen 8 (by simp)
      have x0 := X.out.cell (i := 0) rfl
      have x8 := X.out.cell (i := 8) rfl
      obtain ⟨p2, g2⟩ := Pen.flag P.out
      go_wp2_with fail
      replace X := Lib.hid (X.out.set_ne ⟨s2, 8, none⟩ (.slice ra row.length rc) q2)
      replace Y := Lib.hid (Y.out.set_ne ⟨s2, 8, none⟩ (.slice ra row.length rc) q7)
      replace Z := Lib.hid ((Z.out.set 8 (.slice ra row.length rc)).cast (cs' := [.int .i64 1, .int .i64 t, .int .i64 0, .int .i64 0, .string ⟨#[]⟩, .int .i64 0, .int .i64 0, .string ⟨#[]⟩, .slice ra row.length rc, .int .i64 0, .int .i64 0, .int .i64 0, .string ⟨#[]⟩, .int .i64 0]) rfl)
      replace P := Lib.hid (beyond P.out q0 Hn2.out 8 (.slice ra row.length rc))
      replace C := Lib.hid (Chg.setCell C.out (a := ⟨s2, 8, none⟩) (fun _ => (.inr Hf2.out : BldX.Own F b s2)) (.slice ra row.length rc))
      replace X := Lib.hid (X.out.set_ne ⟨b, 2, none⟩ (.bool true) q3)
      replace Y := Lib.hid (Y.out.set_ne ⟨b, 2, none⟩ (.bool true) q4)
      replace Z := Lib.hid (Z.out.set_ne ⟨b, 2, none⟩ (.bool true) q5)
      replace C := Lib.hid (C.out.trans ((Pen.set P.out true).2.mono (fun k _ e => Hhm.out k e)))
      replace P := Lib.hid (Pen.set P.out true).1
      clear x0 x8 z8 g8
      clear p2 g2
      refine (one_calls _ b (l ++ [oneB (1)] ++ [oneB (t)]) (true) ((row.length : Int)) _ P.out (by have := vals_len row; have := vals_len [(⟨kk, kn, ks⟩ : V)]; have := vals_len [(⟨vk, vn, vs⟩ : V)]; have := vals_len [(⟨kk, kn, ks⟩ : V), ⟨hk, hn, hs⟩]; simp only [List.length_append, List.length_cons, List.length_nil] at *; omega)).mono ?_
      rintro e w3 ⟨rfl, hp, kc⟩
      replace X := Lib.hid (X.out.chg kc Hn0.out)
      replace Y := Lib.hid (Y.out.chg kc Hn1.out)
      replace Z := Lib.hid (Z.out.chg kc Hn2.out)
      replace C := Lib.hid (C.out.trans (kc.mono (fun k _ e => Hhm.out k e)))
      replace P := Lib.hid hp
      clear kc hp
      have x8 := X.out.cell (i := 8) rfl
      go_wp2_with fail
      refine (values_calls _ b (l ++ [oneB (1)] ++ [oneB (t)] ++ [oneB ((row.length : Int))]) (true || oneBad ((row.length : Int))) row ra rc _ P.out (vs_chg VV.out C.out VN.out) (fun ad e z x => VN.out ad e z (Hhm.out _ x)) FF.out.2.2.2 (by have := vals_len row; have := vals_len [(⟨kk, kn, ks⟩ : V)]; have := vals_len [(⟨vk, vn, vs⟩ : V)]; have := vals_len [(⟨kk, kn, ks⟩ : V), ⟨hk, hn, hs⟩]; simp only [List.length_append, List.length_cons, List.length_nil] at *; omega)).mono ?_
      rintro e w4 ⟨rfl, hp, kc⟩
      replace X := Lib.hid (X.out.chg kc Hn0.out)
      replace Y := Lib.hid (Y.out.chg kc Hn1.out)
      replace Z := Lib.hid (Z.out.chg kc Hn2.out)
      replace C := Lib.hid (C.out.trans (kc.mono (fun k _ e => Hhm.out k e)))
      replace P := Lib.hid hp
      clear kc hp x8
      go_wp2_with (first | (refine load_row Z.out 90 Try.underlying90 rfl (by kernel_rfl) rfl rfl rfl ?_) | (refine store_row Y.out [.int .i64 1, .int .i64 t, .int .i64 0, .int .i64 0, .string ⟨#[]⟩, .int .i64 0, .int .i64 0, .string ⟨#[]⟩, .slice ra row.length rc, .int .i64 0, .int .i64 0, .int .i64 0, .string ⟨#[]⟩, .int .i64 0] 90 (by kernel_rfl) rfl (by simp [Value.oneCell']) rfl rfl rfl rfl ?_; intro w90 hR hc hsz))
      have P9 := Lib.hid (BldX.Is.wider (BldX.Is.chg P.out hc (fun e => q1 (show s1 = b from e.symm)) (fun k hk e => Hn1.out (.inr ((show k = s1 from e) ▸ hk)))) (fun k hk => hk.1) HB.out)
      have C9 := Lib.hid (C.out.trans (hc.mono (fun k _ e => (.inr ((show k = s1 from e) ▸ Hf1.out) : BldX.Own F b k))))
      have R9 := Lib.hid hR
      clear hR hc hsz
      refine ret_row R9.out Try.results152 Try.underlying90 rfl (by kernel_rfl) rfl rfl ⟨?_, ?_, C9.out⟩
      · rfl
      · have e1 : l ++ [oneB (1)] ++ [oneB (t)] ++ [oneB ((row.length : Int))] ++ vals row = l ++ Wsh.bytes ⟨1, t, ⟨kk, kn, ks⟩, ⟨hk, hn, hs⟩, ra, rc, row, c, ⟨vk, vn, vs⟩, n⟩ := by simp [Wsh.bytes, List.append_assoc]
        have e2 : (true || oneBad ((row.length : Int)) || valsBad row) = (bad || Wsh.bad ⟨1, t, ⟨kk, kn, ks⟩, ⟨hk, hn, hs⟩, ra, rc, row, c, ⟨vk, vn, vs⟩, n⟩) := by rw [show (bad || Wsh.bad ⟨1, t, ⟨kk, kn, ks⟩, ⟨hk, hn, hs⟩, ra, rc, row, c, ⟨vk, vn, vs⟩, n⟩) = ((bad || oneBad 1 || oneBad t) || (decide (4 < row.length) || oneBad row.length || valsBad row)) from by simp [Wsh.bad, Bool.or_assoc], HD.out]; simp [c4]
        rw [← e1, ← e2]
        exact P9.out
    · have c4' : decide ((4 : Int) < (row.length : Int)) = false := by simp; omega
      have z8 := Z.out.cell (i := 8) rfl
      have g8 := Z.out.frozen 8 (by simp)
      have x0 := X.out.cell (i := 0) rfl
      have x8 := X.out.cell (i := 8) rfl
      obtain ⟨p2, g2⟩ := Pen.flag P.out
      go_wp2_with fail
      replace X := Lib.hid (X.out.set_ne ⟨s2, 8, none⟩ (.slice ra row.length rc) q2)
      replace Y := Lib.hid (Y.out.set_ne ⟨s2, 8, none⟩ (.slice ra row.length rc) q7)
      replace Z := Lib.hid ((Z.out.set 8 (.slice ra row.length rc)).cast (cs' := [.int .i64 1, .int .i64 t, .int .i64 0, .int .i64 0, .string ⟨#[]⟩, .int .i64 0, .int .i64 0, .string ⟨#[]⟩, .slice ra row.length rc, .int .i64 0, .int .i64 0, .int .i64 0, .string ⟨#[]⟩, .int .i64 0]) rfl)
      replace P := Lib.hid (beyond P.out q0 Hn2.out 8 (.slice ra row.length rc))
      replace C := Lib.hid (Chg.setCell C.out (a := ⟨s2, 8, none⟩) (fun _ => (.inr Hf2.out : BldX.Own F b s2)) (.slice ra row.length rc))
      replace X := Lib.hid (X.out.set_ne ⟨b, 2, none⟩ (.bool false) q3)
      replace Y := Lib.hid (Y.out.set_ne ⟨b, 2, none⟩ (.bool false) q4)
      replace Z := Lib.hid (Z.out.set_ne ⟨b, 2, none⟩ (.bool false) q5)
      replace C := Lib.hid (C.out.trans ((Pen.set P.out false).2.mono (fun k _ e => Hhm.out k e)))
      replace P := Lib.hid (Pen.set P.out false).1
      clear x0 x8 z8 g8
      clear p2 g2
      refine (one_calls _ b (l ++ [oneB (1)] ++ [oneB (t)]) (false) ((row.length : Int)) _ P.out (by have := vals_len row; have := vals_len [(⟨kk, kn, ks⟩ : V)]; have := vals_len [(⟨vk, vn, vs⟩ : V)]; have := vals_len [(⟨kk, kn, ks⟩ : V), ⟨hk, hn, hs⟩]; simp only [List.length_append, List.length_cons, List.length_nil] at *; omega)).mono ?_
      rintro e w3 ⟨rfl, hp, kc⟩
      replace X := Lib.hid (X.out.chg kc Hn0.out)
      replace Y := Lib.hid (Y.out.chg kc Hn1.out)
      replace Z := Lib.hid (Z.out.chg kc Hn2.out)
      replace C := Lib.hid (C.out.trans (kc.mono (fun k _ e => Hhm.out k e)))
      replace P := Lib.hid hp
      clear kc hp
      have x8 := X.out.cell (i := 8) rfl
      go_wp2_with fail
      refine (values_calls _ b (l ++ [oneB (1)] ++ [oneB (t)] ++ [oneB ((row.length : Int))]) (false || oneBad ((row.length : Int))) row ra rc _ P.out (vs_chg VV.out C.out VN.out) (fun ad e z x => VN.out ad e z (Hhm.out _ x)) FF.out.2.2.2 (by have := vals_len row; have := vals_len [(⟨kk, kn, ks⟩ : V)]; have := vals_len [(⟨vk, vn, vs⟩ : V)]; have := vals_len [(⟨kk, kn, ks⟩ : V), ⟨hk, hn, hs⟩]; simp only [List.length_append, List.length_cons, List.length_nil] at *; omega)).mono ?_
      rintro e w4 ⟨rfl, hp, kc⟩
      replace X := Lib.hid (X.out.chg kc Hn0.out)
      replace Y := Lib.hid (Y.out.chg kc Hn1.out)
      replace Z := Lib.hid (Z.out.chg kc Hn2.out)
      replace C := Lib.hid (C.out.trans (kc.mono (fun k _ e => Hhm.out k e)))
      replace P := Lib.hid hp
      clear kc hp x8
      go_wp2_with (first | (refine load_row Z.out 90 Try.underlying90 rfl (by kernel_rfl) rfl rfl rfl ?_) | (refine store_row Y.out [.int .i64 1, .int .i64 t, .int .i64 0, .int .i64 0, .string ⟨#[]⟩, .int .i64 0, .int .i64 0, .string ⟨#[]⟩, .slice ra row.length rc, .int .i64 0, .int .i64 0, .int .i64 0, .string ⟨#[]⟩, .int .i64 0] 90 (by kernel_rfl) rfl (by simp [Value.oneCell']) rfl rfl rfl rfl ?_; intro w90 hR hc hsz))
      have P9 := Lib.hid (BldX.Is.wider (BldX.Is.chg P.out hc (fun e => q1 (show s1 = b from e.symm)) (fun k hk e => Hn1.out (.inr ((show k = s1 from e) ▸ hk)))) (fun k hk => hk.1) HB.out)
      have C9 := Lib.hid (C.out.trans (hc.mono (fun k _ e => (.inr ((show k = s1 from e) ▸ Hf1.out) : BldX.Own F b k))))
      have R9 := Lib.hid hR
      clear hR hc hsz
      refine ret_row R9.out Try.results152 Try.underlying90 rfl (by kernel_rfl) rfl rfl ⟨?_, ?_, C9.out⟩
      · rfl
      · have e1 : l ++ [oneB (1)] ++ [oneB (t)] ++ [oneB ((row.length : Int))] ++ vals row = l ++ Wsh.bytes ⟨1, t, ⟨kk, kn, ks⟩, ⟨hk, hn, hs⟩, ra, rc, row, c, ⟨vk, vn, vs⟩, n⟩ := by simp [Wsh.bytes, List.append_assoc]
        have e2 : (false || oneBad ((row.length : Int)) || valsBad row) = (bad || Wsh.bad ⟨1, t, ⟨kk, kn, ks⟩, ⟨hk, hn, hs⟩, ra, rc, row, c, ⟨vk, vn, vs⟩, n⟩) := by rw [show (bad || Wsh.bad ⟨1, t, ⟨kk, kn, ks⟩, ⟨hk, hn, hs⟩, ra, rc, row, c, ⟨vk, vn, vs⟩, n⟩) = ((bad || oneBad 1 || oneBad t) || (decide (4 < row.length) || oneBad row.length || valsBad row)) from by simp [Wsh.bad, Bool.or_assoc], HD.out]; simp [c4]
        rw [← e1, ← e2]
        exact P9.out
  · skip
    have z8 := Z.out.cell (i := 8) rfl
    have g8 := Z.out.frozen 8 (by simp)
    have x0 := X.out.cell (i := 0) rfl
    have x8 := X.out.cell (i := 8) rfl
    obtain ⟨p2, g2⟩ := Pen.flag P.out
    go_wp2_with fail
    replace X := Lib.hid (X.out.set_ne ⟨s2, 8, none⟩ (.slice ra row.length rc) q2)
    replace Y := Lib.hid (Y.out.set_ne ⟨s2, 8, none⟩ (.slice ra row.length rc) q7)
    replace Z := Lib.hid ((Z.out.set 8 (.slice ra row.length rc)).cast (cs' := [.int .i64 1, .int .i64 t, .int .i64 0, .int .i64 0, .string ⟨#[]⟩, .int .i64 0, .int .i64 0, .string ⟨#[]⟩, .slice ra row.length rc, .int .i64 0, .int .i64 0, .int .i64 0, .string ⟨#[]⟩, .int .i64 0]) rfl)
    replace P := Lib.hid (beyond P.out q0 Hn2.out 8 (.slice ra row.length rc))
    replace C := Lib.hid (Chg.setCell C.out (a := ⟨s2, 8, none⟩) (fun _ => (.inr Hf2.out : BldX.Own F b s2)) (.slice ra row.length rc))
    replace X := Lib.hid (X.out.set_ne ⟨b, 2, none⟩ (.bool true) q3)
    replace Y := Lib.hid (Y.out.set_ne ⟨b, 2, none⟩ (.bool true) q4)
    replace Z := Lib.hid (Z.out.set_ne ⟨b, 2, none⟩ (.bool true) q5)
    replace C := Lib.hid (C.out.trans ((Pen.set P.out true).2.mono (fun k _ e => Hhm.out k e)))
    replace P := Lib.hid (Pen.set P.out true).1
    clear x0 x8 z8 g8
    clear p2 g2
    refine (one_calls _ b (l ++ [oneB (1)] ++ [oneB (t)]) (true) ((row.length : Int)) _ P.out (by have := vals_len row; have := vals_len [(⟨kk, kn, ks⟩ : V)]; have := vals_len [(⟨vk, vn, vs⟩ : V)]; have := vals_len [(⟨kk, kn, ks⟩ : V), ⟨hk, hn, hs⟩]; simp only [List.length_append, List.length_cons, List.length_nil] at *; omega)).mono ?_
    rintro e w3 ⟨rfl, hp, kc⟩
    replace X := Lib.hid (X.out.chg kc Hn0.out)
    replace Y := Lib.hid (Y.out.chg kc Hn1.out)
    replace Z := Lib.hid (Z.out.chg kc Hn2.out)
    replace C := Lib.hid (C.out.trans (kc.mono (fun k _ e => Hhm.out k e)))
    replace P := Lib.hid hp
    clear kc hp
    have x8 := X.out.cell (i := 8) rfl
    go_wp2_with fail
    refine (values_calls _ b (l ++ [oneB (1)] ++ [oneB (t)] ++ [oneB ((row.length : Int))]) (true || oneBad ((row.length : Int))) row ra rc _ P.out (vs_chg VV.out C.out VN.out) (fun ad e z x => VN.out ad e z (Hhm.out _ x)) FF.out.2.2.2 (by have := vals_len row; have := vals_len [(⟨kk, kn, ks⟩ : V)]; have := vals_len [(⟨vk, vn, vs⟩ : V)]; have := vals_len [(⟨kk, kn, ks⟩ : V), ⟨hk, hn, hs⟩]; simp only [List.length_append, List.length_cons, List.length_nil] at *; omega)).mono ?_
    rintro e w4 ⟨rfl, hp, kc⟩
    replace X := Lib.hid (X.out.chg kc Hn0.out)
    replace Y := Lib.hid (Y.out.chg kc Hn1.out)
    replace Z := Lib.hid (Z.out.chg kc Hn2.out)
    replace C := Lib.hid (C.out.trans (kc.mono (fun k _ e => Hhm.out k e)))
    replace P := Lib.hid hp
    clear kc hp x8
    go_wp2_with (first | (refine load_row Z.out 90 Try.underlying90 rfl (by kernel_rfl) rfl rfl rfl ?_) | (refine store_row Y.out [.int .i64 1, .int .i64 t, .int .i64 0, .int .i64 0, .string ⟨#[]⟩, .int .i64 0, .int .i64 0, .string ⟨#[]⟩, .slice ra row.length rc, .int .i64 0, .int .i64 0, .int .i64 0, .string ⟨#[]⟩, .int .i64 0] 90 (by kernel_rfl) rfl (by simp [Value.oneCell']) rfl rfl rfl rfl ?_; intro w90 hR hc hsz))
    have P9 := Lib.hid (BldX.Is.wider (BldX.Is.chg P.out hc (fun e => q1 (show s1 = b from e.symm)) (fun k hk e => Hn1.out (.inr ((show k = s1 from e) ▸ hk)))) (fun k hk => hk.1) HB.out)
    have C9 := Lib.hid (C.out.trans (hc.mono (fun k _ e => (.inr ((show k = s1 from e) ▸ Hf1.out) : BldX.Own F b k))))
    have R9 := Lib.hid hR
    clear hR hc hsz
    refine ret_row R9.out Try.results152 Try.underlying90 rfl (by kernel_rfl) rfl rfl ⟨?_, ?_, C9.out⟩
    · rfl
    · have e1 : l ++ [oneB (1)] ++ [oneB (t)] ++ [oneB ((row.length : Int))] ++ vals row = l ++ Wsh.bytes ⟨1, t, ⟨kk, kn, ks⟩, ⟨hk, hn, hs⟩, ra, rc, row, c, ⟨vk, vn, vs⟩, n⟩ := by simp [Wsh.bytes, List.append_assoc]
      have e2 : (true || oneBad ((row.length : Int)) || valsBad row) = (bad || Wsh.bad ⟨1, t, ⟨kk, kn, ks⟩, ⟨hk, hn, hs⟩, ra, rc, row, c, ⟨vk, vn, vs⟩, n⟩) := by rw [show (bad || Wsh.bad ⟨1, t, ⟨kk, kn, ks⟩, ⟨hk, hn, hs⟩, ra, rc, row, c, ⟨vk, vn, vs⟩, n⟩) = ((bad || oneBad 1 || oneBad t) || (decide (4 < row.length) || oneBad row.length || valsBad row)) from by simp [Wsh.bad, Bool.or_assoc], HD.out]; simp
      rw [← e1, ← e2]
      exact P9.out
set_option maxHeartbeats 8000000 in
theorem wish_2 (F : Nat → Prop) (b : Nat) (l : List UInt8) (bad : Bool) (t kk kn : Int) (ks : ByteArray) (hk hn : Int) (hs : ByteArray) (ra : Option Addr) (rc : Nat) (row : List V) (c vk vn : Int) (vs : ByteArray) (n : Int) (w : World) (h : Pen w F b l bad) (hV : Vs w ra row) (hN : ∀ ad, ra = some ad → row ≠ [] → ¬ BldX.Own F b ad.block) (hf : Wsh.fits ⟨2, t, ⟨kk, kn, ks⟩, ⟨hk, hn, hs⟩, ra, rc, row, c, ⟨vk, vn, vs⟩, n⟩) (hl : l.length ≤ 80000000) (hr : row.length ≤ 1000) :
    WishPost F b l bad ⟨2, t, ⟨kk, kn, ks⟩, ⟨hk, hn, hs⟩, ra, rc, row, c, ⟨vk, vn, vs⟩, n⟩ w := by
  unfold WishPost
  show Calls Try.prog 152 #[.pointer (some ⟨b, 0, none⟩), .agg #[.int .i64 2, .int .i64 t, .int .i64 kk, .int .i64 kn, .string ks, .int .i64 hk, .int .i64 hn, .string hs, .slice ra row.length rc, .int .i64 c, .int .i64 vk, .int .i64 vn, .string vs, .int .i64 n]] w _
  obtain ⟨p3, n0, n1, n2, hm, f1, f2, ⟨q0, q5⟩, q1, q4, q3, q2, q7, q6⟩ := three h (.cells #[.int .i64 2, .int .i64 t, .int .i64 kk, .int .i64 kn, .string ks, .int .i64 hk, .int .i64 hn, .string hs, .slice ra row.length rc, .int .i64 c, .int .i64 vk, .int .i64 vn, .string vs, .int .i64 n] 90) (.cells #[.int .i64 0, .int .i64 0, .int .i64 0, .int .i64 0, .string ⟨#[]⟩, .int .i64 0, .int .i64 0, .string ⟨#[]⟩, .slice none 0 0, .int .i64 0, .int .i64 0, .int .i64 0, .string ⟨#[]⟩, .int .i64 0] 90) (.cells #[.int .i64 2, .int .i64 t, .int .i64 0, .int .i64 0, .string ⟨#[]⟩, .int .i64 0, .int .i64 0, .string ⟨#[]⟩, .slice none 0 0, .int .i64 0, .int .i64 0, .int .i64 0, .string ⟨#[]⟩, .int .i64 0] 90)
  have P := Lib.hid p3
  have X := Lib.hid (((Row.new w 90 [.int .i64 2, .int .i64 t, .int .i64 kk, .int .i64 kn, .string ks, .int .i64 hk, .int .i64 hn, .string hs, .slice ra row.length rc, .int .i64 c, .int .i64 vk, .int .i64 vn, .string vs, .int .i64 n]).alloc (.cells #[.int .i64 0, .int .i64 0, .int .i64 0, .int .i64 0, .string ⟨#[]⟩, .int .i64 0, .int .i64 0, .string ⟨#[]⟩, .slice none 0 0, .int .i64 0, .int .i64 0, .int .i64 0, .string ⟨#[]⟩, .int .i64 0] 90)).alloc (.cells #[.int .i64 2, .int .i64 t, .int .i64 0, .int .i64 0, .string ⟨#[]⟩, .int .i64 0, .int .i64 0, .string ⟨#[]⟩, .slice none 0 0, .int .i64 0, .int .i64 0, .int .i64 0, .string ⟨#[]⟩, .int .i64 0] 90))
  have Y := Lib.hid ((show Row ((w.alloc (.cells #[.int .i64 2, .int .i64 t, .int .i64 kk, .int .i64 kn, .string ks, .int .i64 hk, .int .i64 hn, .string hs, .slice ra row.length rc, .int .i64 c, .int .i64 vk, .int .i64 vn, .string vs, .int .i64 n] 90)).alloc (.cells #[.int .i64 0, .int .i64 0, .int .i64 0, .int .i64 0, .string ⟨#[]⟩, .int .i64 0, .int .i64 0, .string ⟨#[]⟩, .slice none 0 0, .int .i64 0, .int .i64 0, .int .i64 0, .string ⟨#[]⟩, .int .i64 0] 90)) (w.heap.size + 1) 90 [.int .i64 0, .int .i64 0, .int .i64 0, .int .i64 0, .string ⟨#[]⟩, .int .i64 0, .int .i64 0, .string ⟨#[]⟩, .slice none 0 0, .int .i64 0, .int .i64 0, .int .i64 0, .string ⟨#[]⟩, .int .i64 0] from Wide.new_at (by simp)).alloc (.cells #[.int .i64 2, .int .i64 t, .int .i64 0, .int .i64 0, .string ⟨#[]⟩, .int .i64 0, .int .i64 0, .string ⟨#[]⟩, .slice none 0 0, .int .i64 0, .int .i64 0, .int .i64 0, .string ⟨#[]⟩, .int .i64 0] 90))
  have Z := Lib.hid (show Row (((w.alloc (.cells #[.int .i64 2, .int .i64 t, .int .i64 kk, .int .i64 kn, .string ks, .int .i64 hk, .int .i64 hn, .string hs, .slice ra row.length rc, .int .i64 c, .int .i64 vk, .int .i64 vn, .string vs, .int .i64 n] 90)).alloc (.cells #[.int .i64 0, .int .i64 0, .int .i64 0, .int .i64 0, .string ⟨#[]⟩, .int .i64 0, .int .i64 0, .string ⟨#[]⟩, .slice none 0 0, .int .i64 0, .int .i64 0, .int .i64 0, .string ⟨#[]⟩, .int .i64 0] 90)).alloc (.cells #[.int .i64 2, .int .i64 t, .int .i64 0, .int .i64 0, .string ⟨#[]⟩, .int .i64 0, .int .i64 0, .string ⟨#[]⟩, .slice none 0 0, .int .i64 0, .int .i64 0, .int .i64 0, .string ⟨#[]⟩, .int .i64 0] 90)) (w.heap.size + 1 + 1) 90 [.int .i64 2, .int .i64 t, .int .i64 0, .int .i64 0, .string ⟨#[]⟩, .int .i64 0, .int .i64 0, .string ⟨#[]⟩, .slice none 0 0, .int .i64 0, .int .i64 0, .int .i64 0, .string ⟨#[]⟩, .int .i64 0] from Wide.new_at (by simp))
  have C := Lib.hid ((((Chg.refl (BldX.Own F b) w).alloc (.cells #[.int .i64 2, .int .i64 t, .int .i64 kk, .int .i64 kn, .string ks, .int .i64 hk, .int .i64 hn, .string hs, .slice ra row.length rc, .int .i64 c, .int .i64 vk, .int .i64 vn, .string vs, .int .i64 n] 90)).alloc (.cells #[.int .i64 0, .int .i64 0, .int .i64 0, .int .i64 0, .string ⟨#[]⟩, .int .i64 0, .int .i64 0, .string ⟨#[]⟩, .slice none 0 0, .int .i64 0, .int .i64 0, .int .i64 0, .string ⟨#[]⟩, .int .i64 0] 90)).alloc (.cells #[.int .i64 2, .int .i64 t, .int .i64 0, .int .i64 0, .string ⟨#[]⟩, .int .i64 0, .int .i64 0, .string ⟨#[]⟩, .slice none 0 0, .int .i64 0, .int .i64 0, .int .i64 0, .string ⟨#[]⟩, .int .i64 0] 90))
  have VV := Lib.hid hV
  have VN := Lib.hid hN
  have FF := Lib.hid hf
  have Hn0 := Lib.hid n0
  have Hn1 := Lib.hid n1
  have Hn2 := Lib.hid n2
  have Hhm := Lib.hid hm
  have Hf1 := Lib.hid f1
  have Hf2 := Lib.hid f2
  have hb : ¬ F b := h.1
  have HB := Lib.hid hb
  have x0 := X.out.cell (i := 0) rfl
  have x1 := X.out.cell (i := 1) rfl
  have x2 := X.out.cell (i := 2) rfl
  have x3 := X.out.cell (i := 3) rfl
  have x4 := X.out.cell (i := 4) rfl
  have x5 := X.out.cell (i := 5) rfl
  have x6 := X.out.cell (i := 6) rfl
  have x7 := X.out.cell (i := 7) rfl
  have x8 := X.out.cell (i := 8) rfl
  have x9 := X.out.cell (i := 9) rfl
  have x10 := X.out.cell (i := 10) rfl
  have x11 := X.out.cell (i := 11) rfl
  have x12 := X.out.cell (i := 12) rfl
  have x13 := X.out.cell (i := 13) rfl
  clear p3 n0 n1 n2 hm f1 f2 h hV hN hf hb
  go_enter Try.func152, Try.ntmps152
  go_wp2_with fail
  clear x0 x1 x2 x3 x4 x5 x6 x7 x8 x9 x10 x11 x12 x13
  generalize w.heap.size + 1 + 1 = s2 at *
  generalize w.heap.size + 1 = s1 at *
  generalize w.heap.size = s0 at *
  refine (one_calls _ b (l) (bad) (2) _ P.out (by have := vals_len row; have := vals_len [(⟨kk, kn, ks⟩ : V)]; have := vals_len [(⟨vk, vn, vs⟩ : V)]; have := vals_len [(⟨kk, kn, ks⟩ : V), ⟨hk, hn, hs⟩]; simp only [List.length_append, List.length_cons, List.length_nil] at *; omega)).mono ?_
  rintro e w1 ⟨rfl, hp, kc⟩
  replace X := Lib.hid (X.out.chg kc Hn0.out)
  replace Y := Lib.hid (Y.out.chg kc Hn1.out)
  replace Z := Lib.hid (Z.out.chg kc Hn2.out)
  replace C := Lib.hid (C.out.trans (kc.mono (fun k _ e => Hhm.out k e)))
  replace P := Lib.hid hp
  clear kc hp
  have x1 := X.out.cell (i := 1) rfl
  go_wp2_with fail
  refine (one_calls _ b (l ++ [oneB (2)]) (bad || oneBad (2)) (t) _ P.out (by have := vals_len row; have := vals_len [(⟨kk, kn, ks⟩ : V)]; have := vals_len [(⟨vk, vn, vs⟩ : V)]; have := vals_len [(⟨kk, kn, ks⟩ : V), ⟨hk, hn, hs⟩]; simp only [List.length_append, List.length_cons, List.length_nil] at *; omega)).mono ?_
  rintro e w2 ⟨rfl, hp, kc⟩
  replace X := Lib.hid (X.out.chg kc Hn0.out)
  replace Y := Lib.hid (Y.out.chg kc Hn1.out)
  replace Z := Lib.hid (Z.out.chg kc Hn2.out)
  replace C := Lib.hid (C.out.trans (kc.mono (fun k _ e => Hhm.out k e)))
  replace P := Lib.hid hp
  clear kc hp x1
  have z2 := Z.out.cell (i := 2) rfl
  have g2 := Z.out.frozen 2 (by simp)
  have z3 := Z.out.cell (i := 3) rfl
  have g3 := Z.out.frozen 3 (by simp)
  have z4 := Z.out.cell (i := 4) rfl
  have g4 := Z.out.frozen 4 (by simp)
  have x0 := X.out.cell (i := 0) rfl
  have x2 := X.out.cell (i := 2) rfl
  have x3 := X.out.cell (i := 3) rfl
  have x4 := X.out.cell (i := 4) rfl
  go_wp2_with fail
  replace X := Lib.hid (((X.out.set_ne ⟨s2, 2, none⟩ (.int .i64 kk) q2).set_ne ⟨s2, 3, none⟩ (.int .i64 kn) q2).set_ne ⟨s2, 4, none⟩ (.string ks) q2)
  replace Y := Lib.hid (((Y.out.set_ne ⟨s2, 2, none⟩ (.int .i64 kk) q7).set_ne ⟨s2, 3, none⟩ (.int .i64 kn) q7).set_ne ⟨s2, 4, none⟩ (.string ks) q7)
  replace Z := Lib.hid ((((Z.out.set 2 (.int .i64 kk)).set 3 (.int .i64 kn)).set 4 (.string ks)).cast (cs' := [.int .i64 2, .int .i64 t, .int .i64 kk, .int .i64 kn, .string ks, .int .i64 0, .int .i64 0, .string ⟨#[]⟩, .slice none 0 0, .int .i64 0, .int .i64 0, .int .i64 0, .string ⟨#[]⟩, .int .i64 0]) rfl)
  replace P := Lib.hid (beyond (beyond (beyond P.out q0 Hn2.out 2 (.int .i64 kk)) q0 Hn2.out 3 (.int .i64 kn)) q0 Hn2.out 4 (.string ks))
  replace C := Lib.hid (Chg.setCell (Chg.setCell (Chg.setCell C.out (a := ⟨s2, 2, none⟩) (fun _ => (.inr Hf2.out : BldX.Own F b s2)) (.int .i64 kk)) (a := ⟨s2, 3, none⟩) (fun _ => (.inr Hf2.out : BldX.Own F b s2)) (.int .i64 kn)) (a := ⟨s2, 4, none⟩) (fun _ => (.inr Hf2.out : BldX.Own F b s2)) (.string ks))
  clear x0 x2 x3 x4 z2 g2 z3 g3 z4 g4
  refine (built1_calls _ b (l ++ [oneB (2)] ++ [oneB (t)]) (bad || oneBad (2) || oneBad (t)) kk kn ks _ _ (by simp) P.out FF.out.1 (by have := vals_len row; have := vals_len [(⟨kk, kn, ks⟩ : V)]; have := vals_len [(⟨vk, vn, vs⟩ : V)]; have := vals_len [(⟨kk, kn, ks⟩ : V), ⟨hk, hn, hs⟩]; simp only [List.length_append, List.length_cons, List.length_nil] at *; omega)).mono ?_
  rintro e w3 ⟨rfl, hp, kc⟩
  replace X := Lib.hid (X.out.chg kc Hn0.out)
  replace Y := Lib.hid (Y.out.chg kc Hn1.out)
  replace Z := Lib.hid (Z.out.chg kc Hn2.out)
  replace C := Lib.hid (C.out.trans (kc.mono (fun k _ e => Hhm.out k e)))
  replace P := Lib.hid hp
  clear kc hp
  go_wp2_with (first | (refine load_row Z.out 90 Try.underlying90 rfl (by kernel_rfl) rfl rfl rfl ?_) | (refine store_row Y.out [.int .i64 2, .int .i64 t, .int .i64 kk, .int .i64 kn, .string ks, .int .i64 0, .int .i64 0, .string ⟨#[]⟩, .slice none 0 0, .int .i64 0, .int .i64 0, .int .i64 0, .string ⟨#[]⟩, .int .i64 0] 90 (by kernel_rfl) rfl (by simp [Value.oneCell']) rfl rfl rfl rfl ?_; intro w90 hR hc hsz))
  have P9 := Lib.hid (BldX.Is.wider (BldX.Is.chg P.out hc (fun e => q1 (show s1 = b from e.symm)) (fun k hk e => Hn1.out (.inr ((show k = s1 from e) ▸ hk)))) (fun k hk => hk.1) HB.out)
  have C9 := Lib.hid (C.out.trans (hc.mono (fun k _ e => (.inr ((show k = s1 from e) ▸ Hf1.out) : BldX.Own F b k))))
  have R9 := Lib.hid hR
  clear hR hc hsz
  refine ret_row R9.out Try.results152 Try.underlying90 rfl (by kernel_rfl) rfl rfl ⟨?_, ?_, C9.out⟩
  · rfl
  · have e1 : l ++ [oneB (2)] ++ [oneB (t)] ++ vals [(⟨kk, kn, ks⟩ : V)] = l ++ Wsh.bytes ⟨2, t, ⟨kk, kn, ks⟩, ⟨hk, hn, hs⟩, ra, rc, row, c, ⟨vk, vn, vs⟩, n⟩ := by simp [Wsh.bytes, List.append_assoc]
    have e2 : (bad || oneBad (2) || oneBad (t) || valsBad [(⟨kk, kn, ks⟩ : V)]) = (bad || Wsh.bad ⟨2, t, ⟨kk, kn, ks⟩, ⟨hk, hn, hs⟩, ra, rc, row, c, ⟨vk, vn, vs⟩, n⟩) := by simp [Wsh.bad, List.append_assoc, Bool.or_assoc]
    rw [← e1, ← e2]
    exact P9.out
set_option maxHeartbeats 8000000 in
theorem wish_4 (F : Nat → Prop) (b : Nat) (l : List UInt8) (bad : Bool) (t kk kn : Int) (ks : ByteArray) (hk hn : Int) (hs : ByteArray) (ra : Option Addr) (rc : Nat) (row : List V) (c vk vn : Int) (vs : ByteArray) (n : Int) (w : World) (h : Pen w F b l bad) (hV : Vs w ra row) (hN : ∀ ad, ra = some ad → row ≠ [] → ¬ BldX.Own F b ad.block) (hf : Wsh.fits ⟨4, t, ⟨kk, kn, ks⟩, ⟨hk, hn, hs⟩, ra, rc, row, c, ⟨vk, vn, vs⟩, n⟩) (hl : l.length ≤ 80000000) (hr : row.length ≤ 1000) :
    WishPost F b l bad ⟨4, t, ⟨kk, kn, ks⟩, ⟨hk, hn, hs⟩, ra, rc, row, c, ⟨vk, vn, vs⟩, n⟩ w := by
  unfold WishPost
  show Calls Try.prog 152 #[.pointer (some ⟨b, 0, none⟩), .agg #[.int .i64 4, .int .i64 t, .int .i64 kk, .int .i64 kn, .string ks, .int .i64 hk, .int .i64 hn, .string hs, .slice ra row.length rc, .int .i64 c, .int .i64 vk, .int .i64 vn, .string vs, .int .i64 n]] w _
  obtain ⟨p3, n0, n1, n2, hm, f1, f2, ⟨q0, q5⟩, q1, q4, q3, q2, q7, q6⟩ := three h (.cells #[.int .i64 4, .int .i64 t, .int .i64 kk, .int .i64 kn, .string ks, .int .i64 hk, .int .i64 hn, .string hs, .slice ra row.length rc, .int .i64 c, .int .i64 vk, .int .i64 vn, .string vs, .int .i64 n] 90) (.cells #[.int .i64 0, .int .i64 0, .int .i64 0, .int .i64 0, .string ⟨#[]⟩, .int .i64 0, .int .i64 0, .string ⟨#[]⟩, .slice none 0 0, .int .i64 0, .int .i64 0, .int .i64 0, .string ⟨#[]⟩, .int .i64 0] 90) (.cells #[.int .i64 4, .int .i64 t, .int .i64 0, .int .i64 0, .string ⟨#[]⟩, .int .i64 0, .int .i64 0, .string ⟨#[]⟩, .slice none 0 0, .int .i64 0, .int .i64 0, .int .i64 0, .string ⟨#[]⟩, .int .i64 0] 90)
  have P := Lib.hid p3
  have X := Lib.hid (((Row.new w 90 [.int .i64 4, .int .i64 t, .int .i64 kk, .int .i64 kn, .string ks, .int .i64 hk, .int .i64 hn, .string hs, .slice ra row.length rc, .int .i64 c, .int .i64 vk, .int .i64 vn, .string vs, .int .i64 n]).alloc (.cells #[.int .i64 0, .int .i64 0, .int .i64 0, .int .i64 0, .string ⟨#[]⟩, .int .i64 0, .int .i64 0, .string ⟨#[]⟩, .slice none 0 0, .int .i64 0, .int .i64 0, .int .i64 0, .string ⟨#[]⟩, .int .i64 0] 90)).alloc (.cells #[.int .i64 4, .int .i64 t, .int .i64 0, .int .i64 0, .string ⟨#[]⟩, .int .i64 0, .int .i64 0, .string ⟨#[]⟩, .slice none 0 0, .int .i64 0, .int .i64 0, .int .i64 0, .string ⟨#[]⟩, .int .i64 0] 90))
  have Y := Lib.hid ((show Row ((w.alloc (.cells #[.int .i64 4, .int .i64 t, .int .i64 kk, .int .i64 kn, .string ks, .int .i64 hk, .int .i64 hn, .string hs, .slice ra row.length rc, .int .i64 c, .int .i64 vk, .int .i64 vn, .string vs, .int .i64 n] 90)).alloc (.cells #[.int .i64 0, .int .i64 0, .int .i64 0, .int .i64 0, .string ⟨#[]⟩, .int .i64 0, .int .i64 0, .string ⟨#[]⟩, .slice none 0 0, .int .i64 0, .int .i64 0, .int .i64 0, .string ⟨#[]⟩, .int .i64 0] 90)) (w.heap.size + 1) 90 [.int .i64 0, .int .i64 0, .int .i64 0, .int .i64 0, .string ⟨#[]⟩, .int .i64 0, .int .i64 0, .string ⟨#[]⟩, .slice none 0 0, .int .i64 0, .int .i64 0, .int .i64 0, .string ⟨#[]⟩, .int .i64 0] from Wide.new_at (by simp)).alloc (.cells #[.int .i64 4, .int .i64 t, .int .i64 0, .int .i64 0, .string ⟨#[]⟩, .int .i64 0, .int .i64 0, .string ⟨#[]⟩, .slice none 0 0, .int .i64 0, .int .i64 0, .int .i64 0, .string ⟨#[]⟩, .int .i64 0] 90))
  have Z := Lib.hid (show Row (((w.alloc (.cells #[.int .i64 4, .int .i64 t, .int .i64 kk, .int .i64 kn, .string ks, .int .i64 hk, .int .i64 hn, .string hs, .slice ra row.length rc, .int .i64 c, .int .i64 vk, .int .i64 vn, .string vs, .int .i64 n] 90)).alloc (.cells #[.int .i64 0, .int .i64 0, .int .i64 0, .int .i64 0, .string ⟨#[]⟩, .int .i64 0, .int .i64 0, .string ⟨#[]⟩, .slice none 0 0, .int .i64 0, .int .i64 0, .int .i64 0, .string ⟨#[]⟩, .int .i64 0] 90)).alloc (.cells #[.int .i64 4, .int .i64 t, .int .i64 0, .int .i64 0, .string ⟨#[]⟩, .int .i64 0, .int .i64 0, .string ⟨#[]⟩, .slice none 0 0, .int .i64 0, .int .i64 0, .int .i64 0, .string ⟨#[]⟩, .int .i64 0] 90)) (w.heap.size + 1 + 1) 90 [.int .i64 4, .int .i64 t, .int .i64 0, .int .i64 0, .string ⟨#[]⟩, .int .i64 0, .int .i64 0, .string ⟨#[]⟩, .slice none 0 0, .int .i64 0, .int .i64 0, .int .i64 0, .string ⟨#[]⟩, .int .i64 0] from Wide.new_at (by simp))
  have C := Lib.hid ((((Chg.refl (BldX.Own F b) w).alloc (.cells #[.int .i64 4, .int .i64 t, .int .i64 kk, .int .i64 kn, .string ks, .int .i64 hk, .int .i64 hn, .string hs, .slice ra row.length rc, .int .i64 c, .int .i64 vk, .int .i64 vn, .string vs, .int .i64 n] 90)).alloc (.cells #[.int .i64 0, .int .i64 0, .int .i64 0, .int .i64 0, .string ⟨#[]⟩, .int .i64 0, .int .i64 0, .string ⟨#[]⟩, .slice none 0 0, .int .i64 0, .int .i64 0, .int .i64 0, .string ⟨#[]⟩, .int .i64 0] 90)).alloc (.cells #[.int .i64 4, .int .i64 t, .int .i64 0, .int .i64 0, .string ⟨#[]⟩, .int .i64 0, .int .i64 0, .string ⟨#[]⟩, .slice none 0 0, .int .i64 0, .int .i64 0, .int .i64 0, .string ⟨#[]⟩, .int .i64 0] 90))
  have VV := Lib.hid hV
  have VN := Lib.hid hN
  have FF := Lib.hid hf
  have Hn0 := Lib.hid n0
  have Hn1 := Lib.hid n1
  have Hn2 := Lib.hid n2
  have Hhm := Lib.hid hm
  have Hf1 := Lib.hid f1
  have Hf2 := Lib.hid f2
  have hb : ¬ F b := h.1
  have HB := Lib.hid hb
  have x0 := X.out.cell (i := 0) rfl
  have x1 := X.out.cell (i := 1) rfl
  have x2 := X.out.cell (i := 2) rfl
  have x3 := X.out.cell (i := 3) rfl
  have x4 := X.out.cell (i := 4) rfl
  have x5 := X.out.cell (i := 5) rfl
  have x6 := X.out.cell (i := 6) rfl
  have x7 := X.out.cell (i := 7) rfl
  have x8 := X.out.cell (i := 8) rfl
  have x9 := X.out.cell (i := 9) rfl
  have x10 := X.out.cell (i := 10) rfl
  have x11 := X.out.cell (i := 11) rfl
  have x12 := X.out.cell (i := 12) rfl
  have x13 := X.out.cell (i := 13) rfl
  clear p3 n0 n1 n2 hm f1 f2 h hV hN hf hb
  go_enter Try.func152, Try.ntmps152
  go_wp2_with fail
  clear x0 x1 x2 x3 x4 x5 x6 x7 x8 x9 x10 x11 x12 x13
  generalize w.heap.size + 1 + 1 = s2 at *
  generalize w.heap.size + 1 = s1 at *
  generalize w.heap.size = s0 at *
  refine (one_calls _ b (l) (bad) (4) _ P.out (by have := vals_len row; have := vals_len [(⟨kk, kn, ks⟩ : V)]; have := vals_len [(⟨vk, vn, vs⟩ : V)]; have := vals_len [(⟨kk, kn, ks⟩ : V), ⟨hk, hn, hs⟩]; simp only [List.length_append, List.length_cons, List.length_nil] at *; omega)).mono ?_
  rintro e w1 ⟨rfl, hp, kc⟩
  replace X := Lib.hid (X.out.chg kc Hn0.out)
  replace Y := Lib.hid (Y.out.chg kc Hn1.out)
  replace Z := Lib.hid (Z.out.chg kc Hn2.out)
  replace C := Lib.hid (C.out.trans (kc.mono (fun k _ e => Hhm.out k e)))
  replace P := Lib.hid hp
  clear kc hp
  have x1 := X.out.cell (i := 1) rfl
  go_wp2_with fail
  refine (one_calls _ b (l ++ [oneB (4)]) (bad || oneBad (4)) (t) _ P.out (by have := vals_len row; have := vals_len [(⟨kk, kn, ks⟩ : V)]; have := vals_len [(⟨vk, vn, vs⟩ : V)]; have := vals_len [(⟨kk, kn, ks⟩ : V), ⟨hk, hn, hs⟩]; simp only [List.length_append, List.length_cons, List.length_nil] at *; omega)).mono ?_
  rintro e w2 ⟨rfl, hp, kc⟩
  replace X := Lib.hid (X.out.chg kc Hn0.out)
  replace Y := Lib.hid (Y.out.chg kc Hn1.out)
  replace Z := Lib.hid (Z.out.chg kc Hn2.out)
  replace C := Lib.hid (C.out.trans (kc.mono (fun k _ e => Hhm.out k e)))
  replace P := Lib.hid hp
  clear kc hp x1
  have z2 := Z.out.cell (i := 2) rfl
  have g2 := Z.out.frozen 2 (by simp)
  have z3 := Z.out.cell (i := 3) rfl
  have g3 := Z.out.frozen 3 (by simp)
  have z4 := Z.out.cell (i := 4) rfl
  have g4 := Z.out.frozen 4 (by simp)
  have x0 := X.out.cell (i := 0) rfl
  have x2 := X.out.cell (i := 2) rfl
  have x3 := X.out.cell (i := 3) rfl
  have x4 := X.out.cell (i := 4) rfl
  go_wp2_with fail
  replace X := Lib.hid (((X.out.set_ne ⟨s2, 2, none⟩ (.int .i64 kk) q2).set_ne ⟨s2, 3, none⟩ (.int .i64 kn) q2).set_ne ⟨s2, 4, none⟩ (.string ks) q2)
  replace Y := Lib.hid (((Y.out.set_ne ⟨s2, 2, none⟩ (.int .i64 kk) q7).set_ne ⟨s2, 3, none⟩ (.int .i64 kn) q7).set_ne ⟨s2, 4, none⟩ (.string ks) q7)
  replace Z := Lib.hid ((((Z.out.set 2 (.int .i64 kk)).set 3 (.int .i64 kn)).set 4 (.string ks)).cast (cs' := [.int .i64 4, .int .i64 t, .int .i64 kk, .int .i64 kn, .string ks, .int .i64 0, .int .i64 0, .string ⟨#[]⟩, .slice none 0 0, .int .i64 0, .int .i64 0, .int .i64 0, .string ⟨#[]⟩, .int .i64 0]) rfl)
  replace P := Lib.hid (beyond (beyond (beyond P.out q0 Hn2.out 2 (.int .i64 kk)) q0 Hn2.out 3 (.int .i64 kn)) q0 Hn2.out 4 (.string ks))
  replace C := Lib.hid (Chg.setCell (Chg.setCell (Chg.setCell C.out (a := ⟨s2, 2, none⟩) (fun _ => (.inr Hf2.out : BldX.Own F b s2)) (.int .i64 kk)) (a := ⟨s2, 3, none⟩) (fun _ => (.inr Hf2.out : BldX.Own F b s2)) (.int .i64 kn)) (a := ⟨s2, 4, none⟩) (fun _ => (.inr Hf2.out : BldX.Own F b s2)) (.string ks))
  clear x0 x2 x3 x4 z2 g2 z3 g3 z4 g4
  refine (built1_calls _ b (l ++ [oneB (4)] ++ [oneB (t)]) (bad || oneBad (4) || oneBad (t)) kk kn ks _ _ (by simp) P.out FF.out.1 (by have := vals_len row; have := vals_len [(⟨kk, kn, ks⟩ : V)]; have := vals_len [(⟨vk, vn, vs⟩ : V)]; have := vals_len [(⟨kk, kn, ks⟩ : V), ⟨hk, hn, hs⟩]; simp only [List.length_append, List.length_cons, List.length_nil] at *; omega)).mono ?_
  rintro e w3 ⟨rfl, hp, kc⟩
  replace X := Lib.hid (X.out.chg kc Hn0.out)
  replace Y := Lib.hid (Y.out.chg kc Hn1.out)
  replace Z := Lib.hid (Z.out.chg kc Hn2.out)
  replace C := Lib.hid (C.out.trans (kc.mono (fun k _ e => Hhm.out k e)))
  replace P := Lib.hid hp
  clear kc hp
  go_wp2_with (first | (refine load_row Z.out 90 Try.underlying90 rfl (by kernel_rfl) rfl rfl rfl ?_) | (refine store_row Y.out [.int .i64 4, .int .i64 t, .int .i64 kk, .int .i64 kn, .string ks, .int .i64 0, .int .i64 0, .string ⟨#[]⟩, .slice none 0 0, .int .i64 0, .int .i64 0, .int .i64 0, .string ⟨#[]⟩, .int .i64 0] 90 (by kernel_rfl) rfl (by simp [Value.oneCell']) rfl rfl rfl rfl ?_; intro w90 hR hc hsz))
  have P9 := Lib.hid (BldX.Is.wider (BldX.Is.chg P.out hc (fun e => q1 (show s1 = b from e.symm)) (fun k hk e => Hn1.out (.inr ((show k = s1 from e) ▸ hk)))) (fun k hk => hk.1) HB.out)
  have C9 := Lib.hid (C.out.trans (hc.mono (fun k _ e => (.inr ((show k = s1 from e) ▸ Hf1.out) : BldX.Own F b k))))
  have R9 := Lib.hid hR
  clear hR hc hsz
  refine ret_row R9.out Try.results152 Try.underlying90 rfl (by kernel_rfl) rfl rfl ⟨?_, ?_, C9.out⟩
  · rfl
  · have e1 : l ++ [oneB (4)] ++ [oneB (t)] ++ vals [(⟨kk, kn, ks⟩ : V)] = l ++ Wsh.bytes ⟨4, t, ⟨kk, kn, ks⟩, ⟨hk, hn, hs⟩, ra, rc, row, c, ⟨vk, vn, vs⟩, n⟩ := by simp [Wsh.bytes, List.append_assoc]
    have e2 : (bad || oneBad (4) || oneBad (t) || valsBad [(⟨kk, kn, ks⟩ : V)]) = (bad || Wsh.bad ⟨4, t, ⟨kk, kn, ks⟩, ⟨hk, hn, hs⟩, ra, rc, row, c, ⟨vk, vn, vs⟩, n⟩) := by simp [Wsh.bad, List.append_assoc, Bool.or_assoc]
    rw [← e1, ← e2]
    exact P9.out
set_option maxHeartbeats 8000000 in
theorem wish_6 (F : Nat → Prop) (b : Nat) (l : List UInt8) (bad : Bool) (t kk kn : Int) (ks : ByteArray) (hk hn : Int) (hs : ByteArray) (ra : Option Addr) (rc : Nat) (row : List V) (c vk vn : Int) (vs : ByteArray) (n : Int) (w : World) (h : Pen w F b l bad) (hV : Vs w ra row) (hN : ∀ ad, ra = some ad → row ≠ [] → ¬ BldX.Own F b ad.block) (hf : Wsh.fits ⟨6, t, ⟨kk, kn, ks⟩, ⟨hk, hn, hs⟩, ra, rc, row, c, ⟨vk, vn, vs⟩, n⟩) (hl : l.length ≤ 80000000) (hr : row.length ≤ 1000) :
    WishPost F b l bad ⟨6, t, ⟨kk, kn, ks⟩, ⟨hk, hn, hs⟩, ra, rc, row, c, ⟨vk, vn, vs⟩, n⟩ w := by
  unfold WishPost
  show Calls Try.prog 152 #[.pointer (some ⟨b, 0, none⟩), .agg #[.int .i64 6, .int .i64 t, .int .i64 kk, .int .i64 kn, .string ks, .int .i64 hk, .int .i64 hn, .string hs, .slice ra row.length rc, .int .i64 c, .int .i64 vk, .int .i64 vn, .string vs, .int .i64 n]] w _
  obtain ⟨p3, n0, n1, n2, hm, f1, f2, ⟨q0, q5⟩, q1, q4, q3, q2, q7, q6⟩ := three h (.cells #[.int .i64 6, .int .i64 t, .int .i64 kk, .int .i64 kn, .string ks, .int .i64 hk, .int .i64 hn, .string hs, .slice ra row.length rc, .int .i64 c, .int .i64 vk, .int .i64 vn, .string vs, .int .i64 n] 90) (.cells #[.int .i64 0, .int .i64 0, .int .i64 0, .int .i64 0, .string ⟨#[]⟩, .int .i64 0, .int .i64 0, .string ⟨#[]⟩, .slice none 0 0, .int .i64 0, .int .i64 0, .int .i64 0, .string ⟨#[]⟩, .int .i64 0] 90) (.cells #[.int .i64 6, .int .i64 t, .int .i64 0, .int .i64 0, .string ⟨#[]⟩, .int .i64 0, .int .i64 0, .string ⟨#[]⟩, .slice none 0 0, .int .i64 0, .int .i64 0, .int .i64 0, .string ⟨#[]⟩, .int .i64 0] 90)
  have P := Lib.hid p3
  have X := Lib.hid (((Row.new w 90 [.int .i64 6, .int .i64 t, .int .i64 kk, .int .i64 kn, .string ks, .int .i64 hk, .int .i64 hn, .string hs, .slice ra row.length rc, .int .i64 c, .int .i64 vk, .int .i64 vn, .string vs, .int .i64 n]).alloc (.cells #[.int .i64 0, .int .i64 0, .int .i64 0, .int .i64 0, .string ⟨#[]⟩, .int .i64 0, .int .i64 0, .string ⟨#[]⟩, .slice none 0 0, .int .i64 0, .int .i64 0, .int .i64 0, .string ⟨#[]⟩, .int .i64 0] 90)).alloc (.cells #[.int .i64 6, .int .i64 t, .int .i64 0, .int .i64 0, .string ⟨#[]⟩, .int .i64 0, .int .i64 0, .string ⟨#[]⟩, .slice none 0 0, .int .i64 0, .int .i64 0, .int .i64 0, .string ⟨#[]⟩, .int .i64 0] 90))
  have Y := Lib.hid ((show Row ((w.alloc (.cells #[.int .i64 6, .int .i64 t, .int .i64 kk, .int .i64 kn, .string ks, .int .i64 hk, .int .i64 hn, .string hs, .slice ra row.length rc, .int .i64 c, .int .i64 vk, .int .i64 vn, .string vs, .int .i64 n] 90)).alloc (.cells #[.int .i64 0, .int .i64 0, .int .i64 0, .int .i64 0, .string ⟨#[]⟩, .int .i64 0, .int .i64 0, .string ⟨#[]⟩, .slice none 0 0, .int .i64 0, .int .i64 0, .int .i64 0, .string ⟨#[]⟩, .int .i64 0] 90)) (w.heap.size + 1) 90 [.int .i64 0, .int .i64 0, .int .i64 0, .int .i64 0, .string ⟨#[]⟩, .int .i64 0, .int .i64 0, .string ⟨#[]⟩, .slice none 0 0, .int .i64 0, .int .i64 0, .int .i64 0, .string ⟨#[]⟩, .int .i64 0] from Wide.new_at (by simp)).alloc (.cells #[.int .i64 6, .int .i64 t, .int .i64 0, .int .i64 0, .string ⟨#[]⟩, .int .i64 0, .int .i64 0, .string ⟨#[]⟩, .slice none 0 0, .int .i64 0, .int .i64 0, .int .i64 0, .string ⟨#[]⟩, .int .i64 0] 90))
  have Z := Lib.hid (show Row (((w.alloc (.cells #[.int .i64 6, .int .i64 t, .int .i64 kk, .int .i64 kn, .string ks, .int .i64 hk, .int .i64 hn, .string hs, .slice ra row.length rc, .int .i64 c, .int .i64 vk, .int .i64 vn, .string vs, .int .i64 n] 90)).alloc (.cells #[.int .i64 0, .int .i64 0, .int .i64 0, .int .i64 0, .string ⟨#[]⟩, .int .i64 0, .int .i64 0, .string ⟨#[]⟩, .slice none 0 0, .int .i64 0, .int .i64 0, .int .i64 0, .string ⟨#[]⟩, .int .i64 0] 90)).alloc (.cells #[.int .i64 6, .int .i64 t, .int .i64 0, .int .i64 0, .string ⟨#[]⟩, .int .i64 0, .int .i64 0, .string ⟨#[]⟩, .slice none 0 0, .int .i64 0, .int .i64 0, .int .i64 0, .string ⟨#[]⟩, .int .i64 0] 90)) (w.heap.size + 1 + 1) 90 [.int .i64 6, .int .i64 t, .int .i64 0, .int .i64 0, .string ⟨#[]⟩, .int .i64 0, .int .i64 0, .string ⟨#[]⟩, .slice none 0 0, .int .i64 0, .int .i64 0, .int .i64 0, .string ⟨#[]⟩, .int .i64 0] from Wide.new_at (by simp))
  have C := Lib.hid ((((Chg.refl (BldX.Own F b) w).alloc (.cells #[.int .i64 6, .int .i64 t, .int .i64 kk, .int .i64 kn, .string ks, .int .i64 hk, .int .i64 hn, .string hs, .slice ra row.length rc, .int .i64 c, .int .i64 vk, .int .i64 vn, .string vs, .int .i64 n] 90)).alloc (.cells #[.int .i64 0, .int .i64 0, .int .i64 0, .int .i64 0, .string ⟨#[]⟩, .int .i64 0, .int .i64 0, .string ⟨#[]⟩, .slice none 0 0, .int .i64 0, .int .i64 0, .int .i64 0, .string ⟨#[]⟩, .int .i64 0] 90)).alloc (.cells #[.int .i64 6, .int .i64 t, .int .i64 0, .int .i64 0, .string ⟨#[]⟩, .int .i64 0, .int .i64 0, .string ⟨#[]⟩, .slice none 0 0, .int .i64 0, .int .i64 0, .int .i64 0, .string ⟨#[]⟩, .int .i64 0] 90))
  have VV := Lib.hid hV
  have VN := Lib.hid hN
  have FF := Lib.hid hf
  have Hn0 := Lib.hid n0
  have Hn1 := Lib.hid n1
  have Hn2 := Lib.hid n2
  have Hhm := Lib.hid hm
  have Hf1 := Lib.hid f1
  have Hf2 := Lib.hid f2
  have hb : ¬ F b := h.1
  have HB := Lib.hid hb
  have x0 := X.out.cell (i := 0) rfl
  have x1 := X.out.cell (i := 1) rfl
  have x2 := X.out.cell (i := 2) rfl
  have x3 := X.out.cell (i := 3) rfl
  have x4 := X.out.cell (i := 4) rfl
  have x5 := X.out.cell (i := 5) rfl
  have x6 := X.out.cell (i := 6) rfl
  have x7 := X.out.cell (i := 7) rfl
  have x8 := X.out.cell (i := 8) rfl
  have x9 := X.out.cell (i := 9) rfl
  have x10 := X.out.cell (i := 10) rfl
  have x11 := X.out.cell (i := 11) rfl
  have x12 := X.out.cell (i := 12) rfl
  have x13 := X.out.cell (i := 13) rfl
  clear p3 n0 n1 n2 hm f1 f2 h hV hN hf hb
  go_enter Try.func152, Try.ntmps152
  go_wp2_with fail
  clear x0 x1 x2 x3 x4 x5 x6 x7 x8 x9 x10 x11 x12 x13
  generalize w.heap.size + 1 + 1 = s2 at *
  generalize w.heap.size + 1 = s1 at *
  generalize w.heap.size = s0 at *
  refine (one_calls _ b (l) (bad) (6) _ P.out (by have := vals_len row; have := vals_len [(⟨kk, kn, ks⟩ : V)]; have := vals_len [(⟨vk, vn, vs⟩ : V)]; have := vals_len [(⟨kk, kn, ks⟩ : V), ⟨hk, hn, hs⟩]; simp only [List.length_append, List.length_cons, List.length_nil] at *; omega)).mono ?_
  rintro e w1 ⟨rfl, hp, kc⟩
  replace X := Lib.hid (X.out.chg kc Hn0.out)
  replace Y := Lib.hid (Y.out.chg kc Hn1.out)
  replace Z := Lib.hid (Z.out.chg kc Hn2.out)
  replace C := Lib.hid (C.out.trans (kc.mono (fun k _ e => Hhm.out k e)))
  replace P := Lib.hid hp
  clear kc hp
  have x1 := X.out.cell (i := 1) rfl
  go_wp2_with fail
  refine (one_calls _ b (l ++ [oneB (6)]) (bad || oneBad (6)) (t) _ P.out (by have := vals_len row; have := vals_len [(⟨kk, kn, ks⟩ : V)]; have := vals_len [(⟨vk, vn, vs⟩ : V)]; have := vals_len [(⟨kk, kn, ks⟩ : V), ⟨hk, hn, hs⟩]; simp only [List.length_append, List.length_cons, List.length_nil] at *; omega)).mono ?_
  rintro e w2 ⟨rfl, hp, kc⟩
  replace X := Lib.hid (X.out.chg kc Hn0.out)
  replace Y := Lib.hid (Y.out.chg kc Hn1.out)
  replace Z := Lib.hid (Z.out.chg kc Hn2.out)
  replace C := Lib.hid (C.out.trans (kc.mono (fun k _ e => Hhm.out k e)))
  replace P := Lib.hid hp
  clear kc hp x1
  have z2 := Z.out.cell (i := 2) rfl
  have g2 := Z.out.frozen 2 (by simp)
  have z3 := Z.out.cell (i := 3) rfl
  have g3 := Z.out.frozen 3 (by simp)
  have z4 := Z.out.cell (i := 4) rfl
  have g4 := Z.out.frozen 4 (by simp)
  have x0 := X.out.cell (i := 0) rfl
  have x2 := X.out.cell (i := 2) rfl
  have x3 := X.out.cell (i := 3) rfl
  have x4 := X.out.cell (i := 4) rfl
  go_wp2_with fail
  replace X := Lib.hid (((X.out.set_ne ⟨s2, 2, none⟩ (.int .i64 kk) q2).set_ne ⟨s2, 3, none⟩ (.int .i64 kn) q2).set_ne ⟨s2, 4, none⟩ (.string ks) q2)
  replace Y := Lib.hid (((Y.out.set_ne ⟨s2, 2, none⟩ (.int .i64 kk) q7).set_ne ⟨s2, 3, none⟩ (.int .i64 kn) q7).set_ne ⟨s2, 4, none⟩ (.string ks) q7)
  replace Z := Lib.hid ((((Z.out.set 2 (.int .i64 kk)).set 3 (.int .i64 kn)).set 4 (.string ks)).cast (cs' := [.int .i64 6, .int .i64 t, .int .i64 kk, .int .i64 kn, .string ks, .int .i64 0, .int .i64 0, .string ⟨#[]⟩, .slice none 0 0, .int .i64 0, .int .i64 0, .int .i64 0, .string ⟨#[]⟩, .int .i64 0]) rfl)
  replace P := Lib.hid (beyond (beyond (beyond P.out q0 Hn2.out 2 (.int .i64 kk)) q0 Hn2.out 3 (.int .i64 kn)) q0 Hn2.out 4 (.string ks))
  replace C := Lib.hid (Chg.setCell (Chg.setCell (Chg.setCell C.out (a := ⟨s2, 2, none⟩) (fun _ => (.inr Hf2.out : BldX.Own F b s2)) (.int .i64 kk)) (a := ⟨s2, 3, none⟩) (fun _ => (.inr Hf2.out : BldX.Own F b s2)) (.int .i64 kn)) (a := ⟨s2, 4, none⟩) (fun _ => (.inr Hf2.out : BldX.Own F b s2)) (.string ks))
  clear x0 x2 x3 x4 z2 g2 z3 g3 z4 g4
  refine (built1_calls _ b (l ++ [oneB (6)] ++ [oneB (t)]) (bad || oneBad (6) || oneBad (t)) kk kn ks _ _ (by simp) P.out FF.out.1 (by have := vals_len row; have := vals_len [(⟨kk, kn, ks⟩ : V)]; have := vals_len [(⟨vk, vn, vs⟩ : V)]; have := vals_len [(⟨kk, kn, ks⟩ : V), ⟨hk, hn, hs⟩]; simp only [List.length_append, List.length_cons, List.length_nil] at *; omega)).mono ?_
  rintro e w3 ⟨rfl, hp, kc⟩
  replace X := Lib.hid (X.out.chg kc Hn0.out)
  replace Y := Lib.hid (Y.out.chg kc Hn1.out)
  replace Z := Lib.hid (Z.out.chg kc Hn2.out)
  replace C := Lib.hid (C.out.trans (kc.mono (fun k _ e => Hhm.out k e)))
  replace P := Lib.hid hp
  clear kc hp
  go_wp2_with (first | (refine load_row Z.out 90 Try.underlying90 rfl (by kernel_rfl) rfl rfl rfl ?_) | (refine store_row Y.out [.int .i64 6, .int .i64 t, .int .i64 kk, .int .i64 kn, .string ks, .int .i64 0, .int .i64 0, .string ⟨#[]⟩, .slice none 0 0, .int .i64 0, .int .i64 0, .int .i64 0, .string ⟨#[]⟩, .int .i64 0] 90 (by kernel_rfl) rfl (by simp [Value.oneCell']) rfl rfl rfl rfl ?_; intro w90 hR hc hsz))
  have P9 := Lib.hid (BldX.Is.wider (BldX.Is.chg P.out hc (fun e => q1 (show s1 = b from e.symm)) (fun k hk e => Hn1.out (.inr ((show k = s1 from e) ▸ hk)))) (fun k hk => hk.1) HB.out)
  have C9 := Lib.hid (C.out.trans (hc.mono (fun k _ e => (.inr ((show k = s1 from e) ▸ Hf1.out) : BldX.Own F b k))))
  have R9 := Lib.hid hR
  clear hR hc hsz
  refine ret_row R9.out Try.results152 Try.underlying90 rfl (by kernel_rfl) rfl rfl ⟨?_, ?_, C9.out⟩
  · rfl
  · have e1 : l ++ [oneB (6)] ++ [oneB (t)] ++ vals [(⟨kk, kn, ks⟩ : V)] = l ++ Wsh.bytes ⟨6, t, ⟨kk, kn, ks⟩, ⟨hk, hn, hs⟩, ra, rc, row, c, ⟨vk, vn, vs⟩, n⟩ := by simp [Wsh.bytes, List.append_assoc]
    have e2 : (bad || oneBad (6) || oneBad (t) || valsBad [(⟨kk, kn, ks⟩ : V)]) = (bad || Wsh.bad ⟨6, t, ⟨kk, kn, ks⟩, ⟨hk, hn, hs⟩, ra, rc, row, c, ⟨vk, vn, vs⟩, n⟩) := by simp [Wsh.bad, List.append_assoc, Bool.or_assoc]
    rw [← e1, ← e2]
    exact P9.out
set_option maxHeartbeats 8000000 in
theorem wish_3 (F : Nat → Prop) (b : Nat) (l : List UInt8) (bad : Bool) (t kk kn : Int) (ks : ByteArray) (hk hn : Int) (hs : ByteArray) (ra : Option Addr) (rc : Nat) (row : List V) (c vk vn : Int) (vs : ByteArray) (n : Int) (w : World) (h : Pen w F b l bad) (hV : Vs w ra row) (hN : ∀ ad, ra = some ad → row ≠ [] → ¬ BldX.Own F b ad.block) (hf : Wsh.fits ⟨3, t, ⟨kk, kn, ks⟩, ⟨hk, hn, hs⟩, ra, rc, row, c, ⟨vk, vn, vs⟩, n⟩) (hl : l.length ≤ 80000000) (hr : row.length ≤ 1000) :
    WishPost F b l bad ⟨3, t, ⟨kk, kn, ks⟩, ⟨hk, hn, hs⟩, ra, rc, row, c, ⟨vk, vn, vs⟩, n⟩ w := by
  unfold WishPost
  show Calls Try.prog 152 #[.pointer (some ⟨b, 0, none⟩), .agg #[.int .i64 3, .int .i64 t, .int .i64 kk, .int .i64 kn, .string ks, .int .i64 hk, .int .i64 hn, .string hs, .slice ra row.length rc, .int .i64 c, .int .i64 vk, .int .i64 vn, .string vs, .int .i64 n]] w _
  obtain ⟨p3, n0, n1, n2, hm, f1, f2, ⟨q0, q5⟩, q1, q4, q3, q2, q7, q6⟩ := three h (.cells #[.int .i64 3, .int .i64 t, .int .i64 kk, .int .i64 kn, .string ks, .int .i64 hk, .int .i64 hn, .string hs, .slice ra row.length rc, .int .i64 c, .int .i64 vk, .int .i64 vn, .string vs, .int .i64 n] 90) (.cells #[.int .i64 0, .int .i64 0, .int .i64 0, .int .i64 0, .string ⟨#[]⟩, .int .i64 0, .int .i64 0, .string ⟨#[]⟩, .slice none 0 0, .int .i64 0, .int .i64 0, .int .i64 0, .string ⟨#[]⟩, .int .i64 0] 90) (.cells #[.int .i64 3, .int .i64 t, .int .i64 0, .int .i64 0, .string ⟨#[]⟩, .int .i64 0, .int .i64 0, .string ⟨#[]⟩, .slice none 0 0, .int .i64 0, .int .i64 0, .int .i64 0, .string ⟨#[]⟩, .int .i64 0] 90)
  have P := Lib.hid p3
  have X := Lib.hid (((Row.new w 90 [.int .i64 3, .int .i64 t, .int .i64 kk, .int .i64 kn, .string ks, .int .i64 hk, .int .i64 hn, .string hs, .slice ra row.length rc, .int .i64 c, .int .i64 vk, .int .i64 vn, .string vs, .int .i64 n]).alloc (.cells #[.int .i64 0, .int .i64 0, .int .i64 0, .int .i64 0, .string ⟨#[]⟩, .int .i64 0, .int .i64 0, .string ⟨#[]⟩, .slice none 0 0, .int .i64 0, .int .i64 0, .int .i64 0, .string ⟨#[]⟩, .int .i64 0] 90)).alloc (.cells #[.int .i64 3, .int .i64 t, .int .i64 0, .int .i64 0, .string ⟨#[]⟩, .int .i64 0, .int .i64 0, .string ⟨#[]⟩, .slice none 0 0, .int .i64 0, .int .i64 0, .int .i64 0, .string ⟨#[]⟩, .int .i64 0] 90))
  have Y := Lib.hid ((show Row ((w.alloc (.cells #[.int .i64 3, .int .i64 t, .int .i64 kk, .int .i64 kn, .string ks, .int .i64 hk, .int .i64 hn, .string hs, .slice ra row.length rc, .int .i64 c, .int .i64 vk, .int .i64 vn, .string vs, .int .i64 n] 90)).alloc (.cells #[.int .i64 0, .int .i64 0, .int .i64 0, .int .i64 0, .string ⟨#[]⟩, .int .i64 0, .int .i64 0, .string ⟨#[]⟩, .slice none 0 0, .int .i64 0, .int .i64 0, .int .i64 0, .string ⟨#[]⟩, .int .i64 0] 90)) (w.heap.size + 1) 90 [.int .i64 0, .int .i64 0, .int .i64 0, .int .i64 0, .string ⟨#[]⟩, .int .i64 0, .int .i64 0, .string ⟨#[]⟩, .slice none 0 0, .int .i64 0, .int .i64 0, .int .i64 0, .string ⟨#[]⟩, .int .i64 0] from Wide.new_at (by simp)).alloc (.cells #[.int .i64 3, .int .i64 t, .int .i64 0, .int .i64 0, .string ⟨#[]⟩, .int .i64 0, .int .i64 0, .string ⟨#[]⟩, .slice none 0 0, .int .i64 0, .int .i64 0, .int .i64 0, .string ⟨#[]⟩, .int .i64 0] 90))
  have Z := Lib.hid (show Row (((w.alloc (.cells #[.int .i64 3, .int .i64 t, .int .i64 kk, .int .i64 kn, .string ks, .int .i64 hk, .int .i64 hn, .string hs, .slice ra row.length rc, .int .i64 c, .int .i64 vk, .int .i64 vn, .string vs, .int .i64 n] 90)).alloc (.cells #[.int .i64 0, .int .i64 0, .int .i64 0, .int .i64 0, .string ⟨#[]⟩, .int .i64 0, .int .i64 0, .string ⟨#[]⟩, .slice none 0 0, .int .i64 0, .int .i64 0, .int .i64 0, .string ⟨#[]⟩, .int .i64 0] 90)).alloc (.cells #[.int .i64 3, .int .i64 t, .int .i64 0, .int .i64 0, .string ⟨#[]⟩, .int .i64 0, .int .i64 0, .string ⟨#[]⟩, .slice none 0 0, .int .i64 0, .int .i64 0, .int .i64 0, .string ⟨#[]⟩, .int .i64 0] 90)) (w.heap.size + 1 + 1) 90 [.int .i64 3, .int .i64 t, .int .i64 0, .int .i64 0, .string ⟨#[]⟩, .int .i64 0, .int .i64 0, .string ⟨#[]⟩, .slice none 0 0, .int .i64 0, .int .i64 0, .int .i64 0, .string ⟨#[]⟩, .int .i64 0] from Wide.new_at (by simp))
  have C := Lib.hid ((((Chg.refl (BldX.Own F b) w).alloc (.cells #[.int .i64 3, .int .i64 t, .int .i64 kk, .int .i64 kn, .string ks, .int .i64 hk, .int .i64 hn, .string hs, .slice ra row.length rc, .int .i64 c, .int .i64 vk, .int .i64 vn, .string vs, .int .i64 n] 90)).alloc (.cells #[.int .i64 0, .int .i64 0, .int .i64 0, .int .i64 0, .string ⟨#[]⟩, .int .i64 0, .int .i64 0, .string ⟨#[]⟩, .slice none 0 0, .int .i64 0, .int .i64 0, .int .i64 0, .string ⟨#[]⟩, .int .i64 0] 90)).alloc (.cells #[.int .i64 3, .int .i64 t, .int .i64 0, .int .i64 0, .string ⟨#[]⟩, .int .i64 0, .int .i64 0, .string ⟨#[]⟩, .slice none 0 0, .int .i64 0, .int .i64 0, .int .i64 0, .string ⟨#[]⟩, .int .i64 0] 90))
  have VV := Lib.hid hV
  have VN := Lib.hid hN
  have FF := Lib.hid hf
  have Hn0 := Lib.hid n0
  have Hn1 := Lib.hid n1
  have Hn2 := Lib.hid n2
  have Hhm := Lib.hid hm
  have Hf1 := Lib.hid f1
  have Hf2 := Lib.hid f2
  have hb : ¬ F b := h.1
  have HB := Lib.hid hb
  have x0 := X.out.cell (i := 0) rfl
  have x1 := X.out.cell (i := 1) rfl
  have x2 := X.out.cell (i := 2) rfl
  have x3 := X.out.cell (i := 3) rfl
  have x4 := X.out.cell (i := 4) rfl
  have x5 := X.out.cell (i := 5) rfl
  have x6 := X.out.cell (i := 6) rfl
  have x7 := X.out.cell (i := 7) rfl
  have x8 := X.out.cell (i := 8) rfl
  have x9 := X.out.cell (i := 9) rfl
  have x10 := X.out.cell (i := 10) rfl
  have x11 := X.out.cell (i := 11) rfl
  have x12 := X.out.cell (i := 12) rfl
  have x13 := X.out.cell (i := 13) rfl
  clear p3 n0 n1 n2 hm f1 f2 h hV hN hf hb
  go_enter Try.func152, Try.ntmps152
  go_wp2_with fail
  clear x0 x1 x2 x3 x4 x5 x6 x7 x8 x9 x10 x11 x12 x13
  generalize w.heap.size + 1 + 1 = s2 at *
  generalize w.heap.size + 1 = s1 at *
  generalize w.heap.size = s0 at *
  refine (one_calls _ b (l) (bad) (3) _ P.out (by have := vals_len row; have := vals_len [(⟨kk, kn, ks⟩ : V)]; have := vals_len [(⟨vk, vn, vs⟩ : V)]; have := vals_len [(⟨kk, kn, ks⟩ : V), ⟨hk, hn, hs⟩]; simp only [List.length_append, List.length_cons, List.length_nil] at *; omega)).mono ?_
  rintro e w1 ⟨rfl, hp, kc⟩
  replace X := Lib.hid (X.out.chg kc Hn0.out)
  replace Y := Lib.hid (Y.out.chg kc Hn1.out)
  replace Z := Lib.hid (Z.out.chg kc Hn2.out)
  replace C := Lib.hid (C.out.trans (kc.mono (fun k _ e => Hhm.out k e)))
  replace P := Lib.hid hp
  clear kc hp
  have x1 := X.out.cell (i := 1) rfl
  go_wp2_with fail
  refine (one_calls _ b (l ++ [oneB (3)]) (bad || oneBad (3)) (t) _ P.out (by have := vals_len row; have := vals_len [(⟨kk, kn, ks⟩ : V)]; have := vals_len [(⟨vk, vn, vs⟩ : V)]; have := vals_len [(⟨kk, kn, ks⟩ : V), ⟨hk, hn, hs⟩]; simp only [List.length_append, List.length_cons, List.length_nil] at *; omega)).mono ?_
  rintro e w2 ⟨rfl, hp, kc⟩
  replace X := Lib.hid (X.out.chg kc Hn0.out)
  replace Y := Lib.hid (Y.out.chg kc Hn1.out)
  replace Z := Lib.hid (Z.out.chg kc Hn2.out)
  replace C := Lib.hid (C.out.trans (kc.mono (fun k _ e => Hhm.out k e)))
  replace P := Lib.hid hp
  clear kc hp x1
  have x0 := X.out.cell (i := 0) rfl
  go_wp2_with fail
  clear x0
  replace X := Lib.hid X.out.drew
  replace Y := Lib.hid Y.out.drew
  replace Z := Lib.hid Z.out.drew
  replace P := Lib.hid (BldX.Is.drew P.out)
  replace C := Lib.hid C.out.drew
  have z2 := Z.out.cell (i := 2) rfl
  have g2 := Z.out.frozen 2 (by simp)
  have z3 := Z.out.cell (i := 3) rfl
  have g3 := Z.out.frozen 3 (by simp)
  have z4 := Z.out.cell (i := 4) rfl
  have g4 := Z.out.frozen 4 (by simp)
  have z9 := Z.out.cell (i := 9) rfl
  have g9 := Z.out.frozen 9 (by simp)
  have z10 := Z.out.cell (i := 10) rfl
  have g10 := Z.out.frozen 10 (by simp)
  have z11 := Z.out.cell (i := 11) rfl
  have g11 := Z.out.frozen 11 (by simp)
  have z12 := Z.out.cell (i := 12) rfl
  have g12 := Z.out.frozen 12 (by simp)
  refine Reg.start (fun w' => w'.cell? ⟨s0, 2, none⟩ = some (.int .i64 kk) ∧ w'.cell? ⟨s0, 3, none⟩ = some (.int .i64 kn) ∧ w'.cell? ⟨s0, 4, none⟩ = some (.string ks) ∧ w'.cell? ⟨s0, 9, none⟩ = some (.int .i64 c) ∧ w'.cell? ⟨s0, 10, none⟩ = some (.int .i64 vk) ∧ w'.cell? ⟨s0, 11, none⟩ = some (.int .i64 vn) ∧ w'.cell? ⟨s0, 12, none⟩ = some (.string vs)) (fun i => false) (by kernel_rfl) ⟨X.out.cell rfl, X.out.cell rfl, X.out.cell rfl, X.out.cell rfl, X.out.cell rfl, X.out.cell rfl, X.out.cell rfl⟩ (fun hHeld => ?_)
  generalize w2.drew = wd at *
  refine Reg.takeI 0 (v := ?_) rfl (by kernel_rfl) (by kernel_rfl) (by kernel_rfl) (by kernel_rfl) (fun _ _ _ h => h) (by rfl) ?_ hHeld ?_
  rotate_left 1
  · (intro w hSw; (try dsimp only at hSw); go_simp; try with_reducible rfl)
  try simp only [Act.put, List.setIfInBounds_toArray, List.set_cons_zero, List.set_cons_succ]
  refine Reg.takeI 1 (v := ?_) rfl (by kernel_rfl) (by kernel_rfl) (by kernel_rfl) (by kernel_rfl) (fun _ _ _ h => h) (by rfl) ?_ hHeld ?_
  rotate_left 1
  · (intro w hSw; (try dsimp only at hSw); go_simp; try with_reducible rfl)
  try simp only [Act.put, List.setIfInBounds_toArray, List.set_cons_zero, List.set_cons_succ]
  refine Reg.takeI 2 (v := ?_) rfl (by kernel_rfl) (by kernel_rfl) (by kernel_rfl) (by kernel_rfl) (fun _ _ _ h => h) (by rfl) ?_ hHeld ?_
  rotate_left 1
  · (intro w hSw; (try dsimp only at hSw); go_simp; try with_reducible rfl)
  try simp only [Act.put, List.setIfInBounds_toArray, List.set_cons_zero, List.set_cons_succ]
  refine Reg.takeI 3 (v := ?_) rfl (by kernel_rfl) (by kernel_rfl) (by kernel_rfl) (by kernel_rfl) (fun _ _ _ h => h) (by rfl) ?_ hHeld ?_
  rotate_left 1
  · (intro w hSw; (try dsimp only at hSw); go_simp; try with_reducible rfl)
  try simp only [Act.put, List.setIfInBounds_toArray, List.set_cons_zero, List.set_cons_succ]
  refine Reg.takeI 4 (v := ?_) rfl (by kernel_rfl) (by kernel_rfl) (by kernel_rfl) (by kernel_rfl) (fun _ _ _ h => h) (by rfl) ?_ hHeld ?_
  rotate_left 1
  · (intro w hSw; (try dsimp only at hSw); go_simp; try with_reducible rfl)
  try simp only [Act.put, List.setIfInBounds_toArray, List.set_cons_zero, List.set_cons_succ]
  refine Reg.takeI 5 (v := ?_) rfl (by kernel_rfl) (by kernel_rfl) (by kernel_rfl) (by kernel_rfl) (fun _ _ _ h => h) (by rfl) ?_ hHeld ?_
  rotate_left 1
  · (intro w hSw; (try dsimp only at hSw); go_simp; try with_reducible rfl)
  try simp only [Act.put, List.setIfInBounds_toArray, List.set_cons_zero, List.set_cons_succ]
  refine Reg.takeI 6 (v := ?_) rfl (by kernel_rfl) (by kernel_rfl) (by kernel_rfl) (by kernel_rfl) (fun _ _ _ h => h) (by rfl) ?_ hHeld ?_
  rotate_left 1
  · (intro w hSw; (try dsimp only at hSw); go_simp; try with_reducible rfl)
  try simp only [Act.put, List.setIfInBounds_toArray, List.set_cons_zero, List.set_cons_succ]
  refine Reg.oneI 7 rfl (by kernel_rfl) (by rfl) (fun K hK => ?_)
  go_simp
  replace X := Lib.hid (((X.out.set_ne ⟨s2, 2, none⟩ (.int .i64 kk) q2).set_ne ⟨s2, 3, none⟩ (.int .i64 kn) q2).set_ne ⟨s2, 4, none⟩ (.string ks) q2)
  refine hK.out _ _ (fun _ => ⟨X.out.cell rfl, X.out.cell rfl, X.out.cell rfl, X.out.cell rfl, X.out.cell rfl, X.out.cell rfl, X.out.cell rfl⟩) (fun hHeld => ?_)
  replace hHeld := hHeld (by first | rfl | trivial)
  clear hK K
  try simp only [Act.put, List.setIfInBounds_toArray, List.set_cons_zero, List.set_cons_succ]
  refine Reg.takeI 8 (v := ?_) rfl (by kernel_rfl) (by kernel_rfl) (by kernel_rfl) (by kernel_rfl) (fun _ _ _ h => h) (by rfl) ?_ hHeld ?_
  rotate_left 1
  · (intro w hSw; (try dsimp only at hSw); go_simp; try with_reducible rfl)
  try simp only [Act.put, List.setIfInBounds_toArray, List.set_cons_zero, List.set_cons_succ]
  refine Reg.oneI 9 rfl (by kernel_rfl) (by rfl) (fun K hK => ?_)
  go_simp
  replace X := Lib.hid (X.out.set_ne ⟨s2, 9, none⟩ (.int .i64 c) q2)
  refine hK.out _ _ (fun _ => ⟨X.out.cell rfl, X.out.cell rfl, X.out.cell rfl, X.out.cell rfl, X.out.cell rfl, X.out.cell rfl, X.out.cell rfl⟩) (fun hHeld => ?_)
  replace hHeld := hHeld (by first | rfl | trivial)
  clear hK K
  try simp only [Act.put, List.setIfInBounds_toArray, List.set_cons_zero, List.set_cons_succ]
  refine Reg.takeI 10 (v := ?_) rfl (by kernel_rfl) (by kernel_rfl) (by kernel_rfl) (by kernel_rfl) (fun _ _ _ h => h) (by rfl) ?_ hHeld ?_
  rotate_left 1
  · (intro w hSw; (try dsimp only at hSw); go_simp; try with_reducible rfl)
  try simp only [Act.put, List.setIfInBounds_toArray, List.set_cons_zero, List.set_cons_succ]
  refine Reg.oneI 11 rfl (by kernel_rfl) (by rfl) (fun K hK => ?_)
  go_simp
  replace X := Lib.hid (((X.out.set_ne ⟨s2, 10, none⟩ (.int .i64 vk) q2).set_ne ⟨s2, 11, none⟩ (.int .i64 vn) q2).set_ne ⟨s2, 12, none⟩ (.string vs) q2)
  refine hK.out _ _ (fun _ => ⟨X.out.cell rfl, X.out.cell rfl, X.out.cell rfl, X.out.cell rfl, X.out.cell rfl, X.out.cell rfl, X.out.cell rfl⟩) (fun hHeld => ?_)
  replace hHeld := hHeld (by first | rfl | trivial)
  clear hK K
  try simp only [Act.put, List.setIfInBounds_toArray, List.set_cons_zero, List.set_cons_succ]
  refine Reg.doneI (by kernel_rfl) ?_
  clear hHeld
  clear z2 g2 z3 g3 z4 g4 z9 g9 z10 g10 z11 g11 z12 g12
  replace Y := Lib.hid (((((((Y.out.set_ne ⟨s2, 2, none⟩ (.int .i64 kk) q7).set_ne ⟨s2, 3, none⟩ (.int .i64 kn) q7).set_ne ⟨s2, 4, none⟩ (.string ks) q7).set_ne ⟨s2, 9, none⟩ (.int .i64 c) q7).set_ne ⟨s2, 10, none⟩ (.int .i64 vk) q7).set_ne ⟨s2, 11, none⟩ (.int .i64 vn) q7).set_ne ⟨s2, 12, none⟩ (.string vs) q7)
  replace Z := Lib.hid ((((((((Z.out.set 2 (.int .i64 kk)).set 3 (.int .i64 kn)).set 4 (.string ks)).set 9 (.int .i64 c)).set 10 (.int .i64 vk)).set 11 (.int .i64 vn)).set 12 (.string vs)).cast (cs' := [.int .i64 3, .int .i64 t, .int .i64 kk, .int .i64 kn, .string ks, .int .i64 0, .int .i64 0, .string ⟨#[]⟩, .slice none 0 0, .int .i64 c, .int .i64 vk, .int .i64 vn, .string vs, .int .i64 0]) rfl)
  replace P := Lib.hid (beyond (beyond (beyond (beyond (beyond (beyond (beyond P.out q0 Hn2.out 2 (.int .i64 kk)) q0 Hn2.out 3 (.int .i64 kn)) q0 Hn2.out 4 (.string ks)) q0 Hn2.out 9 (.int .i64 c)) q0 Hn2.out 10 (.int .i64 vk)) q0 Hn2.out 11 (.int .i64 vn)) q0 Hn2.out 12 (.string vs))
  replace C := Lib.hid (Chg.setCell (Chg.setCell (Chg.setCell (Chg.setCell (Chg.setCell (Chg.setCell (Chg.setCell C.out (a := ⟨s2, 2, none⟩) (fun _ => (.inr Hf2.out : BldX.Own F b s2)) (.int .i64 kk)) (a := ⟨s2, 3, none⟩) (fun _ => (.inr Hf2.out : BldX.Own F b s2)) (.int .i64 kn)) (a := ⟨s2, 4, none⟩) (fun _ => (.inr Hf2.out : BldX.Own F b s2)) (.string ks)) (a := ⟨s2, 9, none⟩) (fun _ => (.inr Hf2.out : BldX.Own F b s2)) (.int .i64 c)) (a := ⟨s2, 10, none⟩) (fun _ => (.inr Hf2.out : BldX.Own F b s2)) (.int .i64 vk)) (a := ⟨s2, 11, none⟩) (fun _ => (.inr Hf2.out : BldX.Own F b s2)) (.int .i64 vn)) (a := ⟨s2, 12, none⟩) (fun _ => (.inr Hf2.out : BldX.Own F b s2)) (.string vs))
  have x2 := X.out.cell (i := 2) rfl
  have x3 := X.out.cell (i := 3) rfl
  have x4 := X.out.cell (i := 4) rfl
  go_wp2_with fail
  clear x2 x3 x4
  refine (built1_calls _ b (l ++ [oneB (3)] ++ [oneB (t)]) (bad || oneBad (3) || oneBad (t)) kk kn ks _ _ (by simp) P.out FF.out.1 (by have := vals_len row; have := vals_len [(⟨kk, kn, ks⟩ : V)]; have := vals_len [(⟨vk, vn, vs⟩ : V)]; have := vals_len [(⟨kk, kn, ks⟩ : V), ⟨hk, hn, hs⟩]; simp only [List.length_append, List.length_cons, List.length_nil] at *; omega)).mono ?_
  rintro e w3 ⟨rfl, hp, kc⟩
  replace X := Lib.hid (X.out.chg kc Hn0.out)
  replace Y := Lib.hid (Y.out.chg kc Hn1.out)
  replace Z := Lib.hid (Z.out.chg kc Hn2.out)
  replace C := Lib.hid (C.out.trans (kc.mono (fun k _ e => Hhm.out k e)))
  replace P := Lib.hid hp
  clear kc hp
  have x9 := X.out.cell (i := 9) rfl
  go_wp2_with fail
  refine (one_calls _ b (l ++ [oneB (3)] ++ [oneB (t)] ++ vals [(⟨kk, kn, ks⟩ : V)]) (bad || oneBad (3) || oneBad (t) || valsBad [(⟨kk, kn, ks⟩ : V)]) (c) _ P.out (by have := vals_len row; have := vals_len [(⟨kk, kn, ks⟩ : V)]; have := vals_len [(⟨vk, vn, vs⟩ : V)]; have := vals_len [(⟨kk, kn, ks⟩ : V), ⟨hk, hn, hs⟩]; simp only [List.length_append, List.length_cons, List.length_nil] at *; omega)).mono ?_
  rintro e w4 ⟨rfl, hp, kc⟩
  replace X := Lib.hid (X.out.chg kc Hn0.out)
  replace Y := Lib.hid (Y.out.chg kc Hn1.out)
  replace Z := Lib.hid (Z.out.chg kc Hn2.out)
  replace C := Lib.hid (C.out.trans (kc.mono (fun k _ e => Hhm.out k e)))
  replace P := Lib.hid hp
  clear kc hp x9
  have x10 := X.out.cell (i := 10) rfl
  have x11 := X.out.cell (i := 11) rfl
  have x12 := X.out.cell (i := 12) rfl
  go_wp2_with fail
  clear x10 x11 x12
  refine (built1_calls _ b (l ++ [oneB (3)] ++ [oneB (t)] ++ vals [(⟨kk, kn, ks⟩ : V)] ++ [oneB (c)]) (bad || oneBad (3) || oneBad (t) || valsBad [(⟨kk, kn, ks⟩ : V)] || oneBad (c)) vk vn vs _ _ (by simp) P.out FF.out.2.2.1 (by have := vals_len row; have := vals_len [(⟨kk, kn, ks⟩ : V)]; have := vals_len [(⟨vk, vn, vs⟩ : V)]; have := vals_len [(⟨kk, kn, ks⟩ : V), ⟨hk, hn, hs⟩]; simp only [List.length_append, List.length_cons, List.length_nil] at *; omega)).mono ?_
  rintro e w5 ⟨rfl, hp, kc⟩
  replace X := Lib.hid (X.out.chg kc Hn0.out)
  replace Y := Lib.hid (Y.out.chg kc Hn1.out)
  replace Z := Lib.hid (Z.out.chg kc Hn2.out)
  replace C := Lib.hid (C.out.trans (kc.mono (fun k _ e => Hhm.out k e)))
  replace P := Lib.hid hp
  clear kc hp
  go_wp2_with (first | (refine load_row Z.out 90 Try.underlying90 rfl (by kernel_rfl) rfl rfl rfl ?_) | (refine store_row Y.out [.int .i64 3, .int .i64 t, .int .i64 kk, .int .i64 kn, .string ks, .int .i64 0, .int .i64 0, .string ⟨#[]⟩, .slice none 0 0, .int .i64 c, .int .i64 vk, .int .i64 vn, .string vs, .int .i64 0] 90 (by kernel_rfl) rfl (by simp [Value.oneCell']) rfl rfl rfl rfl ?_; intro w90 hR hc hsz))
  have P9 := Lib.hid (BldX.Is.wider (BldX.Is.chg P.out hc (fun e => q1 (show s1 = b from e.symm)) (fun k hk e => Hn1.out (.inr ((show k = s1 from e) ▸ hk)))) (fun k hk => hk.1) HB.out)
  have C9 := Lib.hid (C.out.trans (hc.mono (fun k _ e => (.inr ((show k = s1 from e) ▸ Hf1.out) : BldX.Own F b k))))
  have R9 := Lib.hid hR
  clear hR hc hsz
  refine ret_row R9.out Try.results152 Try.underlying90 rfl (by kernel_rfl) rfl rfl ⟨?_, ?_, C9.out⟩
  · rfl
  · have e1 : l ++ [oneB (3)] ++ [oneB (t)] ++ vals [(⟨kk, kn, ks⟩ : V)] ++ [oneB (c)] ++ vals [(⟨vk, vn, vs⟩ : V)] = l ++ Wsh.bytes ⟨3, t, ⟨kk, kn, ks⟩, ⟨hk, hn, hs⟩, ra, rc, row, c, ⟨vk, vn, vs⟩, n⟩ := by simp [Wsh.bytes, List.append_assoc]
    have e2 : (bad || oneBad (3) || oneBad (t) || valsBad [(⟨kk, kn, ks⟩ : V)] || oneBad (c) || valsBad [(⟨vk, vn, vs⟩ : V)]) = (bad || Wsh.bad ⟨3, t, ⟨kk, kn, ks⟩, ⟨hk, hn, hs⟩, ra, rc, row, c, ⟨vk, vn, vs⟩, n⟩) := by simp [Wsh.bad, List.append_assoc, Bool.or_assoc]
    rw [← e1, ← e2]
    exact P9.out
set_option maxHeartbeats 8000000 in
theorem wish_5 (F : Nat → Prop) (b : Nat) (l : List UInt8) (bad : Bool) (t kk kn : Int) (ks : ByteArray) (hk hn : Int) (hs : ByteArray) (ra : Option Addr) (rc : Nat) (row : List V) (c vk vn : Int) (vs : ByteArray) (n : Int) (w : World) (h : Pen w F b l bad) (hV : Vs w ra row) (hN : ∀ ad, ra = some ad → row ≠ [] → ¬ BldX.Own F b ad.block) (hf : Wsh.fits ⟨5, t, ⟨kk, kn, ks⟩, ⟨hk, hn, hs⟩, ra, rc, row, c, ⟨vk, vn, vs⟩, n⟩) (hl : l.length ≤ 80000000) (hr : row.length ≤ 1000) :
    WishPost F b l bad ⟨5, t, ⟨kk, kn, ks⟩, ⟨hk, hn, hs⟩, ra, rc, row, c, ⟨vk, vn, vs⟩, n⟩ w := by
  unfold WishPost
  show Calls Try.prog 152 #[.pointer (some ⟨b, 0, none⟩), .agg #[.int .i64 5, .int .i64 t, .int .i64 kk, .int .i64 kn, .string ks, .int .i64 hk, .int .i64 hn, .string hs, .slice ra row.length rc, .int .i64 c, .int .i64 vk, .int .i64 vn, .string vs, .int .i64 n]] w _
  obtain ⟨p3, n0, n1, n2, hm, f1, f2, ⟨q0, q5⟩, q1, q4, q3, q2, q7, q6⟩ := three h (.cells #[.int .i64 5, .int .i64 t, .int .i64 kk, .int .i64 kn, .string ks, .int .i64 hk, .int .i64 hn, .string hs, .slice ra row.length rc, .int .i64 c, .int .i64 vk, .int .i64 vn, .string vs, .int .i64 n] 90) (.cells #[.int .i64 0, .int .i64 0, .int .i64 0, .int .i64 0, .string ⟨#[]⟩, .int .i64 0, .int .i64 0, .string ⟨#[]⟩, .slice none 0 0, .int .i64 0, .int .i64 0, .int .i64 0, .string ⟨#[]⟩, .int .i64 0] 90) (.cells #[.int .i64 5, .int .i64 t, .int .i64 0, .int .i64 0, .string ⟨#[]⟩, .int .i64 0, .int .i64 0, .string ⟨#[]⟩, .slice none 0 0, .int .i64 0, .int .i64 0, .int .i64 0, .string ⟨#[]⟩, .int .i64 0] 90)
  have P := Lib.hid p3
  have X := Lib.hid (((Row.new w 90 [.int .i64 5, .int .i64 t, .int .i64 kk, .int .i64 kn, .string ks, .int .i64 hk, .int .i64 hn, .string hs, .slice ra row.length rc, .int .i64 c, .int .i64 vk, .int .i64 vn, .string vs, .int .i64 n]).alloc (.cells #[.int .i64 0, .int .i64 0, .int .i64 0, .int .i64 0, .string ⟨#[]⟩, .int .i64 0, .int .i64 0, .string ⟨#[]⟩, .slice none 0 0, .int .i64 0, .int .i64 0, .int .i64 0, .string ⟨#[]⟩, .int .i64 0] 90)).alloc (.cells #[.int .i64 5, .int .i64 t, .int .i64 0, .int .i64 0, .string ⟨#[]⟩, .int .i64 0, .int .i64 0, .string ⟨#[]⟩, .slice none 0 0, .int .i64 0, .int .i64 0, .int .i64 0, .string ⟨#[]⟩, .int .i64 0] 90))
  have Y := Lib.hid ((show Row ((w.alloc (.cells #[.int .i64 5, .int .i64 t, .int .i64 kk, .int .i64 kn, .string ks, .int .i64 hk, .int .i64 hn, .string hs, .slice ra row.length rc, .int .i64 c, .int .i64 vk, .int .i64 vn, .string vs, .int .i64 n] 90)).alloc (.cells #[.int .i64 0, .int .i64 0, .int .i64 0, .int .i64 0, .string ⟨#[]⟩, .int .i64 0, .int .i64 0, .string ⟨#[]⟩, .slice none 0 0, .int .i64 0, .int .i64 0, .int .i64 0, .string ⟨#[]⟩, .int .i64 0] 90)) (w.heap.size + 1) 90 [.int .i64 0, .int .i64 0, .int .i64 0, .int .i64 0, .string ⟨#[]⟩, .int .i64 0, .int .i64 0, .string ⟨#[]⟩, .slice none 0 0, .int .i64 0, .int .i64 0, .int .i64 0, .string ⟨#[]⟩, .int .i64 0] from Wide.new_at (by simp)).alloc (.cells #[.int .i64 5, .int .i64 t, .int .i64 0, .int .i64 0, .string ⟨#[]⟩, .int .i64 0, .int .i64 0, .string ⟨#[]⟩, .slice none 0 0, .int .i64 0, .int .i64 0, .int .i64 0, .string ⟨#[]⟩, .int .i64 0] 90))
  have Z := Lib.hid (show Row (((w.alloc (.cells #[.int .i64 5, .int .i64 t, .int .i64 kk, .int .i64 kn, .string ks, .int .i64 hk, .int .i64 hn, .string hs, .slice ra row.length rc, .int .i64 c, .int .i64 vk, .int .i64 vn, .string vs, .int .i64 n] 90)).alloc (.cells #[.int .i64 0, .int .i64 0, .int .i64 0, .int .i64 0, .string ⟨#[]⟩, .int .i64 0, .int .i64 0, .string ⟨#[]⟩, .slice none 0 0, .int .i64 0, .int .i64 0, .int .i64 0, .string ⟨#[]⟩, .int .i64 0] 90)).alloc (.cells #[.int .i64 5, .int .i64 t, .int .i64 0, .int .i64 0, .string ⟨#[]⟩, .int .i64 0, .int .i64 0, .string ⟨#[]⟩, .slice none 0 0, .int .i64 0, .int .i64 0, .int .i64 0, .string ⟨#[]⟩, .int .i64 0] 90)) (w.heap.size + 1 + 1) 90 [.int .i64 5, .int .i64 t, .int .i64 0, .int .i64 0, .string ⟨#[]⟩, .int .i64 0, .int .i64 0, .string ⟨#[]⟩, .slice none 0 0, .int .i64 0, .int .i64 0, .int .i64 0, .string ⟨#[]⟩, .int .i64 0] from Wide.new_at (by simp))
  have C := Lib.hid ((((Chg.refl (BldX.Own F b) w).alloc (.cells #[.int .i64 5, .int .i64 t, .int .i64 kk, .int .i64 kn, .string ks, .int .i64 hk, .int .i64 hn, .string hs, .slice ra row.length rc, .int .i64 c, .int .i64 vk, .int .i64 vn, .string vs, .int .i64 n] 90)).alloc (.cells #[.int .i64 0, .int .i64 0, .int .i64 0, .int .i64 0, .string ⟨#[]⟩, .int .i64 0, .int .i64 0, .string ⟨#[]⟩, .slice none 0 0, .int .i64 0, .int .i64 0, .int .i64 0, .string ⟨#[]⟩, .int .i64 0] 90)).alloc (.cells #[.int .i64 5, .int .i64 t, .int .i64 0, .int .i64 0, .string ⟨#[]⟩, .int .i64 0, .int .i64 0, .string ⟨#[]⟩, .slice none 0 0, .int .i64 0, .int .i64 0, .int .i64 0, .string ⟨#[]⟩, .int .i64 0] 90))
  have VV := Lib.hid hV
  have VN := Lib.hid hN
  have FF := Lib.hid hf
  have Hn0 := Lib.hid n0
  have Hn1 := Lib.hid n1
  have Hn2 := Lib.hid n2
  have Hhm := Lib.hid hm
  have Hf1 := Lib.hid f1
  have Hf2 := Lib.hid f2
  have hb : ¬ F b := h.1
  have HB := Lib.hid hb
  have x0 := X.out.cell (i := 0) rfl
  have x1 := X.out.cell (i := 1) rfl
  have x2 := X.out.cell (i := 2) rfl
  have x3 := X.out.cell (i := 3) rfl
  have x4 := X.out.cell (i := 4) rfl
  have x5 := X.out.cell (i := 5) rfl
  have x6 := X.out.cell (i := 6) rfl
  have x7 := X.out.cell (i := 7) rfl
  have x8 := X.out.cell (i := 8) rfl
  have x9 := X.out.cell (i := 9) rfl
  have x10 := X.out.cell (i := 10) rfl
  have x11 := X.out.cell (i := 11) rfl
  have x12 := X.out.cell (i := 12) rfl
  have x13 := X.out.cell (i := 13) rfl
  clear p3 n0 n1 n2 hm f1 f2 h hV hN hf hb
  go_enter Try.func152, Try.ntmps152
  go_wp2_with fail
  clear x0 x1 x2 x3 x4 x5 x6 x7 x8 x9 x10 x11 x12 x13
  generalize w.heap.size + 1 + 1 = s2 at *
  generalize w.heap.size + 1 = s1 at *
  generalize w.heap.size = s0 at *
  refine (one_calls _ b (l) (bad) (5) _ P.out (by have := vals_len row; have := vals_len [(⟨kk, kn, ks⟩ : V)]; have := vals_len [(⟨vk, vn, vs⟩ : V)]; have := vals_len [(⟨kk, kn, ks⟩ : V), ⟨hk, hn, hs⟩]; simp only [List.length_append, List.length_cons, List.length_nil] at *; omega)).mono ?_
  rintro e w1 ⟨rfl, hp, kc⟩
  replace X := Lib.hid (X.out.chg kc Hn0.out)
  replace Y := Lib.hid (Y.out.chg kc Hn1.out)
  replace Z := Lib.hid (Z.out.chg kc Hn2.out)
  replace C := Lib.hid (C.out.trans (kc.mono (fun k _ e => Hhm.out k e)))
  replace P := Lib.hid hp
  clear kc hp
  have x1 := X.out.cell (i := 1) rfl
  go_wp2_with fail
  refine (one_calls _ b (l ++ [oneB (5)]) (bad || oneBad (5)) (t) _ P.out (by have := vals_len row; have := vals_len [(⟨kk, kn, ks⟩ : V)]; have := vals_len [(⟨vk, vn, vs⟩ : V)]; have := vals_len [(⟨kk, kn, ks⟩ : V), ⟨hk, hn, hs⟩]; simp only [List.length_append, List.length_cons, List.length_nil] at *; omega)).mono ?_
  rintro e w2 ⟨rfl, hp, kc⟩
  replace X := Lib.hid (X.out.chg kc Hn0.out)
  replace Y := Lib.hid (Y.out.chg kc Hn1.out)
  replace Z := Lib.hid (Z.out.chg kc Hn2.out)
  replace C := Lib.hid (C.out.trans (kc.mono (fun k _ e => Hhm.out k e)))
  replace P := Lib.hid hp
  clear kc hp x1
  have x0 := X.out.cell (i := 0) rfl
  go_wp2_with fail
  clear x0
  replace X := Lib.hid X.out.drew
  replace Y := Lib.hid Y.out.drew
  replace Z := Lib.hid Z.out.drew
  replace P := Lib.hid (BldX.Is.drew P.out)
  replace C := Lib.hid C.out.drew
  have z2 := Z.out.cell (i := 2) rfl
  have g2 := Z.out.frozen 2 (by simp)
  have z3 := Z.out.cell (i := 3) rfl
  have g3 := Z.out.frozen 3 (by simp)
  have z4 := Z.out.cell (i := 4) rfl
  have g4 := Z.out.frozen 4 (by simp)
  have z5 := Z.out.cell (i := 5) rfl
  have g5 := Z.out.frozen 5 (by simp)
  have z6 := Z.out.cell (i := 6) rfl
  have g6 := Z.out.frozen 6 (by simp)
  have z7 := Z.out.cell (i := 7) rfl
  have g7 := Z.out.frozen 7 (by simp)
  refine Reg.start (fun w' => w'.cell? ⟨s0, 2, none⟩ = some (.int .i64 kk) ∧ w'.cell? ⟨s0, 3, none⟩ = some (.int .i64 kn) ∧ w'.cell? ⟨s0, 4, none⟩ = some (.string ks) ∧ w'.cell? ⟨s0, 5, none⟩ = some (.int .i64 hk) ∧ w'.cell? ⟨s0, 6, none⟩ = some (.int .i64 hn) ∧ w'.cell? ⟨s0, 7, none⟩ = some (.string hs)) (fun i => false) (by kernel_rfl) ⟨X.out.cell rfl, X.out.cell rfl, X.out.cell rfl, X.out.cell rfl, X.out.cell rfl, X.out.cell rfl⟩ (fun hHeld => ?_)
  generalize w2.drew = wd at *
  refine Reg.takeI 0 (v := ?_) rfl (by kernel_rfl) (by kernel_rfl) (by kernel_rfl) (by kernel_rfl) (fun _ _ _ h => h) (by rfl) ?_ hHeld ?_
  rotate_left 1
  · (intro w hSw; (try dsimp only at hSw); go_simp; try with_reducible rfl)
  try simp only [Act.put, List.setIfInBounds_toArray, List.set_cons_zero, List.set_cons_succ]
  refine Reg.takeI 1 (v := ?_) rfl (by kernel_rfl) (by kernel_rfl) (by kernel_rfl) (by kernel_rfl) (fun _ _ _ h => h) (by rfl) ?_ hHeld ?_
  rotate_left 1
  · (intro w hSw; (try dsimp only at hSw); go_simp; try with_reducible rfl)
  try simp only [Act.put, List.setIfInBounds_toArray, List.set_cons_zero, List.set_cons_succ]
  refine Reg.takeI 2 (v := ?_) rfl (by kernel_rfl) (by kernel_rfl) (by kernel_rfl) (by kernel_rfl) (fun _ _ _ h => h) (by rfl) ?_ hHeld ?_
  rotate_left 1
  · (intro w hSw; (try dsimp only at hSw); go_simp; try with_reducible rfl)
  try simp only [Act.put, List.setIfInBounds_toArray, List.set_cons_zero, List.set_cons_succ]
  refine Reg.takeI 3 (v := ?_) rfl (by kernel_rfl) (by kernel_rfl) (by kernel_rfl) (by kernel_rfl) (fun _ _ _ h => h) (by rfl) ?_ hHeld ?_
  rotate_left 1
  · (intro w hSw; (try dsimp only at hSw); go_simp; try with_reducible rfl)
  try simp only [Act.put, List.setIfInBounds_toArray, List.set_cons_zero, List.set_cons_succ]
  refine Reg.takeI 4 (v := ?_) rfl (by kernel_rfl) (by kernel_rfl) (by kernel_rfl) (by kernel_rfl) (fun _ _ _ h => h) (by rfl) ?_ hHeld ?_
  rotate_left 1
  · (intro w hSw; (try dsimp only at hSw); go_simp; try with_reducible rfl)
  try simp only [Act.put, List.setIfInBounds_toArray, List.set_cons_zero, List.set_cons_succ]
  refine Reg.oneI 5 rfl (by kernel_rfl) (by rfl) (fun K hK => ?_)
  go_simp
  replace X := Lib.hid (((X.out.set_ne ⟨s2, 2, none⟩ (.int .i64 kk) q2).set_ne ⟨s2, 3, none⟩ (.int .i64 kn) q2).set_ne ⟨s2, 4, none⟩ (.string ks) q2)
  refine hK.out _ _ (fun _ => ⟨X.out.cell rfl, X.out.cell rfl, X.out.cell rfl, X.out.cell rfl, X.out.cell rfl, X.out.cell rfl⟩) (fun hHeld => ?_)
  replace hHeld := hHeld (by first | rfl | trivial)
  clear hK K
  try simp only [Act.put, List.setIfInBounds_toArray, List.set_cons_zero, List.set_cons_succ]
  refine Reg.takeI 6 (v := ?_) rfl (by kernel_rfl) (by kernel_rfl) (by kernel_rfl) (by kernel_rfl) (fun _ _ _ h => h) (by rfl) ?_ hHeld ?_
  rotate_left 1
  · (intro w hSw; (try dsimp only at hSw); go_simp; try with_reducible rfl)
  try simp only [Act.put, List.setIfInBounds_toArray, List.set_cons_zero, List.set_cons_succ]
  refine Reg.oneI 7 rfl (by kernel_rfl) (by rfl) (fun K hK => ?_)
  go_simp
  replace X := Lib.hid (((X.out.set_ne ⟨s2, 5, none⟩ (.int .i64 hk) q2).set_ne ⟨s2, 6, none⟩ (.int .i64 hn) q2).set_ne ⟨s2, 7, none⟩ (.string hs) q2)
  refine hK.out _ _ (fun _ => ⟨X.out.cell rfl, X.out.cell rfl, X.out.cell rfl, X.out.cell rfl, X.out.cell rfl, X.out.cell rfl⟩) (fun hHeld => ?_)
  replace hHeld := hHeld (by first | rfl | trivial)
  clear hK K
  try simp only [Act.put, List.setIfInBounds_toArray, List.set_cons_zero, List.set_cons_succ]
  refine Reg.doneI (by kernel_rfl) ?_
  clear hHeld
  clear z2 g2 z3 g3 z4 g4 z5 g5 z6 g6 z7 g7
  replace Y := Lib.hid ((((((Y.out.set_ne ⟨s2, 2, none⟩ (.int .i64 kk) q7).set_ne ⟨s2, 3, none⟩ (.int .i64 kn) q7).set_ne ⟨s2, 4, none⟩ (.string ks) q7).set_ne ⟨s2, 5, none⟩ (.int .i64 hk) q7).set_ne ⟨s2, 6, none⟩ (.int .i64 hn) q7).set_ne ⟨s2, 7, none⟩ (.string hs) q7)
  replace Z := Lib.hid (((((((Z.out.set 2 (.int .i64 kk)).set 3 (.int .i64 kn)).set 4 (.string ks)).set 5 (.int .i64 hk)).set 6 (.int .i64 hn)).set 7 (.string hs)).cast (cs' := [.int .i64 5, .int .i64 t, .int .i64 kk, .int .i64 kn, .string ks, .int .i64 hk, .int .i64 hn, .string hs, .slice none 0 0, .int .i64 0, .int .i64 0, .int .i64 0, .string ⟨#[]⟩, .int .i64 0]) rfl)
  replace P := Lib.hid (beyond (beyond (beyond (beyond (beyond (beyond P.out q0 Hn2.out 2 (.int .i64 kk)) q0 Hn2.out 3 (.int .i64 kn)) q0 Hn2.out 4 (.string ks)) q0 Hn2.out 5 (.int .i64 hk)) q0 Hn2.out 6 (.int .i64 hn)) q0 Hn2.out 7 (.string hs))
  replace C := Lib.hid (Chg.setCell (Chg.setCell (Chg.setCell (Chg.setCell (Chg.setCell (Chg.setCell C.out (a := ⟨s2, 2, none⟩) (fun _ => (.inr Hf2.out : BldX.Own F b s2)) (.int .i64 kk)) (a := ⟨s2, 3, none⟩) (fun _ => (.inr Hf2.out : BldX.Own F b s2)) (.int .i64 kn)) (a := ⟨s2, 4, none⟩) (fun _ => (.inr Hf2.out : BldX.Own F b s2)) (.string ks)) (a := ⟨s2, 5, none⟩) (fun _ => (.inr Hf2.out : BldX.Own F b s2)) (.int .i64 hk)) (a := ⟨s2, 6, none⟩) (fun _ => (.inr Hf2.out : BldX.Own F b s2)) (.int .i64 hn)) (a := ⟨s2, 7, none⟩) (fun _ => (.inr Hf2.out : BldX.Own F b s2)) (.string hs))
  have x2 := X.out.cell (i := 2) rfl
  have x3 := X.out.cell (i := 3) rfl
  have x4 := X.out.cell (i := 4) rfl
  have x5 := X.out.cell (i := 5) rfl
  have x6 := X.out.cell (i := 6) rfl
  have x7 := X.out.cell (i := 7) rfl
  go_wp2_with fail
  clear x2 x3 x4 x5 x6 x7
  refine (built2_calls _ b (l ++ [oneB (5)] ++ [oneB (t)]) (bad || oneBad (5) || oneBad (t)) kk kn ks hk hn hs _ _ (by simp) P.out FF.out.1 FF.out.2.1 (by have := vals_len row; have := vals_len [(⟨kk, kn, ks⟩ : V)]; have := vals_len [(⟨vk, vn, vs⟩ : V)]; have := vals_len [(⟨kk, kn, ks⟩ : V), ⟨hk, hn, hs⟩]; simp only [List.length_append, List.length_cons, List.length_nil] at *; omega)).mono ?_
  rintro e w3 ⟨rfl, hp, kc⟩
  replace X := Lib.hid (X.out.chg kc Hn0.out)
  replace Y := Lib.hid (Y.out.chg kc Hn1.out)
  replace Z := Lib.hid (Z.out.chg kc Hn2.out)
  replace C := Lib.hid (C.out.trans (kc.mono (fun k _ e => Hhm.out k e)))
  replace P := Lib.hid hp
  clear kc hp
  go_wp2_with (first | (refine load_row Z.out 90 Try.underlying90 rfl (by kernel_rfl) rfl rfl rfl ?_) | (refine store_row Y.out [.int .i64 5, .int .i64 t, .int .i64 kk, .int .i64 kn, .string ks, .int .i64 hk, .int .i64 hn, .string hs, .slice none 0 0, .int .i64 0, .int .i64 0, .int .i64 0, .string ⟨#[]⟩, .int .i64 0] 90 (by kernel_rfl) rfl (by simp [Value.oneCell']) rfl rfl rfl rfl ?_; intro w90 hR hc hsz))
  have P9 := Lib.hid (BldX.Is.wider (BldX.Is.chg P.out hc (fun e => q1 (show s1 = b from e.symm)) (fun k hk e => Hn1.out (.inr ((show k = s1 from e) ▸ hk)))) (fun k hk => hk.1) HB.out)
  have C9 := Lib.hid (C.out.trans (hc.mono (fun k _ e => (.inr ((show k = s1 from e) ▸ Hf1.out) : BldX.Own F b k))))
  have R9 := Lib.hid hR
  clear hR hc hsz
  refine ret_row R9.out Try.results152 Try.underlying90 rfl (by kernel_rfl) rfl rfl ⟨?_, ?_, C9.out⟩
  · rfl
  · have e1 : l ++ [oneB (5)] ++ [oneB (t)] ++ vals [(⟨kk, kn, ks⟩ : V), (⟨hk, hn, hs⟩ : V)] = l ++ Wsh.bytes ⟨5, t, ⟨kk, kn, ks⟩, ⟨hk, hn, hs⟩, ra, rc, row, c, ⟨vk, vn, vs⟩, n⟩ := by simp [Wsh.bytes, List.append_assoc]
    have e2 : (bad || oneBad (5) || oneBad (t) || valsBad [(⟨kk, kn, ks⟩ : V), (⟨hk, hn, hs⟩ : V)]) = (bad || Wsh.bad ⟨5, t, ⟨kk, kn, ks⟩, ⟨hk, hn, hs⟩, ra, rc, row, c, ⟨vk, vn, vs⟩, n⟩) := by simp [Wsh.bad, List.append_assoc, Bool.or_assoc]
    rw [← e1, ← e2]
    exact P9.out
set_option maxHeartbeats 8000000 in
theorem wish_7 (F : Nat → Prop) (b : Nat) (l : List UInt8) (bad : Bool) (t kk kn : Int) (ks : ByteArray) (hk hn : Int) (hs : ByteArray) (ra : Option Addr) (rc : Nat) (row : List V) (c vk vn : Int) (vs : ByteArray) (n : Int) (w : World) (h : Pen w F b l bad) (hV : Vs w ra row) (hN : ∀ ad, ra = some ad → row ≠ [] → ¬ BldX.Own F b ad.block) (hf : Wsh.fits ⟨7, t, ⟨kk, kn, ks⟩, ⟨hk, hn, hs⟩, ra, rc, row, c, ⟨vk, vn, vs⟩, n⟩) (hl : l.length ≤ 80000000) (hr : row.length ≤ 1000) :
    WishPost F b l bad ⟨7, t, ⟨kk, kn, ks⟩, ⟨hk, hn, hs⟩, ra, rc, row, c, ⟨vk, vn, vs⟩, n⟩ w := by
  unfold WishPost
  show Calls Try.prog 152 #[.pointer (some ⟨b, 0, none⟩), .agg #[.int .i64 7, .int .i64 t, .int .i64 kk, .int .i64 kn, .string ks, .int .i64 hk, .int .i64 hn, .string hs, .slice ra row.length rc, .int .i64 c, .int .i64 vk, .int .i64 vn, .string vs, .int .i64 n]] w _
  obtain ⟨p3, n0, n1, n2, hm, f1, f2, ⟨q0, q5⟩, q1, q4, q3, q2, q7, q6⟩ := three h (.cells #[.int .i64 7, .int .i64 t, .int .i64 kk, .int .i64 kn, .string ks, .int .i64 hk, .int .i64 hn, .string hs, .slice ra row.length rc, .int .i64 c, .int .i64 vk, .int .i64 vn, .string vs, .int .i64 n] 90) (.cells #[.int .i64 0, .int .i64 0, .int .i64 0, .int .i64 0, .string ⟨#[]⟩, .int .i64 0, .int .i64 0, .string ⟨#[]⟩, .slice none 0 0, .int .i64 0, .int .i64 0, .int .i64 0, .string ⟨#[]⟩, .int .i64 0] 90) (.cells #[.int .i64 7, .int .i64 t, .int .i64 0, .int .i64 0, .string ⟨#[]⟩, .int .i64 0, .int .i64 0, .string ⟨#[]⟩, .slice none 0 0, .int .i64 0, .int .i64 0, .int .i64 0, .string ⟨#[]⟩, .int .i64 0] 90)
  have P := Lib.hid p3
  have X := Lib.hid (((Row.new w 90 [.int .i64 7, .int .i64 t, .int .i64 kk, .int .i64 kn, .string ks, .int .i64 hk, .int .i64 hn, .string hs, .slice ra row.length rc, .int .i64 c, .int .i64 vk, .int .i64 vn, .string vs, .int .i64 n]).alloc (.cells #[.int .i64 0, .int .i64 0, .int .i64 0, .int .i64 0, .string ⟨#[]⟩, .int .i64 0, .int .i64 0, .string ⟨#[]⟩, .slice none 0 0, .int .i64 0, .int .i64 0, .int .i64 0, .string ⟨#[]⟩, .int .i64 0] 90)).alloc (.cells #[.int .i64 7, .int .i64 t, .int .i64 0, .int .i64 0, .string ⟨#[]⟩, .int .i64 0, .int .i64 0, .string ⟨#[]⟩, .slice none 0 0, .int .i64 0, .int .i64 0, .int .i64 0, .string ⟨#[]⟩, .int .i64 0] 90))
  have Y := Lib.hid ((show Row ((w.alloc (.cells #[.int .i64 7, .int .i64 t, .int .i64 kk, .int .i64 kn, .string ks, .int .i64 hk, .int .i64 hn, .string hs, .slice ra row.length rc, .int .i64 c, .int .i64 vk, .int .i64 vn, .string vs, .int .i64 n] 90)).alloc (.cells #[.int .i64 0, .int .i64 0, .int .i64 0, .int .i64 0, .string ⟨#[]⟩, .int .i64 0, .int .i64 0, .string ⟨#[]⟩, .slice none 0 0, .int .i64 0, .int .i64 0, .int .i64 0, .string ⟨#[]⟩, .int .i64 0] 90)) (w.heap.size + 1) 90 [.int .i64 0, .int .i64 0, .int .i64 0, .int .i64 0, .string ⟨#[]⟩, .int .i64 0, .int .i64 0, .string ⟨#[]⟩, .slice none 0 0, .int .i64 0, .int .i64 0, .int .i64 0, .string ⟨#[]⟩, .int .i64 0] from Wide.new_at (by simp)).alloc (.cells #[.int .i64 7, .int .i64 t, .int .i64 0, .int .i64 0, .string ⟨#[]⟩, .int .i64 0, .int .i64 0, .string ⟨#[]⟩, .slice none 0 0, .int .i64 0, .int .i64 0, .int .i64 0, .string ⟨#[]⟩, .int .i64 0] 90))
  have Z := Lib.hid (show Row (((w.alloc (.cells #[.int .i64 7, .int .i64 t, .int .i64 kk, .int .i64 kn, .string ks, .int .i64 hk, .int .i64 hn, .string hs, .slice ra row.length rc, .int .i64 c, .int .i64 vk, .int .i64 vn, .string vs, .int .i64 n] 90)).alloc (.cells #[.int .i64 0, .int .i64 0, .int .i64 0, .int .i64 0, .string ⟨#[]⟩, .int .i64 0, .int .i64 0, .string ⟨#[]⟩, .slice none 0 0, .int .i64 0, .int .i64 0, .int .i64 0, .string ⟨#[]⟩, .int .i64 0] 90)).alloc (.cells #[.int .i64 7, .int .i64 t, .int .i64 0, .int .i64 0, .string ⟨#[]⟩, .int .i64 0, .int .i64 0, .string ⟨#[]⟩, .slice none 0 0, .int .i64 0, .int .i64 0, .int .i64 0, .string ⟨#[]⟩, .int .i64 0] 90)) (w.heap.size + 1 + 1) 90 [.int .i64 7, .int .i64 t, .int .i64 0, .int .i64 0, .string ⟨#[]⟩, .int .i64 0, .int .i64 0, .string ⟨#[]⟩, .slice none 0 0, .int .i64 0, .int .i64 0, .int .i64 0, .string ⟨#[]⟩, .int .i64 0] from Wide.new_at (by simp))
  have C := Lib.hid ((((Chg.refl (BldX.Own F b) w).alloc (.cells #[.int .i64 7, .int .i64 t, .int .i64 kk, .int .i64 kn, .string ks, .int .i64 hk, .int .i64 hn, .string hs, .slice ra row.length rc, .int .i64 c, .int .i64 vk, .int .i64 vn, .string vs, .int .i64 n] 90)).alloc (.cells #[.int .i64 0, .int .i64 0, .int .i64 0, .int .i64 0, .string ⟨#[]⟩, .int .i64 0, .int .i64 0, .string ⟨#[]⟩, .slice none 0 0, .int .i64 0, .int .i64 0, .int .i64 0, .string ⟨#[]⟩, .int .i64 0] 90)).alloc (.cells #[.int .i64 7, .int .i64 t, .int .i64 0, .int .i64 0, .string ⟨#[]⟩, .int .i64 0, .int .i64 0, .string ⟨#[]⟩, .slice none 0 0, .int .i64 0, .int .i64 0, .int .i64 0, .string ⟨#[]⟩, .int .i64 0] 90))
  have VV := Lib.hid hV
  have VN := Lib.hid hN
  have FF := Lib.hid hf
  have Hn0 := Lib.hid n0
  have Hn1 := Lib.hid n1
  have Hn2 := Lib.hid n2
  have Hhm := Lib.hid hm
  have Hf1 := Lib.hid f1
  have Hf2 := Lib.hid f2
  have hb : ¬ F b := h.1
  have HB := Lib.hid hb
  have x0 := X.out.cell (i := 0) rfl
  have x1 := X.out.cell (i := 1) rfl
  have x2 := X.out.cell (i := 2) rfl
  have x3 := X.out.cell (i := 3) rfl
  have x4 := X.out.cell (i := 4) rfl
  have x5 := X.out.cell (i := 5) rfl
  have x6 := X.out.cell (i := 6) rfl
  have x7 := X.out.cell (i := 7) rfl
  have x8 := X.out.cell (i := 8) rfl
  have x9 := X.out.cell (i := 9) rfl
  have x10 := X.out.cell (i := 10) rfl
  have x11 := X.out.cell (i := 11) rfl
  have x12 := X.out.cell (i := 12) rfl
  have x13 := X.out.cell (i := 13) rfl
  clear p3 n0 n1 n2 hm f1 f2 h hV hN hf hb
  go_enter Try.func152, Try.ntmps152
  go_wp2_with fail
  clear x0 x1 x2 x3 x4 x5 x6 x7 x8 x9 x10 x11 x12 x13
  generalize w.heap.size + 1 + 1 = s2 at *
  generalize w.heap.size + 1 = s1 at *
  generalize w.heap.size = s0 at *
  refine (one_calls _ b (l) (bad) (7) _ P.out (by have := vals_len row; have := vals_len [(⟨kk, kn, ks⟩ : V)]; have := vals_len [(⟨vk, vn, vs⟩ : V)]; have := vals_len [(⟨kk, kn, ks⟩ : V), ⟨hk, hn, hs⟩]; simp only [List.length_append, List.length_cons, List.length_nil] at *; omega)).mono ?_
  rintro e w1 ⟨rfl, hp, kc⟩
  replace X := Lib.hid (X.out.chg kc Hn0.out)
  replace Y := Lib.hid (Y.out.chg kc Hn1.out)
  replace Z := Lib.hid (Z.out.chg kc Hn2.out)
  replace C := Lib.hid (C.out.trans (kc.mono (fun k _ e => Hhm.out k e)))
  replace P := Lib.hid hp
  clear kc hp
  have x1 := X.out.cell (i := 1) rfl
  go_wp2_with fail
  refine (one_calls _ b (l ++ [oneB (7)]) (bad || oneBad (7)) (t) _ P.out (by have := vals_len row; have := vals_len [(⟨kk, kn, ks⟩ : V)]; have := vals_len [(⟨vk, vn, vs⟩ : V)]; have := vals_len [(⟨kk, kn, ks⟩ : V), ⟨hk, hn, hs⟩]; simp only [List.length_append, List.length_cons, List.length_nil] at *; omega)).mono ?_
  rintro e w2 ⟨rfl, hp, kc⟩
  replace X := Lib.hid (X.out.chg kc Hn0.out)
  replace Y := Lib.hid (Y.out.chg kc Hn1.out)
  replace Z := Lib.hid (Z.out.chg kc Hn2.out)
  replace C := Lib.hid (C.out.trans (kc.mono (fun k _ e => Hhm.out k e)))
  replace P := Lib.hid hp
  clear kc hp x1
  have x0 := X.out.cell (i := 0) rfl
  go_wp2_with fail
  clear x0
  replace X := Lib.hid X.out.drew
  replace Y := Lib.hid Y.out.drew
  replace Z := Lib.hid Z.out.drew
  replace P := Lib.hid (BldX.Is.drew P.out)
  replace C := Lib.hid C.out.drew
  have z2 := Z.out.cell (i := 2) rfl
  have g2 := Z.out.frozen 2 (by simp)
  have z3 := Z.out.cell (i := 3) rfl
  have g3 := Z.out.frozen 3 (by simp)
  have z4 := Z.out.cell (i := 4) rfl
  have g4 := Z.out.frozen 4 (by simp)
  have z5 := Z.out.cell (i := 5) rfl
  have g5 := Z.out.frozen 5 (by simp)
  have z6 := Z.out.cell (i := 6) rfl
  have g6 := Z.out.frozen 6 (by simp)
  have z7 := Z.out.cell (i := 7) rfl
  have g7 := Z.out.frozen 7 (by simp)
  refine Reg.start (fun w' => w'.cell? ⟨s0, 2, none⟩ = some (.int .i64 kk) ∧ w'.cell? ⟨s0, 3, none⟩ = some (.int .i64 kn) ∧ w'.cell? ⟨s0, 4, none⟩ = some (.string ks) ∧ w'.cell? ⟨s0, 5, none⟩ = some (.int .i64 hk) ∧ w'.cell? ⟨s0, 6, none⟩ = some (.int .i64 hn) ∧ w'.cell? ⟨s0, 7, none⟩ = some (.string hs)) (fun i => false) (by kernel_rfl) ⟨X.out.cell rfl, X.out.cell rfl, X.out.cell rfl, X.out.cell rfl, X.out.cell rfl, X.out.cell rfl⟩ (fun hHeld => ?_)
  generalize w2.drew = wd at *
  refine Reg.takeI 0 (v := ?_) rfl (by kernel_rfl) (by kernel_rfl) (by kernel_rfl) (by kernel_rfl) (fun _ _ _ h => h) (by rfl) ?_ hHeld ?_
  rotate_left 1
  · (intro w hSw; (try dsimp only at hSw); go_simp; try with_reducible rfl)
  try simp only [Act.put, List.setIfInBounds_toArray, List.set_cons_zero, List.set_cons_succ]
  refine Reg.takeI 1 (v := ?_) rfl (by kernel_rfl) (by kernel_rfl) (by kernel_rfl) (by kernel_rfl) (fun _ _ _ h => h) (by rfl) ?_ hHeld ?_
  rotate_left 1
  · (intro w hSw; (try dsimp only at hSw); go_simp; try with_reducible rfl)
  try simp only [Act.put, List.setIfInBounds_toArray, List.set_cons_zero, List.set_cons_succ]
  refine Reg.takeI 2 (v := ?_) rfl (by kernel_rfl) (by kernel_rfl) (by kernel_rfl) (by kernel_rfl) (fun _ _ _ h => h) (by rfl) ?_ hHeld ?_
  rotate_left 1
  · (intro w hSw; (try dsimp only at hSw); go_simp; try with_reducible rfl)
  try simp only [Act.put, List.setIfInBounds_toArray, List.set_cons_zero, List.set_cons_succ]
  refine Reg.takeI 3 (v := ?_) rfl (by kernel_rfl) (by kernel_rfl) (by kernel_rfl) (by kernel_rfl) (fun _ _ _ h => h) (by rfl) ?_ hHeld ?_
  rotate_left 1
  · (intro w hSw; (try dsimp only at hSw); go_simp; try with_reducible rfl)
  try simp only [Act.put, List.setIfInBounds_toArray, List.set_cons_zero, List.set_cons_succ]
  refine Reg.takeI 4 (v := ?_) rfl (by kernel_rfl) (by kernel_rfl) (by kernel_rfl) (by kernel_rfl) (fun _ _ _ h => h) (by rfl) ?_ hHeld ?_
  rotate_left 1
  · (intro w hSw; (try dsimp only at hSw); go_simp; try with_reducible rfl)
  try simp only [Act.put, List.setIfInBounds_toArray, List.set_cons_zero, List.set_cons_succ]
  refine Reg.oneI 5 rfl (by kernel_rfl) (by rfl) (fun K hK => ?_)
  go_simp
  replace X := Lib.hid (((X.out.set_ne ⟨s2, 2, none⟩ (.int .i64 kk) q2).set_ne ⟨s2, 3, none⟩ (.int .i64 kn) q2).set_ne ⟨s2, 4, none⟩ (.string ks) q2)
  refine hK.out _ _ (fun _ => ⟨X.out.cell rfl, X.out.cell rfl, X.out.cell rfl, X.out.cell rfl, X.out.cell rfl, X.out.cell rfl⟩) (fun hHeld => ?_)
  replace hHeld := hHeld (by first | rfl | trivial)
  clear hK K
  try simp only [Act.put, List.setIfInBounds_toArray, List.set_cons_zero, List.set_cons_succ]
  refine Reg.takeI 6 (v := ?_) rfl (by kernel_rfl) (by kernel_rfl) (by kernel_rfl) (by kernel_rfl) (fun _ _ _ h => h) (by rfl) ?_ hHeld ?_
  rotate_left 1
  · (intro w hSw; (try dsimp only at hSw); go_simp; try with_reducible rfl)
  try simp only [Act.put, List.setIfInBounds_toArray, List.set_cons_zero, List.set_cons_succ]
  refine Reg.oneI 7 rfl (by kernel_rfl) (by rfl) (fun K hK => ?_)
  go_simp
  replace X := Lib.hid (((X.out.set_ne ⟨s2, 5, none⟩ (.int .i64 hk) q2).set_ne ⟨s2, 6, none⟩ (.int .i64 hn) q2).set_ne ⟨s2, 7, none⟩ (.string hs) q2)
  refine hK.out _ _ (fun _ => ⟨X.out.cell rfl, X.out.cell rfl, X.out.cell rfl, X.out.cell rfl, X.out.cell rfl, X.out.cell rfl⟩) (fun hHeld => ?_)
  replace hHeld := hHeld (by first | rfl | trivial)
  clear hK K
  try simp only [Act.put, List.setIfInBounds_toArray, List.set_cons_zero, List.set_cons_succ]
  refine Reg.doneI (by kernel_rfl) ?_
  clear hHeld
  clear z2 g2 z3 g3 z4 g4 z5 g5 z6 g6 z7 g7
  replace Y := Lib.hid ((((((Y.out.set_ne ⟨s2, 2, none⟩ (.int .i64 kk) q7).set_ne ⟨s2, 3, none⟩ (.int .i64 kn) q7).set_ne ⟨s2, 4, none⟩ (.string ks) q7).set_ne ⟨s2, 5, none⟩ (.int .i64 hk) q7).set_ne ⟨s2, 6, none⟩ (.int .i64 hn) q7).set_ne ⟨s2, 7, none⟩ (.string hs) q7)
  replace Z := Lib.hid (((((((Z.out.set 2 (.int .i64 kk)).set 3 (.int .i64 kn)).set 4 (.string ks)).set 5 (.int .i64 hk)).set 6 (.int .i64 hn)).set 7 (.string hs)).cast (cs' := [.int .i64 7, .int .i64 t, .int .i64 kk, .int .i64 kn, .string ks, .int .i64 hk, .int .i64 hn, .string hs, .slice none 0 0, .int .i64 0, .int .i64 0, .int .i64 0, .string ⟨#[]⟩, .int .i64 0]) rfl)
  replace P := Lib.hid (beyond (beyond (beyond (beyond (beyond (beyond P.out q0 Hn2.out 2 (.int .i64 kk)) q0 Hn2.out 3 (.int .i64 kn)) q0 Hn2.out 4 (.string ks)) q0 Hn2.out 5 (.int .i64 hk)) q0 Hn2.out 6 (.int .i64 hn)) q0 Hn2.out 7 (.string hs))
  replace C := Lib.hid (Chg.setCell (Chg.setCell (Chg.setCell (Chg.setCell (Chg.setCell (Chg.setCell C.out (a := ⟨s2, 2, none⟩) (fun _ => (.inr Hf2.out : BldX.Own F b s2)) (.int .i64 kk)) (a := ⟨s2, 3, none⟩) (fun _ => (.inr Hf2.out : BldX.Own F b s2)) (.int .i64 kn)) (a := ⟨s2, 4, none⟩) (fun _ => (.inr Hf2.out : BldX.Own F b s2)) (.string ks)) (a := ⟨s2, 5, none⟩) (fun _ => (.inr Hf2.out : BldX.Own F b s2)) (.int .i64 hk)) (a := ⟨s2, 6, none⟩) (fun _ => (.inr Hf2.out : BldX.Own F b s2)) (.int .i64 hn)) (a := ⟨s2, 7, none⟩) (fun _ => (.inr Hf2.out : BldX.Own F b s2)) (.string hs))
  have x2 := X.out.cell (i := 2) rfl
  have x3 := X.out.cell (i := 3) rfl
  have x4 := X.out.cell (i := 4) rfl
  have x5 := X.out.cell (i := 5) rfl
  have x6 := X.out.cell (i := 6) rfl
  have x7 := X.out.cell (i := 7) rfl
  go_wp2_with fail
  clear x2 x3 x4 x5 x6 x7
  refine (built2_calls _ b (l ++ [oneB (7)] ++ [oneB (t)]) (bad || oneBad (7) || oneBad (t)) kk kn ks hk hn hs _ _ (by simp) P.out FF.out.1 FF.out.2.1 (by have := vals_len row; have := vals_len [(⟨kk, kn, ks⟩ : V)]; have := vals_len [(⟨vk, vn, vs⟩ : V)]; have := vals_len [(⟨kk, kn, ks⟩ : V), ⟨hk, hn, hs⟩]; simp only [List.length_append, List.length_cons, List.length_nil] at *; omega)).mono ?_
  rintro e w3 ⟨rfl, hp, kc⟩
  replace X := Lib.hid (X.out.chg kc Hn0.out)
  replace Y := Lib.hid (Y.out.chg kc Hn1.out)
  replace Z := Lib.hid (Z.out.chg kc Hn2.out)
  replace C := Lib.hid (C.out.trans (kc.mono (fun k _ e => Hhm.out k e)))
  replace P := Lib.hid hp
  clear kc hp
  go_wp2_with (first | (refine load_row Z.out 90 Try.underlying90 rfl (by kernel_rfl) rfl rfl rfl ?_) | (refine store_row Y.out [.int .i64 7, .int .i64 t, .int .i64 kk, .int .i64 kn, .string ks, .int .i64 hk, .int .i64 hn, .string hs, .slice none 0 0, .int .i64 0, .int .i64 0, .int .i64 0, .string ⟨#[]⟩, .int .i64 0] 90 (by kernel_rfl) rfl (by simp [Value.oneCell']) rfl rfl rfl rfl ?_; intro w90 hR hc hsz))
  have P9 := Lib.hid (BldX.Is.wider (BldX.Is.chg P.out hc (fun e => q1 (show s1 = b from e.symm)) (fun k hk e => Hn1.out (.inr ((show k = s1 from e) ▸ hk)))) (fun k hk => hk.1) HB.out)
  have C9 := Lib.hid (C.out.trans (hc.mono (fun k _ e => (.inr ((show k = s1 from e) ▸ Hf1.out) : BldX.Own F b k))))
  have R9 := Lib.hid hR
  clear hR hc hsz
  refine ret_row R9.out Try.results152 Try.underlying90 rfl (by kernel_rfl) rfl rfl ⟨?_, ?_, C9.out⟩
  · rfl
  · have e1 : l ++ [oneB (7)] ++ [oneB (t)] ++ vals [(⟨kk, kn, ks⟩ : V), (⟨hk, hn, hs⟩ : V)] = l ++ Wsh.bytes ⟨7, t, ⟨kk, kn, ks⟩, ⟨hk, hn, hs⟩, ra, rc, row, c, ⟨vk, vn, vs⟩, n⟩ := by simp [Wsh.bytes, List.append_assoc]
    have e2 : (bad || oneBad (7) || oneBad (t) || valsBad [(⟨kk, kn, ks⟩ : V), (⟨hk, hn, hs⟩ : V)]) = (bad || Wsh.bad ⟨7, t, ⟨kk, kn, ks⟩, ⟨hk, hn, hs⟩, ra, rc, row, c, ⟨vk, vn, vs⟩, n⟩) := by simp [Wsh.bad, List.append_assoc, Bool.or_assoc]
    rw [← e1, ← e2]
    exact P9.out
set_option maxHeartbeats 8000000 in
theorem wish_9 (F : Nat → Prop) (b : Nat) (l : List UInt8) (bad : Bool) (t kk kn : Int) (ks : ByteArray) (hk hn : Int) (hs : ByteArray) (ra : Option Addr) (rc : Nat) (row : List V) (c vk vn : Int) (vs : ByteArray) (n : Int) (w : World) (h : Pen w F b l bad) (hV : Vs w ra row) (hN : ∀ ad, ra = some ad → row ≠ [] → ¬ BldX.Own F b ad.block) (hf : Wsh.fits ⟨9, t, ⟨kk, kn, ks⟩, ⟨hk, hn, hs⟩, ra, rc, row, c, ⟨vk, vn, vs⟩, n⟩) (hl : l.length ≤ 80000000) (hr : row.length ≤ 1000) :
    WishPost F b l bad ⟨9, t, ⟨kk, kn, ks⟩, ⟨hk, hn, hs⟩, ra, rc, row, c, ⟨vk, vn, vs⟩, n⟩ w := by
  unfold WishPost
  show Calls Try.prog 152 #[.pointer (some ⟨b, 0, none⟩), .agg #[.int .i64 9, .int .i64 t, .int .i64 kk, .int .i64 kn, .string ks, .int .i64 hk, .int .i64 hn, .string hs, .slice ra row.length rc, .int .i64 c, .int .i64 vk, .int .i64 vn, .string vs, .int .i64 n]] w _
  obtain ⟨p3, n0, n1, n2, hm, f1, f2, ⟨q0, q5⟩, q1, q4, q3, q2, q7, q6⟩ := three h (.cells #[.int .i64 9, .int .i64 t, .int .i64 kk, .int .i64 kn, .string ks, .int .i64 hk, .int .i64 hn, .string hs, .slice ra row.length rc, .int .i64 c, .int .i64 vk, .int .i64 vn, .string vs, .int .i64 n] 90) (.cells #[.int .i64 0, .int .i64 0, .int .i64 0, .int .i64 0, .string ⟨#[]⟩, .int .i64 0, .int .i64 0, .string ⟨#[]⟩, .slice none 0 0, .int .i64 0, .int .i64 0, .int .i64 0, .string ⟨#[]⟩, .int .i64 0] 90) (.cells #[.int .i64 9, .int .i64 t, .int .i64 0, .int .i64 0, .string ⟨#[]⟩, .int .i64 0, .int .i64 0, .string ⟨#[]⟩, .slice none 0 0, .int .i64 0, .int .i64 0, .int .i64 0, .string ⟨#[]⟩, .int .i64 0] 90)
  have P := Lib.hid p3
  have X := Lib.hid (((Row.new w 90 [.int .i64 9, .int .i64 t, .int .i64 kk, .int .i64 kn, .string ks, .int .i64 hk, .int .i64 hn, .string hs, .slice ra row.length rc, .int .i64 c, .int .i64 vk, .int .i64 vn, .string vs, .int .i64 n]).alloc (.cells #[.int .i64 0, .int .i64 0, .int .i64 0, .int .i64 0, .string ⟨#[]⟩, .int .i64 0, .int .i64 0, .string ⟨#[]⟩, .slice none 0 0, .int .i64 0, .int .i64 0, .int .i64 0, .string ⟨#[]⟩, .int .i64 0] 90)).alloc (.cells #[.int .i64 9, .int .i64 t, .int .i64 0, .int .i64 0, .string ⟨#[]⟩, .int .i64 0, .int .i64 0, .string ⟨#[]⟩, .slice none 0 0, .int .i64 0, .int .i64 0, .int .i64 0, .string ⟨#[]⟩, .int .i64 0] 90))
  have Y := Lib.hid ((show Row ((w.alloc (.cells #[.int .i64 9, .int .i64 t, .int .i64 kk, .int .i64 kn, .string ks, .int .i64 hk, .int .i64 hn, .string hs, .slice ra row.length rc, .int .i64 c, .int .i64 vk, .int .i64 vn, .string vs, .int .i64 n] 90)).alloc (.cells #[.int .i64 0, .int .i64 0, .int .i64 0, .int .i64 0, .string ⟨#[]⟩, .int .i64 0, .int .i64 0, .string ⟨#[]⟩, .slice none 0 0, .int .i64 0, .int .i64 0, .int .i64 0, .string ⟨#[]⟩, .int .i64 0] 90)) (w.heap.size + 1) 90 [.int .i64 0, .int .i64 0, .int .i64 0, .int .i64 0, .string ⟨#[]⟩, .int .i64 0, .int .i64 0, .string ⟨#[]⟩, .slice none 0 0, .int .i64 0, .int .i64 0, .int .i64 0, .string ⟨#[]⟩, .int .i64 0] from Wide.new_at (by simp)).alloc (.cells #[.int .i64 9, .int .i64 t, .int .i64 0, .int .i64 0, .string ⟨#[]⟩, .int .i64 0, .int .i64 0, .string ⟨#[]⟩, .slice none 0 0, .int .i64 0, .int .i64 0, .int .i64 0, .string ⟨#[]⟩, .int .i64 0] 90))
  have Z := Lib.hid (show Row (((w.alloc (.cells #[.int .i64 9, .int .i64 t, .int .i64 kk, .int .i64 kn, .string ks, .int .i64 hk, .int .i64 hn, .string hs, .slice ra row.length rc, .int .i64 c, .int .i64 vk, .int .i64 vn, .string vs, .int .i64 n] 90)).alloc (.cells #[.int .i64 0, .int .i64 0, .int .i64 0, .int .i64 0, .string ⟨#[]⟩, .int .i64 0, .int .i64 0, .string ⟨#[]⟩, .slice none 0 0, .int .i64 0, .int .i64 0, .int .i64 0, .string ⟨#[]⟩, .int .i64 0] 90)).alloc (.cells #[.int .i64 9, .int .i64 t, .int .i64 0, .int .i64 0, .string ⟨#[]⟩, .int .i64 0, .int .i64 0, .string ⟨#[]⟩, .slice none 0 0, .int .i64 0, .int .i64 0, .int .i64 0, .string ⟨#[]⟩, .int .i64 0] 90)) (w.heap.size + 1 + 1) 90 [.int .i64 9, .int .i64 t, .int .i64 0, .int .i64 0, .string ⟨#[]⟩, .int .i64 0, .int .i64 0, .string ⟨#[]⟩, .slice none 0 0, .int .i64 0, .int .i64 0, .int .i64 0, .string ⟨#[]⟩, .int .i64 0] from Wide.new_at (by simp))
  have C := Lib.hid ((((Chg.refl (BldX.Own F b) w).alloc (.cells #[.int .i64 9, .int .i64 t, .int .i64 kk, .int .i64 kn, .string ks, .int .i64 hk, .int .i64 hn, .string hs, .slice ra row.length rc, .int .i64 c, .int .i64 vk, .int .i64 vn, .string vs, .int .i64 n] 90)).alloc (.cells #[.int .i64 0, .int .i64 0, .int .i64 0, .int .i64 0, .string ⟨#[]⟩, .int .i64 0, .int .i64 0, .string ⟨#[]⟩, .slice none 0 0, .int .i64 0, .int .i64 0, .int .i64 0, .string ⟨#[]⟩, .int .i64 0] 90)).alloc (.cells #[.int .i64 9, .int .i64 t, .int .i64 0, .int .i64 0, .string ⟨#[]⟩, .int .i64 0, .int .i64 0, .string ⟨#[]⟩, .slice none 0 0, .int .i64 0, .int .i64 0, .int .i64 0, .string ⟨#[]⟩, .int .i64 0] 90))
  have VV := Lib.hid hV
  have VN := Lib.hid hN
  have FF := Lib.hid hf
  have Hn0 := Lib.hid n0
  have Hn1 := Lib.hid n1
  have Hn2 := Lib.hid n2
  have Hhm := Lib.hid hm
  have Hf1 := Lib.hid f1
  have Hf2 := Lib.hid f2
  have hb : ¬ F b := h.1
  have HB := Lib.hid hb
  have x0 := X.out.cell (i := 0) rfl
  have x1 := X.out.cell (i := 1) rfl
  have x2 := X.out.cell (i := 2) rfl
  have x3 := X.out.cell (i := 3) rfl
  have x4 := X.out.cell (i := 4) rfl
  have x5 := X.out.cell (i := 5) rfl
  have x6 := X.out.cell (i := 6) rfl
  have x7 := X.out.cell (i := 7) rfl
  have x8 := X.out.cell (i := 8) rfl
  have x9 := X.out.cell (i := 9) rfl
  have x10 := X.out.cell (i := 10) rfl
  have x11 := X.out.cell (i := 11) rfl
  have x12 := X.out.cell (i := 12) rfl
  have x13 := X.out.cell (i := 13) rfl
  clear p3 n0 n1 n2 hm f1 f2 h hV hN hf hb
  go_enter Try.func152, Try.ntmps152
  go_wp2_with fail
  clear x0 x1 x2 x3 x4 x5 x6 x7 x8 x9 x10 x11 x12 x13
  generalize w.heap.size + 1 + 1 = s2 at *
  generalize w.heap.size + 1 = s1 at *
  generalize w.heap.size = s0 at *
  refine (one_calls _ b (l) (bad) (9) _ P.out (by have := vals_len row; have := vals_len [(⟨kk, kn, ks⟩ : V)]; have := vals_len [(⟨vk, vn, vs⟩ : V)]; have := vals_len [(⟨kk, kn, ks⟩ : V), ⟨hk, hn, hs⟩]; simp only [List.length_append, List.length_cons, List.length_nil] at *; omega)).mono ?_
  rintro e w1 ⟨rfl, hp, kc⟩
  replace X := Lib.hid (X.out.chg kc Hn0.out)
  replace Y := Lib.hid (Y.out.chg kc Hn1.out)
  replace Z := Lib.hid (Z.out.chg kc Hn2.out)
  replace C := Lib.hid (C.out.trans (kc.mono (fun k _ e => Hhm.out k e)))
  replace P := Lib.hid hp
  clear kc hp
  have x1 := X.out.cell (i := 1) rfl
  go_wp2_with fail
  refine (one_calls _ b (l ++ [oneB (9)]) (bad || oneBad (9)) (t) _ P.out (by have := vals_len row; have := vals_len [(⟨kk, kn, ks⟩ : V)]; have := vals_len [(⟨vk, vn, vs⟩ : V)]; have := vals_len [(⟨kk, kn, ks⟩ : V), ⟨hk, hn, hs⟩]; simp only [List.length_append, List.length_cons, List.length_nil] at *; omega)).mono ?_
  rintro e w2 ⟨rfl, hp, kc⟩
  replace X := Lib.hid (X.out.chg kc Hn0.out)
  replace Y := Lib.hid (Y.out.chg kc Hn1.out)
  replace Z := Lib.hid (Z.out.chg kc Hn2.out)
  replace C := Lib.hid (C.out.trans (kc.mono (fun k _ e => Hhm.out k e)))
  replace P := Lib.hid hp
  clear kc hp x1
  have z13 := Z.out.cell (i := 13) rfl
  have g13 := Z.out.frozen 13 (by simp)
  have x0 := X.out.cell (i := 0) rfl
  have x13 := X.out.cell (i := 13) rfl
  go_wp2_with fail
  replace X := Lib.hid (X.out.set_ne ⟨s2, 13, none⟩ (.int .i64 n) q2)
  replace Y := Lib.hid (Y.out.set_ne ⟨s2, 13, none⟩ (.int .i64 n) q7)
  replace Z := Lib.hid ((Z.out.set 13 (.int .i64 n)).cast (cs' := [.int .i64 9, .int .i64 t, .int .i64 0, .int .i64 0, .string ⟨#[]⟩, .int .i64 0, .int .i64 0, .string ⟨#[]⟩, .slice none 0 0, .int .i64 0, .int .i64 0, .int .i64 0, .string ⟨#[]⟩, .int .i64 n]) rfl)
  replace P := Lib.hid (beyond P.out q0 Hn2.out 13 (.int .i64 n))
  replace C := Lib.hid (Chg.setCell C.out (a := ⟨s2, 13, none⟩) (fun _ => (.inr Hf2.out : BldX.Own F b s2)) (.int .i64 n))
  clear x0 x13 z13 g13
  refine (one_calls _ b (l ++ [oneB (9)] ++ [oneB (t)]) (bad || oneBad (9) || oneBad (t)) (n) _ P.out (by have := vals_len row; have := vals_len [(⟨kk, kn, ks⟩ : V)]; have := vals_len [(⟨vk, vn, vs⟩ : V)]; have := vals_len [(⟨kk, kn, ks⟩ : V), ⟨hk, hn, hs⟩]; simp only [List.length_append, List.length_cons, List.length_nil] at *; omega)).mono ?_
  rintro e w3 ⟨rfl, hp, kc⟩
  replace X := Lib.hid (X.out.chg kc Hn0.out)
  replace Y := Lib.hid (Y.out.chg kc Hn1.out)
  replace Z := Lib.hid (Z.out.chg kc Hn2.out)
  replace C := Lib.hid (C.out.trans (kc.mono (fun k _ e => Hhm.out k e)))
  replace P := Lib.hid hp
  clear kc hp
  go_wp2_with (first | (refine load_row Z.out 90 Try.underlying90 rfl (by kernel_rfl) rfl rfl rfl ?_) | (refine store_row Y.out [.int .i64 9, .int .i64 t, .int .i64 0, .int .i64 0, .string ⟨#[]⟩, .int .i64 0, .int .i64 0, .string ⟨#[]⟩, .slice none 0 0, .int .i64 0, .int .i64 0, .int .i64 0, .string ⟨#[]⟩, .int .i64 n] 90 (by kernel_rfl) rfl (by simp [Value.oneCell']) rfl rfl rfl rfl ?_; intro w90 hR hc hsz))
  have P9 := Lib.hid (BldX.Is.wider (BldX.Is.chg P.out hc (fun e => q1 (show s1 = b from e.symm)) (fun k hk e => Hn1.out (.inr ((show k = s1 from e) ▸ hk)))) (fun k hk => hk.1) HB.out)
  have C9 := Lib.hid (C.out.trans (hc.mono (fun k _ e => (.inr ((show k = s1 from e) ▸ Hf1.out) : BldX.Own F b k))))
  have R9 := Lib.hid hR
  clear hR hc hsz
  refine ret_row R9.out Try.results152 Try.underlying90 rfl (by kernel_rfl) rfl rfl ⟨?_, ?_, C9.out⟩
  · rfl
  · have e1 : l ++ [oneB (9)] ++ [oneB (t)] ++ [oneB (n)] = l ++ Wsh.bytes ⟨9, t, ⟨kk, kn, ks⟩, ⟨hk, hn, hs⟩, ra, rc, row, c, ⟨vk, vn, vs⟩, n⟩ := by simp [Wsh.bytes, List.append_assoc]
    have e2 : (bad || oneBad (9) || oneBad (t) || oneBad (n)) = (bad || Wsh.bad ⟨9, t, ⟨kk, kn, ks⟩, ⟨hk, hn, hs⟩, ra, rc, row, c, ⟨vk, vn, vs⟩, n⟩) := by simp [Wsh.bad, List.append_assoc, Bool.or_assoc]
    rw [← e1, ← e2]
    exact P9.out
set_option maxHeartbeats 8000000 in
theorem wish_10 (F : Nat → Prop) (b : Nat) (l : List UInt8) (bad : Bool) (t kk kn : Int) (ks : ByteArray) (hk hn : Int) (hs : ByteArray) (ra : Option Addr) (rc : Nat) (row : List V) (c vk vn : Int) (vs : ByteArray) (n : Int) (w : World) (h : Pen w F b l bad) (hV : Vs w ra row) (hN : ∀ ad, ra = some ad → row ≠ [] → ¬ BldX.Own F b ad.block) (hf : Wsh.fits ⟨10, t, ⟨kk, kn, ks⟩, ⟨hk, hn, hs⟩, ra, rc, row, c, ⟨vk, vn, vs⟩, n⟩) (hl : l.length ≤ 80000000) (hr : row.length ≤ 1000) :
    WishPost F b l bad ⟨10, t, ⟨kk, kn, ks⟩, ⟨hk, hn, hs⟩, ra, rc, row, c, ⟨vk, vn, vs⟩, n⟩ w := by
  unfold WishPost
  show Calls Try.prog 152 #[.pointer (some ⟨b, 0, none⟩), .agg #[.int .i64 10, .int .i64 t, .int .i64 kk, .int .i64 kn, .string ks, .int .i64 hk, .int .i64 hn, .string hs, .slice ra row.length rc, .int .i64 c, .int .i64 vk, .int .i64 vn, .string vs, .int .i64 n]] w _
  obtain ⟨p3, n0, n1, n2, hm, f1, f2, ⟨q0, q5⟩, q1, q4, q3, q2, q7, q6⟩ := three h (.cells #[.int .i64 10, .int .i64 t, .int .i64 kk, .int .i64 kn, .string ks, .int .i64 hk, .int .i64 hn, .string hs, .slice ra row.length rc, .int .i64 c, .int .i64 vk, .int .i64 vn, .string vs, .int .i64 n] 90) (.cells #[.int .i64 0, .int .i64 0, .int .i64 0, .int .i64 0, .string ⟨#[]⟩, .int .i64 0, .int .i64 0, .string ⟨#[]⟩, .slice none 0 0, .int .i64 0, .int .i64 0, .int .i64 0, .string ⟨#[]⟩, .int .i64 0] 90) (.cells #[.int .i64 10, .int .i64 t, .int .i64 0, .int .i64 0, .string ⟨#[]⟩, .int .i64 0, .int .i64 0, .string ⟨#[]⟩, .slice none 0 0, .int .i64 0, .int .i64 0, .int .i64 0, .string ⟨#[]⟩, .int .i64 0] 90)
  have P := Lib.hid p3
  have X := Lib.hid (((Row.new w 90 [.int .i64 10, .int .i64 t, .int .i64 kk, .int .i64 kn, .string ks, .int .i64 hk, .int .i64 hn, .string hs, .slice ra row.length rc, .int .i64 c, .int .i64 vk, .int .i64 vn, .string vs, .int .i64 n]).alloc (.cells #[.int .i64 0, .int .i64 0, .int .i64 0, .int .i64 0, .string ⟨#[]⟩, .int .i64 0, .int .i64 0, .string ⟨#[]⟩, .slice none 0 0, .int .i64 0, .int .i64 0, .int .i64 0, .string ⟨#[]⟩, .int .i64 0] 90)).alloc (.cells #[.int .i64 10, .int .i64 t, .int .i64 0, .int .i64 0, .string ⟨#[]⟩, .int .i64 0, .int .i64 0, .string ⟨#[]⟩, .slice none 0 0, .int .i64 0, .int .i64 0, .int .i64 0, .string ⟨#[]⟩, .int .i64 0] 90))
  have Y := Lib.hid ((show Row ((w.alloc (.cells #[.int .i64 10, .int .i64 t, .int .i64 kk, .int .i64 kn, .string ks, .int .i64 hk, .int .i64 hn, .string hs, .slice ra row.length rc, .int .i64 c, .int .i64 vk, .int .i64 vn, .string vs, .int .i64 n] 90)).alloc (.cells #[.int .i64 0, .int .i64 0, .int .i64 0, .int .i64 0, .string ⟨#[]⟩, .int .i64 0, .int .i64 0, .string ⟨#[]⟩, .slice none 0 0, .int .i64 0, .int .i64 0, .int .i64 0, .string ⟨#[]⟩, .int .i64 0] 90)) (w.heap.size + 1) 90 [.int .i64 0, .int .i64 0, .int .i64 0, .int .i64 0, .string ⟨#[]⟩, .int .i64 0, .int .i64 0, .string ⟨#[]⟩, .slice none 0 0, .int .i64 0, .int .i64 0, .int .i64 0, .string ⟨#[]⟩, .int .i64 0] from Wide.new_at (by simp)).alloc (.cells #[.int .i64 10, .int .i64 t, .int .i64 0, .int .i64 0, .string ⟨#[]⟩, .int .i64 0, .int .i64 0, .string ⟨#[]⟩, .slice none 0 0, .int .i64 0, .int .i64 0, .int .i64 0, .string ⟨#[]⟩, .int .i64 0] 90))
  have Z := Lib.hid (show Row (((w.alloc (.cells #[.int .i64 10, .int .i64 t, .int .i64 kk, .int .i64 kn, .string ks, .int .i64 hk, .int .i64 hn, .string hs, .slice ra row.length rc, .int .i64 c, .int .i64 vk, .int .i64 vn, .string vs, .int .i64 n] 90)).alloc (.cells #[.int .i64 0, .int .i64 0, .int .i64 0, .int .i64 0, .string ⟨#[]⟩, .int .i64 0, .int .i64 0, .string ⟨#[]⟩, .slice none 0 0, .int .i64 0, .int .i64 0, .int .i64 0, .string ⟨#[]⟩, .int .i64 0] 90)).alloc (.cells #[.int .i64 10, .int .i64 t, .int .i64 0, .int .i64 0, .string ⟨#[]⟩, .int .i64 0, .int .i64 0, .string ⟨#[]⟩, .slice none 0 0, .int .i64 0, .int .i64 0, .int .i64 0, .string ⟨#[]⟩, .int .i64 0] 90)) (w.heap.size + 1 + 1) 90 [.int .i64 10, .int .i64 t, .int .i64 0, .int .i64 0, .string ⟨#[]⟩, .int .i64 0, .int .i64 0, .string ⟨#[]⟩, .slice none 0 0, .int .i64 0, .int .i64 0, .int .i64 0, .string ⟨#[]⟩, .int .i64 0] from Wide.new_at (by simp))
  have C := Lib.hid ((((Chg.refl (BldX.Own F b) w).alloc (.cells #[.int .i64 10, .int .i64 t, .int .i64 kk, .int .i64 kn, .string ks, .int .i64 hk, .int .i64 hn, .string hs, .slice ra row.length rc, .int .i64 c, .int .i64 vk, .int .i64 vn, .string vs, .int .i64 n] 90)).alloc (.cells #[.int .i64 0, .int .i64 0, .int .i64 0, .int .i64 0, .string ⟨#[]⟩, .int .i64 0, .int .i64 0, .string ⟨#[]⟩, .slice none 0 0, .int .i64 0, .int .i64 0, .int .i64 0, .string ⟨#[]⟩, .int .i64 0] 90)).alloc (.cells #[.int .i64 10, .int .i64 t, .int .i64 0, .int .i64 0, .string ⟨#[]⟩, .int .i64 0, .int .i64 0, .string ⟨#[]⟩, .slice none 0 0, .int .i64 0, .int .i64 0, .int .i64 0, .string ⟨#[]⟩, .int .i64 0] 90))
  have VV := Lib.hid hV
  have VN := Lib.hid hN
  have FF := Lib.hid hf
  have Hn0 := Lib.hid n0
  have Hn1 := Lib.hid n1
  have Hn2 := Lib.hid n2
  have Hhm := Lib.hid hm
  have Hf1 := Lib.hid f1
  have Hf2 := Lib.hid f2
  have hb : ¬ F b := h.1
  have HB := Lib.hid hb
  have x0 := X.out.cell (i := 0) rfl
  have x1 := X.out.cell (i := 1) rfl
  have x2 := X.out.cell (i := 2) rfl
  have x3 := X.out.cell (i := 3) rfl
  have x4 := X.out.cell (i := 4) rfl
  have x5 := X.out.cell (i := 5) rfl
  have x6 := X.out.cell (i := 6) rfl
  have x7 := X.out.cell (i := 7) rfl
  have x8 := X.out.cell (i := 8) rfl
  have x9 := X.out.cell (i := 9) rfl
  have x10 := X.out.cell (i := 10) rfl
  have x11 := X.out.cell (i := 11) rfl
  have x12 := X.out.cell (i := 12) rfl
  have x13 := X.out.cell (i := 13) rfl
  clear p3 n0 n1 n2 hm f1 f2 h hV hN hf hb
  go_enter Try.func152, Try.ntmps152
  go_wp2_with fail
  clear x0 x1 x2 x3 x4 x5 x6 x7 x8 x9 x10 x11 x12 x13
  generalize w.heap.size + 1 + 1 = s2 at *
  generalize w.heap.size + 1 = s1 at *
  generalize w.heap.size = s0 at *
  refine (one_calls _ b (l) (bad) (10) _ P.out (by have := vals_len row; have := vals_len [(⟨kk, kn, ks⟩ : V)]; have := vals_len [(⟨vk, vn, vs⟩ : V)]; have := vals_len [(⟨kk, kn, ks⟩ : V), ⟨hk, hn, hs⟩]; simp only [List.length_append, List.length_cons, List.length_nil] at *; omega)).mono ?_
  rintro e w1 ⟨rfl, hp, kc⟩
  replace X := Lib.hid (X.out.chg kc Hn0.out)
  replace Y := Lib.hid (Y.out.chg kc Hn1.out)
  replace Z := Lib.hid (Z.out.chg kc Hn2.out)
  replace C := Lib.hid (C.out.trans (kc.mono (fun k _ e => Hhm.out k e)))
  replace P := Lib.hid hp
  clear kc hp
  have x1 := X.out.cell (i := 1) rfl
  go_wp2_with fail
  refine (one_calls _ b (l ++ [oneB (10)]) (bad || oneBad (10)) (t) _ P.out (by have := vals_len row; have := vals_len [(⟨kk, kn, ks⟩ : V)]; have := vals_len [(⟨vk, vn, vs⟩ : V)]; have := vals_len [(⟨kk, kn, ks⟩ : V), ⟨hk, hn, hs⟩]; simp only [List.length_append, List.length_cons, List.length_nil] at *; omega)).mono ?_
  rintro e w2 ⟨rfl, hp, kc⟩
  replace X := Lib.hid (X.out.chg kc Hn0.out)
  replace Y := Lib.hid (Y.out.chg kc Hn1.out)
  replace Z := Lib.hid (Z.out.chg kc Hn2.out)
  replace C := Lib.hid (C.out.trans (kc.mono (fun k _ e => Hhm.out k e)))
  replace P := Lib.hid hp
  clear kc hp x1
  have z13 := Z.out.cell (i := 13) rfl
  have g13 := Z.out.frozen 13 (by simp)
  have x0 := X.out.cell (i := 0) rfl
  have x13 := X.out.cell (i := 13) rfl
  go_wp2_with fail
  replace X := Lib.hid (X.out.set_ne ⟨s2, 13, none⟩ (.int .i64 n) q2)
  replace Y := Lib.hid (Y.out.set_ne ⟨s2, 13, none⟩ (.int .i64 n) q7)
  replace Z := Lib.hid ((Z.out.set 13 (.int .i64 n)).cast (cs' := [.int .i64 10, .int .i64 t, .int .i64 0, .int .i64 0, .string ⟨#[]⟩, .int .i64 0, .int .i64 0, .string ⟨#[]⟩, .slice none 0 0, .int .i64 0, .int .i64 0, .int .i64 0, .string ⟨#[]⟩, .int .i64 n]) rfl)
  replace P := Lib.hid (beyond P.out q0 Hn2.out 13 (.int .i64 n))
  replace C := Lib.hid (Chg.setCell C.out (a := ⟨s2, 13, none⟩) (fun _ => (.inr Hf2.out : BldX.Own F b s2)) (.int .i64 n))
  clear x0 x13 z13 g13
  refine (one_calls _ b (l ++ [oneB (10)] ++ [oneB (t)]) (bad || oneBad (10) || oneBad (t)) (n) _ P.out (by have := vals_len row; have := vals_len [(⟨kk, kn, ks⟩ : V)]; have := vals_len [(⟨vk, vn, vs⟩ : V)]; have := vals_len [(⟨kk, kn, ks⟩ : V), ⟨hk, hn, hs⟩]; simp only [List.length_append, List.length_cons, List.length_nil] at *; omega)).mono ?_
  rintro e w3 ⟨rfl, hp, kc⟩
  replace X := Lib.hid (X.out.chg kc Hn0.out)
  replace Y := Lib.hid (Y.out.chg kc Hn1.out)
  replace Z := Lib.hid (Z.out.chg kc Hn2.out)
  replace C := Lib.hid (C.out.trans (kc.mono (fun k _ e => Hhm.out k e)))
  replace P := Lib.hid hp
  clear kc hp
  go_wp2_with (first | (refine load_row Z.out 90 Try.underlying90 rfl (by kernel_rfl) rfl rfl rfl ?_) | (refine store_row Y.out [.int .i64 10, .int .i64 t, .int .i64 0, .int .i64 0, .string ⟨#[]⟩, .int .i64 0, .int .i64 0, .string ⟨#[]⟩, .slice none 0 0, .int .i64 0, .int .i64 0, .int .i64 0, .string ⟨#[]⟩, .int .i64 n] 90 (by kernel_rfl) rfl (by simp [Value.oneCell']) rfl rfl rfl rfl ?_; intro w90 hR hc hsz))
  have P9 := Lib.hid (BldX.Is.wider (BldX.Is.chg P.out hc (fun e => q1 (show s1 = b from e.symm)) (fun k hk e => Hn1.out (.inr ((show k = s1 from e) ▸ hk)))) (fun k hk => hk.1) HB.out)
  have C9 := Lib.hid (C.out.trans (hc.mono (fun k _ e => (.inr ((show k = s1 from e) ▸ Hf1.out) : BldX.Own F b k))))
  have R9 := Lib.hid hR
  clear hR hc hsz
  refine ret_row R9.out Try.results152 Try.underlying90 rfl (by kernel_rfl) rfl rfl ⟨?_, ?_, C9.out⟩
  · rfl
  · have e1 : l ++ [oneB (10)] ++ [oneB (t)] ++ [oneB (n)] = l ++ Wsh.bytes ⟨10, t, ⟨kk, kn, ks⟩, ⟨hk, hn, hs⟩, ra, rc, row, c, ⟨vk, vn, vs⟩, n⟩ := by simp [Wsh.bytes, List.append_assoc]
    have e2 : (bad || oneBad (10) || oneBad (t) || oneBad (n)) = (bad || Wsh.bad ⟨10, t, ⟨kk, kn, ks⟩, ⟨hk, hn, hs⟩, ra, rc, row, c, ⟨vk, vn, vs⟩, n⟩) := by simp [Wsh.bad, List.append_assoc, Bool.or_assoc]
    rw [← e1, ← e2]
    exact P9.out
set_option maxHeartbeats 8000000 in
theorem wish_8 (F : Nat → Prop) (b : Nat) (l : List UInt8) (bad : Bool) (t kk kn : Int) (ks : ByteArray) (hk hn : Int) (hs : ByteArray) (ra : Option Addr) (rc : Nat) (row : List V) (c vk vn : Int) (vs : ByteArray) (n : Int) (w : World) (h : Pen w F b l bad) (hV : Vs w ra row) (hN : ∀ ad, ra = some ad → row ≠ [] → ¬ BldX.Own F b ad.block) (hf : Wsh.fits ⟨8, t, ⟨kk, kn, ks⟩, ⟨hk, hn, hs⟩, ra, rc, row, c, ⟨vk, vn, vs⟩, n⟩) (hl : l.length ≤ 80000000) (hr : row.length ≤ 1000) :
    WishPost F b l bad ⟨8, t, ⟨kk, kn, ks⟩, ⟨hk, hn, hs⟩, ra, rc, row, c, ⟨vk, vn, vs⟩, n⟩ w := by
  unfold WishPost
  show Calls Try.prog 152 #[.pointer (some ⟨b, 0, none⟩), .agg #[.int .i64 8, .int .i64 t, .int .i64 kk, .int .i64 kn, .string ks, .int .i64 hk, .int .i64 hn, .string hs, .slice ra row.length rc, .int .i64 c, .int .i64 vk, .int .i64 vn, .string vs, .int .i64 n]] w _
  obtain ⟨p3, n0, n1, n2, hm, f1, f2, ⟨q0, q5⟩, q1, q4, q3, q2, q7, q6⟩ := three h (.cells #[.int .i64 8, .int .i64 t, .int .i64 kk, .int .i64 kn, .string ks, .int .i64 hk, .int .i64 hn, .string hs, .slice ra row.length rc, .int .i64 c, .int .i64 vk, .int .i64 vn, .string vs, .int .i64 n] 90) (.cells #[.int .i64 0, .int .i64 0, .int .i64 0, .int .i64 0, .string ⟨#[]⟩, .int .i64 0, .int .i64 0, .string ⟨#[]⟩, .slice none 0 0, .int .i64 0, .int .i64 0, .int .i64 0, .string ⟨#[]⟩, .int .i64 0] 90) (.cells #[.int .i64 8, .int .i64 t, .int .i64 0, .int .i64 0, .string ⟨#[]⟩, .int .i64 0, .int .i64 0, .string ⟨#[]⟩, .slice none 0 0, .int .i64 0, .int .i64 0, .int .i64 0, .string ⟨#[]⟩, .int .i64 0] 90)
  have P := Lib.hid p3
  have X := Lib.hid (((Row.new w 90 [.int .i64 8, .int .i64 t, .int .i64 kk, .int .i64 kn, .string ks, .int .i64 hk, .int .i64 hn, .string hs, .slice ra row.length rc, .int .i64 c, .int .i64 vk, .int .i64 vn, .string vs, .int .i64 n]).alloc (.cells #[.int .i64 0, .int .i64 0, .int .i64 0, .int .i64 0, .string ⟨#[]⟩, .int .i64 0, .int .i64 0, .string ⟨#[]⟩, .slice none 0 0, .int .i64 0, .int .i64 0, .int .i64 0, .string ⟨#[]⟩, .int .i64 0] 90)).alloc (.cells #[.int .i64 8, .int .i64 t, .int .i64 0, .int .i64 0, .string ⟨#[]⟩, .int .i64 0, .int .i64 0, .string ⟨#[]⟩, .slice none 0 0, .int .i64 0, .int .i64 0, .int .i64 0, .string ⟨#[]⟩, .int .i64 0] 90))
  have Y := Lib.hid ((show Row ((w.alloc (.cells #[.int .i64 8, .int .i64 t, .int .i64 kk, .int .i64 kn, .string ks, .int .i64 hk, .int .i64 hn, .string hs, .slice ra row.length rc, .int .i64 c, .int .i64 vk, .int .i64 vn, .string vs, .int .i64 n] 90)).alloc (.cells #[.int .i64 0, .int .i64 0, .int .i64 0, .int .i64 0, .string ⟨#[]⟩, .int .i64 0, .int .i64 0, .string ⟨#[]⟩, .slice none 0 0, .int .i64 0, .int .i64 0, .int .i64 0, .string ⟨#[]⟩, .int .i64 0] 90)) (w.heap.size + 1) 90 [.int .i64 0, .int .i64 0, .int .i64 0, .int .i64 0, .string ⟨#[]⟩, .int .i64 0, .int .i64 0, .string ⟨#[]⟩, .slice none 0 0, .int .i64 0, .int .i64 0, .int .i64 0, .string ⟨#[]⟩, .int .i64 0] from Wide.new_at (by simp)).alloc (.cells #[.int .i64 8, .int .i64 t, .int .i64 0, .int .i64 0, .string ⟨#[]⟩, .int .i64 0, .int .i64 0, .string ⟨#[]⟩, .slice none 0 0, .int .i64 0, .int .i64 0, .int .i64 0, .string ⟨#[]⟩, .int .i64 0] 90))
  have Z := Lib.hid (show Row (((w.alloc (.cells #[.int .i64 8, .int .i64 t, .int .i64 kk, .int .i64 kn, .string ks, .int .i64 hk, .int .i64 hn, .string hs, .slice ra row.length rc, .int .i64 c, .int .i64 vk, .int .i64 vn, .string vs, .int .i64 n] 90)).alloc (.cells #[.int .i64 0, .int .i64 0, .int .i64 0, .int .i64 0, .string ⟨#[]⟩, .int .i64 0, .int .i64 0, .string ⟨#[]⟩, .slice none 0 0, .int .i64 0, .int .i64 0, .int .i64 0, .string ⟨#[]⟩, .int .i64 0] 90)).alloc (.cells #[.int .i64 8, .int .i64 t, .int .i64 0, .int .i64 0, .string ⟨#[]⟩, .int .i64 0, .int .i64 0, .string ⟨#[]⟩, .slice none 0 0, .int .i64 0, .int .i64 0, .int .i64 0, .string ⟨#[]⟩, .int .i64 0] 90)) (w.heap.size + 1 + 1) 90 [.int .i64 8, .int .i64 t, .int .i64 0, .int .i64 0, .string ⟨#[]⟩, .int .i64 0, .int .i64 0, .string ⟨#[]⟩, .slice none 0 0, .int .i64 0, .int .i64 0, .int .i64 0, .string ⟨#[]⟩, .int .i64 0] from Wide.new_at (by simp))
  have C := Lib.hid ((((Chg.refl (BldX.Own F b) w).alloc (.cells #[.int .i64 8, .int .i64 t, .int .i64 kk, .int .i64 kn, .string ks, .int .i64 hk, .int .i64 hn, .string hs, .slice ra row.length rc, .int .i64 c, .int .i64 vk, .int .i64 vn, .string vs, .int .i64 n] 90)).alloc (.cells #[.int .i64 0, .int .i64 0, .int .i64 0, .int .i64 0, .string ⟨#[]⟩, .int .i64 0, .int .i64 0, .string ⟨#[]⟩, .slice none 0 0, .int .i64 0, .int .i64 0, .int .i64 0, .string ⟨#[]⟩, .int .i64 0] 90)).alloc (.cells #[.int .i64 8, .int .i64 t, .int .i64 0, .int .i64 0, .string ⟨#[]⟩, .int .i64 0, .int .i64 0, .string ⟨#[]⟩, .slice none 0 0, .int .i64 0, .int .i64 0, .int .i64 0, .string ⟨#[]⟩, .int .i64 0] 90))
  have VV := Lib.hid hV
  have VN := Lib.hid hN
  have FF := Lib.hid hf
  have Hn0 := Lib.hid n0
  have Hn1 := Lib.hid n1
  have Hn2 := Lib.hid n2
  have Hhm := Lib.hid hm
  have Hf1 := Lib.hid f1
  have Hf2 := Lib.hid f2
  have hb : ¬ F b := h.1
  have HB := Lib.hid hb
  have x0 := X.out.cell (i := 0) rfl
  have x1 := X.out.cell (i := 1) rfl
  have x2 := X.out.cell (i := 2) rfl
  have x3 := X.out.cell (i := 3) rfl
  have x4 := X.out.cell (i := 4) rfl
  have x5 := X.out.cell (i := 5) rfl
  have x6 := X.out.cell (i := 6) rfl
  have x7 := X.out.cell (i := 7) rfl
  have x8 := X.out.cell (i := 8) rfl
  have x9 := X.out.cell (i := 9) rfl
  have x10 := X.out.cell (i := 10) rfl
  have x11 := X.out.cell (i := 11) rfl
  have x12 := X.out.cell (i := 12) rfl
  have x13 := X.out.cell (i := 13) rfl
  clear p3 n0 n1 n2 hm f1 f2 h hV hN hf hb
  go_enter Try.func152, Try.ntmps152
  go_wp2_with fail
  clear x0 x1 x2 x3 x4 x5 x6 x7 x8 x9 x10 x11 x12 x13
  generalize w.heap.size + 1 + 1 = s2 at *
  generalize w.heap.size + 1 = s1 at *
  generalize w.heap.size = s0 at *
  refine (one_calls _ b (l) (bad) (8) _ P.out (by have := vals_len row; have := vals_len [(⟨kk, kn, ks⟩ : V)]; have := vals_len [(⟨vk, vn, vs⟩ : V)]; have := vals_len [(⟨kk, kn, ks⟩ : V), ⟨hk, hn, hs⟩]; simp only [List.length_append, List.length_cons, List.length_nil] at *; omega)).mono ?_
  rintro e w1 ⟨rfl, hp, kc⟩
  replace X := Lib.hid (X.out.chg kc Hn0.out)
  replace Y := Lib.hid (Y.out.chg kc Hn1.out)
  replace Z := Lib.hid (Z.out.chg kc Hn2.out)
  replace C := Lib.hid (C.out.trans (kc.mono (fun k _ e => Hhm.out k e)))
  replace P := Lib.hid hp
  clear kc hp
  have x1 := X.out.cell (i := 1) rfl
  go_wp2_with fail
  refine (one_calls _ b (l ++ [oneB (8)]) (bad || oneBad (8)) (t) _ P.out (by have := vals_len row; have := vals_len [(⟨kk, kn, ks⟩ : V)]; have := vals_len [(⟨vk, vn, vs⟩ : V)]; have := vals_len [(⟨kk, kn, ks⟩ : V), ⟨hk, hn, hs⟩]; simp only [List.length_append, List.length_cons, List.length_nil] at *; omega)).mono ?_
  rintro e w2 ⟨rfl, hp, kc⟩
  replace X := Lib.hid (X.out.chg kc Hn0.out)
  replace Y := Lib.hid (Y.out.chg kc Hn1.out)
  replace Z := Lib.hid (Z.out.chg kc Hn2.out)
  replace C := Lib.hid (C.out.trans (kc.mono (fun k _ e => Hhm.out k e)))
  replace P := Lib.hid hp
  clear kc hp x1
  have x0 := X.out.cell (i := 0) rfl
  go_wp2_with (first | (refine load_row Z.out 90 Try.underlying90 rfl (by kernel_rfl) rfl rfl rfl ?_) | (refine store_row Y.out [.int .i64 8, .int .i64 t, .int .i64 0, .int .i64 0, .string ⟨#[]⟩, .int .i64 0, .int .i64 0, .string ⟨#[]⟩, .slice none 0 0, .int .i64 0, .int .i64 0, .int .i64 0, .string ⟨#[]⟩, .int .i64 0] 90 (by kernel_rfl) rfl (by simp [Value.oneCell']) rfl rfl rfl rfl ?_; intro w90 hR hc hsz))
  have P9 := Lib.hid (BldX.Is.wider (BldX.Is.chg P.out hc (fun e => q1 (show s1 = b from e.symm)) (fun k hk e => Hn1.out (.inr ((show k = s1 from e) ▸ hk)))) (fun k hk => hk.1) HB.out)
  have C9 := Lib.hid (C.out.trans (hc.mono (fun k _ e => (.inr ((show k = s1 from e) ▸ Hf1.out) : BldX.Own F b k))))
  have R9 := Lib.hid hR
  clear hR hc hsz
  refine ret_row R9.out Try.results152 Try.underlying90 rfl (by kernel_rfl) rfl rfl ⟨?_, ?_, C9.out⟩
  · rfl
  · have e1 : l ++ [oneB (8)] ++ [oneB (t)] = l ++ Wsh.bytes ⟨8, t, ⟨kk, kn, ks⟩, ⟨hk, hn, hs⟩, ra, rc, row, c, ⟨vk, vn, vs⟩, n⟩ := by simp [Wsh.bytes, List.append_assoc]
    have e2 : (bad || oneBad (8) || oneBad (t)) = (bad || Wsh.bad ⟨8, t, ⟨kk, kn, ks⟩, ⟨hk, hn, hs⟩, ra, rc, row, c, ⟨vk, vn, vs⟩, n⟩) := by simp [Wsh.bad, List.append_assoc, Bool.or_assoc]
    rw [← e1, ← e2]
    exact P9.out
set_option maxHeartbeats 8000000 in
theorem wish_other (F : Nat → Prop) (b : Nat) (l : List UInt8) (bad : Bool) (k : Int) (c1 : ¬ k = 1) (c2 : ¬ k = 2) (c3 : ¬ k = 3) (c4 : ¬ k = 4) (c5 : ¬ k = 5) (c6 : ¬ k = 6) (c7 : ¬ k = 7) (c8 : ¬ k = 8) (c9 : ¬ k = 9) (c10 : ¬ k = 10) (t kk kn : Int) (ks : ByteArray) (hk hn : Int) (hs : ByteArray) (ra : Option Addr) (rc : Nat) (row : List V) (c vk vn : Int) (vs : ByteArray) (n : Int) (w : World) (h : Pen w F b l bad) (hV : Vs w ra row) (hN : ∀ ad, ra = some ad → row ≠ [] → ¬ BldX.Own F b ad.block) (hf : Wsh.fits ⟨k, t, ⟨kk, kn, ks⟩, ⟨hk, hn, hs⟩, ra, rc, row, c, ⟨vk, vn, vs⟩, n⟩) (hl : l.length ≤ 80000000) (hr : row.length ≤ 1000) :
    WishPost F b l bad ⟨k, t, ⟨kk, kn, ks⟩, ⟨hk, hn, hs⟩, ra, rc, row, c, ⟨vk, vn, vs⟩, n⟩ w := by
  unfold WishPost
  show Calls Try.prog 152 #[.pointer (some ⟨b, 0, none⟩), .agg #[.int .i64 k, .int .i64 t, .int .i64 kk, .int .i64 kn, .string ks, .int .i64 hk, .int .i64 hn, .string hs, .slice ra row.length rc, .int .i64 c, .int .i64 vk, .int .i64 vn, .string vs, .int .i64 n]] w _
  obtain ⟨p3, n0, n1, n2, hm, f1, f2, ⟨q0, q5⟩, q1, q4, q3, q2, q7, q6⟩ := three h (.cells #[.int .i64 k, .int .i64 t, .int .i64 kk, .int .i64 kn, .string ks, .int .i64 hk, .int .i64 hn, .string hs, .slice ra row.length rc, .int .i64 c, .int .i64 vk, .int .i64 vn, .string vs, .int .i64 n] 90) (.cells #[.int .i64 0, .int .i64 0, .int .i64 0, .int .i64 0, .string ⟨#[]⟩, .int .i64 0, .int .i64 0, .string ⟨#[]⟩, .slice none 0 0, .int .i64 0, .int .i64 0, .int .i64 0, .string ⟨#[]⟩, .int .i64 0] 90) (.cells #[.int .i64 k, .int .i64 t, .int .i64 0, .int .i64 0, .string ⟨#[]⟩, .int .i64 0, .int .i64 0, .string ⟨#[]⟩, .slice none 0 0, .int .i64 0, .int .i64 0, .int .i64 0, .string ⟨#[]⟩, .int .i64 0] 90)
  have P := Lib.hid p3
  have X := Lib.hid (((Row.new w 90 [.int .i64 k, .int .i64 t, .int .i64 kk, .int .i64 kn, .string ks, .int .i64 hk, .int .i64 hn, .string hs, .slice ra row.length rc, .int .i64 c, .int .i64 vk, .int .i64 vn, .string vs, .int .i64 n]).alloc (.cells #[.int .i64 0, .int .i64 0, .int .i64 0, .int .i64 0, .string ⟨#[]⟩, .int .i64 0, .int .i64 0, .string ⟨#[]⟩, .slice none 0 0, .int .i64 0, .int .i64 0, .int .i64 0, .string ⟨#[]⟩, .int .i64 0] 90)).alloc (.cells #[.int .i64 k, .int .i64 t, .int .i64 0, .int .i64 0, .string ⟨#[]⟩, .int .i64 0, .int .i64 0, .string ⟨#[]⟩, .slice none 0 0, .int .i64 0, .int .i64 0, .int .i64 0, .string ⟨#[]⟩, .int .i64 0] 90))
  have Y := Lib.hid ((show Row ((w.alloc (.cells #[.int .i64 k, .int .i64 t, .int .i64 kk, .int .i64 kn, .string ks, .int .i64 hk, .int .i64 hn, .string hs, .slice ra row.length rc, .int .i64 c, .int .i64 vk, .int .i64 vn, .string vs, .int .i64 n] 90)).alloc (.cells #[.int .i64 0, .int .i64 0, .int .i64 0, .int .i64 0, .string ⟨#[]⟩, .int .i64 0, .int .i64 0, .string ⟨#[]⟩, .slice none 0 0, .int .i64 0, .int .i64 0, .int .i64 0, .string ⟨#[]⟩, .int .i64 0] 90)) (w.heap.size + 1) 90 [.int .i64 0, .int .i64 0, .int .i64 0, .int .i64 0, .string ⟨#[]⟩, .int .i64 0, .int .i64 0, .string ⟨#[]⟩, .slice none 0 0, .int .i64 0, .int .i64 0, .int .i64 0, .string ⟨#[]⟩, .int .i64 0] from Wide.new_at (by simp)).alloc (.cells #[.int .i64 k, .int .i64 t, .int .i64 0, .int .i64 0, .string ⟨#[]⟩, .int .i64 0, .int .i64 0, .string ⟨#[]⟩, .slice none 0 0, .int .i64 0, .int .i64 0, .int .i64 0, .string ⟨#[]⟩, .int .i64 0] 90))
  have Z := Lib.hid (show Row (((w.alloc (.cells #[.int .i64 k, .int .i64 t, .int .i64 kk, .int .i64 kn, .string ks, .int .i64 hk, .int .i64 hn, .string hs, .slice ra row.length rc, .int .i64 c, .int .i64 vk, .int .i64 vn, .string vs, .int .i64 n] 90)).alloc (.cells #[.int .i64 0, .int .i64 0, .int .i64 0, .int .i64 0, .string ⟨#[]⟩, .int .i64 0, .int .i64 0, .string ⟨#[]⟩, .slice none 0 0, .int .i64 0, .int .i64 0, .int .i64 0, .string ⟨#[]⟩, .int .i64 0] 90)).alloc (.cells #[.int .i64 k, .int .i64 t, .int .i64 0, .int .i64 0, .string ⟨#[]⟩, .int .i64 0, .int .i64 0, .string ⟨#[]⟩, .slice none 0 0, .int .i64 0, .int .i64 0, .int .i64 0, .string ⟨#[]⟩, .int .i64 0] 90)) (w.heap.size + 1 + 1) 90 [.int .i64 k, .int .i64 t, .int .i64 0, .int .i64 0, .string ⟨#[]⟩, .int .i64 0, .int .i64 0, .string ⟨#[]⟩, .slice none 0 0, .int .i64 0, .int .i64 0, .int .i64 0, .string ⟨#[]⟩, .int .i64 0] from Wide.new_at (by simp))
  have C := Lib.hid ((((Chg.refl (BldX.Own F b) w).alloc (.cells #[.int .i64 k, .int .i64 t, .int .i64 kk, .int .i64 kn, .string ks, .int .i64 hk, .int .i64 hn, .string hs, .slice ra row.length rc, .int .i64 c, .int .i64 vk, .int .i64 vn, .string vs, .int .i64 n] 90)).alloc (.cells #[.int .i64 0, .int .i64 0, .int .i64 0, .int .i64 0, .string ⟨#[]⟩, .int .i64 0, .int .i64 0, .string ⟨#[]⟩, .slice none 0 0, .int .i64 0, .int .i64 0, .int .i64 0, .string ⟨#[]⟩, .int .i64 0] 90)).alloc (.cells #[.int .i64 k, .int .i64 t, .int .i64 0, .int .i64 0, .string ⟨#[]⟩, .int .i64 0, .int .i64 0, .string ⟨#[]⟩, .slice none 0 0, .int .i64 0, .int .i64 0, .int .i64 0, .string ⟨#[]⟩, .int .i64 0] 90))
  have VV := Lib.hid hV
  have VN := Lib.hid hN
  have FF := Lib.hid hf
  have Hn0 := Lib.hid n0
  have Hn1 := Lib.hid n1
  have Hn2 := Lib.hid n2
  have Hhm := Lib.hid hm
  have Hf1 := Lib.hid f1
  have Hf2 := Lib.hid f2
  have hb : ¬ F b := h.1
  have HB := Lib.hid hb
  have x0 := X.out.cell (i := 0) rfl
  have x1 := X.out.cell (i := 1) rfl
  have x2 := X.out.cell (i := 2) rfl
  have x3 := X.out.cell (i := 3) rfl
  have x4 := X.out.cell (i := 4) rfl
  have x5 := X.out.cell (i := 5) rfl
  have x6 := X.out.cell (i := 6) rfl
  have x7 := X.out.cell (i := 7) rfl
  have x8 := X.out.cell (i := 8) rfl
  have x9 := X.out.cell (i := 9) rfl
  have x10 := X.out.cell (i := 10) rfl
  have x11 := X.out.cell (i := 11) rfl
  have x12 := X.out.cell (i := 12) rfl
  have x13 := X.out.cell (i := 13) rfl
  clear p3 n0 n1 n2 hm f1 f2 h hV hN hf hb
  have d1 : ((k : Int) == 1) = false := by simpa using c1
  have d2 : ((k : Int) == 2) = false := by simpa using c2
  have d3 : ((k : Int) == 3) = false := by simpa using c3
  have d4 : ((k : Int) == 4) = false := by simpa using c4
  have d5 : ((k : Int) == 5) = false := by simpa using c5
  have d6 : ((k : Int) == 6) = false := by simpa using c6
  have d7 : ((k : Int) == 7) = false := by simpa using c7
  have d8 : ((k : Int) == 8) = false := by simpa using c8
  have d9 : ((k : Int) == 9) = false := by simpa using c9
  have d10 : ((k : Int) == 10) = false := by simpa using c10
  clear c1 c2 c3 c4 c5 c6 c7 c8 c9 c10
  go_enter Try.func152, Try.ntmps152
  go_wp2_with fail
  clear x0 x1 x2 x3 x4 x5 x6 x7 x8 x9 x10 x11 x12 x13
  generalize w.heap.size + 1 + 1 = s2 at *
  generalize w.heap.size + 1 = s1 at *
  generalize w.heap.size = s0 at *
  have E9 := Lib.hid (show ¬ k = 1 ∧ ¬ k = 2 ∧ ¬ k = 3 ∧ ¬ k = 4 ∧ ¬ k = 5 ∧ ¬ k = 6 ∧ ¬ k = 7 ∧ ¬ k = 8 ∧ ¬ k = 9 ∧ ¬ k = 10 from by simp at d1 d2 d3 d4 d5 d6 d7 d8 d9 d10; omega)
  refine (one_calls _ b (l) (bad) (k) _ P.out (by have := vals_len row; have := vals_len [(⟨kk, kn, ks⟩ : V)]; have := vals_len [(⟨vk, vn, vs⟩ : V)]; have := vals_len [(⟨kk, kn, ks⟩ : V), ⟨hk, hn, hs⟩]; simp only [List.length_append, List.length_cons, List.length_nil] at *; omega)).mono ?_
  rintro e w1 ⟨rfl, hp, kc⟩
  replace X := Lib.hid (X.out.chg kc Hn0.out)
  replace Y := Lib.hid (Y.out.chg kc Hn1.out)
  replace Z := Lib.hid (Z.out.chg kc Hn2.out)
  replace C := Lib.hid (C.out.trans (kc.mono (fun k _ e => Hhm.out k e)))
  replace P := Lib.hid hp
  clear kc hp
  have x1 := X.out.cell (i := 1) rfl
  go_wp2_with fail
  refine (one_calls _ b (l ++ [oneB (k)]) (bad || oneBad (k)) (t) _ P.out (by have := vals_len row; have := vals_len [(⟨kk, kn, ks⟩ : V)]; have := vals_len [(⟨vk, vn, vs⟩ : V)]; have := vals_len [(⟨kk, kn, ks⟩ : V), ⟨hk, hn, hs⟩]; simp only [List.length_append, List.length_cons, List.length_nil] at *; omega)).mono ?_
  rintro e w2 ⟨rfl, hp, kc⟩
  replace X := Lib.hid (X.out.chg kc Hn0.out)
  replace Y := Lib.hid (Y.out.chg kc Hn1.out)
  replace Z := Lib.hid (Z.out.chg kc Hn2.out)
  replace C := Lib.hid (C.out.trans (kc.mono (fun k _ e => Hhm.out k e)))
  replace P := Lib.hid hp
  clear kc hp x1
  obtain ⟨p2, g2⟩ := Pen.flag P.out
  have ZT := Lib.hid (Z.out.set_ne ⟨b, 2, none⟩ (.bool true) q5)
  have YT := Lib.hid (Y.out.set_ne ⟨b, 2, none⟩ (.bool true) q4)
  have PT := Lib.hid (Pen.set P.out true).1
  have CT := Lib.hid (C.out.trans ((Pen.set P.out true).2.mono (fun k _ e => Hhm.out k e)))
  have x0 := X.out.cell (i := 0) rfl
  go_wp2_with (first | (refine load_row ZT.out 90 Try.underlying90 rfl (by kernel_rfl) rfl rfl rfl ?_) | (refine store_row YT.out [.int .i64 k, .int .i64 t, .int .i64 0, .int .i64 0, .string ⟨#[]⟩, .int .i64 0, .int .i64 0, .string ⟨#[]⟩, .slice none 0 0, .int .i64 0, .int .i64 0, .int .i64 0, .string ⟨#[]⟩, .int .i64 0] 90 (by kernel_rfl) rfl (by simp [Value.oneCell']) rfl rfl rfl rfl ?_; intro w90 hR hc hsz))
  have P9 := Lib.hid (BldX.Is.wider (BldX.Is.chg PT.out hc (fun e => q1 (show s1 = b from e.symm)) (fun k hk e => Hn1.out (.inr ((show k = s1 from e) ▸ hk)))) (fun k hk => hk.1) HB.out)
  have C9 := Lib.hid (CT.out.trans (hc.mono (fun k _ e => (.inr ((show k = s1 from e) ▸ Hf1.out) : BldX.Own F b k))))
  have R9 := Lib.hid hR
  clear hR hc hsz
  obtain ⟨e1, e2, e3, e4, e5, e6, e7, e8, e9, e10⟩ := E9.out
  refine ret_row R9.out Try.results152 Try.underlying90 rfl (by kernel_rfl) rfl rfl ⟨?_, ?_, C9.out⟩
  · simp [Wsh.told, Wsh.only, Wsh.cells, noV, e1, e2, e3, e4, e5, e6, e7, e9, e10]
  · have f1 : l ++ [oneB (k)] ++ [oneB (t)] = l ++ Wsh.bytes ⟨k, t, ⟨kk, kn, ks⟩, ⟨hk, hn, hs⟩, ra, rc, row, c, ⟨vk, vn, vs⟩, n⟩ := by simp [Wsh.bytes, e1, e2, e3, e4, e5, e6, e7, e9, e10]
    have f2 : true = (bad || Wsh.bad ⟨k, t, ⟨kk, kn, ks⟩, ⟨hk, hn, hs⟩, ra, rc, row, c, ⟨vk, vn, vs⟩, n⟩) := by simp [Wsh.bad, e1, e2, e3, e4, e5, e6, e7, e8, e9, e10]
    rw [← f1, ← f2]
    exact P9.out
theorem wish_calls (F : Nat → Prop) (b : Nat) (l : List UInt8) (bad : Bool) (x : Wsh) (w : World) (h : Pen w F b l bad) (hV : Vs w x.ra x.row) (hN : ∀ ad, x.ra = some ad → x.row ≠ [] → ¬ BldX.Own F b ad.block) (hf : x.fits) (hl : l.length ≤ 80000000) (hr : x.row.length ≤ 1000) : WishPost F b l bad x w := by
  obtain ⟨k, t, ⟨kk, kn, ks⟩, ⟨hk, hn, hs⟩, ra, rc, row, c, ⟨vk, vn, vs⟩, n⟩ := x
  by_cases c1 : k = 1
  · subst c1; exact wish_1 F b l bad t kk kn ks hk hn hs ra rc row c vk vn vs n w h hV hN hf hl hr
  by_cases c2 : k = 2
  · subst c2; exact wish_2 F b l bad t kk kn ks hk hn hs ra rc row c vk vn vs n w h hV hN hf hl hr
  by_cases c3 : k = 3
  · subst c3; exact wish_3 F b l bad t kk kn ks hk hn hs ra rc row c vk vn vs n w h hV hN hf hl hr
  by_cases c4 : k = 4
  · subst c4; exact wish_4 F b l bad t kk kn ks hk hn hs ra rc row c vk vn vs n w h hV hN hf hl hr
  by_cases c5 : k = 5
  · subst c5; exact wish_5 F b l bad t kk kn ks hk hn hs ra rc row c vk vn vs n w h hV hN hf hl hr
  by_cases c6 : k = 6
  · subst c6; exact wish_6 F b l bad t kk kn ks hk hn hs ra rc row c vk vn vs n w h hV hN hf hl hr
  by_cases c7 : k = 7
  · subst c7; exact wish_7 F b l bad t kk kn ks hk hn hs ra rc row c vk vn vs n w h hV hN hf hl hr
  by_cases c8 : k = 8
  · subst c8; exact wish_8 F b l bad t kk kn ks hk hn hs ra rc row c vk vn vs n w h hV hN hf hl hr
  by_cases c9 : k = 9
  · subst c9; exact wish_9 F b l bad t kk kn ks hk hn hs ra rc row c vk vn vs n w h hV hN hf hl hr
  by_cases c10 : k = 10
  · subst c10; exact wish_10 F b l bad t kk kn ks hk hn hs ra rc row c vk vn vs n w h hV hN hf hl hr
  exact wish_other F b l bad k c1 c2 c3 c4 c5 c6 c7 c8 c9 c10 t kk kn ks hk hn hs ra rc row c vk vn vs n w h hV hN hf hl hr
end Go.Proofs.Ytcfjooeagfollaa.Bill
