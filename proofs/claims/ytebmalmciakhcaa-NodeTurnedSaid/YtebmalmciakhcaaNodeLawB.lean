/- The law NodeBack. Printed by node_back.py -/
import Derived.Test.YtebmalmciakhcaaNodeLawL
namespace Go.Proofs.Ytebmalmciakhcaa.Node
open Go.RowKit Go.Proofs.Ytebmalmciakhcaa.Mem Go.Proofs.Ytebmalmciakhcaa.Bytes Go.Proofs.Ytebmalmciakhcaa.Ord
set_option linter.unusedSimpArgs false
set_option linter.unusedVariables false

theorem bytes_inj {n m : Nd} (hn : n.fits = true) (hm : m.fits = true) (h : n.bytes = m.bytes) : n = m := by
  have h1 := (nRead_iff n.bytes n).2 ⟨hn, rfl⟩
  have h2 := (nRead_iff m.bytes m).2 ⟨hm, rfl⟩
  rw [h, h2] at h1
  exact (Option.some.inj h1).symm
theorem bytes_beq {n m : Nd} (hn : n.fits = true) (hm : m.fits = true) : ((bs n.bytes).toList == (bs m.bytes).toList) = sameN n m := by
  by_cases h : n = m
  · rw [h, same_self, beq_self_eq_true]
  · rw [same_not h, beq_eq_false_iff_ne]
    intro e
    exact h (bytes_inj hn hm (bs_inj (Bytes.toList_inj.1 e)))
theorem bytesOut_not {n : Nd} (h : ¬ n.fits = true) : ∃ cd : Int, bytesOut n = ([], cd) ∧ (cd = 1 ∨ cd = 5) := by
  rw [Bool.not_eq_true] at h
  by_cases hg : n.good = true
  · exact ⟨5, bytesOut_full hg h, .inr rfl⟩
  · exact ⟨1, bytesOut_bad (by simpa using hg), .inl rfl⟩

set_option maxHeartbeats 2000000 in
set_option maxRecDepth 8000 in
theorem back_calls (n m : Nd) (a a' : Option Addr) (cap cap' : Nat) (s : ByteArray) (w : World) (hE : Es w a n.list) (hE' : Es w a' m.list) (hl : n.list.length ≤ 9223372036854775807) (hl' : m.list.length ≤ 9223372036854775807) (hs : s.size ≤ 140737488351232) :
    Calls Try.prog 4 #[.agg (n.cells (.slice a n.list.length cap)).toArray, .agg (m.cells (.slice a' m.list.length cap')).toArray, .string s] w fun e w' => e = .returned (.bool true) ∧ Below w.heap.size w w' := by
  have hX : Row ((w.alloc (.cells (n.cells (.slice a n.list.length cap)).toArray 24)).alloc (.cells (m.cells (.slice a' m.list.length cap')).toArray 24)) w.heap.size 24 (n.cells (.slice a n.list.length cap)) := (new_at rfl : Row (w.alloc (.cells (n.cells (.slice a n.list.length cap)).toArray 24)) w.heap.size 24 (n.cells (.slice a n.list.length cap))).alloc _
  have hY : Row ((w.alloc (.cells (n.cells (.slice a n.list.length cap)).toArray 24)).alloc (.cells (m.cells (.slice a' m.list.length cap')).toArray 24)) (w.heap.size + 1) 24 (m.cells (.slice a' m.list.length cap')) := new_at (by simp)
  have hb : Below w.heap.size w ((w.alloc (.cells (n.cells (.slice a n.list.length cap)).toArray 24)).alloc (.cells (m.cells (.slice a' m.list.length cap')).toArray 24)) := ((Below.refl _ _).alloc (Nat.le_refl _) _).alloc (by simp) _
  have X := Lib.hid hX
  have Y := Lib.hid hY
  have B := Lib.hid hb
  have AW := Lib.hid awake_calls
  have EN := Lib.hid (fun (w1 : World) (h : Below w.heap.size w w1) => hE.keep h)
  have EM := Lib.hid (fun (w1 : World) (h : Below w.heap.size w w1) => hE'.keep h)
  have GR1 := Lib.hid (fun (w1 : World) (h : Below w.heap.size w w1) => great_calls n a cap w1 (hE.keep h) hl)
  have GR2 := Lib.hid (fun (w1 : World) (h : Below w.heap.size w w1) => great_calls m a' cap' w1 (hE'.keep h) hl')
  have BY1 := Lib.hid (fun (w1 : World) (h : Below w.heap.size w w1) => bytes_calls n a cap w1 (hE.keep h) hl)
  have BY2 := Lib.hid (fun (w1 : World) (h : Below w.heap.size w w1) => bytes_calls m a' cap' w1 (hE'.keep h) hl')
  clear hX hY hb hE hE'
  go_enter Try.func4, Try.ntmps4
  go_wp2_with fail
  refine (AW.out _).mono ?_
  rintro e w1 ⟨rfl, h1⟩
  replace X := Lib.hid (X.out.below h1 X.out.lt)
  replace Y := Lib.hid (Y.out.below h1 Y.out.lt)
  replace B := Lib.hid (B.out.trans (h1.mono B.out.size))
  clear h1
  go_wp2_with (first
    | (refine load_row X.out 24 Try.underlying24 rfl (by kernel_rfl) rfl rfl rfl ?_)
    | (refine load_row_g X.out 24 Try.underlying24 rfl (by kernel_rfl) (by rfl) rfl rfl ?_))
  refine (GR1.out _ B.out).mono ?_
  rintro e w2 ⟨⟨b1, rfl, _⟩, h1⟩
  replace X := Lib.hid (X.out.below h1 X.out.lt)
  replace Y := Lib.hid (Y.out.below h1 Y.out.lt)
  replace B := Lib.hid (B.out.trans (h1.mono B.out.size))
  clear h1
  cases b1
  rotate_left
  · go_wp2_with fail
    go_ret
    exact ⟨rfl, B.out⟩
  go_wp2_with (first
    | (refine load_row Y.out 24 Try.underlying24 rfl (by kernel_rfl) rfl rfl rfl ?_)
    | (refine load_row_g Y.out 24 Try.underlying24 rfl (by kernel_rfl) (by rfl) rfl rfl ?_))
  refine (GR2.out _ B.out).mono ?_
  rintro e w3 ⟨⟨b2, rfl, _⟩, h1⟩
  replace X := Lib.hid (X.out.below h1 X.out.lt)
  replace Y := Lib.hid (Y.out.below h1 Y.out.lt)
  replace B := Lib.hid (B.out.trans (h1.mono B.out.size))
  clear h1
  cases b2
  rotate_left
  · go_wp2_with fail
    go_ret
    exact ⟨rfl, B.out⟩
  by_cases c5 : (s.size : Int) > 512
  · go_wp2_with fail
    go_ret
    exact ⟨rfl, B.out⟩
  have RS := Lib.hid (fun w1 => read_calls s w1 (by omega))
  go_wp2_with (first
    | (refine load_row X.out 24 Try.underlying24 rfl (by kernel_rfl) rfl rfl rfl ?_)
    | (refine load_row_g X.out 24 Try.underlying24 rfl (by kernel_rfl) (by rfl) rfl rfl ?_)
    | (refine load_row Y.out 24 Try.underlying24 rfl (by kernel_rfl) rfl rfl rfl ?_)
    | (refine load_row_g Y.out 24 Try.underlying24 rfl (by kernel_rfl) (by rfl) rfl rfl ?_))
  refine (BY1.out _ B.out).mono ?_
  rintro e w4 ⟨rfl, h1⟩
  replace X := Lib.hid (X.out.below h1 X.out.lt)
  replace Y := Lib.hid (Y.out.below h1 Y.out.lt)
  replace B := Lib.hid (B.out.trans (h1.mono B.out.size))
  clear h1
  clear BY1 GR1 GR2
  go_wp2_with (first
    | (refine load_row X.out 24 Try.underlying24 rfl (by kernel_rfl) rfl rfl rfl ?_)
    | (refine load_row_g X.out 24 Try.underlying24 rfl (by kernel_rfl) (by rfl) rfl rfl ?_)
    | (refine load_row Y.out 24 Try.underlying24 rfl (by kernel_rfl) rfl rfl rfl ?_)
    | (refine load_row_g Y.out 24 Try.underlying24 rfl (by kernel_rfl) (by rfl) rfl rfl ?_))
  refine (BY2.out _ B.out).mono ?_
  rintro e w5 ⟨rfl, h1⟩
  replace X := Lib.hid (X.out.below h1 X.out.lt)
  replace Y := Lib.hid (Y.out.below h1 Y.out.lt)
  replace B := Lib.hid (B.out.trans (h1.mono B.out.size))
  clear h1
  clear BY2
  by_cases hn : n.fits = true
  · rw [bytesOut_ok hn]
    by_cases hm : m.fits = true
    · rw [bytesOut_ok hm]
      have RN := Lib.hid (fun w1 => read_calls (bs n.bytes) w1 (by rw [bs_size, bytes_length hn]; omega))
      rw [bs_data, (nRead_iff n.bytes n).2 ⟨hn, rfl⟩] at RN
      have hxy := bytes_beq hn hm
      have SAB := Lib.hid (fun (w1 : World) (h : Below w.heap.size w w1) => refsame_calls n m a a' cap cap' w1 (EN.out _ h) (EM.out _ h) hl hl')
      generalize sameN n m = sm at *
      generalize bs m.bytes = M at *
      generalize bs n.bytes = N at *
      have SNN := Lib.hid (fun (w1 : World) (a1 : Option Addr) (c1 : Nat) (h1 : Es w1 a1 n.list) (h : Below w.heap.size w w1) => refsame_calls n n a1 a c1 cap w1 h1 (EN.out _ h) hl hl)
      rw [same_self] at SNN
      go_wp2_with fail
      refine (RN.out _).mono ?_
      rintro e w6 ⟨a1, c1, rfl, hes, h1⟩
      replace X := Lib.hid (X.out.below h1 X.out.lt)
      replace Y := Lib.hid (Y.out.below h1 Y.out.lt)
      replace B := Lib.hid (B.out.trans (h1.mono B.out.size))
      clear h1
      have hZ : Row (w6.alloc (.cells (n.cells (.slice a1 n.list.length c1)).toArray 24)) w6.heap.size 24 (n.cells (.slice a1 n.list.length c1)) := new_at rfl
      have Z := Lib.hid hZ
      have hbel : Below w6.heap.size w6 (w6.alloc (.cells (n.cells (.slice a1 n.list.length c1)).toArray 24)) := (Below.refl _ _).alloc (Nat.le_refl _) _
      have ESN := Lib.hid (hes.keep hbel)
      replace X := Lib.hid (X.out.alloc (.cells (n.cells (.slice a1 n.list.length c1)).toArray 24))
      replace Y := Lib.hid (Y.out.alloc (.cells (n.cells (.slice a1 n.list.length c1)).toArray 24))
      replace B := Lib.hid (B.out.alloc B.out.size (.cells (n.cells (.slice a1 n.list.length c1)).toArray 24))
      replace SNN := Lib.hid (SNN.out _ a1 c1 ESN.out B.out)
      clear hes hZ hbel RN ESN
      obtain ⟨n1, n2, n3, n4, n5, n6, n7⟩ := n
      obtain ⟨m1, m2, m3, m4, m5, m6, m7⟩ := m
      simp only [Nd.cells] at X Y B Z SNN SAB ⊢
      go_wp2_with (first
        | (refine load_row Z.out 24 Try.underlying24 rfl (by kernel_rfl) rfl rfl rfl ?_)
        | (refine load_row_g Z.out 24 Try.underlying24 rfl (by kernel_rfl) (by rfl) rfl rfl ?_)
        | (refine load_row X.out 24 Try.underlying24 rfl (by kernel_rfl) rfl rfl rfl ?_)
        | (refine load_row_g X.out 24 Try.underlying24 rfl (by kernel_rfl) (by rfl) rfl rfl ?_)
        | (refine load_row Y.out 24 Try.underlying24 rfl (by kernel_rfl) rfl rfl rfl ?_)
        | (refine load_row_g Y.out 24 Try.underlying24 rfl (by kernel_rfl) (by rfl) rfl rfl ?_))
      refine SNN.out.mono ?_
      rintro e w7 ⟨rfl, h1⟩
      replace X := Lib.hid (X.out.below h1 X.out.lt)
      replace Y := Lib.hid (Y.out.below h1 Y.out.lt)
      replace B := Lib.hid (B.out.trans (h1.mono B.out.size))
      clear h1
      clear Z SNN
      go_wp2_with (first
        | (refine load_row X.out 24 Try.underlying24 rfl (by kernel_rfl) rfl rfl rfl ?_)
        | (refine load_row_g X.out 24 Try.underlying24 rfl (by kernel_rfl) (by rfl) rfl rfl ?_)
        | (refine load_row Y.out 24 Try.underlying24 rfl (by kernel_rfl) rfl rfl rfl ?_)
        | (refine load_row_g Y.out 24 Try.underlying24 rfl (by kernel_rfl) (by rfl) rfl rfl ?_))
      refine (SAB.out _ B.out).mono ?_
      rintro e w7b ⟨rfl, h1⟩
      replace X := Lib.hid (X.out.below h1 X.out.lt)
      replace Y := Lib.hid (Y.out.below h1 Y.out.lt)
      replace B := Lib.hid (B.out.trans (h1.mono B.out.size))
      clear h1
      clear SAB
      cases sm
      all_goals
        go_wp2_with fail
        cases hr : nRead s.data.toList with
        | none =>
          rw [hr] at RS
          clear hr
          refine (RS.out _).mono ?_
          rintro e w8 ⟨rfl, h1⟩
          replace B := Lib.hid (B.out.trans (h1.mono B.out.size))
          clear h1
          replace B := Lib.hid (B.out.alloc B.out.size (.cells #[.int .i64 0, .int .i64 0, .int .i64 0, .bool false, .string ⟨#[]⟩, .int .i64 0, .slice none 0 0] 24))
          go_wp2_with fail
          go_ret
          exact ⟨rfl, B.out⟩
        | some k =>
          obtain ⟨hkf, hkb⟩ := (nRead_iff _ _).1 hr
          have hbs : bs k.bytes = s := by rw [hkb, bs_of]
          rw [hr] at RS
          clear hr hkb
          refine (RS.out _).mono ?_
          rintro e w8 ⟨a8, c8, rfl, hes8, h1⟩
          replace B := Lib.hid (B.out.trans (h1.mono B.out.size))
          clear h1
          have hZ : Row (w8.alloc (.cells (k.cells (.slice a8 k.list.length c8)).toArray 24)) w8.heap.size 24 (k.cells (.slice a8 k.list.length c8)) := new_at rfl
          have Z8 := Lib.hid hZ
          have hbel : Below w8.heap.size w8 (w8.alloc (.cells (k.cells (.slice a8 k.list.length c8)).toArray 24)) := (Below.refl _ _).alloc (Nat.le_refl _) _
          have BK := Lib.hid (bytes_calls k a8 c8 _ (hes8.keep hbel) (by have := (good_nums (fits_good hkf).1).2.2.2.2.1; omega))
          rw [bytesOut_ok hkf] at BK
          replace BK : RowKit.Hid (Calls Try.prog 12 #[.agg (k.cells (.slice a8 k.list.length c8)).toArray] (w8.alloc (.cells (k.cells (.slice a8 k.list.length c8)).toArray 24)) fun e w' => e = .returned (.tuple #[.string s, .int .i64 0]) ∧ Below (w8.alloc (.cells (k.cells (.slice a8 k.list.length c8)).toArray 24)).heap.size (w8.alloc (.cells (k.cells (.slice a8 k.list.length c8)).toArray 24)) w') := by rw [← hbs]; exact BK
          replace B := Lib.hid (B.out.alloc B.out.size (.cells (k.cells (.slice a8 k.list.length c8)).toArray 24))
          obtain ⟨q1, q2, q3, q4, q5, q6, q7⟩ := k
          clear hes8 hZ hbel hkf hbs
          simp only [Nd.cells] at BK B Z8 ⊢
          go_wp2_with (refine load_row Z8.out 24 Try.underlying24 rfl (by kernel_rfl) rfl rfl rfl ?_)
          refine BK.out.mono ?_
          rintro e w9 ⟨rfl, h1⟩
          replace B := Lib.hid (B.out.trans (h1.mono B.out.size))
          clear h1 Z8 BK
          go_wp2_with fail
          go_ret
          exact ⟨by simp, B.out⟩
    · obtain ⟨cd, hbo, hcd⟩ := bytesOut_not hm
      rw [hbo]
      rcases hcd with rfl | rfl
      all_goals
        have RN := Lib.hid (fun w1 => read_calls (bs n.bytes) w1 (by rw [bs_size, bytes_length hn]; omega))
        rw [bs_data, (nRead_iff n.bytes n).2 ⟨hn, rfl⟩] at RN
        generalize bs n.bytes = N at *
        have SNN := Lib.hid (fun (w1 : World) (a1 : Option Addr) (c1 : Nat) (h1 : Es w1 a1 n.list) (h : Below w.heap.size w w1) => refsame_calls n n a1 a c1 cap w1 h1 (EN.out _ h) hl hl)
        rw [same_self] at SNN
        go_wp2_with fail
        refine (RN.out _).mono ?_
        rintro e w6 ⟨a1, c1, rfl, hes, h1⟩
        replace X := Lib.hid (X.out.below h1 X.out.lt)
        replace Y := Lib.hid (Y.out.below h1 Y.out.lt)
        replace B := Lib.hid (B.out.trans (h1.mono B.out.size))
        clear h1
        have hZ : Row (w6.alloc (.cells (n.cells (.slice a1 n.list.length c1)).toArray 24)) w6.heap.size 24 (n.cells (.slice a1 n.list.length c1)) := new_at rfl
        have Z := Lib.hid hZ
        have hbel : Below w6.heap.size w6 (w6.alloc (.cells (n.cells (.slice a1 n.list.length c1)).toArray 24)) := (Below.refl _ _).alloc (Nat.le_refl _) _
        have ESN := Lib.hid (hes.keep hbel)
        replace X := Lib.hid (X.out.alloc (.cells (n.cells (.slice a1 n.list.length c1)).toArray 24))
        replace Y := Lib.hid (Y.out.alloc (.cells (n.cells (.slice a1 n.list.length c1)).toArray 24))
        replace B := Lib.hid (B.out.alloc B.out.size (.cells (n.cells (.slice a1 n.list.length c1)).toArray 24))
        replace SNN := Lib.hid (SNN.out _ a1 c1 ESN.out B.out)
        clear hes hZ hbel RN ESN
        obtain ⟨n1, n2, n3, n4, n5, n6, n7⟩ := n
        simp only [Nd.cells] at X Y B Z SNN ⊢
        go_wp2_with (first
          | (refine load_row Z.out 24 Try.underlying24 rfl (by kernel_rfl) rfl rfl rfl ?_)
          | (refine load_row_g Z.out 24 Try.underlying24 rfl (by kernel_rfl) (by rfl) rfl rfl ?_)
          | (refine load_row X.out 24 Try.underlying24 rfl (by kernel_rfl) rfl rfl rfl ?_)
          | (refine load_row_g X.out 24 Try.underlying24 rfl (by kernel_rfl) (by rfl) rfl rfl ?_)
          | (refine load_row Y.out 24 Try.underlying24 rfl (by kernel_rfl) rfl rfl rfl ?_)
          | (refine load_row_g Y.out 24 Try.underlying24 rfl (by kernel_rfl) (by rfl) rfl rfl ?_))
        refine SNN.out.mono ?_
        rintro e w7 ⟨rfl, h1⟩
        replace X := Lib.hid (X.out.below h1 X.out.lt)
        replace Y := Lib.hid (Y.out.below h1 Y.out.lt)
        replace B := Lib.hid (B.out.trans (h1.mono B.out.size))
        clear h1
        go_wp2_with fail
        cases hr : nRead s.data.toList with
        | none =>
          rw [hr] at RS
          clear hr
          refine (RS.out _).mono ?_
          rintro e w8 ⟨rfl, h1⟩
          replace B := Lib.hid (B.out.trans (h1.mono B.out.size))
          clear h1
          replace B := Lib.hid (B.out.alloc B.out.size (.cells #[.int .i64 0, .int .i64 0, .int .i64 0, .bool false, .string ⟨#[]⟩, .int .i64 0, .slice none 0 0] 24))
          go_wp2_with fail
          go_ret
          exact ⟨rfl, B.out⟩
        | some k =>
          obtain ⟨hkf, hkb⟩ := (nRead_iff _ _).1 hr
          have hbs : bs k.bytes = s := by rw [hkb, bs_of]
          rw [hr] at RS
          clear hr hkb
          refine (RS.out _).mono ?_
          rintro e w8 ⟨a8, c8, rfl, hes8, h1⟩
          replace B := Lib.hid (B.out.trans (h1.mono B.out.size))
          clear h1
          have hZ : Row (w8.alloc (.cells (k.cells (.slice a8 k.list.length c8)).toArray 24)) w8.heap.size 24 (k.cells (.slice a8 k.list.length c8)) := new_at rfl
          have Z8 := Lib.hid hZ
          have hbel : Below w8.heap.size w8 (w8.alloc (.cells (k.cells (.slice a8 k.list.length c8)).toArray 24)) := (Below.refl _ _).alloc (Nat.le_refl _) _
          have BK := Lib.hid (bytes_calls k a8 c8 _ (hes8.keep hbel) (by have := (good_nums (fits_good hkf).1).2.2.2.2.1; omega))
          rw [bytesOut_ok hkf] at BK
          replace BK : RowKit.Hid (Calls Try.prog 12 #[.agg (k.cells (.slice a8 k.list.length c8)).toArray] (w8.alloc (.cells (k.cells (.slice a8 k.list.length c8)).toArray 24)) fun e w' => e = .returned (.tuple #[.string s, .int .i64 0]) ∧ Below (w8.alloc (.cells (k.cells (.slice a8 k.list.length c8)).toArray 24)).heap.size (w8.alloc (.cells (k.cells (.slice a8 k.list.length c8)).toArray 24)) w') := by rw [← hbs]; exact BK
          replace B := Lib.hid (B.out.alloc B.out.size (.cells (k.cells (.slice a8 k.list.length c8)).toArray 24))
          obtain ⟨q1, q2, q3, q4, q5, q6, q7⟩ := k
          clear hes8 hZ hbel hkf hbs
          simp only [Nd.cells] at BK B Z8 ⊢
          go_wp2_with (refine load_row Z8.out 24 Try.underlying24 rfl (by kernel_rfl) rfl rfl rfl ?_)
          refine BK.out.mono ?_
          rintro e w9 ⟨rfl, h1⟩
          replace B := Lib.hid (B.out.trans (h1.mono B.out.size))
          clear h1 Z8 BK
          go_wp2_with fail
          go_ret
          exact ⟨by simp, B.out⟩
  · obtain ⟨cd, hbo, hcd⟩ := bytesOut_not hn
    rw [hbo]
    obtain ⟨M, cm, hm⟩ : ∃ M cm, bytesOut m = (M, cm) := ⟨_, _, rfl⟩
    rw [hm]
    rcases hcd with rfl | rfl
    all_goals
      go_wp2_with fail
      cases hr : nRead s.data.toList with
      | none =>
        rw [hr] at RS
        clear hr
        refine (RS.out _).mono ?_
        rintro e w8 ⟨rfl, h1⟩
        replace B := Lib.hid (B.out.trans (h1.mono B.out.size))
        clear h1
        replace B := Lib.hid (B.out.alloc B.out.size (.cells #[.int .i64 0, .int .i64 0, .int .i64 0, .bool false, .string ⟨#[]⟩, .int .i64 0, .slice none 0 0] 24))
        go_wp2_with fail
        go_ret
        exact ⟨rfl, B.out⟩
      | some k =>
        obtain ⟨hkf, hkb⟩ := (nRead_iff _ _).1 hr
        have hbs : bs k.bytes = s := by rw [hkb, bs_of]
        rw [hr] at RS
        clear hr hkb
        refine (RS.out _).mono ?_
        rintro e w8 ⟨a8, c8, rfl, hes8, h1⟩
        replace B := Lib.hid (B.out.trans (h1.mono B.out.size))
        clear h1
        have hZ : Row (w8.alloc (.cells (k.cells (.slice a8 k.list.length c8)).toArray 24)) w8.heap.size 24 (k.cells (.slice a8 k.list.length c8)) := new_at rfl
        have Z8 := Lib.hid hZ
        have hbel : Below w8.heap.size w8 (w8.alloc (.cells (k.cells (.slice a8 k.list.length c8)).toArray 24)) := (Below.refl _ _).alloc (Nat.le_refl _) _
        have BK := Lib.hid (bytes_calls k a8 c8 _ (hes8.keep hbel) (by have := (good_nums (fits_good hkf).1).2.2.2.2.1; omega))
        rw [bytesOut_ok hkf] at BK
        replace BK : RowKit.Hid (Calls Try.prog 12 #[.agg (k.cells (.slice a8 k.list.length c8)).toArray] (w8.alloc (.cells (k.cells (.slice a8 k.list.length c8)).toArray 24)) fun e w' => e = .returned (.tuple #[.string s, .int .i64 0]) ∧ Below (w8.alloc (.cells (k.cells (.slice a8 k.list.length c8)).toArray 24)).heap.size (w8.alloc (.cells (k.cells (.slice a8 k.list.length c8)).toArray 24)) w') := by rw [← hbs]; exact BK
        replace B := Lib.hid (B.out.alloc B.out.size (.cells (k.cells (.slice a8 k.list.length c8)).toArray 24))
        obtain ⟨q1, q2, q3, q4, q5, q6, q7⟩ := k
        clear hes8 hZ hbel hkf hbs
        simp only [Nd.cells] at BK B Z8 ⊢
        go_wp2_with (refine load_row Z8.out 24 Try.underlying24 rfl (by kernel_rfl) rfl rfl rfl ?_)
        refine BK.out.mono ?_
        rintro e w9 ⟨rfl, h1⟩
        replace B := Lib.hid (B.out.trans (h1.mono B.out.size))
        clear h1 Z8 BK
        go_wp2_with fail
        go_ret
        exact ⟨by simp, B.out⟩
theorem back_row (cs : List Value) (y : Int × Int × Int × Bool × ByteArray × Int × List (ByteArray × ByteArray × Bool × Unit) × Unit) (ds : List Value) (z : Int × Int × Int × Bool × ByteArray × Int × List (ByteArray × ByteArray × Bool × Unit) × Unit) (s : ByteArray) (W : World) (h : nodeC.R W cs y) (h2 : nodeC.R W ds z) (hs : s.size ≤ 140737488351232) :
    Calls Try.prog 4 #[.agg cs.toArray, .agg ds.toArray, .string s] W fun e w' => e = .returned (.bool true) ∧ Below W.heap.size W w' := by
  obtain ⟨n, hn⟩ := node_of h
  obtain ⟨m, hm⟩ := node_of h2
  obtain ⟨a, cap, e1, k1⟩ := hn.ex
  obtain ⟨a', cap', e2, k2⟩ := hm.ex
  rw [e1, e2]
  exact back_calls n m a a' cap cap' s W k1 k2 hn.len hm.len hs
end Go.Proofs.Ytebmalmciakhcaa.Node
