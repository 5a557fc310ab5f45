/- The law PlanBack: rows and entries are there and back. -/
import Derived.Test.YtcfjooeagfollaaPlanM
import Derived.Test.YtcfjooeagfollaaSignRefG
import Derived.Test.YtcfjooeagfollaaPlanN
import Derived.Test.YtcfjooeagfollaaPlanI
import Derived.Test.YtcfjooeagfollaaPlanE
import Derived.Test.YtcfjooeagfollaaPlanK
import Derived.Test.YtcfjooeagfollaaRegApp
namespace Go.Proofs.Ytcfjooeagfollaa.Plan
open Go.RowKit Go.Proofs.Ytcfjooeagfollaa.Mem Go.Proofs.Ytcfjooeagfollaa.Bytes Go.Proofs.Ytcfjooeagfollaa.Num Go.Proofs.Ytcfjooeagfollaa.Sign Go.Proofs.Ytcfjooeagfollaa.Ord
set_option linter.unusedSimpArgs false
set_option linter.unusedVariables false
set_option maxRecDepth 20000

theorem ent_any {o : Option (List V)} {e : Ending} (h : EntPost o e) : ∃ (k v : ByteArray) (c : Int), e = .returned (.tuple #[.agg #[.string k, .string v, .bool false], .int .i64 c]) ∧ ((c = 1 ∧ o = none) ∨ (c = 0 ∧ ∃ l, o = some l ∧ k = bs (rowKey l) ∧ v = bs (rowVal l))) := by
  cases o with
  | none => exact ⟨_, _, _, h, .inl ⟨rfl, rfl⟩⟩
  | some l => exact ⟨_, _, _, h, .inr ⟨rfl, l, rfl, rfl, rfl⟩⟩
theorem es_one {w : World} {b : Nat} {e : TypeId} {k v : ByteArray} {g : Bool} (hR : Row w b e [.string k, .string v, .bool g]) : Node.Es w (some ⟨b, 0, none⟩) [⟨k, v, g⟩] := fun i hi => by
  obtain rfl : i = 0 := by simp at hi; omega
  refine ⟨⟨b, 0, none⟩, rfl, hR.lt, fun w' hb => ?_⟩
  have h := hR.below hb hR.lt
  exact ⟨h.cell (i := 0) rfl, h.cell (i := 1) rfl, h.cell (i := 2) rfl⟩
theorem one_calls (k v : ByteArray) (h : (oneNd ⟨k, v, false⟩).fits = true) (a : Option Addr) (cap : Nat) (w : World) (hE : Node.Es w a [⟨k, v, false⟩]) :
    Calls Try.prog 41 #[.agg #[.int .i64 0, .int .i64 0, .int .i64 0, .bool true, .string ⟨#[255, 255, 255, 255, 255, 255, 255, 255, 255]⟩, .int .i64 0, .slice a 1 cap]] w fun x w' => x = .returned (.bool true) ∧ Below w.heap.size w w' := by
  have h1 := Node.fits_calls (oneNd ⟨k, v, false⟩) a cap w hE (by show 1 ≤ 9223372036854775807; omega)
  rw [h] at h1
  exact h1
set_option maxHeartbeats 20000000 in
theorem back_calls (p : Pl) (n : Int) (l m : List V) (ra rb : Option Addr) (rcap rcap2 : Nat) (k v : ByteArray) (d : Bool) (w : World) (hP : HasP w p) (hPf : p.fits) (hL : Vs w ra l) (hM : Vs w rb m) (fl : ∀ v ∈ l, v.fits) (fm : ∀ v ∈ m, v.fits)
    (hl : l.length ≤ 9223372036854775807) (hm : m.length ≤ 9223372036854775807) (hk : k.size ≤ 9223372036854775807) (hv : v.size ≤ 9223372036854775807) :
    Calls Try.prog 6 #[.agg #[.slice p.ta p.tables.length p.tcap, .slice p.va p.views.length p.vcap], .int .i64 n, .slice ra l.length rcap, .slice rb m.length rcap2, .agg #[.string k, .string v, .bool d]] w fun e w' => e = .returned (.bool true) ∧ Below w.heap.size w w' := by
  have hX : Row (w.alloc (.cells #[.slice p.ta p.tables.length p.tcap, .slice p.va p.views.length p.vcap] 67)) w.heap.size 67 [.slice p.ta p.tables.length p.tcap, .slice p.va p.views.length p.vcap] := Wide.new_at rfl
  have hb : Below w.heap.size w (w.alloc (.cells #[.slice p.ta p.tables.length p.tcap, .slice p.va p.views.length p.vcap] 67)) := (Below.refl _ _).alloc (Nat.le_refl _) _
  have X0 := hX.alloc (.cells #[.string k, .string v, .bool d] 70)
  have hb2 := hb.alloc hb.size (.cells #[.string k, .string v, .bool d] 70)
  have Y0 : Row ((w.alloc (.cells #[.slice p.ta p.tables.length p.tcap, .slice p.va p.views.length p.vcap] 67)).alloc (.cells #[.string k, .string v, .bool d] 70)) (w.heap.size + 1) 70 [.string k, .string v, .bool d] := Wide.new_at (by simp)
  have X := Lib.hid X0
  have Y := Lib.hid Y0
  have B := Lib.hid hb2
  have H := Lib.hid hP
  have L := Lib.hid hL
  have M := Lib.hid hM
  have AW := Lib.hid awake_calls
  have PF := Lib.hid hPf
  have FL := Lib.hid fl
  have FM := Lib.hid fm
  clear hX hb X0 hb2 Y0 hP hL hM hPf fl fm
  go_enter Try.func6, Try.ntmps6
  go_wp2_with fail
  refine (AW.out _).mono ?_
  rintro e w1 ⟨rfl, k1⟩
  replace X := Lib.hid (X.out.below k1 X.out.lt)
  replace Y := Lib.hid (Y.out.below k1 Y.out.lt)
  replace B := Lib.hid (B.out.trans (k1.mono B.out.size))
  clear k1 AW
  have x0 := X.out.cell (i := 0) rfl
  have x1 := X.out.cell (i := 1) rfl
  go_wp2_with fail
  refine (great_calls p l ra rcap _ (H.out.keep B.out) (L.out.keep B.out) hl).mono ?_
  rintro e w2 ⟨⟨g1, rfl⟩, k1⟩
  replace X := Lib.hid (X.out.below k1 X.out.lt)
  replace Y := Lib.hid (Y.out.below k1 Y.out.lt)
  replace B := Lib.hid (B.out.trans (k1.mono B.out.size))
  clear k1 x0 x1
  cases g1
  rotate_left 1
  · go_wp2_with fail
    go_ret
    exact ⟨rfl, B.out⟩
  have x0 := X.out.cell (i := 0) rfl
  have x1 := X.out.cell (i := 1) rfl
  go_wp2_with fail
  refine (great_calls p m rb rcap2 _ (H.out.keep B.out) (M.out.keep B.out) hm).mono ?_
  rintro e w3 ⟨⟨g1, rfl⟩, k1⟩
  replace X := Lib.hid (X.out.below k1 X.out.lt)
  replace Y := Lib.hid (Y.out.below k1 Y.out.lt)
  replace B := Lib.hid (B.out.trans (k1.mono B.out.size))
  clear k1 x0 x1
  cases g1
  rotate_left 1
  · go_wp2_with fail
    go_ret
    exact ⟨rfl, B.out⟩
  have y0 := Y.out.cell (i := 0) rfl
  have y1 := Y.out.cell (i := 1) rfl
  have x0 := X.out.cell (i := 0) rfl
  have x1 := X.out.cell (i := 1) rfl
  by_cases c1 : 60 < k.size
  · have c1' : (60 : Int) < (k.size : Int) := by omega
    go_wp2_with fail
    go_ret
    exact ⟨rfl, B.out⟩
  have c1' : decide ((60 : Int) < (k.size : Int)) = false := by simp; omega
  by_cases c2 : 60 < v.size
  · have c2' : (60 : Int) < (v.size : Int) := by omega
    go_wp2_with fail
    go_ret
    exact ⟨rfl, B.out⟩
  have c2' : decide ((60 : Int) < (v.size : Int)) = false := by simp; omega
  have GC := Lib.hid (good_calls p _ (H.out.keep B.out) PF.out)
  obtain ⟨G, hG⟩ : ∃ G, p.good = G := ⟨_, rfl⟩
  rw [hG] at GC
  go_wp2_with fail
  refine GC.out.mono ?_
  rintro e w4 ⟨rfl, k1⟩
  replace X := Lib.hid (X.out.below k1 X.out.lt)
  replace Y := Lib.hid (Y.out.below k1 Y.out.lt)
  replace B := Lib.hid (B.out.trans (k1.mono B.out.size))
  clear k1 x0 x1 y0 y1 GC
  cases G
  · go_wp2_with fail
    go_ret
    exact ⟨rfl, B.out⟩
  have GO := Lib.hid hG
  clear hG c1' c2'
  have y0 := Y.out.cell (i := 0) rfl
  have y1 := Y.out.cell (i := 1) rfl
  have y2 := Y.out.cell (i := 2) rfl
  have x0 := X.out.cell (i := 0) rfl
  have x1 := X.out.cell (i := 1) rfl
  go_wp2_with fail
  refine (prow_calls p n k v d _ (H.out.keep B.out) (by omega) (by omega)).mono ?_
  rintro e w5 hrr
  clear x0 x1 y0 y1 y2
  obtain ⟨O, hO⟩ : ∃ O, p.read n k v = O := ⟨_, rfl⟩
  rw [hO] at hrr
  cases O with
  | none =>
    obtain ⟨rfl, k1⟩ := hrr
    replace X := Lib.hid (X.out.below k1 X.out.lt)
    replace Y := Lib.hid (Y.out.below k1 Y.out.lt)
    replace B := Lib.hid (B.out.trans (k1.mono B.out.size))
    clear k1
    have x0 := X.out.cell (i := 0) rfl
    have x1 := X.out.cell (i := 1) rfl
    go_wp2_with fail
    clear x0 x1
    refine (entry_calls p n l ra rcap _ (H.out.keep B.out) (L.out.keep B.out) FL.out hl (ent_or GO.out)).mono ?_
    rintro e wa ⟨he, k1⟩
    obtain ⟨ka, va, ca, rfl, hA⟩ := ent_any he
    replace X := Lib.hid ((X.out.below k1 X.out.lt).alloc (.cells #[.string ka, .string va, .bool false] 70))
    replace Y := Lib.hid ((Y.out.below k1 Y.out.lt).alloc (.cells #[.string ka, .string va, .bool false] 70))
    have B3 := B.out.trans (k1.mono B.out.size)
    replace B := Lib.hid (B3.alloc B3.size (.cells #[.string ka, .string va, .bool false] 70))
    have QA := Lib.hid (Wide.new_at rfl : Row (wa.alloc (.cells #[.string ka, .string va, .bool false] 70)) wa.heap.size 70 [.string ka, .string va, .bool false])
    clear k1 B3 he
    have x0 := X.out.cell (i := 0) rfl
    have x1 := X.out.cell (i := 1) rfl
    go_wp2_with fail
    clear x0 x1
    refine (entry_calls p n m rb rcap2 _ (H.out.keep B.out) (M.out.keep B.out) FM.out hm (ent_or GO.out)).mono ?_
    rintro e wb ⟨he, k1⟩
    obtain ⟨kb, vb, cb, rfl, hB⟩ := ent_any he
    replace X := Lib.hid ((X.out.below k1 X.out.lt).alloc (.cells #[.string kb, .string vb, .bool false] 70))
    replace Y := Lib.hid ((Y.out.below k1 Y.out.lt).alloc (.cells #[.string kb, .string vb, .bool false] 70))
    replace QA := Lib.hid ((QA.out.below k1 QA.out.lt).alloc (.cells #[.string kb, .string vb, .bool false] 70))
    have B3 := B.out.trans (k1.mono B.out.size)
    replace B := Lib.hid (B3.alloc B3.size (.cells #[.string kb, .string vb, .bool false] 70))
    have QB := Lib.hid (Wide.new_at rfl : Row (wb.alloc (.cells #[.string kb, .string vb, .bool false] 70)) wb.heap.size 70 [.string kb, .string vb, .bool false])
    clear k1 B3 he
    have x0 := X.out.cell (i := 0) rfl
    have x1 := X.out.cell (i := 1) rfl
    rcases hA with ⟨rfl, hA⟩ | ⟨rfl, l2, hA, rfl, rfl⟩
    · go_wp2_with fail
      go_ret
      exact ⟨rfl, B.out⟩
    rcases hB with ⟨rfl, hB⟩ | ⟨rfl, m2, hB, rfl, rfl⟩
    · go_wp2_with fail
      go_ret
      exact ⟨rfl, B.out⟩
    obtain ⟨rfl, pa, la4, la1, ga⟩ := ent_is hA
    obtain ⟨rfl, pb, lb4, lb1, gb⟩ := ent_is hB
    have RE := read_ent FL.out hA
    have kz := rowKey_size ga la1
    have vz : (bs (rowVal l2)).size ≤ 60 := by have := codes_length ga; rw [bs_size, rowVal, List.length_drop]; omega
    have RC := Lib.hid (prow_calls p n (bs (rowKey l2)) (bs (rowVal l2)) false _ (H.out.keep B.out) (by omega) vz)
    rw [RE] at RC
    have a0 := QA.out.cell (i := 0) rfl
    have a1 := QA.out.cell (i := 1) rfl
    have a2 := QA.out.cell (i := 2) rfl
    have GA := Lib.hid ga
    have GB := Lib.hid gb
    clear kz vz ga gb hA hB RE
    go_wp2_with fail
    refine RC.out.mono ?_
    rintro e wc ⟨sa, scap, rfl, hS, k1⟩
    replace X := Lib.hid (X.out.below k1 X.out.lt)
    replace Y := Lib.hid (Y.out.below k1 Y.out.lt)
    replace QA := Lib.hid (QA.out.below k1 QA.out.lt)
    replace QB := Lib.hid (QB.out.below k1 QB.out.lt)
    replace B := Lib.hid (B.out.trans (k1.mono B.out.size))
    have SS := Lib.hid hS
    clear k1 x0 x1 a0 a1 a2 hS RC
    go_wp2_with fail
    have hlz : ∃ ad, ra = some ad ∧ ∀ w', Below w.heap.size w w' → w'.cell? (ad.add (0 * 3)) = some (.int .i64 l2[0].k) ∧ w'.cell? ⟨(ad.add (0 * 3)).block, (ad.add (0 * 3)).off + 1, none⟩ = some (.int .i64 l2[0].n) ∧ w'.cell? ⟨(ad.add (0 * 3)).block, (ad.add (0 * 3)).off + 2, none⟩ = some (.string l2[0].s) := by
      obtain ⟨ad, e, _, h⟩ := L.out 0 (by omega)
      exact ⟨ad, e, h⟩
    have hmz : ∃ ad, rb = some ad ∧ ∀ w', Below w.heap.size w w' → w'.cell? (ad.add (0 * 3)) = some (.int .i64 m2[0].k) ∧ w'.cell? ⟨(ad.add (0 * 3)).block, (ad.add (0 * 3)).off + 1, none⟩ = some (.int .i64 m2[0].n) ∧ w'.cell? ⟨(ad.add (0 * 3)).block, (ad.add (0 * 3)).off + 2, none⟩ = some (.string m2[0].s) := by
      obtain ⟨ad, e, _, h⟩ := M.out 0 (by omega)
      exact ⟨ad, e, h⟩
    obtain ⟨ad, rfl, hlz⟩ := hlz
    obtain ⟨bd, rfl, hmz⟩ := hmz
    have LZ := Lib.hid hlz
    have MZ := Lib.hid hmz
    clear hlz hmz
    have i1 : (0 : Int) < (l2.length : Int) := by omega
    have i2 : (0 : Int) < (m2.length : Int) := by omega
    replace X := Lib.hid X.out.drew
    replace Y := Lib.hid Y.out.drew
    replace QA := Lib.hid QA.out.drew
    replace QB := Lib.hid QB.out.drew
    replace B := Lib.hid B.out.drew
    replace SS := Lib.hid (SS.out.keep (Below.refl _ _).drew)
    obtain ⟨K1, hK1⟩ : ∃ K, bs (rowKey l2) = K := ⟨_, rfl⟩
    obtain ⟨K2, hK2⟩ : ∃ K, bs (rowKey m2) = K := ⟨_, rfl⟩
    obtain ⟨V1, hV1⟩ : ∃ K, bs (rowVal l2) = K := ⟨_, rfl⟩
    obtain ⟨V2, hV2⟩ : ∃ K, bs (rowVal m2) = K := ⟨_, rfl⟩
    rw [hK1, hV1] at QA
    rw [hK2, hV2] at QB
    obtain ⟨k0, hk0⟩ : ∃ K, l2[0].k = K := ⟨_, rfl⟩
    obtain ⟨n0, hn0⟩ : ∃ K, l2[0].n = K := ⟨_, rfl⟩
    obtain ⟨s0, hs0⟩ : ∃ K, l2[0].s = K := ⟨_, rfl⟩
    obtain ⟨k9, hk9⟩ : ∃ K, m2[0].k = K := ⟨_, rfl⟩
    obtain ⟨n9, hn9⟩ : ∃ K, m2[0].n = K := ⟨_, rfl⟩
    obtain ⟨s9, hs9⟩ : ∃ K, m2[0].s = K := ⟨_, rfl⟩
    rw [hk0, hn0, hs0] at LZ
    rw [hk9, hn9, hs9] at MZ
    have ea : ad.add (0 * 3) = ad := by unfold Addr.add; simp
    have eb : bd.add (0 * 3) = bd := by unfold Addr.add; simp
    rw [ea] at LZ
    rw [eb] at MZ
    clear ea eb
    have j1 : 0 < l2.length := by omega
    have j2 : 0 < m2.length := by omega
    have kz1 := Lib.hid (rowKey_size GA.out la1)
    have kz2 := Lib.hid (rowKey_size GB.out lb1)
    have OF := Lib.hid (one_fits GA.out la1 la4)
    rw [hK1] at kz1
    rw [hK2] at kz2
    rw [hK1, hV1] at OF
    have hco : cmpB K1.data.toList K2.data.toList = cmpV ⟨k0, n0, s0⟩ ⟨k9, n9, s9⟩ := by
      obtain ⟨v, rv, rfl⟩ := List.exists_cons_of_length_pos (show 0 < l2.length by omega)
      obtain ⟨u, ru, rfl⟩ := List.exists_cons_of_length_pos (show 0 < m2.length by omega)
      obtain ⟨vk, vn, vs⟩ := v
      obtain ⟨uk, un, us⟩ := u
      simp only [List.getElem_cons_zero] at hk0 hn0 hs0 hk9 hn9 hs9
      rw [← hk0, ← hn0, ← hs0, ← hk9, ← hn9, ← hs9, ← hK1, ← hK2, bs_data, bs_data, key_order (GA.out _ List.mem_cons_self) (GB.out _ List.mem_cons_self) (FL.out _ List.mem_cons_self) (FM.out _ List.mem_cons_self)]
      unfold cmpV
      rw [if_pos ⟨GA.out _ List.mem_cons_self, GB.out _ List.mem_cons_self⟩]
    have TC := Lib.hid (fun wx => texts_calls K1 K2 wx (by rw [kz1.out]; omega) (by rw [kz2.out]; omega))
    have CC := Lib.hid (fun wx => refcompare_calls ⟨k0, n0, s0⟩ ⟨k9, n9, s9⟩ wx)
    rw [hco] at TC
    obtain ⟨cc, hcc⟩ : ∃ c, cmpV ⟨k0, n0, s0⟩ ⟨k9, n9, s9⟩ = c := ⟨_, rfl⟩
    rw [hcc] at TC CC
    have hw3 : (l2 = m2 ∧ K1 = K2 ∧ V1 = V2) ∨ (¬ l2 = m2 ∧ ¬ K1 = K2) ∨ (¬ l2 = m2 ∧ K1 = K2 ∧ ¬ V1 = V2) := by
      by_cases hlm : l2 = m2
      · exact .inl ⟨hlm, by rw [← hK1, ← hK2, hlm], by rw [← hV1, ← hV2, hlm]⟩
      · by_cases hkk : K1 = K2
        · refine .inr (.inr ⟨hlm, hkk, fun hvv => hlm ?_⟩)
          rw [← hK1, ← hK2] at hkk
          rw [← hV1, ← hV2] at hvv
          exact entry_inj (fun v hv => ⟨GA.out v hv, FL.out v hv⟩) (fun v hv => ⟨GB.out v hv, FM.out v hv⟩) la4 lb4 (bs_inj hkk) (bs_inj hvv)
        · exact .inr (.inl ⟨hlm, hkk⟩)
    clear hcc hco hK1 hK2 hV1 hV2 hk0 hn0 hs0 hk9 hn9 hs9
    generalize wa.heap.size = qa at *
    generalize wb.heap.size = qb at *
    rcases hw3 with ⟨hlm, rfl, rfl⟩ | ⟨hlm, hkk⟩ | ⟨hlm, rfl, hvv⟩
    · have HLM := Lib.hid hlm
      clear hlm
      refine Reg.start (fun w' => w'.cell? ⟨qa, 0, none⟩ = some (.string K1) ∧ w'.cell? ⟨qa, 1, none⟩ = some (.string V1) ∧ w'.cell? ⟨qa, 2, none⟩ = some (.bool false) ∧ w'.cell? ⟨qb, 0, none⟩ = some (.string K1) ∧ w'.cell? ⟨qb, 1, none⟩ = some (.string V1) ∧ w'.cell? ⟨qb, 2, none⟩ = some (.bool false) ∧ (w'.cell? ad = some (.int .i64 k0) ∧ w'.cell? ⟨ad.block, ad.off + 1, none⟩ = some (.int .i64 n0) ∧ w'.cell? ⟨ad.block, ad.off + 2, none⟩ = some (.string s0)) ∧ (w'.cell? bd = some (.int .i64 k9) ∧ w'.cell? ⟨bd.block, bd.off + 1, none⟩ = some (.int .i64 n9) ∧ w'.cell? ⟨bd.block, bd.off + 2, none⟩ = some (.string s9))) (fun i => false) (by kernel_rfl) ⟨QA.out.cell rfl, QA.out.cell rfl, QA.out.cell rfl, QB.out.cell rfl, QB.out.cell rfl, QB.out.cell rfl, LZ.out _ B.out, MZ.out _ B.out⟩ (fun hHeld => ?_)
      generalize wc.drew = wd at *
      refine Reg.takeI 0 (v := ?_) rfl (by kernel_rfl) (by kernel_rfl) (by kernel_rfl) (by kernel_rfl) (fun _ _ _ h => h) (by rfl) ?_ hHeld ?_
      rotate_left 1
      · (intro w hSw; (try dsimp only at hSw); go_simp; try with_reducible rfl)
      try simp only [Act.put, List.setIfInBounds_toArray, List.set_cons_zero, List.set_cons_succ]
      refine Reg.takeI 1 (v := ?_) rfl (by kernel_rfl) (by kernel_rfl) (by kernel_rfl) (by kernel_rfl) (fun _ _ _ h => h) (by rfl) ?_ hHeld ?_
      rotate_left 1
      · (intro w hSw; (try dsimp only at hSw); go_simp; try with_reducible rfl)
      try simp only [Act.put, List.setIfInBounds_toArray, List.set_cons_zero, List.set_cons_succ]
      refine Reg.takeI 2 (v := ?_) rfl (by kernel_rfl) (by kernel_rfl) (by kernel_rfl) (by kernel_rfl) (fun _ _ _ h => h) (by rfl) ?_ hHeld ?_
      rotate_left 1
      · (intro w hSw; (try dsimp only at hSw); go_simp; try with_reducible rfl)
      try simp only [Act.put, List.setIfInBounds_toArray, List.set_cons_zero, List.set_cons_succ]
      refine Reg.takeI 3 (v := ?_) rfl (by kernel_rfl) (by kernel_rfl) (by kernel_rfl) (by kernel_rfl) (fun _ _ _ h => h) (by rfl) ?_ hHeld ?_
      rotate_left 1
      · (intro w hSw; (try dsimp only at hSw); go_simp; try with_reducible rfl)
      try simp only [Act.put, List.setIfInBounds_toArray, List.set_cons_zero, List.set_cons_succ]
      refine Reg.takeI 4 (v := ?_) rfl (by kernel_rfl) (by kernel_rfl) (by kernel_rfl) (by kernel_rfl) (fun _ _ _ h => h) (by rfl) ?_ hHeld ?_
      rotate_left 1
      · (intro w hSw; (try dsimp only at hSw); go_simp; try with_reducible rfl)
      try simp only [Act.put, List.setIfInBounds_toArray, List.set_cons_zero, List.set_cons_succ]
      refine Reg.oneI 5 rfl (by kernel_rfl) (by rfl) (fun K hK => ?_)
      go_simp
      go_at_call 38
      refine (vsame_calls l2 l2 _ _ _ _ _ SS.out (L.out.keep B.out) (by omega) (by omega)).mono ?_
      rintro e w7 ⟨⟨r7, hr7, rfl⟩, k7⟩
      obtain rfl := hr7.2 rfl
      clear hr7
      replace X := Lib.hid (X.out.below k7 X.out.lt)
      replace Y := Lib.hid (Y.out.below k7 Y.out.lt)
      replace QA := Lib.hid (QA.out.below k7 QA.out.lt)
      replace QB := Lib.hid (QB.out.below k7 QB.out.lt)
      replace B := Lib.hid (B.out.trans (k7.mono B.out.size))
      replace SS := Lib.hid (SS.out.keep k7)
      clear k7
      go_wp2_with fail
      refine hK.out _ _ (fun _ => ⟨QA.out.cell rfl, QA.out.cell rfl, QA.out.cell rfl, QB.out.cell rfl, QB.out.cell rfl, QB.out.cell rfl, LZ.out _ B.out, MZ.out _ B.out⟩) (fun hHeld => ?_)
      replace hHeld := hHeld (by first | rfl | trivial)
      clear hK K
      try simp only [Act.put, List.setIfInBounds_toArray, List.set_cons_zero, List.set_cons_succ]
      refine Reg.takeI 6 (v := ?_) rfl (by kernel_rfl) (by kernel_rfl) (by kernel_rfl) (by kernel_rfl) (fun _ _ _ h => h) (by rfl) ?_ hHeld ?_
      rotate_left 1
      · (intro w hSw; (try dsimp only at hSw); go_simp; try with_reducible rfl)
      try simp only [Act.put, List.setIfInBounds_toArray, List.set_cons_zero, List.set_cons_succ]
      refine Reg.takeI 7 (v := ?_) rfl (by kernel_rfl) (by kernel_rfl) (by kernel_rfl) (by kernel_rfl) (fun _ _ _ h => h) (by rfl) ?_ hHeld ?_
      rotate_left 1
      · (intro w hSw; (try dsimp only at hSw); go_simp; try with_reducible rfl)
      try simp only [Act.put, List.setIfInBounds_toArray, List.set_cons_zero, List.set_cons_succ]
      refine Reg.takeI 8 (v := ?_) rfl (by kernel_rfl) (by kernel_rfl) (by kernel_rfl) (by kernel_rfl) (fun _ _ _ h => h) (by rfl) ?_ hHeld ?_
      rotate_left 1
      · (intro w hSw; (try dsimp only at hSw); go_simp; try with_reducible rfl)
      try simp only [Act.put, List.setIfInBounds_toArray, List.set_cons_zero, List.set_cons_succ]
      refine Reg.takeI 9 (v := ?_) rfl (by kernel_rfl) (by kernel_rfl) (by kernel_rfl) (by kernel_rfl) (fun _ _ _ h => h) (by rfl) ?_ hHeld ?_
      rotate_left 1
      · (intro w hSw; (try dsimp only at hSw); go_simp; try with_reducible rfl)
      try simp only [Act.put, List.setIfInBounds_toArray, List.set_cons_zero, List.set_cons_succ]
      refine Reg.takeI 10 (v := ?_) rfl (by kernel_rfl) (by kernel_rfl) (by kernel_rfl) (by kernel_rfl) (fun _ _ _ h => h) (by rfl) ?_ hHeld ?_
      rotate_left 1
      · (intro w hSw; (try dsimp only at hSw); go_simp; try with_reducible rfl)
      try simp only [Act.put, List.setIfInBounds_toArray, List.set_cons_zero, List.set_cons_succ]
      refine Reg.takeI 11 (v := ?_) rfl (by kernel_rfl) (by kernel_rfl) (by kernel_rfl) (by kernel_rfl) (fun _ _ _ h => h) (by rfl) ?_ hHeld ?_
      rotate_left 1
      · (intro w hSw; (try dsimp only at hSw); go_simp; try with_reducible rfl)
      try simp only [Act.put, List.setIfInBounds_toArray, List.set_cons_zero, List.set_cons_succ]
      refine Reg.takeI 12 (v := ?_) rfl (by kernel_rfl) (by kernel_rfl) (by kernel_rfl) (by kernel_rfl) (fun _ _ _ h => h) (by rfl) ?_ hHeld ?_
      rotate_left 1
      · (intro w hSw; (try dsimp only at hSw); go_simp; try with_reducible rfl)
      try simp only [Act.put, List.setIfInBounds_toArray, List.set_cons_zero, List.set_cons_succ]
      refine Reg.takeI 14 (v := ?_) rfl (by kernel_rfl) (by kernel_rfl) (by kernel_rfl) (by kernel_rfl) (fun _ _ _ h => h) (by rfl) ?_ hHeld ?_
      rotate_left 1
      · (intro w hSw; (try dsimp only at hSw); go_simp; try with_reducible rfl)
      try simp only [Act.put, List.setIfInBounds_toArray, List.set_cons_zero, List.set_cons_succ]
      refine Reg.takeI 15 (v := ?_) rfl (by kernel_rfl) (by kernel_rfl) (by kernel_rfl) (by kernel_rfl) (fun _ _ _ h => h) (by rfl) ?_ hHeld ?_
      rotate_left 1
      · (intro w hSw; (try dsimp only at hSw); go_simp; try with_reducible rfl)
      try simp only [Act.put, List.setIfInBounds_toArray, List.set_cons_zero, List.set_cons_succ]
      refine Reg.takeI 16 (v := ?_) rfl (by kernel_rfl) (by kernel_rfl) (by kernel_rfl) (by kernel_rfl) (fun _ _ _ h => h) (by rfl) ?_ hHeld ?_
      rotate_left 1
      · (intro w hSw; (try dsimp only at hSw); go_simp; try with_reducible rfl)
      try simp only [Act.put, List.setIfInBounds_toArray, List.set_cons_zero, List.set_cons_succ]
      refine Reg.takeI 17 (v := ?_) rfl (by kernel_rfl) (by kernel_rfl) (by kernel_rfl) (by kernel_rfl) (fun _ _ _ h => h) (by rfl) ?_ hHeld ?_
      rotate_left 1
      · (intro w hSw; (try dsimp only at hSw); go_simp; try with_reducible rfl)
      try simp only [Act.put, List.setIfInBounds_toArray, List.set_cons_zero, List.set_cons_succ]
      refine Reg.takeI 18 (v := ?_) rfl (by kernel_rfl) (by kernel_rfl) (by kernel_rfl) (by kernel_rfl) (fun _ _ _ h => h) (by rfl) ?_ hHeld ?_
      rotate_left 1
      · (intro w hSw; (try dsimp only at hSw); go_simp; try with_reducible rfl)
      try simp only [Act.put, List.setIfInBounds_toArray, List.set_cons_zero, List.set_cons_succ]
      refine Reg.takeI 19 (v := ?_) rfl (by kernel_rfl) (by kernel_rfl) (by kernel_rfl) (by kernel_rfl) (fun _ _ _ h => h) (by rfl) ?_ hHeld ?_
      rotate_left 1
      · (intro w hSw; (try dsimp only at hSw); go_simp; try with_reducible rfl)
      try simp only [Act.put, List.setIfInBounds_toArray, List.set_cons_zero, List.set_cons_succ]
      refine Reg.oneI 13 rfl (by kernel_rfl) (by rfl) (fun K hK => ?_)
      go_simp
      go_at_call 39
      refine (TC.out _).mono ?_
      rintro e w8 ⟨rfl, k8⟩
      replace X := Lib.hid (X.out.below k8 X.out.lt)
      replace Y := Lib.hid (Y.out.below k8 Y.out.lt)
      replace QA := Lib.hid (QA.out.below k8 QA.out.lt)
      replace QB := Lib.hid (QB.out.below k8 QB.out.lt)
      replace B := Lib.hid (B.out.trans (k8.mono B.out.size))
      replace SS := Lib.hid (SS.out.keep k8)
      clear k8
      go_wp2_with fail
      refine hK.out _ _ (fun _ => ⟨QA.out.cell rfl, QA.out.cell rfl, QA.out.cell rfl, QB.out.cell rfl, QB.out.cell rfl, QB.out.cell rfl, LZ.out _ B.out, MZ.out _ B.out⟩) (fun hHeld => ?_)
      replace hHeld := hHeld (by first | rfl | trivial)
      clear hK K
      try simp only [Act.put, List.setIfInBounds_toArray, List.set_cons_zero, List.set_cons_succ]
      refine Reg.oneI 20 rfl (by kernel_rfl) (by rfl) (fun K hK => ?_)
      go_simp
      go_at_call 40
      refine (CC.out _).mono ?_
      rintro e w9 ⟨rfl, k9'⟩
      replace X := Lib.hid (X.out.below k9' X.out.lt)
      replace Y := Lib.hid (Y.out.below k9' Y.out.lt)
      replace QA := Lib.hid (QA.out.below k9' QA.out.lt)
      replace QB := Lib.hid (QB.out.below k9' QB.out.lt)
      replace B := Lib.hid (B.out.trans (k9'.mono B.out.size))
      replace SS := Lib.hid (SS.out.keep k9')
      clear k9'
      go_wp2_with fail
      refine hK.out _ _ (fun _ => ⟨QA.out.cell rfl, QA.out.cell rfl, QA.out.cell rfl, QB.out.cell rfl, QB.out.cell rfl, QB.out.cell rfl, LZ.out _ B.out, MZ.out _ B.out⟩) (fun hHeld => ?_)
      replace hHeld := hHeld (by first | rfl | trivial)
      clear hK K
      try simp only [Act.put, List.setIfInBounds_toArray, List.set_cons_zero, List.set_cons_succ]
      refine Reg.takeI 21 (v := ?_) rfl (by kernel_rfl) (by kernel_rfl) (by kernel_rfl) (by kernel_rfl) (fun _ _ _ h => h) (by rfl) ?_ hHeld ?_
      rotate_left 1
      · (intro w hSw; (try dsimp only at hSw); go_simp; try with_reducible rfl)
      try simp only [Act.put, List.setIfInBounds_toArray, List.set_cons_zero, List.set_cons_succ]
      refine Reg.takeI 22 (v := ?_) rfl (by kernel_rfl) (by kernel_rfl) (by kernel_rfl) (by kernel_rfl) (fun _ _ _ h => h) (by rfl) ?_ hHeld ?_
      rotate_left 1
      · (intro w hSw; (try dsimp only at hSw); go_simp; try with_reducible rfl)
      try simp only [Act.put, List.setIfInBounds_toArray, List.set_cons_zero, List.set_cons_succ]
      refine Reg.takeI 23 (v := ?_) rfl (by kernel_rfl) (by kernel_rfl) (by kernel_rfl) (by kernel_rfl) (fun _ _ _ h => h) (by rfl) ?_ hHeld ?_
      rotate_left 1
      · (intro w hSw; (try dsimp only at hSw); go_simp; try with_reducible rfl)
      try simp only [Act.put, List.setIfInBounds_toArray, List.set_cons_zero, List.set_cons_succ]
      refine Reg.takeI 24 (v := ?_) rfl (by kernel_rfl) (by kernel_rfl) (by kernel_rfl) (by kernel_rfl) (fun _ _ _ h => h) (by rfl) ?_ hHeld ?_
      rotate_left 1
      · (intro w hSw; (try dsimp only at hSw); go_simp; try with_reducible rfl)
      try simp only [Act.put, List.setIfInBounds_toArray, List.set_cons_zero, List.set_cons_succ]
      refine Reg.takeI 25 (v := ?_) rfl (by kernel_rfl) (by kernel_rfl) (by kernel_rfl) (by kernel_rfl) (fun _ _ _ h => h) (by rfl) ?_ hHeld ?_
      rotate_left 1
      · (intro w hSw; (try dsimp only at hSw); go_simp; try with_reducible rfl)
      try simp only [Act.put, List.setIfInBounds_toArray, List.set_cons_zero, List.set_cons_succ]
      refine Reg.takeI 26 (v := ?_) rfl (by kernel_rfl) (by kernel_rfl) (by kernel_rfl) (by kernel_rfl) (fun _ _ _ h => h) (by rfl) ?_ hHeld ?_
      rotate_left 1
      · (intro w hSw; (try dsimp only at hSw); go_simp; try with_reducible rfl)
      try simp only [Act.put, List.setIfInBounds_toArray, List.set_cons_zero, List.set_cons_succ]
      refine Reg.takeI 27 (v := ?_) rfl (by kernel_rfl) (by kernel_rfl) (by kernel_rfl) (by kernel_rfl) (fun _ _ _ h => h) (by rfl) ?_ hHeld ?_
      rotate_left 1
      · (intro w hSw; (try dsimp only at hSw); go_simp; try with_reducible rfl)
      try simp only [Act.put, List.setIfInBounds_toArray, List.set_cons_zero, List.set_cons_succ]
      refine Reg.takeI 28 (v := ?_) rfl (by kernel_rfl) (by kernel_rfl) (by kernel_rfl) (by kernel_rfl) (fun _ _ _ h => h) (by rfl) ?_ hHeld ?_
      rotate_left 1
      · (intro w hSw; (try dsimp only at hSw); go_simp; try with_reducible rfl)
      try simp only [Act.put, List.setIfInBounds_toArray, List.set_cons_zero, List.set_cons_succ]
      refine Reg.oneI 29 rfl (by kernel_rfl) (by rfl) (fun K hK => ?_)
      go_simp
      go_at_call 38
      refine (vsame_calls l2 m2 _ _ _ _ _ (L.out.keep B.out) (M.out.keep B.out) (by omega) (by omega)).mono ?_
      rintro e w10 ⟨⟨r10, hr10, rfl⟩, k10⟩
      obtain rfl := hr10.2 HLM.out
      clear hr10
      replace X := Lib.hid (X.out.below k10 X.out.lt)
      replace Y := Lib.hid (Y.out.below k10 Y.out.lt)
      replace QA := Lib.hid (QA.out.below k10 QA.out.lt)
      replace QB := Lib.hid (QB.out.below k10 QB.out.lt)
      replace B := Lib.hid (B.out.trans (k10.mono B.out.size))
      replace SS := Lib.hid (SS.out.keep k10)
      clear k10
      go_wp2_with fail
      refine hK.out _ _ (fun _ => ⟨QA.out.cell rfl, QA.out.cell rfl, QA.out.cell rfl, QB.out.cell rfl, QB.out.cell rfl, QB.out.cell rfl, LZ.out _ B.out, MZ.out _ B.out⟩) (fun hHeld => ?_)
      replace hHeld := hHeld (by first | rfl | trivial)
      clear hK K
      try simp only [Act.put, List.setIfInBounds_toArray, List.set_cons_zero, List.set_cons_succ]
      refine Reg.takeI 30 (v := ?_) rfl (by kernel_rfl) (by kernel_rfl) (by kernel_rfl) (by kernel_rfl) (fun _ _ _ h => h) (by rfl) ?_ hHeld ?_
      rotate_left 1
      · (intro w hSw; (try dsimp only at hSw); go_simp; try with_reducible rfl)
      try simp only [Act.put, List.setIfInBounds_toArray, List.set_cons_zero, List.set_cons_succ]
      refine Reg.takeI 31 (v := ?_) rfl (by kernel_rfl) (by kernel_rfl) (by kernel_rfl) (by kernel_rfl) (fun _ _ _ h => h) (by rfl) ?_ hHeld ?_
      rotate_left 1
      · (intro w hSw; (try dsimp only at hSw); go_simp; try with_reducible rfl)
      try simp only [Act.put, List.setIfInBounds_toArray, List.set_cons_zero, List.set_cons_succ]
      refine Reg.doneI (by kernel_rfl) ?_
      have FC := Lib.hid (one_calls K1 V1 OF.out)
      have q0 := QA.out.cell (i := 0) rfl
      have q1 := QA.out.cell (i := 1) rfl
      have q2 := QA.out.cell (i := 2) rfl
      go_wp2_with fail
      refine (FC.out _ _ _ (es_one (Wide.new_at rfl))).mono ?_
      rintro e w11 ⟨rfl, k11⟩
      have B11 := B.out.alloc B.out.size (.cells #[.string K1, .string V1, .bool false] 70)
      replace B := Lib.hid (B11.trans (k11.mono B11.size))
      clear k11 B11 q0 q1 q2
      go_wp2_with fail
      go_ret
      exact ⟨rfl, B.out⟩
    · have HLM := Lib.hid hlm
      have nk : ¬ K1.toList = K2.toList := fun h => hkk (toList_inj.1 h)
      clear hlm hkk
      refine Reg.start (fun w' => w'.cell? ⟨qa, 0, none⟩ = some (.string K1) ∧ w'.cell? ⟨qa, 1, none⟩ = some (.string V1) ∧ w'.cell? ⟨qa, 2, none⟩ = some (.bool false) ∧ w'.cell? ⟨qb, 0, none⟩ = some (.string K2) ∧ w'.cell? ⟨qb, 1, none⟩ = some (.string V2) ∧ w'.cell? ⟨qb, 2, none⟩ = some (.bool false) ∧ (w'.cell? ad = some (.int .i64 k0) ∧ w'.cell? ⟨ad.block, ad.off + 1, none⟩ = some (.int .i64 n0) ∧ w'.cell? ⟨ad.block, ad.off + 2, none⟩ = some (.string s0)) ∧ (w'.cell? bd = some (.int .i64 k9) ∧ w'.cell? ⟨bd.block, bd.off + 1, none⟩ = some (.int .i64 n9) ∧ w'.cell? ⟨bd.block, bd.off + 2, none⟩ = some (.string s9))) (fun i => false) (by kernel_rfl) ⟨QA.out.cell rfl, QA.out.cell rfl, QA.out.cell rfl, QB.out.cell rfl, QB.out.cell rfl, QB.out.cell rfl, LZ.out _ B.out, MZ.out _ B.out⟩ (fun hHeld => ?_)
      generalize wc.drew = wd at *
      refine Reg.takeI 0 (v := ?_) rfl (by kernel_rfl) (by kernel_rfl) (by kernel_rfl) (by kernel_rfl) (fun _ _ _ h => h) (by rfl) ?_ hHeld ?_
      rotate_left 1
      · (intro w hSw; (try dsimp only at hSw); go_simp; try with_reducible rfl)
      try simp only [Act.put, List.setIfInBounds_toArray, List.set_cons_zero, List.set_cons_succ]
      refine Reg.takeI 1 (v := ?_) rfl (by kernel_rfl) (by kernel_rfl) (by kernel_rfl) (by kernel_rfl) (fun _ _ _ h => h) (by rfl) ?_ hHeld ?_
      rotate_left 1
      · (intro w hSw; (try dsimp only at hSw); go_simp; try with_reducible rfl)
      try simp only [Act.put, List.setIfInBounds_toArray, List.set_cons_zero, List.set_cons_succ]
      refine Reg.takeI 2 (v := ?_) rfl (by kernel_rfl) (by kernel_rfl) (by kernel_rfl) (by kernel_rfl) (fun _ _ _ h => h) (by rfl) ?_ hHeld ?_
      rotate_left 1
      · (intro w hSw; (try dsimp only at hSw); go_simp; try with_reducible rfl)
      try simp only [Act.put, List.setIfInBounds_toArray, List.set_cons_zero, List.set_cons_succ]
      refine Reg.takeI 3 (v := ?_) rfl (by kernel_rfl) (by kernel_rfl) (by kernel_rfl) (by kernel_rfl) (fun _ _ _ h => h) (by rfl) ?_ hHeld ?_
      rotate_left 1
      · (intro w hSw; (try dsimp only at hSw); go_simp; try with_reducible rfl)
      try simp only [Act.put, List.setIfInBounds_toArray, List.set_cons_zero, List.set_cons_succ]
      refine Reg.takeI 4 (v := ?_) rfl (by kernel_rfl) (by kernel_rfl) (by kernel_rfl) (by kernel_rfl) (fun _ _ _ h => h) (by rfl) ?_ hHeld ?_
      rotate_left 1
      · (intro w hSw; (try dsimp only at hSw); go_simp; try with_reducible rfl)
      try simp only [Act.put, List.setIfInBounds_toArray, List.set_cons_zero, List.set_cons_succ]
      refine Reg.oneI 5 rfl (by kernel_rfl) (by rfl) (fun K hK => ?_)
      go_simp
      go_at_call 38
      refine (vsame_calls l2 l2 _ _ _ _ _ SS.out (L.out.keep B.out) (by omega) (by omega)).mono ?_
      rintro e w7 ⟨⟨r7, hr7, rfl⟩, k7⟩
      obtain rfl := hr7.2 rfl
      clear hr7
      replace X := Lib.hid (X.out.below k7 X.out.lt)
      replace Y := Lib.hid (Y.out.below k7 Y.out.lt)
      replace QA := Lib.hid (QA.out.below k7 QA.out.lt)
      replace QB := Lib.hid (QB.out.below k7 QB.out.lt)
      replace B := Lib.hid (B.out.trans (k7.mono B.out.size))
      replace SS := Lib.hid (SS.out.keep k7)
      clear k7
      go_wp2_with fail
      refine hK.out _ _ (fun _ => ⟨QA.out.cell rfl, QA.out.cell rfl, QA.out.cell rfl, QB.out.cell rfl, QB.out.cell rfl, QB.out.cell rfl, LZ.out _ B.out, MZ.out _ B.out⟩) (fun hHeld => ?_)
      replace hHeld := hHeld (by first | rfl | trivial)
      clear hK K
      try simp only [Act.put, List.setIfInBounds_toArray, List.set_cons_zero, List.set_cons_succ]
      refine Reg.takeI 6 (v := ?_) rfl (by kernel_rfl) (by kernel_rfl) (by kernel_rfl) (by kernel_rfl) (fun _ _ _ h => h) (by rfl) ?_ hHeld ?_
      rotate_left 1
      · (intro w hSw; (try dsimp only at hSw); go_simp; try with_reducible rfl)
      try simp only [Act.put, List.setIfInBounds_toArray, List.set_cons_zero, List.set_cons_succ]
      refine Reg.takeI 7 (v := ?_) rfl (by kernel_rfl) (by kernel_rfl) (by kernel_rfl) (by kernel_rfl) (fun _ _ _ h => h) (by rfl) ?_ hHeld ?_
      rotate_left 1
      · (intro w hSw; (try dsimp only at hSw); go_simp; try with_reducible rfl)
      try simp only [Act.put, List.setIfInBounds_toArray, List.set_cons_zero, List.set_cons_succ]
      refine Reg.takeI 8 (v := ?_) rfl (by kernel_rfl) (by kernel_rfl) (by kernel_rfl) (by kernel_rfl) (fun _ _ _ h => h) (by rfl) ?_ hHeld ?_
      rotate_left 1
      · (intro w hSw; (try dsimp only at hSw); go_simp; try with_reducible rfl)
      try simp only [Act.put, List.setIfInBounds_toArray, List.set_cons_zero, List.set_cons_succ]
      refine Reg.takeI 9 (v := ?_) rfl (by kernel_rfl) (by kernel_rfl) (by kernel_rfl) (by kernel_rfl) (fun _ _ _ h => h) (by rfl) ?_ hHeld ?_
      rotate_left 1
      · (intro w hSw; (try dsimp only at hSw); go_simp; try with_reducible rfl)
      try simp only [Act.put, List.setIfInBounds_toArray, List.set_cons_zero, List.set_cons_succ]
      refine Reg.takeI 10 (v := ?_) rfl (by kernel_rfl) (by kernel_rfl) (by kernel_rfl) (by kernel_rfl) (fun _ _ _ h => h) (by rfl) ?_ hHeld ?_
      rotate_left 1
      · (intro w hSw; (try dsimp only at hSw); go_simp; try with_reducible rfl)
      try simp only [Act.put, List.setIfInBounds_toArray, List.set_cons_zero, List.set_cons_succ]
      refine Reg.takeI 11 (v := ?_) rfl (by kernel_rfl) (by kernel_rfl) (by kernel_rfl) (by kernel_rfl) (fun _ _ _ h => h) (by rfl) ?_ hHeld ?_
      rotate_left 1
      · (intro w hSw; (try dsimp only at hSw); go_simp; try with_reducible rfl)
      try simp only [Act.put, List.setIfInBounds_toArray, List.set_cons_zero, List.set_cons_succ]
      refine Reg.takeI 12 (v := ?_) rfl (by kernel_rfl) (by kernel_rfl) (by kernel_rfl) (by kernel_rfl) (fun _ _ _ h => h) (by rfl) ?_ hHeld ?_
      rotate_left 1
      · (intro w hSw; (try dsimp only at hSw); go_simp; try with_reducible rfl)
      try simp only [Act.put, List.setIfInBounds_toArray, List.set_cons_zero, List.set_cons_succ]
      refine Reg.takeI 14 (v := ?_) rfl (by kernel_rfl) (by kernel_rfl) (by kernel_rfl) (by kernel_rfl) (fun _ _ _ h => h) (by rfl) ?_ hHeld ?_
      rotate_left 1
      · (intro w hSw; (try dsimp only at hSw); go_simp; try with_reducible rfl)
      try simp only [Act.put, List.setIfInBounds_toArray, List.set_cons_zero, List.set_cons_succ]
      refine Reg.takeI 15 (v := ?_) rfl (by kernel_rfl) (by kernel_rfl) (by kernel_rfl) (by kernel_rfl) (fun _ _ _ h => h) (by rfl) ?_ hHeld ?_
      rotate_left 1
      · (intro w hSw; (try dsimp only at hSw); go_simp; try with_reducible rfl)
      try simp only [Act.put, List.setIfInBounds_toArray, List.set_cons_zero, List.set_cons_succ]
      refine Reg.takeI 16 (v := ?_) rfl (by kernel_rfl) (by kernel_rfl) (by kernel_rfl) (by kernel_rfl) (fun _ _ _ h => h) (by rfl) ?_ hHeld ?_
      rotate_left 1
      · (intro w hSw; (try dsimp only at hSw); go_simp; try with_reducible rfl)
      try simp only [Act.put, List.setIfInBounds_toArray, List.set_cons_zero, List.set_cons_succ]
      refine Reg.takeI 17 (v := ?_) rfl (by kernel_rfl) (by kernel_rfl) (by kernel_rfl) (by kernel_rfl) (fun _ _ _ h => h) (by rfl) ?_ hHeld ?_
      rotate_left 1
      · (intro w hSw; (try dsimp only at hSw); go_simp; try with_reducible rfl)
      try simp only [Act.put, List.setIfInBounds_toArray, List.set_cons_zero, List.set_cons_succ]
      refine Reg.takeI 18 (v := ?_) rfl (by kernel_rfl) (by kernel_rfl) (by kernel_rfl) (by kernel_rfl) (fun _ _ _ h => h) (by rfl) ?_ hHeld ?_
      rotate_left 1
      · (intro w hSw; (try dsimp only at hSw); go_simp; try with_reducible rfl)
      try simp only [Act.put, List.setIfInBounds_toArray, List.set_cons_zero, List.set_cons_succ]
      refine Reg.takeI 19 (v := ?_) rfl (by kernel_rfl) (by kernel_rfl) (by kernel_rfl) (by kernel_rfl) (fun _ _ _ h => h) (by rfl) ?_ hHeld ?_
      rotate_left 1
      · (intro w hSw; (try dsimp only at hSw); go_simp; try with_reducible rfl)
      try simp only [Act.put, List.setIfInBounds_toArray, List.set_cons_zero, List.set_cons_succ]
      refine Reg.oneI 13 rfl (by kernel_rfl) (by rfl) (fun K hK => ?_)
      go_simp
      go_at_call 39
      refine (TC.out _).mono ?_
      rintro e w8 ⟨rfl, k8⟩
      replace X := Lib.hid (X.out.below k8 X.out.lt)
      replace Y := Lib.hid (Y.out.below k8 Y.out.lt)
      replace QA := Lib.hid (QA.out.below k8 QA.out.lt)
      replace QB := Lib.hid (QB.out.below k8 QB.out.lt)
      replace B := Lib.hid (B.out.trans (k8.mono B.out.size))
      replace SS := Lib.hid (SS.out.keep k8)
      clear k8
      go_wp2_with fail
      refine hK.out _ _ (fun _ => ⟨QA.out.cell rfl, QA.out.cell rfl, QA.out.cell rfl, QB.out.cell rfl, QB.out.cell rfl, QB.out.cell rfl, LZ.out _ B.out, MZ.out _ B.out⟩) (fun hHeld => ?_)
      replace hHeld := hHeld (by first | rfl | trivial)
      clear hK K
      try simp only [Act.put, List.setIfInBounds_toArray, List.set_cons_zero, List.set_cons_succ]
      refine Reg.oneI 20 rfl (by kernel_rfl) (by rfl) (fun K hK => ?_)
      go_simp
      go_at_call 40
      refine (CC.out _).mono ?_
      rintro e w9 ⟨rfl, k9'⟩
      replace X := Lib.hid (X.out.below k9' X.out.lt)
      replace Y := Lib.hid (Y.out.below k9' Y.out.lt)
      replace QA := Lib.hid (QA.out.below k9' QA.out.lt)
      replace QB := Lib.hid (QB.out.below k9' QB.out.lt)
      replace B := Lib.hid (B.out.trans (k9'.mono B.out.size))
      replace SS := Lib.hid (SS.out.keep k9')
      clear k9'
      go_wp2_with fail
      refine hK.out _ _ (fun _ => ⟨QA.out.cell rfl, QA.out.cell rfl, QA.out.cell rfl, QB.out.cell rfl, QB.out.cell rfl, QB.out.cell rfl, LZ.out _ B.out, MZ.out _ B.out⟩) (fun hHeld => ?_)
      replace hHeld := hHeld (by first | rfl | trivial)
      clear hK K
      try simp only [Act.put, List.setIfInBounds_toArray, List.set_cons_zero, List.set_cons_succ]
      refine Reg.takeI 21 (v := ?_) rfl (by kernel_rfl) (by kernel_rfl) (by kernel_rfl) (by kernel_rfl) (fun _ _ _ h => h) (by rfl) ?_ hHeld ?_
      rotate_left 1
      · (intro w hSw; (try dsimp only at hSw); go_simp; try with_reducible rfl)
      try simp only [Act.put, List.setIfInBounds_toArray, List.set_cons_zero, List.set_cons_succ]
      refine Reg.takeI 22 (v := ?_) rfl (by kernel_rfl) (by kernel_rfl) (by kernel_rfl) (by kernel_rfl) (fun _ _ _ h => h) (by rfl) ?_ hHeld ?_
      rotate_left 1
      · (intro w hSw; (try dsimp only at hSw); go_simp; try with_reducible rfl)
      try simp only [Act.put, List.setIfInBounds_toArray, List.set_cons_zero, List.set_cons_succ]
      refine Reg.takeI 23 (v := ?_) rfl (by kernel_rfl) (by kernel_rfl) (by kernel_rfl) (by kernel_rfl) (fun _ _ _ h => h) (by rfl) ?_ hHeld ?_
      rotate_left 1
      · (intro w hSw; (try dsimp only at hSw); go_simp; try with_reducible rfl)
      try simp only [Act.put, List.setIfInBounds_toArray, List.set_cons_zero, List.set_cons_succ]
      refine Reg.takeI 24 (v := ?_) rfl (by kernel_rfl) (by kernel_rfl) (by kernel_rfl) (by kernel_rfl) (fun _ _ _ h => h) (by rfl) ?_ hHeld ?_
      rotate_left 1
      · (intro w hSw; (try dsimp only at hSw); go_simp; try with_reducible rfl)
      try simp only [Act.put, List.setIfInBounds_toArray, List.set_cons_zero, List.set_cons_succ]
      refine Reg.takeI 25 (v := ?_) rfl (by kernel_rfl) (by kernel_rfl) (by kernel_rfl) (by kernel_rfl) (fun _ _ _ h => h) (by rfl) ?_ hHeld ?_
      rotate_left 1
      · (intro w hSw; (try dsimp only at hSw); go_simp; try with_reducible rfl)
      try simp only [Act.put, List.setIfInBounds_toArray, List.set_cons_zero, List.set_cons_succ]
      refine Reg.takeI 26 (v := ?_) rfl (by kernel_rfl) (by kernel_rfl) (by kernel_rfl) (by kernel_rfl) (fun _ _ _ h => h) (by rfl) ?_ hHeld ?_
      rotate_left 1
      · (intro w hSw; (try dsimp only at hSw); go_simp; try with_reducible rfl)
      try simp only [Act.put, List.setIfInBounds_toArray, List.set_cons_zero, List.set_cons_succ]
      refine Reg.takeI 27 (v := ?_) rfl (by kernel_rfl) (by kernel_rfl) (by kernel_rfl) (by kernel_rfl) (fun _ _ _ h => h) (by rfl) ?_ hHeld ?_
      rotate_left 1
      · (intro w hSw; (try dsimp only at hSw); go_simp; try with_reducible rfl)
      try simp only [Act.put, List.setIfInBounds_toArray, List.set_cons_zero, List.set_cons_succ]
      refine Reg.takeI 28 (v := ?_) rfl (by kernel_rfl) (by kernel_rfl) (by kernel_rfl) (by kernel_rfl) (fun _ _ _ h => h) (by rfl) ?_ hHeld ?_
      rotate_left 1
      · (intro w hSw; (try dsimp only at hSw); go_simp; try with_reducible rfl)
      try simp only [Act.put, List.setIfInBounds_toArray, List.set_cons_zero, List.set_cons_succ]
      refine Reg.oneI 29 rfl (by kernel_rfl) (by rfl) (fun K hK => ?_)
      go_simp
      go_at_call 38
      refine (vsame_calls l2 m2 _ _ _ _ _ (L.out.keep B.out) (M.out.keep B.out) (by omega) (by omega)).mono ?_
      rintro e w10 ⟨⟨r10, hr10, rfl⟩, k10⟩
      obtain rfl : r10 = false := by
        cases r10
        · rfl
        · exact absurd (hr10.1 rfl) HLM.out
      clear hr10
      replace X := Lib.hid (X.out.below k10 X.out.lt)
      replace Y := Lib.hid (Y.out.below k10 Y.out.lt)
      replace QA := Lib.hid (QA.out.below k10 QA.out.lt)
      replace QB := Lib.hid (QB.out.below k10 QB.out.lt)
      replace B := Lib.hid (B.out.trans (k10.mono B.out.size))
      replace SS := Lib.hid (SS.out.keep k10)
      clear k10
      go_wp2_with fail
      refine hK.out _ _ (fun _ => ⟨QA.out.cell rfl, QA.out.cell rfl, QA.out.cell rfl, QB.out.cell rfl, QB.out.cell rfl, QB.out.cell rfl, LZ.out _ B.out, MZ.out _ B.out⟩) (fun hHeld => ?_)
      replace hHeld := hHeld (by first | rfl | trivial)
      clear hK K
      try simp only [Act.put, List.setIfInBounds_toArray, List.set_cons_zero, List.set_cons_succ]
      refine Reg.takeI 30 (v := ?_) rfl (by kernel_rfl) (by kernel_rfl) (by kernel_rfl) (by kernel_rfl) (fun _ _ _ h => h) (by rfl) ?_ hHeld ?_
      rotate_left 1
      · (intro w hSw; (try dsimp only at hSw); go_simp; try with_reducible rfl)
      try simp only [Act.put, List.setIfInBounds_toArray, List.set_cons_zero, List.set_cons_succ]
      refine Reg.takeI 31 (v := ?_) rfl (by kernel_rfl) (by kernel_rfl) (by kernel_rfl) (by kernel_rfl) (fun _ _ _ h => h) (by rfl) ?_ hHeld ?_
      rotate_left 1
      · (intro w hSw; (try dsimp only at hSw); go_simp; try with_reducible rfl)
      try simp only [Act.put, List.setIfInBounds_toArray, List.set_cons_zero, List.set_cons_succ]
      refine Reg.doneI (by kernel_rfl) ?_
      have FC := Lib.hid (one_calls K1 V1 OF.out)
      have q0 := QA.out.cell (i := 0) rfl
      have q1 := QA.out.cell (i := 1) rfl
      have q2 := QA.out.cell (i := 2) rfl
      go_wp2_with fail
      refine (FC.out _ _ _ (es_one (Wide.new_at rfl))).mono ?_
      rintro e w11 ⟨rfl, k11⟩
      have B11 := B.out.alloc B.out.size (.cells #[.string K1, .string V1, .bool false] 70)
      replace B := Lib.hid (B11.trans (k11.mono B11.size))
      clear k11 B11 q0 q1 q2
      go_wp2_with fail
      go_ret
      exact ⟨rfl, B.out⟩
    · have HLM := Lib.hid hlm
      have nv : ¬ V1.toList = V2.toList := fun h => hvv (toList_inj.1 h)
      clear hlm hvv
      refine Reg.start (fun w' => w'.cell? ⟨qa, 0, none⟩ = some (.string K1) ∧ w'.cell? ⟨qa, 1, none⟩ = some (.string V1) ∧ w'.cell? ⟨qa, 2, none⟩ = some (.bool false) ∧ w'.cell? ⟨qb, 0, none⟩ = some (.string K1) ∧ w'.cell? ⟨qb, 1, none⟩ = some (.string V2) ∧ w'.cell? ⟨qb, 2, none⟩ = some (.bool false) ∧ (w'.cell? ad = some (.int .i64 k0) ∧ w'.cell? ⟨ad.block, ad.off + 1, none⟩ = some (.int .i64 n0) ∧ w'.cell? ⟨ad.block, ad.off + 2, none⟩ = some (.string s0)) ∧ (w'.cell? bd = some (.int .i64 k9) ∧ w'.cell? ⟨bd.block, bd.off + 1, none⟩ = some (.int .i64 n9) ∧ w'.cell? ⟨bd.block, bd.off + 2, none⟩ = some (.string s9))) (fun i => false) (by kernel_rfl) ⟨QA.out.cell rfl, QA.out.cell rfl, QA.out.cell rfl, QB.out.cell rfl, QB.out.cell rfl, QB.out.cell rfl, LZ.out _ B.out, MZ.out _ B.out⟩ (fun hHeld => ?_)
      generalize wc.drew = wd at *
      refine Reg.takeI 0 (v := ?_) rfl (by kernel_rfl) (by kernel_rfl) (by kernel_rfl) (by kernel_rfl) (fun _ _ _ h => h) (by rfl) ?_ hHeld ?_
      rotate_left 1
      · (intro w hSw; (try dsimp only at hSw); go_simp; try with_reducible rfl)
      try simp only [Act.put, List.setIfInBounds_toArray, List.set_cons_zero, List.set_cons_succ]
      refine Reg.takeI 1 (v := ?_) rfl (by kernel_rfl) (by kernel_rfl) (by kernel_rfl) (by kernel_rfl) (fun _ _ _ h => h) (by rfl) ?_ hHeld ?_
      rotate_left 1
      · (intro w hSw; (try dsimp only at hSw); go_simp; try with_reducible rfl)
      try simp only [Act.put, List.setIfInBounds_toArray, List.set_cons_zero, List.set_cons_succ]
      refine Reg.takeI 2 (v := ?_) rfl (by kernel_rfl) (by kernel_rfl) (by kernel_rfl) (by kernel_rfl) (fun _ _ _ h => h) (by rfl) ?_ hHeld ?_
      rotate_left 1
      · (intro w hSw; (try dsimp only at hSw); go_simp; try with_reducible rfl)
      try simp only [Act.put, List.setIfInBounds_toArray, List.set_cons_zero, List.set_cons_succ]
      refine Reg.takeI 3 (v := ?_) rfl (by kernel_rfl) (by kernel_rfl) (by kernel_rfl) (by kernel_rfl) (fun _ _ _ h => h) (by rfl) ?_ hHeld ?_
      rotate_left 1
      · (intro w hSw; (try dsimp only at hSw); go_simp; try with_reducible rfl)
      try simp only [Act.put, List.setIfInBounds_toArray, List.set_cons_zero, List.set_cons_succ]
      refine Reg.takeI 4 (v := ?_) rfl (by kernel_rfl) (by kernel_rfl) (by kernel_rfl) (by kernel_rfl) (fun _ _ _ h => h) (by rfl) ?_ hHeld ?_
      rotate_left 1
      · (intro w hSw; (try dsimp only at hSw); go_simp; try with_reducible rfl)
      try simp only [Act.put, List.setIfInBounds_toArray, List.set_cons_zero, List.set_cons_succ]
      refine Reg.oneI 5 rfl (by kernel_rfl) (by rfl) (fun K hK => ?_)
      go_simp
      go_at_call 38
      refine (vsame_calls l2 l2 _ _ _ _ _ SS.out (L.out.keep B.out) (by omega) (by omega)).mono ?_
      rintro e w7 ⟨⟨r7, hr7, rfl⟩, k7⟩
      obtain rfl := hr7.2 rfl
      clear hr7
      replace X := Lib.hid (X.out.below k7 X.out.lt)
      replace Y := Lib.hid (Y.out.below k7 Y.out.lt)
      replace QA := Lib.hid (QA.out.below k7 QA.out.lt)
      replace QB := Lib.hid (QB.out.below k7 QB.out.lt)
      replace B := Lib.hid (B.out.trans (k7.mono B.out.size))
      replace SS := Lib.hid (SS.out.keep k7)
      clear k7
      go_wp2_with fail
      refine hK.out _ _ (fun _ => ⟨QA.out.cell rfl, QA.out.cell rfl, QA.out.cell rfl, QB.out.cell rfl, QB.out.cell rfl, QB.out.cell rfl, LZ.out _ B.out, MZ.out _ B.out⟩) (fun hHeld => ?_)
      replace hHeld := hHeld (by first | rfl | trivial)
      clear hK K
      try simp only [Act.put, List.setIfInBounds_toArray, List.set_cons_zero, List.set_cons_succ]
      refine Reg.takeI 6 (v := ?_) rfl (by kernel_rfl) (by kernel_rfl) (by kernel_rfl) (by kernel_rfl) (fun _ _ _ h => h) (by rfl) ?_ hHeld ?_
      rotate_left 1
      · (intro w hSw; (try dsimp only at hSw); go_simp; try with_reducible rfl)
      try simp only [Act.put, List.setIfInBounds_toArray, List.set_cons_zero, List.set_cons_succ]
      refine Reg.takeI 7 (v := ?_) rfl (by kernel_rfl) (by kernel_rfl) (by kernel_rfl) (by kernel_rfl) (fun _ _ _ h => h) (by rfl) ?_ hHeld ?_
      rotate_left 1
      · (intro w hSw; (try dsimp only at hSw); go_simp; try with_reducible rfl)
      try simp only [Act.put, List.setIfInBounds_toArray, List.set_cons_zero, List.set_cons_succ]
      refine Reg.takeI 8 (v := ?_) rfl (by kernel_rfl) (by kernel_rfl) (by kernel_rfl) (by kernel_rfl) (fun _ _ _ h => h) (by rfl) ?_ hHeld ?_
      rotate_left 1
      · (intro w hSw; (try dsimp only at hSw); go_simp; try with_reducible rfl)
      try simp only [Act.put, List.setIfInBounds_toArray, List.set_cons_zero, List.set_cons_succ]
      refine Reg.takeI 9 (v := ?_) rfl (by kernel_rfl) (by kernel_rfl) (by kernel_rfl) (by kernel_rfl) (fun _ _ _ h => h) (by rfl) ?_ hHeld ?_
      rotate_left 1
      · (intro w hSw; (try dsimp only at hSw); go_simp; try with_reducible rfl)
      try simp only [Act.put, List.setIfInBounds_toArray, List.set_cons_zero, List.set_cons_succ]
      refine Reg.takeI 10 (v := ?_) rfl (by kernel_rfl) (by kernel_rfl) (by kernel_rfl) (by kernel_rfl) (fun _ _ _ h => h) (by rfl) ?_ hHeld ?_
      rotate_left 1
      · (intro w hSw; (try dsimp only at hSw); go_simp; try with_reducible rfl)
      try simp only [Act.put, List.setIfInBounds_toArray, List.set_cons_zero, List.set_cons_succ]
      refine Reg.takeI 11 (v := ?_) rfl (by kernel_rfl) (by kernel_rfl) (by kernel_rfl) (by kernel_rfl) (fun _ _ _ h => h) (by rfl) ?_ hHeld ?_
      rotate_left 1
      · (intro w hSw; (try dsimp only at hSw); go_simp; try with_reducible rfl)
      try simp only [Act.put, List.setIfInBounds_toArray, List.set_cons_zero, List.set_cons_succ]
      refine Reg.takeI 12 (v := ?_) rfl (by kernel_rfl) (by kernel_rfl) (by kernel_rfl) (by kernel_rfl) (fun _ _ _ h => h) (by rfl) ?_ hHeld ?_
      rotate_left 1
      · (intro w hSw; (try dsimp only at hSw); go_simp; try with_reducible rfl)
      try simp only [Act.put, List.setIfInBounds_toArray, List.set_cons_zero, List.set_cons_succ]
      refine Reg.takeI 14 (v := ?_) rfl (by kernel_rfl) (by kernel_rfl) (by kernel_rfl) (by kernel_rfl) (fun _ _ _ h => h) (by rfl) ?_ hHeld ?_
      rotate_left 1
      · (intro w hSw; (try dsimp only at hSw); go_simp; try with_reducible rfl)
      try simp only [Act.put, List.setIfInBounds_toArray, List.set_cons_zero, List.set_cons_succ]
      refine Reg.takeI 15 (v := ?_) rfl (by kernel_rfl) (by kernel_rfl) (by kernel_rfl) (by kernel_rfl) (fun _ _ _ h => h) (by rfl) ?_ hHeld ?_
      rotate_left 1
      · (intro w hSw; (try dsimp only at hSw); go_simp; try with_reducible rfl)
      try simp only [Act.put, List.setIfInBounds_toArray, List.set_cons_zero, List.set_cons_succ]
      refine Reg.takeI 16 (v := ?_) rfl (by kernel_rfl) (by kernel_rfl) (by kernel_rfl) (by kernel_rfl) (fun _ _ _ h => h) (by rfl) ?_ hHeld ?_
      rotate_left 1
      · (intro w hSw; (try dsimp only at hSw); go_simp; try with_reducible rfl)
      try simp only [Act.put, List.setIfInBounds_toArray, List.set_cons_zero, List.set_cons_succ]
      refine Reg.takeI 17 (v := ?_) rfl (by kernel_rfl) (by kernel_rfl) (by kernel_rfl) (by kernel_rfl) (fun _ _ _ h => h) (by rfl) ?_ hHeld ?_
      rotate_left 1
      · (intro w hSw; (try dsimp only at hSw); go_simp; try with_reducible rfl)
      try simp only [Act.put, List.setIfInBounds_toArray, List.set_cons_zero, List.set_cons_succ]
      refine Reg.takeI 18 (v := ?_) rfl (by kernel_rfl) (by kernel_rfl) (by kernel_rfl) (by kernel_rfl) (fun _ _ _ h => h) (by rfl) ?_ hHeld ?_
      rotate_left 1
      · (intro w hSw; (try dsimp only at hSw); go_simp; try with_reducible rfl)
      try simp only [Act.put, List.setIfInBounds_toArray, List.set_cons_zero, List.set_cons_succ]
      refine Reg.takeI 19 (v := ?_) rfl (by kernel_rfl) (by kernel_rfl) (by kernel_rfl) (by kernel_rfl) (fun _ _ _ h => h) (by rfl) ?_ hHeld ?_
      rotate_left 1
      · (intro w hSw; (try dsimp only at hSw); go_simp; try with_reducible rfl)
      try simp only [Act.put, List.setIfInBounds_toArray, List.set_cons_zero, List.set_cons_succ]
      refine Reg.oneI 13 rfl (by kernel_rfl) (by rfl) (fun K hK => ?_)
      go_simp
      go_at_call 39
      refine (TC.out _).mono ?_
      rintro e w8 ⟨rfl, k8⟩
      replace X := Lib.hid (X.out.below k8 X.out.lt)
      replace Y := Lib.hid (Y.out.below k8 Y.out.lt)
      replace QA := Lib.hid (QA.out.below k8 QA.out.lt)
      replace QB := Lib.hid (QB.out.below k8 QB.out.lt)
      replace B := Lib.hid (B.out.trans (k8.mono B.out.size))
      replace SS := Lib.hid (SS.out.keep k8)
      clear k8
      go_wp2_with fail
      refine hK.out _ _ (fun _ => ⟨QA.out.cell rfl, QA.out.cell rfl, QA.out.cell rfl, QB.out.cell rfl, QB.out.cell rfl, QB.out.cell rfl, LZ.out _ B.out, MZ.out _ B.out⟩) (fun hHeld => ?_)
      replace hHeld := hHeld (by first | rfl | trivial)
      clear hK K
      try simp only [Act.put, List.setIfInBounds_toArray, List.set_cons_zero, List.set_cons_succ]
      refine Reg.oneI 20 rfl (by kernel_rfl) (by rfl) (fun K hK => ?_)
      go_simp
      go_at_call 40
      refine (CC.out _).mono ?_
      rintro e w9 ⟨rfl, k9'⟩
      replace X := Lib.hid (X.out.below k9' X.out.lt)
      replace Y := Lib.hid (Y.out.below k9' Y.out.lt)
      replace QA := Lib.hid (QA.out.below k9' QA.out.lt)
      replace QB := Lib.hid (QB.out.below k9' QB.out.lt)
      replace B := Lib.hid (B.out.trans (k9'.mono B.out.size))
      replace SS := Lib.hid (SS.out.keep k9')
      clear k9'
      go_wp2_with fail
      refine hK.out _ _ (fun _ => ⟨QA.out.cell rfl, QA.out.cell rfl, QA.out.cell rfl, QB.out.cell rfl, QB.out.cell rfl, QB.out.cell rfl, LZ.out _ B.out, MZ.out _ B.out⟩) (fun hHeld => ?_)
      replace hHeld := hHeld (by first | rfl | trivial)
      clear hK K
      try simp only [Act.put, List.setIfInBounds_toArray, List.set_cons_zero, List.set_cons_succ]
      refine Reg.takeI 21 (v := ?_) rfl (by kernel_rfl) (by kernel_rfl) (by kernel_rfl) (by kernel_rfl) (fun _ _ _ h => h) (by rfl) ?_ hHeld ?_
      rotate_left 1
      · (intro w hSw; (try dsimp only at hSw); go_simp; try with_reducible rfl)
      try simp only [Act.put, List.setIfInBounds_toArray, List.set_cons_zero, List.set_cons_succ]
      refine Reg.takeI 22 (v := ?_) rfl (by kernel_rfl) (by kernel_rfl) (by kernel_rfl) (by kernel_rfl) (fun _ _ _ h => h) (by rfl) ?_ hHeld ?_
      rotate_left 1
      · (intro w hSw; (try dsimp only at hSw); go_simp; try with_reducible rfl)
      try simp only [Act.put, List.setIfInBounds_toArray, List.set_cons_zero, List.set_cons_succ]
      refine Reg.takeI 23 (v := ?_) rfl (by kernel_rfl) (by kernel_rfl) (by kernel_rfl) (by kernel_rfl) (fun _ _ _ h => h) (by rfl) ?_ hHeld ?_
      rotate_left 1
      · (intro w hSw; (try dsimp only at hSw); go_simp; try with_reducible rfl)
      try simp only [Act.put, List.setIfInBounds_toArray, List.set_cons_zero, List.set_cons_succ]
      refine Reg.takeI 24 (v := ?_) rfl (by kernel_rfl) (by kernel_rfl) (by kernel_rfl) (by kernel_rfl) (fun _ _ _ h => h) (by rfl) ?_ hHeld ?_
      rotate_left 1
      · (intro w hSw; (try dsimp only at hSw); go_simp; try with_reducible rfl)
      try simp only [Act.put, List.setIfInBounds_toArray, List.set_cons_zero, List.set_cons_succ]
      refine Reg.takeI 25 (v := ?_) rfl (by kernel_rfl) (by kernel_rfl) (by kernel_rfl) (by kernel_rfl) (fun _ _ _ h => h) (by rfl) ?_ hHeld ?_
      rotate_left 1
      · (intro w hSw; (try dsimp only at hSw); go_simp; try with_reducible rfl)
      try simp only [Act.put, List.setIfInBounds_toArray, List.set_cons_zero, List.set_cons_succ]
      refine Reg.takeI 26 (v := ?_) rfl (by kernel_rfl) (by kernel_rfl) (by kernel_rfl) (by kernel_rfl) (fun _ _ _ h => h) (by rfl) ?_ hHeld ?_
      rotate_left 1
      · (intro w hSw; (try dsimp only at hSw); go_simp; try with_reducible rfl)
      try simp only [Act.put, List.setIfInBounds_toArray, List.set_cons_zero, List.set_cons_succ]
      refine Reg.takeI 27 (v := ?_) rfl (by kernel_rfl) (by kernel_rfl) (by kernel_rfl) (by kernel_rfl) (fun _ _ _ h => h) (by rfl) ?_ hHeld ?_
      rotate_left 1
      · (intro w hSw; (try dsimp only at hSw); go_simp; try with_reducible rfl)
      try simp only [Act.put, List.setIfInBounds_toArray, List.set_cons_zero, List.set_cons_succ]
      refine Reg.takeI 28 (v := ?_) rfl (by kernel_rfl) (by kernel_rfl) (by kernel_rfl) (by kernel_rfl) (fun _ _ _ h => h) (by rfl) ?_ hHeld ?_
      rotate_left 1
      · (intro w hSw; (try dsimp only at hSw); go_simp; try with_reducible rfl)
      try simp only [Act.put, List.setIfInBounds_toArray, List.set_cons_zero, List.set_cons_succ]
      refine Reg.oneI 29 rfl (by kernel_rfl) (by rfl) (fun K hK => ?_)
      go_simp
      go_at_call 38
      refine (vsame_calls l2 m2 _ _ _ _ _ (L.out.keep B.out) (M.out.keep B.out) (by omega) (by omega)).mono ?_
      rintro e w10 ⟨⟨r10, hr10, rfl⟩, k10⟩
      obtain rfl : r10 = false := by
        cases r10
        · rfl
        · exact absurd (hr10.1 rfl) HLM.out
      clear hr10
      replace X := Lib.hid (X.out.below k10 X.out.lt)
      replace Y := Lib.hid (Y.out.below k10 Y.out.lt)
      replace QA := Lib.hid (QA.out.below k10 QA.out.lt)
      replace QB := Lib.hid (QB.out.below k10 QB.out.lt)
      replace B := Lib.hid (B.out.trans (k10.mono B.out.size))
      replace SS := Lib.hid (SS.out.keep k10)
      clear k10
      go_wp2_with fail
      refine hK.out _ _ (fun _ => ⟨QA.out.cell rfl, QA.out.cell rfl, QA.out.cell rfl, QB.out.cell rfl, QB.out.cell rfl, QB.out.cell rfl, LZ.out _ B.out, MZ.out _ B.out⟩) (fun hHeld => ?_)
      replace hHeld := hHeld (by first | rfl | trivial)
      clear hK K
      try simp only [Act.put, List.setIfInBounds_toArray, List.set_cons_zero, List.set_cons_succ]
      refine Reg.takeI 30 (v := ?_) rfl (by kernel_rfl) (by kernel_rfl) (by kernel_rfl) (by kernel_rfl) (fun _ _ _ h => h) (by rfl) ?_ hHeld ?_
      rotate_left 1
      · (intro w hSw; (try dsimp only at hSw); go_simp; try with_reducible rfl)
      try simp only [Act.put, List.setIfInBounds_toArray, List.set_cons_zero, List.set_cons_succ]
      refine Reg.takeI 31 (v := ?_) rfl (by kernel_rfl) (by kernel_rfl) (by kernel_rfl) (by kernel_rfl) (fun _ _ _ h => h) (by rfl) ?_ hHeld ?_
      rotate_left 1
      · (intro w hSw; (try dsimp only at hSw); go_simp; try with_reducible rfl)
      try simp only [Act.put, List.setIfInBounds_toArray, List.set_cons_zero, List.set_cons_succ]
      refine Reg.doneI (by kernel_rfl) ?_
      have FC := Lib.hid (one_calls K1 V1 OF.out)
      have q0 := QA.out.cell (i := 0) rfl
      have q1 := QA.out.cell (i := 1) rfl
      have q2 := QA.out.cell (i := 2) rfl
      go_wp2_with fail
      refine (FC.out _ _ _ (es_one (Wide.new_at rfl))).mono ?_
      rintro e w11 ⟨rfl, k11⟩
      have B11 := B.out.alloc B.out.size (.cells #[.string K1, .string V1, .bool false] 70)
      replace B := Lib.hid (B11.trans (k11.mono B11.size))
      clear k11 B11 q0 q1 q2
      go_wp2_with fail
      go_ret
      exact ⟨rfl, B.out⟩
  | some r =>
    obtain ⟨qa, qcap, rfl, hR, k1⟩ := hrr
    replace X := Lib.hid (X.out.below k1 X.out.lt)
    replace Y := Lib.hid (Y.out.below k1 Y.out.lt)
    replace B := Lib.hid (B.out.trans (k1.mono B.out.size))
    clear k1
    obtain ⟨e1, e2, e3, e4⟩ := ent_read hO
    have hrl := ent_is e1
    have EC := Lib.hid (entry_calls p n r qa qcap _ (H.out.keep B.out) hR e4 (by have := hrl.2.2.1; omega) (ent_or GO.out))
    rw [e1] at EC
    have E1 : EntPost (some r) = fun e => e = .returned (.tuple #[.agg #[.string k, .string v, .bool false], .int .i64 0]) := by unfold EntPost entV; simp only; rw [e2, e3]
    rw [E1] at EC
    have x0 := X.out.cell (i := 0) rfl
    have x1 := X.out.cell (i := 1) rfl
    clear e1 e2 e3 e4 hrl E1 hR
    go_wp2_with fail
    refine EC.out.mono ?_
    rintro e w6 ⟨rfl, k1⟩
    replace X := Lib.hid ((X.out.below k1 X.out.lt).alloc (.cells #[.string k, .string v, .bool false] 70))
    replace Y := Lib.hid ((Y.out.below k1 Y.out.lt).alloc (.cells #[.string k, .string v, .bool false] 70))
    have B2 := B.out.trans (k1.mono B.out.size)
    replace B := Lib.hid (B2.alloc B2.size (.cells #[.string k, .string v, .bool false] 70))
    have Q := Lib.hid (Wide.new_at rfl : Row (w6.alloc (.cells #[.string k, .string v, .bool false] 70)) w6.heap.size 70 [.string k, .string v, .bool false])
    clear k1 x0 x1 B2 EC
    have q0 := Q.out.cell (i := 0) rfl
    have q1 := Q.out.cell (i := 1) rfl
    have y0 := Y.out.cell (i := 0) rfl
    have y1 := Y.out.cell (i := 1) rfl
    have x0 := X.out.cell (i := 0) rfl
    have x1 := X.out.cell (i := 1) rfl
    go_wp2_with fail
    clear q0 q1 y0 y1
    clear x0 x1
    refine (entry_calls p n l ra rcap _ (H.out.keep B.out) (L.out.keep B.out) FL.out hl (ent_or GO.out)).mono ?_
    rintro e wa ⟨he, k1⟩
    obtain ⟨ka, va, ca, rfl, hA⟩ := ent_any he
    replace X := Lib.hid ((X.out.below k1 X.out.lt).alloc (.cells #[.string ka, .string va, .bool false] 70))
    replace Y := Lib.hid ((Y.out.below k1 Y.out.lt).alloc (.cells #[.string ka, .string va, .bool false] 70))
    have B3 := B.out.trans (k1.mono B.out.size)
    replace B := Lib.hid (B3.alloc B3.size (.cells #[.string ka, .string va, .bool false] 70))
    have QA := Lib.hid (Wide.new_at rfl : Row (wa.alloc (.cells #[.string ka, .string va, .bool false] 70)) wa.heap.size 70 [.string ka, .string va, .bool false])
    clear k1 B3 he
    have x0 := X.out.cell (i := 0) rfl
    have x1 := X.out.cell (i := 1) rfl
    go_wp2_with fail
    clear x0 x1
    refine (entry_calls p n m rb rcap2 _ (H.out.keep B.out) (M.out.keep B.out) FM.out hm (ent_or GO.out)).mono ?_
    rintro e wb ⟨he, k1⟩
    obtain ⟨kb, vb, cb, rfl, hB⟩ := ent_any he
    replace X := Lib.hid ((X.out.below k1 X.out.lt).alloc (.cells #[.string kb, .string vb, .bool false] 70))
    replace Y := Lib.hid ((Y.out.below k1 Y.out.lt).alloc (.cells #[.string kb, .string vb, .bool false] 70))
    replace QA := Lib.hid ((QA.out.below k1 QA.out.lt).alloc (.cells #[.string kb, .string vb, .bool false] 70))
    have B3 := B.out.trans (k1.mono B.out.size)
    replace B := Lib.hid (B3.alloc B3.size (.cells #[.string kb, .string vb, .bool false] 70))
    have QB := Lib.hid (Wide.new_at rfl : Row (wb.alloc (.cells #[.string kb, .string vb, .bool false] 70)) wb.heap.size 70 [.string kb, .string vb, .bool false])
    clear k1 B3 he
    have x0 := X.out.cell (i := 0) rfl
    have x1 := X.out.cell (i := 1) rfl
    rcases hA with ⟨rfl, hA⟩ | ⟨rfl, l2, hA, rfl, rfl⟩
    · go_wp2_with fail
      go_ret
      exact ⟨rfl, B.out⟩
    rcases hB with ⟨rfl, hB⟩ | ⟨rfl, m2, hB, rfl, rfl⟩
    · go_wp2_with fail
      go_ret
      exact ⟨rfl, B.out⟩
    obtain ⟨rfl, pa, la4, la1, ga⟩ := ent_is hA
    obtain ⟨rfl, pb, lb4, lb1, gb⟩ := ent_is hB
    have RE := read_ent FL.out hA
    have kz := rowKey_size ga la1
    have vz : (bs (rowVal l2)).size ≤ 60 := by have := codes_length ga; rw [bs_size, rowVal, List.length_drop]; omega
    have RC := Lib.hid (prow_calls p n (bs (rowKey l2)) (bs (rowVal l2)) false _ (H.out.keep B.out) (by omega) vz)
    rw [RE] at RC
    have a0 := QA.out.cell (i := 0) rfl
    have a1 := QA.out.cell (i := 1) rfl
    have a2 := QA.out.cell (i := 2) rfl
    have GA := Lib.hid ga
    have GB := Lib.hid gb
    clear kz vz ga gb hA hB RE
    go_wp2_with fail
    refine RC.out.mono ?_
    rintro e wc ⟨sa, scap, rfl, hS, k1⟩
    replace X := Lib.hid (X.out.below k1 X.out.lt)
    replace Y := Lib.hid (Y.out.below k1 Y.out.lt)
    replace QA := Lib.hid (QA.out.below k1 QA.out.lt)
    replace QB := Lib.hid (QB.out.below k1 QB.out.lt)
    replace B := Lib.hid (B.out.trans (k1.mono B.out.size))
    have SS := Lib.hid hS
    clear k1 x0 x1 a0 a1 a2 hS RC
    go_wp2_with fail
    have hlz : ∃ ad, ra = some ad ∧ ∀ w', Below w.heap.size w w' → w'.cell? (ad.add (0 * 3)) = some (.int .i64 l2[0].k) ∧ w'.cell? ⟨(ad.add (0 * 3)).block, (ad.add (0 * 3)).off + 1, none⟩ = some (.int .i64 l2[0].n) ∧ w'.cell? ⟨(ad.add (0 * 3)).block, (ad.add (0 * 3)).off + 2, none⟩ = some (.string l2[0].s) := by
      obtain ⟨ad, e, _, h⟩ := L.out 0 (by omega)
      exact ⟨ad, e, h⟩
    have hmz : ∃ ad, rb = some ad ∧ ∀ w', Below w.heap.size w w' → w'.cell? (ad.add (0 * 3)) = some (.int .i64 m2[0].k) ∧ w'.cell? ⟨(ad.add (0 * 3)).block, (ad.add (0 * 3)).off + 1, none⟩ = some (.int .i64 m2[0].n) ∧ w'.cell? ⟨(ad.add (0 * 3)).block, (ad.add (0 * 3)).off + 2, none⟩ = some (.string m2[0].s) := by
      obtain ⟨ad, e, _, h⟩ := M.out 0 (by omega)
      exact ⟨ad, e, h⟩
    obtain ⟨ad, rfl, hlz⟩ := hlz
    obtain ⟨bd, rfl, hmz⟩ := hmz
    have LZ := Lib.hid hlz
    have MZ := Lib.hid hmz
    clear hlz hmz
    have i1 : (0 : Int) < (l2.length : Int) := by omega
    have i2 : (0 : Int) < (m2.length : Int) := by omega
    replace X := Lib.hid X.out.drew
    replace Y := Lib.hid Y.out.drew
    replace QA := Lib.hid QA.out.drew
    replace QB := Lib.hid QB.out.drew
    replace B := Lib.hid B.out.drew
    replace SS := Lib.hid (SS.out.keep (Below.refl _ _).drew)
    obtain ⟨K1, hK1⟩ : ∃ K, bs (rowKey l2) = K := ⟨_, rfl⟩
    obtain ⟨K2, hK2⟩ : ∃ K, bs (rowKey m2) = K := ⟨_, rfl⟩
    obtain ⟨V1, hV1⟩ : ∃ K, bs (rowVal l2) = K := ⟨_, rfl⟩
    obtain ⟨V2, hV2⟩ : ∃ K, bs (rowVal m2) = K := ⟨_, rfl⟩
    rw [hK1, hV1] at QA
    rw [hK2, hV2] at QB
    obtain ⟨k0, hk0⟩ : ∃ K, l2[0].k = K := ⟨_, rfl⟩
    obtain ⟨n0, hn0⟩ : ∃ K, l2[0].n = K := ⟨_, rfl⟩
    obtain ⟨s0, hs0⟩ : ∃ K, l2[0].s = K := ⟨_, rfl⟩
    obtain ⟨k9, hk9⟩ : ∃ K, m2[0].k = K := ⟨_, rfl⟩
    obtain ⟨n9, hn9⟩ : ∃ K, m2[0].n = K := ⟨_, rfl⟩
    obtain ⟨s9, hs9⟩ : ∃ K, m2[0].s = K := ⟨_, rfl⟩
    rw [hk0, hn0, hs0] at LZ
    rw [hk9, hn9, hs9] at MZ
    have ea : ad.add (0 * 3) = ad := by unfold Addr.add; simp
    have eb : bd.add (0 * 3) = bd := by unfold Addr.add; simp
    rw [ea] at LZ
    rw [eb] at MZ
    clear ea eb
    have j1 : 0 < l2.length := by omega
    have j2 : 0 < m2.length := by omega
    have kz1 := Lib.hid (rowKey_size GA.out la1)
    have kz2 := Lib.hid (rowKey_size GB.out lb1)
    have OF := Lib.hid (one_fits GA.out la1 la4)
    rw [hK1] at kz1
    rw [hK2] at kz2
    rw [hK1, hV1] at OF
    have hco : cmpB K1.data.toList K2.data.toList = cmpV ⟨k0, n0, s0⟩ ⟨k9, n9, s9⟩ := by
      obtain ⟨v, rv, rfl⟩ := List.exists_cons_of_length_pos (show 0 < l2.length by omega)
      obtain ⟨u, ru, rfl⟩ := List.exists_cons_of_length_pos (show 0 < m2.length by omega)
      obtain ⟨vk, vn, vs⟩ := v
      obtain ⟨uk, un, us⟩ := u
      simp only [List.getElem_cons_zero] at hk0 hn0 hs0 hk9 hn9 hs9
      rw [← hk0, ← hn0, ← hs0, ← hk9, ← hn9, ← hs9, ← hK1, ← hK2, bs_data, bs_data, key_order (GA.out _ List.mem_cons_self) (GB.out _ List.mem_cons_self) (FL.out _ List.mem_cons_self) (FM.out _ List.mem_cons_self)]
      unfold cmpV
      rw [if_pos ⟨GA.out _ List.mem_cons_self, GB.out _ List.mem_cons_self⟩]
    have TC := Lib.hid (fun wx => texts_calls K1 K2 wx (by rw [kz1.out]; omega) (by rw [kz2.out]; omega))
    have CC := Lib.hid (fun wx => refcompare_calls ⟨k0, n0, s0⟩ ⟨k9, n9, s9⟩ wx)
    rw [hco] at TC
    obtain ⟨cc, hcc⟩ : ∃ c, cmpV ⟨k0, n0, s0⟩ ⟨k9, n9, s9⟩ = c := ⟨_, rfl⟩
    rw [hcc] at TC CC
    have hw3 : (l2 = m2 ∧ K1 = K2 ∧ V1 = V2) ∨ (¬ l2 = m2 ∧ ¬ K1 = K2) ∨ (¬ l2 = m2 ∧ K1 = K2 ∧ ¬ V1 = V2) := by
      by_cases hlm : l2 = m2
      · exact .inl ⟨hlm, by rw [← hK1, ← hK2, hlm], by rw [← hV1, ← hV2, hlm]⟩
      · by_cases hkk : K1 = K2
        · refine .inr (.inr ⟨hlm, hkk, fun hvv => hlm ?_⟩)
          rw [← hK1, ← hK2] at hkk
          rw [← hV1, ← hV2] at hvv
          exact entry_inj (fun v hv => ⟨GA.out v hv, FL.out v hv⟩) (fun v hv => ⟨GB.out v hv, FM.out v hv⟩) la4 lb4 (bs_inj hkk) (bs_inj hvv)
        · exact .inr (.inl ⟨hlm, hkk⟩)
    clear hcc hco hK1 hK2 hV1 hV2 hk0 hn0 hs0 hk9 hn9 hs9
    generalize wa.heap.size = qa at *
    generalize wb.heap.size = qb at *
    rcases hw3 with ⟨hlm, rfl, rfl⟩ | ⟨hlm, hkk⟩ | ⟨hlm, rfl, hvv⟩
    · have HLM := Lib.hid hlm
      clear hlm
      refine Reg.start (fun w' => w'.cell? ⟨qa, 0, none⟩ = some (.string K1) ∧ w'.cell? ⟨qa, 1, none⟩ = some (.string V1) ∧ w'.cell? ⟨qa, 2, none⟩ = some (.bool false) ∧ w'.cell? ⟨qb, 0, none⟩ = some (.string K1) ∧ w'.cell? ⟨qb, 1, none⟩ = some (.string V1) ∧ w'.cell? ⟨qb, 2, none⟩ = some (.bool false) ∧ (w'.cell? ad = some (.int .i64 k0) ∧ w'.cell? ⟨ad.block, ad.off + 1, none⟩ = some (.int .i64 n0) ∧ w'.cell? ⟨ad.block, ad.off + 2, none⟩ = some (.string s0)) ∧ (w'.cell? bd = some (.int .i64 k9) ∧ w'.cell? ⟨bd.block, bd.off + 1, none⟩ = some (.int .i64 n9) ∧ w'.cell? ⟨bd.block, bd.off + 2, none⟩ = some (.string s9))) (fun i => false) (by kernel_rfl) ⟨QA.out.cell rfl, QA.out.cell rfl, QA.out.cell rfl, QB.out.cell rfl, QB.out.cell rfl, QB.out.cell rfl, LZ.out _ B.out, MZ.out _ B.out⟩ (fun hHeld => ?_)
      generalize wc.drew = wd at *
      refine Reg.takeI 0 (v := ?_) rfl (by kernel_rfl) (by kernel_rfl) (by kernel_rfl) (by kernel_rfl) (fun _ _ _ h => h) (by rfl) ?_ hHeld ?_
      rotate_left 1
      · (intro w hSw; (try dsimp only at hSw); go_simp; try with_reducible rfl)
      try simp only [Act.put, List.setIfInBounds_toArray, List.set_cons_zero, List.set_cons_succ]
      refine Reg.takeI 1 (v := ?_) rfl (by kernel_rfl) (by kernel_rfl) (by kernel_rfl) (by kernel_rfl) (fun _ _ _ h => h) (by rfl) ?_ hHeld ?_
      rotate_left 1
      · (intro w hSw; (try dsimp only at hSw); go_simp; try with_reducible rfl)
      try simp only [Act.put, List.setIfInBounds_toArray, List.set_cons_zero, List.set_cons_succ]
      refine Reg.takeI 2 (v := ?_) rfl (by kernel_rfl) (by kernel_rfl) (by kernel_rfl) (by kernel_rfl) (fun _ _ _ h => h) (by rfl) ?_ hHeld ?_
      rotate_left 1
      · (intro w hSw; (try dsimp only at hSw); go_simp; try with_reducible rfl)
      try simp only [Act.put, List.setIfInBounds_toArray, List.set_cons_zero, List.set_cons_succ]
      refine Reg.takeI 3 (v := ?_) rfl (by kernel_rfl) (by kernel_rfl) (by kernel_rfl) (by kernel_rfl) (fun _ _ _ h => h) (by rfl) ?_ hHeld ?_
      rotate_left 1
      · (intro w hSw; (try dsimp only at hSw); go_simp; try with_reducible rfl)
      try simp only [Act.put, List.setIfInBounds_toArray, List.set_cons_zero, List.set_cons_succ]
      refine Reg.takeI 4 (v := ?_) rfl (by kernel_rfl) (by kernel_rfl) (by kernel_rfl) (by kernel_rfl) (fun _ _ _ h => h) (by rfl) ?_ hHeld ?_
      rotate_left 1
      · (intro w hSw; (try dsimp only at hSw); go_simp; try with_reducible rfl)
      try simp only [Act.put, List.setIfInBounds_toArray, List.set_cons_zero, List.set_cons_succ]
      refine Reg.oneI 5 rfl (by kernel_rfl) (by rfl) (fun K hK => ?_)
      go_simp
      go_at_call 38
      refine (vsame_calls l2 l2 _ _ _ _ _ SS.out (L.out.keep B.out) (by omega) (by omega)).mono ?_
      rintro e w7 ⟨⟨r7, hr7, rfl⟩, k7⟩
      obtain rfl := hr7.2 rfl
      clear hr7
      replace X := Lib.hid (X.out.below k7 X.out.lt)
      replace Y := Lib.hid (Y.out.below k7 Y.out.lt)
      replace QA := Lib.hid (QA.out.below k7 QA.out.lt)
      replace QB := Lib.hid (QB.out.below k7 QB.out.lt)
      replace B := Lib.hid (B.out.trans (k7.mono B.out.size))
      replace SS := Lib.hid (SS.out.keep k7)
      clear k7
      go_wp2_with fail
      refine hK.out _ _ (fun _ => ⟨QA.out.cell rfl, QA.out.cell rfl, QA.out.cell rfl, QB.out.cell rfl, QB.out.cell rfl, QB.out.cell rfl, LZ.out _ B.out, MZ.out _ B.out⟩) (fun hHeld => ?_)
      replace hHeld := hHeld (by first | rfl | trivial)
      clear hK K
      try simp only [Act.put, List.setIfInBounds_toArray, List.set_cons_zero, List.set_cons_succ]
      refine Reg.takeI 6 (v := ?_) rfl (by kernel_rfl) (by kernel_rfl) (by kernel_rfl) (by kernel_rfl) (fun _ _ _ h => h) (by rfl) ?_ hHeld ?_
      rotate_left 1
      · (intro w hSw; (try dsimp only at hSw); go_simp; try with_reducible rfl)
      try simp only [Act.put, List.setIfInBounds_toArray, List.set_cons_zero, List.set_cons_succ]
      refine Reg.takeI 7 (v := ?_) rfl (by kernel_rfl) (by kernel_rfl) (by kernel_rfl) (by kernel_rfl) (fun _ _ _ h => h) (by rfl) ?_ hHeld ?_
      rotate_left 1
      · (intro w hSw; (try dsimp only at hSw); go_simp; try with_reducible rfl)
      try simp only [Act.put, List.setIfInBounds_toArray, List.set_cons_zero, List.set_cons_succ]
      refine Reg.takeI 8 (v := ?_) rfl (by kernel_rfl) (by kernel_rfl) (by kernel_rfl) (by kernel_rfl) (fun _ _ _ h => h) (by rfl) ?_ hHeld ?_
      rotate_left 1
      · (intro w hSw; (try dsimp only at hSw); go_simp; try with_reducible rfl)
      try simp only [Act.put, List.setIfInBounds_toArray, List.set_cons_zero, List.set_cons_succ]
      refine Reg.takeI 9 (v := ?_) rfl (by kernel_rfl) (by kernel_rfl) (by kernel_rfl) (by kernel_rfl) (fun _ _ _ h => h) (by rfl) ?_ hHeld ?_
      rotate_left 1
      · (intro w hSw; (try dsimp only at hSw); go_simp; try with_reducible rfl)
      try simp only [Act.put, List.setIfInBounds_toArray, List.set_cons_zero, List.set_cons_succ]
      refine Reg.takeI 10 (v := ?_) rfl (by kernel_rfl) (by kernel_rfl) (by kernel_rfl) (by kernel_rfl) (fun _ _ _ h => h) (by rfl) ?_ hHeld ?_
      rotate_left 1
      · (intro w hSw; (try dsimp only at hSw); go_simp; try with_reducible rfl)
      try simp only [Act.put, List.setIfInBounds_toArray, List.set_cons_zero, List.set_cons_succ]
      refine Reg.takeI 11 (v := ?_) rfl (by kernel_rfl) (by kernel_rfl) (by kernel_rfl) (by kernel_rfl) (fun _ _ _ h => h) (by rfl) ?_ hHeld ?_
      rotate_left 1
      · (intro w hSw; (try dsimp only at hSw); go_simp; try with_reducible rfl)
      try simp only [Act.put, List.setIfInBounds_toArray, List.set_cons_zero, List.set_cons_succ]
      refine Reg.takeI 12 (v := ?_) rfl (by kernel_rfl) (by kernel_rfl) (by kernel_rfl) (by kernel_rfl) (fun _ _ _ h => h) (by rfl) ?_ hHeld ?_
      rotate_left 1
      · (intro w hSw; (try dsimp only at hSw); go_simp; try with_reducible rfl)
      try simp only [Act.put, List.setIfInBounds_toArray, List.set_cons_zero, List.set_cons_succ]
      refine Reg.takeI 14 (v := ?_) rfl (by kernel_rfl) (by kernel_rfl) (by kernel_rfl) (by kernel_rfl) (fun _ _ _ h => h) (by rfl) ?_ hHeld ?_
      rotate_left 1
      · (intro w hSw; (try dsimp only at hSw); go_simp; try with_reducible rfl)
      try simp only [Act.put, List.setIfInBounds_toArray, List.set_cons_zero, List.set_cons_succ]
      refine Reg.takeI 15 (v := ?_) rfl (by kernel_rfl) (by kernel_rfl) (by kernel_rfl) (by kernel_rfl) (fun _ _ _ h => h) (by rfl) ?_ hHeld ?_
      rotate_left 1
      · (intro w hSw; (try dsimp only at hSw); go_simp; try with_reducible rfl)
      try simp only [Act.put, List.setIfInBounds_toArray, List.set_cons_zero, List.set_cons_succ]
      refine Reg.takeI 16 (v := ?_) rfl (by kernel_rfl) (by kernel_rfl) (by kernel_rfl) (by kernel_rfl) (fun _ _ _ h => h) (by rfl) ?_ hHeld ?_
      rotate_left 1
      · (intro w hSw; (try dsimp only at hSw); go_simp; try with_reducible rfl)
      try simp only [Act.put, List.setIfInBounds_toArray, List.set_cons_zero, List.set_cons_succ]
      refine Reg.takeI 17 (v := ?_) rfl (by kernel_rfl) (by kernel_rfl) (by kernel_rfl) (by kernel_rfl) (fun _ _ _ h => h) (by rfl) ?_ hHeld ?_
      rotate_left 1
      · (intro w hSw; (try dsimp only at hSw); go_simp; try with_reducible rfl)
      try simp only [Act.put, List.setIfInBounds_toArray, List.set_cons_zero, List.set_cons_succ]
      refine Reg.takeI 18 (v := ?_) rfl (by kernel_rfl) (by kernel_rfl) (by kernel_rfl) (by kernel_rfl) (fun _ _ _ h => h) (by rfl) ?_ hHeld ?_
      rotate_left 1
      · (intro w hSw; (try dsimp only at hSw); go_simp; try with_reducible rfl)
      try simp only [Act.put, List.setIfInBounds_toArray, List.set_cons_zero, List.set_cons_succ]
      refine Reg.takeI 19 (v := ?_) rfl (by kernel_rfl) (by kernel_rfl) (by kernel_rfl) (by kernel_rfl) (fun _ _ _ h => h) (by rfl) ?_ hHeld ?_
      rotate_left 1
      · (intro w hSw; (try dsimp only at hSw); go_simp; try with_reducible rfl)
      try simp only [Act.put, List.setIfInBounds_toArray, List.set_cons_zero, List.set_cons_succ]
      refine Reg.oneI 13 rfl (by kernel_rfl) (by rfl) (fun K hK => ?_)
      go_simp
      go_at_call 39
      refine (TC.out _).mono ?_
      rintro e w8 ⟨rfl, k8⟩
      replace X := Lib.hid (X.out.below k8 X.out.lt)
      replace Y := Lib.hid (Y.out.below k8 Y.out.lt)
      replace QA := Lib.hid (QA.out.below k8 QA.out.lt)
      replace QB := Lib.hid (QB.out.below k8 QB.out.lt)
      replace B := Lib.hid (B.out.trans (k8.mono B.out.size))
      replace SS := Lib.hid (SS.out.keep k8)
      clear k8
      go_wp2_with fail
      refine hK.out _ _ (fun _ => ⟨QA.out.cell rfl, QA.out.cell rfl, QA.out.cell rfl, QB.out.cell rfl, QB.out.cell rfl, QB.out.cell rfl, LZ.out _ B.out, MZ.out _ B.out⟩) (fun hHeld => ?_)
      replace hHeld := hHeld (by first | rfl | trivial)
      clear hK K
      try simp only [Act.put, List.setIfInBounds_toArray, List.set_cons_zero, List.set_cons_succ]
      refine Reg.oneI 20 rfl (by kernel_rfl) (by rfl) (fun K hK => ?_)
      go_simp
      go_at_call 40
      refine (CC.out _).mono ?_
      rintro e w9 ⟨rfl, k9'⟩
      replace X := Lib.hid (X.out.below k9' X.out.lt)
      replace Y := Lib.hid (Y.out.below k9' Y.out.lt)
      replace QA := Lib.hid (QA.out.below k9' QA.out.lt)
      replace QB := Lib.hid (QB.out.below k9' QB.out.lt)
      replace B := Lib.hid (B.out.trans (k9'.mono B.out.size))
      replace SS := Lib.hid (SS.out.keep k9')
      clear k9'
      go_wp2_with fail
      refine hK.out _ _ (fun _ => ⟨QA.out.cell rfl, QA.out.cell rfl, QA.out.cell rfl, QB.out.cell rfl, QB.out.cell rfl, QB.out.cell rfl, LZ.out _ B.out, MZ.out _ B.out⟩) (fun hHeld => ?_)
      replace hHeld := hHeld (by first | rfl | trivial)
      clear hK K
      try simp only [Act.put, List.setIfInBounds_toArray, List.set_cons_zero, List.set_cons_succ]
      refine Reg.takeI 21 (v := ?_) rfl (by kernel_rfl) (by kernel_rfl) (by kernel_rfl) (by kernel_rfl) (fun _ _ _ h => h) (by rfl) ?_ hHeld ?_
      rotate_left 1
      · (intro w hSw; (try dsimp only at hSw); go_simp; try with_reducible rfl)
      try simp only [Act.put, List.setIfInBounds_toArray, List.set_cons_zero, List.set_cons_succ]
      refine Reg.takeI 22 (v := ?_) rfl (by kernel_rfl) (by kernel_rfl) (by kernel_rfl) (by kernel_rfl) (fun _ _ _ h => h) (by rfl) ?_ hHeld ?_
      rotate_left 1
      · (intro w hSw; (try dsimp only at hSw); go_simp; try with_reducible rfl)
      try simp only [Act.put, List.setIfInBounds_toArray, List.set_cons_zero, List.set_cons_succ]
      refine Reg.takeI 23 (v := ?_) rfl (by kernel_rfl) (by kernel_rfl) (by kernel_rfl) (by kernel_rfl) (fun _ _ _ h => h) (by rfl) ?_ hHeld ?_
      rotate_left 1
      · (intro w hSw; (try dsimp only at hSw); go_simp; try with_reducible rfl)
      try simp only [Act.put, List.setIfInBounds_toArray, List.set_cons_zero, List.set_cons_succ]
      refine Reg.takeI 24 (v := ?_) rfl (by kernel_rfl) (by kernel_rfl) (by kernel_rfl) (by kernel_rfl) (fun _ _ _ h => h) (by rfl) ?_ hHeld ?_
      rotate_left 1
      · (intro w hSw; (try dsimp only at hSw); go_simp; try with_reducible rfl)
      try simp only [Act.put, List.setIfInBounds_toArray, List.set_cons_zero, List.set_cons_succ]
      refine Reg.takeI 25 (v := ?_) rfl (by kernel_rfl) (by kernel_rfl) (by kernel_rfl) (by kernel_rfl) (fun _ _ _ h => h) (by rfl) ?_ hHeld ?_
      rotate_left 1
      · (intro w hSw; (try dsimp only at hSw); go_simp; try with_reducible rfl)
      try simp only [Act.put, List.setIfInBounds_toArray, List.set_cons_zero, List.set_cons_succ]
      refine Reg.takeI 26 (v := ?_) rfl (by kernel_rfl) (by kernel_rfl) (by kernel_rfl) (by kernel_rfl) (fun _ _ _ h => h) (by rfl) ?_ hHeld ?_
      rotate_left 1
      · (intro w hSw; (try dsimp only at hSw); go_simp; try with_reducible rfl)
      try simp only [Act.put, List.setIfInBounds_toArray, List.set_cons_zero, List.set_cons_succ]
      refine Reg.takeI 27 (v := ?_) rfl (by kernel_rfl) (by kernel_rfl) (by kernel_rfl) (by kernel_rfl) (fun _ _ _ h => h) (by rfl) ?_ hHeld ?_
      rotate_left 1
      · (intro w hSw; (try dsimp only at hSw); go_simp; try with_reducible rfl)
      try simp only [Act.put, List.setIfInBounds_toArray, List.set_cons_zero, List.set_cons_succ]
      refine Reg.takeI 28 (v := ?_) rfl (by kernel_rfl) (by kernel_rfl) (by kernel_rfl) (by kernel_rfl) (fun _ _ _ h => h) (by rfl) ?_ hHeld ?_
      rotate_left 1
      · (intro w hSw; (try dsimp only at hSw); go_simp; try with_reducible rfl)
      try simp only [Act.put, List.setIfInBounds_toArray, List.set_cons_zero, List.set_cons_succ]
      refine Reg.oneI 29 rfl (by kernel_rfl) (by rfl) (fun K hK => ?_)
      go_simp
      go_at_call 38
      refine (vsame_calls l2 m2 _ _ _ _ _ (L.out.keep B.out) (M.out.keep B.out) (by omega) (by omega)).mono ?_
      rintro e w10 ⟨⟨r10, hr10, rfl⟩, k10⟩
      obtain rfl := hr10.2 HLM.out
      clear hr10
      replace X := Lib.hid (X.out.below k10 X.out.lt)
      replace Y := Lib.hid (Y.out.below k10 Y.out.lt)
      replace QA := Lib.hid (QA.out.below k10 QA.out.lt)
      replace QB := Lib.hid (QB.out.below k10 QB.out.lt)
      replace B := Lib.hid (B.out.trans (k10.mono B.out.size))
      replace SS := Lib.hid (SS.out.keep k10)
      clear k10
      go_wp2_with fail
      refine hK.out _ _ (fun _ => ⟨QA.out.cell rfl, QA.out.cell rfl, QA.out.cell rfl, QB.out.cell rfl, QB.out.cell rfl, QB.out.cell rfl, LZ.out _ B.out, MZ.out _ B.out⟩) (fun hHeld => ?_)
      replace hHeld := hHeld (by first | rfl | trivial)
      clear hK K
      try simp only [Act.put, List.setIfInBounds_toArray, List.set_cons_zero, List.set_cons_succ]
      refine Reg.takeI 30 (v := ?_) rfl (by kernel_rfl) (by kernel_rfl) (by kernel_rfl) (by kernel_rfl) (fun _ _ _ h => h) (by rfl) ?_ hHeld ?_
      rotate_left 1
      · (intro w hSw; (try dsimp only at hSw); go_simp; try with_reducible rfl)
      try simp only [Act.put, List.setIfInBounds_toArray, List.set_cons_zero, List.set_cons_succ]
      refine Reg.takeI 31 (v := ?_) rfl (by kernel_rfl) (by kernel_rfl) (by kernel_rfl) (by kernel_rfl) (fun _ _ _ h => h) (by rfl) ?_ hHeld ?_
      rotate_left 1
      · (intro w hSw; (try dsimp only at hSw); go_simp; try with_reducible rfl)
      try simp only [Act.put, List.setIfInBounds_toArray, List.set_cons_zero, List.set_cons_succ]
      refine Reg.doneI (by kernel_rfl) ?_
      have FC := Lib.hid (one_calls K1 V1 OF.out)
      have q0 := QA.out.cell (i := 0) rfl
      have q1 := QA.out.cell (i := 1) rfl
      have q2 := QA.out.cell (i := 2) rfl
      go_wp2_with fail
      refine (FC.out _ _ _ (es_one (Wide.new_at rfl))).mono ?_
      rintro e w11 ⟨rfl, k11⟩
      have B11 := B.out.alloc B.out.size (.cells #[.string K1, .string V1, .bool false] 70)
      replace B := Lib.hid (B11.trans (k11.mono B11.size))
      clear k11 B11 q0 q1 q2
      go_wp2_with fail
      go_ret
      exact ⟨rfl, B.out⟩
    · have HLM := Lib.hid hlm
      have nk : ¬ K1.toList = K2.toList := fun h => hkk (toList_inj.1 h)
      clear hlm hkk
      refine Reg.start (fun w' => w'.cell? ⟨qa, 0, none⟩ = some (.string K1) ∧ w'.cell? ⟨qa, 1, none⟩ = some (.string V1) ∧ w'.cell? ⟨qa, 2, none⟩ = some (.bool false) ∧ w'.cell? ⟨qb, 0, none⟩ = some (.string K2) ∧ w'.cell? ⟨qb, 1, none⟩ = some (.string V2) ∧ w'.cell? ⟨qb, 2, none⟩ = some (.bool false) ∧ (w'.cell? ad = some (.int .i64 k0) ∧ w'.cell? ⟨ad.block, ad.off + 1, none⟩ = some (.int .i64 n0) ∧ w'.cell? ⟨ad.block, ad.off + 2, none⟩ = some (.string s0)) ∧ (w'.cell? bd = some (.int .i64 k9) ∧ w'.cell? ⟨bd.block, bd.off + 1, none⟩ = some (.int .i64 n9) ∧ w'.cell? ⟨bd.block, bd.off + 2, none⟩ = some (.string s9))) (fun i => false) (by kernel_rfl) ⟨QA.out.cell rfl, QA.out.cell rfl, QA.out.cell rfl, QB.out.cell rfl, QB.out.cell rfl, QB.out.cell rfl, LZ.out _ B.out, MZ.out _ B.out⟩ (fun hHeld => ?_)
      generalize wc.drew = wd at *
      refine Reg.takeI 0 (v := ?_) rfl (by kernel_rfl) (by kernel_rfl) (by kernel_rfl) (by kernel_rfl) (fun _ _ _ h => h) (by rfl) ?_ hHeld ?_
      rotate_left 1
      · (intro w hSw; (try dsimp only at hSw); go_simp; try with_reducible rfl)
      try simp only [Act.put, List.setIfInBounds_toArray, List.set_cons_zero, List.set_cons_succ]
      refine Reg.takeI 1 (v := ?_) rfl (by kernel_rfl) (by kernel_rfl) (by kernel_rfl) (by kernel_rfl) (fun _ _ _ h => h) (by rfl) ?_ hHeld ?_
      rotate_left 1
      · (intro w hSw; (try dsimp only at hSw); go_simp; try with_reducible rfl)
      try simp only [Act.put, List.setIfInBounds_toArray, List.set_cons_zero, List.set_cons_succ]
      refine Reg.takeI 2 (v := ?_) rfl (by kernel_rfl) (by kernel_rfl) (by kernel_rfl) (by kernel_rfl) (fun _ _ _ h => h) (by rfl) ?_ hHeld ?_
      rotate_left 1
      · (intro w hSw; (try dsimp only at hSw); go_simp; try with_reducible rfl)
      try simp only [Act.put, List.setIfInBounds_toArray, List.set_cons_zero, List.set_cons_succ]
      refine Reg.takeI 3 (v := ?_) rfl (by kernel_rfl) (by kernel_rfl) (by kernel_rfl) (by kernel_rfl) (fun _ _ _ h => h) (by rfl) ?_ hHeld ?_
      rotate_left 1
      · (intro w hSw; (try dsimp only at hSw); go_simp; try with_reducible rfl)
      try simp only [Act.put, List.setIfInBounds_toArray, List.set_cons_zero, List.set_cons_succ]
      refine Reg.takeI 4 (v := ?_) rfl (by kernel_rfl) (by kernel_rfl) (by kernel_rfl) (by kernel_rfl) (fun _ _ _ h => h) (by rfl) ?_ hHeld ?_
      rotate_left 1
      · (intro w hSw; (try dsimp only at hSw); go_simp; try with_reducible rfl)
      try simp only [Act.put, List.setIfInBounds_toArray, List.set_cons_zero, List.set_cons_succ]
      refine Reg.oneI 5 rfl (by kernel_rfl) (by rfl) (fun K hK => ?_)
      go_simp
      go_at_call 38
      refine (vsame_calls l2 l2 _ _ _ _ _ SS.out (L.out.keep B.out) (by omega) (by omega)).mono ?_
      rintro e w7 ⟨⟨r7, hr7, rfl⟩, k7⟩
      obtain rfl := hr7.2 rfl
      clear hr7
      replace X := Lib.hid (X.out.below k7 X.out.lt)
      replace Y := Lib.hid (Y.out.below k7 Y.out.lt)
      replace QA := Lib.hid (QA.out.below k7 QA.out.lt)
      replace QB := Lib.hid (QB.out.below k7 QB.out.lt)
      replace B := Lib.hid (B.out.trans (k7.mono B.out.size))
      replace SS := Lib.hid (SS.out.keep k7)
      clear k7
      go_wp2_with fail
      refine hK.out _ _ (fun _ => ⟨QA.out.cell rfl, QA.out.cell rfl, QA.out.cell rfl, QB.out.cell rfl, QB.out.cell rfl, QB.out.cell rfl, LZ.out _ B.out, MZ.out _ B.out⟩) (fun hHeld => ?_)
      replace hHeld := hHeld (by first | rfl | trivial)
      clear hK K
      try simp only [Act.put, List.setIfInBounds_toArray, List.set_cons_zero, List.set_cons_succ]
      refine Reg.takeI 6 (v := ?_) rfl (by kernel_rfl) (by kernel_rfl) (by kernel_rfl) (by kernel_rfl) (fun _ _ _ h => h) (by rfl) ?_ hHeld ?_
      rotate_left 1
      · (intro w hSw; (try dsimp only at hSw); go_simp; try with_reducible rfl)
      try simp only [Act.put, List.setIfInBounds_toArray, List.set_cons_zero, List.set_cons_succ]
      refine Reg.takeI 7 (v := ?_) rfl (by kernel_rfl) (by kernel_rfl) (by kernel_rfl) (by kernel_rfl) (fun _ _ _ h => h) (by rfl) ?_ hHeld ?_
      rotate_left 1
      · (intro w hSw; (try dsimp only at hSw); go_simp; try with_reducible rfl)
      try simp only [Act.put, List.setIfInBounds_toArray, List.set_cons_zero, List.set_cons_succ]
      refine Reg.takeI 8 (v := ?_) rfl (by kernel_rfl) (by kernel_rfl) (by kernel_rfl) (by kernel_rfl) (fun _ _ _ h => h) (by rfl) ?_ hHeld ?_
      rotate_left 1
      · (intro w hSw; (try dsimp only at hSw); go_simp; try with_reducible rfl)
      try simp only [Act.put, List.setIfInBounds_toArray, List.set_cons_zero, List.set_cons_succ]
      refine Reg.takeI 9 (v := ?_) rfl (by kernel_rfl) (by kernel_rfl) (by kernel_rfl) (by kernel_rfl) (fun _ _ _ h => h) (by rfl) ?_ hHeld ?_
      rotate_left 1
      · (intro w hSw; (try dsimp only at hSw); go_simp; try with_reducible rfl)
      try simp only [Act.put, List.setIfInBounds_toArray, List.set_cons_zero, List.set_cons_succ]
      refine Reg.takeI 10 (v := ?_) rfl (by kernel_rfl) (by kernel_rfl) (by kernel_rfl) (by kernel_rfl) (fun _ _ _ h => h) (by rfl) ?_ hHeld ?_
      rotate_left 1
      · (intro w hSw; (try dsimp only at hSw); go_simp; try with_reducible rfl)
      try simp only [Act.put, List.setIfInBounds_toArray, List.set_cons_zero, List.set_cons_succ]
      refine Reg.takeI 11 (v := ?_) rfl (by kernel_rfl) (by kernel_rfl) (by kernel_rfl) (by kernel_rfl) (fun _ _ _ h => h) (by rfl) ?_ hHeld ?_
      rotate_left 1
      · (intro w hSw; (try dsimp only at hSw); go_simp; try with_reducible rfl)
      try simp only [Act.put, List.setIfInBounds_toArray, List.set_cons_zero, List.set_cons_succ]
      refine Reg.takeI 12 (v := ?_) rfl (by kernel_rfl) (by kernel_rfl) (by kernel_rfl) (by kernel_rfl) (fun _ _ _ h => h) (by rfl) ?_ hHeld ?_
      rotate_left 1
      · (intro w hSw; (try dsimp only at hSw); go_simp; try with_reducible rfl)
      try simp only [Act.put, List.setIfInBounds_toArray, List.set_cons_zero, List.set_cons_succ]
      refine Reg.takeI 14 (v := ?_) rfl (by kernel_rfl) (by kernel_rfl) (by kernel_rfl) (by kernel_rfl) (fun _ _ _ h => h) (by rfl) ?_ hHeld ?_
      rotate_left 1
      · (intro w hSw; (try dsimp only at hSw); go_simp; try with_reducible rfl)
      try simp only [Act.put, List.setIfInBounds_toArray, List.set_cons_zero, List.set_cons_succ]
      refine Reg.takeI 15 (v := ?_) rfl (by kernel_rfl) (by kernel_rfl) (by kernel_rfl) (by kernel_rfl) (fun _ _ _ h => h) (by rfl) ?_ hHeld ?_
      rotate_left 1
      · (intro w hSw; (try dsimp only at hSw); go_simp; try with_reducible rfl)
      try simp only [Act.put, List.setIfInBounds_toArray, List.set_cons_zero, List.set_cons_succ]
      refine Reg.takeI 16 (v := ?_) rfl (by kernel_rfl) (by kernel_rfl) (by kernel_rfl) (by kernel_rfl) (fun _ _ _ h => h) (by rfl) ?_ hHeld ?_
      rotate_left 1
      · (intro w hSw; (try dsimp only at hSw); go_simp; try with_reducible rfl)
      try simp only [Act.put, List.setIfInBounds_toArray, List.set_cons_zero, List.set_cons_succ]
      refine Reg.takeI 17 (v := ?_) rfl (by kernel_rfl) (by kernel_rfl) (by kernel_rfl) (by kernel_rfl) (fun _ _ _ h => h) (by rfl) ?_ hHeld ?_
      rotate_left 1
      · (intro w hSw; (try dsimp only at hSw); go_simp; try with_reducible rfl)
      try simp only [Act.put, List.setIfInBounds_toArray, List.set_cons_zero, List.set_cons_succ]
      refine Reg.takeI 18 (v := ?_) rfl (by kernel_rfl) (by kernel_rfl) (by kernel_rfl) (by kernel_rfl) (fun _ _ _ h => h) (by rfl) ?_ hHeld ?_
      rotate_left 1
      · (intro w hSw; (try dsimp only at hSw); go_simp; try with_reducible rfl)
      try simp only [Act.put, List.setIfInBounds_toArray, List.set_cons_zero, List.set_cons_succ]
      refine Reg.takeI 19 (v := ?_) rfl (by kernel_rfl) (by kernel_rfl) (by kernel_rfl) (by kernel_rfl) (fun _ _ _ h => h) (by rfl) ?_ hHeld ?_
      rotate_left 1
      · (intro w hSw; (try dsimp only at hSw); go_simp; try with_reducible rfl)
      try simp only [Act.put, List.setIfInBounds_toArray, List.set_cons_zero, List.set_cons_succ]
      refine Reg.oneI 13 rfl (by kernel_rfl) (by rfl) (fun K hK => ?_)
      go_simp
      go_at_call 39
      refine (TC.out _).mono ?_
      rintro e w8 ⟨rfl, k8⟩
      replace X := Lib.hid (X.out.below k8 X.out.lt)
      replace Y := Lib.hid (Y.out.below k8 Y.out.lt)
      replace QA := Lib.hid (QA.out.below k8 QA.out.lt)
      replace QB := Lib.hid (QB.out.below k8 QB.out.lt)
      replace B := Lib.hid (B.out.trans (k8.mono B.out.size))
      replace SS := Lib.hid (SS.out.keep k8)
      clear k8
      go_wp2_with fail
      refine hK.out _ _ (fun _ => ⟨QA.out.cell rfl, QA.out.cell rfl, QA.out.cell rfl, QB.out.cell rfl, QB.out.cell rfl, QB.out.cell rfl, LZ.out _ B.out, MZ.out _ B.out⟩) (fun hHeld => ?_)
      replace hHeld := hHeld (by first | rfl | trivial)
      clear hK K
      try simp only [Act.put, List.setIfInBounds_toArray, List.set_cons_zero, List.set_cons_succ]
      refine Reg.oneI 20 rfl (by kernel_rfl) (by rfl) (fun K hK => ?_)
      go_simp
      go_at_call 40
      refine (CC.out _).mono ?_
      rintro e w9 ⟨rfl, k9'⟩
      replace X := Lib.hid (X.out.below k9' X.out.lt)
      replace Y := Lib.hid (Y.out.below k9' Y.out.lt)
      replace QA := Lib.hid (QA.out.below k9' QA.out.lt)
      replace QB := Lib.hid (QB.out.below k9' QB.out.lt)
      replace B := Lib.hid (B.out.trans (k9'.mono B.out.size))
      replace SS := Lib.hid (SS.out.keep k9')
      clear k9'
      go_wp2_with fail
      refine hK.out _ _ (fun _ => ⟨QA.out.cell rfl, QA.out.cell rfl, QA.out.cell rfl, QB.out.cell rfl, QB.out.cell rfl, QB.out.cell rfl, LZ.out _ B.out, MZ.out _ B.out⟩) (fun hHeld => ?_)
      replace hHeld := hHeld (by first | rfl | trivial)
      clear hK K
      try simp only [Act.put, List.setIfInBounds_toArray, List.set_cons_zero, List.set_cons_succ]
      refine Reg.takeI 21 (v := ?_) rfl (by kernel_rfl) (by kernel_rfl) (by kernel_rfl) (by kernel_rfl) (fun _ _ _ h => h) (by rfl) ?_ hHeld ?_
      rotate_left 1
      · (intro w hSw; (try dsimp only at hSw); go_simp; try with_reducible rfl)
      try simp only [Act.put, List.setIfInBounds_toArray, List.set_cons_zero, List.set_cons_succ]
      refine Reg.takeI 22 (v := ?_) rfl (by kernel_rfl) (by kernel_rfl) (by kernel_rfl) (by kernel_rfl) (fun _ _ _ h => h) (by rfl) ?_ hHeld ?_
      rotate_left 1
      · (intro w hSw; (try dsimp only at hSw); go_simp; try with_reducible rfl)
      try simp only [Act.put, List.setIfInBounds_toArray, List.set_cons_zero, List.set_cons_succ]
      refine Reg.takeI 23 (v := ?_) rfl (by kernel_rfl) (by kernel_rfl) (by kernel_rfl) (by kernel_rfl) (fun _ _ _ h => h) (by rfl) ?_ hHeld ?_
      rotate_left 1
      · (intro w hSw; (try dsimp only at hSw); go_simp; try with_reducible rfl)
      try simp only [Act.put, List.setIfInBounds_toArray, List.set_cons_zero, List.set_cons_succ]
      refine Reg.takeI 24 (v := ?_) rfl (by kernel_rfl) (by kernel_rfl) (by kernel_rfl) (by kernel_rfl) (fun _ _ _ h => h) (by rfl) ?_ hHeld ?_
      rotate_left 1
      · (intro w hSw; (try dsimp only at hSw); go_simp; try with_reducible rfl)
      try simp only [Act.put, List.setIfInBounds_toArray, List.set_cons_zero, List.set_cons_succ]
      refine Reg.takeI 25 (v := ?_) rfl (by kernel_rfl) (by kernel_rfl) (by kernel_rfl) (by kernel_rfl) (fun _ _ _ h => h) (by rfl) ?_ hHeld ?_
      rotate_left 1
      · (intro w hSw; (try dsimp only at hSw); go_simp; try with_reducible rfl)
      try simp only [Act.put, List.setIfInBounds_toArray, List.set_cons_zero, List.set_cons_succ]
      refine Reg.takeI 26 (v := ?_) rfl (by kernel_rfl) (by kernel_rfl) (by kernel_rfl) (by kernel_rfl) (fun _ _ _ h => h) (by rfl) ?_ hHeld ?_
      rotate_left 1
      · (intro w hSw; (try dsimp only at hSw); go_simp; try with_reducible rfl)
      try simp only [Act.put, List.setIfInBounds_toArray, List.set_cons_zero, List.set_cons_succ]
      refine Reg.takeI 27 (v := ?_) rfl (by kernel_rfl) (by kernel_rfl) (by kernel_rfl) (by kernel_rfl) (fun _ _ _ h => h) (by rfl) ?_ hHeld ?_
      rotate_left 1
      · (intro w hSw; (try dsimp only at hSw); go_simp; try with_reducible rfl)
      try simp only [Act.put, List.setIfInBounds_toArray, List.set_cons_zero, List.set_cons_succ]
      refine Reg.takeI 28 (v := ?_) rfl (by kernel_rfl) (by kernel_rfl) (by kernel_rfl) (by kernel_rfl) (fun _ _ _ h => h) (by rfl) ?_ hHeld ?_
      rotate_left 1
      · (intro w hSw; (try dsimp only at hSw); go_simp; try with_reducible rfl)
      try simp only [Act.put, List.setIfInBounds_toArray, List.set_cons_zero, List.set_cons_succ]
      refine Reg.oneI 29 rfl (by kernel_rfl) (by rfl) (fun K hK => ?_)
      go_simp
      go_at_call 38
      refine (vsame_calls l2 m2 _ _ _ _ _ (L.out.keep B.out) (M.out.keep B.out) (by omega) (by omega)).mono ?_
      rintro e w10 ⟨⟨r10, hr10, rfl⟩, k10⟩
      obtain rfl : r10 = false := by
        cases r10
        · rfl
        · exact absurd (hr10.1 rfl) HLM.out
      clear hr10
      replace X := Lib.hid (X.out.below k10 X.out.lt)
      replace Y := Lib.hid (Y.out.below k10 Y.out.lt)
      replace QA := Lib.hid (QA.out.below k10 QA.out.lt)
      replace QB := Lib.hid (QB.out.below k10 QB.out.lt)
      replace B := Lib.hid (B.out.trans (k10.mono B.out.size))
      replace SS := Lib.hid (SS.out.keep k10)
      clear k10
      go_wp2_with fail
      refine hK.out _ _ (fun _ => ⟨QA.out.cell rfl, QA.out.cell rfl, QA.out.cell rfl, QB.out.cell rfl, QB.out.cell rfl, QB.out.cell rfl, LZ.out _ B.out, MZ.out _ B.out⟩) (fun hHeld => ?_)
      replace hHeld := hHeld (by first | rfl | trivial)
      clear hK K
      try simp only [Act.put, List.setIfInBounds_toArray, List.set_cons_zero, List.set_cons_succ]
      refine Reg.takeI 30 (v := ?_) rfl (by kernel_rfl) (by kernel_rfl) (by kernel_rfl) (by kernel_rfl) (fun _ _ _ h => h) (by rfl) ?_ hHeld ?_
      rotate_left 1
      · (intro w hSw; (try dsimp only at hSw); go_simp; try with_reducible rfl)
      try simp only [Act.put, List.setIfInBounds_toArray, List.set_cons_zero, List.set_cons_succ]
      refine Reg.takeI 31 (v := ?_) rfl (by kernel_rfl) (by kernel_rfl) (by kernel_rfl) (by kernel_rfl) (fun _ _ _ h => h) (by rfl) ?_ hHeld ?_
      rotate_left 1
      · (intro w hSw; (try dsimp only at hSw); go_simp; try with_reducible rfl)
      try simp only [Act.put, List.setIfInBounds_toArray, List.set_cons_zero, List.set_cons_succ]
      refine Reg.doneI (by kernel_rfl) ?_
      have FC := Lib.hid (one_calls K1 V1 OF.out)
      have q0 := QA.out.cell (i := 0) rfl
      have q1 := QA.out.cell (i := 1) rfl
      have q2 := QA.out.cell (i := 2) rfl
      go_wp2_with fail
      refine (FC.out _ _ _ (es_one (Wide.new_at rfl))).mono ?_
      rintro e w11 ⟨rfl, k11⟩
      have B11 := B.out.alloc B.out.size (.cells #[.string K1, .string V1, .bool false] 70)
      replace B := Lib.hid (B11.trans (k11.mono B11.size))
      clear k11 B11 q0 q1 q2
      go_wp2_with fail
      go_ret
      exact ⟨rfl, B.out⟩
    · have HLM := Lib.hid hlm
      have nv : ¬ V1.toList = V2.toList := fun h => hvv (toList_inj.1 h)
      clear hlm hvv
      refine Reg.start (fun w' => w'.cell? ⟨qa, 0, none⟩ = some (.string K1) ∧ w'.cell? ⟨qa, 1, none⟩ = some (.string V1) ∧ w'.cell? ⟨qa, 2, none⟩ = some (.bool false) ∧ w'.cell? ⟨qb, 0, none⟩ = some (.string K1) ∧ w'.cell? ⟨qb, 1, none⟩ = some (.string V2) ∧ w'.cell? ⟨qb, 2, none⟩ = some (.bool false) ∧ (w'.cell? ad = some (.int .i64 k0) ∧ w'.cell? ⟨ad.block, ad.off + 1, none⟩ = some (.int .i64 n0) ∧ w'.cell? ⟨ad.block, ad.off + 2, none⟩ = some (.string s0)) ∧ (w'.cell? bd = some (.int .i64 k9) ∧ w'.cell? ⟨bd.block, bd.off + 1, none⟩ = some (.int .i64 n9) ∧ w'.cell? ⟨bd.block, bd.off + 2, none⟩ = some (.string s9))) (fun i => false) (by kernel_rfl) ⟨QA.out.cell rfl, QA.out.cell rfl, QA.out.cell rfl, QB.out.cell rfl, QB.out.cell rfl, QB.out.cell rfl, LZ.out _ B.out, MZ.out _ B.out⟩ (fun hHeld => ?_)
      generalize wc.drew = wd at *
      refine Reg.takeI 0 (v := ?_) rfl (by kernel_rfl) (by kernel_rfl) (by kernel_rfl) (by kernel_rfl) (fun _ _ _ h => h) (by rfl) ?_ hHeld ?_
      rotate_left 1
      · (intro w hSw; (try dsimp only at hSw); go_simp; try with_reducible rfl)
      try simp only [Act.put, List.setIfInBounds_toArray, List.set_cons_zero, List.set_cons_succ]
      refine Reg.takeI 1 (v := ?_) rfl (by kernel_rfl) (by kernel_rfl) (by kernel_rfl) (by kernel_rfl) (fun _ _ _ h => h) (by rfl) ?_ hHeld ?_
      rotate_left 1
      · (intro w hSw; (try dsimp only at hSw); go_simp; try with_reducible rfl)
      try simp only [Act.put, List.setIfInBounds_toArray, List.set_cons_zero, List.set_cons_succ]
      refine Reg.takeI 2 (v := ?_) rfl (by kernel_rfl) (by kernel_rfl) (by kernel_rfl) (by kernel_rfl) (fun _ _ _ h => h) (by rfl) ?_ hHeld ?_
      rotate_left 1
      · (intro w hSw; (try dsimp only at hSw); go_simp; try with_reducible rfl)
      try simp only [Act.put, List.setIfInBounds_toArray, List.set_cons_zero, List.set_cons_succ]
      refine Reg.takeI 3 (v := ?_) rfl (by kernel_rfl) (by kernel_rfl) (by kernel_rfl) (by kernel_rfl) (fun _ _ _ h => h) (by rfl) ?_ hHeld ?_
      rotate_left 1
      · (intro w hSw; (try dsimp only at hSw); go_simp; try with_reducible rfl)
      try simp only [Act.put, List.setIfInBounds_toArray, List.set_cons_zero, List.set_cons_succ]
      refine Reg.takeI 4 (v := ?_) rfl (by kernel_rfl) (by kernel_rfl) (by kernel_rfl) (by kernel_rfl) (fun _ _ _ h => h) (by rfl) ?_ hHeld ?_
      rotate_left 1
      · (intro w hSw; (try dsimp only at hSw); go_simp; try with_reducible rfl)
      try simp only [Act.put, List.setIfInBounds_toArray, List.set_cons_zero, List.set_cons_succ]
      refine Reg.oneI 5 rfl (by kernel_rfl) (by rfl) (fun K hK => ?_)
      go_simp
      go_at_call 38
      refine (vsame_calls l2 l2 _ _ _ _ _ SS.out (L.out.keep B.out) (by omega) (by omega)).mono ?_
      rintro e w7 ⟨⟨r7, hr7, rfl⟩, k7⟩
      obtain rfl := hr7.2 rfl
      clear hr7
      replace X := Lib.hid (X.out.below k7 X.out.lt)
      replace Y := Lib.hid (Y.out.below k7 Y.out.lt)
      replace QA := Lib.hid (QA.out.below k7 QA.out.lt)
      replace QB := Lib.hid (QB.out.below k7 QB.out.lt)
      replace B := Lib.hid (B.out.trans (k7.mono B.out.size))
      replace SS := Lib.hid (SS.out.keep k7)
      clear k7
      go_wp2_with fail
      refine hK.out _ _ (fun _ => ⟨QA.out.cell rfl, QA.out.cell rfl, QA.out.cell rfl, QB.out.cell rfl, QB.out.cell rfl, QB.out.cell rfl, LZ.out _ B.out, MZ.out _ B.out⟩) (fun hHeld => ?_)
      replace hHeld := hHeld (by first | rfl | trivial)
      clear hK K
      try simp only [Act.put, List.setIfInBounds_toArray, List.set_cons_zero, List.set_cons_succ]
      refine Reg.takeI 6 (v := ?_) rfl (by kernel_rfl) (by kernel_rfl) (by kernel_rfl) (by kernel_rfl) (fun _ _ _ h => h) (by rfl) ?_ hHeld ?_
      rotate_left 1
      · (intro w hSw; (try dsimp only at hSw); go_simp; try with_reducible rfl)
      try simp only [Act.put, List.setIfInBounds_toArray, List.set_cons_zero, List.set_cons_succ]
      refine Reg.takeI 7 (v := ?_) rfl (by kernel_rfl) (by kernel_rfl) (by kernel_rfl) (by kernel_rfl) (fun _ _ _ h => h) (by rfl) ?_ hHeld ?_
      rotate_left 1
      · (intro w hSw; (try dsimp only at hSw); go_simp; try with_reducible rfl)
      try simp only [Act.put, List.setIfInBounds_toArray, List.set_cons_zero, List.set_cons_succ]
      refine Reg.takeI 8 (v := ?_) rfl (by kernel_rfl) (by kernel_rfl) (by kernel_rfl) (by kernel_rfl) (fun _ _ _ h => h) (by rfl) ?_ hHeld ?_
      rotate_left 1
      · (intro w hSw; (try dsimp only at hSw); go_simp; try with_reducible rfl)
      try simp only [Act.put, List.setIfInBounds_toArray, List.set_cons_zero, List.set_cons_succ]
      refine Reg.takeI 9 (v := ?_) rfl (by kernel_rfl) (by kernel_rfl) (by kernel_rfl) (by kernel_rfl) (fun _ _ _ h => h) (by rfl) ?_ hHeld ?_
      rotate_left 1
      · (intro w hSw; (try dsimp only at hSw); go_simp; try with_reducible rfl)
      try simp only [Act.put, List.setIfInBounds_toArray, List.set_cons_zero, List.set_cons_succ]
      refine Reg.takeI 10 (v := ?_) rfl (by kernel_rfl) (by kernel_rfl) (by kernel_rfl) (by kernel_rfl) (fun _ _ _ h => h) (by rfl) ?_ hHeld ?_
      rotate_left 1
      · (intro w hSw; (try dsimp only at hSw); go_simp; try with_reducible rfl)
      try simp only [Act.put, List.setIfInBounds_toArray, List.set_cons_zero, List.set_cons_succ]
      refine Reg.takeI 11 (v := ?_) rfl (by kernel_rfl) (by kernel_rfl) (by kernel_rfl) (by kernel_rfl) (fun _ _ _ h => h) (by rfl) ?_ hHeld ?_
      rotate_left 1
      · (intro w hSw; (try dsimp only at hSw); go_simp; try with_reducible rfl)
      try simp only [Act.put, List.setIfInBounds_toArray, List.set_cons_zero, List.set_cons_succ]
      refine Reg.takeI 12 (v := ?_) rfl (by kernel_rfl) (by kernel_rfl) (by kernel_rfl) (by kernel_rfl) (fun _ _ _ h => h) (by rfl) ?_ hHeld ?_
      rotate_left 1
      · (intro w hSw; (try dsimp only at hSw); go_simp; try with_reducible rfl)
      try simp only [Act.put, List.setIfInBounds_toArray, List.set_cons_zero, List.set_cons_succ]
      refine Reg.takeI 14 (v := ?_) rfl (by kernel_rfl) (by kernel_rfl) (by kernel_rfl) (by kernel_rfl) (fun _ _ _ h => h) (by rfl) ?_ hHeld ?_
      rotate_left 1
      · (intro w hSw; (try dsimp only at hSw); go_simp; try with_reducible rfl)
      try simp only [Act.put, List.setIfInBounds_toArray, List.set_cons_zero, List.set_cons_succ]
      refine Reg.takeI 15 (v := ?_) rfl (by kernel_rfl) (by kernel_rfl) (by kernel_rfl) (by kernel_rfl) (fun _ _ _ h => h) (by rfl) ?_ hHeld ?_
      rotate_left 1
      · (intro w hSw; (try dsimp only at hSw); go_simp; try with_reducible rfl)
      try simp only [Act.put, List.setIfInBounds_toArray, List.set_cons_zero, List.set_cons_succ]
      refine Reg.takeI 16 (v := ?_) rfl (by kernel_rfl) (by kernel_rfl) (by kernel_rfl) (by kernel_rfl) (fun _ _ _ h => h) (by rfl) ?_ hHeld ?_
      rotate_left 1
      · (intro w hSw; (try dsimp only at hSw); go_simp; try with_reducible rfl)
      try simp only [Act.put, List.setIfInBounds_toArray, List.set_cons_zero, List.set_cons_succ]
      refine Reg.takeI 17 (v := ?_) rfl (by kernel_rfl) (by kernel_rfl) (by kernel_rfl) (by kernel_rfl) (fun _ _ _ h => h) (by rfl) ?_ hHeld ?_
      rotate_left 1
      · (intro w hSw; (try dsimp only at hSw); go_simp; try with_reducible rfl)
      try simp only [Act.put, List.setIfInBounds_toArray, List.set_cons_zero, List.set_cons_succ]
      refine Reg.takeI 18 (v := ?_) rfl (by kernel_rfl) (by kernel_rfl) (by kernel_rfl) (by kernel_rfl) (fun _ _ _ h => h) (by rfl) ?_ hHeld ?_
      rotate_left 1
      · (intro w hSw; (try dsimp only at hSw); go_simp; try with_reducible rfl)
      try simp only [Act.put, List.setIfInBounds_toArray, List.set_cons_zero, List.set_cons_succ]
      refine Reg.takeI 19 (v := ?_) rfl (by kernel_rfl) (by kernel_rfl) (by kernel_rfl) (by kernel_rfl) (fun _ _ _ h => h) (by rfl) ?_ hHeld ?_
      rotate_left 1
      · (intro w hSw; (try dsimp only at hSw); go_simp; try with_reducible rfl)
      try simp only [Act.put, List.setIfInBounds_toArray, List.set_cons_zero, List.set_cons_succ]
      refine Reg.oneI 13 rfl (by kernel_rfl) (by rfl) (fun K hK => ?_)
      go_simp
      go_at_call 39
      refine (TC.out _).mono ?_
      rintro e w8 ⟨rfl, k8⟩
      replace X := Lib.hid (X.out.below k8 X.out.lt)
      replace Y := Lib.hid (Y.out.below k8 Y.out.lt)
      replace QA := Lib.hid (QA.out.below k8 QA.out.lt)
      replace QB := Lib.hid (QB.out.below k8 QB.out.lt)
      replace B := Lib.hid (B.out.trans (k8.mono B.out.size))
      replace SS := Lib.hid (SS.out.keep k8)
      clear k8
      go_wp2_with fail
      refine hK.out _ _ (fun _ => ⟨QA.out.cell rfl, QA.out.cell rfl, QA.out.cell rfl, QB.out.cell rfl, QB.out.cell rfl, QB.out.cell rfl, LZ.out _ B.out, MZ.out _ B.out⟩) (fun hHeld => ?_)
      replace hHeld := hHeld (by first | rfl | trivial)
      clear hK K
      try simp only [Act.put, List.setIfInBounds_toArray, List.set_cons_zero, List.set_cons_succ]
      refine Reg.oneI 20 rfl (by kernel_rfl) (by rfl) (fun K hK => ?_)
      go_simp
      go_at_call 40
      refine (CC.out _).mono ?_
      rintro e w9 ⟨rfl, k9'⟩
      replace X := Lib.hid (X.out.below k9' X.out.lt)
      replace Y := Lib.hid (Y.out.below k9' Y.out.lt)
      replace QA := Lib.hid (QA.out.below k9' QA.out.lt)
      replace QB := Lib.hid (QB.out.below k9' QB.out.lt)
      replace B := Lib.hid (B.out.trans (k9'.mono B.out.size))
      replace SS := Lib.hid (SS.out.keep k9')
      clear k9'
      go_wp2_with fail
      refine hK.out _ _ (fun _ => ⟨QA.out.cell rfl, QA.out.cell rfl, QA.out.cell rfl, QB.out.cell rfl, QB.out.cell rfl, QB.out.cell rfl, LZ.out _ B.out, MZ.out _ B.out⟩) (fun hHeld => ?_)
      replace hHeld := hHeld (by first | rfl | trivial)
      clear hK K
      try simp only [Act.put, List.setIfInBounds_toArray, List.set_cons_zero, List.set_cons_succ]
      refine Reg.takeI 21 (v := ?_) rfl (by kernel_rfl) (by kernel_rfl) (by kernel_rfl) (by kernel_rfl) (fun _ _ _ h => h) (by rfl) ?_ hHeld ?_
      rotate_left 1
      · (intro w hSw; (try dsimp only at hSw); go_simp; try with_reducible rfl)
      try simp only [Act.put, List.setIfInBounds_toArray, List.set_cons_zero, List.set_cons_succ]
      refine Reg.takeI 22 (v := ?_) rfl (by kernel_rfl) (by kernel_rfl) (by kernel_rfl) (by kernel_rfl) (fun _ _ _ h => h) (by rfl) ?_ hHeld ?_
      rotate_left 1
      · (intro w hSw; (try dsimp only at hSw); go_simp; try with_reducible rfl)
      try simp only [Act.put, List.setIfInBounds_toArray, List.set_cons_zero, List.set_cons_succ]
      refine Reg.takeI 23 (v := ?_) rfl (by kernel_rfl) (by kernel_rfl) (by kernel_rfl) (by kernel_rfl) (fun _ _ _ h => h) (by rfl) ?_ hHeld ?_
      rotate_left 1
      · (intro w hSw; (try dsimp only at hSw); go_simp; try with_reducible rfl)
      try simp only [Act.put, List.setIfInBounds_toArray, List.set_cons_zero, List.set_cons_succ]
      refine Reg.takeI 24 (v := ?_) rfl (by kernel_rfl) (by kernel_rfl) (by kernel_rfl) (by kernel_rfl) (fun _ _ _ h => h) (by rfl) ?_ hHeld ?_
      rotate_left 1
      · (intro w hSw; (try dsimp only at hSw); go_simp; try with_reducible rfl)
      try simp only [Act.put, List.setIfInBounds_toArray, List.set_cons_zero, List.set_cons_succ]
      refine Reg.takeI 25 (v := ?_) rfl (by kernel_rfl) (by kernel_rfl) (by kernel_rfl) (by kernel_rfl) (fun _ _ _ h => h) (by rfl) ?_ hHeld ?_
      rotate_left 1
      · (intro w hSw; (try dsimp only at hSw); go_simp; try with_reducible rfl)
      try simp only [Act.put, List.setIfInBounds_toArray, List.set_cons_zero, List.set_cons_succ]
      refine Reg.takeI 26 (v := ?_) rfl (by kernel_rfl) (by kernel_rfl) (by kernel_rfl) (by kernel_rfl) (fun _ _ _ h => h) (by rfl) ?_ hHeld ?_
      rotate_left 1
      · (intro w hSw; (try dsimp only at hSw); go_simp; try with_reducible rfl)
      try simp only [Act.put, List.setIfInBounds_toArray, List.set_cons_zero, List.set_cons_succ]
      refine Reg.takeI 27 (v := ?_) rfl (by kernel_rfl) (by kernel_rfl) (by kernel_rfl) (by kernel_rfl) (fun _ _ _ h => h) (by rfl) ?_ hHeld ?_
      rotate_left 1
      · (intro w hSw; (try dsimp only at hSw); go_simp; try with_reducible rfl)
      try simp only [Act.put, List.setIfInBounds_toArray, List.set_cons_zero, List.set_cons_succ]
      refine Reg.takeI 28 (v := ?_) rfl (by kernel_rfl) (by kernel_rfl) (by kernel_rfl) (by kernel_rfl) (fun _ _ _ h => h) (by rfl) ?_ hHeld ?_
      rotate_left 1
      · (intro w hSw; (try dsimp only at hSw); go_simp; try with_reducible rfl)
      try simp only [Act.put, List.setIfInBounds_toArray, List.set_cons_zero, List.set_cons_succ]
      refine Reg.oneI 29 rfl (by kernel_rfl) (by rfl) (fun K hK => ?_)
      go_simp
      go_at_call 38
      refine (vsame_calls l2 m2 _ _ _ _ _ (L.out.keep B.out) (M.out.keep B.out) (by omega) (by omega)).mono ?_
      rintro e w10 ⟨⟨r10, hr10, rfl⟩, k10⟩
      obtain rfl : r10 = false := by
        cases r10
        · rfl
        · exact absurd (hr10.1 rfl) HLM.out
      clear hr10
      replace X := Lib.hid (X.out.below k10 X.out.lt)
      replace Y := Lib.hid (Y.out.below k10 Y.out.lt)
      replace QA := Lib.hid (QA.out.below k10 QA.out.lt)
      replace QB := Lib.hid (QB.out.below k10 QB.out.lt)
      replace B := Lib.hid (B.out.trans (k10.mono B.out.size))
      replace SS := Lib.hid (SS.out.keep k10)
      clear k10
      go_wp2_with fail
      refine hK.out _ _ (fun _ => ⟨QA.out.cell rfl, QA.out.cell rfl, QA.out.cell rfl, QB.out.cell rfl, QB.out.cell rfl, QB.out.cell rfl, LZ.out _ B.out, MZ.out _ B.out⟩) (fun hHeld => ?_)
      replace hHeld := hHeld (by first | rfl | trivial)
      clear hK K
      try simp only [Act.put, List.setIfInBounds_toArray, List.set_cons_zero, List.set_cons_succ]
      refine Reg.takeI 30 (v := ?_) rfl (by kernel_rfl) (by kernel_rfl) (by kernel_rfl) (by kernel_rfl) (fun _ _ _ h => h) (by rfl) ?_ hHeld ?_
      rotate_left 1
      · (intro w hSw; (try dsimp only at hSw); go_simp; try with_reducible rfl)
      try simp only [Act.put, List.setIfInBounds_toArray, List.set_cons_zero, List.set_cons_succ]
      refine Reg.takeI 31 (v := ?_) rfl (by kernel_rfl) (by kernel_rfl) (by kernel_rfl) (by kernel_rfl) (fun _ _ _ h => h) (by rfl) ?_ hHeld ?_
      rotate_left 1
      · (intro w hSw; (try dsimp only at hSw); go_simp; try with_reducible rfl)
      try simp only [Act.put, List.setIfInBounds_toArray, List.set_cons_zero, List.set_cons_succ]
      refine Reg.doneI (by kernel_rfl) ?_
      have FC := Lib.hid (one_calls K1 V1 OF.out)
      have q0 := QA.out.cell (i := 0) rfl
      have q1 := QA.out.cell (i := 1) rfl
      have q2 := QA.out.cell (i := 2) rfl
      go_wp2_with fail
      refine (FC.out _ _ _ (es_one (Wide.new_at rfl))).mono ?_
      rintro e w11 ⟨rfl, k11⟩
      have B11 := B.out.alloc B.out.size (.cells #[.string K1, .string V1, .bool false] 70)
      replace B := Lib.hid (B11.trans (k11.mono B11.size))
      clear k11 B11 q0 q1 q2
      go_wp2_with fail
      go_ret
      exact ⟨rfl, B.out⟩
abbrev eC : Cod (ByteArray × ByteArray × Bool × Unit) := Cod.pair Cod.str (Cod.pair Cod.str (Cod.pair Cod.bool Cod.unit))
theorem back_row (cs : List Value) (x : _) (n : Int) (a : Option Addr) (la ca : Nat) (xs : List (Int × Int × ByteArray × Unit)) (b : Option Addr) (lb cb : Nat) (ys : List (Int × Int × ByteArray × Unit)) (es : List Value) (z : _) (W : World)
    (h1 : planC.R W cs x) (hn : (Lit.int .i64 n).wf = true) (h2 : SlcIn valC W a la ca xs) (h3 : SlcIn valC W b lb cb ys) (h4 : eC.R W es z) :
    Calls Try.prog 6 #[.agg cs.toArray, .int .i64 n, .slice a la ca, .slice b lb cb, .agg es.toArray] W fun e w' => e = .returned (.bool true) ∧ Below W.heap.size W w' := by
  obtain ⟨p, rfl, hp, hf⟩ := plan_in h1
  obtain ⟨l, rfl, l1, l2, l3⟩ := vs_of h2
  obtain ⟨m, rfl, m1, m2, m3⟩ := vs_of h3
  obtain ⟨c1, r1, rfl, ⟨rfl, k1⟩, c2, r2, rfl, ⟨rfl, k2⟩, c3, r3, rfl, rfl, hu⟩ := h4
  obtain rfl : r3 = [] := hu
  unfold maxLen at k1 k2
  exact back_calls p n l m a b ca cb z.1 z.2.1 z.2.2.1 W hp hf l2 m2 (fun v hv => (l3 v hv).1) (fun v hv => (m3 v hv).1) l1 m1 k1 k2
end Go.Proofs.Ytcfjooeagfollaa.Plan
