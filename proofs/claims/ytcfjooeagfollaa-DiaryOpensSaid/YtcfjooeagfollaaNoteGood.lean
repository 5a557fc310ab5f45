/- note.Good. -/
import Derived.Test.YtcfjooeagfollaaNote
namespace Go.Proofs.Ytcfjooeagfollaa.Note
open Go.RowKit Go.Proofs.Ytcfjooeagfollaa.Mem Go.Proofs.Ytcfjooeagfollaa.Bytes
set_option linter.unusedSimpArgs false
set_option linter.unusedVariables false
set_option maxRecDepth 20000

structure Rec where
  kind : Int
  deal : Int
  prev : Int
  next : Int
  ukind : Int
  utree : Int
  key : ByteArray
  val : ByteArray
  pages : List (Int × ByteArray)
  opens : List (Int × Int)
  dirts : List (Int × Int)

def undoGood (k t : Int) (x y : ByteArray) : Bool := inb k 4 && inb t 255 && decide (x.size ≤ 255) && decide (y.size ≤ 255)

set_option maxHeartbeats 800000 in
theorem undo_calls (k t : Int) (x y : ByteArray) (w : World) : Calls Try.prog 120 #[.agg #[.int .i64 k, .int .i64 t, .string x, .string y]] w fun e w' => e = .returned (.bool (undoGood k t x y)) ∧ Below w.heap.size w w' := by
  have h1 := in_calls k 4
  have h2 := in_calls t 255
  have hu : undoGood k t x y = (inb k 4 && inb t 255 && decide (x.size ≤ 255) && decide (y.size ≤ 255)) := rfl
  have HU := Lib.hid hu
  have H1 := Lib.hid h1
  have H2 := Lib.hid h2
  clear hu h1 h2
  go_enter Try.func120, Try.ntmps120
  go_wp2_with fail
  refine (H1.out _).mono ?_
  rintro e w2 ⟨rfl, rfl⟩
  cases q1 : inb k 4
  · have hz : undoGood k t x y = false := by rw [HU.out, q1]; rfl
    have HZ := Lib.hid hz
    clear hz q1
    go_wp2_with fail
    go_ret
    exact ⟨by rw [HZ.out]; rfl, (Below.refl _ _).alloc (Nat.le_refl _) _⟩
  · have HQ1 := Lib.hid q1
    clear q1
    go_wp2_with fail
    refine (H2.out _).mono ?_
    rintro e w2 ⟨rfl, rfl⟩
    cases q2 : inb t 255
    · have hz : undoGood k t x y = false := by rw [HU.out, q2, Bool.and_false, Bool.false_and, Bool.false_and]
      have HZ := Lib.hid hz
      clear hz q2
      go_wp2_with fail
      go_ret
      exact ⟨by rw [HZ.out]; rfl, (Below.refl _ _).alloc (Nat.le_refl _) _⟩
    · have hz : undoGood k t x y = (decide (x.size ≤ 255) && decide (y.size ≤ 255)) := by rw [HU.out, HQ1.out, q2]; simp
      have HZ := Lib.hid hz
      clear hz q2
      by_cases q3 : x.size ≤ 255
      · have q3' : ((x.size : Int) ≤ 255) := by omega
        by_cases q4 : y.size ≤ 255
        · have q4' : ((y.size : Int) ≤ 255) := by omega
          go_wp2_with fail
          go_ret
          exact ⟨by rw [HZ.out]; first | (simp [q3, q4]; done) | (simp [q3, q4]; omega), (Below.refl _ _).alloc (Nat.le_refl _) _⟩
        · have q4' : ¬ ((y.size : Int) ≤ 255) := by omega
          go_wp2_with fail
          go_ret
          exact ⟨by rw [HZ.out]; first | (simp [q3, q4]; done) | (simp [q3, q4]; omega), (Below.refl _ _).alloc (Nat.le_refl _) _⟩
      · have q3' : ¬ ((x.size : Int) ≤ 255) := by omega
        have q3b : decide ((x.size : Int) ≤ 255) = false := by simp; omega
        go_wp2_with fail
        go_ret
        exact ⟨by rw [HZ.out]; simp [q3], (Below.refl _ _).alloc (Nat.le_refl _) _⟩

def Rec.fits (r : Rec) : Bool := decide (r.pages.length ≤ 8) && decide (r.opens.length ≤ 16) && decide (r.dirts.length ≤ 256)
def Rec.good (r : Rec) : Bool := (decide (1 ≤ r.kind) && decide (r.kind ≤ 6)) && inb r.deal 2147483647 && inb r.prev 2147483647 && inb r.next 2147483647 && undoGood r.ukind r.utree r.key r.val && r.fits && !r.pages.any badPage && !r.opens.any badOpen && !r.dirts.any badDirty
/-- The cells of a record whose rows lie so. -/
def Rec.cells (r : Rec) (p o d : Value) : List Value := [.int .i64 r.kind, .int .i64 r.deal, .int .i64 r.prev, .int .i64 r.next, p, .int .i64 r.ukind, .int .i64 r.utree, .string r.key, .string r.val, o, d]

set_option maxHeartbeats 1600000 in
set_option maxRecDepth 8000 in
theorem good_calls (r : Rec) (a0 : Option Addr) (n0 c0 : Nat) (a1 : Option Addr) (n1 c1 : Nat) (a2 : Option Addr) (n2 c2 : Nat) (w : World) (h0 : Pairs Value.string w a0 n0 r.pages) (h1 : Pairs (Value.int .i64) w a1 n1 r.opens) (h2 : Pairs (Value.int .i64) w a2 n2 r.dirts) :
    Calls Try.prog 66 #[.agg (r.cells (.slice a0 n0 c0) (.slice a1 n1 c1) (.slice a2 n2 c2)).toArray] w fun e w' => e = .returned (.bool r.good) ∧ Below w.heap.size w w' := by
  obtain ⟨kind, deal, prev, next, uk, ut, key, val, pages, opens, dirts⟩ := r
  have hi := fun n top => in_calls n top
  have HI := Lib.hid hi
  have hg : Rec.good ⟨kind, deal, prev, next, uk, ut, key, val, pages, opens, dirts⟩ = ((decide (1 ≤ kind) && decide (kind ≤ 6)) && inb deal 2147483647 && inb prev 2147483647 && inb next 2147483647 && undoGood uk ut key val && Rec.fits ⟨kind, deal, prev, next, uk, ut, key, val, pages, opens, dirts⟩ && !pages.any badPage && !opens.any badOpen && !dirts.any badDirty) := rfl
  have HG := Lib.hid hg
  clear hi hg
  have hbx : Below w.heap.size w (w.alloc (.cells (Rec.cells ⟨kind, deal, prev, next, uk, ut, key, val, pages, opens, dirts⟩ (.slice a0 n0 c0) (.slice a1 n1 c1) (.slice a2 n2 c2)).toArray 58)) := (Below.refl _ _).alloc (Nat.le_refl _) _
  have hX := Row.new w 58 (Rec.cells ⟨kind, deal, prev, next, uk, ut, key, val, pages, opens, dirts⟩ (.slice a0 n0 c0) (.slice a1 n1 c1) (.slice a2 n2 c2))
  have x0 := hX.cell (i := 0) rfl
  have x1 := hX.cell (i := 1) rfl
  have x2 := hX.cell (i := 2) rfl
  have x3 := hX.cell (i := 3) rfl
  have x4 := hX.cell (i := 4) rfl
  have x5 := hX.cell (i := 5) rfl
  have x6 := hX.cell (i := 6) rfl
  have x7 := hX.cell (i := 7) rfl
  have x8 := hX.cell (i := 8) rfl
  have x9 := hX.cell (i := 9) rfl
  have x10 := hX.cell (i := 10) rfl
  have HX := Lib.hid hX
  clear hX
  by_cases hk : 1 ≤ kind ∧ kind ≤ 6
  · obtain ⟨k1, k2⟩ := hk
    have k1' : ¬ (kind < 1) := by omega
    have k2' : ¬ (6 < kind) := by omega
    go_enter Try.func66, Try.ntmps66
    go_wp2_with fail
    refine (HI.out deal 2147483647 _).mono ?_
    rintro e w0 ⟨rfl, rfl⟩
    cases q0 : inb deal 2147483647
    · have hz : Rec.good ⟨kind, deal, prev, next, uk, ut, key, val, pages, opens, dirts⟩ = false := by rw [HG.out, q0]; simp
      have HZ := Lib.hid hz
      clear hz q0
      go_wp2_with fail
      go_ret
      exact ⟨by rw [HZ.out]; rfl, hbx⟩
    · have HQ0 := Lib.hid q0
      clear q0
      go_wp2_with fail
      refine (HI.out prev 2147483647 _).mono ?_
      rintro e w1 ⟨rfl, rfl⟩
      cases q1 : inb prev 2147483647
      · have hz : Rec.good ⟨kind, deal, prev, next, uk, ut, key, val, pages, opens, dirts⟩ = false := by rw [HG.out, q1]; simp
        have HZ := Lib.hid hz
        clear hz q1
        go_wp2_with fail
        go_ret
        exact ⟨by rw [HZ.out]; rfl, hbx⟩
      · have HQ1 := Lib.hid q1
        clear q1
        go_wp2_with fail
        refine (HI.out next 2147483647 _).mono ?_
        rintro e w2 ⟨rfl, rfl⟩
        cases q2 : inb next 2147483647
        · have hz : Rec.good ⟨kind, deal, prev, next, uk, ut, key, val, pages, opens, dirts⟩ = false := by rw [HG.out, q2]; simp
          have HZ := Lib.hid hz
          clear hz q2
          go_wp2_with fail
          go_ret
          exact ⟨by rw [HZ.out]; rfl, hbx⟩
        · have HQ2 := Lib.hid q2
          clear q2
          go_wp2_with fail
          refine (undo_calls uk ut key val _).mono ?_
          rintro e w4 ⟨rfl, hbu⟩
          cases q3 : undoGood uk ut key val
          · have hz : Rec.good ⟨kind, deal, prev, next, uk, ut, key, val, pages, opens, dirts⟩ = false := by rw [HG.out, q3]; simp
            have HZ := Lib.hid hz
            clear hz q3
            go_wp2_with fail
            go_ret
            exact ⟨by rw [HZ.out]; rfl, hbx.trans (hbu.mono (by simp))⟩
          · have HQ3 := Lib.hid q3
            have hX4 := HX.out.below hbu (by simp)
            clear q3 x0 x1 x2 x3 x4 x5 x6 x7 x8 x9 x10
            have x4 := hX4.cell (i := 4) rfl
            have x9 := hX4.cell (i := 9) rfl
            have x10 := hX4.cell (i := 10) rfl
            replace hbx := hbx.trans (hbu.mono (by simp))
            by_cases f0 : 8 < n0
            · have f0' : (8 : Int) < (n0 : Int) := by omega
              have hfz : Rec.fits ⟨kind, deal, prev, next, uk, ut, key, val, pages, opens, dirts⟩ = false := by simp [Rec.fits]; have e0 := h0.1; have e1 := h1.1; have e2 := h2.1; omega
              have hz : Rec.good ⟨kind, deal, prev, next, uk, ut, key, val, pages, opens, dirts⟩ = false := by rw [HG.out, hfz]; simp
              have HZ := Lib.hid hz
              clear hz hfz
              go_wp2_with fail
              go_ret
              exact ⟨by rw [HZ.out]; rfl, hbx⟩
            · have f0' : ¬ ((8 : Int) < (n0 : Int)) := by omega
              by_cases f1 : 16 < n1
              · have f1' : (16 : Int) < (n1 : Int) := by omega
                have hfz : Rec.fits ⟨kind, deal, prev, next, uk, ut, key, val, pages, opens, dirts⟩ = false := by simp [Rec.fits]; have e0 := h0.1; have e1 := h1.1; have e2 := h2.1; omega
                have hz : Rec.good ⟨kind, deal, prev, next, uk, ut, key, val, pages, opens, dirts⟩ = false := by rw [HG.out, hfz]; simp
                have HZ := Lib.hid hz
                clear hz hfz
                go_wp2_with fail
                go_ret
                exact ⟨by rw [HZ.out]; rfl, hbx⟩
              · have f1' : ¬ ((16 : Int) < (n1 : Int)) := by omega
                by_cases f2 : 256 < n2
                · have f2' : (256 : Int) < (n2 : Int) := by omega
                  have hfz : Rec.fits ⟨kind, deal, prev, next, uk, ut, key, val, pages, opens, dirts⟩ = false := by simp [Rec.fits]; have e0 := h0.1; have e1 := h1.1; have e2 := h2.1; omega
                  have hz : Rec.good ⟨kind, deal, prev, next, uk, ut, key, val, pages, opens, dirts⟩ = false := by rw [HG.out, hfz]; simp
                  have HZ := Lib.hid hz
                  clear hz hfz
                  go_wp2_with fail
                  go_ret
                  exact ⟨by rw [HZ.out]; rfl, hbx⟩
                · have f2' : ¬ ((256 : Int) < (n2 : Int)) := by omega
                  go_wp2_with fail
                  refine (pageContains_calls a0 n0 c0 pages _ (h0.keep hbx)).mono ?_
                  rintro e w5 ⟨rfl, hb5⟩
                  replace hX4 := hX4.below hb5 hX4.lt
                  clear x4 x9 x10
                  have x9 := hX4.cell (i := 9) rfl
                  have x10 := hX4.cell (i := 10) rfl
                  replace hbx := below_next hbx hb5 (Nat.le_refl _)
                  cases q4 : pages.any badPage
                  · have HQ4 := Lib.hid q4
                    clear q4
                    go_wp2_with fail
                    refine (openContains_calls a1 n1 c1 opens _ (h1.keep hbx)).mono ?_
                    rintro e w6 ⟨rfl, hb6⟩
                    replace hX4 := hX4.below hb6 hX4.lt
                    clear x9 x10
                    have x10 := hX4.cell (i := 10) rfl
                    replace hbx := below_next hbx hb6 (Nat.le_refl _)
                    cases q5 : opens.any badOpen
                    · have HQ5 := Lib.hid q5
                      clear q5
                      go_wp2_with fail
                      refine (dirtyContains_calls a2 n2 c2 dirts _ (h2.keep hbx)).mono ?_
                      rintro e w7 ⟨rfl, hb7⟩
                      replace hbx := below_next hbx hb7 (Nat.le_refl _)
                      have hz : Rec.good ⟨kind, deal, prev, next, uk, ut, key, val, pages, opens, dirts⟩ = !dirts.any badDirty := by
                        have hfz : Rec.fits ⟨kind, deal, prev, next, uk, ut, key, val, pages, opens, dirts⟩ = true := by simp [Rec.fits]; have e0 := h0.1; have e1 := h1.1; have e2 := h2.1; omega
                        rw [HG.out, hfz, HQ0.out, HQ1.out, HQ2.out, HQ3.out, HQ4.out, HQ5.out]; simp [k1, k2]
                      have HZ := Lib.hid hz
                      clear hz x10 hX4
                      go_wp2_with fail
                      go_ret
                      exact ⟨by rw [HZ.out]; rfl, hbx⟩
                    · have hz : Rec.good ⟨kind, deal, prev, next, uk, ut, key, val, pages, opens, dirts⟩ = false := by rw [HG.out, q5]; simp
                      have HZ := Lib.hid hz
                      clear hz q5
                      go_wp2_with fail
                      go_ret
                      exact ⟨by rw [HZ.out]; rfl, hbx⟩
                  · have hz : Rec.good ⟨kind, deal, prev, next, uk, ut, key, val, pages, opens, dirts⟩ = false := by rw [HG.out, q4]; simp
                    have HZ := Lib.hid hz
                    clear hz q4
                    go_wp2_with fail
                    go_ret
                    exact ⟨by rw [HZ.out]; rfl, hbx⟩
  · have hz : Rec.good ⟨kind, deal, prev, next, uk, ut, key, val, pages, opens, dirts⟩ = false := by
      rw [HG.out]
      have : (decide (1 ≤ kind) && decide (kind ≤ 6)) = false := by simp; omega
      rw [this]; rfl
    have HZ := Lib.hid hz
    clear hz
    by_cases k1 : kind < 1
    · go_enter Try.func66, Try.ntmps66
      go_wp2_with fail
      go_ret
      exact ⟨by rw [HZ.out]; rfl, hbx⟩
    · have k2 : 6 < kind := by omega
      go_enter Try.func66, Try.ntmps66
      go_wp2_with fail
      go_ret
      exact ⟨by rw [HZ.out]; rfl, hbx⟩

def Rec.size (r : Rec) : Nat := if r.good then 29 + r.key.size + r.val.size + 258 * r.pages.length + 8 * r.opens.length + 6 * r.dirts.length else 0

set_option maxHeartbeats 1600000 in
set_option maxRecDepth 8000 in
theorem size_calls (r : Rec) (a0 : Option Addr) (n0 c0 : Nat) (a1 : Option Addr) (n1 c1 : Nat) (a2 : Option Addr) (n2 c2 : Nat) (w : World) (h0 : Pairs Value.string w a0 n0 r.pages) (h1 : Pairs (Value.int .i64) w a1 n1 r.opens) (h2 : Pairs (Value.int .i64) w a2 n2 r.dirts) (hk : r.key.size ≤ 1000000) (hv : r.val.size ≤ 1000000) (hn0 : n0 ≤ 1000000) (hn1 : n1 ≤ 1000000) (hn2 : n2 ≤ 1000000) :
    Calls Try.prog 65 #[.agg (r.cells (.slice a0 n0 c0) (.slice a1 n1 c1) (.slice a2 n2 c2)).toArray] w fun e w' => e = .returned (.int .i64 (r.size : Int)) ∧ Below w.heap.size w w' := by
  have hX := Row.new w 58 (r.cells (.slice a0 n0 c0) (.slice a1 n1 c1) (.slice a2 n2 c2))
  have hbx : Below w.heap.size w (w.alloc (.cells (r.cells (.slice a0 n0 c0) (.slice a1 n1 c1) (.slice a2 n2 c2)).toArray 58)) := (Below.refl _ _).alloc (Nat.le_refl _) _
  have hgood := good_calls r a0 n0 c0 a1 n1 c1 a2 n2 c2 _ (h0.keep hbx) (h1.keep hbx) (h2.keep hbx)
  have x0 := hX.cell (i := 0) rfl
  have x1 := hX.cell (i := 1) rfl
  have x2 := hX.cell (i := 2) rfl
  have x3 := hX.cell (i := 3) rfl
  have x4 := hX.cell (i := 4) rfl
  have x5 := hX.cell (i := 5) rfl
  have x6 := hX.cell (i := 6) rfl
  have x7 := hX.cell (i := 7) rfl
  have x8 := hX.cell (i := 8) rfl
  have x9 := hX.cell (i := 9) rfl
  have x10 := hX.cell (i := 10) rfl
  have HX := Lib.hid hX
  clear hX
  go_enter Try.func65, Try.ntmps65
  go_wp2_with fail
  refine hgood.mono ?_
  rintro e w4 ⟨rfl, hb4⟩
  have hX4 := HX.out.below hb4 (by simp)
  have y4 := hX4.cell (i := 4) rfl
  have y7 := hX4.cell (i := 7) rfl
  have y8 := hX4.cell (i := 8) rfl
  have y9 := hX4.cell (i := 9) rfl
  have y10 := hX4.cell (i := 10) rfl
  replace hbx := hbx.trans (hb4.mono (by simp))
  have e0 := h0.1
  have e1 := h1.1
  have e2 := h2.1
  clear x0 x1 x2 x3 x4 x5 x6 x7 x8 x9 x10 hgood
  cases hg : r.good
  · have hz : r.size = 0 := by simp [Rec.size, hg]
    have HZ := Lib.hid hz
    clear hz hg
    go_wp2_with fail
    go_ret
    exact ⟨by rw [HZ.out]; rfl, hbx⟩
  · have hz : (r.size : Int) = 29 + (r.key.size : Int) + (r.val.size : Int) + 258 * (n0 : Int) + 8 * (n1 : Int) + 6 * (n2 : Int) := by simp [Rec.size, hg, e0, e1, e2]
    have HZ := Lib.hid hz
    clear hz hg e0 e1 e2
    go_wp2_with fail
    go_ret
    exact ⟨by rw [HZ.out]; rfl, hbx⟩
end Go.Proofs.Ytcfjooeagfollaa.Note
