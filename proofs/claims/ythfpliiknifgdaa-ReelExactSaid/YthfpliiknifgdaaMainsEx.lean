/- The law MainsExact: the document's power, and the walk. -/
import Derived.Test.YthfpliiknifgdaaMains
import Derived.Test.YthfpliiknifgdaaCod
import Derived.Deep.RegionWith
import Derived.StillTailTactics
namespace Go.Proofs.Ythfpliiknifgdaa.Mains
open Go.RowKit Go.Proofs.Ythfpliiknifgdaa.Mem
set_option linter.unusedSimpArgs false
set_option linter.unusedVariables false

def M.did (u : M) (act n : Int) : M := if act = 1 then u.used else if act = 2 then u.fused n else if act = 3 then u.offed else if act = 4 then u.oned else u
def M.errDo (u : M) (act : Int) : Int := if act = 1 then u.errUse else 0

theorem case_eq {a b : Int} (h : a = b) : (a == b) = true := by rw [beq_iff_eq]; exact h
theorem case_ne {a b : Int} (h : ¬ a = b) : (a == b) = false := by rw [beq_eq_false_iff_ne]; exact h

set_option maxHeartbeats 800000 in
theorem do_calls (b : Nat) (u : M) (act n : Int) (w : World) (h : Row w b 41 u.cells) (hf : -1 ≤ u.fuse ∧ u.fuse ≤ 9223372036854775807) (hb : 0 ≤ u.boots ∧ u.boots ≤ 4611686018427387904) :
    Calls Try.prog 23 #[.pointer (some ⟨b, 0, none⟩), .int .i64 act, .int .i64 n] w fun e w' => e = .returned (.int .i64 (u.errDo act)) ∧ Row w' b 41 (u.did act n).cells ∧ Chg (One b) w w' := by
  obtain ⟨on, fuse, boots⟩ := u
  obtain ⟨c0, c1, c2, f0, f1, f2⟩ := cells_at h
  have H := Lib.hid h
  clear h
  obtain ⟨hf0, hf1⟩ := hf
  obtain ⟨hb0, hb1⟩ := hb
  simp only at hf0 hf1 hb0 hb1 c0 c1 c2
  by_cases h1 : act = 1
  · subst h1
    cases on
    · have hu : Hid ((M.did ⟨false, fuse, boots⟩ 1 n) = ⟨false, fuse, boots⟩) := by
        show _ = _
        simp [M.did, M.used]
      have he : Hid ((M.errDo ⟨false, fuse, boots⟩ 1) = 4) := by
        show _ = _
        simp [M.errDo, M.errUse]
      rw [hu.out, he.out]
      go_enter Try.func23, Try.ntmps23
      go_wp2
      go_ret
      exact ⟨rfl, H.out, Chg.refl _ _⟩
    · by_cases h0 : fuse = 0
      · subst h0
        go_enter Try.func23, Try.ntmps23
        go_wp2
        go_ret
        exact ⟨rfl, (H.out.set 0 _).cast rfl, (Chg.refl _ _).put _ _⟩
      · have h0' := case_ne h0
        have he : Hid ((M.errDo ⟨true, fuse, boots⟩ 1) = 0) := by
          show _ = _
          simp [M.errDo, M.errUse, h0]
        by_cases hp : 0 < fuse
        · have hu : Hid ((M.did ⟨true, fuse, boots⟩ 1 n) = ⟨true, fuse - 1, boots⟩) := by
            show _ = _
            simp [M.did, M.used, h0, hp]
          rw [hu.out, he.out]
          clear h0
          go_enter Try.func23, Try.ntmps23
          go_wp2
          go_ret
          exact ⟨rfl, (H.out.set 1 _).cast rfl, (Chg.refl _ _).put _ _⟩
        · have hp' : fuse ≤ 0 := by omega
          have hu : Hid ((M.did ⟨true, fuse, boots⟩ 1 n) = ⟨true, fuse, boots⟩) := by
            show _ = _
            simp [M.did, M.used, h0, hp]
          rw [hu.out, he.out]
          clear h0
          go_enter Try.func23, Try.ntmps23
          go_wp2
          go_ret
          exact ⟨rfl, H.out, Chg.refl _ _⟩
  · have q1 := case_ne h1
    have he : Hid ((M.errDo ⟨on, fuse, boots⟩ act) = 0) := by
      show _ = _
      simp [M.errDo, h1]
    rw [he.out]
    by_cases h2 : act = 2
    · subst h2
      by_cases hn : n < 0
      · have hu : Hid ((M.did ⟨on, fuse, boots⟩ 2 n) = ⟨on, -1, boots⟩) := by
          show _ = _
          simp [M.did, M.fused, hn]
        rw [hu.out]
        go_enter Try.func23, Try.ntmps23
        go_wp2
        go_ret
        exact ⟨rfl, ((H.out.set 1 _).set 1 _).cast rfl, ((Chg.refl _ _).put _ _).put _ _⟩
      · have hn' : 0 ≤ n := by omega
        have hu : Hid ((M.did ⟨on, fuse, boots⟩ 2 n) = ⟨on, n, boots⟩) := by
          show _ = _
          simp [M.did, M.fused, hn]
        rw [hu.out]
        go_enter Try.func23, Try.ntmps23
        go_wp2
        go_ret
        exact ⟨rfl, (H.out.set 1 _).cast rfl, (Chg.refl _ _).put _ _⟩
    · have q2 := case_ne h2
      by_cases h3 : act = 3
      · subst h3
        go_enter Try.func23, Try.ntmps23
        go_wp2
        go_ret
        exact ⟨rfl, (H.out.set 0 _).cast rfl, (Chg.refl _ _).put _ _⟩
      · have q3 := case_ne h3
        by_cases h4 : act = 4
        · subst h4
          cases on
          · go_enter Try.func23, Try.ntmps23
            go_wp2
            go_ret
            exact ⟨rfl, (((H.out.set 0 _).set 1 _).set 2 _).cast rfl, (((Chg.refl _ _).put _ _).put _ _).put _ _⟩
          · go_enter Try.func23, Try.ntmps23
            go_wp2
            go_ret
            exact ⟨rfl, H.out, Chg.refl _ _⟩
        · have q4 := case_ne h4
          have hu : Hid ((M.did ⟨on, fuse, boots⟩ act n) = ⟨on, fuse, boots⟩) := by
            show _ = _
            simp [M.did, h1, h2, h3, h4]
          rw [hu.out]
          go_enter Try.func23, Try.ntmps23
          go_wp2
          go_ret
          exact ⟨rfl, H.out, Chg.refl _ _⟩

/-- What holds of power behind so many deeds. -/
def M.fit (N : Nat) (m : M) : Prop := -1 ≤ m.fuse ∧ m.fuse ≤ 9223372036854775807 ∧ 0 ≤ m.boots ∧ m.boots ≤ N + 1
theorem M.fit_did {N : Nat} {m : M} (h : m.fit N) (act n : Int) (hn : n ≤ 9223372036854775807) : (m.did act n).fit (N + 1) := by
  obtain ⟨h1, h2, h3, h4⟩ := h
  unfold M.fit M.did M.used M.fused M.offed M.oned
  split
  · split
    · simp only; omega
    · split
      · simp only; omega
      · omega
  · split
    · simp only; split <;> omega
    · split
      · simp only; omega
      · split
        · split
          · omega
          · simp only; omega
        · omega

theorem M.fit_cast {N : Nat} {m : M} (h : m.fit N) : m.fit N := h

theorem wf_le {x : Int} (h : (Lit.int .i64 x).wf = true) : x ≤ 9223372036854775807 := by
  simp [Lit.wf, IntKind.min, IntKind.max, IntKind.bits, IntKind.signed] at h
  omega
end Go.Proofs.Ythfpliiknifgdaa.Mains
