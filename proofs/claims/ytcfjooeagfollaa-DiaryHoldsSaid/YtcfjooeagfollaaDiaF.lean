/- A log on a reel: Force, Add. -/
import Derived.Test.YtcfjooeagfollaaDiaL
namespace Go.Proofs.Ytcfjooeagfollaa.Dia
open Go.RowKit Go.Proofs.Ytcfjooeagfollaa.Mem Go.Proofs.Ytcfjooeagfollaa.Bytes Go.Proofs.Ytcfjooeagfollaa.Mains Go.Proofs.Ytcfjooeagfollaa.Reel Go.Proofs.Ytcfjooeagfollaa.Note
set_option linter.unusedSimpArgs false
set_option linter.unusedVariables false
set_option maxRecDepth 20000

theorem Held.chg2 {S S' C : Nat → Prop} {w w' : World} {f : Int → Option Value} {g : Int → Option Rec} (h : Held w S f g) (hc : Chg C w w') (hs : ∀ k, k < w.heap.size → C k → S k) (ht : ∀ k, S' k → S k ∨ w.heap.size ≤ k) : Held w' S' f g := by
  intro k
  have h1 := h k
  split
  · rename_i e
    rw [e] at h1
    exact h1
  · rename_i v e
    rw [e] at h1
    obtain ⟨x, h1, h2, h3, h4, h5, h6⟩ := h1
    have hb := h5.both h3.off
    exact ⟨x, h1, h2, h3.chg hc (hb.mono (fun j hj => by
      rcases Nat.lt_or_ge j w.heap.size with h' | h'
      · exact .inl (hs j h' hj)
      · exact .inr h')), h4, hb.mono (fun j hj => ht j hj), h6⟩
section
variable {w w' : World} {d : Option Nat} {B b L mb : Nat} {m m' : M} {r r' : R} {n : Nat} {g : Int → Option Rec} {last held : Int}
theorem Dia.off (h : Dia w d B b L mb m r n g last held) {k : Nat} (hk : k = L ∨ k = mb) : ¬ Reel.Own (Tight d w) B b k := by
  obtain ⟨f, hf, hh⟩ := h.map
  obtain ⟨a1, a2, a3, a4, a5⟩ := h.apart
  rintro (e | e | e | e)
  · rcases hk with rfl | rfl <;> omega
  · rcases hk with rfl | rfl <;> omega
  · rcases hk with rfl | rfl
    · exact (h.hd _ e).2.1 rfl
    · exact (h.hd _ e).2.2 rfl
  · have := h.log.lt
    have := hf.lt
    rcases hk with rfl | rfl <;> omega
/-- Behind a deed of the reel's. -/
theorem Dia.reeled (h : Dia w d B b L mb m r n g last held) (hR : Reel.Is w' (Tight d w) B b r') (hM : Row w' B 147 m'.cells) (hc : Chg (Reel.Own (Tight d w) B b) w w') (hl : 0 ≤ held ∧ held ≤ ((r'.size - r'.data.length : Nat) : Int)) :
    ∃ d', Dia w' d' B b L mb m' r' n g last held ∧ ∀ k, d' = some k → d = some k ∨ w.heap.size ≤ k := by
  obtain ⟨f, hf, hh⟩ := h.map
  obtain ⟨d', hd', hT⟩ := is_tight hR
  have hlL := h.log.lt
  have hlM := hf.lt
  refine ⟨d', ⟨hT, hM, h.log.chg hc (h.off (.inl rfl)), ⟨f, hf.chg hc (h.off (.inr rfl)), hh.chg2 hc (fun k hk e => ?_) (fun k e => ?_)⟩, fun k e => ?_, h.apart, hl, h.hz, h.hn⟩, fun k e => (hd' k e).1⟩
  · rcases e with e | e | e | e
    · exact .inr (.inl e)
    · exact .inr (.inr (.inl e))
    · exact .inl e
    · omega
  · rcases e with e | e | e | e | e
    · rcases (hd' k e).1 with e2 | e2
      · exact .inl (.inl e2)
      · exact .inr e2
    · exact .inl (.inr (.inl e))
    · exact .inl (.inr (.inr (.inl e)))
    · exact .inl (.inr (.inr (.inr (.inl e))))
    · exact .inl (.inr (.inr (.inr (.inr e))))
  · refine ⟨(hd' k e).2, ?_, ?_⟩
    · rcases (hd' k e).1 with e2 | e2
      · exact (h.hd k e2).2.1
      · omega
    · rcases (hd' k e).1 with e2 | e2
      · exact (h.hd k e2).2.2
      · omega
def forceE (m : M) (r : R) (k : Int) (o : Option Rec) : Int := if o = none then 1 else if isSafe r k o then 0 else m.errUse
def forceR (m : M) (r : R) (k : Int) (o : Option Rec) : R := if o = none then r else if isSafe r k o then r else syncR m r
def forceM (m : M) (r : R) (k : Int) (o : Option Rec) : M := if o = none then m else if isSafe r k o then m else m.used
set_option maxHeartbeats 2000000 in
theorem force_calls (h : Dia w d B b L mb m r n g last held) (k : Int) (hk : (Lit.int .i64 k).wf = true) (hkb : ∀ q, g k = some q → 1 ≤ k ∧ k ≤ 1000000 ∧ q.size ≤ 1000000) (hfu : -1 ≤ m.fuse ∧ m.fuse ≤ 9223372036854775807) :
    Calls Try.prog 56 #[.pointer (some ⟨L, 0, none⟩), .int .i64 k] w fun e w' => e = .returned (.int .i64 (forceE m r k (g k))) ∧ (∃ d', Dia w' d' B b L mb (forceM m r k (g k)) (forceR m r k (g k)) n g last held ∧ ∀ k, d' = some k → d = some k ∨ w.heap.size ≤ k) ∧ Chg (Reel.Own (Tight d w) B b) w w' := by
  obtain ⟨f, hf, hh⟩ := h.map
  have x1 := h.log.cell (i := 1) rfl
  have hlook := hf.look (t := 156) (e := 58) Try.underlying3 Try.underlying156 (z := .agg #[.int .i64 0, .int .i64 0, .int .i64 0, .int .i64 0, .slice none 0 0, .int .i64 0, .int .i64 0, .string ⟨#[]⟩, .string ⟨#[]⟩, .slice none 0 0, .slice none 0 0]) (by kernel_rfl) hk
  obtain ⟨x, e1, hx, hc, hs, hr, hsome⟩ := hh.get k
  rw [e1, hsome] at hlook
  have ONE := Lib.hid (rc_one x)
  have SC := Lib.hid (fun (w1 : World) (hb : Below w.heap.size w w1) => issafe_calls (h.below hb) k hk hkb)
  have HH := Lib.hid h
  obtain ⟨o, ho⟩ : ∃ o, g k = o := ⟨_, rfl⟩
  rw [ho] at hlook SC ⊢
  have C0 := Lib.hid (Row.new w 58 [.int .i64 0, .int .i64 0, .int .i64 0, .int .i64 0, .slice none 0 0, .int .i64 0, .int .i64 0, .string ⟨#[]⟩, .string ⟨#[]⟩, .slice none 0 0, .slice none 0 0])
  have B0 := Lib.hid ((Below.refl w.heap.size w).alloc (Nat.le_refl _) (.cells #[.int .i64 0, .int .i64 0, .int .i64 0, .int .i64 0, .slice none 0 0, .int .i64 0, .int .i64 0, .string ⟨#[]⟩, .string ⟨#[]⟩, .slice none 0 0, .slice none 0 0] 58))
  clear h hf hh e1 hx hc hs hsome ho hr hkb
  cases o with
  | none =>
    have e1 : forceE m r k none = 1 := rfl
    have e2 : forceR m r k none = r := rfl
    have e3 : forceM m r k none = m := rfl
    rw [e1, e2, e3]
    clear e1 e2 e3 SC
    simp only [Option.isSome_none] at hlook
    go_enter Try.func56, Try.ntmps56
    go_wp2_with (refine store_row C0.out x.recCells 58 (by kernel_rfl) rfl ONE.out rfl rfl rfl rfl ?_; intro w1 h1 k1 z1; have B1 := Lib.hid (B0.out.trans (k1.below (B := w.heap.size) B0.out.size (fun i e => by have e : i = w.heap.size := e; omega))); clear h1 k1 z1 x1 hlook)
    go_ret
    exact ⟨rfl, ⟨_, HH.out.below B1.out, fun _ e => .inl e⟩, Chg.of_below B1.out⟩
  | some q =>
    simp only [Option.isSome_some] at hlook
    have e1 : forceE m r k (some q) = if isSafe r k (some q) then 0 else m.errUse := rfl
    have e2 : forceR m r k (some q) = if isSafe r k (some q) then r else syncR m r := rfl
    have e3 : forceM m r k (some q) = if isSafe r k (some q) then m else m.used := rfl
    rw [e1, e2, e3]
    clear e1 e2 e3
    obtain ⟨sf, hsf⟩ : ∃ sf, isSafe r k (some q) = sf := ⟨_, rfl⟩
    rw [hsf] at SC ⊢
    clear hsf
    go_enter Try.func56, Try.ntmps56
    go_wp2_with (refine store_row C0.out x.recCells 58 (by kernel_rfl) rfl ONE.out rfl rfl rfl rfl ?_; intro w1 h1 k1 z1; have B1 := Lib.hid (B0.out.trans (k1.below (B := w.heap.size) B0.out.size (fun i e => by have e : i = w.heap.size := e; omega))); clear h1 k1 z1 x1 hlook)
    refine (SC.out _ B1.out).mono ?_
    rintro e w2 ⟨rfl, k2⟩
    have B2 := Lib.hid (B1.out.trans (k2.mono B1.out.size))
    clear k2 SC
    cases sf
    · have H2 := Lib.hid (HH.out.below B2.out)
      have y0 := H2.out.log.cell (i := 0) rfl
      go_wp2_with fail
      refine (sync_calls _ _ _ _ _ _ H2.out.reel H2.out.pow hfu).mono ?_
      rintro e w3 ⟨rfl, hR, hM, hc⟩
      have RR := Lib.hid (H2.out.reeled hR hM hc (by have := H2.out.hl; unfold syncR R.synced; split <;> exact this))
      have CC := Lib.hid ((Chg.of_below (S := Reel.Own (Tight d w) B b) B2.out).next hc (fun j hj e => by
        rcases e with e | e | e | e
        · exact .inl e
        · exact .inr (.inl e)
        · exact .inr (.inr (.inl e))
        · have := B2.out.size; omega))
      clear hR hM hc y0
      go_wp2_with fail
      go_ret
      obtain ⟨d', hd', ht⟩ := RR.out
      exact ⟨rfl, ⟨d', hd', fun k e => (ht k e).imp_right (Nat.le_trans B2.out.size)⟩, CC.out⟩
    · go_wp2_with fail
      go_ret
      exact ⟨rfl, ⟨_, HH.out.below B2.out, fun _ e => .inl e⟩, Chg.of_below B2.out⟩
end
end Go.Proofs.Ytcfjooeagfollaa.Dia
