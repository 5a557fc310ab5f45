/- A log on a reel: how it lies; Room, Last. -/
import Derived.Test.YtcfjooeagfollaaDiaS
import Derived.Test.YtcfjooeagfollaaReel
import Derived.Deep.QuietTactic
import Derived.BigQuiet
import Derived.IntWalk
namespace Go.Proofs.Ytcfjooeagfollaa.Dia
open Go.RowKit Go.Proofs.Ytcfjooeagfollaa.Mem Go.Proofs.Ytcfjooeagfollaa.Bytes Go.Proofs.Ytcfjooeagfollaa.Mains Go.Proofs.Ytcfjooeagfollaa.Reel Go.Proofs.Ytcfjooeagfollaa.Note
set_option linter.unusedSimpArgs false
set_option linter.unusedVariables false
set_option maxRecDepth 20000

/-- The reel's bytes lie in block d; what is yet to be made may be its too. -/
def Tight (d : Option Nat) (w : World) : Nat → Prop := fun k => d = some k ∨ w.heap.size ≤ k
theorem is_tight {w : World} {F : Nat → Prop} {B b : Nat} {r : R} (h : Reel.Is w F B b r) : ∃ d, (∀ k, d = some k → F k ∧ k < w.heap.size) ∧ Reel.Is w (Tight d w) B b r := by
  obtain ⟨h0, h1, h2, h3, hk, v, hr, ho, hv⟩ := h
  refine ⟨v.ownBlock, fun k e => ⟨hv k e, (ho.lt k e).2⟩, h0, ?_, ?_, fun k hk => .inr hk, hk, v, hr, ho, fun k e => .inl e⟩
  · rintro (e | e)
    · exact h1 (hv _ e)
    · exact h1 (h3 _ e)
  · rintro (e | e)
    · exact h2 (hv _ e)
    · exact h2 (h3 _ e)
theorem is_chg {S : Nat → Prop} {w w' : World} {d : Option Nat} {B b : Nat} {r : R} (h : Reel.Is w (Tight d w) B b r) (hB : B < w.heap.size) (hc : Chg S w w') (hb : ¬ S b) (hd : ∀ k, d = some k → ¬ S k) : Reel.Is w' (Tight d w') B b r := by
  obtain ⟨h0, h1, h2, h3, hk, v, hr, ho, hv⟩ := h
  have hd2 : ∀ k, v.ownBlock = some k → d = some k := fun k e => (hv k e).resolve_right (by have := (ho.lt k e).2; omega)
  refine ⟨h0, ?_, ?_, fun k hk => .inr hk, hk, v, hr.chg hc hb, own_chg ho hc (fun k e => hd k (hd2 k e)), fun k e => .inl (hd2 k e)⟩
  · rintro (e | e)
    · exact h1 (.inl e)
    · have := hc.size; omega
  · rintro (e | e)
    · exact h2 (.inl e)
    · have := hr.lt; have := hc.size; omega
theorem is_below {w w' : World} {d : Option Nat} {B b : Nat} {r : R} (h : Reel.Is w (Tight d w) B b r) (hB : B < w.heap.size) (hb : Below w.heap.size w w') : Reel.Is w' (Tight d w') B b r :=
  is_chg h hB (Chg.of_below (S := fun _ => False) hb) (fun x => x) (fun _ _ x => x)

def lcells (b mb : Nat) (last held : Int) : List Value := [.pointer (some ⟨b, 0, none⟩), .map (some mb), .int .i64 last, .int .i64 held]
/-- What a log's records are apart from. -/
def Own (d : Option Nat) (B b L mb : Nat) : Nat → Prop := fun k => d = some k ∨ k = B ∨ k = b ∨ k = L ∨ k = mb
/-- The map's entries. -/
def Held (w : World) (S : Nat → Prop) (f : Int → Option Value) (g : Int → Option Rec) : Prop := ∀ k, match f k with
  | none => g k = none
  | some v => ∃ x : Sr, g k = some x.r ∧ v = .agg x.recCells.toArray ∧ x.Has w ∧ x.Caps ∧ x.Off S ∧ x.r.small
/-- Block L is a log on the reel r at b (its power m at B); g tells the record at each stamp. -/
structure Dia (w : World) (d : Option Nat) (B b L mb : Nat) (m : M) (r : R) (n : Nat) (g : Int → Option Rec) (last held : Int) : Prop where
  reel : Reel.Is w (Tight d w) B b r
  pow : Row w B 147 m.cells
  log : Row w L 158 (lcells b mb last held)
  map : ∃ f, IMap Try.prog 3 w mb n f ∧ Held w (Own d B b L mb) f g
  hd : ∀ k, d = some k → k < w.heap.size ∧ k ≠ L ∧ k ≠ mb
  apart : L ≠ B ∧ L ≠ b ∧ mb ≠ B ∧ mb ≠ b ∧ mb ≠ L
  hl : 0 ≤ held ∧ held ≤ ((r.size - r.data.length : Nat) : Int)
  hz : -9223372036854775808 ≤ last ∧ last ≤ 9223372036854775807
  hn : n ≤ 1000000
theorem Held.chg {S C : Nat → Prop} {w w' : World} {f : Int → Option Value} {g : Int → Option Rec} (h : Held w S f g) (hc : Chg C w w') (hs : ∀ k, k < w.heap.size → C k → S k) : Held w' S f g := by
  intro k
  have h1 := h k
  split
  · rename_i e
    rw [e] at h1
    exact h1
  · rename_i v e
    rw [e] at h1
    obtain ⟨x, h1, h2, h3, h4, h5, h6⟩ := h1
    refine ⟨x, h1, h2, h3.chg hc ?_, h4, h5, h6⟩
    have ho := h3.off
    have hb := h5.both ho
    exact hb.mono (fun j hj => by
      rcases Nat.lt_or_ge j w.heap.size with h' | h'
      · exact .inl (hs j h' hj)
      · exact .inr h')
theorem Dia.below {w w' : World} {d : Option Nat} {B b L mb : Nat} {m : M} {r : R} {n : Nat} {g : Int → Option Rec} {last held : Int} (h : Dia w d B b L mb m r n g last held) (hb : Below w.heap.size w w') : Dia w' d B b L mb m r n g last held := by
  obtain ⟨f, hf, hh⟩ := h.map
  exact ⟨is_below h.reel h.pow.lt hb, h.pow.below hb h.pow.lt, h.log.below hb h.log.lt, ⟨f, hf.below hb hf.lt, hh.chg (Chg.of_below (S := fun _ => False) hb) (fun _ _ x => x.elim)⟩, fun k e => ⟨Nat.lt_of_lt_of_le (h.hd k e).1 hb.size, (h.hd k e).2⟩, h.apart, h.hl, h.hz, h.hn⟩
section
variable {w : World} {d : Option Nat} {B b L mb : Nat} {m : M} {r : R} {n : Nat} {g : Int → Option Rec} {last held : Int}
set_option maxHeartbeats 1000000 in
theorem room_calls (h : Dia w d B b L mb m r n g last held) : Calls Try.prog 61 #[.pointer (some ⟨L, 0, none⟩)] w fun e w' => e = .returned (.int .i64 (((r.size - r.data.length : Nat) : Int) - held)) ∧ ∃ q, w' = w.drewN q := by
  have x0 := h.log.cell (i := 0) rfl
  have x3 := h.log.cell (i := 3) rfl
  obtain ⟨l1, l2⟩ := h.hl
  obtain ⟨k1, k2, k3⟩ := h.reel.2.2.2.2.1
  have RL := Lib.hid h.reel
  have i1 : IntKind.i64.wrap (((r.size - r.data.length : Nat) : Int) - held) = ((r.size - r.data.length : Nat) : Int) - held := IntWalk.i64_in _ (by omega)
  clear h
  go_enter Try.func61, Try.ntmps61
  go_wp2_with fail
  go_quiet ((go_at_call 80; exact Calls.quiet_of (left_calls _ _ _ _ _ RL.out)))
  go_wp2_with fail
  go_ret
  exact ⟨rfl, _, rfl⟩
theorem last_calls (h : Dia w d B b L mb m r n g last held) : Calls Try.prog 64 #[.pointer (some ⟨L, 0, none⟩)] w fun e w' => e = .returned (.int .i64 last) ∧ w' = w := by
  have x2 := h.log.cell (i := 2) rfl
  clear h
  go_enter Try.func64, Try.ntmps64
  go_wp2_with fail
  go_ret
  exact ⟨rfl, rfl⟩
/-- What At gives: the stamp's record, copied. -/
def AtPost (B : Nat) (o : Option Rec) (e : Ending) (w' : World) : Prop := ∃ v, e = .returned (.tuple #[v, .bool o.isSome]) ∧ NewRec B w' v (o.getD noRec)
theorem NewRec.chg {S : Nat → Prop} {A C : Nat} {w w' : World} {v : Value} {r : Rec} (h : NewRec A w v r) (hc : Chg S w w') (hs : ∀ k, A ≤ k → ¬ S k) (hC : C ≤ A) : NewRec C w' v r := by
  obtain ⟨a0, n0, c0, a1, n1, c1, a2, n2, c2, e, ⟨p0, p1, p2⟩, z, u0, u1, u2⟩ := h
  exact ⟨a0, n0, c0, a1, n1, c1, a2, n2, c2, e, ⟨pairs_chg p0 hc (fun ad e => hs _ (u0 ad e)), pairs_chg p1 hc (fun ad e => hs _ (u1 ad e)), pairs_chg p2 hc (fun ad e => hs _ (u2 ad e))⟩, z, fun ad e => Nat.le_trans hC (u0 ad e), fun ad e => Nat.le_trans hC (u1 ad e), fun ad e => Nat.le_trans hC (u2 ad e)⟩
def zsr : Sr := ⟨0, noRec, none, 0, none, 0, none, 0⟩
theorem Held.get {S : Nat → Prop} {f : Int → Option Value} (h : Held w S f g) (k : Int) : ∃ x : Sr, (f k).getD (.agg #[.int .i64 0, .int .i64 0, .int .i64 0, .int .i64 0, .slice none 0 0, .int .i64 0, .int .i64 0, .string ⟨#[]⟩, .string ⟨#[]⟩, .slice none 0 0, .slice none 0 0]) = .agg x.recCells.toArray ∧ x.Has w ∧ x.Caps ∧ x.r.small ∧ x.r = (g k).getD noRec ∧ (f k).isSome = (g k).isSome := by
  have h1 := h k
  cases hf : f k with
  | none =>
    rw [hf] at h1
    simp only at h1
    rw [h1]
    exact ⟨zsr, rfl, ⟨⟨rfl, by simp [zsr, noRec], fun i x hx => by simp [zsr, noRec] at hx⟩, ⟨rfl, by simp [zsr, noRec], fun i x hx => by simp [zsr, noRec] at hx⟩, ⟨rfl, by simp [zsr, noRec], fun i x hx => by simp [zsr, noRec] at hx⟩⟩, ⟨Nat.le_refl _, Nat.le_refl _, Nat.le_refl _⟩, ⟨by simp [zsr, noRec], by simp [zsr, noRec], by simp [zsr, noRec], Nat.zero_le _, Nat.zero_le _⟩, rfl, rfl⟩
  | some v =>
    rw [hf] at h1
    obtain ⟨x, h1, h2, h3, h4, h5, h6⟩ := h1
    rw [h1, h2]
    exact ⟨x, rfl, h3, h4, h6, rfl, rfl⟩
set_option maxHeartbeats 2000000 in
theorem at_calls (h : Dia w d B b L mb m r n g last held) (k : Int) (hk : (Lit.int .i64 k).wf = true) :
    Calls Try.prog 62 #[.pointer (some ⟨L, 0, none⟩), .int .i64 k] w fun e w' => AtPost w.heap.size (g k) e w' ∧ Below w.heap.size w w' := by
  obtain ⟨f, hf, hh⟩ := h.map
  have x1 := (h.log.alloc (.cells #[.int .i64 0, .int .i64 0, .int .i64 0, .int .i64 0, .slice none 0 0, .int .i64 0, .int .i64 0, .string ⟨#[]⟩, .string ⟨#[]⟩, .slice none 0 0, .slice none 0 0] 58)).cell (i := 1) rfl
  have hlook := (hf.alloc (.cells #[.int .i64 0, .int .i64 0, .int .i64 0, .int .i64 0, .slice none 0 0, .int .i64 0, .int .i64 0, .string ⟨#[]⟩, .string ⟨#[]⟩, .slice none 0 0, .slice none 0 0] 58)).look (t := 156) (e := 58) Try.underlying3 Try.underlying156 (z := .agg #[.int .i64 0, .int .i64 0, .int .i64 0, .int .i64 0, .slice none 0 0, .int .i64 0, .int .i64 0, .string ⟨#[]⟩, .string ⟨#[]⟩, .slice none 0 0, .slice none 0 0]) (by kernel_rfl) hk
  obtain ⟨x, e1, hx, hc, hs, hr, hsome⟩ := hh.get k
  rw [e1, hsome] at hlook
  have X := Lib.hid (hx.rec hc)
  have SM := Lib.hid hs
  obtain ⟨o, ho⟩ : ∃ o, g k = o := ⟨_, rfl⟩
  rw [ho] at hlook hr ⊢
  rw [hr] at X SM
  have ONE := Lib.hid (rc_one x)
  obtain ⟨i, hi⟩ : ∃ i, o.isSome = i := ⟨_, rfl⟩
  unfold AtPost
  rw [hi] at hlook ⊢
  have A0 := Lib.hid ((Row.new w 58 [.int .i64 0, .int .i64 0, .int .i64 0, .int .i64 0, .slice none 0 0, .int .i64 0, .int .i64 0, .string ⟨#[]⟩, .string ⟨#[]⟩, .slice none 0 0, .slice none 0 0]).alloc (.cells #[.int .i64 0, .int .i64 0, .int .i64 0, .int .i64 0, .slice none 0 0, .int .i64 0, .int .i64 0, .string ⟨#[]⟩, .string ⟨#[]⟩, .slice none 0 0, .slice none 0 0] 58))
  have C0 := Lib.hid (show Row ((w.alloc (.cells #[.int .i64 0, .int .i64 0, .int .i64 0, .int .i64 0, .slice none 0 0, .int .i64 0, .int .i64 0, .string ⟨#[]⟩, .string ⟨#[]⟩, .slice none 0 0, .slice none 0 0] 58)).alloc (.cells #[.int .i64 0, .int .i64 0, .int .i64 0, .int .i64 0, .slice none 0 0, .int .i64 0, .int .i64 0, .string ⟨#[]⟩, .string ⟨#[]⟩, .slice none 0 0, .slice none 0 0] 58)) (w.heap.size + 1) 58 [.int .i64 0, .int .i64 0, .int .i64 0, .int .i64 0, .slice none 0 0, .int .i64 0, .int .i64 0, .string ⟨#[]⟩, .string ⟨#[]⟩, .slice none 0 0, .slice none 0 0] from new_at (by simp))
  have B0 := Lib.hid (((Below.refl w.heap.size w).alloc (Nat.le_refl _) (.cells #[.int .i64 0, .int .i64 0, .int .i64 0, .int .i64 0, .slice none 0 0, .int .i64 0, .int .i64 0, .string ⟨#[]⟩, .string ⟨#[]⟩, .slice none 0 0, .slice none 0 0] 58)).alloc (by simp) (.cells #[.int .i64 0, .int .i64 0, .int .i64 0, .int .i64 0, .slice none 0 0, .int .i64 0, .int .i64 0, .string ⟨#[]⟩, .string ⟨#[]⟩, .slice none 0 0, .slice none 0 0] 58))
  clear h hf hh e1 hx hc hs hsome ho hr hi
  go_enter Try.func62, Try.ntmps62
  go_wp2_with (first | (refine store_row C0.out x.recCells 58 (by kernel_rfl) rfl ONE.out rfl rfl rfl rfl ?_; intro w1 h1 k1 z1; have C1 := Lib.hid h1; have A1 := Lib.hid (A0.out.chg k1 (fun e => by have e : w.heap.size = w.heap.size + 1 := e; omega)); have B1 := Lib.hid (B0.out.trans (k1.below (B := w.heap.size) B0.out.size (fun i e => by have e : i = w.heap.size + 1 := e; omega))); clear h1 k1 z1 x1 hlook) | (refine load_row C1.out 58 Try.underlying58 rfl (by kernel_rfl) rfl rfl rfl ?_))
  refine (copied_calls _ _ _ (X.out.keep B1.out) SM.out).mono ?_
  rintro e w2 ⟨⟨v, rfl, hN⟩, k2⟩
  have A2 := Lib.hid (A1.out.below k2 A1.out.lt)
  have B2 := Lib.hid (B1.out.trans (k2.mono B1.out.size))
  have NN := Lib.hid hN
  have AL := Lib.hid A1.out.lt
  obtain ⟨b0, n0, c0, b1, n1, c1, b2, n2, c2, hv, _⟩ := hN
  subst hv
  clear k2
  go_wp2_with (refine store_row A2.out ((o.getD noRec).cells (.slice b0 n0 c0) (.slice b1 n1 c1) (.slice b2 n2 c2)) 58 (by kernel_rfl) rfl (by simp [Rec.cells, Value.oneCell']) rfl rfl rfl rfl ?_; intro w3 h3 k3 z3; have A3 := Lib.hid h3; have N3 := Lib.hid (NewRec.chg (C := w.heap.size) NN.out k3 (fun j hj e => by have e : j = w.heap.size := e; have := AL.out; omega) (by have := AL.out; omega)); have B3 := Lib.hid (B2.out.trans (k3.below (B := w.heap.size) B2.out.size (fun i e => by have e : i = w.heap.size := e; omega))); clear h3 k3 z3)
  exact ret_row2 A3.out Try.results62 Try.underlying58 rfl (by kernel_rfl) rfl rfl ⟨⟨_, rfl, N3.out⟩, B3.out⟩
theorem Dia.logset {w' : World} {last' held' : Int} (h : Dia w d B b L mb m r n g last held) (hc : Chg (One L) w w') (hr : Row w' L 158 (lcells b mb last' held')) (hl : 0 ≤ held' ∧ held' ≤ ((r.size - r.data.length : Nat) : Int)) (hz : -9223372036854775808 ≤ last' ∧ last' ≤ 9223372036854775807) : Dia w' d B b L mb m r n g last' held' := by
  obtain ⟨f, hf, hh⟩ := h.map
  obtain ⟨a1, a2, a3, a4, a5⟩ := h.apart
  exact ⟨is_chg h.reel h.pow.lt hc (fun e => a2 (show b = L from e).symm) (fun k e x => (h.hd k e).2.1 x), h.pow.chg hc (fun e => a1 (show B = L from e).symm), hr, ⟨f, hf.chg hc (fun e => a5 (show mb = L from e)), hh.chg hc (fun k _ e => .inr (.inr (.inr (.inl (show k = L from e)))))⟩, fun k e => ⟨Nat.lt_of_lt_of_le (h.hd k e).1 hc.size, (h.hd k e).2⟩, h.apart, hl, hz, h.hn⟩
theorem Dia.drewN (h : Dia w d B b L mb m r n g last held) (q : Nat) : Dia (w.drewN q) d B b L mb m r n g last held := h.below (below_drewN (Below.refl _ _) q)
def holdE (r : R) (held k : Int) : Int := if k < 0 then 1 else if ((r.size - r.data.length : Nat) : Int) - held < k then 5 else 0
def holdH (r : R) (held k : Int) : Int := if holdE r held k = 0 then held + k else held
set_option maxHeartbeats 1000000 in
theorem hold_calls (h : Dia w d B b L mb m r n g last held) (k : Int) : Calls Try.prog 59 #[.pointer (some ⟨L, 0, none⟩), .int .i64 k] w fun e w' => e = .returned (.int .i64 (holdE r held k)) ∧ Dia w' d B b L mb m r n g last (holdH r held k) ∧ Chg (One L) w w' := by
  have RC := Lib.hid (room_calls h)
  have H := Lib.hid h
  obtain ⟨l1, l2⟩ := h.hl
  obtain ⟨k1, k2, k3⟩ := h.reel.2.2.2.2.1
  by_cases c0 : k < 0
  · have e1 : holdE r held k = 1 := by unfold holdE; rw [if_pos c0]
    have e2 : holdH r held k = held := by unfold holdH; rw [e1]; rfl
    rw [e1, e2]
    clear h RC e1 e2
    go_enter Try.func59, Try.ntmps59
    go_wp2_with fail
    go_ret
    exact ⟨rfl, H.out, Chg.refl _ _⟩
  have c0' : decide (k < 0) = false := by simpa using c0
  by_cases c1 : ((r.size - r.data.length : Nat) : Int) - held < k
  · have e1 : holdE r held k = 5 := by unfold holdE; rw [if_neg c0, if_pos c1]
    have e2 : holdH r held k = held := by unfold holdH; rw [e1]; rfl
    rw [e1, e2]
    clear h e1 e2 c0
    go_enter Try.func59, Try.ntmps59
    go_wp2_with fail
    refine RC.out.mono ?_
    rintro e w1 ⟨rfl, q, rfl⟩
    go_wp2_with fail
    go_ret
    exact ⟨rfl, H.out.drewN q, (Chg.refl _ _).drewN q⟩
  have e1 : holdE r held k = 0 := by unfold holdE; rw [if_neg c0, if_neg c1]
  have e2 : holdH r held k = held + k := by unfold holdH; rw [e1]; rfl
  have c1' : decide (((r.size - r.data.length : Nat) : Int) - held < k) = false := by simpa using c1
  rw [e1, e2]
  have hb : 0 ≤ held + k ∧ held + k ≤ ((r.size - r.data.length : Nat) : Int) := by omega
  have i1 : IntKind.i64.wrap (held + k) = held + k := IntWalk.i64_in _ (by omega)
  clear h e1 e2 c0 c1
  go_enter Try.func59, Try.ntmps59
  go_wp2_with fail
  refine RC.out.mono ?_
  rintro e w1 ⟨rfl, q, rfl⟩
  have x3 := (H.out.drewN q).log.cell (i := 3) rfl
  have f3 := (H.out.drewN q).log.frozen 3 (by simp [lcells])
  go_wp2_with fail
  go_ret
  have hcc : Chg (One L) (w.drewN q) ((w.drewN q).setCell ⟨L, 3, none⟩ (.int .i64 (held + k))) := (Chg.refl _ _).put 3 _
  exact ⟨rfl, (H.out.drewN q).logset hcc (((H.out.drewN q).log.set 3 _).cast rfl) hb H.out.hz, ((Chg.refl _ _).drewN q).trans hcc⟩
def freeH (held k : Int) : Int := if 0 < k then held - (if held < k then held else k) else held
set_option maxHeartbeats 1000000 in
theorem free_calls (h : Dia w d B b L mb m r n g last held) (k : Int) : Calls Try.prog 60 #[.pointer (some ⟨L, 0, none⟩), .int .i64 k] w fun e w' => e = .returned (.tuple #[]) ∧ Dia w' d B b L mb m r n g last (freeH held k) ∧ Chg (One L) w w' := by
  have H := Lib.hid h
  obtain ⟨l1, l2⟩ := h.hl
  obtain ⟨k1, k2, k3⟩ := h.reel.2.2.2.2.1
  by_cases c0 : 0 < k
  · obtain ⟨z, hz⟩ : ∃ z, (if held < k then held else k) = z := ⟨_, rfl⟩
    have e1 : freeH held k = held - z := by unfold freeH; rw [if_pos c0, hz]
    rw [e1]
    have hb : 0 ≤ held - z ∧ held - z ≤ ((r.size - r.data.length : Nat) : Int) := by rw [← hz]; split <;> omega
    have hmin : ∀ W, (Builtin.min_ #[3, 3] 3 #[.int .i64 k, .int .i64 held]).run Try.prog W = .ok (.int .i64 z) W := fun W => by
      rw [min_of_two, min2_ints, hz]
      simp
    have i1 : IntKind.i64.wrap (held - z) = held - z := IntWalk.i64_in _ (by omega)
    have X := Lib.hid h.log
    clear h hz e1
    go_enter Try.func60, Try.ntmps60
    go_wp2_with fail
    replace X := Lib.hid X.out.drew
    replace H := Lib.hid (H.out.below (Below.refl _ _).drew)
    have CW := Lib.hid (Chg.refl (One L) w).drew
    refine Reg.start (fun w' => w'.cell? ⟨L, 3, none⟩ = some (.int .i64 held)) (fun i => i == 13) (by kernel_rfl) (X.out.cell rfl) (fun hHeld => ?_)
    generalize w.drew = wd at *
    refine Reg.takeI 0 (v := ?_) rfl (by kernel_rfl) (by kernel_rfl) (by kernel_rfl) (by kernel_rfl) (fun _ _ _ h => h) (by rfl) ?_ hHeld ?_
    rotate_left 1
    · (intro w hSw; (try dsimp only at hSw); go_simp; try with_reducible rfl)
    try simp only [Act.put, List.setIfInBounds_toArray, List.set_cons_zero, List.set_cons_succ]
    refine Reg.takeI 1 (v := ?_) rfl (by kernel_rfl) (by kernel_rfl) (by kernel_rfl) (by kernel_rfl) (fun _ _ _ h => h) (by rfl) ?_ hHeld ?_
    rotate_left 1
    · (intro w hSw; (try dsimp only at hSw); go_simp; try with_reducible rfl)
    try simp only [Act.put, List.setIfInBounds_toArray, List.set_cons_zero, List.set_cons_succ]
    refine Reg.takeI 2 (v := ?_) rfl (by kernel_rfl) (by kernel_rfl) (by kernel_rfl) (by kernel_rfl) (fun _ _ _ h => h) (by rfl) ?_ hHeld ?_
    rotate_left 1
    · (intro w hSw; (try dsimp only at hSw); go_simp; try with_reducible rfl)
    try simp only [Act.put, List.setIfInBounds_toArray, List.set_cons_zero, List.set_cons_succ]
    refine Reg.takeI 3 (v := ?_) rfl (by kernel_rfl) (by kernel_rfl) (by kernel_rfl) (by kernel_rfl) (fun _ _ _ h => h) (by rfl) ?_ hHeld ?_
    rotate_left 1
    · (intro w hSw; (try dsimp only at hSw); go_simp; try with_reducible rfl)
    try simp only [Act.put, List.setIfInBounds_toArray, List.set_cons_zero, List.set_cons_succ]
    refine Reg.takeI 4 (v := ?_) rfl (by kernel_rfl) (by kernel_rfl) (by kernel_rfl) (by kernel_rfl) (fun _ _ _ h => h) (by rfl) ?_ hHeld ?_
    rotate_left 1
    · (intro w hSw; (try dsimp only at hSw); go_simp; try with_reducible rfl)
    try simp only [Act.put, List.setIfInBounds_toArray, List.set_cons_zero, List.set_cons_succ]
    refine Reg.takeI 5 (v := ?_) rfl (by kernel_rfl) (by kernel_rfl) (by kernel_rfl) (by kernel_rfl) (fun _ _ _ h => h) (by rfl) ?_ hHeld ?_
    rotate_left 1
    · (intro w hSw; (try dsimp only at hSw); go_simp; try with_reducible rfl)
    try simp only [Act.put, List.setIfInBounds_toArray, List.set_cons_zero, List.set_cons_succ]
    refine Reg.takeI 6 (v := ?_) rfl (by kernel_rfl) (by kernel_rfl) (by kernel_rfl) (by kernel_rfl) (fun _ _ _ h => h) (by rfl) ?_ hHeld ?_
    rotate_left 1
    · (intro w hSw; (try dsimp only at hSw); go_simp; try with_reducible rfl)
    try simp only [Act.put, List.setIfInBounds_toArray, List.set_cons_zero, List.set_cons_succ]
    refine Reg.takeI 7 (v := ?_) rfl (by kernel_rfl) (by kernel_rfl) (by kernel_rfl) (by kernel_rfl) (fun _ _ _ h => h) (by rfl) ?_ hHeld ?_
    rotate_left 1
    · (intro w hSw; (try dsimp only at hSw); go_simp; try with_reducible rfl)
    try simp only [Act.put, List.setIfInBounds_toArray, List.set_cons_zero, List.set_cons_succ]
    refine Reg.takeI 8 (v := ?_) rfl (by kernel_rfl) (by kernel_rfl) (by kernel_rfl) (by kernel_rfl) (fun _ _ _ h => h) (by rfl) ?_ hHeld ?_
    rotate_left 1
    · (intro w hSw; (try dsimp only at hSw); go_simp; try with_reducible rfl)
    try simp only [Act.put, List.setIfInBounds_toArray, List.set_cons_zero, List.set_cons_succ]
    refine Reg.takeI 9 (v := ?_) rfl (by kernel_rfl) (by kernel_rfl) (by kernel_rfl) (by kernel_rfl) (fun _ _ _ h => h) (by rfl) ?_ hHeld ?_
    rotate_left 1
    · (intro w hSw; (try dsimp only at hSw); go_simp; try with_reducible rfl)
    try simp only [Act.put, List.setIfInBounds_toArray, List.set_cons_zero, List.set_cons_succ]
    refine Reg.takeI 10 (v := ?_) rfl (by kernel_rfl) (by kernel_rfl) (by kernel_rfl) (by kernel_rfl) (fun _ _ _ h => h) (by rfl) ?_ hHeld ?_
    rotate_left 1
    · (intro w hSw; (try dsimp only at hSw); go_simp; try with_reducible rfl)
    try simp only [Act.put, List.setIfInBounds_toArray, List.set_cons_zero, List.set_cons_succ]
    refine Reg.oneI 11 rfl (by kernel_rfl) (by rfl) (fun K hK => ?_)
    go_simp
    refine hK.out _ _ (fun _ => (X.out.cell rfl)) (fun hHeld => ?_)
    replace hHeld := hHeld (by first | rfl | trivial)
    clear hK K
    try simp only [Act.put, List.setIfInBounds_toArray, List.set_cons_zero, List.set_cons_succ]
    refine Reg.takeI 12 (v := ?_) rfl (by kernel_rfl) (by kernel_rfl) (by kernel_rfl) (by kernel_rfl) (fun _ _ _ h => h) (by rfl) ?_ hHeld ?_
    rotate_left 1
    · (intro w hSw; (try dsimp only at hSw); go_simp; try with_reducible rfl)
    try simp only [Act.put, List.setIfInBounds_toArray, List.set_cons_zero, List.set_cons_succ]
    refine Reg.oneI 13 rfl (by kernel_rfl) (by rfl) (fun K hK => ?_)
    have x3 := X.out.cell (i := 3) rfl
    have f3 := X.out.frozen 3 (by simp [lcells])
    go_simp
    refine hK.out _ _ (fun h => by cases h) (fun _ => ?_)
    clear hK K
    try simp only [Act.put, List.setIfInBounds_toArray, List.set_cons_zero, List.set_cons_succ]
    refine Reg.doneI (by kernel_rfl) ?_
    go_wp2_with fail
    go_end0
    have hcc : Chg (One L) wd (wd.setCell ⟨L, 3, none⟩ (.int .i64 (held - z))) := (Chg.refl _ _).put 3 _
    exact ⟨rfl, H.out.logset hcc ((X.out.set 3 _).cast rfl) hb H.out.hz, CW.out.trans hcc⟩
  · have c0' : decide (0 < k) = false := by simpa using c0
    have e1 : freeH held k = held := by unfold freeH; rw [if_neg c0]
    rw [e1]
    clear h e1
    go_enter Try.func60, Try.ntmps60
    go_wp2_with fail
    go_end0
    exact ⟨rfl, H.out, Chg.refl _ _⟩
/-- A row that is a block of its own is loaded, in whatever world. -/
theorem exec_row {P : Program} {o : Oper} {a : Act} {w : World} {b : Nat} {e : TypeId} {cs : List Value} (hr : Row w b e cs) (ty : TypeId) {d : TypeDesc} (hu : P.underlying ty = some d) (hd : d.isRow = true) (hs : (P.info? ty).map (·.size) = some cs.length)
    {y : Operand} (ho : o.op = .load ty y) (hy : a.eval y = .pointer (some ⟨b, 0, none⟩)) : (execOp a.eval o).run P w = .ok (.value (.agg cs.toArray)) w := by
  have hl : (loadCells ⟨b, 0, none⟩ cs.length).run P w = .ok cs.toArray w :=
    run_loadCells_list (P := P) w _ _ (fun j v hv => by
      have ha : (⟨b, 0, none⟩ : Addr).add j = ⟨b, j, none⟩ := by unfold Addr.add; split <;> simp_all
      rw [ha]
      exact hr.cell hv)
  have hv : (loadVar ty ⟨b, 0, none⟩).run P w = .ok (.agg cs.toArray) w := by
    cases hq : P.info? ty with
    | none => simp [hq] at hs
    | some i0 =>
      have hs' : i0.size = cs.length := by simpa [hq] using hs
      have hagg : (isAgg ty).run P w = .ok true w := by
        unfold isAgg
        rw [Sem.run_bind, run_underlying hu w]
        cases d <;> simp_all
      simp [loadVar, Sem.run_bind, hagg, sizeOf, typeInfo, hq, hs', hl]
  unfold execOp
  simp only [ho, hy, Instr.loadAt, Instr.sureAddr, Sem.run_bind, Sem.run_pure, Result.andThen_ok, hv]
theorem NewRec.keep {A : Nat} {w' : World} {v : Value} {q : Rec} (h : NewRec A w v q) (hb : Below w.heap.size w w') : NewRec A w' v q := by
  obtain ⟨a0, n0, c0, a1, n1, c1, a2, n2, c2, e, ⟨p0, p1, p2⟩, z, u⟩ := h
  exact ⟨a0, n0, c0, a1, n1, c1, a2, n2, c2, e, ⟨p0.keep hb, p1.keep hb, p2.keep hb⟩, z, u⟩
/-- A new record in a world, with its parts told. -/
theorem NewRec.size_calls {A : Nat} {v : Value} {q : Rec} (h : NewRec A w v q) (hs : q.small) : Calls Try.prog 65 #[v] w fun e w' => e = .returned (.int .i64 (q.size : Int)) ∧ Below w.heap.size w w' := by
  obtain ⟨a0, n0, c0, a1, n1, c1, a2, n2, c2, rfl, ⟨p0, p1, p2⟩, _⟩ := h
  obtain ⟨s0, s1, s2, s3, s4⟩ := hs
  rw [p0.1] at s0
  rw [p1.1] at s1
  rw [p2.1] at s2
  exact Note.size_calls q a0 n0 c0 a1 n1 c1 a2 n2 c2 w p0 p1 p2 s3 s4 s0 s1 s2
def isSafe (r : R) (k : Int) (o : Option Rec) : Bool := match o with
  | none => false
  | some q => decide (k - 1 + (q.size : Int) ≤ (r.safe : Int))
set_option maxHeartbeats 2000000 in
theorem issafe_calls (h : Dia w d B b L mb m r n g last held) (k : Int) (hk : (Lit.int .i64 k).wf = true) (hkb : ∀ q, g k = some q → 1 ≤ k ∧ k ≤ 1000000 ∧ q.size ≤ 1000000) :
    Calls Try.prog 63 #[.pointer (some ⟨L, 0, none⟩), .int .i64 k] w fun e w' => e = .returned (.bool (isSafe r k (g k))) ∧ Below w.heap.size w w' := by
  have AC := Lib.hid (at_calls h k hk)
  have HH := Lib.hid h
  obtain ⟨f, hf, hh⟩ := h.map
  obtain ⟨x, e1, hx, hc, hs, hr, hsome⟩ := hh.get k
  rw [hr] at hs
  have SM := Lib.hid hs
  obtain ⟨o, ho⟩ : ∃ o, g k = o := ⟨_, rfl⟩
  rw [ho] at SM AC hkb ⊢
  obtain ⟨sf, hsf⟩ : ∃ sf, isSafe r k o = sf := ⟨_, rfl⟩
  rw [hsf]
  have HSF := Lib.hid hsf
  clear h hf hh e1 hx hc hs hsome ho hr hsf
  go_enter Try.func63, Try.ntmps63
  go_wp2_with fail
  refine AC.out.mono ?_
  rintro e w1 ⟨⟨v, rfl, hN⟩, k1⟩
  have B1 := Lib.hid k1
  have H1 := Lib.hid (HH.out.below k1)
  have NN := Lib.hid hN
  obtain ⟨b0, n0, c0, b1, n1, c1, b2, n2, c2, hv, _⟩ := hN
  subst hv
  have C0 := Lib.hid (Row.new w1 58 [.int .i64 0, .int .i64 0, .int .i64 0, .int .i64 0, .slice none 0 0, .int .i64 0, .int .i64 0, .string ⟨#[]⟩, .string ⟨#[]⟩, .slice none 0 0, .slice none 0 0])
  have B2 := Lib.hid ((Below.refl w1.heap.size w1).alloc (Nat.le_refl _) (.cells #[.int .i64 0, .int .i64 0, .int .i64 0, .int .i64 0, .slice none 0 0, .int .i64 0, .int .i64 0, .string ⟨#[]⟩, .string ⟨#[]⟩, .slice none 0 0, .slice none 0 0] 58))
  clear k1 AC
  cases o with
  | none =>
    go_wp2_with (refine store_row C0.out ((Option.none.getD noRec).cells (.slice b0 n0 c0) (.slice b1 n1 c1) (.slice b2 n2 c2)) 58 (by kernel_rfl) rfl (by simp [Rec.cells, Value.oneCell']) rfl rfl rfl rfl ?_; intro w3 h3 k3 z3; have C3 := Lib.hid h3; have B3 := Lib.hid (B2.out.trans (k3.below (B := w1.heap.size) B2.out.size (fun i e => by have e : i = w1.heap.size := e; omega))); clear h3 k3 z3)
    clear C0 C3
    obtain rfl : false = sf := HSF.out
    have KB := Lib.hid (Below.refl w3.heap.size w3).drew
    refine Reg.start (fun w' => Below w3.heap.size w3 w') (fun i => false) (by kernel_rfl) KB.out (fun hHeld => ?_)
    generalize w3.drew = wd at *
    refine Reg.takeI 0 (v := ?_) rfl (by kernel_rfl) (by kernel_rfl) (by kernel_rfl) (by kernel_rfl) (fun _ _ _ h => h) (by rfl) ?_ hHeld ?_
    rotate_left 1
    · (intro w hSw; (try dsimp only at hSw); go_simp; try with_reducible rfl)
    try simp only [Act.put, List.setIfInBounds_toArray, List.set_cons_zero, List.set_cons_succ]
    refine Reg.takeI 1 (v := ?_) rfl (by kernel_rfl) (by kernel_rfl) (by kernel_rfl) (by kernel_rfl) (fun _ _ _ h => h) (by rfl) ?_ hHeld ?_
    rotate_left 1
    · (intro w hSw; (try dsimp only at hSw); go_simp; try with_reducible rfl)
    try simp only [Act.put, List.setIfInBounds_toArray, List.set_cons_zero, List.set_cons_succ]
    refine Reg.passI 2 rfl (by kernel_rfl) (by kernel_rfl) (by kernel_rfl) (by kernel_rfl) (fun _ _ _ h => h) (by rfl) hHeld ?_
    try simp only [Act.put, List.setIfInBounds_toArray, List.set_cons_zero, List.set_cons_succ]
    refine Reg.passI 3 rfl (by kernel_rfl) (by kernel_rfl) (by kernel_rfl) (by kernel_rfl) (fun _ _ _ h => h) (by rfl) hHeld ?_
    try simp only [Act.put, List.setIfInBounds_toArray, List.set_cons_zero, List.set_cons_succ]
    refine Reg.passI 4 rfl (by kernel_rfl) (by kernel_rfl) (by kernel_rfl) (by kernel_rfl) (fun _ _ _ h => h) (by rfl) hHeld ?_
    try simp only [Act.put, List.setIfInBounds_toArray, List.set_cons_zero, List.set_cons_succ]
    refine Reg.passI 5 rfl (by kernel_rfl) (by kernel_rfl) (by kernel_rfl) (by kernel_rfl) (fun _ _ _ h => h) (by rfl) hHeld ?_
    try simp only [Act.put, List.setIfInBounds_toArray, List.set_cons_zero, List.set_cons_succ]
    refine Reg.passI 6 rfl (by kernel_rfl) (by kernel_rfl) (by kernel_rfl) (by kernel_rfl) (fun _ _ _ h => h) (by rfl) hHeld ?_
    try simp only [Act.put, List.setIfInBounds_toArray, List.set_cons_zero, List.set_cons_succ]
    refine Reg.passI 7 rfl (by kernel_rfl) (by kernel_rfl) (by kernel_rfl) (by kernel_rfl) (fun _ _ _ h => h) (by rfl) hHeld ?_
    try simp only [Act.put, List.setIfInBounds_toArray, List.set_cons_zero, List.set_cons_succ]
    refine Reg.passI 8 rfl (by kernel_rfl) (by kernel_rfl) (by kernel_rfl) (by kernel_rfl) (fun _ _ _ h => h) (by rfl) hHeld ?_
    try simp only [Act.put, List.setIfInBounds_toArray, List.set_cons_zero, List.set_cons_succ]
    refine Reg.passI 9 rfl (by kernel_rfl) (by kernel_rfl) (by kernel_rfl) (by kernel_rfl) (fun _ _ _ h => h) (by rfl) hHeld ?_
    try simp only [Act.put, List.setIfInBounds_toArray, List.set_cons_zero, List.set_cons_succ]
    refine Reg.passI 10 rfl (by kernel_rfl) (by kernel_rfl) (by kernel_rfl) (by kernel_rfl) (fun _ _ _ h => h) (by rfl) hHeld ?_
    try simp only [Act.put, List.setIfInBounds_toArray, List.set_cons_zero, List.set_cons_succ]
    refine Reg.passI 11 rfl (by kernel_rfl) (by kernel_rfl) (by kernel_rfl) (by kernel_rfl) (fun _ _ _ h => h) (by rfl) hHeld ?_
    try simp only [Act.put, List.setIfInBounds_toArray, List.set_cons_zero, List.set_cons_succ]
    refine Reg.passI 12 rfl (by kernel_rfl) (by kernel_rfl) (by kernel_rfl) (by kernel_rfl) (fun _ _ _ h => h) (by rfl) hHeld ?_
    try simp only [Act.put, List.setIfInBounds_toArray, List.set_cons_zero, List.set_cons_succ]
    refine Reg.takeI 13 (v := ?_) rfl (by kernel_rfl) (by kernel_rfl) (by kernel_rfl) (by kernel_rfl) (fun _ _ _ h => h) (by rfl) ?_ hHeld ?_
    rotate_left 1
    · (intro w hSw; (try dsimp only at hSw); go_simp; try with_reducible rfl)
    try simp only [Act.put, List.setIfInBounds_toArray, List.set_cons_zero, List.set_cons_succ]
    refine Reg.takeI 14 (v := ?_) rfl (by kernel_rfl) (by kernel_rfl) (by kernel_rfl) (by kernel_rfl) (fun _ _ _ h => h) (by rfl) ?_ hHeld ?_
    rotate_left 1
    · (intro w hSw; (try dsimp only at hSw); go_simp; try with_reducible rfl)
    try simp only [Act.put, List.setIfInBounds_toArray, List.set_cons_zero, List.set_cons_succ]
    refine Reg.doneI (by kernel_rfl) ?_
    go_wp2_with fail
    go_ret
    exact ⟨rfl, B1.out.trans ((B3.out.trans (KB.out.mono B3.out.size)).mono B1.out.size)⟩
  | some q =>
    obtain ⟨kb1, kb2, kb3⟩ := hkb q rfl
    clear hkb
    go_wp2_with (refine store_row C0.out (((some q).getD noRec).cells (.slice b0 n0 c0) (.slice b1 n1 c1) (.slice b2 n2 c2)) 58 (by kernel_rfl) rfl (by simp [Rec.cells, Value.oneCell']) rfl rfl rfl rfl ?_; intro w3 h3 k3 z3; have C3 := Lib.hid h3; have B3 := Lib.hid (B2.out.trans (k3.below (B := w1.heap.size) B2.out.size (fun i e => by have e : i = w1.heap.size := e; omega))); clear h3 k3 z3)
    have H3 := Lib.hid (H1.out.below B3.out)
    have x0 := H3.out.log.cell (i := 0) rfl
    have X0 := Lib.hid x0
    have XL := Lib.hid H3.out.log.lt
    have N3 := Lib.hid (NewRec.keep NN.out B3.out)
    have i1 : IntKind.i64.wrap (k - 1) = k - 1 := IntWalk.i64_in _ (by omega)
    have i2 : IntKind.i64.wrap (k - 1 + (q.size : Int)) = k - 1 + (q.size : Int) := IntWalk.i64_in _ (by omega)
    have KB := Lib.hid (show Below w3.heap.size w3 w3.drew ∧ w3.drew.cell? ⟨L, 0, none⟩ = some (.pointer (some ⟨b, 0, none⟩)) from ⟨(Below.refl w3.heap.size w3).drew, x0⟩)
    clear C0 x0 H1
    have hsf2 : decide (k - 1 + (q.size : Int) ≤ (r.safe : Int)) = sf := HSF.out
    have KX := Lib.hid (fun (wx : World) (hb : Below w3.heap.size w3 wx) => (show wx.cell? ⟨L, 0, none⟩ = some (.pointer (some ⟨b, 0, none⟩)) from (hb.cell (p := ⟨L, 0, none⟩) XL.out).trans X0.out))
    refine Reg.start (fun w' => Below w3.heap.size w3 w' ∧ w'.cell? ⟨L, 0, none⟩ = some (.pointer (some ⟨b, 0, none⟩))) (fun i => false) (by kernel_rfl) KB.out (fun hHeld => ?_)
    generalize w3.drew = wd at *
    refine Reg.takeI 0 (v := ?_) rfl (by kernel_rfl) (by kernel_rfl) (by kernel_rfl) (by kernel_rfl) (fun _ _ _ h => h) (by rfl) ?_ hHeld ?_
    rotate_left 1
    · (intro w hSw; (try dsimp only at hSw); go_simp; try with_reducible rfl)
    try simp only [Act.put, List.setIfInBounds_toArray, List.set_cons_zero, List.set_cons_succ]
    refine Reg.takeI 1 (v := ?_) rfl (by kernel_rfl) (by kernel_rfl) (by kernel_rfl) (by kernel_rfl) (fun _ _ _ h => h) (by rfl) ?_ hHeld ?_
    rotate_left 1
    · (intro w hSw; (try dsimp only at hSw); go_simp; try with_reducible rfl)
    try simp only [Act.put, List.setIfInBounds_toArray, List.set_cons_zero, List.set_cons_succ]
    refine Reg.takeI 2 (v := ?_) rfl (by kernel_rfl) (by kernel_rfl) (by kernel_rfl) (by kernel_rfl) (fun _ _ _ h => h) (by rfl) ?_ hHeld ?_
    rotate_left 1
    · (intro w hSw; (try dsimp only at hSw); go_simp; try with_reducible rfl)
    try simp only [Act.put, List.setIfInBounds_toArray, List.set_cons_zero, List.set_cons_succ]
    refine Reg.takeI 3 (v := ?_) rfl (by kernel_rfl) (by kernel_rfl) (by kernel_rfl) (by kernel_rfl) (fun _ _ _ h => h) (by rfl) ?_ hHeld ?_
    rotate_left 1
    · (intro w hSw; (try dsimp only at hSw); go_simp; try with_reducible rfl)
    try simp only [Act.put, List.setIfInBounds_toArray, List.set_cons_zero, List.set_cons_succ]
    refine Reg.takeI 4 (v := .agg ((q.cells (.slice b0 n0 c0) (.slice b1 n1 c1) (.slice b2 n2 c2))).toArray) rfl (by kernel_rfl) (by kernel_rfl) (by kernel_rfl) (by kernel_rfl) (fun _ _ _ h => h) (by rfl) ?_ hHeld ?_
    · intro w hSw
      exact exec_row (C3.out.below hSw.1 C3.out.lt) 58 Try.underlying58 rfl (by kernel_rfl) (by rfl) (by rfl)
    try simp only [Act.put, List.setIfInBounds_toArray, List.set_cons_zero, List.set_cons_succ]
    refine Reg.takeI 7 (v := ?_) rfl (by kernel_rfl) (by kernel_rfl) (by kernel_rfl) (by kernel_rfl) (fun _ _ _ h => h) (by rfl) ?_ hHeld ?_
    rotate_left 1
    · (intro w hSw; (try dsimp only at hSw); go_simp; try with_reducible rfl)
    try simp only [Act.put, List.setIfInBounds_toArray, List.set_cons_zero, List.set_cons_succ]
    refine Reg.takeI 8 (v := ?_) rfl (by kernel_rfl) (by kernel_rfl) (by kernel_rfl) (by kernel_rfl) (fun _ _ _ h => h) (by rfl) ?_ hHeld ?_
    rotate_left 1
    · (intro w hSw; (try dsimp only at hSw); go_simp; try with_reducible rfl)
    try simp only [Act.put, List.setIfInBounds_toArray, List.set_cons_zero, List.set_cons_succ]
    refine Reg.takeI 9 (v := ?_) rfl (by kernel_rfl) (by kernel_rfl) (by kernel_rfl) (by kernel_rfl) (fun _ _ _ h => h) (by rfl) ?_ hHeld ?_
    rotate_left 1
    · (intro w hSw; (try dsimp only at hSw); go_simp; try with_reducible rfl)
    try simp only [Act.put, List.setIfInBounds_toArray, List.set_cons_zero, List.set_cons_succ]
    refine Reg.takeI 10 (v := ?_) rfl (by kernel_rfl) (by kernel_rfl) (by kernel_rfl) (by kernel_rfl) (fun _ _ _ h => h) (by rfl) ?_ hHeld ?_
    rotate_left 1
    · (intro w hSw; (try dsimp only at hSw); go_simp; try with_reducible rfl)
    try simp only [Act.put, List.setIfInBounds_toArray, List.set_cons_zero, List.set_cons_succ]
    refine Reg.oneI 5 rfl (by kernel_rfl) (by rfl) (fun K hK => ?_)
    go_simp
    go_at_call 65
    refine (NewRec.size_calls (NewRec.keep N3.out KB.out.1) SM.out).mono ?_
    rintro e w5 ⟨rfl, k5⟩
    replace KB := Lib.hid (show Below w3.heap.size w3 w5 ∧ _ from ⟨KB.out.1.trans (k5.mono KB.out.1.size), KX.out _ (KB.out.1.trans (k5.mono KB.out.1.size))⟩)
    clear k5
    go_wp2_with fail
    refine hK.out _ _ (fun _ => KB.out) (fun hHeld => ?_)
    replace hHeld := hHeld (by first | rfl | trivial)
    clear hK K
    try simp only [Act.put, List.setIfInBounds_toArray, List.set_cons_zero, List.set_cons_succ]
    refine Reg.takeI 6 (v := ?_) rfl (by kernel_rfl) (by kernel_rfl) (by kernel_rfl) (by kernel_rfl) (fun _ _ _ h => h) (by rfl) ?_ hHeld ?_
    rotate_left 1
    · (intro w hSw; (try dsimp only at hSw); go_simp; try with_reducible rfl)
    try simp only [Act.put, List.setIfInBounds_toArray, List.set_cons_zero, List.set_cons_succ]
    refine Reg.oneI 11 rfl (by kernel_rfl) (by rfl) (fun K hK => ?_)
    go_simp
    go_at_call 30
    refine (safe_calls _ _ _ _ _ (H3.out.below KB.out.1).reel).mono ?_
    rintro e w6 ⟨rfl, rfl⟩
    go_wp2_with fail
    refine hK.out _ _ (fun _ => KB.out) (fun hHeld => ?_)
    replace hHeld := hHeld (by first | rfl | trivial)
    clear hK K
    try simp only [Act.put, List.setIfInBounds_toArray, List.set_cons_zero, List.set_cons_succ]
    refine Reg.takeI 12 (v := ?_) rfl (by kernel_rfl) (by kernel_rfl) (by kernel_rfl) (by kernel_rfl) (fun _ _ _ h => h) (by rfl) ?_ hHeld ?_
    rotate_left 1
    · (intro w hSw; (try dsimp only at hSw); go_simp; try with_reducible rfl)
    try simp only [Act.put, List.setIfInBounds_toArray, List.set_cons_zero, List.set_cons_succ]
    refine Reg.takeI 13 (v := ?_) rfl (by kernel_rfl) (by kernel_rfl) (by kernel_rfl) (by kernel_rfl) (fun _ _ _ h => h) (by rfl) ?_ hHeld ?_
    rotate_left 1
    · (intro w hSw; (try dsimp only at hSw); go_simp; try with_reducible rfl)
    try simp only [Act.put, List.setIfInBounds_toArray, List.set_cons_zero, List.set_cons_succ]
    refine Reg.takeI 14 (v := ?_) rfl (by kernel_rfl) (by kernel_rfl) (by kernel_rfl) (by kernel_rfl) (fun _ _ _ h => h) (by rfl) ?_ hHeld ?_
    rotate_left 1
    · (intro w hSw; (try dsimp only at hSw); go_simp; try with_reducible rfl)
    try simp only [Act.put, List.setIfInBounds_toArray, List.set_cons_zero, List.set_cons_succ]
    refine Reg.doneI (by kernel_rfl) ?_
    go_wp2_with fail
    go_ret
    exact ⟨rfl, B1.out.trans ((B3.out.trans (KB.out.1.mono B3.out.size)).mono B1.out.size)⟩
end
end Go.Proofs.Ytcfjooeagfollaa.Dia
