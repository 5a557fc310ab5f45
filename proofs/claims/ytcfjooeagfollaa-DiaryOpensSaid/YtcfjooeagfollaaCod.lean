/- How values of Go's types lie in cells, as plain values; what a row's argument reads as. -/
import Derived.Test.YtcfjooeagfollaaChg
import Derived.ChangeArms
import Derived.OpenShut
import Derived.Deep.Slices
import Derived.DataReads
namespace Go.Proofs.Ytcfjooeagfollaa.Mem
open Go.RowKit Go.ChangeShapes Go.WideShapes Go.Deep
set_option linter.unusedSimpArgs false
set_option linter.unusedVariables false
set_option maxRecDepth 20000

/-- A way to hold plain values in so many cells. -/
structure Cod (α : Type) where
  sz : Nat
  R : World → List Value → α → Prop
  len : ∀ {w cs x}, R w cs x → cs.length = sz
  keep : ∀ {w w' cs x}, R w cs x → Below w.heap.size w w' → R w' cs x

def Cod.int (k : IntKind) : Cod Int := ⟨1, fun _ cs n => cs = [.int k n] ∧ (Lit.int k n).wf = true, fun h => by rw [h.1]; rfl, fun h _ => h⟩
def Cod.bool : Cod Bool := ⟨1, fun _ cs b => cs = [.bool b], fun h => by rw [h]; rfl, fun h _ => h⟩
def Cod.str : Cod ByteArray := ⟨1, fun _ cs s => cs = [.string s] ∧ s.size ≤ maxLen, fun h => by rw [h.1]; rfl, fun h _ => h⟩
def Cod.unit : Cod Unit := ⟨0, fun _ cs _ => cs = [], fun h => by rw [h]; rfl, fun h _ => h⟩
def Cod.pair {α β : Type} (c : Cod α) (d : Cod β) : Cod (α × β) :=
  ⟨c.sz + d.sz, fun w cs x => ∃ cs1 cs2, cs = cs1 ++ cs2 ∧ c.R w cs1 x.1 ∧ d.R w cs2 x.2, fun ⟨a, b, e, h1, h2⟩ => by rw [e, List.length_append, c.len h1, d.len h2], fun ⟨a, b, e, h1, h2⟩ hb => ⟨a, b, e, c.keep h1 hb, d.keep h2 hb⟩⟩
def Cod.map {α β : Type} (c : Cod α) (f : α → β) : Cod β :=
  ⟨c.sz, fun w cs y => ∃ x, c.R w cs x ∧ y = f x, fun ⟨x, h, _⟩ => c.len h, fun ⟨x, h, e⟩ hb => ⟨x, c.keep h hb, e⟩⟩

/-- A slice's elements, in memory: at every index below the length. -/
def Cod.Row {α : Type} (c : Cod α) (w : World) (a : Option Addr) (n : Nat) (xs : List α) : Prop :=
  xs.length = n ∧ ∀ i (h : i < xs.length), ∃ ad cs, a = some ad ∧ (c.sz = 0 ∨ ad.block < w.heap.size) ∧ (∀ j, j < c.sz → w.cell? (ad.add (i * c.sz + j)) = cs[j]?) ∧ c.R w cs xs[i]

theorem Cod.Row.keep {α : Type} {c : Cod α} {w w' : World} {a : Option Addr} {n : Nat} {xs : List α} (h : c.Row w a n xs) (hb : Below w.heap.size w w') : c.Row w' a n xs := by
  refine ⟨h.1, fun i hi => ?_⟩
  obtain ⟨ad, cs, ha, hl, hc, hR⟩ := h.2 i hi
  refine ⟨ad, cs, ha, hl.imp id (fun h => Nat.lt_of_lt_of_le h hb.size), fun j hj => ?_, c.keep hR hb⟩
  rw [← hc j hj]
  refine hb.cell ?_
  rcases hl with h0 | h0
  · omega
  · rw [show (ad.add (i * c.sz + j)).block = ad.block from by unfold Addr.add; split <;> rfl]
    exact h0

def Cod.slice {α : Type} (c : Cod α) : Cod (List α) :=
  ⟨1, fun w cs xs => ∃ a n cap, cs = [.slice a n cap] ∧ n ≤ cap ∧ cap ≤ maxLen ∧ (a = none → n = 0 ∧ cap = 0) ∧ c.Row w a n xs, fun ⟨_, _, _, e, _⟩ => by rw [e]; rfl, fun ⟨a, n, cap, e, h1, h2, h3, h4⟩ hb => ⟨a, n, cap, e, h1, h2, h3, h4.keep hb⟩⟩

/-! What a reading gives. -/
section
variable {H : Type} {enc : TypeId × Value → H} {P : Program} {W : World}

def Trods (enc : TypeId × Value → H) (P : Program) (W : World) {α : Type} (t : TypeId) (c : Cod α) : Prop :=
  c.sz = P.cellsOf t ∧ ∀ (fuel : Nat) (cs : List Value) (x : DataW H × List MemPlace), DataW.trod enc P W 0 (fun _ => true) true fuel t cs = some x → ∃ y, c.R W cs y

theorem trods_int {t : TypeId} {k : IntKind} (ht : P.underlying t = some (.int k)) (hs : P.cellsOf t = 1) : Trods enc P W t (Cod.int k) :=
  ⟨hs.symm, fun fuel cs x h => by
    obtain ⟨n, hc, _, hw⟩ := DataW.trod_int ht h
    exact ⟨n, hc, hw⟩⟩
theorem trods_bool {t : TypeId} (ht : P.underlying t = some .bool) (hs : P.cellsOf t = 1) : Trods enc P W t Cod.bool :=
  ⟨hs.symm, fun fuel cs x h => by
    obtain ⟨n, hc, _⟩ := DataW.trod_bool ht h
    exact ⟨n, hc⟩⟩
theorem trods_str {t : TypeId} (ht : P.underlying t = some .string) (hs : P.cellsOf t = 1) : Trods enc P W t Cod.str :=
  ⟨hs.symm, fun fuel cs x h => by
    obtain ⟨n, hc, _, hw⟩ := DataW.trod_string ht h
    exact ⟨n, hc, hw⟩⟩

theorem trods_slice {α : Type} {c : Cod α} {t e : TypeId} (ht : P.underlying t = some (.slice e)) (hs : P.cellsOf t = 1) (hc : Trods enc P W e c) : Trods enc P W t c.slice := by
  refine ⟨hs.symm, fun fuel cs x h => ?_⟩
  rcases open_slice ht h with ⟨rfl, _⟩ | ⟨a, len, cap, m, n, D, Pl, rfl, hb, hl, hm, hmm, hxe, hi⟩
  · exact ⟨[], none, 0, 0, rfl, Nat.le_refl _, by unfold maxLen; omega, fun _ => ⟨rfl, rfl⟩, rfl, fun i hi => by simp at hi⟩
  · have hmm' : m = cap := by simpa using hmm
    subst hmm'
    clear hxe
    have key : ∀ i, i < len → ∃ y cs', (∀ j, j < c.sz → W.cell? (a.add (i * c.sz + j)) = cs'[j]?) ∧ c.R W cs' y ∧ (c.sz = 0 ∨ a.block < W.heap.size) := by
      intro i hil
      obtain ⟨cs', h1, h2⟩ := hi i (by omega)
      obtain ⟨y, hy⟩ := hc.2 _ _ _ h2
      obtain ⟨_, hlen, hat⟩ := World.cells?_some h1
      have hat' : ∀ j, j < c.sz → W.cell? (a.add (i * c.sz + j)) = cs'[j]? := by
        intro j hj
        rw [hc.1] at hj ⊢
        rw [← hat j hj, add_add]
      refine ⟨y, cs', hat', hy, ?_⟩
      rcases Nat.eq_zero_or_pos c.sz with h0 | hp
      · exact .inl h0
      · right
        have := hat' 0 hp
        have hl2 := c.len hy
        rw [List.getElem?_eq_getElem (by omega)] at this
        have hb := World.block_lt_of_cell? W _ this
        rwa [show (a.add (i * c.sz + 0)).block = a.block from by unfold Addr.add; split <;> rfl] at hb
    have hex : ∃ ys : List α, ys.length = len ∧ ∀ i (h : i < ys.length), ∃ cs', (∀ j, j < c.sz → W.cell? (a.add (i * c.sz + j)) = cs'[j]?) ∧ c.R W cs' ys[i] ∧ (c.sz = 0 ∨ a.block < W.heap.size) := by
      clear hi hmm h hl
      induction len with
      | zero => exact ⟨[], rfl, fun i h => by simp at h⟩
      | succ len ih =>
        obtain ⟨ys, hl, hy⟩ := ih (fun i (hi : i < len) => key i (Nat.lt_succ_of_lt hi))
        obtain ⟨y, cs', h1, h2, h3⟩ := key len (by omega)
        refine ⟨ys ++ [y], by simp [hl], fun i h => ?_⟩
        rcases Nat.lt_or_ge i ys.length with hlt | hge
        · rw [List.getElem_append_left hlt]
          exact hy i hlt
        · have : i = len := by simp at h; omega
          subst this
          rw [List.getElem_append_right hge]
          simp only [hl, Nat.sub_self, List.getElem_cons_zero]
          exact ⟨cs', h1, h2, h3⟩
    obtain ⟨ys, hyl, hy⟩ := hex
    refine ⟨ys, some a, len, _, rfl, hl, hm, (fun h => by cases h), hyl, fun i hi' => ?_⟩
    obtain ⟨cs', h1, h2, h3⟩ := hy i hi'
    exact ⟨a, cs', rfl, h3, h1, h2⟩

/-- The fields of a struct from one on. -/
def TrodsF (enc : TypeId × Value → H) (P : Program) (W : World) {α : Type} (fs : List Field) (off : Nat) (c : Cod α) : Prop :=
  ∀ (n : Nat) (cs : List Value) (xs : List (DataW H × List MemPlace)), cs.length = off + c.sz → xs.length = fs.length →
    (∀ (i : Nat) (f : Field), fs[i]? = some f → DataW.trod enc P W 0 (fun _ => true) true n f.type ((cs.drop f.offset).take (P.cellsOf f.type)) = xs[i]?) → ∃ y, c.R W (cs.drop off) y

theorem trodsF_nil (off : Nat) : TrodsF enc P W [] off Cod.unit := fun n cs xs hl _ _ => ⟨(), List.drop_eq_nil_of_le (by rw [hl]; exact Nat.le_refl _)⟩
theorem trodsF_cons {α β : Type} {c : Cod α} {d : Cod β} {f : Field} {fs : List Field} {off : Nat} (ho : f.offset = off) (hf : Trods enc P W f.type c) (hfs : TrodsF enc P W fs (off + c.sz) d) : TrodsF enc P W (f :: fs) off (c.pair d) := by
  intro n cs xs hl hx h
  match xs, hx with
  | x :: xs, hx =>
    have h0 := h 0 f rfl
    rw [ho, ← hf.1] at h0
    obtain ⟨y, hy⟩ := hf.2 _ _ _ h0
    obtain ⟨z, hz⟩ := hfs n cs xs (by rw [hl]; show off + (c.sz + d.sz) = _; omega) (by simpa using hx) (fun i g hg => by simpa using h (i + 1) g (by simpa using hg))
    refine ⟨(y, z), (cs.drop off).take c.sz, cs.drop (off + c.sz), ?_, hy, hz⟩
    rw [← List.drop_drop, List.take_append_drop]

theorem trods_struct {α : Type} {c : Cod α} {t : TypeId} {fs : Array Field} (ht : P.underlying t = some (.struct fs)) (hs : P.cellsOf t = c.sz) (hf : TrodsF enc P W fs.toList 0 c) : Trods enc P W t c := by
  refine ⟨hs.symm, fun fuel cs x h => ?_⟩
  obtain ⟨xs, n, _, _, hlen, hxl, hg⟩ := DataW.trod_struct ht h
  obtain ⟨y, hy⟩ := hf n cs xs (by rw [hlen, hs]; omega) (by simpa using hxl) (fun i f hi => hg i f (by simpa using hi))
  exact ⟨y, by simpa using hy⟩
theorem trods_map {α β : Type} {c : Cod α} {t : TypeId} (f : α → β) (h : Trods enc P W t c) : Trods enc P W t (c.map f) :=
  ⟨h.1, fun fuel cs x hx => let ⟨y, hy⟩ := h.2 fuel cs x hx; ⟨f y, y, hy, rfl⟩⟩

/-- An argument that reads is a plain value, held in its cells. -/
theorem trods_arg {α : Type} {c : Cod α} {t : TypeId} (hc : Trods enc P W t c) {v : Value} {d : DataW H} {ps : List MemPlace} (h : DataW.Trod enc P W 0 (fun _ => true) true t v d ps) : ∃ y, c.R W v.cells.toList y := by
  obtain ⟨fuel, hf⟩ := h
  exact hc.2 _ _ _ hf
end

/-- A slice that came in. -/
def SlcIn {α : Type} (c : Cod α) (w : World) (a : Option Addr) (n cap : Nat) (xs : List α) : Prop := n ≤ cap ∧ cap ≤ maxLen ∧ (a = none → n = 0 ∧ cap = 0) ∧ c.Row w a n xs
theorem slcIn_of {α : Type} {c : Cod α} {w : World} {a : Option Addr} {n cap : Nat} {xs : List α} (h : c.slice.R w (Value.slice a n cap).cells.toList xs) : SlcIn c w a n cap xs := by
  obtain ⟨a', n', cap', e, h⟩ := h
  simp [Value.cells] at e
  obtain ⟨rfl, rfl, rfl⟩ := e
  exact h
theorem SlcIn.len {α : Type} {c : Cod α} {w : World} {a : Option Addr} {n cap : Nat} {xs : List α} (h : SlcIn c w a n cap xs) : xs.length = n ∧ n ≤ 9223372036854775807 := ⟨h.2.2.2.1, by have h1 := h.1; have h2 := h.2.1; unfold maxLen at h2; omega⟩
/-- Element i, in a world in which what was there is as it was. -/
theorem SlcIn.at {α : Type} {c : Cod α} {w w' : World} {a : Option Addr} {n cap : Nat} {xs : List α} (h : SlcIn c w a n cap xs) (hb : Below w.heap.size w w') {i : Nat} (hi : i < n) :
    ∃ ad cs x, a = some ad ∧ xs[i]? = some x ∧ (∀ j, j < c.sz → w'.cell? (ad.add (i * c.sz + j)) = cs[j]?) ∧ c.R w' cs x := by
  have h2 := h.2.2.2.keep hb
  have hl : i < xs.length := by rw [h2.1]; exact hi
  obtain ⟨ad, cs, ha, _, hc, hR⟩ := h2.2 i hl
  exact ⟨ad, cs, xs[i], ha, List.getElem?_eq_getElem hl, hc, hR⟩
theorem ints_of {w : World} {a : Option Addr} {n cap : Nat} {xs : List Int} (h : SlcIn (Cod.int .i64) w a n cap xs) : Ints w a n xs ∧ ∀ x ∈ xs, (Lit.int .i64 x).wf = true := by
  have hR := h.2.2.2
  refine ⟨⟨hR.1, h.len.2, fun i hi => ?_⟩, fun x hx => ?_⟩
  · obtain ⟨ad, cs, ha, _, hc, he, _⟩ := hR.2 i (by rw [hR.1]; exact hi)
    refine ⟨ad, ha, ?_⟩
    have h0 := hc 0 (by show 0 < 1; omega)
    rw [he] at h0
    rw [List.getD_eq_getElem?_getD, List.getElem?_eq_getElem (by rw [hR.1]; exact hi)]
    simpa [Cod.int] using h0
  · obtain ⟨i, hi, rfl⟩ := List.getElem_of_mem hx
    obtain ⟨ad, cs, ha, _, hc, he, hw⟩ := hR.2 i hi
    exact hw

/-- A slice of strings that came in. -/
def Strs (w : World) (a : Option Addr) (len : Nat) (xs : List ByteArray) : Prop := xs.length = len ∧ len ≤ 9223372036854775807 ∧ ∀ i, i < len → ∃ ad, a = some ad ∧ w.cell? (ad.add i) = some (.string (xs.getD i ⟨#[]⟩))
theorem Strs.at {w : World} {a : Option Addr} {len : Nat} {zs : List ByteArray} (h : Strs w a len zs) {i : Nat} (hi : i < len) {w' : World} (hb : Below w.heap.size w w') : ∃ ad, a = some ad ∧ w'.cell? (ad.add i) = some (.string (zs.getD i ⟨#[]⟩)) := by
  obtain ⟨ad, rfl, hc⟩ := h.2.2 i hi
  refine ⟨ad, rfl, ?_⟩
  rw [hb.cell (World.block_lt_of_cell? w _ hc)]
  exact hc
theorem Strs.cell {w : World} {ad : Addr} {len : Nat} {zs : List ByteArray} (h : Strs w (some ad) len zs) {i : Nat} (hi : i < len) {w' : World} (hb : Below w.heap.size w w') : w'.cell? (ad.add i) = some (.string (zs.getD i ⟨#[]⟩)) := by
  obtain ⟨ad', he, hc⟩ := h.at hi hb
  cases he
  exact hc
theorem strs_of {w : World} {a : Option Addr} {n cap : Nat} {xs : List ByteArray} (h : SlcIn Cod.str w a n cap xs) : Strs w a n xs ∧ ∀ x ∈ xs, x.size ≤ maxLen := by
  have hR := h.2.2.2
  refine ⟨⟨hR.1, h.len.2, fun i hi => ?_⟩, fun x hx => ?_⟩
  · obtain ⟨ad, cs, ha, _, hc, he, _⟩ := hR.2 i (by rw [hR.1]; exact hi)
    refine ⟨ad, ha, ?_⟩
    have h0 := hc 0 (by show 0 < 1; omega)
    rw [he] at h0
    rw [List.getD_eq_getElem?_getD, List.getElem?_eq_getElem (by rw [hR.1]; exact hi)]
    simpa [Cod.str] using h0
  · obtain ⟨i, hi, rfl⟩ := List.getElem_of_mem hx
    obtain ⟨ad, cs, ha, _, hc, he, hw⟩ := hR.2 i hi
    exact hw
end Go.Proofs.Ytcfjooeagfollaa.Mem
