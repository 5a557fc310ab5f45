/- Texts as lists of bytes: small plain lemmas. -/
import Derived.Laws.Strings
import Derived.Laws.BytesArg
namespace Go.Proofs.Ytcfjooeagfollaa.Bytes
set_option linter.unusedSimpArgs false
set_option linter.unusedVariables false
set_option maxRecDepth 20000

def bs (l : List UInt8) : ByteArray := ⟨l.toArray⟩
theorem bs_data (l : List UInt8) : (bs l).data.toList = l := rfl
theorem bs_of (s : ByteArray) : bs s.data.toList = s := rfl
theorem bs_size (l : List UInt8) : (bs l).size = l.length := rfl
theorem size_list (s : ByteArray) : s.size = s.data.toList.length := rfl
theorem bs_toList (l : List UInt8) : (bs l).toList = l := by rw [ByteArray.toList_eq]; rfl
theorem bs_inj {l m : List UInt8} (h : bs l = bs m) : l = m := by
  have := congrArg (fun s => s.data.toList) h
  exact this
theorem toList_inj {a b : ByteArray} : a.toList = b.toList ↔ a = b := by
  rw [ByteArray.toList_eq, ByteArray.toList_eq]
  constructor
  · intro h
    rw [← bs_of a, ← bs_of b, h]
  · intro h
    rw [h]
theorem bs_append (l m : List UInt8) : bs l ++ bs m = bs (l ++ m) := by
  rw [← bs_of (bs l ++ bs m)]
  congr 1
theorem extract_take (s : ByteArray) (n : Nat) : s.extract 0 n = bs (s.data.toList.take n) := by
  rw [← bs_of (s.extract 0 n)]
  congr 1
  simp [ByteArray.data_extract]
theorem extract_drop (s : ByteArray) (n : Nat) : s.extract n s.size = bs (s.data.toList.drop n) := by
  rw [← bs_of (s.extract n s.size)]
  congr 1
  rw [ByteArray.data_extract]
  show (s.data.extract n s.data.size).toList = _
  simp
  exact List.take_of_length_le (by rw [List.length_drop]; exact Nat.le_refl _)
theorem strOf_bytes (l : List UInt8) : strOfNums (l.map fun b => (b.toNat : Int)) = bs l := by
  unfold strOfNums bs
  congr 1
  rw [List.map_map]
  congr 1
  induction l with
  | nil => rfl
  | cons a l ih => simp_all
end Go.Proofs.Ytcfjooeagfollaa.Bytes
