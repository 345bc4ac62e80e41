/- Texts as lists of bytes. No program is named here. -/
import Derived.Test.YtkmgiodhaaajjaaDoorMem
import Derived.Laws.Concat
import Derived.Lib.ItoaNum
import Derived.Lib.Strings
set_option linter.unusedVariables false
set_option linter.unusedSimpArgs false
namespace Go.Proofs.YtkmgiodhaaajjaaDoor.Txt
open Go.RowKit Go.Proofs.YtkmgiodhaaajjaaDoor.Mem

/-- The text of these bytes. -/
def txt (l : List UInt8) : ByteArray := ⟨l.toArray⟩
theorem txt_size (l : List UInt8) : (txt l).size = l.length := by simp [txt, ByteArray.size]
theorem txt_data (l : List UInt8) : (txt l).data.toList = l := by simp [txt]
theorem txt_of (s : ByteArray) : txt s.data.toList = s := by
  apply ByteArray.ext
  simp [txt]
theorem txt_add (a b : List UInt8) : txt a ++ txt b = txt (a ++ b) := ByteArray.mk_append_mk a b
theorem txt_toList (l : List UInt8) : (txt l).toList = l := by rw [ByteArray.toList_eq]; exact txt_data l
theorem txt_inj {a b : List UInt8} (h : txt a = txt b) : a = b := by
  have := congrArg (fun s => s.data.toList) h
  simpa [txt_data] using this
theorem run_add_txt {P : Program} (a b : List UInt8) (h : a.length + b.length ≤ 9223372036854775807) (w : World) : (Op.stringOp .add (txt a) (txt b)).run P w = .ok (.string (txt (a ++ b))) w := by
  rw [run_string_add_sum w _ _ (by rw [txt_size, txt_size]; exact h), txt_add]
/-- A text as numbers. -/
theorem byt_txt (l : List UInt8) : byt (txt l) = l.map fun b => (b.toNat : Int) := by simp [byt, txt_data]
/-- Bytes as numbers, and back. -/
def nums (l : List UInt8) : List Int := l.map fun b => (b.toNat : Int)
def ofNums (xs : List Int) : List UInt8 := xs.map fun x => UInt8.ofNat x.toNat
theorem nums_length (l : List UInt8) : (nums l).length = l.length := by simp [nums]
theorem ofNums_length (xs : List Int) : (ofNums xs).length = xs.length := by simp [ofNums]
theorem ofNums_nums (l : List UInt8) : ofNums (nums l) = l := by
  induction l with
  | nil => rfl
  | cons b l ih =>
    simp only [nums, ofNums, List.map_cons, List.map_map] at ih ⊢
    rw [ih]
    simp
theorem nums_ofNums (xs : List Int) (h : ∀ x ∈ xs, 0 ≤ x ∧ x ≤ 255) : nums (ofNums xs) = xs := by
  induction xs with
  | nil => rfl
  | cons x xs ih =>
    have hx := h x (by simp)
    have e := ih (fun y hy => h y (by simp [hy]))
    simp only [nums, ofNums, List.map_cons, List.map_map] at e ⊢
    rw [e]
    congr 1
    simp
    omega
theorem nums_append (a b : List UInt8) : nums (a ++ b) = nums a ++ nums b := by simp [nums]
theorem ofNums_append (a b : List Int) : ofNums (a ++ b) = ofNums a ++ ofNums b := by simp [ofNums]
theorem nums_range (l : List UInt8) : ∀ x ∈ nums l, 0 ≤ x ∧ x ≤ 255 := by
  intro x hx
  simp only [nums, List.mem_map] at hx
  obtain ⟨b, _, rfl⟩ := hx
  have := b.toNat_lt
  omega
end Go.Proofs.YtkmgiodhaaajjaaDoor.Txt
