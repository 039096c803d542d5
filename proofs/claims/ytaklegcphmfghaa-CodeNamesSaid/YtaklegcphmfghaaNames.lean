/- The operations' names, in plain Lean. -/
import Derived.Test.YtaklegcphmfghaaStr
import Derived.Laws.RangeString
set_option linter.unusedVariables false
namespace Go.Proofs.Ytaklegcphmfghaa
open Go.RowKit
def namesB : ByteArray := ⟨#[112, 117, 115, 104, 32, 32, 97, 114, 103, 32, 32, 32, 108, 111, 97, 100, 32, 32, 115, 116, 111, 114, 101, 32, 97, 100, 100, 32, 32, 32, 110, 101, 103, 32, 32, 32, 115, 107, 105, 112, 32, 32, 99, 97, 108, 108, 32, 32, 112, 117, 116, 32, 32, 32, 100, 114, 111, 112, 32, 32, 114, 101, 116, 117, 114, 110]⟩
def nameP (op : Int) : ByteArray := if op = 1 then ⟨#[112, 117, 115, 104]⟩ else if op = 2 then ⟨#[97, 114, 103]⟩ else if op = 3 then ⟨#[108, 111, 97, 100]⟩ else if op = 4 then ⟨#[115, 116, 111, 114, 101]⟩ else if op = 5 then ⟨#[97, 100, 100]⟩ else if op = 6 then ⟨#[110, 101, 103]⟩ else if op = 7 then ⟨#[115, 107, 105, 112]⟩ else if op = 8 then ⟨#[99, 97, 108, 108]⟩ else if op = 9 then ⟨#[112, 117, 116]⟩ else if op = 10 then ⟨#[100, 114, 111, 112]⟩ else if op = 11 then ⟨#[114, 101, 116, 117, 114, 110]⟩ else ⟨#[]⟩
def cutB (op : Int) : ByteArray := namesB.extract (6 * (op - 1)).toNat (min (6 * op) 66).toNat
def trimS (s : ByteArray) : ByteArray := match (List.range s.size).find? (fun p => s.get! p == 32) with | some p => s.extract 0 p | none => s
theorem op_cases {op : Int} (h1 : 1 ≤ op) (h2 : op ≤ 11) : op = 1 ∨ op = 2 ∨ op = 3 ∨ op = 4 ∨ op = 5 ∨ op = 6 ∨ op = 7 ∨ op = 8 ∨ op = 9 ∨ op = 10 ∨ op = 11 := by omega
theorem trim_name {op : Int} (h1 : 1 ≤ op) (h2 : op ≤ 11) : trimS (cutB op) = nameP op := by
  rcases op_cases h1 h2 with rfl | rfl | rfl | rfl | rfl | rfl | rfl | rfl | rfl | rfl | rfl <;> decide +kernel
theorem cut_ascii {op : Int} (h1 : 1 ≤ op) (h2 : op ≤ 11) : ∀ p, p < (cutB op).size → ((cutB op).get! p).toNat < 128 := by
  rcases op_cases h1 h2 with rfl | rfl | rfl | rfl | rfl | rfl | rfl | rfl | rfl | rfl | rfl <;> decide +kernel
theorem names_size : namesB.size = 66 := rfl
theorem get_bang {s : ByteArray} {p : Nat} (h : p < s.size) : s.get! p = s[p] := by
  simp [ByteArray.get!, getElem!_pos, h]
  rfl
theorem trim_hit {s : ByteArray} {p : Nat} (hp : p < s.size) (h : s.get! p = 32) (hno : ∀ j, j < p → s.get! j ≠ 32) : trimS s = s.extract 0 p := by
  unfold trimS
  have : (List.range s.size).find? (fun p => s.get! p == 32) = some p := by
    rw [List.find?_range_eq_some]
    refine ⟨by simp [h], by simpa using hp, fun j hj => by simpa using hno j hj⟩
  rw [this]
theorem trim_no {s : ByteArray} (hno : ∀ j, j < s.size → s.get! j ≠ 32) : trimS s = s := by
  unfold trimS
  have : (List.range s.size).find? (fun p => s.get! p == 32) = none := List.find?_eq_none.2 (fun j hj => by simpa using hno j (by simpa using hj))
  rw [this]
theorem nameP_out {op : Int} (h : op < 1 ∨ 11 < op) : nameP op = ⟨#[]⟩ := by
  unfold nameP
  repeat rw [if_neg (by omega)]
theorem name_inj {a b : Int} (ha : 1 ≤ a ∧ a ≤ 11) (hb : 1 ≤ b ∧ b ≤ 11) (h : nameP a = nameP b) : a = b := by
  rcases op_cases ha.1 ha.2 with rfl | rfl | rfl | rfl | rfl | rfl | rfl | rfl | rfl | rfl | rfl <;> rcases op_cases hb.1 hb.2 with rfl | rfl | rfl | rfl | rfl | rfl | rfl | rfl | rfl | rfl | rfl <;> first | rfl | (revert h; decide +kernel)
def nameL : List Value := [.string ⟨#[112, 117, 115, 104]⟩, .string ⟨#[97, 114, 103]⟩, .string ⟨#[108, 111, 97, 100]⟩, .string ⟨#[115, 116, 111, 114, 101]⟩, .string ⟨#[97, 100, 100]⟩, .string ⟨#[110, 101, 103]⟩, .string ⟨#[115, 107, 105, 112]⟩, .string ⟨#[99, 97, 108, 108]⟩, .string ⟨#[112, 117, 116]⟩, .string ⟨#[100, 114, 111, 112]⟩, .string ⟨#[114, 101, 116, 117, 114, 110]⟩]
theorem nameL_at {op : Int} (h1 : 1 ≤ op) (h2 : op ≤ 11) : nameL[0 + (op - 1).toNat * 1]? = some (.string (nameP op)) := by
  rcases op_cases h1 h2 with rfl | rfl | rfl | rfl | rfl | rfl | rfl | rfl | rfl | rfl | rfl <;> rfl
theorem name_clash {a b : Int} (h : nameP a = nameP b) (hne : a ≠ b) : nameP a = ⟨#[]⟩ := by
  by_cases ha : 1 ≤ a ∧ a ≤ 11
  · by_cases hb : 1 ≤ b ∧ b ≤ 11
    · exact absurd (name_inj ha hb h) hne
    · rw [h, nameP_out (by omega)]
  · exact nameP_out (by omega)
end Go.Proofs.Ytaklegcphmfghaa
