/- Lemmas of this session: strings made of lists of bytes. -/
import Derived.Test.YtfbbcdkbgnmmcaaWWords
namespace Go.Proofs.YtfbbcdkbgnmmcaaW.Bs
set_option linter.unusedVariables false
open Go.RowKit Go.Proofs.YtfbbcdkbgnmmcaaW.PrintWords

def Byt (l : List Int) : Prop := ∀ x ∈ l, 0 ≤ x ∧ x ≤ 255
theorem Byt.nil : Byt [] := fun _ h => by cases h
theorem Byt.cons {x : Int} {l : List Int} (h : 0 ≤ x ∧ x ≤ 255) (hl : Byt l) : Byt (x :: l) := fun y hy => by
  rcases List.mem_cons.1 hy with rfl | hy
  · exact h
  · exact hl y hy
theorem Byt.append {a b : List Int} (ha : Byt a) (hb : Byt b) : Byt (a ++ b) := fun y hy => (List.mem_append.1 hy).elim (ha y) (hb y)
theorem Byt.tail {x : Int} {l : List Int} (h : Byt (x :: l)) : Byt l := fun y hy => h y (List.mem_cons_of_mem _ hy)
theorem Byt.head {x : Int} {l : List Int} (h : Byt (x :: l)) : 0 ≤ x ∧ x ≤ 255 := h x List.mem_cons_self
theorem Byt.left {a b : List Int} (h : Byt (a ++ b)) : Byt a := fun y hy => h y (List.mem_append_left _ hy)
theorem Byt.right {a b : List Int} (h : Byt (a ++ b)) : Byt b := fun y hy => h y (List.mem_append_right _ hy)
theorem Byt.take {l : List Int} (h : Byt l) (n : Nat) : Byt (l.take n) := fun y hy => h y (List.mem_of_mem_take hy)
theorem Byt.drop {l : List Int} (h : Byt l) (n : Nat) : Byt (l.drop n) := fun y hy => h y (List.mem_of_mem_drop hy)

theorem so_toList (xs : List Int) : (strOfNums xs).toList = xs.map fun n => UInt8.ofNat n.toNat := by rw [ByteArray.toList_eq]; rfl
theorem so_size (xs : List Int) : (strOfNums xs).size = xs.length := strOfNums_size xs
theorem so_app (a b : List Int) : strOfNums a ++ strOfNums b = strOfNums (a ++ b) := by
  apply ByteArray.ext
  simp [strOfNums, ByteArray.data_append]
theorem so_nil : (⟨#[]⟩ : ByteArray) = strOfNums [] := rfl
theorem map_inj : ∀ {a b : List Int}, Byt a → Byt b → (a.map fun n => UInt8.ofNat n.toNat) = (b.map fun n => UInt8.ofNat n.toNat) → a = b
  | [], [], _, _, _ => rfl
  | [], _ :: _, _, _, h => by simp at h
  | _ :: _, [], _, _, h => by simp at h
  | x :: a, y :: b, ha, hb, h => by
    simp only [List.map_cons, List.cons.injEq] at h
    have hx := ha.head; have hy := hb.head
    have e : x = y := by
      have := congrArg UInt8.toNat h.1
      simp only [UInt8.toNat_ofNat'] at this
      omega
    rw [e, map_inj ha.tail hb.tail h.2]
theorem so_inj {a b : List Int} (ha : Byt a) (hb : Byt b) : (strOfNums a).toList = (strOfNums b).toList ↔ a = b := by
  rw [so_toList, so_toList]
  exact ⟨map_inj ha hb, fun h => by rw [h]⟩
theorem so_beq {a b : List Int} (ha : Byt a) (hb : Byt b) : ((strOfNums a).toList == (strOfNums b).toList) = decide (a = b) := by
  by_cases h : a = b
  · subst h; simp
  · rw [decide_eq_false h, beq_eq_false_iff_ne]
    exact fun e => h ((so_inj ha hb).1 e)
theorem so_extract (b : List Int) (i j : Nat) : (strOfNums b).extract i j = strOfNums ((b.take j).drop i) := by
  apply ByteArray.ext
  rw [ByteArray.data_extract]
  simp only [strOfNums, List.extract_toArray, List.extract_eq_take_drop]
  apply congrArg
  rw [List.map_drop, List.map_take, List.drop_take]
end Go.Proofs.YtfbbcdkbgnmmcaaW.Bs
