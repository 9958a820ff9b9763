import Derived.Test.YtfkiapjkeopgfaaE30
set_option linter.all false
/- FROM A READING's BULK, A LIST's LENGTH. -/
namespace Go.Eng
open Go
open Go.RowKit Go.Deep Go.ChangeShapes
theorem upto_len {H : Type} {enc : TypeId × Value → H} {P : Program} {te : TypeId} {w : World} {S : Nat → Prop} {t e : TypeId} {k : K} {y : (K.slice k).T} {cs : List Value} {d : DataW H} {p : List MemPlace} (f : DataW H → Nat)
    (hf : ∀ elems spare, elems.length + spare.length + 1 ≤ f (.slice elems spare)) (hu : P.underlying t = some (.slice e))
    (ht : ∃ fuel, DataW.trod enc P w 0 (fun _ => true) true fuel t cs = some (d, p)) (hr : RepT te w S (.slice k) y cs) : (y : List k.T).length ≤ f d := by
  obtain ⟨fuel, ht⟩ := ht
  obtain ⟨a, cap, rfl, hc, _⟩ := hr
  rcases open_slice hu ht with ⟨h1, h2⟩ | ⟨a', len, cap', m, n, D, Pl, h1, _, hl, hc', hm, h2, hi⟩
  · have := congrArg (fun l : List Value => l) h1
    simp only [List.cons.injEq, and_true, Value.slice.injEq] at this
    omega
  · simp only [List.cons.injEq, and_true, Value.slice.injEq] at h1
    have h3 : d = _ := congrArg Prod.fst h2
    rw [h3]
    refine Nat.le_trans ?_ (hf _ _)
    simp only [List.length_map, List.length_range]
    omega
end Go.Eng
