/- A region that draws its order and whose calls only make memory: one walk of the text's order, in every world that has only grown. -/
import Derived.Test.YtnnihiajggdplaaBase
namespace Go.Proofs.Ytnnihiajggdplaa
open Go.RowKit

/-- A world of a class. -/
structure InC (S : World → Prop) where
  W : World
  h : S W

theorem wp_region_grow {P : Program} {id : Nat} {Q : Exit → Act → World → Prop} {a : Act} {w : World} {l : List Oper} (hm : P.follows .mixedOrders = true) (hB : Region.lexB .any l.toArray = true)
    (h : ∀ S : World → Prop, Nonempty (InC S) → (∀ W W', S W → Below W.heap.size W W' → S W') → (∀ s : InC S, Below w.heap.size w s.W) →
      wpQuiet P l.toArray (fun w' => ∃ s : InC S, w' = s.W) (fun a' => ∀ w', (∃ s : InC S, w' = s.W) → Q .normal a' w') l a) : (Code.region id l.toArray true).wp P Q a w := by
  have h1 := h (fun W => Below w.heap.size w W) ⟨⟨w, ext_refl w⟩⟩ (fun W W' h k => ext_trans h k) (fun s => s.h)
  refine wp_region_quiet (C := fun w' => ∃ s : InC (fun W => Below w.heap.size w W), w' = s.W) hm hB ⟨⟨w.drew, ext_drew (ext_refl w)⟩, rfl⟩ (by simpa using h1)

theorem grow_call {P : Program} {f : FuncId} {args : Array Value} {S : World → Prop} {s : InC S} {v v' : Value} (hk : ∀ W W', S W → Below W.heap.size W W' → S W')
    (h : Calls P f args s.W fun e w' => e = .returned v ∧ Below s.W.heap.size s.W w') (hv : v = v') : Calls P f args s.W fun e w'' => e = .returned v' ∧ ∃ m : InC S, w'' = m.W :=
  h.mono fun _ _ ⟨he, hb⟩ => ⟨by rw [he, hv], ⟨⟨_, hk _ _ s.h hb⟩, rfl⟩⟩
theorem grow_same {P : Program} {f : FuncId} {args : Array Value} {S : World → Prop} {s : InC S} {v v' : Value}
    (h : Calls P f args s.W fun e w' => e = .returned v ∧ s.W = w') (hv : v = v') : Calls P f args s.W fun e w'' => e = .returned v' ∧ ∃ m : InC S, w'' = m.W :=
  h.mono fun _ _ ⟨he, hb⟩ => ⟨by rw [he, hv], ⟨s, hb.symm⟩⟩
theorem bool_is {b c : Bool} (h : b = c) : Value.bool b = Value.bool c := by rw [h]
end Go.Proofs.Ytnnihiajggdplaa
