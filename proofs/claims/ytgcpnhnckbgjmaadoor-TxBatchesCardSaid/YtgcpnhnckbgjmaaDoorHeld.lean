/-
  A region that draws its order and whose callees may make memory, walked once in the order of the text: Derived/Deep/Quiet's theorem at the class of all worlds that meet a condition S. The cells that the region reads are handed to the walk as facts on every world of the class.
-/
import Derived.Test.YtgcpnhnckbgjmaaDoorAid
import Derived.Deep.QuietTactic
import Derived.BigQuiet
set_option linter.unusedVariables false
namespace Go.Proofs.YtgcpnhnckbgjmaaDoor
open Go.RowKit

/-- A world that meets S. (A structure of its own, so that no rule of the walk looks into it.) -/
structure Held (S : World → Prop) where
  w : World
  ok : S w

theorem wp_region_held {P : Program} {S : World → Prop} {id : Nat} {Q : Exit → Act → World → Prop} {a : Act} {w : World} {l : List Oper} (hm : P.follows .mixedOrders = true) (hB : Region.lexB .any l.toArray = true) (hS : S w.drew)
    (h : wpQuiet P l.toArray (fun w' => ∃ s : Held S, w' = s.w) (fun a' => ∀ w', (∃ s : Held S, w' = s.w) → Q .normal a' w') l a) : (Code.region id l.toArray true).wp P Q a w :=
  wp_region_quiet (C := fun w' => ∃ s : Held S, w' = s.w) hm hB ⟨⟨_, hS⟩, rfl⟩ (by simpa using h)

/-- A callee that leaves what was there as it was, where S is kept by that. -/
theorem held_call {P : Program} {f : FuncId} {args : Array Value} {S : World → Prop} {s : Held S} {v : Value}
    (h : Calls P f args s.w fun e w' => e = .returned v ∧ Below s.w.heap.size s.w w') (hk : ∀ W W', S W → Below W.heap.size W W' → S W') :
    Calls P f args s.w fun e w' => e = .returned v ∧ ∃ t : Held S, w' = t.w :=
  h.mono fun _ w' ⟨he, hb⟩ => ⟨he, ⟨w', hk _ _ s.ok hb⟩, rfl⟩
theorem held_same {P : Program} {f : FuncId} {args : Array Value} {S : World → Prop} {s : Held S} {v : Value}
    (h : Calls P f args s.w fun e w' => e = .returned v ∧ s.w = w') : Calls P f args s.w fun e w' => e = .returned v ∧ ∃ t : Held S, w' = t.w :=
  h.mono fun _ w' ⟨he, hb⟩ => ⟨he, s, hb.symm⟩
end Go.Proofs.YtgcpnhnckbgjmaaDoor
