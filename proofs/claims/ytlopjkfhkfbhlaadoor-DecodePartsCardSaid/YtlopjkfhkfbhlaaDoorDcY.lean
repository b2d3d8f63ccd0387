import Derived.Test.YtlopjkfhkfbhlaaDoorDcT
import Derived.Deep.QuietTactic
import Derived.Shelf.SlSortCmp.QuietGrown
set_option linter.unusedVariables false
namespace Go.Proofs.YtlopjkfhkfbhlaaDoor.Dec
open Go Go.RowKit Go.Proofs.YtlopjkfhkfbhlaaDoorW.PrintWords
/-- a world behind w -/
structure Later (w : World) where
  wx : World
  below : Below w.heap.size w wx
instance (w : World) : Inhabited (Later w) := ⟨⟨w, Below.refl _ _⟩⟩
/-- a region that draws its order, whose callees may lay blocks of their own and answer alike in every world behind w -/
theorem quiet_later {P : Program} {id : Nat} {Q : Exit → Act → World → Prop} {a : Act} {w : World} {l : List Oper} (hm : P.follows .mixedOrders = true) (hB : Region.lexB .any l.toArray = true)
    (h : wpQuiet P l.toArray (fun w' => ∃ p : Later w, w' = p.wx) (fun a' => ∀ w', (∃ p : Later w, w' = p.wx) → Q .normal a' w') l a) : (Code.region id l.toArray true).wp P Q a w :=
  wp_region_quiet (C := fun w' => ∃ p : Later w, w' = p.wx) hm hB ⟨⟨w.drew, below_drew1 (Below.refl _ _)⟩, rfl⟩ (by simpa using h)
theorem calls_later {P : Program} {f : FuncId} {args : Array Value} {w : World} {v : Value} (p : Later w)
    (h : Calls P f args p.wx fun e w' => e = .returned v ∧ Below p.wx.heap.size p.wx w') : Calls P f args p.wx fun e w'' => e = .returned v ∧ ∃ q : Later w, w'' = q.wx :=
  h.mono fun _ w' ⟨he, hb⟩ => ⟨he, ⟨w', below_join p.below hb⟩, rfl⟩
end Go.Proofs.YtlopjkfhkfbhlaaDoor.Dec
