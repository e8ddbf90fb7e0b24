/- The form of a tree. -/
import Derived.Test.YtajknofacjiddaaDoorF4
namespace Go.Proofs.YtajknofacjiddaaDoor.Abs
open Go Go.RowKit
set_option linter.unusedSimpArgs false
set_option linter.unusedVariables false
mutual
def Node.names : Node → Prop
  | .mk _ _ s ks => s.size ≤ 1099511627776 ∧ namesL ks
def namesL : List Node → Prop
  | [] => True
  | x :: xs => x.names ∧ namesL xs
end
theorem namesL_mem {ks : List Node} (h : namesL ks) : ∀ y ∈ ks, y.names := by
  induction ks with
  | nil => intro y hy; cases hy
  | cons x xs ih =>
    intro y hy
    cases hy with
    | head => exact h.1
    | tail _ hy => exact ih h.2 y hy
structure Node.wf (x : Node) : Prop where
  size : x.size ≤ 1048576
  names : x.names
theorem Node.wf.name {x : Node} (h : x.wf) : x.name.size ≤ 1099511627776 := by cases x; exact h.names.1
theorem Node.wf.kid {x y : Node} (h : x.wf) (hy : y ∈ x.kids) : y.wf := ⟨by have := kid_size hy; have := h.size; omega, by cases x; exact namesL_mem h.names.2 y hy⟩
theorem Node.wf.len {x : Node} (h : x.wf) : x.kids.length ≤ 1048576 := by have := kids_size x; have := h.size; omega
/-- How many children a kind wants; none: there is no such kind. -/
def wantKids (k : Int) (n : Nat) : Option Nat :=
  if k = 80 then some 0 else if k = 81 then some 0 else if k = 82 then some 2 else if k = 83 then some 3 else if k = 84 then some 2 else if k = 85 then some n else
  if k = 86 then some 0 else if k = 87 then some 2 else if k = 88 then some 1 else if k = 89 then some 1 else if k = 90 then some 1 else none
def fieldsB (x : Node) : Bool :=
  if x.kind = 80 then decide (0 ≤ x.num) && decide (x.name = ⟨#[]⟩) else
  if x.kind = 82 then decide (8 ≤ x.num) && decide (x.num ≤ 23) && decide (x.name = ⟨#[]⟩) else
  if x.kind = 84 then decide (x.num = 0) && nameB x.name else
  if x.kind = 81 ∨ x.kind = 85 then decide (x.num = 0) else decide (x.num = 0) && decide (x.name = ⟨#[]⟩)
def nodeB (x : Node) : Bool := decide (wantKids x.kind x.kids.length = some x.kids.length) && fieldsB x
mutual
def formB : Node → Bool
  | .mk k n s ks => nodeB (.mk k n s ks) && formL ks
def formL : List Node → Bool
  | [] => true
  | x :: xs => formB x && formL xs
end
theorem formL_eq (ks : List Node) : formL ks = ks.all formB := by
  induction ks with
  | nil => rfl
  | cons x xs ih => simp only [formL, List.all_cons, ih]
theorem formB_eq (x : Node) : formB x = (nodeB x && x.kids.all formB) := by
  cases x; rw [← formL_eq]; rfl
end Go.Proofs.YtajknofacjiddaaDoor.Abs
