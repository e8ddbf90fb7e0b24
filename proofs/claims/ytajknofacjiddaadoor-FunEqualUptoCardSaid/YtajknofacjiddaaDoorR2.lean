/- From an argument to what bears it. -/
import Derived.Test.YtajknofacjiddaaDoorR1
import Derived.Test.YtajknofacjiddaaDoorN2
namespace Go.Proofs.YtajknofacjiddaaDoor.Abs
open Go Go.RowKit Go.ChangeShapes Go.WideShapes Go.ChangeAt
set_option linter.unusedSimpArgs false
set_option linter.unusedVariables false
set_option maxRecDepth 100000
theorem cell_okWide_agg {P : Program} {W : World} {r : Reach} {b0 : Nat} {t : TypeId} {cs : Array Value} (h : Cell.okWide P W r b0 t (.agg cs)) : False := by
  unfold Cell.okWide at h
  split at h
  all_goals first | contradiction | skip
  unfold Cell.ok at h
  split at h <;> first | contradiction | exact h
/-- An argument of a scalar type or a slice. -/
theorem arg_one {P : Program} {H : Type} {e : TypeId × Value → H} {W : World} {r : Reach} {b0 : Nat} {t : TypeId} {v : Value} {d : DataW H} {ps : List MemPlace} {α : Type} {f : α → AV} {wt : α → Nat} {ok : α → Prop} (hR : ∀ N, Reads P N t (fun x => [f x]) wt ok)
    (hs : (match P.underlying t with | some (.struct _) | some (.array _ _) => false | _ => true) = true) (hv : Value.okWide P W r b0 t v) (hd : DataW.Trod e P W 0 (fun _ => true) true t v d ps) : ∃ x, Rep (ghost0 W) (f x) v ∧ wt x ≤ Rows.uptoBulk d ∧ ok x := by
  obtain ⟨n, hn⟩ := hd
  have hc : v.cells = #[v] := by
    cases v with
    | agg cs =>
      exfalso
      unfold Value.okWide at hv
      split at hv
      · rename_i q; rw [q] at hs; cases hs
      · rename_i q; rw [q] at hs; cases hs
      · exact cell_okWide_agg hv
    | _ => rfl
  rw [hc] at hn
  obtain ⟨x, h1, h2, h3⟩ := hR n H e W _ _ _ hn
  exact ⟨x, (h1.2 0 _ _ rfl rfl).1, h2, h3⟩
/-- An argument of a struct type. -/
theorem arg_struct {P : Program} {H : Type} {e : TypeId × Value → H} {W : World} {r : Reach} {b0 : Nat} {t : TypeId} {fs : Array Field} {v : Value} {d : DataW H} {ps : List MemPlace} {α : Type} {enc : α → List AV} {wt : α → Nat} {ok : α → Prop} (hR : ∀ N, Reads P N t enc wt ok)
    (hs : P.underlying t = some (.struct fs)) (hv : Value.okWide P W r b0 t v) (hd : DataW.Trod e P W 0 (fun _ => true) true t v d ps) : ∃ x, Rep (ghost0 W) (.agg (enc x)) v ∧ wt x ≤ Rows.uptoBulk d ∧ ok x := by
  obtain ⟨n, hn⟩ := hd
  unfold Value.okWide at hv
  rw [hs] at hv
  obtain ⟨cs, rfl, _, _⟩ := hv
  obtain ⟨x, h1, h2, h3⟩ := hR n H e W _ _ _ hn
  refine ⟨x, .agg (by have := h1.1; simpa [Value.cells] using this) (fun i v hv => ?_), h2, h3⟩
  have hi : i < cs.size := by have := (List.getElem?_eq_some_iff.1 hv).1; have := h1.1; simp [Value.cells] at this; omega
  have := (h1.2 i v cs[i] hv (by simp [Value.cells, hi])).1
  simpa [Array.getD, hi] using this
theorem repL_nil {g : Ghost} : RepL g [] #[] := ⟨rfl, fun i v h => by simp at h⟩
theorem repL_list {g : Ghost} : ∀ {vs : List AV} {xs : List Value}, xs.length = vs.length → (∀ (i : Nat) v x, vs[i]? = some v → xs[i]? = some x → Rep g v x) → RepL g vs ⟨xs⟩ := fun hl h => RepL.of hl h
theorem repL1 {g : Ghost} {a : AV} {x : Value} (h : Rep g a x) : RepL g [a] #[x] := RepL.of rfl fun i v y e1 e2 => by
  match i with
  | 0 => cases e1; cases e2; exact h
  | n + 1 => simp at e1
theorem repL2 {g : Ghost} {a b : AV} {x y : Value} (h : Rep g a x) (k : Rep g b y) : RepL g [a, b] #[x, y] := RepL.of rfl fun i v z e1 e2 => by
  match i with
  | 0 => cases e1; cases e2; exact h
  | 1 => cases e1; cases e2; exact k
  | n + 2 => simp at e1
theorem repL3 {g : Ghost} {a b c : AV} {x y z : Value} (h : Rep g a x) (k : Rep g b y) (l : Rep g c z) : RepL g [a, b, c] #[x, y, z] := RepL.of rfl fun i v u e1 e2 => by
  match i with
  | 0 => cases e1; cases e2; exact h
  | 1 => cases e1; cases e2; exact k
  | 2 => cases e1; cases e2; exact l
  | n + 3 => simp at e1
theorem bulk_mem {H : Type} {d : DataW H} {l : List (DataW H)} (h : d ∈ l) : Rows.uptoBulk d ≤ Rows.uptoBulkAll l := by
  induction l with
  | nil => cases h
  | cons x r ih =>
    simp only [Rows.uptoBulkAll]
    cases List.mem_cons.1 h with
    | inl e => subst e; omega
    | inr e => have := ih e; omega
theorem bound {H : Type} {l : List (DataW H)} (hk : Rows.uptoSmall H l = true) : Rows.uptoBulkAll l ≤ 1048576 := of_decide_eq_true hk
theorem names_of : ∀ x : Node, x.wt ≤ 1048576 → x.names
  | .mk k n s ks => fun h => by
    simp only [Node.wt] at h
    exact ⟨by omega, namesL_of ks (by omega)⟩
where namesL_of : ∀ ks : List Node, wts ks ≤ 1048576 → namesL ks
  | [] => fun _ => trivial
  | x :: xs => fun h => by
    simp only [wts] at h
    exact ⟨names_of x (by omega), namesL_of xs (by omega)⟩
theorem size_wt : ∀ x : Node, x.size ≤ x.wt
  | .mk k n s ks => by
    simp only [Node.wt, Node.size]
    have := sizes_wt ks
    omega
where sizes_wt : ∀ ks : List Node, sizes ks ≤ wts ks
  | [] => Nat.le_refl _
  | x :: xs => by
    simp only [wts, sizes]
    have := size_wt x
    have := sizes_wt xs
    omega
theorem wf_wt {x : Node} (h : x.wt ≤ 1048576) : x.wf := ⟨by have := size_wt x; omega, names_of x h⟩
end Go.Proofs.YtajknofacjiddaaDoor.Abs
