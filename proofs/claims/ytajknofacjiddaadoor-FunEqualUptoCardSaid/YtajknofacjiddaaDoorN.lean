/- The trees, parameters, functions and values of the layer, and how the abstract machine holds them. -/
import Derived.Test.YtajknofacjiddaaDoorW
namespace Go.Proofs.YtajknofacjiddaaDoor.Abs
open Go Go.RowKit
set_option linter.unusedSimpArgs false
set_option linter.unusedVariables false

inductive Node where
  | mk (kind num : Int) (name : ByteArray) (kids : List Node)
def Node.kind : Node → Int | .mk k _ _ _ => k
def Node.num : Node → Int | .mk _ n _ _ => n
def Node.name : Node → ByteArray | .mk _ _ s _ => s
def Node.kids : Node → List Node | .mk _ _ _ ks => ks
mutual
def Node.enc : Node → List AV
  | .mk k n s ks => [.int .u8 k, .int .i64 n, .str s, kslice 4 (encs ks)]
def encs : List Node → List (List AV)
  | [] => []
  | x :: xs => x.enc :: encs xs
end
mutual
def Node.size : Node → Nat
  | .mk _ _ _ ks => sizes ks + 1
def sizes : List Node → Nat
  | [] => 0
  | x :: xs => x.size + sizes xs
end
mutual
def Node.depth : Node → Nat
  | .mk _ _ _ ks => depths ks + 1
def depths : List Node → Nat
  | [] => 0
  | x :: xs => max x.depth (depths xs)
end
theorem encs_eq (ks : List Node) : encs ks = ks.map Node.enc := by
  induction ks with
  | nil => rfl
  | cons x xs ih => simp [encs, ih]
theorem enc_eq (x : Node) : x.enc = [.int .u8 x.kind, .int .i64 x.num, .str x.name, kslice 4 (x.kids.map Node.enc)] := by
  cases x; simp [Node.enc, Node.kind, Node.num, Node.name, Node.kids, encs_eq]
mutual
theorem fgt_enc : ∀ x : Node, fgtL x.enc = x.enc
  | .mk k n s ks => by unfold Node.enc; simp only [fgtL_cons, fgtL_nil, fgt_int, fgt_str, fgt_k, fgt_encs ks]
theorem fgt_encs : ∀ ks : List Node, fgtLL (encs ks) = encs ks
  | [] => rfl
  | x :: xs => by unfold encs; rw [fgtLL_cons, fgt_enc x, fgt_encs xs]
end
theorem fgt_mapenc (ks : List Node) : fgtLL (ks.map Node.enc) = ks.map Node.enc := by rw [← encs_eq, fgt_encs]
theorem sizes_eq (ks : List Node) : sizes ks = (ks.map Node.size).sum := by
  induction ks with
  | nil => rfl
  | cons x xs ih => simp [sizes, ih]
theorem size_eq (x : Node) : x.size = (x.kids.map Node.size).sum + 1 := by
  cases x with
  | mk a b c ks => rw [← sizes_eq]; rfl
theorem size_kids (x : Node) : x.size = sizes x.kids + 1 := by cases x; rfl
theorem sizes_snoc (ks : List Node) (x : Node) : sizes (ks ++ [x]) = sizes ks + x.size := by
  induction ks with
  | nil => simp [sizes]
  | cons y ys ih => simp only [List.cons_append, sizes, ih]; omega
theorem sizes_app (ks ls : List Node) : sizes (ks ++ ls) = sizes ks + sizes ls := by
  induction ks with
  | nil => simp [sizes]
  | cons y ys ih => simp only [List.cons_append, sizes, ih]; omega
theorem sizes_take (ks : List Node) (k : Nat) : sizes (ks.take k) ≤ sizes ks := by
  have := sizes_app (ks.take k) (ks.drop k)
  rw [List.take_append_drop] at this
  omega
theorem depths_snoc (ks : List Node) (x : Node) : depths (ks ++ [x]) = max (depths ks) x.depth := by
  induction ks with
  | nil => simp [depths]
  | cons y ys ih => simp only [List.cons_append, depths, ih]; omega
theorem depth_eq (x : Node) : x.depth = depths x.kids + 1 := by cases x; rfl
theorem sum_mem {l : List Nat} {a : Nat} (h : a ∈ l) : a ≤ l.sum := by
  induction l with
  | nil => cases h
  | cons b l ih =>
    rw [List.sum_cons]
    cases h with
    | head => omega
    | tail _ h => have := ih h; omega
theorem kid_size {x y : Node} (h : y ∈ x.kids) : y.size < x.size := by
  rw [size_eq x]
  have : y.size ∈ x.kids.map Node.size := List.mem_map_of_mem h
  have := sum_mem this
  omega
theorem kids_size (x : Node) : x.kids.length < x.size := by
  rw [size_eq x]
  have h : ∀ ks : List Node, ks.length ≤ (ks.map Node.size).sum := by
    intro ks
    induction ks with
    | nil => exact Nat.le_refl _
    | cons y ys ih =>
      simp only [List.map_cons, List.sum_cons, List.length_cons]
      have := size_eq y
      omega
  have := h x.kids
  omega
theorem depth_le : ∀ x : Node, x.depth ≤ x.size
  | .mk a b c ks => by
    simp only [Node.depth, Node.size]
    have := depths_le ks
    omega
where depths_le : ∀ ks : List Node, depths ks ≤ sizes ks
  | [] => Nat.le_refl _
  | x :: xs => by
    simp only [depths, sizes]
    have := depth_le x
    have := depths_le xs
    omega
theorem take_snoc {α : Type} (l : List α) (k : Nat) (y : α) (h : l[k]? = some y) : l.take (k + 1) = l.take k ++ [y] := by
  rw [List.take_add_one, h]; rfl
theorem getD_map {α : Type} {l : List α} {k : Nat} {y : α} (f : α → List AV) (hy : l[k]? = some y) : (l.map f).getD ((k : Int).toNat) [] = f y := by
  simp [List.getD, List.getElem?_map, hy]
theorem getD_map' {α : Type} {l : List α} {k : Nat} {y : α} (f : α → List AV) (hy : l[k]? = some y) : (l.map f).getD k [] = f y := by
  simp [List.getD, List.getElem?_map, hy]
theorem imax (a b : Nat) : (if (b : Int) > (a : Int) then (b : Int) else (a : Int)) = ((max a b : Nat) : Int) := by
  split <;> omega
theorem wrap_add (a b : Nat) (h : a + b < 9223372036854775808) : IntKind.i64.wrap ((a : Int) + (b : Int)) = ((a + b : Nat) : Int) := by
  rw [i64_id (by omega) (by omega)]; rfl
theorem wrap_succ (a : Nat) (h : a + 1 < 9223372036854775808) : IntKind.i64.wrap ((a : Int) + 1) = ((a + 1 : Nat) : Int) := wrap_add a 1 h

structure Param where
  name : ByteArray
  list : Bool
def Param.enc (p : Param) : List AV := [.str p.name, .bool p.list]
theorem penc_eq (p : Param) : p.enc = [.str p.name, .bool p.list] := rfl
structure Fn where
  name : ByteArray
  params : List Param
  list : Bool
  body : Node
def Fn.enc (f : Fn) : List AV := [.str f.name, kslice 2 (f.params.map Param.enc), .bool f.list] ++ f.body.enc
theorem fenc_eq (f : Fn) : f.enc = [.str f.name, kslice 2 (f.params.map Param.enc), .bool f.list, .int .u8 f.body.kind, .int .i64 f.body.num, .str f.body.name, kslice 4 (f.body.kids.map Node.enc)] := by
  unfold Fn.enc; rw [enc_eq]; rfl
theorem fgtLL_map {α : Type} (f : α → List AV) (hf : ∀ a, fgtL (f a) = f a) (l : List α) : fgtLL (l.map f) = l.map f := by
  rw [fgtLL_eq, List.map_map]
  exact List.map_congr_left fun a _ => hf a
theorem fgt_penc (p : Param) : fgtL p.enc = p.enc := rfl
theorem fgt_mappenc (ps : List Param) : fgtLL (ps.map Param.enc) = ps.map Param.enc := fgtLL_map _ fgt_penc ps
theorem fgt_fenc (f : Fn) : fgtL f.enc = f.enc := by
  rw [fenc_eq]; simp only [fgtL_cons, fgtL_nil, fgt_str, fgt_bool, fgt_int, fgt_k, fgt_mapenc, fgt_mappenc]
theorem fgt_mapfenc (fs : List Fn) : fgtLL (fs.map Fn.enc) = fs.map Fn.enc := fgtLL_map _ fgt_fenc fs
def Fn.size (f : Fn) : Nat := f.body.size + f.params.length + 1
def libSize (l : List Fn) : Nat := (l.map Fn.size).sum
theorem lib_len (l : List Fn) : l.length ≤ libSize l := by
  unfold libSize
  induction l with
  | nil => exact Nat.le_refl _
  | cons f l ih => simp only [List.map_cons, List.sum_cons, List.length_cons, Fn.size]; omega
theorem lib_mem {l : List Fn} {f : Fn} (h : f ∈ l) : f.size ≤ libSize l := sum_mem (List.mem_map_of_mem h)
def vlib (l : List Fn) : AV := kslice 7 (l.map Fn.enc)
def vparams (l : List Param) : AV := kslice 2 (l.map Param.enc)
/-- A slice of bools, of whole numbers. -/
def vbools (l : List Bool) : AV := kslice 1 (l.map fun b => [.bool b])
def vints (l : List Int) : AV := kslice 1 (l.map fun b => [.int .i64 b])
def vstrs (l : List ByteArray) : AV := kslice 1 (l.map fun b => [.str b])
theorem fgt_bools (l : List Bool) : fgtLL (l.map fun b => [AV.bool b]) = l.map fun b => [AV.bool b] := fgtLL_map _ (fun _ => rfl) l
theorem fgt_ints (l : List Int) : fgtLL (l.map fun b => [AV.int .i64 b]) = l.map fun b => [AV.int .i64 b] := fgtLL_map _ (fun _ => rfl) l
theorem fgt_strs (l : List ByteArray) : fgtLL (l.map fun b => [AV.str b]) = l.map fun b => [AV.str b] := fgtLL_map _ (fun _ => rfl) l

/-- What is known of a turn of a loop over a list. -/
theorem turn {α : Type} (l : List α) (k : Nat) (hk : k ≤ l.length) : (∃ y, l[k]? = some y ∧ y ∈ l ∧ k < l.length ∧ ((k : Int) < (l.length : Int)) = True ∧ (0 ≤ (k : Int)) = True) ∨ (k = l.length ∧ ((k : Int) < (l.length : Int)) = False) := by
  rcases Nat.lt_or_ge k l.length with h | h
  · exact .inl ⟨l[k], List.getElem?_eq_getElem h, List.getElem_mem h, h, by simp; omega, by simp⟩
  · exact .inr ⟨by omega, by simp; omega⟩
end Go.Proofs.YtajknofacjiddaaDoor.Abs
