/- What the layer's laws are given: their arguments as trees, functions and values; a world to begin with. -/
import Derived.Test.YtajknofacjiddaaDoorN
import Derived.Test.YtajknofacjiddaaDoorAbs21
import Derived.Test.YtajknofacjiddaaDoorCards
import Derived.Test.YtajknofacjiddaaDoorTie
import Derived.Deep.DeepHandedRow
import Derived.Deep.DeepWitnessRowRef
import Derived.Lib.LaidTab
import Derived.Lib.LaidRTab
namespace Go.Proofs.YtajknofacjiddaaDoor.Abs
open Go Go.RowKit
set_option linter.unusedSimpArgs false
set_option linter.unusedVariables false
set_option maxRecDepth 100000
theorem laidOut : laidOutB Tryd.prog = true := by kernel_rfl
theorem own : ownKnob Tryd.prog.godebug = none := by kernel_rfl

theorem cells_u {k : Nat} {n : Nat} (h : Tryd.prog.cellsOf k = n) : sd.P.cellsOf k = n := h
theorem c1u5 : Tryd.prog.cellsOf 5 = 1 := by kernel_rfl
theorem c1u3 : Tryd.prog.cellsOf 3 = 1 := by kernel_rfl
theorem c1u9 : Tryd.prog.cellsOf 9 = 1 := by kernel_rfl
theorem c1u4 : Tryd.prog.cellsOf 4 = 1 := by kernel_rfl
theorem c1u30 : Tryd.prog.cellsOf 30 = 1 := by kernel_rfl
theorem c1u39 : Tryd.prog.cellsOf 39 = 1 := by kernel_rfl
theorem c1u43 : Tryd.prog.cellsOf 43 = 1 := by kernel_rfl
theorem c4u32 : Tryd.prog.cellsOf 32 = 4 := by kernel_rfl
theorem c2u65 : Tryd.prog.cellsOf 65 = 2 := by kernel_rfl
theorem c7u41 : Tryd.prog.cellsOf 41 = 7 := by kernel_rfl
theorem c3u54 : Tryd.prog.cellsOf 54 = 3 := by kernel_rfl

mutual
/-- What is known of a tree that is read. -/
def Node.ints : Node → Prop
  | .mk k n s ks => (0 ≤ k ∧ k ≤ 255 ∧ -9223372036854775808 ≤ n ∧ n ≤ 9223372036854775807) ∧ intsL ks
def intsL : List Node → Prop
  | [] => True
  | x :: xs => x.ints ∧ intsL xs
end
mutual
def Node.wt : Node → Nat
  | .mk _ _ s ks => s.size + 1 + (wts ks) + 1
def wts : List Node → Nat
  | [] => 0
  | x :: xs => x.wt + wts xs
end
theorem wts_eq (ks : List Node) : wts ks = (ks.map Node.wt).sum := by
  induction ks with
  | nil => rfl
  | cons x xs ih => simp [wts, ih]
theorem intsL_of {ks : List Node} (h : ∀ x ∈ ks, x.ints) : intsL ks := by
  induction ks with
  | nil => trivial
  | cons x xs ih => exact ⟨h x (by simp), ih fun y hy => h y (by simp [hy])⟩
theorem reads_node : ∀ N, Reads Tryd.prog N 32 Node.enc Node.wt Node.ints := by
  intro N
  induction N using Nat.strongRecOn with
  | _ N ih =>
  intro H e W cs d ps h
  obtain ⟨xs, n, rfl, hx, hl, hlen, hf⟩ := DataW.trod_struct (P := Tryd.prog) (t := 32) Tryd.underlying32 h
  rw [c4u32] at hl
  match xs, hlen, cs, hl with
  | [y0, y1, y2, y3], _, [a, b, c, k], _ =>
    cases hx
    have h0 := hf 0 _ rfl
    have h1 := hf 1 _ rfl
    have h2 := hf 2 _ rfl
    have h3 := hf 3 _ rfl
    simp only [c1u5, c1u3, c1u9, c1u30, List.drop_succ_cons, List.drop_zero, List.take_succ_cons, List.take_zero, List.getElem?_cons_zero, List.getElem?_cons_succ] at h0 h1 h2 h3
    obtain ⟨q0, f0, _, i0⟩ := reads_int (P := Tryd.prog) (t := 5) Tryd.underlying5 n H e W _ _ _ h0
    obtain ⟨q1, f1, _, i1⟩ := reads_int (P := Tryd.prog) (t := 3) Tryd.underlying3 n H e W _ _ _ h1
    obtain ⟨q2, f2, b2, _⟩ := reads_str (P := Tryd.prog) (t := 9) Tryd.underlying9 n H e W _ _ _ h2
    obtain ⟨q3, f3, b3, i3⟩ := reads_slice (P := Tryd.prog) (t := 30) Tryd.underlying30 c4u32 (by decide) n (fun m hm => ih m (by omega)) H e W _ _ _ h3
    refine ⟨.mk q0 q1 q2 q3, ?_, ?_, ?_⟩
    · unfold Node.enc
      rw [encs_eq]
      exact f0.app (f1.app (f2.app f3))
    · simp only [Node.wt, wts_eq, List.map_cons, List.map_nil, Rows.uptoBulk, Rows.uptoBulkAll]
      have := bulk_one y0.1
      have := bulk_one y1.1
      have b2' : q2.size + 1 ≤ Rows.uptoBulk y2.1 := b2
      have b3' : (q3.map Node.wt).sum + 1 ≤ Rows.uptoBulk y3.1 := b3
      omega
    · unfold Node.ints
      rw [show IntKind.u8.min = 0 by decide +kernel, show IntKind.u8.max = 255 by decide +kernel] at i0
      rw [show IntKind.i64.min = -9223372036854775808 by decide +kernel, show IntKind.i64.max = 9223372036854775807 by decide +kernel] at i1
      exact ⟨⟨i0.1, i0.2, i1.1, i1.2⟩, intsL_of i3⟩
theorem reads_param (N : Nat) : Reads Tryd.prog N 65 Param.enc (fun p => p.name.size + 1) (fun _ => True) := by
  intro H e W cs d ps h
  obtain ⟨xs, n, rfl, hx, hl, hlen, hf⟩ := DataW.trod_struct (P := Tryd.prog) (t := 65) Tryd.underlying65 h
  rw [c2u65] at hl
  match xs, hlen, cs, hl with
  | [y0, y1], _, [a, b], _ =>
    cases hx
    have h0 := hf 0 _ rfl
    have h1 := hf 1 _ rfl
    simp only [c1u4, c1u9, List.drop_succ_cons, List.drop_zero, List.take_succ_cons, List.take_zero, List.getElem?_cons_zero, List.getElem?_cons_succ] at h0 h1
    obtain ⟨q0, f0, b0, _⟩ := reads_str (P := Tryd.prog) (t := 9) Tryd.underlying9 n H e W _ _ _ h0
    obtain ⟨q1, f1, _, _⟩ := reads_bool (P := Tryd.prog) (t := 4) Tryd.underlying4 n H e W _ _ _ h1
    refine ⟨⟨q0, q1⟩, f0.app f1, ?_, trivial⟩
    have b0' : q0.size + 1 ≤ Rows.uptoBulk y0.1 := b0
    simp only [List.map_cons, List.map_nil, Rows.uptoBulk, Rows.uptoBulkAll]
    omega
def Fn.wt (f : Fn) : Nat := f.name.size + 1 + ((f.params.map fun p => p.name.size + 1).sum + 1) + f.body.wt
theorem reads_fn (N : Nat) : Reads Tryd.prog N 41 Fn.enc Fn.wt (fun f => f.body.ints) := by
  intro H e W cs d ps h
  obtain ⟨xs, n, rfl, hx, hl, hlen, hf⟩ := DataW.trod_struct (P := Tryd.prog) (t := 41) Tryd.underlying41 h
  rw [c7u41] at hl
  match xs, hlen, cs, hl with
  | [y0, y1, y2, y3], _, [a, b, c, k, l, m, o], _ =>
    cases hx
    have h0 := hf 0 _ rfl
    have h1 := hf 1 _ rfl
    have h2 := hf 2 _ rfl
    have h3 := hf 3 _ rfl
    simp only [c1u4, c1u9, c1u39, c4u32, List.drop_succ_cons, List.drop_zero, List.take_succ_cons, List.take_zero, List.getElem?_cons_zero, List.getElem?_cons_succ] at h0 h1 h2 h3
    obtain ⟨q0, f0, b0, _⟩ := reads_str (P := Tryd.prog) (t := 9) Tryd.underlying9 n H e W _ _ _ h0
    obtain ⟨q1, f1, b1, _⟩ := reads_slice (P := Tryd.prog) (t := 39) Tryd.underlying39 c2u65 (by decide) n (fun m _ => reads_param m) H e W _ _ _ h1
    obtain ⟨q2, f2, _, _⟩ := reads_bool (P := Tryd.prog) (t := 4) Tryd.underlying4 n H e W _ _ _ h2
    obtain ⟨q3, f3, b3, i3⟩ := reads_node n H e W _ _ _ h3
    refine ⟨⟨q0, q1, q2, q3⟩, f0.app (f1.app (f2.app f3)), ?_, i3⟩
    have b0' : q0.size + 1 ≤ Rows.uptoBulk y0.1 := b0
    have b1' : (q1.map fun p => p.name.size + 1).sum + 1 ≤ Rows.uptoBulk y1.1 := b1
    simp only [Fn.wt, List.map_cons, List.map_nil, Rows.uptoBulk, Rows.uptoBulkAll]
    omega
theorem reads_lib (N : Nat) : Reads Tryd.prog N 22 (fun l : List Fn => [vlib l]) (fun l => (l.map Fn.wt).sum + 1) (fun l => ∀ f ∈ l, f.body.ints) :=
  reads_slice (P := Tryd.prog) (t := 22) Tryd.underlying22 c7u41 (by decide) N fun m _ => reads_fn m
theorem ones {α : Type} (l : List α) : (l.map fun _ => 1).sum = l.length := by
  induction l with
  | nil => rfl
  | cons x xs ih => simp only [List.map_cons, List.sum_cons, List.length_cons, ih]; omega
/-- A value of the layer. -/
structure Val where
  list : Bool
  n : Int
  l : List Int
def Val.enc (v : Val) : List AV := [.bool v.list, .int .i64 v.n, vints v.l]
theorem reads_val (N : Nat) : Reads Tryd.prog N 54 Val.enc (fun v => v.l.length) (fun _ => True) := by
  intro H e W cs d ps h
  obtain ⟨xs, n, rfl, hx, hl, hlen, hf⟩ := DataW.trod_struct (P := Tryd.prog) (t := 54) Tryd.underlying54 h
  rw [c3u54] at hl
  match xs, hlen, cs, hl with
  | [y0, y1, y2], _, [a, b, c], _ =>
    cases hx
    have h0 := hf 0 _ rfl
    have h1 := hf 1 _ rfl
    have h2 := hf 2 _ rfl
    simp only [c1u4, c1u3, c1u43, List.drop_succ_cons, List.drop_zero, List.take_succ_cons, List.take_zero, List.getElem?_cons_zero, List.getElem?_cons_succ] at h0 h1 h2
    obtain ⟨q0, f0, _, _⟩ := reads_bool (P := Tryd.prog) (t := 4) Tryd.underlying4 n H e W _ _ _ h0
    obtain ⟨q1, f1, _, _⟩ := reads_int (P := Tryd.prog) (t := 3) Tryd.underlying3 n H e W _ _ _ h1
    obtain ⟨q2, f2, b2, _⟩ := reads_slice (P := Tryd.prog) (t := 43) Tryd.underlying43 c1u3 (by decide) n (fun m _ => reads_int (P := Tryd.prog) (t := 3) Tryd.underlying3 m) H e W _ _ _ h2
    refine ⟨⟨q0, q1, q2⟩, f0.app (f1.app f2), ?_, trivial⟩
    have b2' : (q2.map fun _ => 1).sum + 1 ≤ Rows.uptoBulk y2.1 := b2
    have := ones q2
    simp only [List.map_cons, List.map_nil, Rows.uptoBulk, Rows.uptoBulkAll]
    omega

/-- The library's table of white space lies there. -/
theorem base_of {W : World} (h : laidMetH Tryd.prog [("unicode.White_Space", Rows.laid_unicode_White_Space), ("strings.asciiSpace", Rows.laid_strings_asciiSpace)] W) : base0 W := by
  have h1 := laidMetH.filter (fun x => x.1 == "strings.asciiSpace") h
  have e : ([("unicode.White_Space", Rows.laid_unicode_White_Space), ("strings.asciiSpace", Rows.laid_strings_asciiSpace)] : List (String × DataW Unit)).filter (fun x => x.1 == "strings.asciiSpace") = [("strings.asciiSpace", Go.Lib.tabData .u8 Go.Lib.asciiSpaceTab)] := by kernel_rfl
  rw [e] at h1
  exact Go.Lib.tabIs_of_head (rest := []) (g := 0) (t := 92) (e := 5) (n := 256) (by kernel_rfl) (by kernel_rfl) Tryd.underlying92 Tryd.underlying5 c1u5 (by kernel_rfl) h1

/-- A world for the witness: the two tables as they are laid. -/
noncomputable def laidWorld (os : Os) : World :=
  let N := (World.settled Tryd.prog os).heap.size
  let w0 := World.holding Tryd.prog os ⟨#[.cells (Go.Lib.whiteT.map fun (z : Nat) => Value.int .u16 (z : Int)).toArray 107, .cells #[.slice (some ⟨N, 0, none⟩) 7 7, .slice none 0 0, .int .i64 2] 104], #[], []⟩
  let put (h : Array Obj) (g : Nat) (cs : Array Value) : Array Obj := h.modify g fun
    | .cells _ t frozen => .cells cs t frozen
    | o => o
  { w0 with heap := put (put w0.heap 0 (Go.Lib.asciiSpaceTab.map fun z => Value.int .u8 z).toArray) 1 #[.pointer (some ⟨N + 1, 0, none⟩)] }
theorem laid_met (os : Os) (args : Array Value) : laidMet Tryd.prog [("unicode.White_Space", Rows.laid_unicode_White_Space), ("strings.asciiSpace", Rows.laid_strings_asciiSpace)] ((laidWorld os).forCall (fun _ _ => 0) ⟨#[], args, []⟩).memory :=
  laidMet_of_run' 10 (by kernel_rfl) (by kernel_rfl)
end Go.Proofs.YtajknofacjiddaaDoor.Abs
