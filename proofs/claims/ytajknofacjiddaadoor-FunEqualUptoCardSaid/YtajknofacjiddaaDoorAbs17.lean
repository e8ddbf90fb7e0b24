/- Arguments forgotten; rules for the heap. -/
import Derived.Test.YtajknofacjiddaaDoorAbs16
namespace Go.Proofs.YtajknofacjiddaaDoor.Abs
open Go Go.RowKit
set_option linter.unusedVariables false
set_option linter.unusedSimpArgs false
theorem repL_fgt {g : Ghost} {vs : List AV} {xs : Array Value} (h : RepL g vs xs) : RepL g (fgtL vs) xs := by
  rw [fgtL_eq]
  refine ⟨by simpa using h.1, fun i v e => ?_⟩
  obtain ⟨a, ha, rfl⟩ := map_get e
  exact rep_fgt (h.2 i a ha)
theorem AC.args {S : Seat} {f : FuncId} {args : List AV} {h : AHeap} {R : Post} (hc : AC S f (fgtL args) h R) : AC S f args h R :=
  fun w0 g w xs inv hargs => hc w0 g w xs inv (repL_fgt hargs)
/-- A call that comes back with one value and leaves the heap as it was; the arguments' rows are forgotten. -/
theorem Stop.fact {S : Seat} {fn : Func} {R : Post} {k : List Item} {ds : List ADef} {fr : Fr} {h : AHeap} {ops : List Oper} {i : Nat} {l : List Nat} {d : Option Nat} {f : Operand} {args : List Operand} {ts : Array TypeId} {ty : Nat} {pos : String} {af : Array Edge} {gd : Option (Nat × Bool)}
    {fid : FuncId} {caps as : List AV} {v : AV} (hc : AC S fid as h (Pure1 v h)) (ho : ops[i]? = some ⟨d, .call ⟨.value f, ⟨args⟩, ts⟩, ty, pos, af, gd⟩) (hw : awanted ⟨ops⟩ ⟨d, .call ⟨.value f, ⟨args⟩, ts⟩, ty, pos, af, gd⟩ fr.get = some true) (hd : dstOk fn.ntmps d = true) (hfn : rho S fr.get f = .func fid caps) (he : Enters S fid)
    (has : fgtL (args.map (rho S fr.get) ++ caps) = as)
    (hr : Run S fn (.inRegion ⟨ops⟩ l :: k) ds (fr.put d v) h R) : Stop S fn R (.inRegion ⟨ops⟩ (i :: l) :: k) ds fr h := by
  subst has
  exact Run.opCall (by rw [List.getElem?_toArray]; exact ho) hw hd rfl hfn he (Rc := Pure1 v h) (by simpa using hc.args) (fun v' h' hq => by obtain ⟨h1, h2⟩ := hq; cases h1; subst h2; exact hr) (fun v' h' hq => by obtain ⟨h1, _⟩ := hq; cases h1)
theorem ite_tt (t : Bool) {p q : Prop} : ((t = true → p) ∧ (t = false → q)) = (if t then p else q) := by cases t <;> simp
theorem fgt_bool (b : Bool) : (AV.bool b).fgt = .bool b := rfl
theorem fgt_int (k : IntKind) (n : Int) : (AV.int k n).fgt = .int k n := rfl
theorem fgt_str (s : ByteArray) : (AV.str s).fgt = .str s := rfl
theorem fgt_top : AV.top.fgt = .top := rfl
theorem fgt_ptr (a b : Nat) : (AV.ptr a b).fgt = .ptr a b := rfl
theorem fgt_map (a : Nat) : (AV.map a).fgt = .map a := rfl
theorem fgt_slice (sz : Nat) (els : List (List AV)) (t : Tok) : (AV.slice sz els t).fgt = kslice sz (fgtLL els) := rfl
theorem fgt_k (sz : Nat) (els : List (List AV)) : (kslice sz els).fgt = kslice sz (fgtLL els) := by cases els <;> rfl
theorem acs_k (sz : Nat) (els : List (List AV)) : acs (kslice sz els) = some [kslice sz els] := by cases els <;> rfl
theorem acell_k (sz : Nat) (els : List (List AV)) : acell (kslice sz els) = true := by cases els <;> rfl
theorem abox_k (sz : Nat) (els : List (List AV)) (h : AHeap) : abox (kslice sz els) h = some (.ptr h.next 0, h.alloc (.cells [kslice sz els])) := by cases els <;> rfl
theorem ok_k (n m sz : Nat) (els : List (List AV)) : (kslice sz els).ok n m = okLL n m els := by cases els <;> simp [kslice, AV.ok, okLL]
theorem fgt_agg (cs : List AV) : (AV.agg cs).fgt = .agg (fgtL cs) := rfl
theorem fgt_tup (cs : List AV) : (AV.tup cs).fgt = .tup (fgtL cs) := rfl
theorem fgt_func (f : Nat) (cs : List AV) : (AV.func f cs).fgt = .func f (fgtL cs) := rfl
theorem fgtL_nil : fgtL [] = [] := rfl
theorem fgtL_cons (v : AV) (vs : List AV) : fgtL (v :: vs) = v.fgt :: fgtL vs := rfl
theorem fgtLL_nil : fgtLL [] = [] := rfl
theorem fgtLL_cons (v : List AV) (vs : List (List AV)) : fgtLL (v :: vs) = fgtL v :: fgtLL vs := rfl
/-- What a frame is known to hold. -/
def Fr.Has (f : Fr) : Fr → Prop
  | [] => True
  | p :: ps => f.get p.1 = p.2 ∧ Fr.Has f ps
theorem has_nil (f : Fr) : Fr.Has f [] = True := rfl
theorem has_cons (f : Fr) (i : Nat) (v : AV) (ps : Fr) : Fr.Has f ((i, v) :: ps) = (f.get i = v ∧ Fr.Has f ps) := rfl
theorem Fr.Has.mem {f : Fr} : ∀ {g : Fr}, Fr.Has f g → ∀ p ∈ g, f.get p.1 = p.2
  | [], _, p, h => by cases h
  | q :: qs, h, p, hp => by
    cases hp with
    | head => exact h.1
    | tail _ hp => exact h.2.mem p hp
theorem Fr.Has.of {f : Fr} : ∀ {g : Fr}, (∀ p ∈ g, f.get p.1 = p.2) → Fr.Has f g
  | [], _ => trivial
  | q :: qs, h => ⟨h q (.head _), Fr.Has.of fun p hp => h p (.tail _ hp)⟩
/-- A loop: 'fr s' what the slots hold at its head, 'hp s' what the heap is like, 'μ' what goes down. -/
theorem Stop.round {S : Seat} {fn : Func} {R : Post} {c : Code} {k : List Item} {ds : List ADef} {f0 : Fr} {h0 : AHeap} {σ : Type} (μ : σ → Nat) (fr : σ → Fr) (hp : σ → AHeap → Prop) (s0 : σ) (hh : hp s0 h0) (hf : f0.Has (fr s0))
    (round : ∀ s h, hp s h → (∀ s' h' f, μ s' < μ s → hp s' h' → f.Has (fr s') → Stop S fn R (.inLoop c :: k) ds f h') → Run S fn (.code c :: .inLoop c :: k) ds (fr s) h R) : Stop S fn R (.code (.loop c) :: k) ds f0 h0 :=
  Stop.loop μ fr hp s0 hh hf.mem fun s h hs next => round s h hs fun s' h' f hlt hp' hf' => next s' h' f hlt hp' hf'.mem
end Go.Proofs.YtajknofacjiddaaDoor.Abs
