/- The quiet operations in one function, and that the model does as it says. -/
import Derived.Test.YtajknofacjiddaaDoorAbs5
namespace Go.Proofs.YtajknofacjiddaaDoor.Abs
open Go Go.RowKit
set_option linter.unusedVariables false
set_option linter.unusedSimpArgs false

def aun (op : UnOp) (x : AV) : Option AV :=
  match op, x with
  | .not, .bool b => some (.bool (!b))
  | .neg, .int k n => some (.int k (k.wrap (0 - n)))
  | .xor, .int k n => some (.int k (k.wrap (BitVec.ofInt k.bits (if k.signed then -1 else k.max) ^^^ BitVec.ofInt k.bits n).toNat))
  | _, _ => none
def apick (t : Bool) (x y : AV) : AV :=
  match x, y with
  | .bool a, .bool b => .bool (if t then a else b)
  | .int k a, .int k' b => if k = k' then .int k (if t then a else b) else if t then .int k a else .int k' b
  | .str a, .str b => .str (if t then a else b)
  | x, y => if t then x else y
def anilCheck : AV → Option AV
  | .ptr i o => some (.ptr i o)
  | .cptr cs => some (.cptr cs)
  | .func f cs => some (.func f cs)
  | _ => none
def aparts (ρ : Operand → AV) (ps : Array (Nat × Operand)) : List (Nat × AV) := ps.toList.map fun p => (p.1, ρ p.2)
def amakeIface (S : Seat) (t : TypeId) (x : AV) : Option AV :=
  match S.P.underlying t with
  | some (.interface _) | none => none
  | some _ => some (.iface t x)
def aextract (x : AV) (i : Nat) : Option AV :=
  match x with
  | .tup vs => vs[i]?
  | _ => none
def abuiltin (S : Seat) (b : Builtin) (ts : Array TypeId) (args : List AV) (h : AHeap) : Option AV :=
  match b with
  | .len => match args with | x :: _ => alen S ts[0]? x h | [] => none
  | .max => amm true args
  | .min => amm false args
  | _ => none
def aq (S : Seat) (op : Op) (ρ : Operand → AV) (h : AHeap) : Option AV :=
  match op with
  | .move x | .assign x => some (ρ x)
  | .pick c a b => match ρ c with
    | .bool t => some (apick t (ρ a) (ρ b))
    | _ => none
  | .load t a => aload S t (ρ a) h
  | .nilCheck x => anilCheck (ρ x)
  | .binOp op t x y _ => abin S op t (ρ x) (ρ y)
  | .unOp op _ x => aun op (ρ x)
  | .convert s d x => aconvert S s d (ρ x)
  | .makeFunc (.func f) first caps => if first.size = 0 then some (.func f (caps.toList.map ρ)) else none
  | .makeInterface t x => amakeIface S t (ρ x)
  | .fieldAddr s x f => afieldAddr S s (ρ x) f
  | .field s x f => afield S s (ρ x) f
  | .indexAddr t x i => aindexAddr S t (ρ x) (ρ i)
  | .index t x i => aindex S t (ρ x) (ρ i)
  | .lookup t x i ok => alookup S t (ρ x) (ρ i) ok h
  | .extract t i => aextract (ρ t) i
  | .slice t x lo hi mx => aslice S t (ρ x) (lo.map ρ) (hi.map ρ) (mx.map ρ)
  | .build t ps => abuild S t (aparts ρ ps)
  | .buildSlice t n ps => abuildSlice S t n (aparts ρ ps)
  | .call { callee := .builtin b, args, argTypes } => abuiltin S b argTypes (args.toList.map ρ) h
  | _ => none

theorem apick_rep {g : Ghost} {t : Bool} {u v : AV} {x y : Value} (hu : Rep g u x) (hv : Rep g v y) : Rep g (apick t u v) (if t then x else y) := by
  unfold apick
  split
  · cases hu; cases hv; cases t <;> exact .bool _
  · cases hu; cases hv
    split
    · rename_i hk; subst hk; cases t <;> exact .int _ _
    · cases t
      · exact .int _ _
      · exact .int _ _
  · cases hu; cases hv; cases t <;> exact .str _
  · cases t
    · exact hv
    · exact hu
theorem aun_sound {S : Seat} {g : Ghost} {w : World} {op : UnOp} {x v : AV} {y : Value} (hx : Rep g x y) (e : aun op x = some v) : ∃ z, (Op.unary op y).run S.P w = .ok z w ∧ Rep g v z := by
  unfold aun at e
  split at e <;> cases e <;> cases hx
  · exact ⟨_, rfl, .bool _⟩
  · exact ⟨_, rfl, .int _ _⟩
  · exact ⟨_, rfl, .int _ _⟩
theorem parts_rep {g : Ghost} {ρ : Operand → AV} {e : Operand → Value} {ps : Array (Nat × Operand)} (hr : ∀ p ∈ ps.toList, Rep g (ρ p.2) (e p.2)) : PartsRep g (aparts ρ ps) (ps.map fun (i, x) => (i, e x)).toList := by
  refine ⟨by simp [aparts], fun i p q hp hq => ?_⟩
  unfold aparts at hp
  rw [List.getElem?_map] at hp
  rw [Array.toList_map, List.getElem?_map] at hq
  cases hps : ps.toList[i]? with
  | none => simp [hps] at hp
  | some r =>
    rw [hps] at hp hq
    cases hp
    cases hq
    exact ⟨rfl, hr r (List.mem_of_getElem? hps)⟩
theorem list_rep {g : Ghost} {ρ : Operand → AV} {e : Operand → Value} {xs : Array Operand} (hr : ∀ x ∈ xs.toList, Rep g (ρ x) (e x)) : RepL g (xs.toList.map ρ) (xs.map e) := by
  refine ⟨by simp, fun i v hv => ?_⟩
  rw [List.getElem?_map] at hv
  cases hx : xs.toList[i]? with
  | none => simp [hx] at hv
  | some x =>
    rw [hx] at hv
    cases hv
    have hi : i < xs.size := by have := (List.getElem?_eq_some_iff.1 hx).1; simpa using this
    have hx' : xs[i] = x := by have := (List.getElem?_eq_some_iff.1 hx).2; simpa using this
    have : (xs.map e).getD i undef = e x := by simp [Array.getD, hi, hx']
    rw [this]
    exact hr x (List.mem_of_getElem? hx)
theorem opt_rep {g : Ghost} {ρ : Operand → AV} {e : Operand → Value} (x : Option Operand) (hr : ∀ y ∈ x.toArray.toList, Rep g (ρ y) (e y)) :
    match x.map ρ, x.map e with | none, none => True | some v, some x => Rep g v x | _, _ => False := by
  cases x with
  | none => trivial
  | some y => exact hr y (by simp)

theorem aq_sound {S : Seat} {w0 : World} {h : AHeap} {g : Ghost} {w : World} (i : Inv S w0 h g w) {o : Oper} {ρ : Operand → AV} {e : Operand → Value} (hr : ∀ x ∈ o.op.operands.toList, Rep g (ρ x) (e x)) {v : AV} (ha : aq S o.op ρ h = some v) :
    ∃ y w' g', (execOp e o).run S.P w = .ok (.value y) w' ∧ g.le g' ∧ Inv S w0 h g' w' ∧ Rep g' v y := by
  have still : ∀ {s : Sem Value} {v : AV}, (∃ y, s.run S.P w = .ok y w ∧ Rep g v y) → ∃ y w' g', ((do pure (Next.value (← s)) : Sem Next)).run S.P w = .ok (.value y) w' ∧ g.le g' ∧ Inv S w0 h g' w' ∧ Rep g' v y := by
    intro s v ⟨y, h1, h2⟩
    exact ⟨y, w, g, by simp only [Sem.run_bind, h1, Result.andThen_ok, Sem.run_pure], Ghost.le.refl g, i, h2⟩
  have moved : ∀ {s : Sem Value} {v : AV}, (∃ y w' g', s.run S.P w = .ok y w' ∧ g.le g' ∧ Inv S w0 h g' w' ∧ Rep g' v y) → ∃ y w' g', ((do pure (Next.value (← s)) : Sem Next)).run S.P w = .ok (.value y) w' ∧ g.le g' ∧ Inv S w0 h g' w' ∧ Rep g' v y := by
    intro s v ⟨y, w', g', h1, h2⟩
    exact ⟨y, w', g', by simp only [Sem.run_bind, h1, Result.andThen_ok, Sem.run_pure], h2⟩
  unfold execOp
  unfold aq at ha
  cases hop : o.op <;> rw [hop] at ha hr <;> simp only [Op.operands, List.mem_cons, List.not_mem_nil, or_false, forall_eq_or_imp, forall_eq, Array.toList_append, List.mem_append] at hr <;> simp only at ha ⊢ <;> (try (cases ha; done))
  case move x => cases ha; exact ⟨_, w, g, rfl, Ghost.le.refl g, i, hr⟩
  case assign x => cases ha; exact ⟨_, w, g, rfl, Ghost.le.refl g, i, hr⟩
  case pick c a b =>
    obtain ⟨h1, h2, h3⟩ := hr
    split at ha
    case h_2 => cases ha
    rename_i t ht
    cases ha
    rw [ht] at h1
    generalize e c = y at h1
    cases h1
    exact ⟨_, w, g, by simp only [Sem.run_bind, asBool, Sem.run_pure, Result.andThen_ok], Ghost.le.refl g, i, apick_rep h2 h3⟩
  case build t ps => exact still (abuild_sound (parts_rep (fun p hp => hr _ (List.mem_map.2 ⟨p, hp, rfl⟩))) ha)
  case buildSlice t n ps => exact moved (abuildSlice_sound i (parts_rep (fun p hp => hr _ (List.mem_map.2 ⟨p, hp, rfl⟩))) ha)
  case load t a => exact still (aload_sound i hr ha)
  case nilCheck x =>
    unfold anilCheck at ha
    generalize e x = y at hr
    split at ha <;> (try (cases ha; done)) <;> rename_i hx <;> rw [hx] at hr <;> cases ha <;> cases hr <;> exact ⟨_, w, g, rfl, Ghost.le.refl g, i, by first | exact .ptr ‹_› | exact .cptr _ ‹_› ‹_› | exact .func ‹_› ‹_›⟩
  case binOp op t x y yt => exact still (abin_sound x y w hr.1 hr.2 ha)
  case unOp op t x => exact still (aun_sound hr ha)
  case convert s d x => exact moved (aconvert_sound i hr ha)
  case makeInterface t x =>
    unfold amakeIface at ha
    refine still ?_
    split at ha <;> (try (cases ha; done))
    rename_i d hd hu
    cases ha
    refine ⟨_, ?_, .iface hr⟩
    unfold Instr.makeInterface
    simp only [Sem.run_bind, run_underlying hu, Result.andThen_ok]
    cases d <;> (first | rfl | exact absurd rfl (hd _))
  case makeFunc fn first caps =>
    cases fn <;> simp only at ha <;> (try (cases ha; done))
    split at ha
    case isFalse => cases ha
    rename_i hf
    cases ha
    have hfe : first = #[] := Array.eq_empty_of_size_eq_zero hf
    subst hfe
    refine still ⟨_, rfl, ?_⟩
    have := list_rep (g := g) (ρ := ρ) (e := e) (xs := caps) (fun x hx => hr x (.inr hx))
    simp only [List.map_toArray, List.map_nil, Array.map_empty]
    exact .func this.1 this.2
  case slice t x lo hi mx =>
    have h0 : Rep g (ρ x) (e x) := hr x (by simp)
    exact still (aslice_sound h0 (opt_rep lo (fun y hy => hr y (by simp at hy ⊢; simp [hy]))) (opt_rep hi (fun y hy => hr y (by simp at hy ⊢; simp [hy]))) (opt_rep mx (fun y hy => hr y (by simp at hy ⊢; simp [hy]))) ha)
  case fieldAddr s x f => exact still (afieldAddr_sound hr ha)
  case field s x f => exact still (afield_sound hr ha)
  case indexAddr t x ix => exact still (aindexAddr_sound hr.1 hr.2 ha)
  case index t x ix => exact still (aindex_sound hr.1 hr.2 ha)
  case lookup t x ix ok => exact still (alookup_sound i hr.1 hr.2 ha)
  case extract t ix =>
    unfold aextract at ha
    split at ha
    case h_2 => cases ha
    rename_i vs ht
    rw [ht] at hr
    generalize e t = y at hr
    cases hr
    rename_i xs hs hR
    obtain ⟨x, hx, hxr⟩ := RepL.get (vs := vs) (xs := xs) ⟨hs, hR⟩ ha
    refine still ⟨x, ?_, hxr⟩
    unfold Instr.extract
    simp only [hx]
    rfl
  case call c =>
    obtain ⟨cal, args, ts⟩ := c
    cases cal <;> simp only at ha <;> (try (cases ha; done))
    rename_i b
    have hl := list_rep (g := g) (ρ := ρ) (e := e) (xs := args) (fun x hx => hr x (by simp [Call.operands]; simpa using hx))
    unfold abuiltin at ha
    cases b <;> simp only at ha <;> (try (cases ha; done))
    · cases hargs : args.toList.map ρ with
      | nil => rw [hargs] at ha; cases ha
      | cons x vs =>
        rw [hargs] at ha hl
        have h0 : Rep g x ((args.map e).getD 0 undef) := hl.2 0 x rfl
        have hne : (args.map e).size ≠ 0 := by rw [hl.1]; simp
        obtain ⟨y, hy, hyr⟩ := alen_sound (ty := o.type) i h0 hne ha
        refine ⟨y, w, g, ?_, Ghost.le.refl g, i, hyr⟩
        simp only [resolve, Sem.run_bind, Sem.run_pure, Result.andThen_ok, invoke, builtin, hy]
    · cases hargs : args.toList.map ρ with
      | nil => rw [hargs] at ha; unfold amm at ha; cases ha
      | cons x vs =>
        rw [hargs] at ha hl
        have hls : (args.map e).toList.length = (x :: vs).length := by have := hl.1; simpa using this
        obtain ⟨x0, xs', hxs, h1, h2, h3⟩ := repl_getD hls (fun i v x hv hx => by
          have := hl.2 i v hv
          have hx' : (args.map e)[i]? = some x := by simpa using hx
          simpa [hx'] using this) x vs rfl
        obtain ⟨y, hy, hyr⟩ := amm_max (S := S) (w := w) vs.length vs x0 xs' x v rfl h1 h2 h3 ha
        refine ⟨y, w, g, ?_, Ghost.le.refl g, i, hyr⟩
        simp only [resolve, Sem.run_bind, Sem.run_pure, Result.andThen_ok, invoke, builtin, Builtin.max_, hxs, hy]
    · cases hargs : args.toList.map ρ with
      | nil => rw [hargs] at ha; unfold amm at ha; cases ha
      | cons x vs =>
        rw [hargs] at ha hl
        have hls : (args.map e).toList.length = (x :: vs).length := by have := hl.1; simpa using this
        obtain ⟨x0, xs', hxs, h1, h2, h3⟩ := repl_getD hls (fun i v x hv hx => by
          have := hl.2 i v hv
          have hx' : (args.map e)[i]? = some x := by simpa using hx
          simpa [hx'] using this) x vs rfl
        obtain ⟨y, hy, hyr⟩ := amm_min (S := S) (w := w) vs.length vs x0 xs' x v rfl h1 h2 h3 ha
        refine ⟨y, w, g, ?_, Ghost.le.refl g, i, hyr⟩
        simp only [resolve, Sem.run_bind, Sem.run_pure, Result.andThen_ok, invoke, builtin, Builtin.min_, hxs, hy]
end Go.Proofs.YtajknofacjiddaaDoor.Abs
