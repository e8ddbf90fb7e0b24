/- Types of expressions: what is reckoned. -/
import Derived.Test.YtajknofacjiddaaDoorF6
import Derived.Test.YtajknofacjiddaaDoorF7
namespace Go.Proofs.YtajknofacjiddaaDoor.Abs
open Go Go.RowKit
set_option linter.unusedSimpArgs false
set_option linter.unusedVariables false
abbrev Typ := Env → Bool × Int
/-- All of them, from the left, up to the first error. -/
def runAll : List Typ → Env → List Bool × Int
  | [], _ => ([], 0)
  | f :: fs, env => if (f env).2 ≠ 0 then ([], (f env).2) else if (runAll fs env).2 ≠ 0 then ([], (runAll fs env).2) else ((f env).1 :: (runAll fs env).1, 0)
def allE (fs : List Typ) (want : List Bool) (env : Env) : Int :=
  if (runAll fs env).2 ≠ 0 then (runAll fs env).2 else if (runAll fs env).1 = want then 0 else 7
def branchesE (fs : List Typ) (env : Env) : Bool × Int :=
  if (runAll fs env).2 ≠ 0 then (false, (runAll fs env).2) else
  match (runAll fs env).1 with
  | [a, b, c] => if a = true ∨ b ≠ c then (false, 7) else (b, 0)
  | _ => (false, 0)
def bindE (s : ByteArray) (fs : List Typ) (env : Env) : Bool × Int :=
  if (env s).isSome then (false, 22) else
  match fs with
  | [f, g] => if (f env).2 ≠ 0 then (false, (f env).2) else g (envPut env s (f env).1)
  | _ => (false, 0)
def callE (lib : List Fn) (s : ByteArray) (fs : List Typ) (env : Env) : Bool × Int :=
  if find lib s < 0 then (false, 6) else
  match lib[(find lib s).toNat]? with
  | some x => if fs.length ≠ x.params.length then (false, 7) else (x.list, allE fs (x.params.map (·.list)) env)
  | none => (false, 0)
def stepE (lib : List Fn) (k : Int) (s : ByteArray) (fs : List Typ) (env : Env) : Bool × Int :=
  if k = 81 then (match env s with | none => (false, 6) | some b => (b, 0))
  else if k = 82 then (false, allE fs [false, false] env)
  else if k = 83 then branchesE fs env
  else if k = 84 then bindE s fs env
  else if k = 85 then callE lib s fs env
  else if k = 86 then (true, 0)
  else if k = 87 then (true, allE fs [false, true] env)
  else if k = 88 ∨ k = 90 then (false, allE fs [true] env)
  else if k = 89 then (true, allE fs [true] env)
  else (false, 0)
mutual
def chk (lib : List Fn) : Node → Typ
  | .mk k _ s ks => stepE lib k s (chks lib ks)
def chks (lib : List Fn) : List Node → List Typ
  | [] => []
  | x :: xs => chk lib x :: chks lib xs
end
theorem chks_eq (lib : List Fn) (ks : List Node) : chks lib ks = ks.map (chk lib) := by
  induction ks with
  | nil => rfl
  | cons x xs ih => simp [chks, ih]
theorem chk_eq (lib : List Fn) (x : Node) : chk lib x = stepE lib x.kind x.name (x.kids.map (chk lib)) := by
  cases x; rw [← chks_eq]; rfl
/-- The first ones had these types. -/
def pre (bs : List Bool) (r : List Bool × Int) : List Bool × Int := if r.2 ≠ 0 then ([], r.2) else (bs ++ r.1, 0)
theorem runAll_ok (fs : List Typ) (env : Env) : (runAll fs env).2 = 0 ∨ (runAll fs env).1 = [] := by
  cases fs with
  | nil => exact .inl rfl
  | cons f fs =>
    unfold runAll
    split
    · exact .inr rfl
    · split
      · exact .inr rfl
      · exact .inl rfl
theorem pre_nil (fs : List Typ) (env : Env) : pre [] (runAll fs env) = runAll fs env := by
  unfold pre
  split
  · rename_i h
    rcases runAll_ok fs env with h1 | h1
    · exact absurd h1 h
    · rw [← h1]
  · rename_i h
    have : (runAll fs env).2 = 0 := by omega
    rw [List.nil_append, ← this]
theorem pre_step {bs : List Bool} {f : Typ} {fs : List Typ} {env : Env} (h : (f env).2 = 0) : pre bs (runAll (f :: fs) env) = pre (bs ++ [(f env).1]) (runAll fs env) := by
  conv => lhs; rw [runAll, if_neg (by simp [h])]
  unfold pre
  by_cases q : (runAll fs env).2 = 0
  · simp [q]
  · simp [q]
theorem pre_err {bs : List Bool} {f : Typ} {fs : List Typ} {env : Env} (h : (f env).2 ≠ 0) : pre bs (runAll (f :: fs) env) = ([], (f env).2) := by
  rw [runAll, if_pos h]
  unfold pre
  rw [if_pos h]
/-- A slice that grows. -/
def gotV (q : Option Nat) (sz : Nat) (els : List (List AV)) : AV := match q with | none => .slice 0 [] .fixed | some q => .slice sz els (.tip q)
structure GotOk (h0 h : AHeap) (q : Option Nat) (n : Nat) : Prop where
  none : q = .none → n = 0
  some : ∀ t, q = .some t → h.tok t = n ∧ t < h.ntok ∧ h0.ntok ≤ t
def tyv (v : Bool × Int) : AV := .tup [.bool v.1, .int .i64 v.2]
/-- typing.visit answers as the specification at this tree. -/
def VisitAt (lib : List Fn) (x : Node) : Prop := ∀ (env : Env) (h : AHeap) (t m clk : Nat) (es : List AEnt), h.get t = some (.cells [vlib lib, .map m]) → h.get m = some (.map clk es) → EMap es env →
  AC sd 50 [.ptr t 0, .agg x.enc] h (MapPost h m env (tyv (chk lib x env)))
end Go.Proofs.YtajknofacjiddaaDoor.Abs
