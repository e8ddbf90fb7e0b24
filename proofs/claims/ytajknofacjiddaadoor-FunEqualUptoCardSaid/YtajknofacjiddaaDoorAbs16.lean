/- Rules by which data are reckoned. -/
import Derived.Test.YtajknofacjiddaaDoorAbs15
namespace Go.Proofs.YtajknofacjiddaaDoor.Abs
open Go Go.RowKit
set_option linter.unusedVariables false
set_option linter.unusedSimpArgs false

def cellsFrom : Option AObj → Nat → Option (List AV)
  | some (.cells cs), off => some (cs.drop off)
  | _, _ => none
theorem acells_ptr (h : AHeap) (id off : Nat) : acells h (.ptr id off) = cellsFrom (h.get id) off := by
  simp only [acells]
  cases hq : h.get id with
  | none => rfl
  | some o => cases o <;> rfl
theorem acells_cptr (h : AHeap) (cs : List AV) : acells h (.cptr cs) = some cs := rfl
theorem cellsFrom_some (cs : List AV) (off : Nat) : cellsFrom (some (.cells cs)) off = some (cs.drop off) := rfl
theorem aload_ptr (S : Seat) (t : Nat) (id off : Nat) (h : AHeap) : aload S t (.ptr id off) h = (cellsFrom (h.get id) off).bind (areadT S t) := by unfold aload; rw [acells_ptr]
theorem aload_cptr (S : Seat) (t : Nat) (cs : List AV) (h : AHeap) : aload S t (.cptr cs) h = areadT S t cs := rfl

section
variable (S : Seat) (t : Nat) (k : IntKind) (a b : Int)
theorem abin_add : abin S .add t (.int k a) (.int k b) = some (.int k (k.wrap (a + b))) := by simp [abin, aint]
theorem abin_sub : abin S .sub t (.int k a) (.int k b) = some (.int k (k.wrap (a - b))) := by simp [abin, aint]
theorem abin_mul : abin S .mul t (.int k a) (.int k b) = some (.int k (k.wrap (a * b))) := by simp [abin, aint]
theorem abin_quo : abin S .quo t (.int k a) (.int k b) = if b = 0 then none else some (.int k (k.wrap (a.tdiv b))) := by simp [abin, aint]
theorem abin_rem : abin S .rem t (.int k a) (.int k b) = if b = 0 then none else some (.int k (a.tmod b)) := by simp [abin, aint]
theorem abin_eql : abin S .eql t (.int k a) (.int k b) = some (.bool (decide (a = b))) := by simp [abin, aint]
theorem abin_neq : abin S .neq t (.int k a) (.int k b) = some (.bool (!decide (a = b))) := by simp [abin, aint]
theorem abin_lss : abin S .lss t (.int k a) (.int k b) = some (.bool (decide (a < b))) := by simp [abin, aint]
theorem abin_leq : abin S .leq t (.int k a) (.int k b) = some (.bool (decide (a ≤ b))) := by simp [abin, aint]
theorem abin_gtr : abin S .gtr t (.int k a) (.int k b) = some (.bool (decide (b < a))) := by simp [abin, aint]
theorem abin_geq : abin S .geq t (.int k a) (.int k b) = some (.bool (decide (b ≤ a))) := by simp [abin, aint]
theorem abin_seql (x y : ByteArray) : abin S .eql t (.str x) (.str y) = some (.bool (decide (x = y))) := by simp [abin, astr]
theorem abin_sneq (x y : ByteArray) : abin S .neq t (.str x) (.str y) = some (.bool (!decide (x = y))) := by simp [abin, astr]
theorem abin_beql (h : S.P.underlying t = some .bool) (x y : Bool) : abin S .eql t (.bool x) (.bool y) = some (.bool (x == y)) := by simp [abin, h]
theorem abin_bneq (h : S.P.underlying t = some .bool) (x y : Bool) : abin S .neq t (.bool x) (.bool y) = some (.bool (!(x == y))) := by simp [abin, h]
theorem aun_not (x : Bool) : aun .not (.bool x) = some (.bool (!x)) := rfl
theorem aun_neg : aun .neg (.int k a) = some (.int k (k.wrap (0 - a))) := rfl
end
theorem apickO_bool (t : Bool) (a b : AV) : apickO (.bool t) a b = some (apick t a b) := rfl
theorem apick_bool (t x y : Bool) : apick t (.bool x) (.bool y) = .bool (if t then x else y) := rfl
theorem apick_true (a b : AV) : apick true a b = a := by unfold apick; split <;> (try split) <;> simp_all
theorem apick_false (a b : AV) : apick false a b = b := by unfold apick; split <;> (try split) <;> simp_all
theorem anil_ptr (id off : Nat) : anilCheck (.ptr id off) = some (.ptr id off) := rfl
theorem anil_cptr (cs : List AV) : anilCheck (.cptr cs) = some (.cptr cs) := rfl
theorem anil_func (f : Nat) (cs : List AV) : anilCheck (.func f cs) = some (.func f cs) := rfl
theorem aextract_tup (vs : List AV) (i : Nat) : aextract (.tup vs) i = vs[i]? := rfl
theorem amm_two (mx : Bool) (k k' : IntKind) (a b : Int) : amm mx [.int k a, .int k' b] = some (.int k (if mx then (if b > a then b else a) else (if b < a then b else a))) := by
  unfold amm amm
  rfl
/-- What a map that is read gives. -/
def lookM (o : Option AObj) (k : AV) (ok : Bool) (z : AV) : Option AV :=
  match o with
  | some (.map _ es) => match afind k es 0 with
    | some (some (_, v)) => some (okTup ok v true)
    | some none => some (okTup ok z false)
    | none => none
  | _ => none
theorem alookup_map {S : Seat} {t kt et : Nat} {z : AV} (hu : S.P.underlying t = some (.map kt et)) (hz : azero S et = some z) (id : Nat) (k : AV) (hk : keyOk (S.P.underlying kt) k = true) (ok : Bool) (h : AHeap) :
    alookup S t (.map id) k ok h = lookM (h.get id) k ok z := by
  unfold alookup lookM
  rw [hu]
  simp only [hk, if_true, hz, Option.map_some]
  cases h.get id with
  | none => rfl
  | some o =>
    cases o with
    | map clk es => simp only; cases afind k es 0 with | none => rfl | some r => cases r with | none => rfl | some p => rfl
    | _ => rfl
def putM (o : Option AObj) (id : Nat) (k x : AV) (h : AHeap) : Option AHeap :=
  match o with
  | some (.map clk es) => (amapPut clk es k x).map (h.set id)
  | _ => none
theorem amapUpdate_map {S : Seat} {t kt et : Nat} (hu : S.P.underlying t = some (.map kt et)) (id : Nat) (k x : AV) (hk : keyOk (S.P.underlying kt) k = true) (h : AHeap) : amapUpdate S t (.map id) k x h = putM (h.get id) id k x h := by
  unfold amapUpdate putM
  rw [hu]
  simp only [hk, if_true]
  cases h.get id with
  | none => rfl
  | some o => cases o <;> rfl
/-- Maps as functions from keys. -/
def aget : List AEnt → AV → Option (Option AV)
  | [], _ => some none
  | e :: es, k => match akeyEq k e.key with
    | some true => some (some e.val)
    | some false => aget es k
    | none => none
theorem afind_aget (k : AV) : ∀ (es : List AEnt) (i : Nat), (afind k es i).map (fun r => r.map (·.2)) = aget es k
  | [], _ => rfl
  | e :: es, i => by
    unfold afind aget
    cases akeyEq k e.key with
    | none => rfl
    | some b =>
      cases b with
      | true => rfl
      | false => exact afind_aget k es (i + 1)
def okOf (ok : Bool) (z : AV) : Option AV → AV
  | some v => okTup ok v true
  | none => okTup ok z false
theorem lookM_aget {clk : Nat} {es : List AEnt} {k z : AV} {r : Option AV} (ok : Bool) (h : aget es k = some r) : lookM (some (.map clk es)) k ok z = some (okOf ok z r) := by
  rw [← afind_aget k es 0] at h
  simp only [lookM]
  cases hf : afind k es 0 with
  | none => rw [hf] at h; cases h
  | some q =>
    rw [hf] at h
    cases q with
    | none => cases h; rfl
    | some p => cases h; rfl

def lenM : Option AObj → Option AV
  | some (.map _ es) => some (.int .i64 es.length)
  | _ => none
def delM (o : Option AObj) (id : Nat) (k : AV) (h : AHeap) : Option AHeap :=
  match o with
  | some (.map clk es) => match afind k es 0 with
    | some (some (i, _)) => some (h.set id (.map clk (es.eraseIdx i)))
    | some none => some h
    | none => none
  | _ => none
theorem adelete_map {S : Seat} {t kt et : Nat} (hu : S.P.underlying t = some (.map kt et)) (id : Nat) (k : AV) (hk : keyOk (S.P.underlying kt) k = true) (h : AHeap) : adelete S (some t) (.map id) k h = delM (h.get id) id k h := by
  simp only [adelete, Option.bind_some, hu, hk, if_true, delM]
  cases h.get id with
  | none => rfl
  | some o => cases o <;> rfl
def plOf (l : List (Nat × Nat)) (i : Nat) : Option (Nat × Nat) := l[i]?
def bsM (sz len : Nat) (r : Option (List AV)) : Option AV := r.bind fun r => if r.all acell then some (.slice sz (chunk sz len r) .fixed) else none
def storeM (o : Option AObj) (id off : Nat) (vs : Option (List AV)) (n : Nat) (h : AHeap) : Option AHeap :=
  match o, vs with
  | some (.cells cs), some vs => if vs.length = n ∧ off + vs.length ≤ cs.length ∧ vs.all acell = true then some (h.set id (.cells (asplice cs off vs))) else none
  | _, _ => none
theorem astore_ptr {S : Seat} {t n : Nat} (hi : (S.P.info? t).isSome = true) (hc : S.P.cellsOf t = n) (id off : Nat) (x : AV) (h : AHeap) : astore S t (.ptr id off) x h = storeM (h.get id) id off (acs x) n h := by
  simp only [astore]
  cases acs x with
  | none => cases h.get id with | none => rfl | some o => cases o <;> rfl
  | some vs =>
    cases hq : h.get id with
    | none => simp only [hq, storeM]
    | some o =>
      cases o with
      | cells cs => simp only [hq, hi, hc, true_and, storeM]
      | _ => simp only [hq, storeM]
section
variable {S : Seat} {t u' e e' : Nat} {z : AV} {zs : List AV} {sz by' : Nat}
theorem aappend_fixed (u : S.P.underlying t = some (.slice e)) (v : S.P.underlying u' = some (.slice e')) (hz : azero S e = some z) (ha : acs z = some zs) (hc : S.P.cellsOf e = sz) (hb : S.P.bytesOf e = by') (h1 : zs.length = sz) (h2 : 0 < sz) (h3 : 0 < by')
    (s1 s2 : Nat) (xs ys : List (List AV)) (tok : Tok) (h : AHeap) : aappend S ⟨[t, u']⟩ (.slice s1 xs .fixed) (.slice s2 ys tok) h =
      if (s2 = sz ∨ ys.length = 0) ∧ (xs.length + ys.length) * by' ≤ 140737488355328 ∧ (s1 = sz ∨ xs.length = 0) then some (.slice sz (xs ++ ys) (.tip h.ntok), h.newTok (xs.length + ys.length)) else none := by
  subst h1
  have e0 : (⟨[t, u']⟩ : Array Nat)[0]? = some t := rfl
  have e1 : (⟨[t, u']⟩ : Array Nat)[1]? = some u' := rfl
  simp only [aappend, e0, e1, Option.bind_some, u, aels, v, hc, hz, ha, hb, h2, h3, true_and]
  by_cases q : s2 = zs.length ∨ ys.length = 0
  · simp only [q, if_true, true_and]
  · simp only [q, if_false, false_and]
theorem aappend_tip (u : S.P.underlying t = some (.slice e)) (v : S.P.underlying u' = some (.slice e')) (hz : azero S e = some z) (ha : acs z = some zs) (hc : S.P.cellsOf e = sz) (hb : S.P.bytesOf e = by') (h1 : zs.length = sz) (h2 : 0 < sz) (h3 : 0 < by')
    (s2 p : Nat) (xs ys : List (List AV)) (tok : Tok) (h : AHeap) : aappend S ⟨[t, u']⟩ (.slice sz xs (.tip p)) (.slice s2 ys tok) h =
      if (s2 = sz ∨ ys.length = 0) ∧ (xs.length + ys.length) * by' ≤ 140737488355328 ∧ h.tok p = xs.length ∧ p < h.ntok then some (.slice sz (xs ++ ys) (.tip p), h.setTok p (xs.length + ys.length)) else none := by
  subst h1
  have e0 : (⟨[t, u']⟩ : Array Nat)[0]? = some t := rfl
  have e1 : (⟨[t, u']⟩ : Array Nat)[1]? = some u' := rfl
  simp only [aappend, e0, e1, Option.bind_some, u, aels, v, hc, hz, ha, hb, h2, h3, true_and, true_or, and_true]
  by_cases q : s2 = zs.length ∨ ys.length = 0
  · simp only [q, if_true, true_and]
    by_cases q2 : (xs.length + ys.length) * by' ≤ 140737488355328
    · simp only [q2, if_true, true_and]
    · simp only [q2, if_false, false_and]
  · simp only [q, if_false, false_and]
end
end Go.Proofs.YtajknofacjiddaaDoor.Abs
