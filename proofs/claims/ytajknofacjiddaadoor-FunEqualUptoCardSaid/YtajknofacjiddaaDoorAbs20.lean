/- Functions that change one map and nothing else. -/
import Derived.Test.YtajknofacjiddaaDoorAbs19
namespace Go.Proofs.YtajknofacjiddaaDoor.Abs
open Go Go.RowKit
set_option linter.unusedVariables false
set_option linter.unusedSimpArgs false
theorem set_newTok (h : AHeap) (n id : Nat) (o : AObj) : (h.newTok n).set id o = (h.set id o).newTok n := rfl
theorem set_setTok (h : AHeap) (t n id : Nat) (o : AObj) : (h.setTok t n).set id o = (h.set id o).setTok t n := rfl
theorem set_set (h : AHeap) (id : Nat) (o o2 : AObj) : (h.set id o).set id o2 = h.set id o2 := by simp [AHeap.set]
theorem set_same (h : AHeap) {id : Nat} {o : AObj} (hg : h.get id = some o) : h.set id o = h := by
  unfold AHeap.set
  have hid := get_lt h id hg
  have : h.objs.set id (some o) = h.objs := by
    refine List.ext_getElem? fun q => ?_
    rw [List.getElem?_set]
    split
    · rename_i hq
      subst hq
      unfold AHeap.get at hg
      unfold AHeap.next at hid
      rw [if_pos hid]
      rw [List.getElem?_eq_getElem hid] at hg ⊢
      simp only [Option.join_some] at hg
      rw [hg]
    · rfl
  rw [this]
theorem Ext.sets {a b : AHeap} (x : Ext a b) {m : Nat} (hm : m < a.next) (o : AObj) : Ext (a.set m o) (b.set m o) :=
  ⟨by rw [next_set, next_set]; exact x.next, x.ntok, fun id h => by
    rw [next_set] at h
    rw [get_set, get_set]
    by_cases q : id = m
    · subst q; rw [if_pos ⟨rfl, Nat.lt_of_lt_of_le h x.next⟩, if_pos ⟨rfl, h⟩]
    · rw [if_neg (fun e => q e.1), if_neg (fun e => q e.1)]; exact x.get id h, x.tok⟩

abbrev Env := ByteArray → Option Bool
structure EMap (es : List AEnt) (env : Env) : Prop where
  map : KMap es fun s => (env s).map AV.bool
  ents : ∀ e ∈ es, ∃ s b, e.key = AV.str s ∧ e.val = AV.bool b
def envPut (env : Env) (s : ByteArray) (b : Bool) : Env := fun t => if t = s then some b else env t
def envDel (env : Env) (s : ByteArray) : Env := fun t => if t = s then none else env t
theorem EMap.nil : EMap [] fun _ => none := ⟨.nil, fun e h => by cases h⟩
theorem EMap.put {es : List AEnt} {env : Env} (m : EMap es env) (clk : Nat) (s : ByteArray) (b : Bool) : ∃ clk' es', amapPut clk es (.str s) (.bool b) = some (.map clk' es') ∧ EMap es' (envPut env s b) := by
  obtain ⟨clk', es', h1, h2, h3⟩ := m.map.put clk s (.bool b)
  refine ⟨clk', es', h1, ⟨?_, fun e he => ?_⟩⟩
  · have : (fun t => (envPut env s b t).map AV.bool) = kupd (fun t => (env t).map AV.bool) s (some (.bool b)) := by
      funext t
      unfold envPut kupd
      by_cases q : t = s
      · rw [if_pos q, if_pos q]; rfl
      · rw [if_neg q, if_neg q]
    rw [this]; exact h2
  · rcases h3 e he with h | ⟨ha, hb⟩
    · exact m.ents e h
    · exact ⟨s, b, ha, hb⟩
theorem EMap.del {es : List AEnt} {env : Env} (m : EMap es env) (clk id : Nat) (s : ByteArray) (h : AHeap) (hg : h.get id = some (.map clk es)) : ∃ es', delM (h.get id) id (.str s) h = some (h.set id (.map clk es')) ∧ EMap es' (envDel env s) := by
  obtain ⟨es', h1, h2, h3⟩ := m.map.del clk id s h hg
  refine ⟨es', h1, ⟨?_, fun e he => m.ents e (h3 e he)⟩⟩
  have : (fun t => (envDel env s t).map AV.bool) = kupd (fun t => (env t).map AV.bool) s none := by
    funext t
    unfold envDel kupd
    by_cases q : t = s
    · rw [if_pos q, if_pos q]; rfl
    · rw [if_neg q, if_neg q]
  rw [this]; exact h2
theorem EMap.look {es : List AEnt} {env : Env} (m : EMap es env) (clk : Nat) (s : ByteArray) : lookM (some (.map clk es)) (.str s) true (.bool false) = some (.tup [.bool ((env s).getD false), .bool (env s).isSome]) := by
  have := m.map.look clk s true (.bool false)
  refine (show lookM (some (.map clk es)) (.str s) true (.bool false) = _ from this).trans ?_
  cases env s <;> rfl
theorem EMap.look1 {es : List AEnt} {env : Env} (m : EMap es env) (clk : Nat) (s : ByteArray) : lookM (some (.map clk es)) (.str s) false (.bool false) = some (.bool ((env s).getD false)) := by
  have := m.map.look clk s false (.bool false)
  refine (show lookM (some (.map clk es)) (.str s) false (.bool false) = _ from this).trans ?_
  cases env s <;> rfl
theorem trim_set {h h1 : AHeap} {m clk : Nat} {es : List AEnt} {env : Env} (hm : m < h.next) (hE : EMap es env) (x : Ext (h.set m (.map clk es)) h1) : Trim h h1 (h.set m (.map clk es)) :=
  ⟨by rw [next_set]; exact Nat.le_refl _, Nat.le_refl _, x.ntok, fun t ht => (x.tok t ht).symm, fun id o ho => ⟨by rw [x.get id (get_lt _ id ho)]; exact ho, by
    rw [get_set] at ho
    by_cases q : id = m
    · subst q
      rw [if_pos ⟨rfl, hm⟩] at ho
      cases ho
      exact .inr fun e he => by obtain ⟨s, b, h1, h2⟩ := hE.ents e he; rw [h1, h2]; exact ⟨rfl, rfl⟩
    · rw [if_neg (fun e => q e.1)] at ho
      exact .inl ho⟩⟩
/-- The map m holds env; nothing else has changed; so it answers. -/
def MapPost (h : AHeap) (m : Nat) (env : Env) (v : AV) : Post := fun r h' => r = .ret v ∧ ∃ clk es, h' = h.set m (.map clk es) ∧ EMap es env
theorem AC.mapped {S : Seat} {f : FuncId} {fn : Func} {c : Code} {args : List AV} {h : AHeap} {m : Nat} {env : Env} {v : AV} (hf : S.P.funcs[f]? = some fn) (hb : fn.body = some c) {n : Nat} (hnt : fn.ntmps = n) (hn : args.length ≤ n)
    (hr : Run S fn [.code c] [] (argFr 0 args) h (fun r h' => Dropped h (MapPost h m env v) r.fgt h')) : AC S f args h (MapPost h m env v) :=
  (AC.enter hf hb (by rw [hnt]; exact hn) hr).forget.drop
theorem Leave.mapped {S : Seat} {fn : Func} {fr : Fr} {h h0 : AHeap} {m clk : Nat} {es : List AEnt} {env : Env} {v : AV} {vs : List AV} (hres : aresults S fn fr h fn.results.toList = some vs) (hv : (oneOf vs).fgt = v) (hm : m < h0.next) (hE : EMap es env) (hx : Ext (h0.set m (.map clk es)) h) (hok : v.ok h0.next h0.ntok = true) :
    Leave S fn .returning [] fr h (fun r h' => Dropped h0 (MapPost h0 m env v) r.fgt h') := by
  refine Leave.ret hres ?_
  show Dropped h0 (MapPost h0 m env v) (.ret (oneOf vs).fgt) h
  rw [hv]
  exact ⟨_, trim_set hm hE hx, by rw [next_set]; exact hok, rfl, clk, es, rfl, hE⟩
/-- A call that changes that map alone. -/
theorem Stop.mapped {S : Seat} {fn : Func} {R : Post} {k : List Item} {ds : List ADef} {fr : Fr} {h : AHeap} {ops : List Oper} {i : Nat} {l : List Nat} {d : Option Nat} {f : Operand} {args : List Operand} {ts : Array TypeId} {ty : Nat} {pos : String} {af : Array Edge} {gd : Option (Nat × Bool)}
    {fid : FuncId} {caps as : List AV} {m : Nat} {env : Env} {v : AV} (hc : AC S fid as h (MapPost h m env v)) (ho : ops[i]? = some ⟨d, .call ⟨.value f, ⟨args⟩, ts⟩, ty, pos, af, gd⟩) (hw : awanted ⟨ops⟩ ⟨d, .call ⟨.value f, ⟨args⟩, ts⟩, ty, pos, af, gd⟩ fr.get = some true) (hd : dstOk fn.ntmps d = true) (hfn : rho S fr.get f = .func fid caps) (he : Enters S fid)
    (has : fgtL (args.map (rho S fr.get) ++ caps) = as)
    (hr : ∀ clk es, EMap es env → Run S fn (.inRegion ⟨ops⟩ l :: k) ds (fr.put d v) (h.set m (.map clk es)) R) : Stop S fn R (.inRegion ⟨ops⟩ (i :: l) :: k) ds fr h := by
  subst has
  exact Run.opCall (by rw [List.getElem?_toArray]; exact ho) hw hd rfl hfn he (Rc := MapPost h m env v) (by simpa using hc.args) (fun v' h' hq => by obtain ⟨h1, clk, es, h2, h3⟩ := hq; cases h1; subst h2; exact hr clk es h3) (fun v' h' hq => by obtain ⟨h1, _⟩ := hq; cases h1)
theorem cells_set {h : AHeap} {m clk clk' : Nat} {es es' : List AEnt} (hm : h.get m = some (.map clk es)) (id off : Nat) : cellsFrom ((h.set m (.map clk' es')).get id) off = cellsFrom (h.get id) off := by
  rw [get_set]
  split
  · rename_i q; obtain ⟨rfl, _⟩ := q; rw [hm]; rfl
  · rfl
/-- The call, in a drawn region, that changes that map alone. -/
theorem DG.mapped {S : Seat} {fn : Func} {ops : Array Oper} {fr : Fr} {h : AHeap} {E : Fr → AHeap → Prop} {d : Option Nat} {f : Operand} {args : List Operand} {ts : Array TypeId} {ty : Nat} {pos : String} {af : Array Edge} {gd : Option (Nat × Bool)} {fid : FuncId} {caps as : List AV} {m clk : Nat} {es : List AEnt} {env : Env} {v : AV}
    (hc : AC S fid as h (MapPost h m env v)) (hm : h.get m = some (.map clk es)) (hw : awanted ops ⟨d, .call ⟨.value f, ⟨args⟩, ts⟩, ty, pos, af, gd⟩ fr.get = some true) (hd : dstOk fn.ntmps d = true) (hfn : rho S fr.get f = .func fid caps) (he : Enters S fid)
    (has : fgtL (args.map (rho S fr.get) ++ caps) = as) (hr : ∀ clk es, EMap es env → E (fr.put d v) (h.set m (.map clk es))) : DG S fn (some ⟨d, .call ⟨.value f, ⟨args⟩, ts⟩, ty, pos, af, gd⟩) ops fr h E := by
  subst has
  refine ⟨d, f, args, ts, ty, pos, af, gd, fid, caps, MapPost h m env v, rfl, hw, hd, hfn, he, hc.args, ?_, ?_⟩
  · rintro v' h' ⟨h1, _⟩
    cases h1
  · rintro v' h' ⟨h1, clk', es', rfl, h3⟩
    cases h1
    exact ⟨fun id off => cells_set hm id off, hr clk' es' h3⟩
/-! Conditions that stay unknown: the reckoning stops there and is parted by hand. -/
theorem evc_t {E : EvT} {k : List Item} {ds : List ADef} {fr : Fr} {h : AHeap} (x y : Code) : EvC E (.bool true) x y k ds fr h = E (.code x :: k) ds fr h := by
  unfold EvC; simp
theorem evc_f {E : EvT} {k : List Item} {ds : List ADef} {fr : Fr} {h : AHeap} (x y : Code) : EvC E (.bool false) x y k ds fr h = E (.code y :: k) ds fr h := by
  unfold EvC; simp
theorem EvC.part {E : EvT} {k : List Item} {ds : List ADef} {fr : Fr} {h : AHeap} {t : Bool} {x y : Code} (h1 : t = true → E (.code x :: k) ds fr h) (h2 : t = false → E (.code y :: k) ds fr h) : EvC E (.bool t) x y k ds fr h := ⟨h1, h2⟩
theorem evg_tt {S : Seat} {fn : Func} {R : Post} {E : EvT} {k : List Item} {ds : List ADef} {fr : Fr} {h : AHeap} (o : Oper) (ops : Array Oper) (i : Nat) (l : List Nat) : EvG S fn R E (some (.bool true)) true o ops i l k ds fr h = EvD S fn R E o ops i l k ds fr h := by
  unfold EvG; simp
theorem evg_ff {S : Seat} {fn : Func} {R : Post} {E : EvT} {k : List Item} {ds : List ADef} {fr : Fr} {h : AHeap} (o : Oper) (ops : Array Oper) (i : Nat) (l : List Nat) : EvG S fn R E (some (.bool false)) false o ops i l k ds fr h = EvD S fn R E o ops i l k ds fr h := by
  unfold EvG; simp
theorem evg_tf {S : Seat} {fn : Func} {R : Post} {E : EvT} {k : List Item} {ds : List ADef} {fr : Fr} {h : AHeap} (o : Oper) (ops : Array Oper) (i : Nat) (l : List Nat) : EvG S fn R E (some (.bool true)) false o ops i l k ds fr h = E (.inRegion ops l :: k) ds (fr.put o.dst (.tup [])) h := by
  unfold EvG; simp
theorem evg_ft {S : Seat} {fn : Func} {R : Post} {E : EvT} {k : List Item} {ds : List ADef} {fr : Fr} {h : AHeap} (o : Oper) (ops : Array Oper) (i : Nat) (l : List Nat) : EvG S fn R E (some (.bool false)) true o ops i l k ds fr h = E (.inRegion ops l :: k) ds (fr.put o.dst (.tup [])) h := by
  unfold EvG; simp
theorem EvG.part {S : Seat} {fn : Func} {R : Post} {E : EvT} {k : List Item} {ds : List ADef} {fr : Fr} {h : AHeap} {t want : Bool} {o : Oper} {ops : Array Oper} {i : Nat} {l : List Nat} (h1 : t = want → EvG S fn R E (some (.bool want)) want o ops i l k ds fr h) (h2 : t = !want → EvG S fn R E (some (.bool (!want))) want o ops i l k ds fr h) : EvG S fn R E (some (.bool t)) want o ops i l k ds fr h := by
  cases t <;> cases want <;> first | exact h1 rfl | exact h2 rfl
/-! Calls that leave a heap which is told outright. -/
def PostH (v : AV) (h2 : AHeap) : Post := fun r h' => r = .ret v ∧ h' = h2
theorem AC.post {S : Seat} {f : FuncId} {fn : Func} {c : Code} {args : List AV} {h : AHeap} {R : Post} (hf : S.P.funcs[f]? = some fn) (hb : fn.body = some c) {n : Nat} (hnt : fn.ntmps = n) (hn : args.length ≤ n)
    (hr : Run S fn [.code c] [] (argFr 0 args) h (fun r h' => Dropped h R r.fgt h')) : AC S f args h R :=
  (AC.enter hf hb (by rw [hnt]; exact hn) hr).forget.drop
theorem Leave.post {S : Seat} {fn : Func} {fr : Fr} {h h0 h2 : AHeap} {v : AV} {vs : List AV} (hres : aresults S fn fr h fn.results.toList = some vs) (hv : (oneOf vs).fgt = v) (ht : Trim h0 h h2) (hok : v.ok h2.next h2.ntok = true) :
    Leave S fn .returning [] fr h (fun r h' => Dropped h0 (PostH v h2) r.fgt h') := by
  refine Leave.ret hres ?_
  show Dropped h0 (PostH v h2) (.ret (oneOf vs).fgt) h
  rw [hv]
  exact ⟨_, ht, hok, rfl, rfl⟩
theorem Stop.post {S : Seat} {fn : Func} {R : Post} {k : List Item} {ds : List ADef} {fr : Fr} {h : AHeap} {ops : List Oper} {i : Nat} {l : List Nat} {d : Option Nat} {f : Operand} {args : List Operand} {ts : Array TypeId} {ty : Nat} {pos : String} {af : Array Edge} {gd : Option (Nat × Bool)}
    {fid : FuncId} {caps as : List AV} {v : AV} {h2 : AHeap} (hc : AC S fid as h (PostH v h2)) (ho : ops[i]? = some ⟨d, .call ⟨.value f, ⟨args⟩, ts⟩, ty, pos, af, gd⟩) (hw : awanted ⟨ops⟩ ⟨d, .call ⟨.value f, ⟨args⟩, ts⟩, ty, pos, af, gd⟩ fr.get = some true) (hd : dstOk fn.ntmps d = true) (hfn : rho S fr.get f = .func fid caps) (he : Enters S fid)
    (has : fgtL (args.map (rho S fr.get) ++ caps) = as)
    (hr : Run S fn (.inRegion ⟨ops⟩ l :: k) ds (fr.put d v) h2 R) : Stop S fn R (.inRegion ⟨ops⟩ (i :: l) :: k) ds fr h := by
  subst has
  exact Run.opCall (by rw [List.getElem?_toArray]; exact ho) hw hd rfl hfn he (Rc := PostH v h2) (by simpa using hc.args) (fun v' h' hq => by obtain ⟨h1, h2⟩ := hq; cases h1; subst h2; exact hr) (fun v' h' hq => by obtain ⟨h1, _⟩ := hq; cases h1)
theorem DX.post {S : Seat} {fn : Func} {ops : Array Oper} {fr : Fr} {h : AHeap} {E : Fr → AHeap → Prop} {d : Option Nat} {f : Operand} {args : List Operand} {ts : Array TypeId} {ty : Nat} {pos : String} {af : Array Edge} {gd : Option (Nat × Bool)} {fid : FuncId} {caps as : List AV} {v : AV} {h2 : AHeap}
    (hc : AC S fid as h (PostH v h2)) (hw : awanted ops ⟨d, .call ⟨.value f, ⟨args⟩, ts⟩, ty, pos, af, gd⟩ fr.get = some true) (hd : dstOk fn.ntmps d = true) (hfn : rho S fr.get f = .func fid caps) (he : Enters S fid)
    (has : fgtL (args.map (rho S fr.get) ++ caps) = as) (hr : E (fr.put d v) h2) : DX S fn (some ⟨d, .call ⟨.value f, ⟨args⟩, ts⟩, ty, pos, af, gd⟩) ops fr h E := by
  subst has
  refine ⟨d, f, args, ts, ty, pos, af, gd, fid, caps, PostH v h2, rfl, hw, hd, hfn, he, hc.args, ?_, ?_⟩
  · rintro v' h' ⟨h1, _⟩
    cases h1
  · rintro v' h' ⟨h1, rfl⟩
    cases h1
    exact hr
end Go.Proofs.YtajknofacjiddaaDoor.Abs
