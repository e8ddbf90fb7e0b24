/- Part 3 of the reckoning: the abstract machine, its soundness, and the contracts of the functions that the law reaches. -/
import Derived.Test.YtajknofacjiddaaDoorM2
import Derived.Shelf.Strings.Fields
import Derived.Test.YtajknofacjiddaaDoorProg
import Derived.Lib.SmallJoins
/- Functions that change one map and nothing else. -/
namespace Go.Proofs.YtajknofacjiddaaDoor.Abs
open Go Go.RowKit
set_option linter.unusedVariables false
set_option linter.unusedSimpArgs false
theorem set_newTok (h : AHeap) (n id : Nat) (o : AObj) : (h.newTok n).set id o = (h.set id o).newTok n := rfl
theorem set_setTok (h : AHeap) (t n id : Nat) (o : AObj) : (h.setTok t n).set id o = (h.set id o).setTok t n := rfl
theorem set_set (h : AHeap) (id : Nat) (o o2 : AObj) : (h.set id o).set id o2 = h.set id o2 := by simp [AHeap.set]
theorem set_same (h : AHeap) {id : Nat} {o : AObj} (hg : h.get id = some o) : h.set id o = h := by
  unfold AHeap.set
  have hid := get_lt h id hg
  have : h.objs.set id (some o) = h.objs := by
    refine List.ext_getElem? fun q => ?_
    rw [List.getElem?_set]
    split
    · rename_i hq
      subst hq
      unfold AHeap.get at hg
      unfold AHeap.next at hid
      rw [if_pos hid]
      rw [List.getElem?_eq_getElem hid] at hg ⊢
      simp only [Option.join_some] at hg
      rw [hg]
    · rfl
  rw [this]
theorem Ext.sets {a b : AHeap} (x : Ext a b) {m : Nat} (hm : m < a.next) (o : AObj) : Ext (a.set m o) (b.set m o) :=
  ⟨by rw [next_set, next_set]; exact x.next, x.ntok, fun id h => by
    rw [next_set] at h
    rw [get_set, get_set]
    by_cases q : id = m
    · subst q; rw [if_pos ⟨rfl, Nat.lt_of_lt_of_le h x.next⟩, if_pos ⟨rfl, h⟩]
    · rw [if_neg (fun e => q e.1), if_neg (fun e => q e.1)]; exact x.get id h, x.tok⟩

abbrev Env := ByteArray → Option Bool
structure EMap (es : List AEnt) (env : Env) : Prop where
  map : KMap es fun s => (env s).map AV.bool
  ents : ∀ e ∈ es, ∃ s b, e.key = AV.str s ∧ e.val = AV.bool b
def envPut (env : Env) (s : ByteArray) (b : Bool) : Env := fun t => if t = s then some b else env t
def envDel (env : Env) (s : ByteArray) : Env := fun t => if t = s then none else env t
theorem EMap.nil : EMap [] fun _ => none := ⟨.nil, fun e h => by cases h⟩
theorem EMap.put {es : List AEnt} {env : Env} (m : EMap es env) (clk : Nat) (s : ByteArray) (b : Bool) : ∃ clk' es', amapPut clk es (.str s) (.bool b) = some (.map clk' es') ∧ EMap es' (envPut env s b) := by
  obtain ⟨clk', es', h1, h2, h3⟩ := m.map.put clk s (.bool b)
  refine ⟨clk', es', h1, ⟨?_, fun e he => ?_⟩⟩
  · have : (fun t => (envPut env s b t).map AV.bool) = kupd (fun t => (env t).map AV.bool) s (some (.bool b)) := by
      funext t
      unfold envPut kupd
      by_cases q : t = s
      · rw [if_pos q, if_pos q]; rfl
      · rw [if_neg q, if_neg q]
    rw [this]; exact h2
  · rcases h3 e he with h | ⟨ha, hb⟩
    · exact m.ents e h
    · exact ⟨s, b, ha, hb⟩
theorem EMap.del {es : List AEnt} {env : Env} (m : EMap es env) (clk id : Nat) (s : ByteArray) (h : AHeap) (hg : h.get id = some (.map clk es)) : ∃ es', delM (h.get id) id (.str s) h = some (h.set id (.map clk es')) ∧ EMap es' (envDel env s) := by
  obtain ⟨es', h1, h2, h3⟩ := m.map.del clk id s h hg
  refine ⟨es', h1, ⟨?_, fun e he => m.ents e (h3 e he)⟩⟩
  have : (fun t => (envDel env s t).map AV.bool) = kupd (fun t => (env t).map AV.bool) s none := by
    funext t
    unfold envDel kupd
    by_cases q : t = s
    · rw [if_pos q, if_pos q]; rfl
    · rw [if_neg q, if_neg q]
  rw [this]; exact h2
theorem EMap.look {es : List AEnt} {env : Env} (m : EMap es env) (clk : Nat) (s : ByteArray) : lookM (some (.map clk es)) (.str s) true (.bool false) = some (.tup [.bool ((env s).getD false), .bool (env s).isSome]) := by
  have := m.map.look clk s true (.bool false)
  refine (show lookM (some (.map clk es)) (.str s) true (.bool false) = _ from this).trans ?_
  cases env s <;> rfl
theorem EMap.look1 {es : List AEnt} {env : Env} (m : EMap es env) (clk : Nat) (s : ByteArray) : lookM (some (.map clk es)) (.str s) false (.bool false) = some (.bool ((env s).getD false)) := by
  have := m.map.look clk s false (.bool false)
  refine (show lookM (some (.map clk es)) (.str s) false (.bool false) = _ from this).trans ?_
  cases env s <;> rfl
theorem trim_set {h h1 : AHeap} {m clk : Nat} {es : List AEnt} {env : Env} (hm : m < h.next) (hE : EMap es env) (x : Ext (h.set m (.map clk es)) h1) : Trim h h1 (h.set m (.map clk es)) :=
  ⟨by rw [next_set]; exact Nat.le_refl _, Nat.le_refl _, x.ntok, fun t ht => (x.tok t ht).symm, fun id o ho => ⟨by rw [x.get id (get_lt _ id ho)]; exact ho, by
    rw [get_set] at ho
    by_cases q : id = m
    · subst q
      rw [if_pos ⟨rfl, hm⟩] at ho
      cases ho
      exact .inr fun e he => by obtain ⟨s, b, h1, h2⟩ := hE.ents e he; rw [h1, h2]; exact ⟨rfl, rfl⟩
    · rw [if_neg (fun e => q e.1)] at ho
      exact .inl ho⟩⟩
/-- The map m holds env; nothing else has changed; so it answers. -/
def MapPost (h : AHeap) (m : Nat) (env : Env) (v : AV) : Post := fun r h' => r = .ret v ∧ ∃ clk es, h' = h.set m (.map clk es) ∧ EMap es env
theorem AC.mapped {S : Seat} {f : FuncId} {fn : Func} {c : Code} {args : List AV} {h : AHeap} {m : Nat} {env : Env} {v : AV} (hf : S.P.funcs[f]? = some fn) (hb : fn.body = some c) {n : Nat} (hnt : fn.ntmps = n) (hn : args.length ≤ n)
    (hr : Run S fn [.code c] [] (argFr 0 args) h (fun r h' => Dropped h (MapPost h m env v) r.fgt h')) : AC S f args h (MapPost h m env v) :=
  (AC.enter hf hb (by rw [hnt]; exact hn) hr).forget.drop
theorem Leave.mapped {S : Seat} {fn : Func} {fr : Fr} {h h0 : AHeap} {m clk : Nat} {es : List AEnt} {env : Env} {v : AV} {vs : List AV} (hres : aresults S fn fr h fn.results.toList = some vs) (hv : (oneOf vs).fgt = v) (hm : m < h0.next) (hE : EMap es env) (hx : Ext (h0.set m (.map clk es)) h) (hok : v.ok h0.next h0.ntok = true) :
    Leave S fn .returning [] fr h (fun r h' => Dropped h0 (MapPost h0 m env v) r.fgt h') := by
  refine Leave.ret hres ?_
  show Dropped h0 (MapPost h0 m env v) (.ret (oneOf vs).fgt) h
  rw [hv]
  exact ⟨_, trim_set hm hE hx, by rw [next_set]; exact hok, rfl, clk, es, rfl, hE⟩
/-- A call that changes that map alone. -/
theorem Stop.mapped {S : Seat} {fn : Func} {R : Post} {k : List Item} {ds : List ADef} {fr : Fr} {h : AHeap} {ops : List Oper} {i : Nat} {l : List Nat} {d : Option Nat} {f : Operand} {args : List Operand} {ts : Array TypeId} {ty : Nat} {pos : String} {af : Array Edge} {gd : Option (Nat × Bool)}
    {fid : FuncId} {caps avs : List AV} {m : Nat} {env : Env} {v : AV} (hc : AC S fid avs h (MapPost h m env v)) (ho : ops[i]? = some ⟨d, .call ⟨.value f, ⟨args⟩, ts⟩, ty, pos, af, gd⟩) (hw : awanted ⟨ops⟩ ⟨d, .call ⟨.value f, ⟨args⟩, ts⟩, ty, pos, af, gd⟩ fr.get = some true) (hd : dstOk fn.ntmps d = true) (hfn : rho S fr.get f = .func fid caps) (he : Enters S fid)
    (has : fgtL (args.map (rho S fr.get) ++ caps) = avs)
    (hr : ∀ clk es, EMap es env → Run S fn (.inRegion ⟨ops⟩ l :: k) ds (fr.put d v) (h.set m (.map clk es)) R) : Stop S fn R (.inRegion ⟨ops⟩ (i :: l) :: k) ds fr h := by
  subst has
  exact Run.opCall (by rw [List.getElem?_toArray]; exact ho) hw hd rfl hfn he (Rc := MapPost h m env v) (by simpa using hc.args) (fun v' h' hq => by obtain ⟨h1, clk, es, h2, h3⟩ := hq; cases h1; subst h2; exact hr clk es h3) (fun v' h' hq => by obtain ⟨h1, _⟩ := hq; cases h1)
theorem cells_set {h : AHeap} {m clk clk' : Nat} {es es' : List AEnt} (hm : h.get m = some (.map clk es)) (id off : Nat) : cellsFrom ((h.set m (.map clk' es')).get id) off = cellsFrom (h.get id) off := by
  rw [get_set]
  split
  · rename_i q; obtain ⟨rfl, _⟩ := q; rw [hm]; rfl
  · rfl
/-- The call, in a drawn region, that changes that map alone. -/
theorem DG.mapped {S : Seat} {fn : Func} {ops : Array Oper} {fr : Fr} {h : AHeap} {E : Fr → AHeap → Prop} {d : Option Nat} {f : Operand} {args : List Operand} {ts : Array TypeId} {ty : Nat} {pos : String} {af : Array Edge} {gd : Option (Nat × Bool)} {fid : FuncId} {caps avs : List AV} {m clk : Nat} {es : List AEnt} {env : Env} {v : AV}
    (hc : AC S fid avs h (MapPost h m env v)) (hm : h.get m = some (.map clk es)) (hw : awanted ops ⟨d, .call ⟨.value f, ⟨args⟩, ts⟩, ty, pos, af, gd⟩ fr.get = some true) (hd : dstOk fn.ntmps d = true) (hfn : rho S fr.get f = .func fid caps) (he : Enters S fid)
    (has : fgtL (args.map (rho S fr.get) ++ caps) = avs) (hr : ∀ clk es, EMap es env → E (fr.put d v) (h.set m (.map clk es))) : DG S fn (some ⟨d, .call ⟨.value f, ⟨args⟩, ts⟩, ty, pos, af, gd⟩) ops fr h E := by
  subst has
  refine ⟨d, f, args, ts, ty, pos, af, gd, fid, caps, MapPost h m env v, rfl, hw, hd, hfn, he, hc.args, ?_, ?_⟩
  · rintro v' h' ⟨h1, _⟩
    cases h1
  · rintro v' h' ⟨h1, clk', es', rfl, h3⟩
    cases h1
    exact ⟨fun id off => cells_set hm id off, hr clk' es' h3⟩
/-! Conditions that stay unknown: the reckoning stops there and is parted by hand. -/
theorem evc_t {E : EvT} {k : List Item} {ds : List ADef} {fr : Fr} {h : AHeap} (x y : Code) : EvC E (.bool true) x y k ds fr h = E (.code x :: k) ds fr h := by
  unfold EvC; simp
theorem evc_f {E : EvT} {k : List Item} {ds : List ADef} {fr : Fr} {h : AHeap} (x y : Code) : EvC E (.bool false) x y k ds fr h = E (.code y :: k) ds fr h := by
  unfold EvC; simp
theorem EvC.part {E : EvT} {k : List Item} {ds : List ADef} {fr : Fr} {h : AHeap} {t : Bool} {x y : Code} (h1 : t = true → E (.code x :: k) ds fr h) (h2 : t = false → E (.code y :: k) ds fr h) : EvC E (.bool t) x y k ds fr h := ⟨h1, h2⟩
theorem evg_tt {S : Seat} {fn : Func} {R : Post} {E : EvT} {k : List Item} {ds : List ADef} {fr : Fr} {h : AHeap} (o : Oper) (ops : Array Oper) (i : Nat) (l : List Nat) : EvG S fn R E (some (.bool true)) true o ops i l k ds fr h = EvD S fn R E o ops i l k ds fr h := by
  unfold EvG; simp
theorem evg_ff {S : Seat} {fn : Func} {R : Post} {E : EvT} {k : List Item} {ds : List ADef} {fr : Fr} {h : AHeap} (o : Oper) (ops : Array Oper) (i : Nat) (l : List Nat) : EvG S fn R E (some (.bool false)) false o ops i l k ds fr h = EvD S fn R E o ops i l k ds fr h := by
  unfold EvG; simp
theorem evg_tf {S : Seat} {fn : Func} {R : Post} {E : EvT} {k : List Item} {ds : List ADef} {fr : Fr} {h : AHeap} (o : Oper) (ops : Array Oper) (i : Nat) (l : List Nat) : EvG S fn R E (some (.bool true)) false o ops i l k ds fr h = E (.inRegion ops l :: k) ds (fr.put o.dst (.tup [])) h := by
  unfold EvG; simp
theorem evg_ft {S : Seat} {fn : Func} {R : Post} {E : EvT} {k : List Item} {ds : List ADef} {fr : Fr} {h : AHeap} (o : Oper) (ops : Array Oper) (i : Nat) (l : List Nat) : EvG S fn R E (some (.bool false)) true o ops i l k ds fr h = E (.inRegion ops l :: k) ds (fr.put o.dst (.tup [])) h := by
  unfold EvG; simp
theorem EvG.part {S : Seat} {fn : Func} {R : Post} {E : EvT} {k : List Item} {ds : List ADef} {fr : Fr} {h : AHeap} {t want : Bool} {o : Oper} {ops : Array Oper} {i : Nat} {l : List Nat} (h1 : t = want → EvG S fn R E (some (.bool want)) want o ops i l k ds fr h) (h2 : t = !want → EvG S fn R E (some (.bool (!want))) want o ops i l k ds fr h) : EvG S fn R E (some (.bool t)) want o ops i l k ds fr h := by
  cases t <;> cases want <;> first | exact h1 rfl | exact h2 rfl
/-! Calls that leave a heap which is told outright. -/
def PostH (v : AV) (h2 : AHeap) : Post := fun r h' => r = .ret v ∧ h' = h2
theorem AC.post {S : Seat} {f : FuncId} {fn : Func} {c : Code} {args : List AV} {h : AHeap} {R : Post} (hf : S.P.funcs[f]? = some fn) (hb : fn.body = some c) {n : Nat} (hnt : fn.ntmps = n) (hn : args.length ≤ n)
    (hr : Run S fn [.code c] [] (argFr 0 args) h (fun r h' => Dropped h R r.fgt h')) : AC S f args h R :=
  (AC.enter hf hb (by rw [hnt]; exact hn) hr).forget.drop
theorem Leave.post {S : Seat} {fn : Func} {fr : Fr} {h h0 h2 : AHeap} {v : AV} {vs : List AV} (hres : aresults S fn fr h fn.results.toList = some vs) (hv : (oneOf vs).fgt = v) (ht : Trim h0 h h2) (hok : v.ok h2.next h2.ntok = true) :
    Leave S fn .returning [] fr h (fun r h' => Dropped h0 (PostH v h2) r.fgt h') := by
  refine Leave.ret hres ?_
  show Dropped h0 (PostH v h2) (.ret (oneOf vs).fgt) h
  rw [hv]
  exact ⟨_, ht, hok, rfl, rfl⟩
theorem Stop.post {S : Seat} {fn : Func} {R : Post} {k : List Item} {ds : List ADef} {fr : Fr} {h : AHeap} {ops : List Oper} {i : Nat} {l : List Nat} {d : Option Nat} {f : Operand} {args : List Operand} {ts : Array TypeId} {ty : Nat} {pos : String} {af : Array Edge} {gd : Option (Nat × Bool)}
    {fid : FuncId} {caps avs : List AV} {v : AV} {h2 : AHeap} (hc : AC S fid avs h (PostH v h2)) (ho : ops[i]? = some ⟨d, .call ⟨.value f, ⟨args⟩, ts⟩, ty, pos, af, gd⟩) (hw : awanted ⟨ops⟩ ⟨d, .call ⟨.value f, ⟨args⟩, ts⟩, ty, pos, af, gd⟩ fr.get = some true) (hd : dstOk fn.ntmps d = true) (hfn : rho S fr.get f = .func fid caps) (he : Enters S fid)
    (has : fgtL (args.map (rho S fr.get) ++ caps) = avs)
    (hr : Run S fn (.inRegion ⟨ops⟩ l :: k) ds (fr.put d v) h2 R) : Stop S fn R (.inRegion ⟨ops⟩ (i :: l) :: k) ds fr h := by
  subst has
  exact Run.opCall (by rw [List.getElem?_toArray]; exact ho) hw hd rfl hfn he (Rc := PostH v h2) (by simpa using hc.args) (fun v' h' hq => by obtain ⟨h1, h2⟩ := hq; cases h1; subst h2; exact hr) (fun v' h' hq => by obtain ⟨h1, _⟩ := hq; cases h1)
theorem DX.post {S : Seat} {fn : Func} {ops : Array Oper} {fr : Fr} {h : AHeap} {E : Fr → AHeap → Prop} {d : Option Nat} {f : Operand} {args : List Operand} {ts : Array TypeId} {ty : Nat} {pos : String} {af : Array Edge} {gd : Option (Nat × Bool)} {fid : FuncId} {caps avs : List AV} {v : AV} {h2 : AHeap}
    (hc : AC S fid avs h (PostH v h2)) (hw : awanted ops ⟨d, .call ⟨.value f, ⟨args⟩, ts⟩, ty, pos, af, gd⟩ fr.get = some true) (hd : dstOk fn.ntmps d = true) (hfn : rho S fr.get f = .func fid caps) (he : Enters S fid)
    (has : fgtL (args.map (rho S fr.get) ++ caps) = avs) (hr : E (fr.put d v) h2) : DX S fn (some ⟨d, .call ⟨.value f, ⟨args⟩, ts⟩, ty, pos, af, gd⟩) ops fr h E := by
  subst has
  refine ⟨d, f, args, ts, ty, pos, af, gd, fid, caps, PostH v h2, rfl, hw, hd, hfn, he, hc.args, ?_, ?_⟩
  · rintro v' h' ⟨h1, _⟩
    cases h1
  · rintro v' h' ⟨h1, rfl⟩
    cases h1
    exact hr
end Go.Proofs.YtajknofacjiddaaDoor.Abs

namespace Go.Proofs.YtajknofacjiddaaDoor.Abs
open Go Go.RowKit
theorem wev : type_of% (And.intro @ev_zero ( And.intro @ev_seq ( And.intro @ev_skip ( And.intro @ev_cond ( And.intro @ev_block ( And.intro @ev_inBlock ( And.intro @ev_exit ( And.intro @ev_ret ( And.intro @ev_nil ( And.intro @ev_region ( And.intro @ev_draw ( And.intro @ev_loop ( And.intro @ev_inLoop ( And.intro @ev_regionEnd ( And.intro @ev_op ( And.intro @evc_if ( And.intro @evx_some ( And.intro @evq_some ( And.intro @evq_ite ( And.intro @evq_ite' ( And.intro @eve_some ( And.intro @eve_ite ( And.intro @evo_some ( And.intro @evo_guard ( And.intro @evg_if ( And.intro @evg_tup ( And.intro @evd_move ( And.intro @evd_assign ( And.intro @evd_pick ( And.intro @evd_load ( And.intro @evd_nilCheck ( And.intro @evd_binOp ( And.intro @evd_unOp ( And.intro @evd_convert ( And.intro @evd_makeFunc ( And.intro @evd_makeIface ( And.intro @evd_fieldAddr ( And.intro @evd_field ( And.intro @evd_indexAddr ( And.intro @evd_index ( And.intro @evd_lookup ( And.intro @evd_extract ( And.intro @evd_slice ( And.intro @evd_build ( And.intro @evd_buildSlice ( And.intro @evd_len ( And.intro @evd_max ( And.intro @evd_min ( And.intro @evd_alloc ( And.intro @evd_box ( And.intro @evd_makeMap ( And.intro @evd_makeSlice ( And.intro @evd_store ( And.intro @evd_mapUpdate ( And.intro @evd_insert ( And.intro @evd_range ( And.intro @evd_append ( And.intro @evd_delete ( And.intro @evd_call ( And.intro @evd_defer ( And.intro @evd_panic ( And.intro @evd_next ( And.intro @rho_tmp ( And.intro @rho_const ( And.intro @rho_func ( And.intro @ofV_int ( And.intro @ofV_bool ( And.intro @ofV_str ( And.intro @ofV_nilptr ( And.intro @ofV_nilslice ( And.intro @ofV_nilmap ( And.intro @ofV_nilfunc ( And.intro @ofV_niliface ( And.intro @get_cons ( And.intro @put_some ( And.intro @put_none ( And.intro @dstOk_some ( And.intro @dstOk_none ( And.intro @exitTo_same ( And.intro @exitTo_block ( And.intro @exitTo_loop ( And.intro @exitTo_code (@exitTo_region))))))))))))))))))))))))))))))))))))))))))))))))))))))))))))))))))))))))))))))))))) := And.intro @ev_zero ( And.intro @ev_seq ( And.intro @ev_skip ( And.intro @ev_cond ( And.intro @ev_block ( And.intro @ev_inBlock ( And.intro @ev_exit ( And.intro @ev_ret ( And.intro @ev_nil ( And.intro @ev_region ( And.intro @ev_draw ( And.intro @ev_loop ( And.intro @ev_inLoop ( And.intro @ev_regionEnd ( And.intro @ev_op ( And.intro @evc_if ( And.intro @evx_some ( And.intro @evq_some ( And.intro @evq_ite ( And.intro @evq_ite' ( And.intro @eve_some ( And.intro @eve_ite ( And.intro @evo_some ( And.intro @evo_guard ( And.intro @evg_if ( And.intro @evg_tup ( And.intro @evd_move ( And.intro @evd_assign ( And.intro @evd_pick ( And.intro @evd_load ( And.intro @evd_nilCheck ( And.intro @evd_binOp ( And.intro @evd_unOp ( And.intro @evd_convert ( And.intro @evd_makeFunc ( And.intro @evd_makeIface ( And.intro @evd_fieldAddr ( And.intro @evd_field ( And.intro @evd_indexAddr ( And.intro @evd_index ( And.intro @evd_lookup ( And.intro @evd_extract ( And.intro @evd_slice ( And.intro @evd_build ( And.intro @evd_buildSlice ( And.intro @evd_len ( And.intro @evd_max ( And.intro @evd_min ( And.intro @evd_alloc ( And.intro @evd_box ( And.intro @evd_makeMap ( And.intro @evd_makeSlice ( And.intro @evd_store ( And.intro @evd_mapUpdate ( And.intro @evd_insert ( And.intro @evd_range ( And.intro @evd_append ( And.intro @evd_delete ( And.intro @evd_call ( And.intro @evd_defer ( And.intro @evd_panic ( And.intro @evd_next ( And.intro @rho_tmp ( And.intro @rho_const ( And.intro @rho_func ( And.intro @ofV_int ( And.intro @ofV_bool ( And.intro @ofV_str ( And.intro @ofV_nilptr ( And.intro @ofV_nilslice ( And.intro @ofV_nilmap ( And.intro @ofV_nilfunc ( And.intro @ofV_niliface ( And.intro @get_cons ( And.intro @put_some ( And.intro @put_none ( And.intro @dstOk_some ( And.intro @dstOk_none ( And.intro @exitTo_same ( And.intro @exitTo_block ( And.intro @exitTo_loop ( And.intro @exitTo_code (@exitTo_region))))))))))))))))))))))))))))))))))))))))))))))))))))))))))))))))))))))))))))))))))
theorem wvs : type_of% (And.intro @ev_zero ( And.intro @ev_seq ( And.intro @ev_skip ( And.intro @ev_cond ( And.intro @ev_block ( And.intro @ev_inBlock ( And.intro @ev_exit ( And.intro @ev_ret ( And.intro @ev_nil ( And.intro @ev_region ( And.intro @ev_draw ( And.intro @ev_loop ( And.intro @ev_inLoop ( And.intro @ev_regionEnd ( And.intro @ev_op ( And.intro @evx_some ( And.intro @evq_some ( And.intro @evq_ite ( And.intro @evq_ite' ( And.intro @eve_some ( And.intro @eve_ite ( And.intro @evo_some ( And.intro @evo_guard ( And.intro @evg_tup ( And.intro @evd_move ( And.intro @evd_assign ( And.intro @evd_pick ( And.intro @evd_load ( And.intro @evd_nilCheck ( And.intro @evd_binOp ( And.intro @evd_unOp ( And.intro @evd_convert ( And.intro @evd_makeFunc ( And.intro @evd_makeIface ( And.intro @evd_fieldAddr ( And.intro @evd_field ( And.intro @evd_indexAddr ( And.intro @evd_index ( And.intro @evd_lookup ( And.intro @evd_extract ( And.intro @evd_slice ( And.intro @evd_build ( And.intro @evd_buildSlice ( And.intro @evd_len ( And.intro @evd_max ( And.intro @evd_min ( And.intro @evd_alloc ( And.intro @evd_box ( And.intro @evd_makeMap ( And.intro @evd_makeSlice ( And.intro @evd_store ( And.intro @evd_mapUpdate ( And.intro @evd_insert ( And.intro @evd_range ( And.intro @evd_append ( And.intro @evd_delete ( And.intro @evd_call ( And.intro @evd_defer ( And.intro @evd_panic ( And.intro @evd_next ( And.intro @rho_tmp ( And.intro @rho_const ( And.intro @rho_func ( And.intro @ofV_int ( And.intro @ofV_bool ( And.intro @ofV_str ( And.intro @ofV_nilptr ( And.intro @ofV_nilslice ( And.intro @ofV_nilmap ( And.intro @ofV_nilfunc ( And.intro @ofV_niliface ( And.intro @get_cons ( And.intro @put_some ( And.intro @put_none ( And.intro @dstOk_some ( And.intro @dstOk_none ( And.intro @exitTo_same ( And.intro @exitTo_block ( And.intro @exitTo_loop ( And.intro @exitTo_code ( And.intro @exitTo_region ( And.intro @evc_t ( And.intro @evc_f ( And.intro @evg_tt ( And.intro @evg_ff ( And.intro @evg_tf (@evg_ft))))))))))))))))))))))))))))))))))))))))))))))))))))))))))))))))))))))))))))))))))))))) := And.intro @ev_zero ( And.intro @ev_seq ( And.intro @ev_skip ( And.intro @ev_cond ( And.intro @ev_block ( And.intro @ev_inBlock ( And.intro @ev_exit ( And.intro @ev_ret ( And.intro @ev_nil ( And.intro @ev_region ( And.intro @ev_draw ( And.intro @ev_loop ( And.intro @ev_inLoop ( And.intro @ev_regionEnd ( And.intro @ev_op ( And.intro @evx_some ( And.intro @evq_some ( And.intro @evq_ite ( And.intro @evq_ite' ( And.intro @eve_some ( And.intro @eve_ite ( And.intro @evo_some ( And.intro @evo_guard ( And.intro @evg_tup ( And.intro @evd_move ( And.intro @evd_assign ( And.intro @evd_pick ( And.intro @evd_load ( And.intro @evd_nilCheck ( And.intro @evd_binOp ( And.intro @evd_unOp ( And.intro @evd_convert ( And.intro @evd_makeFunc ( And.intro @evd_makeIface ( And.intro @evd_fieldAddr ( And.intro @evd_field ( And.intro @evd_indexAddr ( And.intro @evd_index ( And.intro @evd_lookup ( And.intro @evd_extract ( And.intro @evd_slice ( And.intro @evd_build ( And.intro @evd_buildSlice ( And.intro @evd_len ( And.intro @evd_max ( And.intro @evd_min ( And.intro @evd_alloc ( And.intro @evd_box ( And.intro @evd_makeMap ( And.intro @evd_makeSlice ( And.intro @evd_store ( And.intro @evd_mapUpdate ( And.intro @evd_insert ( And.intro @evd_range ( And.intro @evd_append ( And.intro @evd_delete ( And.intro @evd_call ( And.intro @evd_defer ( And.intro @evd_panic ( And.intro @evd_next ( And.intro @rho_tmp ( And.intro @rho_const ( And.intro @rho_func ( And.intro @ofV_int ( And.intro @ofV_bool ( And.intro @ofV_str ( And.intro @ofV_nilptr ( And.intro @ofV_nilslice ( And.intro @ofV_nilmap ( And.intro @ofV_nilfunc ( And.intro @ofV_niliface ( And.intro @get_cons ( And.intro @put_some ( And.intro @put_none ( And.intro @dstOk_some ( And.intro @dstOk_none ( And.intro @exitTo_same ( And.intro @exitTo_block ( And.intro @exitTo_loop ( And.intro @exitTo_code ( And.intro @exitTo_region ( And.intro @evc_t ( And.intro @evc_f ( And.intro @evg_tt ( And.intro @evg_ff ( And.intro @evg_tf (@evg_ft))))))))))))))))))))))))))))))))))))))))))))))))))))))))))))))))))))))))))))))))))))))
theorem wab : type_of% (And.intro @get_newTok ( And.intro @next_newTok ( And.intro @get_setTok ( And.intro @next_setTok ( And.intro @tok_alloc ( And.intro @ntok_alloc ( And.intro @tok_set ( And.intro @ntok_set ( And.intro @set_newTok ( And.intro @set_setTok ( And.intro @set_set ( And.intro @afill_nil ( And.intro @afill_cons ( And.intro @fillAt_s ( And.intro @plOf_eq ( And.intro @azeros_z ( And.intro @azeros_s ( And.intro @chunk_z ( And.intro @chunk_s ( And.intro @bsM_s ( And.intro @dev_nil ( And.intro @dev_c ( And.intro @dev_x ( And.intro @dev_g ( And.intro @dev_q ( And.intro @dev_e ( And.intro @dev_d ( And.intro @dd_some ( And.intro @has_nil ( And.intro @has_cons ( And.intro @fgt_bool ( And.intro @fgt_int ( And.intro @fgt_str ( And.intro @fgt_top ( And.intro @fgt_ptr ( And.intro @fgt_map ( And.intro @fgt_slice ( And.intro @fgt_k ( And.intro @acs_k ( And.intro @acell_k ( And.intro @abox_k ( And.intro @fgt_agg ( And.intro @fgt_tup ( And.intro @fgt_func ( And.intro @fgtL_nil ( And.intro @fgtL_cons ( And.intro @fgtLL_nil ( And.intro @fgtLL_cons ( And.intro @aload_ptr ( And.intro @aload_cptr ( And.intro @get_alloc ( And.intro @next_alloc ( And.intro @get_set ( And.intro @next_set ( And.intro @ntok_newTok ( And.intro @tok_newTok ( And.intro @ntok_setTok ( And.intro @tok_setTok ( And.intro @cellsFrom_some ( And.intro @abin_add ( And.intro @abin_sub ( And.intro @abin_mul ( And.intro @abin_quo ( And.intro @abin_rem ( And.intro @abin_eql ( And.intro @abin_neq ( And.intro @abin_lss ( And.intro @abin_leq ( And.intro @abin_gtr ( And.intro @abin_geq ( And.intro @abin_seql ( And.intro @abin_sneq ( And.intro @aun_not ( And.intro @aun_neg ( And.intro @apickO_bool ( And.intro @apick_bool ( And.intro @apick_true ( And.intro @apick_false ( And.intro @anil_ptr ( And.intro @anil_cptr ( And.intro @anil_func ( And.intro @aextract_tup (@amm_two))))))))))))))))))))))))))))))))))))))))))))))))))))))))))))))))))))))))))))))))))) := And.intro @get_newTok ( And.intro @next_newTok ( And.intro @get_setTok ( And.intro @next_setTok ( And.intro @tok_alloc ( And.intro @ntok_alloc ( And.intro @tok_set ( And.intro @ntok_set ( And.intro @set_newTok ( And.intro @set_setTok ( And.intro @set_set ( And.intro @afill_nil ( And.intro @afill_cons ( And.intro @fillAt_s ( And.intro @plOf_eq ( And.intro @azeros_z ( And.intro @azeros_s ( And.intro @chunk_z ( And.intro @chunk_s ( And.intro @bsM_s ( And.intro @dev_nil ( And.intro @dev_c ( And.intro @dev_x ( And.intro @dev_g ( And.intro @dev_q ( And.intro @dev_e ( And.intro @dev_d ( And.intro @dd_some ( And.intro @has_nil ( And.intro @has_cons ( And.intro @fgt_bool ( And.intro @fgt_int ( And.intro @fgt_str ( And.intro @fgt_top ( And.intro @fgt_ptr ( And.intro @fgt_map ( And.intro @fgt_slice ( And.intro @fgt_k ( And.intro @acs_k ( And.intro @acell_k ( And.intro @abox_k ( And.intro @fgt_agg ( And.intro @fgt_tup ( And.intro @fgt_func ( And.intro @fgtL_nil ( And.intro @fgtL_cons ( And.intro @fgtLL_nil ( And.intro @fgtLL_cons ( And.intro @aload_ptr ( And.intro @aload_cptr ( And.intro @get_alloc ( And.intro @next_alloc ( And.intro @get_set ( And.intro @next_set ( And.intro @ntok_newTok ( And.intro @tok_newTok ( And.intro @ntok_setTok ( And.intro @tok_setTok ( And.intro @cellsFrom_some ( And.intro @abin_add ( And.intro @abin_sub ( And.intro @abin_mul ( And.intro @abin_quo ( And.intro @abin_rem ( And.intro @abin_eql ( And.intro @abin_neq ( And.intro @abin_lss ( And.intro @abin_leq ( And.intro @abin_gtr ( And.intro @abin_geq ( And.intro @abin_seql ( And.intro @abin_sneq ( And.intro @aun_not ( And.intro @aun_neg ( And.intro @apickO_bool ( And.intro @apick_bool ( And.intro @apick_true ( And.intro @apick_false ( And.intro @anil_ptr ( And.intro @anil_cptr ( And.intro @anil_func ( And.intro @aextract_tup (@amm_two))))))))))))))))))))))))))))))))))))))))))))))))))))))))))))))))))))))))))))))))))
theorem wty : type_of% (And.intro @rd_3 ( And.intro @rd_4 ( And.intro @rd_5 ( And.intro @rd_9 ( And.intro @rd_22 ( And.intro @rd_30 ( And.intro @rd_32 ( And.intro @rd_39 ( And.intro @rd_41 ( And.intro @rd_43 ( And.intro @rd_49 ( And.intro @rd_54 ( And.intro @rd_65 ( And.intro @rd_67 ( And.intro @rd_73 ( And.intro @rd_97 ( And.intro @rd_98 ( And.intro @rd_100 ( And.intro @rd_101 ( And.intro @rd_102 ( And.intro @rd_105 ( And.intro @rd_110 ( And.intro @fa_32_0p ( And.intro @fa_32_0c ( And.intro @fa_32_1p ( And.intro @fa_32_1c ( And.intro @fa_32_2p ( And.intro @fa_32_2c ( And.intro @fa_32_3p ( And.intro @fa_32_3c ( And.intro @fa_41_0p ( And.intro @fa_41_0c ( And.intro @fa_41_1p ( And.intro @fa_41_1c ( And.intro @fa_41_2p ( And.intro @fa_41_2c ( And.intro @fa_41_3p ( And.intro @fa_41_3c ( And.intro @fa_49_0p ( And.intro @fa_49_0c ( And.intro @fa_49_1p ( And.intro @fa_49_1c ( And.intro @fa_49_2p ( And.intro @fa_49_2c ( And.intro @fa_54_0p ( And.intro @fa_54_0c ( And.intro @fa_54_1p ( And.intro @fa_54_1c ( And.intro @fa_54_2p ( And.intro @fa_54_2c ( And.intro @fa_65_0p ( And.intro @fa_65_0c ( And.intro @fa_65_1p ( And.intro @fa_65_1c ( And.intro @fa_79_0p ( And.intro @fa_79_0c ( And.intro @fa_79_1p ( And.intro @fa_79_1c ( And.intro @fa_97_0p ( And.intro @fa_97_0c ( And.intro @fa_97_1p ( And.intro @fa_97_1c ( And.intro @fa_104_0p ( And.intro @fa_104_0c ( And.intro @fa_104_1p ( And.intro @fa_104_1c ( And.intro @fa_104_2p ( And.intro @fa_104_2c ( And.intro @fa_107_0p ( And.intro @fa_107_0c ( And.intro @fa_107_1p ( And.intro @fa_107_1c ( And.intro @fa_107_2p ( And.intro @fa_107_2c ( And.intro @fa_110_0p ( And.intro @fa_110_0c ( And.intro @fa_110_1p ( And.intro @fa_110_1c ( And.intro @fa_110_2p ( And.intro @fa_110_2c ( And.intro @ia_22 ( And.intro @ia_22k ( And.intro @ia_22r ( And.intro @ia_30 ( And.intro @ia_30k ( And.intro @ia_30r ( And.intro @ia_39 ( And.intro @ia_39k ( And.intro @ia_39r ( And.intro @ia_43 ( And.intro @ia_43k ( And.intro @ia_43r ( And.intro @ia_50 ( And.intro @ia_50k ( And.intro @ia_50r ( And.intro @ia_63 ( And.intro @ia_63k ( And.intro @ia_63r ( And.intro @ia_70 ( And.intro @ia_70k ( And.intro @ia_70r ( And.intro @ia_82 ( And.intro @ia_82k ( And.intro @ia_82r ( And.intro @ia_90p ( And.intro @ia_90c ( And.intro @ia_92p ( And.intro @ia_92c ( And.intro @ia_95 ( And.intro @ia_95k ( And.intro @ia_95r ( And.intro @ia_101 ( And.intro @ia_101k ( And.intro @ia_101r ( And.intro @ia_102 ( And.intro @ia_102k ( And.intro @ia_102r ( And.intro @ix_9 ( And.intro @lk_73 ( And.intro @mu_73 ( And.intro @dl_73 ( And.intro @lk_75 ( And.intro @mu_75 ( And.intro @ln_9 ( And.intro @ln_22 ( And.intro @ln_22k ( And.intro @ln_22r ( And.intro @ln_30 ( And.intro @ln_30k ( And.intro @ln_30r ( And.intro @ln_39 ( And.intro @ln_39k ( And.intro @ln_39r ( And.intro @ln_43 ( And.intro @ln_43k ( And.intro @ln_43r ( And.intro @ln_50 ( And.intro @ln_50k ( And.intro @ln_50r ( And.intro @ln_63 ( And.intro @ln_63k ( And.intro @ln_63r ( And.intro @ln_70 ( And.intro @ln_70k ( And.intro @ln_70r ( And.intro @ln_82 ( And.intro @ln_82k ( And.intro @ln_82r ( And.intro @ln_95 ( And.intro @ln_95k ( And.intro @ln_95r ( And.intro @ln_101 ( And.intro @ln_101k ( And.intro @ln_101r ( And.intro @ln_102 ( And.intro @ln_102k ( And.intro @ln_102r ( And.intro @bd_32 ( And.intro @bd_41 ( And.intro @bd_49 ( And.intro @bd_65 ( And.intro @bd_79 ( And.intro @bd_97 ( And.intro @bs_22 ( And.intro @bs_30 ( And.intro @bs_39 ( And.intro @bs_43 ( And.intro @bs_50 ( And.intro @bs_63 ( And.intro @bs_70 ( And.intro @bs_95 ( And.intro @al_32 ( And.intro @al_41 ( And.intro @al_43 ( And.intro @al_49 ( And.intro @al_65 ( And.intro @al_67 ( And.intro @al_79 ( And.intro @al_90 ( And.intro @al_97 ( And.intro @al_110 ( And.intro @st_4 ( And.intro @st_9 ( And.intro @st_32 ( And.intro @st_41 ( And.intro @st_43 ( And.intro @st_49 ( And.intro @st_65 ( And.intro @st_67 ( And.intro @st_79 ( And.intro @st_97 ( And.intro @st_110 ( And.intro @cv_3_113 ( And.intro @cv_5_3 ( And.intro @cv_9_82 ( And.intro @cv_21_98 ( And.intro @cv_21_105 ( And.intro @cv_98_21 ( And.intro @cv_105_98 ( And.intro @cv_113_3 ( And.intro @ap_22_22f ( And.intro @ap_22_22t ( And.intro @ap_22_22fk ( And.intro @ap_22_22tk ( And.intro @ap_39_39f ( And.intro @ap_39_39t ( And.intro @ap_39_39fk ( And.intro @ap_39_39tk ( And.intro @ap_43_43f ( And.intro @ap_43_43t ( And.intro @ap_43_43fk ( And.intro @ap_43_43tk ( And.intro @ap_63_63f ( And.intro @ap_63_63t ( And.intro @ap_63_63fk ( And.intro @ap_63_63tk ( And.intro @ap_95_95f ( And.intro @ap_95_95t ( And.intro @ap_95_95fk ( And.intro @ap_95_95tk ( And.intro @beql_4 (@bneq_4)))))))))))))))))))))))))))))))))))))))))))))))))))))))))))))))))))))))))))))))))))))))))))))))))))))))))))))))))))))))))))))))))))))))))))))))))))))))))))))))))))))))))))))))))))))))))))))))))))))))))))))))))))))))))))))) := And.intro @rd_3 ( And.intro @rd_4 ( And.intro @rd_5 ( And.intro @rd_9 ( And.intro @rd_22 ( And.intro @rd_30 ( And.intro @rd_32 ( And.intro @rd_39 ( And.intro @rd_41 ( And.intro @rd_43 ( And.intro @rd_49 ( And.intro @rd_54 ( And.intro @rd_65 ( And.intro @rd_67 ( And.intro @rd_73 ( And.intro @rd_97 ( And.intro @rd_98 ( And.intro @rd_100 ( And.intro @rd_101 ( And.intro @rd_102 ( And.intro @rd_105 ( And.intro @rd_110 ( And.intro @fa_32_0p ( And.intro @fa_32_0c ( And.intro @fa_32_1p ( And.intro @fa_32_1c ( And.intro @fa_32_2p ( And.intro @fa_32_2c ( And.intro @fa_32_3p ( And.intro @fa_32_3c ( And.intro @fa_41_0p ( And.intro @fa_41_0c ( And.intro @fa_41_1p ( And.intro @fa_41_1c ( And.intro @fa_41_2p ( And.intro @fa_41_2c ( And.intro @fa_41_3p ( And.intro @fa_41_3c ( And.intro @fa_49_0p ( And.intro @fa_49_0c ( And.intro @fa_49_1p ( And.intro @fa_49_1c ( And.intro @fa_49_2p ( And.intro @fa_49_2c ( And.intro @fa_54_0p ( And.intro @fa_54_0c ( And.intro @fa_54_1p ( And.intro @fa_54_1c ( And.intro @fa_54_2p ( And.intro @fa_54_2c ( And.intro @fa_65_0p ( And.intro @fa_65_0c ( And.intro @fa_65_1p ( And.intro @fa_65_1c ( And.intro @fa_79_0p ( And.intro @fa_79_0c ( And.intro @fa_79_1p ( And.intro @fa_79_1c ( And.intro @fa_97_0p ( And.intro @fa_97_0c ( And.intro @fa_97_1p ( And.intro @fa_97_1c ( And.intro @fa_104_0p ( And.intro @fa_104_0c ( And.intro @fa_104_1p ( And.intro @fa_104_1c ( And.intro @fa_104_2p ( And.intro @fa_104_2c ( And.intro @fa_107_0p ( And.intro @fa_107_0c ( And.intro @fa_107_1p ( And.intro @fa_107_1c ( And.intro @fa_107_2p ( And.intro @fa_107_2c ( And.intro @fa_110_0p ( And.intro @fa_110_0c ( And.intro @fa_110_1p ( And.intro @fa_110_1c ( And.intro @fa_110_2p ( And.intro @fa_110_2c ( And.intro @ia_22 ( And.intro @ia_22k ( And.intro @ia_22r ( And.intro @ia_30 ( And.intro @ia_30k ( And.intro @ia_30r ( And.intro @ia_39 ( And.intro @ia_39k ( And.intro @ia_39r ( And.intro @ia_43 ( And.intro @ia_43k ( And.intro @ia_43r ( And.intro @ia_50 ( And.intro @ia_50k ( And.intro @ia_50r ( And.intro @ia_63 ( And.intro @ia_63k ( And.intro @ia_63r ( And.intro @ia_70 ( And.intro @ia_70k ( And.intro @ia_70r ( And.intro @ia_82 ( And.intro @ia_82k ( And.intro @ia_82r ( And.intro @ia_90p ( And.intro @ia_90c ( And.intro @ia_92p ( And.intro @ia_92c ( And.intro @ia_95 ( And.intro @ia_95k ( And.intro @ia_95r ( And.intro @ia_101 ( And.intro @ia_101k ( And.intro @ia_101r ( And.intro @ia_102 ( And.intro @ia_102k ( And.intro @ia_102r ( And.intro @ix_9 ( And.intro @lk_73 ( And.intro @mu_73 ( And.intro @dl_73 ( And.intro @lk_75 ( And.intro @mu_75 ( And.intro @ln_9 ( And.intro @ln_22 ( And.intro @ln_22k ( And.intro @ln_22r ( And.intro @ln_30 ( And.intro @ln_30k ( And.intro @ln_30r ( And.intro @ln_39 ( And.intro @ln_39k ( And.intro @ln_39r ( And.intro @ln_43 ( And.intro @ln_43k ( And.intro @ln_43r ( And.intro @ln_50 ( And.intro @ln_50k ( And.intro @ln_50r ( And.intro @ln_63 ( And.intro @ln_63k ( And.intro @ln_63r ( And.intro @ln_70 ( And.intro @ln_70k ( And.intro @ln_70r ( And.intro @ln_82 ( And.intro @ln_82k ( And.intro @ln_82r ( And.intro @ln_95 ( And.intro @ln_95k ( And.intro @ln_95r ( And.intro @ln_101 ( And.intro @ln_101k ( And.intro @ln_101r ( And.intro @ln_102 ( And.intro @ln_102k ( And.intro @ln_102r ( And.intro @bd_32 ( And.intro @bd_41 ( And.intro @bd_49 ( And.intro @bd_65 ( And.intro @bd_79 ( And.intro @bd_97 ( And.intro @bs_22 ( And.intro @bs_30 ( And.intro @bs_39 ( And.intro @bs_43 ( And.intro @bs_50 ( And.intro @bs_63 ( And.intro @bs_70 ( And.intro @bs_95 ( And.intro @al_32 ( And.intro @al_41 ( And.intro @al_43 ( And.intro @al_49 ( And.intro @al_65 ( And.intro @al_67 ( And.intro @al_79 ( And.intro @al_90 ( And.intro @al_97 ( And.intro @al_110 ( And.intro @st_4 ( And.intro @st_9 ( And.intro @st_32 ( And.intro @st_41 ( And.intro @st_43 ( And.intro @st_49 ( And.intro @st_65 ( And.intro @st_67 ( And.intro @st_79 ( And.intro @st_97 ( And.intro @st_110 ( And.intro @cv_3_113 ( And.intro @cv_5_3 ( And.intro @cv_9_82 ( And.intro @cv_21_98 ( And.intro @cv_21_105 ( And.intro @cv_98_21 ( And.intro @cv_105_98 ( And.intro @cv_113_3 ( And.intro @ap_22_22f ( And.intro @ap_22_22t ( And.intro @ap_22_22fk ( And.intro @ap_22_22tk ( And.intro @ap_39_39f ( And.intro @ap_39_39t ( And.intro @ap_39_39fk ( And.intro @ap_39_39tk ( And.intro @ap_43_43f ( And.intro @ap_43_43t ( And.intro @ap_43_43fk ( And.intro @ap_43_43tk ( And.intro @ap_63_63f ( And.intro @ap_63_63t ( And.intro @ap_63_63fk ( And.intro @ap_63_63tk ( And.intro @ap_95_95f ( And.intro @ap_95_95t ( And.intro @ap_95_95fk ( And.intro @ap_95_95tk ( And.intro @beql_4 (@bneq_4)))))))))))))))))))))))))))))))))))))))))))))))))))))))))))))))))))))))))))))))))))))))))))))))))))))))))))))))))))))))))))))))))))))))))))))))))))))))))))))))))))))))))))))))))))))))))))))))))))))))))))))))))))))))))))))
theorem wmp : type_of% (And.intro @amapPut_eq ( And.intro @putAt_n ( And.intro @afind_nil ( And.intro @afind_cons ( And.intro @findAt_t ( And.intro @findAt_f ( And.intro @akeyEq_int (@akeyEq_str)))))))) := And.intro @amapPut_eq ( And.intro @putAt_n ( And.intro @afind_nil ( And.intro @afind_cons ( And.intro @findAt_t ( And.intro @findAt_f ( And.intro @akeyEq_int (@akeyEq_str)))))))
theorem wlk : type_of% (And.intro @lookM_m ( And.intro @lookAt_s (@lookAt_n))) := And.intro @lookM_m ( And.intro @lookAt_s (@lookAt_n))
theorem range_eq (n : Nat) : List.range n = List.range.loop n [] := rfl
theorem rloop_zero (l : List Nat) : List.range.loop 0 l = l := rfl
theorem rloop_succ (n : Nat) (l : List Nat) : List.range.loop (n + 1) l = List.range.loop n (n :: l) := rfl
theorem len_nil {α : Type} : ([] : List α).length = 0 := rfl
theorem len_cons {α : Type} (a : α) (l : List α) : (a :: l).length = l.length + 1 := rfl
theorem gt_zero {α : Type} (a : α) (l : List α) : (a :: l)[0]? = some a := rfl
theorem gt_succ {α : Type} (a : α) (l : List α) (i : Nat) : (a :: l)[i + 1]? = l[i]? := rfl
theorem drop_s {α : Type} (a : α) (l : List α) (i : Nat) : (a :: l).drop (i + 1) = l.drop i := rfl
theorem drop_z {α : Type} (l : List α) : l.drop 0 = l := rfl
theorem map_c {α β : Type} (f : α → β) (a : α) (l : List α) : (a :: l).map f = f a :: l.map f := rfl
theorem map_n {α β : Type} (f : α → β) : ([] : List α).map f = [] := rfl
theorem bind_s {α β : Type} (f : α → Option β) (a : α) : (some a).bind f = f a := rfl
theorem bind_n {α β : Type} (f : α → Option β) : (none : Option α).bind f = none := rfl
theorem omap_s {α β : Type} (f : α → β) (a : α) : (some a).map f = some (f a) := rfl
theorem omap_n {α β : Type} (f : α → β) : (none : Option α).map f = none := rfl
theorem true_and' (p : Prop) : (True ∧ p) = p := by simp
theorem and_true' (p : Prop) : (p ∧ True) = p := by simp
theorem next_ne (n k : Nat) : (n + (k + 1) = n) = False := by simp
theorem next_ne' (n k : Nat) : (n = n + (k + 1)) = False := by simp
theorem next_add (n a b : Nat) : (n + a = n + b) = (a = b) := by simp
theorem nadd (n a b : Nat) : n + a + b = n + (a + b) := Nat.add_assoc n a b
theorem app_n {α : Type} (l : List α) : [] ++ l = l := rfl
theorem app_c {α : Type} (a : α) (l m : List α) : (a :: l) ++ m = a :: (l ++ m) := rfl
theorem abox_agg (cs : List AV) (h : AHeap) : abox (.agg cs) h = some (.ptr h.next 0, h.alloc (.cells cs)) := rfl
theorem abox_bool (b : Bool) (h : AHeap) : abox (.bool b) h = some (.ptr h.next 0, h.alloc (.cells [.bool b])) := rfl
theorem abox_int (k : IntKind) (n : Int) (h : AHeap) : abox (.int k n) h = some (.ptr h.next 0, h.alloc (.cells [.int k n])) := rfl
theorem abox_str (b : ByteArray) (h : AHeap) : abox (.str b) h = some (.ptr h.next 0, h.alloc (.cells [.str b])) := rfl
theorem abox_slice (z : Nat) (e : List (List AV)) (t : Tok) (h : AHeap) : abox (.slice z e t) h = some (.ptr h.next 0, h.alloc (.cells [.slice z e t])) := rfl
theorem abox_func (f : Nat) (c : List AV) (h : AHeap) : abox (.func f c) h = some (.ptr h.next 0, h.alloc (.cells [.func f c])) := rfl
theorem abox_nilfunc (h : AHeap) : abox .nilfunc h = some (.ptr h.next 0, h.alloc (.cells [.nilfunc])) := rfl
theorem abox_map (m : Nat) (h : AHeap) : abox (.map m) h = some (.ptr h.next 0, h.alloc (.cells [.map m])) := rfl
theorem abox_ptr (m o : Nat) (h : AHeap) : abox (.ptr m o) h = some (.ptr h.next 0, h.alloc (.cells [.ptr m o])) := rfl
theorem acs_agg (cs : List AV) : acs (.agg cs) = some cs := rfl
theorem acs_bool (b : Bool) : acs (.bool b) = some [.bool b] := rfl
theorem acell_bool (b : Bool) : acell (.bool b) = true := rfl
theorem acs_int (k : IntKind) (n : Int) : acs (.int k n) = some [.int k n] := rfl
theorem acell_int (k : IntKind) (n : Int) : acell (.int k n) = true := rfl
theorem acs_str (s : ByteArray) : acs (.str s) = some [.str s] := rfl
theorem acell_str (s : ByteArray) : acell (.str s) = true := rfl
theorem acs_slice (z : Nat) (e : List (List AV)) (t : Tok) : acs (.slice z e t) = some [.slice z e t] := rfl
theorem acell_slice (z : Nat) (e : List (List AV)) (t : Tok) : acell (.slice z e t) = true := rfl
theorem acs_func (f : Nat) (c : List AV) : acs (.func f c) = some [.func f c] := rfl
theorem acell_func (f : Nat) (c : List AV) : acell (.func f c) = true := rfl
theorem acs_map (m : Nat) : acs (.map m) = some [.map m] := rfl
theorem acell_map (m : Nat) : acell (.map m) = true := rfl
theorem acs_ptr (m o : Nat) : acs (.ptr m o) = some [.ptr m o] := rfl
theorem acell_ptr (m o : Nat) : acell (.ptr m o) = true := rfl
theorem acs_cptr (c : List AV) : acs (.cptr c) = some [.cptr c] := rfl
theorem acell_cptr (c : List AV) : acell (.cptr c) = true := rfl
theorem acs_nilptr  : acs (.nilptr) = some [.nilptr] := rfl
theorem acell_nilptr  : acell (.nilptr) = true := rfl
theorem acs_nilmap  : acs (.nilmap) = some [.nilmap] := rfl
theorem acell_nilmap  : acell (.nilmap) = true := rfl
theorem acs_nilfunc  : acs (.nilfunc) = some [.nilfunc] := rfl
theorem acell_nilfunc  : acell (.nilfunc) = true := rfl
theorem acs_niliface  : acs (.niliface) = some [.niliface] := rfl
theorem acell_niliface  : acell (.niliface) = true := rfl
theorem all_nil {α : Type} (f : α → Bool) : [].all f = true := rfl
theorem all_cons {α : Type} (f : α → Bool) (a : α) (l : List α) : (a :: l).all f = (f a && l.all f) := rfl
theorem and_tt (b : Bool) : (true && b) = b := rfl
theorem justH_s (h : AHeap) : justH (some h) = some (.top, h) := rfl
theorem justT_s (h : AHeap) : justT (some h) = some (.tup [], h) := rfl
theorem storeM_s (cs vs : List AV) (id off n : Nat) (h : AHeap) : storeM (some (.cells cs)) id off (some vs) n h = if vs.length = n ∧ off + vs.length ≤ cs.length ∧ vs.all acell = true then some (h.set id (.cells (asplice cs off vs))) else none := rfl
theorem asplice_eq (cs vs : List AV) (off : Nat) : asplice cs off vs = cs.take off ++ vs ++ cs.drop (off + vs.length) := rfl
theorem take_z {α : Type} (l : List α) : l.take 0 = [] := rfl
theorem take_s {α : Type} (a : α) (l : List α) (i : Nat) : (a :: l).take (i + 1) = a :: l.take i := rfl
theorem set_alloc (h : AHeap) (o o2 : AObj) (i : Nat) (hi : i = h.next) : (h.alloc o).set i o2 = h.alloc o2 := by subst hi; simp [AHeap.set, AHeap.alloc, AHeap.next]
theorem amakeMap_none (S : Seat) (t : Nat) (h : AHeap) : amakeMap S t none h = some (.map h.next, h.alloc (.map 0 [])) := rfl
theorem putM_s (clk : Nat) (es : List AEnt) (id : Nat) (k x : AV) (h : AHeap) : putM (some (.map clk es)) id k x h = (amapPut clk es k x).map (h.set id) := rfl
theorem okOf_s (ok : Bool) (z v : AV) : okOf ok z (some v) = okTup ok v true := rfl
theorem okOf_n (ok : Bool) (z : AV) : okOf ok z none = okTup ok z false := rfl
theorem okTup_t (v : AV) (b : Bool) : okTup true v b = .tup [v, .bool b] := rfl
theorem okTup_f (v : AV) (b : Bool) : okTup false v b = v := rfl
theorem not_t : (!true) = false := rfl
theorem not_f : (!false) = true := rfl
theorem set_allocd (h : AHeap) (o o2 : AObj) : (h.alloc o).set h.next o2 = h.alloc o2 := set_alloc h o o2 _ rfl
theorem next_lt (n a b : Nat) : (n + a < n + b) = (a < b) := by simp
theorem next_lt0 (n b : Nat) : (n < n + (b + 1)) = True := by simp
theorem next_lt1 (n b : Nat) : (n + b < n) = False := by simp
theorem lt_self (n : Nat) : (n < n) = False := by simp
theorem set_lt (h : AHeap) (o o2 : AObj) (i : Nat) (hi : i < h.next) : (h.alloc o).set i o2 = (h.set i o2).alloc o := by simp only [AHeap.set, AHeap.alloc, AHeap.next] at *; rw [List.set_append_left _ _ hi]
theorem wls : type_of% (And.intro @range_eq ( And.intro @rloop_zero ( And.intro @rloop_succ ( And.intro @len_nil ( And.intro @len_cons ( And.intro @gt_zero ( And.intro @gt_succ ( And.intro @drop_s ( And.intro @drop_z ( And.intro @map_c ( And.intro @map_n ( And.intro @bind_s ( And.intro @bind_n ( And.intro @omap_s ( And.intro @omap_n ( And.intro @true_and' ( And.intro @and_true' ( And.intro @next_ne ( And.intro @next_ne' ( And.intro @next_add ( And.intro @nadd ( And.intro @app_n ( And.intro @app_c ( And.intro @abox_agg ( And.intro @abox_bool ( And.intro @abox_int ( And.intro @abox_str ( And.intro @abox_slice ( And.intro @abox_func ( And.intro @abox_nilfunc ( And.intro @abox_map ( And.intro @abox_ptr ( And.intro @acs_agg ( And.intro @acs_bool ( And.intro @acell_bool ( And.intro @acs_int ( And.intro @acell_int ( And.intro @acs_str ( And.intro @acell_str ( And.intro @acs_slice ( And.intro @acell_slice ( And.intro @acs_func ( And.intro @acell_func ( And.intro @acs_map ( And.intro @acell_map ( And.intro @acs_ptr ( And.intro @acell_ptr ( And.intro @acs_cptr ( And.intro @acell_cptr ( And.intro @acs_nilptr ( And.intro @acell_nilptr ( And.intro @acs_nilmap ( And.intro @acell_nilmap ( And.intro @acs_nilfunc ( And.intro @acell_nilfunc ( And.intro @acs_niliface ( And.intro @acell_niliface ( And.intro @all_nil ( And.intro @all_cons ( And.intro @and_tt ( And.intro @justH_s ( And.intro @justT_s ( And.intro @storeM_s ( And.intro @asplice_eq ( And.intro @take_z ( And.intro @take_s ( And.intro @set_alloc ( And.intro @amakeMap_none ( And.intro @putM_s ( And.intro @okOf_s ( And.intro @okOf_n ( And.intro @okTup_t ( And.intro @okTup_f ( And.intro @not_t ( And.intro @not_f ( And.intro @set_allocd ( And.intro @next_lt ( And.intro @next_lt0 ( And.intro @next_lt1 ( And.intro @lt_self (@set_lt))))))))))))))))))))))))))))))))))))))))))))))))))))))))))))))))))))))))))))))))) := And.intro @range_eq ( And.intro @rloop_zero ( And.intro @rloop_succ ( And.intro @len_nil ( And.intro @len_cons ( And.intro @gt_zero ( And.intro @gt_succ ( And.intro @drop_s ( And.intro @drop_z ( And.intro @map_c ( And.intro @map_n ( And.intro @bind_s ( And.intro @bind_n ( And.intro @omap_s ( And.intro @omap_n ( And.intro @true_and' ( And.intro @and_true' ( And.intro @next_ne ( And.intro @next_ne' ( And.intro @next_add ( And.intro @nadd ( And.intro @app_n ( And.intro @app_c ( And.intro @abox_agg ( And.intro @abox_bool ( And.intro @abox_int ( And.intro @abox_str ( And.intro @abox_slice ( And.intro @abox_func ( And.intro @abox_nilfunc ( And.intro @abox_map ( And.intro @abox_ptr ( And.intro @acs_agg ( And.intro @acs_bool ( And.intro @acell_bool ( And.intro @acs_int ( And.intro @acell_int ( And.intro @acs_str ( And.intro @acell_str ( And.intro @acs_slice ( And.intro @acell_slice ( And.intro @acs_func ( And.intro @acell_func ( And.intro @acs_map ( And.intro @acell_map ( And.intro @acs_ptr ( And.intro @acell_ptr ( And.intro @acs_cptr ( And.intro @acell_cptr ( And.intro @acs_nilptr ( And.intro @acell_nilptr ( And.intro @acs_nilmap ( And.intro @acell_nilmap ( And.intro @acs_nilfunc ( And.intro @acell_nilfunc ( And.intro @acs_niliface ( And.intro @acell_niliface ( And.intro @all_nil ( And.intro @all_cons ( And.intro @and_tt ( And.intro @justH_s ( And.intro @justT_s ( And.intro @storeM_s ( And.intro @asplice_eq ( And.intro @take_z ( And.intro @take_s ( And.intro @set_alloc ( And.intro @amakeMap_none ( And.intro @putM_s ( And.intro @okOf_s ( And.intro @okOf_n ( And.intro @okTup_t ( And.intro @okTup_f ( And.intro @not_t ( And.intro @not_f ( And.intro @set_allocd ( And.intro @next_lt ( And.intro @next_lt0 ( And.intro @next_lt1 ( And.intro @lt_self (@set_lt))))))))))))))))))))))))))))))))))))))))))))))))))))))))))))))))))))))))))))))))

theorem lapp_c {α : Type} (a : α) (l m : List α) : List.append (a :: l) m = a :: List.append l m := rfl
theorem lapp_n {α : Type} (m : List α) : List.append [] m = m := rfl
theorem wx : type_of% (And.intro @wev ( And.intro @wab ( And.intro @wty ( And.intro @wls ( And.intro @true_implies ( And.intro @false_implies ( And.intro @not_true_eq_false ( And.intro @not_false_eq_true ( And.intro @true_and ( And.intro @and_true ( And.intro @decide_true ( And.intro @decide_false ( And.intro @Nat.add_zero ( And.intro @Nat.zero_add ( And.intro @decide_eq_true_eq ( And.intro @decide_eq_false_iff_not ( And.intro @Bool.true_eq_false ( And.intro @Bool.false_eq_true ( And.intro @Bool.not_eq_true ( And.intro @Bool.not_eq_false ( And.intro @Bool.not_true ( And.intro @Bool.not_false ( And.intro @Bool.true_beq ( And.intro @Bool.false_beq ( And.intro @lapp_c (@lapp_n)))))))))))))))))))))))))) := And.intro @wev ( And.intro @wab ( And.intro @wty ( And.intro @wls ( And.intro @true_implies ( And.intro @false_implies ( And.intro @not_true_eq_false ( And.intro @not_false_eq_true ( And.intro @true_and ( And.intro @and_true ( And.intro @decide_true ( And.intro @decide_false ( And.intro @Nat.add_zero ( And.intro @Nat.zero_add ( And.intro @decide_eq_true_eq ( And.intro @decide_eq_false_iff_not ( And.intro @Bool.true_eq_false ( And.intro @Bool.false_eq_true ( And.intro @Bool.not_eq_true ( And.intro @Bool.not_eq_false ( And.intro @Bool.not_true ( And.intro @Bool.not_false ( And.intro @Bool.true_beq ( And.intro @Bool.false_beq ( And.intro @lapp_c (@lapp_n)))))))))))))))))))))))))
theorem wy : type_of% (And.intro @wvs ( And.intro @wab ( And.intro @wty ( And.intro @wls ( And.intro @true_implies ( And.intro @false_implies ( And.intro @not_true_eq_false ( And.intro @not_false_eq_true ( And.intro @true_and ( And.intro @and_true ( And.intro @decide_true ( And.intro @decide_false ( And.intro @Nat.add_zero ( And.intro @Nat.zero_add ( And.intro @decide_eq_true_eq ( And.intro @decide_eq_false_iff_not ( And.intro @Bool.true_eq_false ( And.intro @Bool.false_eq_true ( And.intro @Bool.not_eq_true ( And.intro @Bool.not_eq_false ( And.intro @Bool.not_true ( And.intro @Bool.not_false ( And.intro @Bool.true_beq ( And.intro @Bool.false_beq ( And.intro @lapp_c ( And.intro @lapp_n ( And.intro @true_or ( And.intro @or_true ( And.intro @false_or (@or_false)))))))))))))))))))))))))))))) := And.intro @wvs ( And.intro @wab ( And.intro @wty ( And.intro @wls ( And.intro @true_implies ( And.intro @false_implies ( And.intro @not_true_eq_false ( And.intro @not_false_eq_true ( And.intro @true_and ( And.intro @and_true ( And.intro @decide_true ( And.intro @decide_false ( And.intro @Nat.add_zero ( And.intro @Nat.zero_add ( And.intro @decide_eq_true_eq ( And.intro @decide_eq_false_iff_not ( And.intro @Bool.true_eq_false ( And.intro @Bool.false_eq_true ( And.intro @Bool.not_eq_true ( And.intro @Bool.not_eq_false ( And.intro @Bool.not_true ( And.intro @Bool.not_false ( And.intro @Bool.true_beq ( And.intro @Bool.false_beq ( And.intro @lapp_c ( And.intro @lapp_n ( And.intro @true_or ( And.intro @or_true ( And.intro @false_or (@or_false)))))))))))))))))))))))))))))
end Go.Proofs.YtajknofacjiddaaDoor.Abs

/- The trees, parameters, functions and values of the layer, and how the abstract machine holds them. -/
namespace Go.Proofs.YtajknofacjiddaaDoor.Abs
open Go Go.RowKit
set_option linter.unusedSimpArgs false
set_option linter.unusedVariables false

inductive Node where
  | mk (kind num : Int) (name : ByteArray) (kids : List Node)
def Node.kind : Node → Int | .mk k _ _ _ => k
def Node.num : Node → Int | .mk _ n _ _ => n
def Node.name : Node → ByteArray | .mk _ _ s _ => s
def Node.kids : Node → List Node | .mk _ _ _ ks => ks
mutual
def Node.enc : Node → List AV
  | .mk k n s ks => [.int .u8 k, .int .i64 n, .str s, kslice 4 (encs ks)]
def encs : List Node → List (List AV)
  | [] => []
  | x :: xs => x.enc :: encs xs
end
mutual
def Node.size : Node → Nat
  | .mk _ _ _ ks => sizes ks + 1
def sizes : List Node → Nat
  | [] => 0
  | x :: xs => x.size + sizes xs
end
mutual
def Node.depth : Node → Nat
  | .mk _ _ _ ks => depths ks + 1
def depths : List Node → Nat
  | [] => 0
  | x :: xs => max x.depth (depths xs)
end
theorem encs_eq (ks : List Node) : encs ks = ks.map Node.enc := by
  induction ks with
  | nil => rfl
  | cons x xs ih => simp [encs, ih]
theorem enc_eq (x : Node) : x.enc = [.int .u8 x.kind, .int .i64 x.num, .str x.name, kslice 4 (x.kids.map Node.enc)] := by
  cases x; simp [Node.enc, Node.kind, Node.num, Node.name, Node.kids, encs_eq]
mutual
theorem fgt_enc : ∀ x : Node, fgtL x.enc = x.enc
  | .mk k n s ks => by unfold Node.enc; simp only [fgtL_cons, fgtL_nil, fgt_int, fgt_str, fgt_k, fgt_encs ks]
theorem fgt_encs : ∀ ks : List Node, fgtLL (encs ks) = encs ks
  | [] => rfl
  | x :: xs => by unfold encs; rw [fgtLL_cons, fgt_enc x, fgt_encs xs]
end
theorem fgt_mapenc (ks : List Node) : fgtLL (ks.map Node.enc) = ks.map Node.enc := by rw [← encs_eq, fgt_encs]
theorem sizes_eq (ks : List Node) : sizes ks = (ks.map Node.size).sum := by
  induction ks with
  | nil => rfl
  | cons x xs ih => simp [sizes, ih]
theorem size_eq (x : Node) : x.size = (x.kids.map Node.size).sum + 1 := by
  cases x with
  | mk a b c ks => rw [← sizes_eq]; rfl
theorem size_kids (x : Node) : x.size = sizes x.kids + 1 := by cases x; rfl
theorem sizes_snoc (ks : List Node) (x : Node) : sizes (ks ++ [x]) = sizes ks + x.size := by
  induction ks with
  | nil => simp [sizes]
  | cons y ys ih => simp only [List.cons_append, sizes, ih]; omega
theorem sizes_app (ks ls : List Node) : sizes (ks ++ ls) = sizes ks + sizes ls := by
  induction ks with
  | nil => simp [sizes]
  | cons y ys ih => simp only [List.cons_append, sizes, ih]; omega
theorem sizes_take (ks : List Node) (k : Nat) : sizes (ks.take k) ≤ sizes ks := by
  have := sizes_app (ks.take k) (ks.drop k)
  rw [List.take_append_drop] at this
  omega
theorem depths_snoc (ks : List Node) (x : Node) : depths (ks ++ [x]) = max (depths ks) x.depth := by
  induction ks with
  | nil => simp [depths]
  | cons y ys ih => simp only [List.cons_append, depths, ih]; omega
theorem depth_eq (x : Node) : x.depth = depths x.kids + 1 := by cases x; rfl
theorem sum_mem {l : List Nat} {a : Nat} (h : a ∈ l) : a ≤ l.sum := by
  induction l with
  | nil => cases h
  | cons b l ih =>
    rw [List.sum_cons]
    cases h with
    | head => omega
    | tail _ h => have := ih h; omega
theorem kid_size {x y : Node} (h : y ∈ x.kids) : y.size < x.size := by
  rw [size_eq x]
  have : y.size ∈ x.kids.map Node.size := List.mem_map_of_mem h
  have := sum_mem this
  omega
theorem kids_size (x : Node) : x.kids.length < x.size := by
  rw [size_eq x]
  have h : ∀ ks : List Node, ks.length ≤ (ks.map Node.size).sum := by
    intro ks
    induction ks with
    | nil => exact Nat.le_refl _
    | cons y ys ih =>
      simp only [List.map_cons, List.sum_cons, List.length_cons]
      have := size_eq y
      omega
  have := h x.kids
  omega
mutual
theorem depth_le : ∀ x : Node, x.depth ≤ x.size
  | .mk a b c ks => by
    simp only [Node.depth, Node.size]
    have := depths_le ks
    omega
theorem depths_le : ∀ ks : List Node, depths ks ≤ sizes ks
  | [] => Nat.le_refl _
  | x :: xs => by
    simp only [depths, sizes]
    have := depth_le x
    have := depths_le xs
    omega
end
theorem take_snoc {α : Type} (l : List α) (k : Nat) (y : α) (h : l[k]? = some y) : l.take (k + 1) = l.take k ++ [y] := by
  rw [List.take_add_one, h]; rfl
theorem getD_map {α : Type} {l : List α} {k : Nat} {y : α} (f : α → List AV) (hy : l[k]? = some y) : (l.map f).getD ((k : Int).toNat) [] = f y := by
  simp [List.getD, List.getElem?_map, hy]
theorem getD_map' {α : Type} {l : List α} {k : Nat} {y : α} (f : α → List AV) (hy : l[k]? = some y) : (l.map f).getD k [] = f y := by
  simp [List.getD, List.getElem?_map, hy]
theorem imax (a b : Nat) : (if (b : Int) > (a : Int) then (b : Int) else (a : Int)) = ((max a b : Nat) : Int) := by
  split <;> omega
theorem wrap_add (a b : Nat) (h : a + b < 9223372036854775808) : IntKind.i64.wrap ((a : Int) + (b : Int)) = ((a + b : Nat) : Int) := by
  rw [i64_id (by omega) (by omega)]; rfl
theorem wrap_succ (a : Nat) (h : a + 1 < 9223372036854775808) : IntKind.i64.wrap ((a : Int) + 1) = ((a + 1 : Nat) : Int) := wrap_add a 1 h

structure Param where
  name : ByteArray
  list : Bool
def Param.enc (p : Param) : List AV := [.str p.name, .bool p.list]
theorem penc_eq (p : Param) : p.enc = [.str p.name, .bool p.list] := rfl
structure Fn where
  name : ByteArray
  params : List Param
  list : Bool
  body : Node
def Fn.enc (f : Fn) : List AV := [.str f.name, kslice 2 (f.params.map Param.enc), .bool f.list] ++ f.body.enc
theorem fenc_eq (f : Fn) : f.enc = [.str f.name, kslice 2 (f.params.map Param.enc), .bool f.list, .int .u8 f.body.kind, .int .i64 f.body.num, .str f.body.name, kslice 4 (f.body.kids.map Node.enc)] := by
  unfold Fn.enc; rw [enc_eq]; rfl
theorem fgtLL_map {α : Type} (f : α → List AV) (hf : ∀ a, fgtL (f a) = f a) (l : List α) : fgtLL (l.map f) = l.map f := by
  rw [fgtLL_eq, List.map_map]
  exact List.map_congr_left fun a _ => hf a
theorem fgt_penc (p : Param) : fgtL p.enc = p.enc := rfl
theorem fgt_mappenc (ps : List Param) : fgtLL (ps.map Param.enc) = ps.map Param.enc := fgtLL_map _ fgt_penc ps
theorem fgt_fenc (f : Fn) : fgtL f.enc = f.enc := by
  rw [fenc_eq]; simp only [fgtL_cons, fgtL_nil, fgt_str, fgt_bool, fgt_int, fgt_k, fgt_mapenc, fgt_mappenc]
theorem fgt_mapfenc (fs : List Fn) : fgtLL (fs.map Fn.enc) = fs.map Fn.enc := fgtLL_map _ fgt_fenc fs
def Fn.size (f : Fn) : Nat := f.body.size + f.params.length + 1
def libSize (l : List Fn) : Nat := (l.map Fn.size).sum
theorem lib_len (l : List Fn) : l.length ≤ libSize l := by
  unfold libSize
  induction l with
  | nil => exact Nat.le_refl _
  | cons f l ih => simp only [List.map_cons, List.sum_cons, List.length_cons, Fn.size]; omega
theorem lib_mem {l : List Fn} {f : Fn} (h : f ∈ l) : f.size ≤ libSize l := sum_mem (List.mem_map_of_mem h)
def vlib (l : List Fn) : AV := kslice 7 (l.map Fn.enc)
def vparams (l : List Param) : AV := kslice 2 (l.map Param.enc)
/-- A slice of bools, of whole numbers. -/
def vbools (l : List Bool) : AV := kslice 1 (l.map fun b => [.bool b])
def vints (l : List Int) : AV := kslice 1 (l.map fun b => [.int .i64 b])
def vstrs (l : List ByteArray) : AV := kslice 1 (l.map fun b => [.str b])
theorem fgt_bools (l : List Bool) : fgtLL (l.map fun b => [AV.bool b]) = l.map fun b => [AV.bool b] := fgtLL_map _ (fun _ => rfl) l
theorem fgt_ints (l : List Int) : fgtLL (l.map fun b => [AV.int .i64 b]) = l.map fun b => [AV.int .i64 b] := fgtLL_map _ (fun _ => rfl) l
theorem fgt_strs (l : List ByteArray) : fgtLL (l.map fun b => [AV.str b]) = l.map fun b => [AV.str b] := fgtLL_map _ (fun _ => rfl) l

/-- What is known of a turn of a loop over a list. -/
theorem turn {α : Type} (l : List α) (k : Nat) (hk : k ≤ l.length) : (∃ y, l[k]? = some y ∧ y ∈ l ∧ k < l.length ∧ ((k : Int) < (l.length : Int)) = True ∧ (0 ≤ (k : Int)) = True) ∨ (k = l.length ∧ ((k : Int) < (l.length : Int)) = False) := by
  rcases Nat.lt_or_ge k l.length with h | h
  · exact .inl ⟨l[k], List.getElem?_eq_getElem h, List.getElem_mem h, h, by simp; omega, by simp⟩
  · exact .inr ⟨by omega, by simp; omega⟩
end Go.Proofs.YtajknofacjiddaaDoor.Abs

/- Find -/
namespace Go.Proofs.YtajknofacjiddaaDoor.Abs
open Go Go.RowKit
set_option linter.unusedSimpArgs false
set_option linter.unusedVariables false
set_option maxHeartbeats 4000000
set_option maxRecDepth 100000
/-- The place of the first that has p, counted from k, or -1. -/
def pos {α : Type} (p : α → Bool) : Nat → List α → Int
  | _, [] => -1
  | k, a :: l => if p a then k else pos p (k + 1) l
theorem drop_turn {α : Type} {l : List α} {k : Nat} {y : α} (h : l[k]? = some y) : l.drop k = y :: l.drop (k + 1) := by
  obtain ⟨hk, rfl⟩ := List.getElem?_eq_some_iff.1 h
  exact List.drop_eq_getElem_cons hk
def find (l : List Fn) (s : ByteArray) : Int := pos (fun f => decide (f.name = s)) 0 l

theorem ac39 (f : Fn) (s : ByteArray) (id : Nat) (h : AHeap) (hid : h.get id = some (.cells [.str s])) : AC sd 39 [.agg f.enc, .ptr id 0] h (Pure1 (.bool (decide (f.name = s))) h) := by
  refine AC.pure Tryd.func39 rfl Tryd.ntmps39 (by show 2 ≤ 8; decide) ?_
  refine Ev.sound 100 _ _ _ _ ?_
  simp only [argFr, fenc_eq]
  have hne : (id = h.next) = False := by have := get_lt h id hid; simp; omega
  simp only [wx, Nat.reduceAdd, Nat.reduceEqDiff, Nat.reduceLT, Nat.reduceMul, Nat.reduceLeDiff, Int.reduceEq, ↓reduceIte, reduceCtorEq, ne_eq, implies_true, if_true, if_false, ite_not, Tryd.ntmps39, hne, hid]
  exact Leave.pure rfl (by simp only [wx, Nat.reduceAdd, Nat.reduceEqDiff, Nat.reduceLT, Nat.reduceMul, Nat.reduceLeDiff, Int.reduceEq, ↓reduceIte, reduceCtorEq, ne_eq, implies_true, if_true, if_false, ite_not]) ((Ext.refl _).alloc _) rfl
theorem ac38 (l : List Fn) (s : ByteArray) (id : Nat) (h : AHeap) (hid : h.get id = some (.cells [.str s])) (hl : l.length ≤ 1048576) : AC sd 38 [vlib l, .func 39 [.ptr id 0]] h (Pure1 (.int .i64 (find l s)) h) := by
  refine AC.pure Tryd.func38 rfl Tryd.ntmps38 (by show 2 ≤ 19; decide) ?_
  refine Ev.sound 100 _ _ _ _ ?_
  simp only [argFr, vlib]
  simp only [wx, Nat.reduceAdd, Nat.reduceEqDiff, Nat.reduceLT, Nat.reduceMul, Nat.reduceLeDiff, Int.reduceEq, ↓reduceIte, reduceCtorEq, ne_eq, implies_true, if_true, if_false, ite_not, Tryd.ntmps38]
  refine Stop.round (σ := Nat) (fun k => l.length - k) (fun k => [(0, kslice 7 (l.map Fn.enc)), (1, .func 39 [.ptr id 0]), (7, .int .i64 l.length), (8, .int .i64 k)]) (fun k h1 => k ≤ l.length ∧ h1 = h ∧ find l s = pos (fun f => decide (f.name = s)) k (l.drop k)) 0 ⟨Nat.zero_le _, rfl, rfl⟩ ?_ ?_
  · simp only [wx, Nat.reduceAdd, Nat.reduceEqDiff, Nat.reduceLT, Nat.reduceMul, Nat.reduceLeDiff, Int.reduceEq, ↓reduceIte, reduceCtorEq, ne_eq, implies_true, if_true, if_false, ite_not, List.length_map, Int.ofNat_zero, Int.natCast_zero]
  rintro k _ ⟨hk, rfl, hp⟩ next
  refine Ev.sound 100 _ _ _ _ ?_
  rcases turn l k hk with ⟨y, hy, hmem, hlt, c1, c2⟩ | ⟨rfl, c1⟩
  · have w1 := wrap_succ k (by omega)
    rw [drop_turn hy, pos] at hp
    simp only [wx, Nat.reduceAdd, Nat.reduceEqDiff, Nat.reduceLT, Nat.reduceMul, Nat.reduceLeDiff, Int.reduceEq, ↓reduceIte, reduceCtorEq, ne_eq, implies_true, if_true, if_false, ite_not, Tryd.ntmps38, c1, c2, List.length_map, getD_map Fn.enc hy, fenc_eq y]
    refine Stop.fact (ac39 y s id _ hid) rfl rfl (by simp only [wx, Nat.reduceAdd, Nat.reduceEqDiff, Nat.reduceLT, Nat.reduceMul, Nat.reduceLeDiff, Int.reduceEq, ↓reduceIte, reduceCtorEq, ne_eq, implies_true, if_true, if_false, ite_not, Tryd.ntmps38]) (caps := [.ptr id 0]) (by simp only [wx, Nat.reduceAdd, Nat.reduceEqDiff, Nat.reduceLT, Nat.reduceMul, Nat.reduceLeDiff, Int.reduceEq, ↓reduceIte, reduceCtorEq, ne_eq, implies_true, if_true, if_false, ite_not]) en_39 (by simp only [wx, Nat.reduceAdd, Nat.reduceEqDiff, Nat.reduceLT, Nat.reduceMul, Nat.reduceLeDiff, Int.reduceEq, ↓reduceIte, reduceCtorEq, ne_eq, implies_true, if_true, if_false, ite_not, fenc_eq y, fgt_mapenc, fgt_mappenc]) ?_
    refine Ev.sound 100 _ _ _ _ ?_
    simp only [wx, Nat.reduceAdd, Nat.reduceEqDiff, Nat.reduceLT, Nat.reduceMul, Nat.reduceLeDiff, Int.reduceEq, ↓reduceIte, reduceCtorEq, ne_eq, implies_true, if_true, if_false, ite_not, Tryd.ntmps38, Bool.true_eq_false, w1]
    refine ite_intro (fun hq => ?_) (fun hq => ?_)
    · rw [if_pos (by simpa using hq)] at hp
      exact Leave.pure rfl (by simp only [wx, Nat.reduceAdd, Nat.reduceEqDiff, Nat.reduceLT, Nat.reduceMul, Nat.reduceLeDiff, Int.reduceEq, ↓reduceIte, reduceCtorEq, ne_eq, implies_true, if_true, if_false, ite_not, hp]) (Ext.refl _) rfl
    · rw [if_neg (by simpa using hq)] at hp
      exact next (k + 1) _ _ (by omega) ⟨hlt, rfl, hp⟩ (by simp only [wx, Nat.reduceAdd, Nat.reduceEqDiff, Nat.reduceLT, Nat.reduceMul, Nat.reduceLeDiff, Int.reduceEq, ↓reduceIte, reduceCtorEq, ne_eq, implies_true, if_true, if_false, ite_not])
  · rw [List.drop_length, pos] at hp
    simp only [wx, Nat.reduceAdd, Nat.reduceEqDiff, Nat.reduceLT, Nat.reduceMul, Nat.reduceLeDiff, Int.reduceEq, ↓reduceIte, reduceCtorEq, ne_eq, implies_true, if_true, if_false, ite_not, Tryd.ntmps38, c1, Bool.false_eq_true]
    exact Leave.pure rfl (by simp only [wx, Nat.reduceAdd, Nat.reduceEqDiff, Nat.reduceLT, Nat.reduceMul, Nat.reduceLeDiff, Int.reduceEq, ↓reduceIte, reduceCtorEq, ne_eq, implies_true, if_true, if_false, ite_not, hp]) (Ext.refl _) rfl
theorem ac20 (l : List Fn) (s : ByteArray) (hl : l.length ≤ 1048576) (h : AHeap) : AC sd 20 [vlib l, .str s] h (Pure1 (.int .i64 (find l s)) h) := by
  refine AC.pure Tryd.func20 rfl Tryd.ntmps20 (by show 2 ≤ 8; decide) ?_
  refine Ev.sound 100 _ _ _ _ ?_
  simp only [argFr, vlib]
  simp only [wx, Nat.reduceAdd, Nat.reduceEqDiff, Nat.reduceLT, Nat.reduceMul, Nat.reduceLeDiff, Int.reduceEq, ↓reduceIte, reduceCtorEq, ne_eq, implies_true, if_true, if_false, ite_not, Tryd.ntmps20]
  refine Stop.fact (ac38 l s h.next _ (by simp only [wx, Nat.reduceAdd, Nat.reduceEqDiff, Nat.reduceLT, Nat.reduceMul, Nat.reduceLeDiff, Int.reduceEq, ↓reduceIte, reduceCtorEq, ne_eq, implies_true, if_true, if_false, ite_not]) hl) rfl rfl (by simp only [wx, Nat.reduceAdd, Nat.reduceEqDiff, Nat.reduceLT, Nat.reduceMul, Nat.reduceLeDiff, Int.reduceEq, ↓reduceIte, reduceCtorEq, ne_eq, implies_true, if_true, if_false, ite_not, Tryd.ntmps20]) (caps := []) (by simp only [wx, Nat.reduceAdd, Nat.reduceEqDiff, Nat.reduceLT, Nat.reduceMul, Nat.reduceLeDiff, Int.reduceEq, ↓reduceIte, reduceCtorEq, ne_eq, implies_true, if_true, if_false, ite_not]) en_38 (by simp only [wx, Nat.reduceAdd, Nat.reduceEqDiff, Nat.reduceLT, Nat.reduceMul, Nat.reduceLeDiff, Int.reduceEq, ↓reduceIte, reduceCtorEq, ne_eq, implies_true, if_true, if_false, ite_not, vlib, fgt_mapfenc]) ?_
  refine Ev.sound 100 _ _ _ _ ?_
  simp only [wx, Nat.reduceAdd, Nat.reduceEqDiff, Nat.reduceLT, Nat.reduceMul, Nat.reduceLeDiff, Int.reduceEq, ↓reduceIte, reduceCtorEq, ne_eq, implies_true, if_true, if_false, ite_not, Tryd.ntmps20]
  exact Leave.pure rfl (by simp only [wx, Nat.reduceAdd, Nat.reduceEqDiff, Nat.reduceLT, Nat.reduceMul, Nat.reduceLeDiff, Int.reduceEq, ↓reduceIte, reduceCtorEq, ne_eq, implies_true, if_true, if_false, ite_not]) ((Ext.refl _).alloc _) rfl
theorem ac21 (l : List Fn) (s : ByteArray) (hl : l.length ≤ 1048576) (h : AHeap) : AC sd 21 [vlib l, .str s] h (Pure1 (.int .i64 (find l s)) h) := by
  refine AC.pure Tryd.func21 rfl Tryd.ntmps21 (by show 2 ≤ 20; decide) ?_
  refine Ev.sound 100 _ _ _ _ ?_
  simp only [argFr, vlib]
  simp only [wx, Nat.reduceAdd, Nat.reduceEqDiff, Nat.reduceLT, Nat.reduceMul, Nat.reduceLeDiff, Int.reduceEq, ↓reduceIte, reduceCtorEq, ne_eq, implies_true, if_true, if_false, ite_not, Tryd.ntmps21]
  refine Stop.round (σ := Nat) (fun k => l.length - k) (fun k => [(0, kslice 7 (l.map Fn.enc)), (1, .str s), (5, .int .i64 k)]) (fun k h1 => k ≤ l.length ∧ h1 = h ∧ find l s = pos (fun f => decide (f.name = s)) k (l.drop k)) 0 ⟨Nat.zero_le _, rfl, rfl⟩ ?_ ?_
  · simp only [wx, Nat.reduceAdd, Nat.reduceEqDiff, Nat.reduceLT, Nat.reduceMul, Nat.reduceLeDiff, Int.reduceEq, ↓reduceIte, reduceCtorEq, ne_eq, implies_true, if_true, if_false, ite_not, List.length_map, Int.ofNat_zero, Int.natCast_zero]
  rintro k _ ⟨hk, rfl, hp⟩ next
  refine Ev.sound 100 _ _ _ _ ?_
  rcases turn l k hk with ⟨y, hy, hmem, hlt, c1, c2⟩ | ⟨rfl, c1⟩
  · have w1 := wrap_succ k (by omega)
    rw [drop_turn hy, pos] at hp
    simp only [wx, Nat.reduceAdd, Nat.reduceEqDiff, Nat.reduceLT, Nat.reduceMul, Nat.reduceLeDiff, Int.reduceEq, ↓reduceIte, reduceCtorEq, ne_eq, implies_true, if_true, if_false, ite_not, Tryd.ntmps21, c1, c2, List.length_map, getD_map Fn.enc hy, fenc_eq y, Bool.true_eq_false, w1]
    refine ite_intro (fun hq => ?_) (fun hq => ?_)
    · rw [if_pos (by simpa using hq)] at hp
      exact Leave.pure rfl (by simp only [wx, Nat.reduceAdd, Nat.reduceEqDiff, Nat.reduceLT, Nat.reduceMul, Nat.reduceLeDiff, Int.reduceEq, ↓reduceIte, reduceCtorEq, ne_eq, implies_true, if_true, if_false, ite_not, hp]) (Ext.refl _) rfl
    · rw [if_neg (by simpa using hq)] at hp
      exact next (k + 1) _ _ (by omega) ⟨hlt, rfl, hp⟩ (by simp only [wx, Nat.reduceAdd, Nat.reduceEqDiff, Nat.reduceLT, Nat.reduceMul, Nat.reduceLeDiff, Int.reduceEq, ↓reduceIte, reduceCtorEq, ne_eq, implies_true, if_true, if_false, ite_not])
  · rw [List.drop_length, pos] at hp
    simp only [wx, Nat.reduceAdd, Nat.reduceEqDiff, Nat.reduceLT, Nat.reduceMul, Nat.reduceLeDiff, Int.reduceEq, ↓reduceIte, reduceCtorEq, ne_eq, implies_true, if_true, if_false, ite_not, Tryd.ntmps21, c1, List.length_map, Bool.false_eq_true]
    exact Leave.pure rfl (by simp only [wx, Nat.reduceAdd, Nat.reduceEqDiff, Nat.reduceLT, Nat.reduceMul, Nat.reduceLeDiff, Int.reduceEq, ↓reduceIte, reduceCtorEq, ne_eq, implies_true, if_true, if_false, ite_not, hp]) (Ext.refl _) rfl
end Go.Proofs.YtajknofacjiddaaDoor.Abs

/-
  DERIVED: THE SHELF's CONTRACTS AT THIS DUMP, IN PLAIN WORDS (tools/lay-plain.mjs out of 'TrydShelf.lean', which tools/lay-shelf.mjs wrote): THE SAME DECLARATIONS UNDER THE SAME NAMES: 'import', 'namespace', 'open', 'def', 'theorem' AND NOTHING ELSE: no command of the shelf's: FOR A HAND-IN. Each laying: the table of numbers ('.._ren') and one theorem, a field a fact of the dump's own or the kernel's comparison; each contract: ONE APPLICATION.
-/
namespace Go.Proofs
open Go.Shelf
def Tryd.lays157_ren : Go.Shelf.Ren := ⟨fun | 157 => 62 | 229 => 63 | 199 => 64 | 261 => 65 | 311 => 66 | 312 => 67 | n => n, fun | 9 => 9 | 31 => 70 | 3 => 3 | 5 => 5 | 4 => 4 | 119 => 92 | 0 => 0 | 40 => 94 | 152 => 95 | 21 => 21 | 154 => 97 | 51 => 98 | 141 => 100 | 196 => 104 | 193 => 101 | 198 => 107 | 49 => 105 | 194 => 102 | 201 => 110 | 226 => 112 | 46 => 113 | 227 => 114 | n => n, fun | 0 => 0 | 6 => 1 | n => n⟩
theorem Tryd.lays157 : Go.Proofs.Lays.n157 Tryd.prog Tryd.lays157_ren := {
  mixed := by kernel_rfl
  f157 := Tryd.func62.trans (congrArg some (by kernel_rfl))
  f199 := Tryd.func64.trans (congrArg some (by kernel_rfl))
  f229 := Tryd.func63.trans (congrArg some (by kernel_rfl))
  f261 := Tryd.func65.trans (congrArg some (by kernel_rfl))
  f311 := Tryd.func66.trans (congrArg some (by kernel_rfl))
  f312 := Tryd.func67.trans (congrArg some (by kernel_rfl))
  t0 := Tryd.underlying0
  a0 := Tryd.isAgg0
  z0 := Tryd.sizeOf0
  v0 := Tryd.zeroValue0
  t3 := Tryd.underlying3
  a3 := Tryd.isAgg3
  z3 := Tryd.sizeOf3
  v3 := Tryd.zeroValue3
  t4 := Tryd.underlying4
  a4 := Tryd.isAgg4
  z4 := Tryd.sizeOf4
  v4 := Tryd.zeroValue4
  t5 := Tryd.underlying5
  a5 := Tryd.isAgg5
  z5 := Tryd.sizeOf5
  v5 := Tryd.zeroValue5
  t9 := Tryd.underlying9
  a9 := Tryd.isAgg9
  z9 := Tryd.sizeOf9
  v9 := Tryd.zeroValue9
  t21 := Tryd.underlying21
  a21 := Tryd.isAgg21
  z21 := Tryd.sizeOf21
  v21 := Tryd.zeroValue21
  t31 := Tryd.underlying70
  a31 := Tryd.isAgg70
  z31 := Tryd.sizeOf70
  v31 := Tryd.zeroValue70
  t40 := Tryd.underlying94
  a40 := Tryd.isAgg94
  z40 := Tryd.sizeOf94
  v40 := Tryd.zeroValue94
  t46 := Tryd.underlying113
  a46 := Tryd.isAgg113
  z46 := Tryd.sizeOf113
  v46 := Tryd.zeroValue113
  t49 := Tryd.underlying105
  a49 := Tryd.isAgg105
  z49 := Tryd.sizeOf105
  v49 := Tryd.zeroValue105
  t51 := Tryd.underlying98
  a51 := Tryd.isAgg98
  z51 := Tryd.sizeOf98
  v51 := Tryd.zeroValue98
  t119 := Tryd.underlying92
  a119 := Tryd.isAgg92
  z119 := Tryd.sizeOf92
  t141 := Tryd.underlying100
  a141 := Tryd.isAgg100
  z141 := Tryd.sizeOf100
  v141 := Tryd.zeroValue100
  t152 := Tryd.underlying95
  a152 := Tryd.isAgg95
  z152 := Tryd.sizeOf95
  v152 := Tryd.zeroValue95
  t154 := Tryd.underlying97
  a154 := Tryd.isAgg97
  z154 := Tryd.sizeOf97
  v154 := Tryd.zeroValue97
  t193 := Tryd.underlying101
  a193 := Tryd.isAgg101
  z193 := Tryd.sizeOf101
  v193 := Tryd.zeroValue101
  t194 := Tryd.underlying102
  a194 := Tryd.isAgg102
  z194 := Tryd.sizeOf102
  v194 := Tryd.zeroValue102
  t196 := Tryd.underlying104
  a196 := Tryd.isAgg104
  z196 := Tryd.sizeOf104
  v196 := Tryd.zeroValue104
  t198 := Tryd.underlying107
  a198 := Tryd.isAgg107
  z198 := Tryd.sizeOf107
  v198 := Tryd.zeroValue107
  t201 := Tryd.underlying110
  a201 := Tryd.isAgg110
  z201 := Tryd.sizeOf110
  v201 := Tryd.zeroValue110
  t226 := Tryd.underlying112
  a226 := Tryd.isAgg112
  z226 := Tryd.sizeOf112
  v226 := Tryd.zeroValue112
  t227 := Tryd.underlying114
  a227 := Tryd.isAgg114
  z227 := Tryd.sizeOf114
  v227 := Tryd.zeroValue114
  g0 := by kernel_rfl
  g6 := by kernel_rfl }
open Go.RowKit Go.Lib in
/-- strings.Fields, the table by 'Lib.TabIs' (as strings.TrimSpace's contract). 'hg': the table's number, by its name: at a dump 'by kernel_rfl'. (LAID: no walk: one application.) -/
theorem Tryd.strings_Fields (s : ByteArray) (w : World) (hs : s.size < 4294967281) (hascii : ∀ (j : Nat) b, s.data.toList[j]? = some b → b.toNat < 128) (htab : Lib.TabIs Tryd.prog w "strings.asciiSpace" .u8 Lib.asciiSpaceTab) :
    Calls Tryd.prog 62 #[.string s] w fun e w' =>
      e = .returned (.slice (some ⟨w.heap.size, 0, none⟩) (Lib.fields s.data.toList).length (Lib.fields s.data.toList).length) ∧ w' = w.alloc (.cells ((Lib.fields s.data.toList).map fun l => Value.string ⟨l.toArray⟩).toArray 9) := Any.strings_Fields Tryd.lays157 (by kernel_rfl) (by kernel_rfl) s w hs hascii htab
end Go.Proofs

/- The keywords. -/
namespace Go.Proofs.YtajknofacjiddaaDoor.Abs
open Go Go.RowKit
set_option linter.unusedSimpArgs false
set_option linter.unusedVariables false
set_option maxHeartbeats 4000000
set_option maxRecDepth 100000
theorem Inv.tab {w0 : World} {h : AHeap} {g : Ghost} {w : World} (i : Inv sd w0 h g w) : Lib.TabIs Tryd.prog w "strings.asciiSpace" .u8 Lib.asciiSpaceTab := Joins.tab_stays (g := 0) (by kernel_rfl) i.base i.below (Nat.le_refl _)
def words : List ByteArray := [⟨#[105, 110, 116]⟩, ⟨#[97, 114, 114, 97, 121]⟩, ⟨#[115, 116, 97, 99, 107]⟩, ⟨#[112, 114, 111, 99]⟩, ⟨#[109, 97, 105, 110]⟩, ⟨#[112, 117, 115, 104]⟩, ⟨#[112, 111, 112]⟩, ⟨#[114, 101, 97, 100]⟩, ⟨#[117, 110, 114, 101, 97, 100]⟩, ⟨#[119, 114, 105, 116, 101]⟩, ⟨#[117, 110, 119, 114, 105, 116, 101]⟩, ⟨#[99, 97, 108, 108]⟩, ⟨#[117, 110, 99, 97, 108, 108]⟩, ⟨#[105, 102]⟩, ⟨#[101, 108, 115, 101]⟩, ⟨#[102, 105]⟩, ⟨#[102, 114, 111, 109]⟩, ⟨#[108, 111, 111, 112]⟩, ⟨#[117, 110, 116, 105, 108]⟩, ⟨#[108, 111, 99, 97, 108]⟩, ⟨#[100, 101, 108, 111, 99, 97, 108]⟩, ⟨#[116, 111, 112]⟩, ⟨#[115, 105, 122, 101]⟩]
def kwText : ByteArray := ⟨#[105, 110, 116, 32, 97, 114, 114, 97, 121, 32, 115, 116, 97, 99, 107, 32, 112, 114, 111, 99, 32, 109, 97, 105, 110, 32, 112, 117, 115, 104, 32, 112, 111, 112, 32, 114, 101, 97, 100, 32, 117, 110, 114, 101, 97, 100, 32, 119, 114, 105, 116, 101, 32, 117, 110, 119, 114, 105, 116, 101, 32, 99, 97, 108, 108, 32, 117, 110, 99, 97, 108, 108, 32, 105, 102, 32, 101, 108, 115, 101, 32, 102, 105, 32, 102, 114, 111, 109, 32, 108, 111, 111, 112, 32, 117, 110, 116, 105, 108, 32, 108, 111, 99, 97, 108, 32, 100, 101, 108, 111, 99, 97, 108, 32, 116, 111, 112, 32, 115, 105, 122, 101]⟩
theorem fields_words : (Lib.fields kwText.data.toList).map (fun l => Value.string ⟨l.toArray⟩) = words.map Value.string := by
  have : (Lib.fields kwText.data.toList) = words.map (fun s => s.data.toList) := by decide +kernel
  rw [this, List.map_map]
  rfl
/-- A row of strings in a block of its own. -/
theorem rep_strs {g : Ghost} {b : Nat} (ws : List ByteArray) (hI : ∀ (k : Nat) s, ws[k]? = some s → g.I b k = some (.string s)) : Rep g (vstrs ws) (.slice (some ⟨b, 0, none⟩) ws.length ws.length) := by
  refine rep_k ?_
  have := Rep.slice (g := g) (sz := 1) (els := ws.map fun s => [AV.str s]) (tok := .unk) (b := b) (o := 0) (cap := ws.length) (fun k => .string (ws.getD k .empty)) (fun i hi => ?_) (fun i e he => ?_) (fun i j e v he hv => ?_) (by simp) trivial
  · rw [List.length_map] at this
    exact this
  · simp only [List.length_map, Nat.mul_one] at hi
    rw [Nat.zero_add, hI i ws[i] (List.getElem?_eq_getElem hi)]
    simp [hi]
  · obtain ⟨s, _, rfl⟩ := map_get he
    exact Nat.le_refl _
  · obtain ⟨s, hs, rfl⟩ := map_get he
    cases j with
    | zero => cases hv; simp only [Nat.mul_one, Nat.add_zero, List.getD_eq_getElem?_getD, hs]; exact .str s
    | succ j => simp at hv
theorem ac62 (h : AHeap) : AC sd 62 [.str kwText] h (Pure1 (vstrs words) h) := by
  intro w0 g w xs inv hargs
  obtain rfl : xs = #[.string kwText] := by
    obtain ⟨x, hx, hr⟩ := hargs.get (i := 0) rfl
    have hs := hargs.1
    cases hr
    refine Array.ext (by simpa using hs) fun i h1 h2 => ?_
    have : i = 0 := by simp at h2; omega
    subst this
    rw [Array.getElem?_eq_getElem h1] at hx
    simpa using hx
  refine (Tryd.strings_Fields kwText w (by decide +kernel) ?_ inv.tab).mono ?_
  · intro j b hb
    have : ∀ b ∈ kwText.data.toList, b.toNat < 128 := by decide +kernel
    exact this b (List.mem_of_getElem? hb)
  rintro e w' ⟨rfl, rfl⟩
  have hlen : (Lib.fields kwText.data.toList).length = words.length := by
    have := congrArg List.length fields_words
    simpa using this
  obtain ⟨le, inv'⟩ := inv.newImm (NewBlk.alloc w (.cells ((Lib.fields kwText.data.toList).map fun l => Value.string ⟨l.toArray⟩).toArray 9)) (fun k y hk => by
    rw [fields_words] at hk
    simp only [List.getElem?_toArray, List.getElem?_map, Option.map_eq_some_iff] at hk
    obtain ⟨s, _, rfl⟩ := hk
    rfl)
  refine ⟨.ret (vstrs words), h, _, le, inv', ?_, rfl, rfl⟩
  rw [hlen]
  refine rep_strs words fun k s hs => ?_
  show (if w.heap.size = w.heap.size then _ else _) = _
  rw [if_pos rfl, fields_words]
  simp [hs]
def kwB (s : ByteArray) : Bool := words.any fun w => decide (w = s)
def kwF (s : ByteArray) : Option AV := if kwB s then some (.bool true) else none
def KwPost (h : AHeap) : Post := fun r h' => ∃ clk es, r = .ret (.map h.next) ∧ h' = h.alloc (.map clk es) ∧ KMap es kwF
theorem ac59 (h : AHeap) : AC sd 59 [] h (KwPost h) := by
  refine AC.enter Tryd.func59 rfl (Nat.zero_le _) ?_
  refine Ev.sound 100 _ _ _ _ ?_
  simp only [argFr]
  simp only [wx, Nat.reduceAdd, Nat.reduceEqDiff, Nat.reduceLT, Nat.reduceMul, Nat.reduceLeDiff, Int.reduceEq, ↓reduceIte, reduceCtorEq, ne_eq, implies_true, if_true, if_false, ite_not, Tryd.ntmps59]
  refine Stop.fact (ac62 _) rfl rfl (by simp only [wx, Nat.reduceAdd, Nat.reduceEqDiff, Nat.reduceLT, Nat.reduceMul, Nat.reduceLeDiff, Int.reduceEq, ↓reduceIte, reduceCtorEq, ne_eq, implies_true, if_true, if_false, ite_not, Tryd.ntmps59]) (caps := []) (by simp only [wx, Nat.reduceAdd, Nat.reduceEqDiff, Nat.reduceLT, Nat.reduceMul, Nat.reduceLeDiff, Int.reduceEq, ↓reduceIte, reduceCtorEq, ne_eq, implies_true, if_true, if_false, ite_not]) en_62 rfl ?_
  refine Ev.sound 100 _ _ _ _ ?_
  simp only [wx, Nat.reduceAdd, Nat.reduceEqDiff, Nat.reduceLT, Nat.reduceMul, Nat.reduceLeDiff, Int.reduceEq, ↓reduceIte, reduceCtorEq, ne_eq, implies_true, if_true, if_false, ite_not, Tryd.ntmps59, vstrs]
  refine Stop.round (σ := Nat) (fun k => words.length - k) (fun k => [(1, .map h.next), (5, kslice 1 (words.map fun s => [.str s])), (6, .int .i64 words.length), (7, .int .i64 k)]) (fun k h1 => k ≤ words.length ∧ ∃ clk es, h1 = h.alloc (.map clk es) ∧ KMap es fun s => if (words.take k).any (fun w => decide (w = s)) then some (.bool true) else none) 0 ⟨Nat.zero_le _, 0, [], rfl, .nil⟩ ?_ ?_
  · simp only [wx, Nat.reduceAdd, Nat.reduceEqDiff, Nat.reduceLT, Nat.reduceMul, Nat.reduceLeDiff, Int.reduceEq, ↓reduceIte, reduceCtorEq, ne_eq, implies_true, if_true, if_false, ite_not, List.length_map, Int.ofNat_zero, Int.natCast_zero]
  rintro k _ ⟨hk, clk, es, rfl, hm⟩ next
  refine Ev.sound 100 _ _ _ _ ?_
  have hlw : words.length = 23 := rfl
  rcases turn words k hk with ⟨y, hy, hmem, hlt, c1, c2⟩ | ⟨rfl, c1⟩
  · have w1 := wrap_succ k (by omega)
    obtain ⟨clk', es', hp, hm', _⟩ := hm.put clk y (.bool true)
    have hp' : amapPut clk es (.str y) (.bool true) = some (.map clk' es') := hp
    simp only [wx, Nat.reduceAdd, Nat.reduceEqDiff, Nat.reduceLT, Nat.reduceMul, Nat.reduceLeDiff, Int.reduceEq, ↓reduceIte, reduceCtorEq, ne_eq, implies_true, if_true, if_false, ite_not, Tryd.ntmps59, c1, c2, List.length_map, getD_map (fun s => [AV.str s]) hy, Bool.true_eq_false, w1, hp']
    refine next (k + 1) _ _ (by omega) ⟨hlt, clk', es', rfl, ?_⟩ (by simp only [wx, Nat.reduceAdd, Nat.reduceEqDiff, Nat.reduceLT, Nat.reduceMul, Nat.reduceLeDiff, Int.reduceEq, ↓reduceIte, reduceCtorEq, ne_eq, implies_true, if_true, if_false, ite_not])
    have e : (fun s => if (words.take (k + 1)).any (fun w => decide (w = s)) then some (AV.bool true) else none) = kupd (fun s => if (words.take k).any (fun w => decide (w = s)) then some (AV.bool true) else none) y (some (.bool true)) := by
      funext s
      simp only [take_snoc _ _ _ hy, List.any_append]
      unfold kupd
      by_cases q : s = y
      · subst q; simp
      · have hd : decide (y = s) = false := decide_eq_false fun e => q e.symm
        rw [List.any_cons, List.any_nil, if_neg q, hd, Bool.or_false, Bool.or_false]
    rw [e]
    exact hm'
  · simp only [wx, Nat.reduceAdd, Nat.reduceEqDiff, Nat.reduceLT, Nat.reduceMul, Nat.reduceLeDiff, Int.reduceEq, ↓reduceIte, reduceCtorEq, ne_eq, implies_true, if_true, if_false, ite_not, Tryd.ntmps59, c1, Bool.false_eq_true]
    refine Leave.of ?_
    rw [List.take_length] at hm
    exact ⟨clk, es, rfl, rfl, hm⟩
theorem ac52 (s : ByteArray) (h : AHeap) : AC sd 52 [.str s] h (Pure1 (.bool (kwB s)) h) := by
  refine AC.pure Tryd.func52 rfl Tryd.ntmps52 (by show 1 ≤ 6; decide) ?_
  refine Ev.sound 100 _ _ _ _ ?_
  simp only [argFr]
  simp only [wx, Nat.reduceAdd, Nat.reduceEqDiff, Nat.reduceLT, Nat.reduceMul, Nat.reduceLeDiff, Int.reduceEq, ↓reduceIte, reduceCtorEq, ne_eq, implies_true, if_true, if_false, ite_not, Tryd.ntmps52]
  refine Stop.call 59 [] _ rfl (by simp only [wx, Nat.reduceAdd, Nat.reduceEqDiff, Nat.reduceLT, Nat.reduceMul, Nat.reduceLeDiff, Int.reduceEq, ↓reduceIte, reduceCtorEq, ne_eq, implies_true, if_true, if_false, ite_not, Tryd.ntmps52]) (by simp only [wx, Nat.reduceAdd, Nat.reduceEqDiff, Nat.reduceLT, Nat.reduceMul, Nat.reduceLeDiff, Int.reduceEq, ↓reduceIte, reduceCtorEq, ne_eq, implies_true, if_true, if_false, ite_not]) en_59 (ac59 _) ?_ (fun v h' hq => by obtain ⟨_, _, hq, _⟩ := hq; cases hq)
  rintro v h' ⟨clk, es, hv, rfl, hm⟩
  cases hv
  refine Ev.sound 100 _ _ _ _ ?_
  have hl : lookM (some (.map clk es)) (.str s) false (.bool false) = some (okOf false (.bool false) (kwF s)) := hm.look clk s false (.bool false)
  have hk : okOf false (.bool false) (kwF s) = .bool (kwB s) := by unfold kwF; cases kwB s <;> rfl
  simp only [wx, Nat.reduceAdd, Nat.reduceEqDiff, Nat.reduceLT, Nat.reduceMul, Nat.reduceLeDiff, Int.reduceEq, ↓reduceIte, reduceCtorEq, ne_eq, implies_true, if_true, if_false, ite_not, Tryd.ntmps52, hl, hk]
  exact Leave.pure rfl (by simp only [wx, Nat.reduceAdd, Nat.reduceEqDiff, Nat.reduceLT, Nat.reduceMul, Nat.reduceLeDiff, Int.reduceEq, ↓reduceIte, reduceCtorEq, ne_eq, implies_true, if_true, if_false, ite_not]) ((Ext.refl _).alloc _) rfl
end Go.Proofs.YtajknofacjiddaaDoor.Abs

/- Names. -/
namespace Go.Proofs.YtajknofacjiddaaDoor.Abs
open Go Go.RowKit
set_option linter.unusedSimpArgs false
set_option linter.unusedVariables false
set_option maxHeartbeats 4000000
set_option maxRecDepth 100000
theorem pos_ge {α : Type} (p : α → Bool) (l : List α) (k : Nat) : pos p k l = -1 ∨ (k : Int) ≤ pos p k l := by
  induction l generalizing k with
  | nil => exact .inl rfl
  | cons a l ih =>
    unfold pos
    split
    · exact .inr (Int.le_refl _)
    · rcases ih (k + 1) with h | h
      · exact .inl h
      · exact .inr (by omega)
theorem pos_any {α : Type} (p : α → Bool) (l : List α) (k : Nat) : decide (0 ≤ pos p k l) = l.any p := by
  induction l generalizing k with
  | nil => rfl
  | cons a l ih =>
    unfold pos
    rw [List.any_cons]
    split
    · rename_i h; rw [h]; simp
    · rename_i h
      rw [ih]
      simp only [Bool.not_eq_true] at h
      rw [h]; rfl
theorem ac60 (l : List ByteArray) (s : ByteArray) (hl : l.length ≤ 1048576) (h : AHeap) : AC sd 60 [vstrs l, .str s] h (Pure1 (.int .i64 (pos (fun w => decide (s = w)) 0 l)) h) := by
  refine AC.pure Tryd.func60 rfl Tryd.ntmps60 (by show 2 ≤ 19; decide) ?_
  refine Ev.sound 100 _ _ _ _ ?_
  simp only [argFr, vstrs]
  simp only [wx, Nat.reduceAdd, Nat.reduceEqDiff, Nat.reduceLT, Nat.reduceMul, Nat.reduceLeDiff, Int.reduceEq, ↓reduceIte, reduceCtorEq, ne_eq, implies_true, if_true, if_false, ite_not, Tryd.ntmps60]
  refine Stop.round (σ := Nat) (fun k => l.length - k) (fun k => [(0, kslice 1 (l.map fun s => [.str s])), (1, .str s), (7, .int .i64 l.length), (8, .int .i64 k)]) (fun k h1 => k ≤ l.length ∧ h1 = h ∧ pos (fun w => decide (s = w)) 0 l = pos (fun w => decide (s = w)) k (l.drop k)) 0 ⟨Nat.zero_le _, rfl, rfl⟩ ?_ ?_
  · simp only [wx, Nat.reduceAdd, Nat.reduceEqDiff, Nat.reduceLT, Nat.reduceMul, Nat.reduceLeDiff, Int.reduceEq, ↓reduceIte, reduceCtorEq, ne_eq, implies_true, if_true, if_false, ite_not, List.length_map, Int.ofNat_zero, Int.natCast_zero]
  rintro k _ ⟨hk, rfl, hp⟩ next
  refine Ev.sound 100 _ _ _ _ ?_
  rcases turn l k hk with ⟨y, hy, hmem, hlt, c1, c2⟩ | ⟨rfl, c1⟩
  · have w1 := wrap_succ k (by omega)
    rw [drop_turn hy, pos] at hp
    simp only [wx, Nat.reduceAdd, Nat.reduceEqDiff, Nat.reduceLT, Nat.reduceMul, Nat.reduceLeDiff, Int.reduceEq, ↓reduceIte, reduceCtorEq, ne_eq, implies_true, if_true, if_false, ite_not, Tryd.ntmps60, c1, c2, List.length_map, getD_map (fun s => [AV.str s]) hy, Bool.true_eq_false, w1]
    refine ite_intro (fun hq => ?_) (fun hq => ?_)
    · rw [if_pos (by simpa using hq)] at hp
      exact Leave.pure rfl (by simp only [wx, Nat.reduceAdd, Nat.reduceEqDiff, Nat.reduceLT, Nat.reduceMul, Nat.reduceLeDiff, Int.reduceEq, ↓reduceIte, reduceCtorEq, ne_eq, implies_true, if_true, if_false, ite_not, hp]) (Ext.refl _) rfl
    · rw [if_neg (by simpa using hq)] at hp
      exact next (k + 1) _ _ (by omega) ⟨hlt, rfl, hp⟩ (by simp only [wx, Nat.reduceAdd, Nat.reduceEqDiff, Nat.reduceLT, Nat.reduceMul, Nat.reduceLeDiff, Int.reduceEq, ↓reduceIte, reduceCtorEq, ne_eq, implies_true, if_true, if_false, ite_not])
  · rw [List.drop_length, pos] at hp
    simp only [wx, Nat.reduceAdd, Nat.reduceEqDiff, Nat.reduceLT, Nat.reduceMul, Nat.reduceLeDiff, Int.reduceEq, ↓reduceIte, reduceCtorEq, ne_eq, implies_true, if_true, if_false, ite_not, Tryd.ntmps60, c1, Bool.false_eq_true]
    exact Leave.pure rfl (by simp only [wx, Nat.reduceAdd, Nat.reduceEqDiff, Nat.reduceLT, Nat.reduceMul, Nat.reduceLeDiff, Int.reduceEq, ↓reduceIte, reduceCtorEq, ne_eq, implies_true, if_true, if_false, ite_not, hp]) (Ext.refl _) rfl
theorem ac53 (l : List ByteArray) (s : ByteArray) (hl : l.length ≤ 1048576) (h : AHeap) : AC sd 53 [vstrs l, .str s] h (Pure1 (.bool (l.any fun w => decide (s = w))) h) := by
  refine AC.pure Tryd.func53 rfl Tryd.ntmps53 (by show 2 ≤ 9; decide) ?_
  refine Ev.sound 100 _ _ _ _ ?_
  simp only [argFr, vstrs]
  simp only [wx, Nat.reduceAdd, Nat.reduceEqDiff, Nat.reduceLT, Nat.reduceMul, Nat.reduceLeDiff, Int.reduceEq, ↓reduceIte, reduceCtorEq, ne_eq, implies_true, if_true, if_false, ite_not, Tryd.ntmps53]
  refine Stop.fact (ac60 l s hl _) rfl rfl (by simp only [wx, Nat.reduceAdd, Nat.reduceEqDiff, Nat.reduceLT, Nat.reduceMul, Nat.reduceLeDiff, Int.reduceEq, ↓reduceIte, reduceCtorEq, ne_eq, implies_true, if_true, if_false, ite_not, Tryd.ntmps53]) (caps := []) (by simp only [wx, Nat.reduceAdd, Nat.reduceEqDiff, Nat.reduceLT, Nat.reduceMul, Nat.reduceLeDiff, Int.reduceEq, ↓reduceIte, reduceCtorEq, ne_eq, implies_true, if_true, if_false, ite_not]) en_60 (by simp only [wx, Nat.reduceAdd, Nat.reduceEqDiff, Nat.reduceLT, Nat.reduceMul, Nat.reduceLeDiff, Int.reduceEq, ↓reduceIte, reduceCtorEq, ne_eq, implies_true, if_true, if_false, ite_not, vstrs, fgt_strs]) ?_
  refine Ev.sound 100 _ _ _ _ ?_
  simp only [wx, Nat.reduceAdd, Nat.reduceEqDiff, Nat.reduceLT, Nat.reduceMul, Nat.reduceLeDiff, Int.reduceEq, ↓reduceIte, reduceCtorEq, ne_eq, implies_true, if_true, if_false, ite_not, Tryd.ntmps53, pos_any]
  exact Leave.pure rfl (by simp only [wx, Nat.reduceAdd, Nat.reduceEqDiff, Nat.reduceLT, Nat.reduceMul, Nat.reduceLeDiff, Int.reduceEq, ↓reduceIte, reduceCtorEq, ne_eq, implies_true, if_true, if_false, ite_not]) (Ext.refl _) rfl
def reserved : List ByteArray := [⟨#[108, 99, 111, 112, 121]⟩, ⟨#[108, 115, 112, 105, 108, 108]⟩, ⟨#[111, 117, 116]⟩, ⟨#[103]⟩]
def low (b : UInt8) : Bool := decide (97 ≤ b.toNat) && decide (b.toNat ≤ 122)
def nameB (s : ByteArray) : Bool := s.data.toList.all low && decide (1 ≤ s.size) && decide (s.size ≤ 12) && !kwB s && !(reserved.any fun w => decide (s = w))
theorem ac43 (s : ByteArray) (hs : s.size ≤ 1099511627776) (h : AHeap) : AC sd 43 [.str s] h (Pure1 (.bool (nameB s)) h) := by
  refine AC.pure Tryd.func43 rfl Tryd.ntmps43 (by show 1 ≤ 40; decide) ?_
  refine Ev.sound 100 _ _ _ _ ?_
  simp only [argFr]
  simp only [wx, Nat.reduceAdd, Nat.reduceEqDiff, Nat.reduceLT, Nat.reduceMul, Nat.reduceLeDiff, Int.reduceEq, ↓reduceIte, reduceCtorEq, ne_eq, implies_true, if_true, if_false, ite_not, Tryd.ntmps43, bytesAV]
  refine ⟨by omega, ?_⟩
  have hlen : s.data.toList.length = s.size := rfl
  refine Stop.round (σ := Nat) (fun k => s.data.toList.length - k) (fun k => [(0, .str s), (7, .slice 1 (s.data.toList.map fun b => [.int .u8 b.toNat]) .unk), (8, .int .i64 s.data.toList.length), (9, .int .i64 k)]) (fun k h1 => k ≤ s.data.toList.length ∧ h1 = h ∧ s.data.toList.all low = (s.data.toList.drop k).all low) 0 ⟨Nat.zero_le _, rfl, rfl⟩ ?_ ?_
  · simp only [wx, Nat.reduceAdd, Nat.reduceEqDiff, Nat.reduceLT, Nat.reduceMul, Nat.reduceLeDiff, Int.reduceEq, ↓reduceIte, reduceCtorEq, ne_eq, implies_true, if_true, if_false, ite_not, List.length_map, Int.ofNat_zero, Int.natCast_zero]
  rintro k _ ⟨hk, rfl, hp⟩ next
  refine Ev.sound 100 _ _ _ _ ?_
  rcases turn s.data.toList k hk with ⟨y, hy, hmem, hlt, c1, c2⟩ | ⟨rfl, c1⟩
  · have w1 := wrap_succ k (by omega)
    rw [drop_turn hy, List.all_cons] at hp
    by_cases a1 : (y.toNat : Int) < 97
    · simp only [wx, Nat.reduceAdd, Nat.reduceEqDiff, Nat.reduceLT, Nat.reduceMul, Nat.reduceLeDiff, Int.reduceEq, ↓reduceIte, reduceCtorEq, ne_eq, implies_true, if_true, if_false, ite_not, Tryd.ntmps43, c1, c2, List.length_map, getD_map (fun b : UInt8 => [AV.int .u8 b.toNat]) hy, Bool.true_eq_false, w1, a1]
      have hb : low y = false := by unfold low; simp; omega
      have hn : nameB s = false := by unfold nameB; rw [hp, hb]; simp
      exact Leave.pure rfl (by simp only [wx, Nat.reduceAdd, Nat.reduceEqDiff, Nat.reduceLT, Nat.reduceMul, Nat.reduceLeDiff, Int.reduceEq, ↓reduceIte, reduceCtorEq, ne_eq, implies_true, if_true, if_false, ite_not, hn]) (Ext.refl _) rfl
    · by_cases a2 : (122 : Int) < y.toNat
      · simp only [wx, Nat.reduceAdd, Nat.reduceEqDiff, Nat.reduceLT, Nat.reduceMul, Nat.reduceLeDiff, Int.reduceEq, ↓reduceIte, reduceCtorEq, ne_eq, implies_true, if_true, if_false, ite_not, Tryd.ntmps43, c1, c2, List.length_map, getD_map (fun b : UInt8 => [AV.int .u8 b.toNat]) hy, Bool.true_eq_false, w1, a1, a2]
        have hb : low y = false := by unfold low; simp; omega
        have hn : nameB s = false := by unfold nameB; rw [hp, hb]; simp
        exact Leave.pure rfl (by simp only [wx, Nat.reduceAdd, Nat.reduceEqDiff, Nat.reduceLT, Nat.reduceMul, Nat.reduceLeDiff, Int.reduceEq, ↓reduceIte, reduceCtorEq, ne_eq, implies_true, if_true, if_false, ite_not, hn]) (Ext.refl _) rfl
      · simp only [wx, Nat.reduceAdd, Nat.reduceEqDiff, Nat.reduceLT, Nat.reduceMul, Nat.reduceLeDiff, Int.reduceEq, ↓reduceIte, reduceCtorEq, ne_eq, implies_true, if_true, if_false, ite_not, Tryd.ntmps43, c1, c2, List.length_map, getD_map (fun b : UInt8 => [AV.int .u8 b.toNat]) hy, Bool.true_eq_false, w1, a1, a2]
        have hb : low y = true := by unfold low; simp; omega
        exact next (k + 1) _ _ (by omega) ⟨hlt, rfl, by rw [hp, hb]; simp⟩ (by simp only [wx, Nat.reduceAdd, Nat.reduceEqDiff, Nat.reduceLT, Nat.reduceMul, Nat.reduceLeDiff, Int.reduceEq, ↓reduceIte, reduceCtorEq, ne_eq, implies_true, if_true, if_false, ite_not])
  · rw [List.drop_length, List.all_nil] at hp
    have hnm : nameB s = (decide (1 ≤ s.size) && decide (s.size ≤ 12) && !kwB s && !(reserved.any fun w => decide (s = w))) := by unfold nameB; rw [hp, Bool.true_and]
    by_cases a3 : (1 : Int) ≤ s.size
    case neg =>
      simp only [wx, Nat.reduceAdd, Nat.reduceEqDiff, Nat.reduceLT, Nat.reduceMul, Nat.reduceLeDiff, Int.reduceEq, ↓reduceIte, reduceCtorEq, ne_eq, implies_true, if_true, if_false, ite_not, Tryd.ntmps43, c1, Bool.false_eq_true, Bool.true_eq_false, a3]
      have hn : nameB s = false := by rw [hnm, decide_eq_false (by omega : ¬ 1 ≤ s.size)]; rfl
      exact Leave.pure rfl (by simp only [wx, Nat.reduceAdd, Nat.reduceEqDiff, Nat.reduceLT, Nat.reduceMul, Nat.reduceLeDiff, Int.reduceEq, ↓reduceIte, reduceCtorEq, ne_eq, implies_true, if_true, if_false, ite_not, hn]) (Ext.refl _) rfl
    by_cases a4 : (s.size : Int) ≤ 12
    case neg =>
      simp only [wx, Nat.reduceAdd, Nat.reduceEqDiff, Nat.reduceLT, Nat.reduceMul, Nat.reduceLeDiff, Int.reduceEq, ↓reduceIte, reduceCtorEq, ne_eq, implies_true, if_true, if_false, ite_not, Tryd.ntmps43, c1, Bool.false_eq_true, Bool.true_eq_false, a3, a4]
      have hn : nameB s = false := by rw [hnm, decide_eq_false (by omega : ¬ s.size ≤ 12), Bool.and_false]; rfl
      exact Leave.pure rfl (by simp only [wx, Nat.reduceAdd, Nat.reduceEqDiff, Nat.reduceLT, Nat.reduceMul, Nat.reduceLeDiff, Int.reduceEq, ↓reduceIte, reduceCtorEq, ne_eq, implies_true, if_true, if_false, ite_not, hn]) (Ext.refl _) rfl
    rw [decide_eq_true (by omega : 1 ≤ s.size), decide_eq_true (by omega : s.size ≤ 12)] at hnm
    simp only [wx, Nat.reduceAdd, Nat.reduceEqDiff, Nat.reduceLT, Nat.reduceMul, Nat.reduceLeDiff, Int.reduceEq, ↓reduceIte, reduceCtorEq, ne_eq, implies_true, if_true, if_false, ite_not, Tryd.ntmps43, c1, Bool.false_eq_true, Bool.true_eq_false, a3, a4]
    refine Stop.fact (ac52 s _) rfl (by simp only [wx, Nat.reduceAdd, Nat.reduceEqDiff, Nat.reduceLT, Nat.reduceMul, Nat.reduceLeDiff, Int.reduceEq, ↓reduceIte, reduceCtorEq, ne_eq, implies_true, if_true, if_false, ite_not, awanted]; rfl) (by simp only [wx, Nat.reduceAdd, Nat.reduceEqDiff, Nat.reduceLT, Nat.reduceMul, Nat.reduceLeDiff, Int.reduceEq, ↓reduceIte, reduceCtorEq, ne_eq, implies_true, if_true, if_false, ite_not, Tryd.ntmps43]) (caps := []) (by simp only [wx, Nat.reduceAdd, Nat.reduceEqDiff, Nat.reduceLT, Nat.reduceMul, Nat.reduceLeDiff, Int.reduceEq, ↓reduceIte, reduceCtorEq, ne_eq, implies_true, if_true, if_false, ite_not]) en_52 (by simp only [wx, Nat.reduceAdd, Nat.reduceEqDiff, Nat.reduceLT, Nat.reduceMul, Nat.reduceLeDiff, Int.reduceEq, ↓reduceIte, reduceCtorEq, ne_eq, implies_true, if_true, if_false, ite_not]) ?_
    refine Ev.sound 100 _ _ _ _ ?_
    cases hk : kwB s
    case true =>
      simp only [wx, Nat.reduceAdd, Nat.reduceEqDiff, Nat.reduceLT, Nat.reduceMul, Nat.reduceLeDiff, Int.reduceEq, ↓reduceIte, reduceCtorEq, ne_eq, implies_true, if_true, if_false, ite_not, Tryd.ntmps43, Bool.false_eq_true, Bool.true_eq_false, hk]
      have hn : nameB s = false := by rw [hnm, hk]; rfl
      exact Leave.pure rfl (by simp only [wx, Nat.reduceAdd, Nat.reduceEqDiff, Nat.reduceLT, Nat.reduceMul, Nat.reduceLeDiff, Int.reduceEq, ↓reduceIte, reduceCtorEq, ne_eq, implies_true, if_true, if_false, ite_not, hn]) (Ext.refl _) rfl
    simp only [wx, Nat.reduceAdd, Nat.reduceEqDiff, Nat.reduceLT, Nat.reduceMul, Nat.reduceLeDiff, Int.reduceEq, ↓reduceIte, reduceCtorEq, ne_eq, implies_true, if_true, if_false, ite_not, Tryd.ntmps43, Bool.false_eq_true, Bool.true_eq_false, hk]
    refine Stop.fact (ac53 reserved s (by decide) _) rfl (by simp only [wx, Nat.reduceAdd, Nat.reduceEqDiff, Nat.reduceLT, Nat.reduceMul, Nat.reduceLeDiff, Int.reduceEq, ↓reduceIte, reduceCtorEq, ne_eq, implies_true, if_true, if_false, ite_not, awanted]; rfl) (by simp only [wx, Nat.reduceAdd, Nat.reduceEqDiff, Nat.reduceLT, Nat.reduceMul, Nat.reduceLeDiff, Int.reduceEq, ↓reduceIte, reduceCtorEq, ne_eq, implies_true, if_true, if_false, ite_not, Tryd.ntmps43]) (caps := []) (by simp only [wx, Nat.reduceAdd, Nat.reduceEqDiff, Nat.reduceLT, Nat.reduceMul, Nat.reduceLeDiff, Int.reduceEq, ↓reduceIte, reduceCtorEq, ne_eq, implies_true, if_true, if_false, ite_not]) en_53 (by simp only [wx, Nat.reduceAdd, Nat.reduceEqDiff, Nat.reduceLT, Nat.reduceMul, Nat.reduceLeDiff, Int.reduceEq, ↓reduceIte, reduceCtorEq, ne_eq, implies_true, if_true, if_false, ite_not, vstrs, reserved]) ?_
    refine Ev.sound 100 _ _ _ _ ?_
    simp only [wx, Nat.reduceAdd, Nat.reduceEqDiff, Nat.reduceLT, Nat.reduceMul, Nat.reduceLeDiff, Int.reduceEq, ↓reduceIte, reduceCtorEq, ne_eq, implies_true, if_true, if_false, ite_not, Tryd.ntmps43, Bool.false_eq_true, Bool.true_eq_false, hk]
    have hn : nameB s = !(reserved.any fun w => decide (s = w)) := by rw [hnm, hk]; rfl
    exact Leave.pure rfl (by simp only [wx, Nat.reduceAdd, Nat.reduceEqDiff, Nat.reduceLT, Nat.reduceMul, Nat.reduceLeDiff, Int.reduceEq, ↓reduceIte, reduceCtorEq, ne_eq, implies_true, if_true, if_false, ite_not, hn]) (Ext.refl _) rfl
end Go.Proofs.YtajknofacjiddaaDoor.Abs

/- Names, the reference. -/
namespace Go.Proofs.YtajknofacjiddaaDoor.Abs
open Go Go.RowKit
set_option linter.unusedSimpArgs false
set_option linter.unusedVariables false
set_option maxHeartbeats 4000000
set_option maxRecDepth 100000
theorem ac41 (h : AHeap) : AC sd 41 [] h (Pure1 (vstrs words) h) := by
  refine AC.pure (n := 2) Tryd.func41 rfl Tryd.ntmps41 (Nat.zero_le _) ?_
  refine Ev.sound 100 _ _ _ _ ?_
  simp only [argFr]
  simp only [wx, Nat.reduceAdd, Nat.reduceEqDiff, Nat.reduceLT, Nat.reduceMul, Nat.reduceLeDiff, Int.reduceEq, ↓reduceIte, reduceCtorEq, ne_eq, implies_true, if_true, if_false, ite_not, Tryd.ntmps41]
  exact Leave.pure rfl (by simp only [wx, Nat.reduceAdd, Nat.reduceEqDiff, Nat.reduceLT, Nat.reduceMul, Nat.reduceLeDiff, Int.reduceEq, ↓reduceIte, reduceCtorEq, ne_eq, implies_true, if_true, if_false, ite_not]; rfl) (Ext.refl _) rfl
theorem ac25 (s : ByteArray) (hs : s.size ≤ 1099511627776) (h : AHeap) : AC sd 25 [.str s] h (Pure1 (.bool (nameB s)) h) := by
  refine AC.pure Tryd.func25 rfl Tryd.ntmps25 (by show 1 ≤ 59; decide) ?_
  refine Ev.sound 100 _ _ _ _ ?_
  simp only [argFr]
  have hlen : s.data.toList.length = s.size := rfl
  by_cases a3 : (s.size : Int) < 1
  case pos =>
    simp only [wx, Nat.reduceAdd, Nat.reduceEqDiff, Nat.reduceLT, Nat.reduceMul, Nat.reduceLeDiff, Int.reduceEq, ↓reduceIte, reduceCtorEq, ne_eq, implies_true, if_true, if_false, ite_not, Tryd.ntmps25, Bool.false_eq_true, Bool.true_eq_false, a3]
    have hn : nameB s = false := by unfold nameB; rw [decide_eq_false (by omega : ¬ 1 ≤ s.size)]; simp
    exact Leave.pure rfl (by simp only [wx, Nat.reduceAdd, Nat.reduceEqDiff, Nat.reduceLT, Nat.reduceMul, Nat.reduceLeDiff, Int.reduceEq, ↓reduceIte, reduceCtorEq, ne_eq, implies_true, if_true, if_false, ite_not, hn]) (Ext.refl _) rfl
  by_cases a4 : (12 : Int) < s.size
  case pos =>
    simp only [wx, Nat.reduceAdd, Nat.reduceEqDiff, Nat.reduceLT, Nat.reduceMul, Nat.reduceLeDiff, Int.reduceEq, ↓reduceIte, reduceCtorEq, ne_eq, implies_true, if_true, if_false, ite_not, Tryd.ntmps25, Bool.false_eq_true, Bool.true_eq_false, a3, a4]
    have hn : nameB s = false := by unfold nameB; rw [decide_eq_false (by omega : ¬ s.size ≤ 12)]; simp
    exact Leave.pure rfl (by simp only [wx, Nat.reduceAdd, Nat.reduceEqDiff, Nat.reduceLT, Nat.reduceMul, Nat.reduceLeDiff, Int.reduceEq, ↓reduceIte, reduceCtorEq, ne_eq, implies_true, if_true, if_false, ite_not, hn]) (Ext.refl _) rfl
  have hres : (reserved.any fun w => decide (s = w)) = (decide (s = ⟨#[108, 99, 111, 112, 121]⟩) || (decide (s = ⟨#[108, 115, 112, 105, 108, 108]⟩) || (decide (s = ⟨#[111, 117, 116]⟩) || (decide (s = ⟨#[103]⟩) || false)))) := rfl
  have hnm : nameB s = (s.data.toList.all low && !kwB s && !(reserved.any fun w => decide (s = w))) := by unfold nameB; rw [decide_eq_true (by omega : 1 ≤ s.size), decide_eq_true (by omega : s.size ≤ 12)]; simp
  by_cases b1 : s = ⟨#[108, 99, 111, 112, 121]⟩
  case pos =>
    have hn : nameB s = false := by rw [hnm, hres, decide_eq_true b1]; simp
    simp only [wx, Nat.reduceAdd, Nat.reduceEqDiff, Nat.reduceLT, Nat.reduceMul, Nat.reduceLeDiff, Int.reduceEq, ↓reduceIte, reduceCtorEq, ne_eq, implies_true, if_true, if_false, ite_not, Tryd.ntmps25, Bool.false_eq_true, Bool.true_eq_false, a3, a4, decide_eq_true b1]
    exact Leave.pure rfl (by simp only [wx, Nat.reduceAdd, Nat.reduceEqDiff, Nat.reduceLT, Nat.reduceMul, Nat.reduceLeDiff, Int.reduceEq, ↓reduceIte, reduceCtorEq, ne_eq, implies_true, if_true, if_false, ite_not, hn]) (Ext.refl _) rfl
  by_cases b2 : s = ⟨#[108, 115, 112, 105, 108, 108]⟩
  case pos =>
    have hn : nameB s = false := by rw [hnm, hres, decide_eq_true b2]; simp
    simp only [wx, Nat.reduceAdd, Nat.reduceEqDiff, Nat.reduceLT, Nat.reduceMul, Nat.reduceLeDiff, Int.reduceEq, ↓reduceIte, reduceCtorEq, ne_eq, implies_true, if_true, if_false, ite_not, Tryd.ntmps25, Bool.false_eq_true, Bool.true_eq_false, a3, a4, decide_eq_false b1, decide_eq_true b2]
    exact Leave.pure rfl (by simp only [wx, Nat.reduceAdd, Nat.reduceEqDiff, Nat.reduceLT, Nat.reduceMul, Nat.reduceLeDiff, Int.reduceEq, ↓reduceIte, reduceCtorEq, ne_eq, implies_true, if_true, if_false, ite_not, hn]) (Ext.refl _) rfl
  by_cases b3 : s = ⟨#[111, 117, 116]⟩
  case pos =>
    have hn : nameB s = false := by rw [hnm, hres, decide_eq_true b3]; simp
    simp only [wx, Nat.reduceAdd, Nat.reduceEqDiff, Nat.reduceLT, Nat.reduceMul, Nat.reduceLeDiff, Int.reduceEq, ↓reduceIte, reduceCtorEq, ne_eq, implies_true, if_true, if_false, ite_not, Tryd.ntmps25, Bool.false_eq_true, Bool.true_eq_false, a3, a4, decide_eq_false b1, decide_eq_false b2, decide_eq_true b3]
    exact Leave.pure rfl (by simp only [wx, Nat.reduceAdd, Nat.reduceEqDiff, Nat.reduceLT, Nat.reduceMul, Nat.reduceLeDiff, Int.reduceEq, ↓reduceIte, reduceCtorEq, ne_eq, implies_true, if_true, if_false, ite_not, hn]) (Ext.refl _) rfl
  by_cases b4 : s = ⟨#[103]⟩
  case pos =>
    have hn : nameB s = false := by rw [hnm, hres, decide_eq_true b4]; simp
    simp only [wx, Nat.reduceAdd, Nat.reduceEqDiff, Nat.reduceLT, Nat.reduceMul, Nat.reduceLeDiff, Int.reduceEq, ↓reduceIte, reduceCtorEq, ne_eq, implies_true, if_true, if_false, ite_not, Tryd.ntmps25, Bool.false_eq_true, Bool.true_eq_false, a3, a4, decide_eq_false b1, decide_eq_false b2, decide_eq_false b3, decide_eq_true b4]
    exact Leave.pure rfl (by simp only [wx, Nat.reduceAdd, Nat.reduceEqDiff, Nat.reduceLT, Nat.reduceMul, Nat.reduceLeDiff, Int.reduceEq, ↓reduceIte, reduceCtorEq, ne_eq, implies_true, if_true, if_false, ite_not, hn]) (Ext.refl _) rfl
  rw [hres, decide_eq_false b1, decide_eq_false b2, decide_eq_false b3, decide_eq_false b4] at hnm
  simp only [wx, Nat.reduceAdd, Nat.reduceEqDiff, Nat.reduceLT, Nat.reduceMul, Nat.reduceLeDiff, Int.reduceEq, ↓reduceIte, reduceCtorEq, ne_eq, implies_true, if_true, if_false, ite_not, Tryd.ntmps25, Bool.false_eq_true, Bool.true_eq_false, a3, a4, decide_eq_false b1, decide_eq_false b2, decide_eq_false b3, decide_eq_false b4]
  clear hres b1 b2 b3 b4
  refine Stop.fact (ac41 _) rfl rfl (by simp only [wx, Nat.reduceAdd, Nat.reduceEqDiff, Nat.reduceLT, Nat.reduceMul, Nat.reduceLeDiff, Int.reduceEq, ↓reduceIte, reduceCtorEq, ne_eq, implies_true, if_true, if_false, ite_not, Tryd.ntmps25]) (caps := []) (by simp only [wx, Nat.reduceAdd, Nat.reduceEqDiff, Nat.reduceLT, Nat.reduceMul, Nat.reduceLeDiff, Int.reduceEq, ↓reduceIte, reduceCtorEq, ne_eq, implies_true, if_true, if_false, ite_not]) en_41 rfl ?_
  refine Ev.sound 100 _ _ _ _ ?_
  simp only [wx, Nat.reduceAdd, Nat.reduceEqDiff, Nat.reduceLT, Nat.reduceMul, Nat.reduceLeDiff, Int.reduceEq, ↓reduceIte, reduceCtorEq, ne_eq, implies_true, if_true, if_false, ite_not, Tryd.ntmps25, vstrs]
  refine Stop.round (σ := Nat) (fun k => words.length - k) (fun k => [(0, .str s), (3, kslice 1 (words.map fun s => [.str s])), (4, .int .i64 k)]) (fun k h1 => k ≤ words.length ∧ h1 = h ∧ kwB s = (words.drop k).any fun w => decide (w = s)) 0 ⟨Nat.zero_le _, rfl, rfl⟩ ?_ ?_
  · simp only [wx, Nat.reduceAdd, Nat.reduceEqDiff, Nat.reduceLT, Nat.reduceMul, Nat.reduceLeDiff, Int.reduceEq, ↓reduceIte, reduceCtorEq, ne_eq, implies_true, if_true, if_false, ite_not, Int.ofNat_zero, Int.natCast_zero]
  rintro k _ ⟨hk, rfl, hp⟩ next
  refine Ev.sound 100 _ _ _ _ ?_
  have hlw : words.length = 23 := rfl
  rcases turn words k hk with ⟨y, hy, hmem, hlt, c1, c2⟩ | ⟨rfl, c1⟩
  · have w1 := wrap_succ k (by omega)
    rw [drop_turn hy, List.any_cons] at hp
    simp only [wx, Nat.reduceAdd, Nat.reduceEqDiff, Nat.reduceLT, Nat.reduceMul, Nat.reduceLeDiff, Int.reduceEq, ↓reduceIte, reduceCtorEq, ne_eq, implies_true, if_true, if_false, ite_not, Tryd.ntmps25, c1, c2, List.length_map, getD_map (fun s => [AV.str s]) hy, Bool.true_eq_false, w1]
    refine ite_intro (fun hq => ?_) (fun hq => ?_)
    · have hn : nameB s = false := by rw [hnm, hp, decide_eq_true hq]; simp
      exact Leave.pure rfl (by simp only [wx, Nat.reduceAdd, Nat.reduceEqDiff, Nat.reduceLT, Nat.reduceMul, Nat.reduceLeDiff, Int.reduceEq, ↓reduceIte, reduceCtorEq, ne_eq, implies_true, if_true, if_false, ite_not, hn]) (Ext.refl _) rfl
    · rw [decide_eq_false hq] at hp
      exact next (k + 1) _ _ (by omega) ⟨hlt, rfl, by simpa using hp⟩ (by simp only [wx, Nat.reduceAdd, Nat.reduceEqDiff, Nat.reduceLT, Nat.reduceMul, Nat.reduceLeDiff, Int.reduceEq, ↓reduceIte, reduceCtorEq, ne_eq, implies_true, if_true, if_false, ite_not])
  rw [List.drop_length, List.any_nil] at hp
  clear next
  rw [hp] at hnm
  simp only [wx, Nat.reduceAdd, Nat.reduceEqDiff, Nat.reduceLT, Nat.reduceMul, Nat.reduceLeDiff, Int.reduceEq, ↓reduceIte, reduceCtorEq, ne_eq, implies_true, if_true, if_false, ite_not, Tryd.ntmps25, c1, List.length_map, Bool.false_eq_true]
  refine Stop.round (σ := Nat) (fun k => s.size - k) (fun k => [(0, .str s), (5, .int .i64 k)]) (fun k h1 => k ≤ s.size ∧ h1 = _ ∧ s.data.toList.all low = (s.data.toList.drop k).all low) 0 ⟨Nat.zero_le _, rfl, rfl⟩ ?_ ?_
  · simp only [wx, Nat.reduceAdd, Nat.reduceEqDiff, Nat.reduceLT, Nat.reduceMul, Nat.reduceLeDiff, Int.reduceEq, ↓reduceIte, reduceCtorEq, ne_eq, implies_true, if_true, if_false, ite_not, Int.ofNat_zero, Int.natCast_zero]
  rintro k _ ⟨hk, rfl, hp⟩ next
  refine Ev.sound 100 _ _ _ _ ?_
  rcases turn s.data.toList k hk with ⟨y, hy, hmem, hlt, c1, c2⟩ | ⟨hkk, c1⟩
  · rw [hlen] at hlt c1
    have w1 := wrap_succ k (by omega)
    rw [drop_turn hy, List.all_cons] at hp
    have hg : s.data.toList.getD ((k : Int).toNat) 0 = y := by simp [List.getD, hy]
    by_cases a1 : (y.toNat : Int) < 97
    · simp only [wx, Nat.reduceAdd, Nat.reduceEqDiff, Nat.reduceLT, Nat.reduceMul, Nat.reduceLeDiff, Int.reduceEq, ↓reduceIte, reduceCtorEq, ne_eq, implies_true, if_true, if_false, ite_not, Tryd.ntmps25, c1, c2, hg, Bool.true_eq_false, w1, a1]
      have hb : low y = false := by unfold low; simp; omega
      have hn : nameB s = false := by rw [hnm, hp, hb]; simp
      exact Leave.pure rfl (by simp only [wx, Nat.reduceAdd, Nat.reduceEqDiff, Nat.reduceLT, Nat.reduceMul, Nat.reduceLeDiff, Int.reduceEq, ↓reduceIte, reduceCtorEq, ne_eq, implies_true, if_true, if_false, ite_not, hn]) (Ext.refl _) rfl
    · by_cases a2 : (122 : Int) < y.toNat
      · simp only [wx, Nat.reduceAdd, Nat.reduceEqDiff, Nat.reduceLT, Nat.reduceMul, Nat.reduceLeDiff, Int.reduceEq, ↓reduceIte, reduceCtorEq, ne_eq, implies_true, if_true, if_false, ite_not, Tryd.ntmps25, c1, c2, hg, Bool.true_eq_false, Bool.false_eq_true, w1, a1, a2]
        have hb : low y = false := by unfold low; simp; omega
        have hn : nameB s = false := by rw [hnm, hp, hb]; simp
        exact Leave.pure rfl (by simp only [wx, Nat.reduceAdd, Nat.reduceEqDiff, Nat.reduceLT, Nat.reduceMul, Nat.reduceLeDiff, Int.reduceEq, ↓reduceIte, reduceCtorEq, ne_eq, implies_true, if_true, if_false, ite_not, hn]) (Ext.refl _) rfl
      · simp only [wx, Nat.reduceAdd, Nat.reduceEqDiff, Nat.reduceLT, Nat.reduceMul, Nat.reduceLeDiff, Int.reduceEq, ↓reduceIte, reduceCtorEq, ne_eq, implies_true, if_true, if_false, ite_not, Tryd.ntmps25, c1, c2, hg, Bool.true_eq_false, Bool.false_eq_true, w1, a1, a2]
        have hb : low y = true := by unfold low; simp; omega
        exact next (k + 1) _ _ (by omega) ⟨hlt, rfl, by rw [hp, hb]; simp⟩ (by simp only [wx, Nat.reduceAdd, Nat.reduceEqDiff, Nat.reduceLT, Nat.reduceMul, Nat.reduceLeDiff, Int.reduceEq, ↓reduceIte, reduceCtorEq, ne_eq, implies_true, if_true, if_false, ite_not])
  · rw [hkk, List.drop_length, List.all_nil] at hp
    rw [hlen] at c1 hkk
    subst hkk
    simp only [wx, Nat.reduceAdd, Nat.reduceEqDiff, Nat.reduceLT, Nat.reduceMul, Nat.reduceLeDiff, Int.reduceEq, ↓reduceIte, reduceCtorEq, ne_eq, implies_true, if_true, if_false, ite_not, Tryd.ntmps25, c1, Bool.false_eq_true]
    have hn : nameB s = true := by rw [hnm, hp]; rfl
    exact Leave.pure rfl (by simp only [wx, Nat.reduceAdd, Nat.reduceEqDiff, Nat.reduceLT, Nat.reduceMul, Nat.reduceLeDiff, Int.reduceEq, ↓reduceIte, reduceCtorEq, ne_eq, implies_true, if_true, if_false, ite_not, hn]) (Ext.refl _) rfl
end Go.Proofs.YtajknofacjiddaaDoor.Abs

/- The form of a tree. -/
namespace Go.Proofs.YtajknofacjiddaaDoor.Abs
open Go Go.RowKit
set_option linter.unusedSimpArgs false
set_option linter.unusedVariables false
mutual
def Node.names : Node → Prop
  | .mk _ _ s ks => s.size ≤ 1099511627776 ∧ namesL ks
def namesL : List Node → Prop
  | [] => True
  | x :: xs => x.names ∧ namesL xs
end
theorem namesL_mem {ks : List Node} (h : namesL ks) : ∀ y ∈ ks, y.names := by
  induction ks with
  | nil => intro y hy; cases hy
  | cons x xs ih =>
    intro y hy
    cases hy with
    | head => exact h.1
    | tail _ hy => exact ih h.2 y hy
structure Node.wf (x : Node) : Prop where
  size : x.size ≤ 1048576
  names : x.names
theorem Node.wf.name {x : Node} (h : x.wf) : x.name.size ≤ 1099511627776 := by cases x; exact h.names.1
theorem Node.wf.kid {x y : Node} (h : x.wf) (hy : y ∈ x.kids) : y.wf := ⟨by have := kid_size hy; have := h.size; omega, by cases x; exact namesL_mem h.names.2 y hy⟩
theorem Node.wf.len {x : Node} (h : x.wf) : x.kids.length ≤ 1048576 := by have := kids_size x; have := h.size; omega
/-- How many children a kind wants; none: there is no such kind. -/
def wantKids (k : Int) (n : Nat) : Option Nat :=
  if k = 80 then some 0 else if k = 81 then some 0 else if k = 82 then some 2 else if k = 83 then some 3 else if k = 84 then some 2 else if k = 85 then some n else
  if k = 86 then some 0 else if k = 87 then some 2 else if k = 88 then some 1 else if k = 89 then some 1 else if k = 90 then some 1 else none
def fieldsB (x : Node) : Bool :=
  if x.kind = 80 then decide (0 ≤ x.num) && decide (x.name = ⟨#[]⟩) else
  if x.kind = 82 then decide (8 ≤ x.num) && decide (x.num ≤ 23) && decide (x.name = ⟨#[]⟩) else
  if x.kind = 84 then decide (x.num = 0) && nameB x.name else
  if x.kind = 81 ∨ x.kind = 85 then decide (x.num = 0) else decide (x.num = 0) && decide (x.name = ⟨#[]⟩)
def nodeB (x : Node) : Bool := decide (wantKids x.kind x.kids.length = some x.kids.length) && fieldsB x
mutual
def formB : Node → Bool
  | .mk k n s ks => nodeB (.mk k n s ks) && formL ks
def formL : List Node → Bool
  | [] => true
  | x :: xs => formB x && formL xs
end
theorem formL_eq (ks : List Node) : formL ks = ks.all formB := by
  induction ks with
  | nil => rfl
  | cons x xs ih => simp only [formL, List.all_cons, ih]
theorem formB_eq (x : Node) : formB x = (nodeB x && x.kids.all formB) := by
  cases x; rw [← formL_eq]; rfl
end Go.Proofs.YtajknofacjiddaaDoor.Abs

/- form -/
namespace Go.Proofs.YtajknofacjiddaaDoor.Abs
open Go Go.RowKit
set_option linter.unusedSimpArgs false
set_option linter.unusedVariables false
set_option maxHeartbeats 4000000
set_option maxRecDepth 100000
/-- fun.form answers as the specification at this tree, over every heap. -/
def FormAt (x : Node) : Prop := ∀ h : AHeap, AC sd 32 [.agg x.enc] h (Pure1 (.bool (formB x)) h)
theorem ac49 (x : Node) (hf : FormAt x) (h : AHeap) : AC sd 49 [.agg x.enc] h (Pure1 (.bool (!formB x)) h) := by
  refine AC.pure Tryd.func49 rfl Tryd.ntmps49 (by show 1 ≤ 6; decide) ?_
  refine Ev.sound 100 _ _ _ _ ?_
  simp only [argFr, enc_eq]
  simp only [wx, Nat.reduceAdd, Nat.reduceEqDiff, Nat.reduceLT, Nat.reduceMul, Nat.reduceLeDiff, Int.reduceEq, ↓reduceIte, reduceCtorEq, ne_eq, implies_true, if_true, if_false, ite_not, Tryd.ntmps49]
  refine Stop.fact (hf _) rfl rfl (by simp only [wx, Nat.reduceAdd, Nat.reduceEqDiff, Nat.reduceLT, Nat.reduceMul, Nat.reduceLeDiff, Int.reduceEq, ↓reduceIte, reduceCtorEq, ne_eq, implies_true, if_true, if_false, ite_not, Tryd.ntmps49]) (caps := []) (by simp only [wx, Nat.reduceAdd, Nat.reduceEqDiff, Nat.reduceLT, Nat.reduceMul, Nat.reduceLeDiff, Int.reduceEq, ↓reduceIte, reduceCtorEq, ne_eq, implies_true, if_true, if_false, ite_not]) en_32 (by simp only [wx, Nat.reduceAdd, Nat.reduceEqDiff, Nat.reduceLT, Nat.reduceMul, Nat.reduceLeDiff, Int.reduceEq, ↓reduceIte, reduceCtorEq, ne_eq, implies_true, if_true, if_false, ite_not, enc_eq, fgt_mapenc]) ?_
  refine Ev.sound 100 _ _ _ _ ?_
  simp only [wx, Nat.reduceAdd, Nat.reduceEqDiff, Nat.reduceLT, Nat.reduceMul, Nat.reduceLeDiff, Int.reduceEq, ↓reduceIte, reduceCtorEq, ne_eq, implies_true, if_true, if_false, ite_not, Tryd.ntmps49]
  exact Leave.pure rfl (by simp only [wx, Nat.reduceAdd, Nat.reduceEqDiff, Nat.reduceLT, Nat.reduceMul, Nat.reduceLeDiff, Int.reduceEq, ↓reduceIte, reduceCtorEq, ne_eq, implies_true, if_true, if_false, ite_not]) ((Ext.refl _).alloc _) rfl
theorem ac54 (l : List Node) (hf : ∀ y ∈ l, FormAt y) (hl : l.length ≤ 1048576) (h : AHeap) : AC sd 54 [kslice 4 (l.map Node.enc), .func 49 []] h (Pure1 (.int .i64 (pos (fun y => !formB y) 0 l)) h) := by
  refine AC.pure Tryd.func54 rfl Tryd.ntmps54 (by show 2 ≤ 19; decide) ?_
  refine Ev.sound 100 _ _ _ _ ?_
  simp only [argFr]
  simp only [wx, Nat.reduceAdd, Nat.reduceEqDiff, Nat.reduceLT, Nat.reduceMul, Nat.reduceLeDiff, Int.reduceEq, ↓reduceIte, reduceCtorEq, ne_eq, implies_true, if_true, if_false, ite_not, Tryd.ntmps54]
  refine Stop.round (σ := Nat) (fun k => l.length - k) (fun k => [(0, kslice 4 (l.map Node.enc)), (1, .func 49 []), (7, .int .i64 l.length), (8, .int .i64 k)]) (fun k h1 => k ≤ l.length ∧ h1 = h ∧ pos (fun y => !formB y) 0 l = pos (fun y => !formB y) k (l.drop k)) 0 ⟨Nat.zero_le _, rfl, rfl⟩ ?_ ?_
  · simp only [wx, Nat.reduceAdd, Nat.reduceEqDiff, Nat.reduceLT, Nat.reduceMul, Nat.reduceLeDiff, Int.reduceEq, ↓reduceIte, reduceCtorEq, ne_eq, implies_true, if_true, if_false, ite_not, List.length_map, Int.ofNat_zero, Int.natCast_zero]
  rintro k _ ⟨hk, rfl, hp⟩ next
  refine Ev.sound 100 _ _ _ _ ?_
  rcases turn l k hk with ⟨y, hy, hmem, hlt, c1, c2⟩ | ⟨rfl, c1⟩
  · have w1 := wrap_succ k (by omega)
    rw [drop_turn hy, pos] at hp
    simp only [wx, Nat.reduceAdd, Nat.reduceEqDiff, Nat.reduceLT, Nat.reduceMul, Nat.reduceLeDiff, Int.reduceEq, ↓reduceIte, reduceCtorEq, ne_eq, implies_true, if_true, if_false, ite_not, Tryd.ntmps54, c1, c2, List.length_map, getD_map Node.enc hy, enc_eq y]
    refine Stop.fact (ac49 y (hf y hmem) _) rfl rfl (by simp only [wx, Nat.reduceAdd, Nat.reduceEqDiff, Nat.reduceLT, Nat.reduceMul, Nat.reduceLeDiff, Int.reduceEq, ↓reduceIte, reduceCtorEq, ne_eq, implies_true, if_true, if_false, ite_not, Tryd.ntmps54]) (caps := []) (by simp only [wx, Nat.reduceAdd, Nat.reduceEqDiff, Nat.reduceLT, Nat.reduceMul, Nat.reduceLeDiff, Int.reduceEq, ↓reduceIte, reduceCtorEq, ne_eq, implies_true, if_true, if_false, ite_not]) en_49 (by simp only [wx, Nat.reduceAdd, Nat.reduceEqDiff, Nat.reduceLT, Nat.reduceMul, Nat.reduceLeDiff, Int.reduceEq, ↓reduceIte, reduceCtorEq, ne_eq, implies_true, if_true, if_false, ite_not, enc_eq y, fgt_mapenc]) ?_
    refine Ev.sound 100 _ _ _ _ ?_
    simp only [wx, Nat.reduceAdd, Nat.reduceEqDiff, Nat.reduceLT, Nat.reduceMul, Nat.reduceLeDiff, Int.reduceEq, ↓reduceIte, reduceCtorEq, ne_eq, implies_true, if_true, if_false, ite_not, Tryd.ntmps54, Bool.true_eq_false, w1]
    refine ite_intro (fun hq => ?_) (fun hq => ?_)
    · rw [if_pos (by simpa using hq)] at hp
      exact Leave.pure rfl (by simp only [wx, Nat.reduceAdd, Nat.reduceEqDiff, Nat.reduceLT, Nat.reduceMul, Nat.reduceLeDiff, Int.reduceEq, ↓reduceIte, reduceCtorEq, ne_eq, implies_true, if_true, if_false, ite_not, hp]) (Ext.refl _) rfl
    · rw [if_neg (by simpa using hq)] at hp
      exact next (k + 1) _ _ (by omega) ⟨hlt, rfl, hp⟩ (by simp only [wx, Nat.reduceAdd, Nat.reduceEqDiff, Nat.reduceLT, Nat.reduceMul, Nat.reduceLeDiff, Int.reduceEq, ↓reduceIte, reduceCtorEq, ne_eq, implies_true, if_true, if_false, ite_not])
  · rw [List.drop_length, pos] at hp
    simp only [wx, Nat.reduceAdd, Nat.reduceEqDiff, Nat.reduceLT, Nat.reduceMul, Nat.reduceLeDiff, Int.reduceEq, ↓reduceIte, reduceCtorEq, ne_eq, implies_true, if_true, if_false, ite_not, Tryd.ntmps54, c1, Bool.false_eq_true]
    exact Leave.pure rfl (by simp only [wx, Nat.reduceAdd, Nat.reduceEqDiff, Nat.reduceLT, Nat.reduceMul, Nat.reduceLeDiff, Int.reduceEq, ↓reduceIte, reduceCtorEq, ne_eq, implies_true, if_true, if_false, ite_not, hp]) (Ext.refl _) rfl
theorem ac48 (l : List Node) (hf : ∀ y ∈ l, FormAt y) (hl : l.length ≤ 1048576) (h : AHeap) : AC sd 48 [kslice 4 (l.map Node.enc), .func 49 []] h (Pure1 (.bool (!l.all formB)) h) := by
  refine AC.pure Tryd.func48 rfl Tryd.ntmps48 (by show 2 ≤ 9; decide) ?_
  refine Ev.sound 100 _ _ _ _ ?_
  simp only [argFr]
  simp only [wx, Nat.reduceAdd, Nat.reduceEqDiff, Nat.reduceLT, Nat.reduceMul, Nat.reduceLeDiff, Int.reduceEq, ↓reduceIte, reduceCtorEq, ne_eq, implies_true, if_true, if_false, ite_not, Tryd.ntmps48]
  refine Stop.fact (ac54 l hf hl _) rfl rfl (by simp only [wx, Nat.reduceAdd, Nat.reduceEqDiff, Nat.reduceLT, Nat.reduceMul, Nat.reduceLeDiff, Int.reduceEq, ↓reduceIte, reduceCtorEq, ne_eq, implies_true, if_true, if_false, ite_not, Tryd.ntmps48]) (caps := []) (by simp only [wx, Nat.reduceAdd, Nat.reduceEqDiff, Nat.reduceLT, Nat.reduceMul, Nat.reduceLeDiff, Int.reduceEq, ↓reduceIte, reduceCtorEq, ne_eq, implies_true, if_true, if_false, ite_not]) en_54 (by simp only [wx, Nat.reduceAdd, Nat.reduceEqDiff, Nat.reduceLT, Nat.reduceMul, Nat.reduceLeDiff, Int.reduceEq, ↓reduceIte, reduceCtorEq, ne_eq, implies_true, if_true, if_false, ite_not, fgt_mapenc]) ?_
  refine Ev.sound 100 _ _ _ _ ?_
  simp only [wx, Nat.reduceAdd, Nat.reduceEqDiff, Nat.reduceLT, Nat.reduceMul, Nat.reduceLeDiff, Int.reduceEq, ↓reduceIte, reduceCtorEq, ne_eq, implies_true, if_true, if_false, ite_not, Tryd.ntmps48, pos_any]
  exact Leave.pure rfl (by simp only [wx, Nat.reduceAdd, Nat.reduceEqDiff, Nat.reduceLT, Nat.reduceMul, Nat.reduceLeDiff, Int.reduceEq, ↓reduceIte, reduceCtorEq, ne_eq, implies_true, if_true, if_false, ite_not, List.any_eq_not_all_not, Bool.not_not]) (Ext.refl _) rfl
theorem look_kids (k : Int) (n : Nat) : lookM (some (.map 11 [⟨0, .int .u8 80, .int .i64 0⟩, ⟨1, .int .u8 81, .int .i64 0⟩, ⟨2, .int .u8 82, .int .i64 2⟩, ⟨3, .int .u8 83, .int .i64 3⟩, ⟨4, .int .u8 84, .int .i64 2⟩, ⟨5, .int .u8 85, .int .i64 n⟩, ⟨6, .int .u8 86, .int .i64 0⟩, ⟨7, .int .u8 87, .int .i64 2⟩, ⟨8, .int .u8 88, .int .i64 1⟩, ⟨9, .int .u8 89, .int .i64 1⟩, ⟨10, .int .u8 90, .int .i64 1⟩])) (.int .u8 k) true (.int .i64 0) = some (.tup [.int .i64 ((wantKids k n).getD 0 : Nat), .bool (wantKids k n).isSome]) := by
  simp only [wmp, wlk]
  unfold wantKids
  by_cases h80 : k = 80
  · subst h80; rfl
  by_cases h81 : k = 81
  · subst h81; rfl
  by_cases h82 : k = 82
  · subst h82; rfl
  by_cases h83 : k = 83
  · subst h83; rfl
  by_cases h84 : k = 84
  · subst h84; rfl
  by_cases h85 : k = 85
  · subst h85; rfl
  by_cases h86 : k = 86
  · subst h86; rfl
  by_cases h87 : k = 87
  · subst h87; rfl
  by_cases h88 : k = 88
  · subst h88; rfl
  by_cases h89 : k = 89
  · subst h89; rfl
  by_cases h90 : k = 90
  · subst h90; rfl
  simp only [h80, h81, h82, h83, h84, h85, h86, h87, h88, h89, h90, if_false, decide_false, findAt_f, afind_cons, afind_nil, akeyEq_int, lookAt_n, okTup_t, Option.isSome_none, Option.getD_none]
  rfl
theorem ac32 (x : Node) : x.wf → FormAt x := by
  intro hw h
  have hlen := hw.len
  have hf : ∀ y ∈ x.kids, FormAt y := fun y hy => ac32 y (hw.kid hy)
  refine AC.pure Tryd.func32 rfl Tryd.ntmps32 (by show 1 ≤ 85; decide) ?_
  refine Ev.sound 37 _ _ _ _ ?_
  simp only [argFr, enc_eq]
  have hl := look_kids x.kind x.kids.length
  simp only [wx, Nat.reduceAdd, Nat.reduceEqDiff, Nat.reduceLT, Nat.reduceMul, Nat.reduceLeDiff, Int.reduceEq, ↓reduceIte, reduceCtorEq, ne_eq, implies_true, if_true, if_false, ite_not, Tryd.ntmps32, List.length_map, Bool.true_eq_false, Bool.false_eq_true, wmp, hl]
  refine Ev.sound 150 _ _ _ _ ?_
  have hfe := formB_eq x
  unfold nodeB at hfe
  rcases hwk : wantKids x.kind x.kids.length with _ | m
  · rw [hwk] at hfe hl
    have hn : formB x = false := by rw [hfe]; rfl
    simp only [wx, Nat.reduceAdd, Nat.reduceEqDiff, Nat.reduceLT, Nat.reduceMul, Nat.reduceLeDiff, Int.reduceEq, ↓reduceIte, reduceCtorEq, ne_eq, implies_true, if_true, if_false, ite_not, Tryd.ntmps32, List.length_map, Bool.true_eq_false, Bool.false_eq_true, Option.isSome_none, Option.getD_none]
    exact Leave.pure rfl (by simp only [wx, Nat.reduceAdd, Nat.reduceEqDiff, Nat.reduceLT, Nat.reduceMul, Nat.reduceLeDiff, Int.reduceEq, ↓reduceIte, reduceCtorEq, ne_eq, implies_true, if_true, if_false, ite_not, hn]) (((Ext.refl _).alloc _).alloc _) rfl
  rw [hwk] at hfe hl
  by_cases hm : m = x.kids.length
  case neg =>
    have hm1 : decide ((x.kids.length : Int) = (m : Int)) = false := decide_eq_false (by omega)
    have hn : formB x = false := by rw [hfe, decide_eq_false (by simpa using hm)]; rfl
    simp only [wx, Nat.reduceAdd, Nat.reduceEqDiff, Nat.reduceLT, Nat.reduceMul, Nat.reduceLeDiff, Int.reduceEq, ↓reduceIte, reduceCtorEq, ne_eq, implies_true, if_true, if_false, ite_not, Tryd.ntmps32, List.length_map, Bool.true_eq_false, Bool.false_eq_true, Option.isSome_some, Option.getD_some, hm1]
    exact Leave.pure rfl (by simp only [wx, Nat.reduceAdd, Nat.reduceEqDiff, Nat.reduceLT, Nat.reduceMul, Nat.reduceLeDiff, Int.reduceEq, ↓reduceIte, reduceCtorEq, ne_eq, implies_true, if_true, if_false, ite_not, hn]) (((Ext.refl _).alloc _).alloc _) rfl
  subst hm
  rw [decide_eq_true rfl, Bool.true_and] at hfe
  have hm1 : decide ((x.kids.length : Int) = (x.kids.length : Int)) = true := decide_eq_true rfl
  simp only [Option.isSome_some, Option.getD_some]
  clear hl hwk
  by_cases k80 : x.kind = 80
  case pos =>
    by_cases a0 : 0 ≤ x.num
    case neg =>
      have hn : formB x = false := by rw [hfe]; unfold fieldsB; simp [k80, a0]
      simp only [wx, Nat.reduceAdd, Nat.reduceEqDiff, Nat.reduceLT, Nat.reduceMul, Nat.reduceLeDiff, Int.reduceEq, ↓reduceIte, reduceCtorEq, ne_eq, implies_true, if_true, if_false, ite_not, Tryd.ntmps32, List.length_map, Bool.true_eq_false, Bool.false_eq_true, hm1, decide_eq_true k80, decide_eq_false a0]
      exact Leave.pure rfl (by simp only [wx, Nat.reduceAdd, Nat.reduceEqDiff, Nat.reduceLT, Nat.reduceMul, Nat.reduceLeDiff, Int.reduceEq, ↓reduceIte, reduceCtorEq, ne_eq, implies_true, if_true, if_false, ite_not, hn]) (((Ext.refl _).alloc _).alloc _) rfl
    by_cases a1 : x.name = ⟨#[]⟩
    case neg =>
      have hn : formB x = false := by rw [hfe]; unfold fieldsB; simp [k80, a1]
      simp only [wx, Nat.reduceAdd, Nat.reduceEqDiff, Nat.reduceLT, Nat.reduceMul, Nat.reduceLeDiff, Int.reduceEq, ↓reduceIte, reduceCtorEq, ne_eq, implies_true, if_true, if_false, ite_not, Tryd.ntmps32, List.length_map, Bool.true_eq_false, Bool.false_eq_true, hm1, decide_eq_true k80, decide_eq_true a0, decide_eq_false a1]
      exact Leave.pure rfl (by simp only [wx, Nat.reduceAdd, Nat.reduceEqDiff, Nat.reduceLT, Nat.reduceMul, Nat.reduceLeDiff, Int.reduceEq, ↓reduceIte, reduceCtorEq, ne_eq, implies_true, if_true, if_false, ite_not, hn]) (((Ext.refl _).alloc _).alloc _) rfl
    simp only [wx, Nat.reduceAdd, Nat.reduceEqDiff, Nat.reduceLT, Nat.reduceMul, Nat.reduceLeDiff, Int.reduceEq, ↓reduceIte, reduceCtorEq, ne_eq, implies_true, if_true, if_false, ite_not, Tryd.ntmps32, List.length_map, Bool.true_eq_false, Bool.false_eq_true, hm1, decide_eq_true k80, decide_eq_true a0, decide_eq_true a1]
    have hn : formB x = x.kids.all formB := by rw [hfe]; unfold fieldsB; simp [k80, a0, a1]
    refine Stop.fact (ac48 x.kids hf hlen _) rfl (by simp only [wx, Nat.reduceAdd, Nat.reduceEqDiff, Nat.reduceLT, Nat.reduceMul, Nat.reduceLeDiff, Int.reduceEq, ↓reduceIte, reduceCtorEq, ne_eq, implies_true, if_true, if_false, ite_not, awanted]; rfl) (by simp only [wx, Nat.reduceAdd, Nat.reduceEqDiff, Nat.reduceLT, Nat.reduceMul, Nat.reduceLeDiff, Int.reduceEq, ↓reduceIte, reduceCtorEq, ne_eq, implies_true, if_true, if_false, ite_not, Tryd.ntmps32]) (caps := []) (by simp only [wx, Nat.reduceAdd, Nat.reduceEqDiff, Nat.reduceLT, Nat.reduceMul, Nat.reduceLeDiff, Int.reduceEq, ↓reduceIte, reduceCtorEq, ne_eq, implies_true, if_true, if_false, ite_not]) en_48 (by simp only [wx, Nat.reduceAdd, Nat.reduceEqDiff, Nat.reduceLT, Nat.reduceMul, Nat.reduceLeDiff, Int.reduceEq, ↓reduceIte, reduceCtorEq, ne_eq, implies_true, if_true, if_false, ite_not, fgt_mapenc, fgt_func]) ?_
    refine Ev.sound 100 _ _ _ _ ?_
    simp only [wx, Nat.reduceAdd, Nat.reduceEqDiff, Nat.reduceLT, Nat.reduceMul, Nat.reduceLeDiff, Int.reduceEq, ↓reduceIte, reduceCtorEq, ne_eq, implies_true, if_true, if_false, ite_not, Tryd.ntmps32, List.length_map, Bool.true_eq_false, Bool.false_eq_true, Bool.not_not]
    exact Leave.pure rfl (by simp only [wx, Nat.reduceAdd, Nat.reduceEqDiff, Nat.reduceLT, Nat.reduceMul, Nat.reduceLeDiff, Int.reduceEq, ↓reduceIte, reduceCtorEq, ne_eq, implies_true, if_true, if_false, ite_not, hn]) (((Ext.refl _).alloc _).alloc _) rfl
  by_cases k82 : x.kind = 82
  case pos =>
    by_cases a0 : 8 ≤ x.num
    case neg =>
      have hn : formB x = false := by rw [hfe]; unfold fieldsB; simp [k80, k82, a0]
      simp only [wx, Nat.reduceAdd, Nat.reduceEqDiff, Nat.reduceLT, Nat.reduceMul, Nat.reduceLeDiff, Int.reduceEq, ↓reduceIte, reduceCtorEq, ne_eq, implies_true, if_true, if_false, ite_not, Tryd.ntmps32, List.length_map, Bool.true_eq_false, Bool.false_eq_true, hm1, decide_eq_false k80, decide_eq_true k82, decide_eq_false a0]
      exact Leave.pure rfl (by simp only [wx, Nat.reduceAdd, Nat.reduceEqDiff, Nat.reduceLT, Nat.reduceMul, Nat.reduceLeDiff, Int.reduceEq, ↓reduceIte, reduceCtorEq, ne_eq, implies_true, if_true, if_false, ite_not, hn]) (((Ext.refl _).alloc _).alloc _) rfl
    by_cases a1 : x.num ≤ 23
    case neg =>
      have hn : formB x = false := by rw [hfe]; unfold fieldsB; simp [k80, k82, a1]
      simp only [wx, Nat.reduceAdd, Nat.reduceEqDiff, Nat.reduceLT, Nat.reduceMul, Nat.reduceLeDiff, Int.reduceEq, ↓reduceIte, reduceCtorEq, ne_eq, implies_true, if_true, if_false, ite_not, Tryd.ntmps32, List.length_map, Bool.true_eq_false, Bool.false_eq_true, hm1, decide_eq_false k80, decide_eq_true k82, decide_eq_true a0, decide_eq_false a1]
      exact Leave.pure rfl (by simp only [wx, Nat.reduceAdd, Nat.reduceEqDiff, Nat.reduceLT, Nat.reduceMul, Nat.reduceLeDiff, Int.reduceEq, ↓reduceIte, reduceCtorEq, ne_eq, implies_true, if_true, if_false, ite_not, hn]) (((Ext.refl _).alloc _).alloc _) rfl
    by_cases a2 : x.name = ⟨#[]⟩
    case neg =>
      have hn : formB x = false := by rw [hfe]; unfold fieldsB; simp [k80, k82, a2]
      simp only [wx, Nat.reduceAdd, Nat.reduceEqDiff, Nat.reduceLT, Nat.reduceMul, Nat.reduceLeDiff, Int.reduceEq, ↓reduceIte, reduceCtorEq, ne_eq, implies_true, if_true, if_false, ite_not, Tryd.ntmps32, List.length_map, Bool.true_eq_false, Bool.false_eq_true, hm1, decide_eq_false k80, decide_eq_true k82, decide_eq_true a0, decide_eq_true a1, decide_eq_false a2]
      exact Leave.pure rfl (by simp only [wx, Nat.reduceAdd, Nat.reduceEqDiff, Nat.reduceLT, Nat.reduceMul, Nat.reduceLeDiff, Int.reduceEq, ↓reduceIte, reduceCtorEq, ne_eq, implies_true, if_true, if_false, ite_not, hn]) (((Ext.refl _).alloc _).alloc _) rfl
    simp only [wx, Nat.reduceAdd, Nat.reduceEqDiff, Nat.reduceLT, Nat.reduceMul, Nat.reduceLeDiff, Int.reduceEq, ↓reduceIte, reduceCtorEq, ne_eq, implies_true, if_true, if_false, ite_not, Tryd.ntmps32, List.length_map, Bool.true_eq_false, Bool.false_eq_true, hm1, decide_eq_false k80, decide_eq_true k82, decide_eq_true a0, decide_eq_true a1, decide_eq_true a2]
    have hn : formB x = x.kids.all formB := by rw [hfe]; unfold fieldsB; simp [k80, k82, a0, a1, a2]
    refine Stop.fact (ac48 x.kids hf hlen _) rfl (by simp only [wx, Nat.reduceAdd, Nat.reduceEqDiff, Nat.reduceLT, Nat.reduceMul, Nat.reduceLeDiff, Int.reduceEq, ↓reduceIte, reduceCtorEq, ne_eq, implies_true, if_true, if_false, ite_not, awanted]; rfl) (by simp only [wx, Nat.reduceAdd, Nat.reduceEqDiff, Nat.reduceLT, Nat.reduceMul, Nat.reduceLeDiff, Int.reduceEq, ↓reduceIte, reduceCtorEq, ne_eq, implies_true, if_true, if_false, ite_not, Tryd.ntmps32]) (caps := []) (by simp only [wx, Nat.reduceAdd, Nat.reduceEqDiff, Nat.reduceLT, Nat.reduceMul, Nat.reduceLeDiff, Int.reduceEq, ↓reduceIte, reduceCtorEq, ne_eq, implies_true, if_true, if_false, ite_not]) en_48 (by simp only [wx, Nat.reduceAdd, Nat.reduceEqDiff, Nat.reduceLT, Nat.reduceMul, Nat.reduceLeDiff, Int.reduceEq, ↓reduceIte, reduceCtorEq, ne_eq, implies_true, if_true, if_false, ite_not, fgt_mapenc, fgt_func]) ?_
    refine Ev.sound 100 _ _ _ _ ?_
    simp only [wx, Nat.reduceAdd, Nat.reduceEqDiff, Nat.reduceLT, Nat.reduceMul, Nat.reduceLeDiff, Int.reduceEq, ↓reduceIte, reduceCtorEq, ne_eq, implies_true, if_true, if_false, ite_not, Tryd.ntmps32, List.length_map, Bool.true_eq_false, Bool.false_eq_true, Bool.not_not]
    exact Leave.pure rfl (by simp only [wx, Nat.reduceAdd, Nat.reduceEqDiff, Nat.reduceLT, Nat.reduceMul, Nat.reduceLeDiff, Int.reduceEq, ↓reduceIte, reduceCtorEq, ne_eq, implies_true, if_true, if_false, ite_not, hn]) (((Ext.refl _).alloc _).alloc _) rfl
  by_cases k81 : x.kind = 81
  case pos =>
    by_cases a0 : x.num = 0
    case neg =>
      have hn : formB x = false := by rw [hfe]; unfold fieldsB; simp [k80, k82, k81, a0]
      simp only [wx, Nat.reduceAdd, Nat.reduceEqDiff, Nat.reduceLT, Nat.reduceMul, Nat.reduceLeDiff, Int.reduceEq, ↓reduceIte, reduceCtorEq, ne_eq, implies_true, if_true, if_false, ite_not, Tryd.ntmps32, List.length_map, Bool.true_eq_false, Bool.false_eq_true, hm1, decide_eq_false k80, decide_eq_false k82, decide_eq_true k81, decide_eq_false a0]
      exact Leave.pure rfl (by simp only [wx, Nat.reduceAdd, Nat.reduceEqDiff, Nat.reduceLT, Nat.reduceMul, Nat.reduceLeDiff, Int.reduceEq, ↓reduceIte, reduceCtorEq, ne_eq, implies_true, if_true, if_false, ite_not, hn]) (((Ext.refl _).alloc _).alloc _) rfl
    simp only [wx, Nat.reduceAdd, Nat.reduceEqDiff, Nat.reduceLT, Nat.reduceMul, Nat.reduceLeDiff, Int.reduceEq, ↓reduceIte, reduceCtorEq, ne_eq, implies_true, if_true, if_false, ite_not, Tryd.ntmps32, List.length_map, Bool.true_eq_false, Bool.false_eq_true, hm1, decide_eq_false k80, decide_eq_false k82, decide_eq_true k81, decide_eq_true a0]
    have hn : formB x = x.kids.all formB := by rw [hfe]; unfold fieldsB; simp [k80, k82, k81, a0]
    refine Stop.fact (ac48 x.kids hf hlen _) rfl (by simp only [wx, Nat.reduceAdd, Nat.reduceEqDiff, Nat.reduceLT, Nat.reduceMul, Nat.reduceLeDiff, Int.reduceEq, ↓reduceIte, reduceCtorEq, ne_eq, implies_true, if_true, if_false, ite_not, awanted]; rfl) (by simp only [wx, Nat.reduceAdd, Nat.reduceEqDiff, Nat.reduceLT, Nat.reduceMul, Nat.reduceLeDiff, Int.reduceEq, ↓reduceIte, reduceCtorEq, ne_eq, implies_true, if_true, if_false, ite_not, Tryd.ntmps32]) (caps := []) (by simp only [wx, Nat.reduceAdd, Nat.reduceEqDiff, Nat.reduceLT, Nat.reduceMul, Nat.reduceLeDiff, Int.reduceEq, ↓reduceIte, reduceCtorEq, ne_eq, implies_true, if_true, if_false, ite_not]) en_48 (by simp only [wx, Nat.reduceAdd, Nat.reduceEqDiff, Nat.reduceLT, Nat.reduceMul, Nat.reduceLeDiff, Int.reduceEq, ↓reduceIte, reduceCtorEq, ne_eq, implies_true, if_true, if_false, ite_not, fgt_mapenc, fgt_func]) ?_
    refine Ev.sound 100 _ _ _ _ ?_
    simp only [wx, Nat.reduceAdd, Nat.reduceEqDiff, Nat.reduceLT, Nat.reduceMul, Nat.reduceLeDiff, Int.reduceEq, ↓reduceIte, reduceCtorEq, ne_eq, implies_true, if_true, if_false, ite_not, Tryd.ntmps32, List.length_map, Bool.true_eq_false, Bool.false_eq_true, Bool.not_not]
    exact Leave.pure rfl (by simp only [wx, Nat.reduceAdd, Nat.reduceEqDiff, Nat.reduceLT, Nat.reduceMul, Nat.reduceLeDiff, Int.reduceEq, ↓reduceIte, reduceCtorEq, ne_eq, implies_true, if_true, if_false, ite_not, hn]) (((Ext.refl _).alloc _).alloc _) rfl
  by_cases k85 : x.kind = 85
  case pos =>
    by_cases a0 : x.num = 0
    case neg =>
      have hn : formB x = false := by rw [hfe]; unfold fieldsB; simp [k80, k82, k81, k85, a0]
      simp only [wx, Nat.reduceAdd, Nat.reduceEqDiff, Nat.reduceLT, Nat.reduceMul, Nat.reduceLeDiff, Int.reduceEq, ↓reduceIte, reduceCtorEq, ne_eq, implies_true, if_true, if_false, ite_not, Tryd.ntmps32, List.length_map, Bool.true_eq_false, Bool.false_eq_true, hm1, decide_eq_false k80, decide_eq_false k82, decide_eq_false k81, decide_eq_true k85, decide_eq_false a0]
      exact Leave.pure rfl (by simp only [wx, Nat.reduceAdd, Nat.reduceEqDiff, Nat.reduceLT, Nat.reduceMul, Nat.reduceLeDiff, Int.reduceEq, ↓reduceIte, reduceCtorEq, ne_eq, implies_true, if_true, if_false, ite_not, hn]) (((Ext.refl _).alloc _).alloc _) rfl
    simp only [wx, Nat.reduceAdd, Nat.reduceEqDiff, Nat.reduceLT, Nat.reduceMul, Nat.reduceLeDiff, Int.reduceEq, ↓reduceIte, reduceCtorEq, ne_eq, implies_true, if_true, if_false, ite_not, Tryd.ntmps32, List.length_map, Bool.true_eq_false, Bool.false_eq_true, hm1, decide_eq_false k80, decide_eq_false k82, decide_eq_false k81, decide_eq_true k85, decide_eq_true a0]
    have hn : formB x = x.kids.all formB := by rw [hfe]; unfold fieldsB; simp [k80, k82, k81, k85, a0]
    refine Stop.fact (ac48 x.kids hf hlen _) rfl (by simp only [wx, Nat.reduceAdd, Nat.reduceEqDiff, Nat.reduceLT, Nat.reduceMul, Nat.reduceLeDiff, Int.reduceEq, ↓reduceIte, reduceCtorEq, ne_eq, implies_true, if_true, if_false, ite_not, awanted]; rfl) (by simp only [wx, Nat.reduceAdd, Nat.reduceEqDiff, Nat.reduceLT, Nat.reduceMul, Nat.reduceLeDiff, Int.reduceEq, ↓reduceIte, reduceCtorEq, ne_eq, implies_true, if_true, if_false, ite_not, Tryd.ntmps32]) (caps := []) (by simp only [wx, Nat.reduceAdd, Nat.reduceEqDiff, Nat.reduceLT, Nat.reduceMul, Nat.reduceLeDiff, Int.reduceEq, ↓reduceIte, reduceCtorEq, ne_eq, implies_true, if_true, if_false, ite_not]) en_48 (by simp only [wx, Nat.reduceAdd, Nat.reduceEqDiff, Nat.reduceLT, Nat.reduceMul, Nat.reduceLeDiff, Int.reduceEq, ↓reduceIte, reduceCtorEq, ne_eq, implies_true, if_true, if_false, ite_not, fgt_mapenc, fgt_func]) ?_
    refine Ev.sound 100 _ _ _ _ ?_
    simp only [wx, Nat.reduceAdd, Nat.reduceEqDiff, Nat.reduceLT, Nat.reduceMul, Nat.reduceLeDiff, Int.reduceEq, ↓reduceIte, reduceCtorEq, ne_eq, implies_true, if_true, if_false, ite_not, Tryd.ntmps32, List.length_map, Bool.true_eq_false, Bool.false_eq_true, Bool.not_not]
    exact Leave.pure rfl (by simp only [wx, Nat.reduceAdd, Nat.reduceEqDiff, Nat.reduceLT, Nat.reduceMul, Nat.reduceLeDiff, Int.reduceEq, ↓reduceIte, reduceCtorEq, ne_eq, implies_true, if_true, if_false, ite_not, hn]) (((Ext.refl _).alloc _).alloc _) rfl
  by_cases k84 : x.kind = 84
  case pos =>
    by_cases a0 : x.num = 0
    case neg =>
      have hn : formB x = false := by rw [hfe]; unfold fieldsB; simp [k80, k82, k81, k85, k84, a0]
      simp only [wx, Nat.reduceAdd, Nat.reduceEqDiff, Nat.reduceLT, Nat.reduceMul, Nat.reduceLeDiff, Int.reduceEq, ↓reduceIte, reduceCtorEq, ne_eq, implies_true, if_true, if_false, ite_not, Tryd.ntmps32, List.length_map, Bool.true_eq_false, Bool.false_eq_true, hm1, decide_eq_false k80, decide_eq_false k82, decide_eq_false k81, decide_eq_false k85, decide_eq_true k84, decide_eq_false a0]
      exact Leave.pure rfl (by simp only [wx, Nat.reduceAdd, Nat.reduceEqDiff, Nat.reduceLT, Nat.reduceMul, Nat.reduceLeDiff, Int.reduceEq, ↓reduceIte, reduceCtorEq, ne_eq, implies_true, if_true, if_false, ite_not, hn]) (((Ext.refl _).alloc _).alloc _) rfl
    simp only [wx, Nat.reduceAdd, Nat.reduceEqDiff, Nat.reduceLT, Nat.reduceMul, Nat.reduceLeDiff, Int.reduceEq, ↓reduceIte, reduceCtorEq, ne_eq, implies_true, if_true, if_false, ite_not, Tryd.ntmps32, List.length_map, Bool.true_eq_false, Bool.false_eq_true, hm1, decide_eq_false k80, decide_eq_false k82, decide_eq_false k81, decide_eq_false k85, decide_eq_true k84, decide_eq_true a0]
    refine Stop.fact (ac43 x.name hw.name _) rfl (by simp only [wx, Nat.reduceAdd, Nat.reduceEqDiff, Nat.reduceLT, Nat.reduceMul, Nat.reduceLeDiff, Int.reduceEq, ↓reduceIte, reduceCtorEq, ne_eq, implies_true, if_true, if_false, ite_not, awanted]; rfl) (by simp only [wx, Nat.reduceAdd, Nat.reduceEqDiff, Nat.reduceLT, Nat.reduceMul, Nat.reduceLeDiff, Int.reduceEq, ↓reduceIte, reduceCtorEq, ne_eq, implies_true, if_true, if_false, ite_not, Tryd.ntmps32]) (caps := []) (by simp only [wx, Nat.reduceAdd, Nat.reduceEqDiff, Nat.reduceLT, Nat.reduceMul, Nat.reduceLeDiff, Int.reduceEq, ↓reduceIte, reduceCtorEq, ne_eq, implies_true, if_true, if_false, ite_not]) en_43 (by simp only [wx, Nat.reduceAdd, Nat.reduceEqDiff, Nat.reduceLT, Nat.reduceMul, Nat.reduceLeDiff, Int.reduceEq, ↓reduceIte, reduceCtorEq, ne_eq, implies_true, if_true, if_false, ite_not]) ?_
    refine Ev.sound 100 _ _ _ _ ?_
    cases hnb : nameB x.name
    case false =>
      have hn : formB x = false := by rw [hfe]; unfold fieldsB; simp [k80, k82, k81, k85, k84, hnb]
      simp only [wx, Nat.reduceAdd, Nat.reduceEqDiff, Nat.reduceLT, Nat.reduceMul, Nat.reduceLeDiff, Int.reduceEq, ↓reduceIte, reduceCtorEq, ne_eq, implies_true, if_true, if_false, ite_not, Tryd.ntmps32, List.length_map, Bool.true_eq_false, Bool.false_eq_true, hm1, decide_eq_false k80, decide_eq_false k82, decide_eq_false k81, decide_eq_false k85, decide_eq_true k84, hnb, decide_eq_true a0]
      exact Leave.pure rfl (by simp only [wx, Nat.reduceAdd, Nat.reduceEqDiff, Nat.reduceLT, Nat.reduceMul, Nat.reduceLeDiff, Int.reduceEq, ↓reduceIte, reduceCtorEq, ne_eq, implies_true, if_true, if_false, ite_not, hn]) (((Ext.refl _).alloc _).alloc _) rfl
    simp only [wx, Nat.reduceAdd, Nat.reduceEqDiff, Nat.reduceLT, Nat.reduceMul, Nat.reduceLeDiff, Int.reduceEq, ↓reduceIte, reduceCtorEq, ne_eq, implies_true, if_true, if_false, ite_not, Tryd.ntmps32, List.length_map, Bool.true_eq_false, Bool.false_eq_true, hm1, decide_eq_false k80, decide_eq_false k82, decide_eq_false k81, decide_eq_false k85, decide_eq_true k84, hnb, decide_eq_true a0]
    have hn : formB x = x.kids.all formB := by rw [hfe]; unfold fieldsB; simp [k80, k82, k81, k85, k84, a0, hnb]
    refine Stop.fact (ac48 x.kids hf hlen _) rfl (by simp only [wx, Nat.reduceAdd, Nat.reduceEqDiff, Nat.reduceLT, Nat.reduceMul, Nat.reduceLeDiff, Int.reduceEq, ↓reduceIte, reduceCtorEq, ne_eq, implies_true, if_true, if_false, ite_not, awanted]; rfl) (by simp only [wx, Nat.reduceAdd, Nat.reduceEqDiff, Nat.reduceLT, Nat.reduceMul, Nat.reduceLeDiff, Int.reduceEq, ↓reduceIte, reduceCtorEq, ne_eq, implies_true, if_true, if_false, ite_not, Tryd.ntmps32]) (caps := []) (by simp only [wx, Nat.reduceAdd, Nat.reduceEqDiff, Nat.reduceLT, Nat.reduceMul, Nat.reduceLeDiff, Int.reduceEq, ↓reduceIte, reduceCtorEq, ne_eq, implies_true, if_true, if_false, ite_not]) en_48 (by simp only [wx, Nat.reduceAdd, Nat.reduceEqDiff, Nat.reduceLT, Nat.reduceMul, Nat.reduceLeDiff, Int.reduceEq, ↓reduceIte, reduceCtorEq, ne_eq, implies_true, if_true, if_false, ite_not, fgt_mapenc, fgt_func]) ?_
    refine Ev.sound 100 _ _ _ _ ?_
    simp only [wx, Nat.reduceAdd, Nat.reduceEqDiff, Nat.reduceLT, Nat.reduceMul, Nat.reduceLeDiff, Int.reduceEq, ↓reduceIte, reduceCtorEq, ne_eq, implies_true, if_true, if_false, ite_not, Tryd.ntmps32, List.length_map, Bool.true_eq_false, Bool.false_eq_true, Bool.not_not]
    exact Leave.pure rfl (by simp only [wx, Nat.reduceAdd, Nat.reduceEqDiff, Nat.reduceLT, Nat.reduceMul, Nat.reduceLeDiff, Int.reduceEq, ↓reduceIte, reduceCtorEq, ne_eq, implies_true, if_true, if_false, ite_not, hn]) (((Ext.refl _).alloc _).alloc _) rfl
  case neg =>
    by_cases a0 : x.num = 0
    case neg =>
      have hn : formB x = false := by rw [hfe]; unfold fieldsB; simp [k80, k82, k81, k85, k84, a0]
      simp only [wx, Nat.reduceAdd, Nat.reduceEqDiff, Nat.reduceLT, Nat.reduceMul, Nat.reduceLeDiff, Int.reduceEq, ↓reduceIte, reduceCtorEq, ne_eq, implies_true, if_true, if_false, ite_not, Tryd.ntmps32, List.length_map, Bool.true_eq_false, Bool.false_eq_true, hm1, decide_eq_false k80, decide_eq_false k82, decide_eq_false k81, decide_eq_false k85, decide_eq_false k84, decide_eq_false a0]
      exact Leave.pure rfl (by simp only [wx, Nat.reduceAdd, Nat.reduceEqDiff, Nat.reduceLT, Nat.reduceMul, Nat.reduceLeDiff, Int.reduceEq, ↓reduceIte, reduceCtorEq, ne_eq, implies_true, if_true, if_false, ite_not, hn]) (((Ext.refl _).alloc _).alloc _) rfl
    by_cases a1 : x.name = ⟨#[]⟩
    case neg =>
      have hn : formB x = false := by rw [hfe]; unfold fieldsB; simp [k80, k82, k81, k85, k84, a1]
      simp only [wx, Nat.reduceAdd, Nat.reduceEqDiff, Nat.reduceLT, Nat.reduceMul, Nat.reduceLeDiff, Int.reduceEq, ↓reduceIte, reduceCtorEq, ne_eq, implies_true, if_true, if_false, ite_not, Tryd.ntmps32, List.length_map, Bool.true_eq_false, Bool.false_eq_true, hm1, decide_eq_false k80, decide_eq_false k82, decide_eq_false k81, decide_eq_false k85, decide_eq_false k84, decide_eq_true a0, decide_eq_false a1]
      exact Leave.pure rfl (by simp only [wx, Nat.reduceAdd, Nat.reduceEqDiff, Nat.reduceLT, Nat.reduceMul, Nat.reduceLeDiff, Int.reduceEq, ↓reduceIte, reduceCtorEq, ne_eq, implies_true, if_true, if_false, ite_not, hn]) (((Ext.refl _).alloc _).alloc _) rfl
    simp only [wx, Nat.reduceAdd, Nat.reduceEqDiff, Nat.reduceLT, Nat.reduceMul, Nat.reduceLeDiff, Int.reduceEq, ↓reduceIte, reduceCtorEq, ne_eq, implies_true, if_true, if_false, ite_not, Tryd.ntmps32, List.length_map, Bool.true_eq_false, Bool.false_eq_true, hm1, decide_eq_false k80, decide_eq_false k82, decide_eq_false k81, decide_eq_false k85, decide_eq_false k84, decide_eq_true a0, decide_eq_true a1]
    have hn : formB x = x.kids.all formB := by rw [hfe]; unfold fieldsB; simp [k80, k82, k81, k85, k84, a0, a1]
    refine Stop.fact (ac48 x.kids hf hlen _) rfl (by simp only [wx, Nat.reduceAdd, Nat.reduceEqDiff, Nat.reduceLT, Nat.reduceMul, Nat.reduceLeDiff, Int.reduceEq, ↓reduceIte, reduceCtorEq, ne_eq, implies_true, if_true, if_false, ite_not, awanted]; rfl) (by simp only [wx, Nat.reduceAdd, Nat.reduceEqDiff, Nat.reduceLT, Nat.reduceMul, Nat.reduceLeDiff, Int.reduceEq, ↓reduceIte, reduceCtorEq, ne_eq, implies_true, if_true, if_false, ite_not, Tryd.ntmps32]) (caps := []) (by simp only [wx, Nat.reduceAdd, Nat.reduceEqDiff, Nat.reduceLT, Nat.reduceMul, Nat.reduceLeDiff, Int.reduceEq, ↓reduceIte, reduceCtorEq, ne_eq, implies_true, if_true, if_false, ite_not]) en_48 (by simp only [wx, Nat.reduceAdd, Nat.reduceEqDiff, Nat.reduceLT, Nat.reduceMul, Nat.reduceLeDiff, Int.reduceEq, ↓reduceIte, reduceCtorEq, ne_eq, implies_true, if_true, if_false, ite_not, fgt_mapenc, fgt_func]) ?_
    refine Ev.sound 100 _ _ _ _ ?_
    simp only [wx, Nat.reduceAdd, Nat.reduceEqDiff, Nat.reduceLT, Nat.reduceMul, Nat.reduceLeDiff, Int.reduceEq, ↓reduceIte, reduceCtorEq, ne_eq, implies_true, if_true, if_false, ite_not, Tryd.ntmps32, List.length_map, Bool.true_eq_false, Bool.false_eq_true, Bool.not_not]
    exact Leave.pure rfl (by simp only [wx, Nat.reduceAdd, Nat.reduceEqDiff, Nat.reduceLT, Nat.reduceMul, Nat.reduceLeDiff, Int.reduceEq, ↓reduceIte, reduceCtorEq, ne_eq, implies_true, if_true, if_false, ite_not, hn]) (((Ext.refl _).alloc _).alloc _) rfl
 termination_by x.size
 decreasing_by exact kid_size hy
end Go.Proofs.YtajknofacjiddaaDoor.Abs

/- form, the reference -/
namespace Go.Proofs.YtajknofacjiddaaDoor.Abs
open Go Go.RowKit
set_option linter.unusedSimpArgs false
set_option linter.unusedVariables false
set_option maxHeartbeats 4000000
set_option maxRecDepth 100000
/-- The number of children of a kind, as the reference counts. -/
def kidsN (k : Int) : Int :=
  if k = 80 ∨ k = 81 ∨ k = 86 then 0 else if k = 88 ∨ k = 89 ∨ k = 90 then 1 else if k = 82 ∨ k = 84 ∨ k = 87 then 2 else if k = 83 then 3 else if k = 85 then -1 else -2
theorem kidsN_want (k : Int) (n : Nat) : (wantKids k n = none ∧ kidsN k = -2) ∨ (wantKids k n = some n ∧ kidsN k = -1) ∨ ∃ m : Nat, wantKids k n = some m ∧ kidsN k = m := by
  unfold wantKids kidsN
  by_cases h80 : k = 80
  · subst h80; exact .inr (.inr ⟨_, rfl, rfl⟩)
  by_cases h81 : k = 81
  · subst h81; exact .inr (.inr ⟨_, rfl, rfl⟩)
  by_cases h82 : k = 82
  · subst h82; exact .inr (.inr ⟨_, rfl, rfl⟩)
  by_cases h83 : k = 83
  · subst h83; exact .inr (.inr ⟨_, rfl, rfl⟩)
  by_cases h84 : k = 84
  · subst h84; exact .inr (.inr ⟨_, rfl, rfl⟩)
  by_cases h85 : k = 85
  · subst h85; exact .inr (.inl ⟨rfl, rfl⟩)
  by_cases h86 : k = 86
  · subst h86; exact .inr (.inr ⟨_, rfl, rfl⟩)
  by_cases h87 : k = 87
  · subst h87; exact .inr (.inr ⟨_, rfl, rfl⟩)
  by_cases h88 : k = 88
  · subst h88; exact .inr (.inr ⟨_, rfl, rfl⟩)
  by_cases h89 : k = 89
  · subst h89; exact .inr (.inr ⟨_, rfl, rfl⟩)
  by_cases h90 : k = 90
  · subst h90; exact .inr (.inr ⟨_, rfl, rfl⟩)
  exact .inl ⟨by simp only [h80, h81, h82, h83, h84, h85, h86, h87, h88, h89, h90, if_false], by simp only [h80, h81, h82, h83, h84, h85, h86, h87, h88, h89, h90, or_self, if_false]⟩
theorem ac51 (k : Int) (h : AHeap) : AC sd 51 [.int .u8 k] h (Pure1 (.int .i64 (kidsN k)) h) := by
  refine AC.pure Tryd.func51 rfl Tryd.ntmps51 (by show 1 ≤ 20; decide) ?_
  refine Ev.sound 100 _ _ _ _ ?_
  simp only [argFr]
  by_cases k80 : k = 80
  case pos =>
    simp only [wx, Nat.reduceAdd, Nat.reduceEqDiff, Nat.reduceLT, Nat.reduceMul, Nat.reduceLeDiff, Int.reduceEq, ↓reduceIte, reduceCtorEq, ne_eq, implies_true, if_true, if_false, ite_not, Tryd.ntmps51, decide_eq_true k80]
    have hn : kidsN k = 0 := by rw [k80]; rfl
    exact Leave.pure rfl (by simp only [wx, Nat.reduceAdd, Nat.reduceEqDiff, Nat.reduceLT, Nat.reduceMul, Nat.reduceLeDiff, Int.reduceEq, ↓reduceIte, reduceCtorEq, ne_eq, implies_true, if_true, if_false, ite_not, hn]) (Ext.refl _) rfl
  by_cases k81 : k = 81
  case pos =>
    simp only [wx, Nat.reduceAdd, Nat.reduceEqDiff, Nat.reduceLT, Nat.reduceMul, Nat.reduceLeDiff, Int.reduceEq, ↓reduceIte, reduceCtorEq, ne_eq, implies_true, if_true, if_false, ite_not, Tryd.ntmps51, decide_eq_false k80, decide_eq_true k81]
    have hn : kidsN k = 0 := by rw [k81]; rfl
    exact Leave.pure rfl (by simp only [wx, Nat.reduceAdd, Nat.reduceEqDiff, Nat.reduceLT, Nat.reduceMul, Nat.reduceLeDiff, Int.reduceEq, ↓reduceIte, reduceCtorEq, ne_eq, implies_true, if_true, if_false, ite_not, hn]) (Ext.refl _) rfl
  by_cases k86 : k = 86
  case pos =>
    simp only [wx, Nat.reduceAdd, Nat.reduceEqDiff, Nat.reduceLT, Nat.reduceMul, Nat.reduceLeDiff, Int.reduceEq, ↓reduceIte, reduceCtorEq, ne_eq, implies_true, if_true, if_false, ite_not, Tryd.ntmps51, decide_eq_false k80, decide_eq_false k81, decide_eq_true k86]
    have hn : kidsN k = 0 := by rw [k86]; rfl
    exact Leave.pure rfl (by simp only [wx, Nat.reduceAdd, Nat.reduceEqDiff, Nat.reduceLT, Nat.reduceMul, Nat.reduceLeDiff, Int.reduceEq, ↓reduceIte, reduceCtorEq, ne_eq, implies_true, if_true, if_false, ite_not, hn]) (Ext.refl _) rfl
  by_cases k88 : k = 88
  case pos =>
    simp only [wx, Nat.reduceAdd, Nat.reduceEqDiff, Nat.reduceLT, Nat.reduceMul, Nat.reduceLeDiff, Int.reduceEq, ↓reduceIte, reduceCtorEq, ne_eq, implies_true, if_true, if_false, ite_not, Tryd.ntmps51, decide_eq_false k80, decide_eq_false k81, decide_eq_false k86, decide_eq_true k88]
    have hn : kidsN k = 1 := by rw [k88]; rfl
    exact Leave.pure rfl (by simp only [wx, Nat.reduceAdd, Nat.reduceEqDiff, Nat.reduceLT, Nat.reduceMul, Nat.reduceLeDiff, Int.reduceEq, ↓reduceIte, reduceCtorEq, ne_eq, implies_true, if_true, if_false, ite_not, hn]) (Ext.refl _) rfl
  by_cases k89 : k = 89
  case pos =>
    simp only [wx, Nat.reduceAdd, Nat.reduceEqDiff, Nat.reduceLT, Nat.reduceMul, Nat.reduceLeDiff, Int.reduceEq, ↓reduceIte, reduceCtorEq, ne_eq, implies_true, if_true, if_false, ite_not, Tryd.ntmps51, decide_eq_false k80, decide_eq_false k81, decide_eq_false k86, decide_eq_false k88, decide_eq_true k89]
    have hn : kidsN k = 1 := by rw [k89]; rfl
    exact Leave.pure rfl (by simp only [wx, Nat.reduceAdd, Nat.reduceEqDiff, Nat.reduceLT, Nat.reduceMul, Nat.reduceLeDiff, Int.reduceEq, ↓reduceIte, reduceCtorEq, ne_eq, implies_true, if_true, if_false, ite_not, hn]) (Ext.refl _) rfl
  by_cases k90 : k = 90
  case pos =>
    simp only [wx, Nat.reduceAdd, Nat.reduceEqDiff, Nat.reduceLT, Nat.reduceMul, Nat.reduceLeDiff, Int.reduceEq, ↓reduceIte, reduceCtorEq, ne_eq, implies_true, if_true, if_false, ite_not, Tryd.ntmps51, decide_eq_false k80, decide_eq_false k81, decide_eq_false k86, decide_eq_false k88, decide_eq_false k89, decide_eq_true k90]
    have hn : kidsN k = 1 := by rw [k90]; rfl
    exact Leave.pure rfl (by simp only [wx, Nat.reduceAdd, Nat.reduceEqDiff, Nat.reduceLT, Nat.reduceMul, Nat.reduceLeDiff, Int.reduceEq, ↓reduceIte, reduceCtorEq, ne_eq, implies_true, if_true, if_false, ite_not, hn]) (Ext.refl _) rfl
  by_cases k82 : k = 82
  case pos =>
    simp only [wx, Nat.reduceAdd, Nat.reduceEqDiff, Nat.reduceLT, Nat.reduceMul, Nat.reduceLeDiff, Int.reduceEq, ↓reduceIte, reduceCtorEq, ne_eq, implies_true, if_true, if_false, ite_not, Tryd.ntmps51, decide_eq_false k80, decide_eq_false k81, decide_eq_false k86, decide_eq_false k88, decide_eq_false k89, decide_eq_false k90, decide_eq_true k82]
    have hn : kidsN k = 2 := by rw [k82]; rfl
    exact Leave.pure rfl (by simp only [wx, Nat.reduceAdd, Nat.reduceEqDiff, Nat.reduceLT, Nat.reduceMul, Nat.reduceLeDiff, Int.reduceEq, ↓reduceIte, reduceCtorEq, ne_eq, implies_true, if_true, if_false, ite_not, hn]) (Ext.refl _) rfl
  by_cases k84 : k = 84
  case pos =>
    simp only [wx, Nat.reduceAdd, Nat.reduceEqDiff, Nat.reduceLT, Nat.reduceMul, Nat.reduceLeDiff, Int.reduceEq, ↓reduceIte, reduceCtorEq, ne_eq, implies_true, if_true, if_false, ite_not, Tryd.ntmps51, decide_eq_false k80, decide_eq_false k81, decide_eq_false k86, decide_eq_false k88, decide_eq_false k89, decide_eq_false k90, decide_eq_false k82, decide_eq_true k84]
    have hn : kidsN k = 2 := by rw [k84]; rfl
    exact Leave.pure rfl (by simp only [wx, Nat.reduceAdd, Nat.reduceEqDiff, Nat.reduceLT, Nat.reduceMul, Nat.reduceLeDiff, Int.reduceEq, ↓reduceIte, reduceCtorEq, ne_eq, implies_true, if_true, if_false, ite_not, hn]) (Ext.refl _) rfl
  by_cases k87 : k = 87
  case pos =>
    simp only [wx, Nat.reduceAdd, Nat.reduceEqDiff, Nat.reduceLT, Nat.reduceMul, Nat.reduceLeDiff, Int.reduceEq, ↓reduceIte, reduceCtorEq, ne_eq, implies_true, if_true, if_false, ite_not, Tryd.ntmps51, decide_eq_false k80, decide_eq_false k81, decide_eq_false k86, decide_eq_false k88, decide_eq_false k89, decide_eq_false k90, decide_eq_false k82, decide_eq_false k84, decide_eq_true k87]
    have hn : kidsN k = 2 := by rw [k87]; rfl
    exact Leave.pure rfl (by simp only [wx, Nat.reduceAdd, Nat.reduceEqDiff, Nat.reduceLT, Nat.reduceMul, Nat.reduceLeDiff, Int.reduceEq, ↓reduceIte, reduceCtorEq, ne_eq, implies_true, if_true, if_false, ite_not, hn]) (Ext.refl _) rfl
  by_cases k83 : k = 83
  case pos =>
    simp only [wx, Nat.reduceAdd, Nat.reduceEqDiff, Nat.reduceLT, Nat.reduceMul, Nat.reduceLeDiff, Int.reduceEq, ↓reduceIte, reduceCtorEq, ne_eq, implies_true, if_true, if_false, ite_not, Tryd.ntmps51, decide_eq_false k80, decide_eq_false k81, decide_eq_false k86, decide_eq_false k88, decide_eq_false k89, decide_eq_false k90, decide_eq_false k82, decide_eq_false k84, decide_eq_false k87, decide_eq_true k83]
    have hn : kidsN k = 3 := by rw [k83]; rfl
    exact Leave.pure rfl (by simp only [wx, Nat.reduceAdd, Nat.reduceEqDiff, Nat.reduceLT, Nat.reduceMul, Nat.reduceLeDiff, Int.reduceEq, ↓reduceIte, reduceCtorEq, ne_eq, implies_true, if_true, if_false, ite_not, hn]) (Ext.refl _) rfl
  by_cases k85 : k = 85
  case pos =>
    simp only [wx, Nat.reduceAdd, Nat.reduceEqDiff, Nat.reduceLT, Nat.reduceMul, Nat.reduceLeDiff, Int.reduceEq, ↓reduceIte, reduceCtorEq, ne_eq, implies_true, if_true, if_false, ite_not, Tryd.ntmps51, decide_eq_false k80, decide_eq_false k81, decide_eq_false k86, decide_eq_false k88, decide_eq_false k89, decide_eq_false k90, decide_eq_false k82, decide_eq_false k84, decide_eq_false k87, decide_eq_false k83, decide_eq_true k85]
    have hn : kidsN k = -1 := by rw [k85]; rfl
    exact Leave.pure rfl (by simp only [wx, Nat.reduceAdd, Nat.reduceEqDiff, Nat.reduceLT, Nat.reduceMul, Nat.reduceLeDiff, Int.reduceEq, ↓reduceIte, reduceCtorEq, ne_eq, implies_true, if_true, if_false, ite_not, hn]) (Ext.refl _) rfl
  simp only [wx, Nat.reduceAdd, Nat.reduceEqDiff, Nat.reduceLT, Nat.reduceMul, Nat.reduceLeDiff, Int.reduceEq, ↓reduceIte, reduceCtorEq, ne_eq, implies_true, if_true, if_false, ite_not, Tryd.ntmps51, decide_eq_false k80, decide_eq_false k81, decide_eq_false k86, decide_eq_false k88, decide_eq_false k89, decide_eq_false k90, decide_eq_false k82, decide_eq_false k84, decide_eq_false k87, decide_eq_false k83, decide_eq_false k85]
  have hn : kidsN k = -2 := by unfold kidsN; simp only [k80, k81, k86, k88, k89, k90, k82, k84, k87, k83, k85, or_self, if_false]
  exact Leave.pure rfl (by simp only [wx, Nat.reduceAdd, Nat.reduceEqDiff, Nat.reduceLT, Nat.reduceMul, Nat.reduceLeDiff, Int.reduceEq, ↓reduceIte, reduceCtorEq, ne_eq, implies_true, if_true, if_false, ite_not, hn]) (Ext.refl _) rfl
theorem ac34 (x : Node) (hw : x.wf) (h : AHeap) : AC sd 34 [.agg x.enc] h (Pure1 (.bool (nodeB x)) h) := by
  refine AC.pure Tryd.func34 rfl Tryd.ntmps34 (by show 1 ≤ 71; decide) ?_
  refine Ev.sound 100 _ _ _ _ ?_
  simp only [argFr, enc_eq]
  simp only [wx, Nat.reduceAdd, Nat.reduceEqDiff, Nat.reduceLT, Nat.reduceMul, Nat.reduceLeDiff, Int.reduceEq, ↓reduceIte, reduceCtorEq, ne_eq, implies_true, if_true, if_false, ite_not, Tryd.ntmps34]
  refine Stop.fact (ac51 x.kind _) rfl rfl (by simp only [wx, Nat.reduceAdd, Nat.reduceEqDiff, Nat.reduceLT, Nat.reduceMul, Nat.reduceLeDiff, Int.reduceEq, ↓reduceIte, reduceCtorEq, ne_eq, implies_true, if_true, if_false, ite_not, Tryd.ntmps34]) (caps := []) (by simp only [wx, Nat.reduceAdd, Nat.reduceEqDiff, Nat.reduceLT, Nat.reduceMul, Nat.reduceLeDiff, Int.reduceEq, ↓reduceIte, reduceCtorEq, ne_eq, implies_true, if_true, if_false, ite_not]) en_51 (by simp only [wx, Nat.reduceAdd, Nat.reduceEqDiff, Nat.reduceLT, Nat.reduceMul, Nat.reduceLeDiff, Int.reduceEq, ↓reduceIte, reduceCtorEq, ne_eq, implies_true, if_true, if_false, ite_not]) ?_
  have hfe : nodeB x = (decide (wantKids x.kind x.kids.length = some x.kids.length) && fieldsB x) := rfl
  rcases kidsN_want x.kind x.kids.length with ⟨e1, e2⟩ | ⟨e1, e2⟩ | ⟨m, e1, e2⟩
  · have hn : nodeB x = false := by rw [hfe, e1]; rfl
    rw [e2]
    refine Ev.sound 100 _ _ _ _ ?_
    simp only [wx, Nat.reduceAdd, Nat.reduceEqDiff, Nat.reduceLT, Nat.reduceMul, Nat.reduceLeDiff, Int.reduceEq, ↓reduceIte, reduceCtorEq, ne_eq, implies_true, if_true, if_false, ite_not, Tryd.ntmps34, List.length_map]
    exact Leave.pure rfl (by simp only [wx, Nat.reduceAdd, Nat.reduceEqDiff, Nat.reduceLT, Nat.reduceMul, Nat.reduceLeDiff, Int.reduceEq, ↓reduceIte, reduceCtorEq, ne_eq, implies_true, if_true, if_false, ite_not, hn]) ((Ext.refl _).alloc _) rfl
  all_goals rw [e1] at hfe
  all_goals rw [e2]
  · have d1 : decide ((-1 : Int) = -2) = false := rfl
    have d2 : decide ((0 : Int) ≤ -1) = false := rfl
    rw [decide_eq_true rfl, Bool.true_and] at hfe
    refine Ev.sound 100 _ _ _ _ ?_
    by_cases k80 : x.kind = 80
    case pos =>
      by_cases a0 : 0 ≤ x.num
      case neg =>
        have hn : nodeB x = false := by rw [hfe]; unfold fieldsB; simp [k80, a0]
        simp only [wx, Nat.reduceAdd, Nat.reduceEqDiff, Nat.reduceLT, Nat.reduceMul, Nat.reduceLeDiff, Int.reduceEq, ↓reduceIte, reduceCtorEq, ne_eq, implies_true, if_true, if_false, ite_not, Tryd.ntmps34, List.length_map, d1, d2, decide_eq_true k80, decide_eq_false a0]
        exact Leave.pure rfl (by simp only [wx, Nat.reduceAdd, Nat.reduceEqDiff, Nat.reduceLT, Nat.reduceMul, Nat.reduceLeDiff, Int.reduceEq, ↓reduceIte, reduceCtorEq, ne_eq, implies_true, if_true, if_false, ite_not, hn]) ((Ext.refl _).alloc _) rfl
      by_cases a1 : x.name = ⟨#[]⟩
      case neg =>
        have hn : nodeB x = false := by rw [hfe]; unfold fieldsB; simp [k80, a1]
        simp only [wx, Nat.reduceAdd, Nat.reduceEqDiff, Nat.reduceLT, Nat.reduceMul, Nat.reduceLeDiff, Int.reduceEq, ↓reduceIte, reduceCtorEq, ne_eq, implies_true, if_true, if_false, ite_not, Tryd.ntmps34, List.length_map, d1, d2, decide_eq_true k80, decide_eq_true a0, decide_eq_false a1]
        exact Leave.pure rfl (by simp only [wx, Nat.reduceAdd, Nat.reduceEqDiff, Nat.reduceLT, Nat.reduceMul, Nat.reduceLeDiff, Int.reduceEq, ↓reduceIte, reduceCtorEq, ne_eq, implies_true, if_true, if_false, ite_not, hn]) ((Ext.refl _).alloc _) rfl
      simp only [wx, Nat.reduceAdd, Nat.reduceEqDiff, Nat.reduceLT, Nat.reduceMul, Nat.reduceLeDiff, Int.reduceEq, ↓reduceIte, reduceCtorEq, ne_eq, implies_true, if_true, if_false, ite_not, Tryd.ntmps34, List.length_map, d1, d2, decide_eq_true k80, decide_eq_true a0, decide_eq_true a1]
      have hn : nodeB x = true := by rw [hfe]; unfold fieldsB; simp [k80, a0, a1]
      exact Leave.pure rfl (by simp only [wx, Nat.reduceAdd, Nat.reduceEqDiff, Nat.reduceLT, Nat.reduceMul, Nat.reduceLeDiff, Int.reduceEq, ↓reduceIte, reduceCtorEq, ne_eq, implies_true, if_true, if_false, ite_not, hn]) ((Ext.refl _).alloc _) rfl
    by_cases k82 : x.kind = 82
    case pos =>
      by_cases a0 : 8 ≤ x.num
      case neg =>
        have hn : nodeB x = false := by rw [hfe]; unfold fieldsB; simp [k80, k82, a0]
        simp only [wx, Nat.reduceAdd, Nat.reduceEqDiff, Nat.reduceLT, Nat.reduceMul, Nat.reduceLeDiff, Int.reduceEq, ↓reduceIte, reduceCtorEq, ne_eq, implies_true, if_true, if_false, ite_not, Tryd.ntmps34, List.length_map, d1, d2, decide_eq_false k80, decide_eq_true k82, decide_eq_false a0]
        exact Leave.pure rfl (by simp only [wx, Nat.reduceAdd, Nat.reduceEqDiff, Nat.reduceLT, Nat.reduceMul, Nat.reduceLeDiff, Int.reduceEq, ↓reduceIte, reduceCtorEq, ne_eq, implies_true, if_true, if_false, ite_not, hn]) ((Ext.refl _).alloc _) rfl
      by_cases a1 : x.num ≤ 23
      case neg =>
        have hn : nodeB x = false := by rw [hfe]; unfold fieldsB; simp [k80, k82, a1]
        simp only [wx, Nat.reduceAdd, Nat.reduceEqDiff, Nat.reduceLT, Nat.reduceMul, Nat.reduceLeDiff, Int.reduceEq, ↓reduceIte, reduceCtorEq, ne_eq, implies_true, if_true, if_false, ite_not, Tryd.ntmps34, List.length_map, d1, d2, decide_eq_false k80, decide_eq_true k82, decide_eq_true a0, decide_eq_false a1]
        exact Leave.pure rfl (by simp only [wx, Nat.reduceAdd, Nat.reduceEqDiff, Nat.reduceLT, Nat.reduceMul, Nat.reduceLeDiff, Int.reduceEq, ↓reduceIte, reduceCtorEq, ne_eq, implies_true, if_true, if_false, ite_not, hn]) ((Ext.refl _).alloc _) rfl
      by_cases a2 : x.name = ⟨#[]⟩
      case neg =>
        have hn : nodeB x = false := by rw [hfe]; unfold fieldsB; simp [k80, k82, a2]
        simp only [wx, Nat.reduceAdd, Nat.reduceEqDiff, Nat.reduceLT, Nat.reduceMul, Nat.reduceLeDiff, Int.reduceEq, ↓reduceIte, reduceCtorEq, ne_eq, implies_true, if_true, if_false, ite_not, Tryd.ntmps34, List.length_map, d1, d2, decide_eq_false k80, decide_eq_true k82, decide_eq_true a0, decide_eq_true a1, decide_eq_false a2]
        exact Leave.pure rfl (by simp only [wx, Nat.reduceAdd, Nat.reduceEqDiff, Nat.reduceLT, Nat.reduceMul, Nat.reduceLeDiff, Int.reduceEq, ↓reduceIte, reduceCtorEq, ne_eq, implies_true, if_true, if_false, ite_not, hn]) ((Ext.refl _).alloc _) rfl
      simp only [wx, Nat.reduceAdd, Nat.reduceEqDiff, Nat.reduceLT, Nat.reduceMul, Nat.reduceLeDiff, Int.reduceEq, ↓reduceIte, reduceCtorEq, ne_eq, implies_true, if_true, if_false, ite_not, Tryd.ntmps34, List.length_map, d1, d2, decide_eq_false k80, decide_eq_true k82, decide_eq_true a0, decide_eq_true a1, decide_eq_true a2]
      have hn : nodeB x = true := by rw [hfe]; unfold fieldsB; simp [k80, k82, a0, a1, a2]
      exact Leave.pure rfl (by simp only [wx, Nat.reduceAdd, Nat.reduceEqDiff, Nat.reduceLT, Nat.reduceMul, Nat.reduceLeDiff, Int.reduceEq, ↓reduceIte, reduceCtorEq, ne_eq, implies_true, if_true, if_false, ite_not, hn]) ((Ext.refl _).alloc _) rfl
    by_cases k84 : x.kind = 84
    case pos =>
      by_cases a0 : x.num = 0
      case neg =>
        have hn : nodeB x = false := by rw [hfe]; unfold fieldsB; simp [k80, k82, k84, a0]
        simp only [wx, Nat.reduceAdd, Nat.reduceEqDiff, Nat.reduceLT, Nat.reduceMul, Nat.reduceLeDiff, Int.reduceEq, ↓reduceIte, reduceCtorEq, ne_eq, implies_true, if_true, if_false, ite_not, Tryd.ntmps34, List.length_map, d1, d2, decide_eq_false k80, decide_eq_false k82, decide_eq_true k84, decide_eq_false a0]
        exact Leave.pure rfl (by simp only [wx, Nat.reduceAdd, Nat.reduceEqDiff, Nat.reduceLT, Nat.reduceMul, Nat.reduceLeDiff, Int.reduceEq, ↓reduceIte, reduceCtorEq, ne_eq, implies_true, if_true, if_false, ite_not, hn]) ((Ext.refl _).alloc _) rfl
      simp only [wx, Nat.reduceAdd, Nat.reduceEqDiff, Nat.reduceLT, Nat.reduceMul, Nat.reduceLeDiff, Int.reduceEq, ↓reduceIte, reduceCtorEq, ne_eq, implies_true, if_true, if_false, ite_not, Tryd.ntmps34, List.length_map, d1, d2, decide_eq_false k80, decide_eq_false k82, decide_eq_true k84, decide_eq_true a0]
      refine Stop.fact (ac25 x.name hw.name _) rfl (by simp only [wx, Nat.reduceAdd, Nat.reduceEqDiff, Nat.reduceLT, Nat.reduceMul, Nat.reduceLeDiff, Int.reduceEq, ↓reduceIte, reduceCtorEq, ne_eq, implies_true, if_true, if_false, ite_not, awanted]; rfl) (by simp only [wx, Nat.reduceAdd, Nat.reduceEqDiff, Nat.reduceLT, Nat.reduceMul, Nat.reduceLeDiff, Int.reduceEq, ↓reduceIte, reduceCtorEq, ne_eq, implies_true, if_true, if_false, ite_not, Tryd.ntmps34]) (caps := []) (by simp only [wx, Nat.reduceAdd, Nat.reduceEqDiff, Nat.reduceLT, Nat.reduceMul, Nat.reduceLeDiff, Int.reduceEq, ↓reduceIte, reduceCtorEq, ne_eq, implies_true, if_true, if_false, ite_not]) en_25 (by simp only [wx, Nat.reduceAdd, Nat.reduceEqDiff, Nat.reduceLT, Nat.reduceMul, Nat.reduceLeDiff, Int.reduceEq, ↓reduceIte, reduceCtorEq, ne_eq, implies_true, if_true, if_false, ite_not]) ?_
      refine Ev.sound 100 _ _ _ _ ?_
      have hn : nodeB x = nameB x.name := by rw [hfe]; unfold fieldsB; simp [k80, k82, k84, a0]
      simp only [wx, Nat.reduceAdd, Nat.reduceEqDiff, Nat.reduceLT, Nat.reduceMul, Nat.reduceLeDiff, Int.reduceEq, ↓reduceIte, reduceCtorEq, ne_eq, implies_true, if_true, if_false, ite_not, Tryd.ntmps34, List.length_map]
      exact Leave.pure rfl (by simp only [wx, Nat.reduceAdd, Nat.reduceEqDiff, Nat.reduceLT, Nat.reduceMul, Nat.reduceLeDiff, Int.reduceEq, ↓reduceIte, reduceCtorEq, ne_eq, implies_true, if_true, if_false, ite_not, hn]) ((Ext.refl _).alloc _) rfl
    by_cases k81 : x.kind = 81
    case pos =>
      by_cases a0 : x.num = 0
      case neg =>
        have hn : nodeB x = false := by rw [hfe]; unfold fieldsB; simp [k80, k82, k84, k81, a0]
        simp only [wx, Nat.reduceAdd, Nat.reduceEqDiff, Nat.reduceLT, Nat.reduceMul, Nat.reduceLeDiff, Int.reduceEq, ↓reduceIte, reduceCtorEq, ne_eq, implies_true, if_true, if_false, ite_not, Tryd.ntmps34, List.length_map, d1, d2, decide_eq_false k80, decide_eq_false k82, decide_eq_false k84, decide_eq_true k81, decide_eq_false a0]
        exact Leave.pure rfl (by simp only [wx, Nat.reduceAdd, Nat.reduceEqDiff, Nat.reduceLT, Nat.reduceMul, Nat.reduceLeDiff, Int.reduceEq, ↓reduceIte, reduceCtorEq, ne_eq, implies_true, if_true, if_false, ite_not, hn]) ((Ext.refl _).alloc _) rfl
      simp only [wx, Nat.reduceAdd, Nat.reduceEqDiff, Nat.reduceLT, Nat.reduceMul, Nat.reduceLeDiff, Int.reduceEq, ↓reduceIte, reduceCtorEq, ne_eq, implies_true, if_true, if_false, ite_not, Tryd.ntmps34, List.length_map, d1, d2, decide_eq_false k80, decide_eq_false k82, decide_eq_false k84, decide_eq_true k81, decide_eq_true a0]
      have hn : nodeB x = true := by rw [hfe]; unfold fieldsB; simp [k80, k82, k84, k81, a0]
      exact Leave.pure rfl (by simp only [wx, Nat.reduceAdd, Nat.reduceEqDiff, Nat.reduceLT, Nat.reduceMul, Nat.reduceLeDiff, Int.reduceEq, ↓reduceIte, reduceCtorEq, ne_eq, implies_true, if_true, if_false, ite_not, hn]) ((Ext.refl _).alloc _) rfl
    by_cases k85 : x.kind = 85
    case pos =>
      by_cases a0 : x.num = 0
      case neg =>
        have hn : nodeB x = false := by rw [hfe]; unfold fieldsB; simp [k80, k82, k84, k81, k85, a0]
        simp only [wx, Nat.reduceAdd, Nat.reduceEqDiff, Nat.reduceLT, Nat.reduceMul, Nat.reduceLeDiff, Int.reduceEq, ↓reduceIte, reduceCtorEq, ne_eq, implies_true, if_true, if_false, ite_not, Tryd.ntmps34, List.length_map, d1, d2, decide_eq_false k80, decide_eq_false k82, decide_eq_false k84, decide_eq_false k81, decide_eq_true k85, decide_eq_false a0]
        exact Leave.pure rfl (by simp only [wx, Nat.reduceAdd, Nat.reduceEqDiff, Nat.reduceLT, Nat.reduceMul, Nat.reduceLeDiff, Int.reduceEq, ↓reduceIte, reduceCtorEq, ne_eq, implies_true, if_true, if_false, ite_not, hn]) ((Ext.refl _).alloc _) rfl
      simp only [wx, Nat.reduceAdd, Nat.reduceEqDiff, Nat.reduceLT, Nat.reduceMul, Nat.reduceLeDiff, Int.reduceEq, ↓reduceIte, reduceCtorEq, ne_eq, implies_true, if_true, if_false, ite_not, Tryd.ntmps34, List.length_map, d1, d2, decide_eq_false k80, decide_eq_false k82, decide_eq_false k84, decide_eq_false k81, decide_eq_true k85, decide_eq_true a0]
      have hn : nodeB x = true := by rw [hfe]; unfold fieldsB; simp [k80, k82, k84, k81, k85, a0]
      exact Leave.pure rfl (by simp only [wx, Nat.reduceAdd, Nat.reduceEqDiff, Nat.reduceLT, Nat.reduceMul, Nat.reduceLeDiff, Int.reduceEq, ↓reduceIte, reduceCtorEq, ne_eq, implies_true, if_true, if_false, ite_not, hn]) ((Ext.refl _).alloc _) rfl
    case neg =>
      by_cases a0 : x.num = 0
      case neg =>
        have hn : nodeB x = false := by rw [hfe]; unfold fieldsB; simp [k80, k82, k84, k81, k85, a0]
        simp only [wx, Nat.reduceAdd, Nat.reduceEqDiff, Nat.reduceLT, Nat.reduceMul, Nat.reduceLeDiff, Int.reduceEq, ↓reduceIte, reduceCtorEq, ne_eq, implies_true, if_true, if_false, ite_not, Tryd.ntmps34, List.length_map, d1, d2, decide_eq_false k80, decide_eq_false k82, decide_eq_false k84, decide_eq_false k81, decide_eq_false k85, decide_eq_false a0]
        exact Leave.pure rfl (by simp only [wx, Nat.reduceAdd, Nat.reduceEqDiff, Nat.reduceLT, Nat.reduceMul, Nat.reduceLeDiff, Int.reduceEq, ↓reduceIte, reduceCtorEq, ne_eq, implies_true, if_true, if_false, ite_not, hn]) ((Ext.refl _).alloc _) rfl
      by_cases a1 : x.name = ⟨#[]⟩
      case neg =>
        have hn : nodeB x = false := by rw [hfe]; unfold fieldsB; simp [k80, k82, k84, k81, k85, a1]
        simp only [wx, Nat.reduceAdd, Nat.reduceEqDiff, Nat.reduceLT, Nat.reduceMul, Nat.reduceLeDiff, Int.reduceEq, ↓reduceIte, reduceCtorEq, ne_eq, implies_true, if_true, if_false, ite_not, Tryd.ntmps34, List.length_map, d1, d2, decide_eq_false k80, decide_eq_false k82, decide_eq_false k84, decide_eq_false k81, decide_eq_false k85, decide_eq_true a0, decide_eq_false a1]
        exact Leave.pure rfl (by simp only [wx, Nat.reduceAdd, Nat.reduceEqDiff, Nat.reduceLT, Nat.reduceMul, Nat.reduceLeDiff, Int.reduceEq, ↓reduceIte, reduceCtorEq, ne_eq, implies_true, if_true, if_false, ite_not, hn]) ((Ext.refl _).alloc _) rfl
      simp only [wx, Nat.reduceAdd, Nat.reduceEqDiff, Nat.reduceLT, Nat.reduceMul, Nat.reduceLeDiff, Int.reduceEq, ↓reduceIte, reduceCtorEq, ne_eq, implies_true, if_true, if_false, ite_not, Tryd.ntmps34, List.length_map, d1, d2, decide_eq_false k80, decide_eq_false k82, decide_eq_false k84, decide_eq_false k81, decide_eq_false k85, decide_eq_true a0, decide_eq_true a1]
      have hn : nodeB x = true := by rw [hfe]; unfold fieldsB; simp [k80, k82, k84, k81, k85, a0, a1]
      exact Leave.pure rfl (by simp only [wx, Nat.reduceAdd, Nat.reduceEqDiff, Nat.reduceLT, Nat.reduceMul, Nat.reduceLeDiff, Int.reduceEq, ↓reduceIte, reduceCtorEq, ne_eq, implies_true, if_true, if_false, ite_not, hn]) ((Ext.refl _).alloc _) rfl
  · have d1 : decide ((m : Int) = -2) = false := decide_eq_false (by omega)
    have d2 : decide ((0 : Int) ≤ (m : Int)) = true := decide_eq_true (by omega)
    by_cases hm : m = x.kids.length
    case neg =>
      have hn : nodeB x = false := by rw [hfe, decide_eq_false (by simpa using hm)]; rfl
      have d3 : decide ((x.kids.length : Int) = (m : Int)) = false := decide_eq_false (by omega)
      refine Ev.sound 100 _ _ _ _ ?_
      simp only [wx, Nat.reduceAdd, Nat.reduceEqDiff, Nat.reduceLT, Nat.reduceMul, Nat.reduceLeDiff, Int.reduceEq, ↓reduceIte, reduceCtorEq, ne_eq, implies_true, if_true, if_false, ite_not, Tryd.ntmps34, List.length_map, d1, d2, d3]
      exact Leave.pure rfl (by simp only [wx, Nat.reduceAdd, Nat.reduceEqDiff, Nat.reduceLT, Nat.reduceMul, Nat.reduceLeDiff, Int.reduceEq, ↓reduceIte, reduceCtorEq, ne_eq, implies_true, if_true, if_false, ite_not, hn]) ((Ext.refl _).alloc _) rfl
    subst hm
    have d3 : decide ((x.kids.length : Int) = (x.kids.length : Int)) = true := decide_eq_true rfl
    rw [decide_eq_true rfl, Bool.true_and] at hfe
    refine Ev.sound 100 _ _ _ _ ?_
    by_cases k80 : x.kind = 80
    case pos =>
      by_cases a0 : 0 ≤ x.num
      case neg =>
        have hn : nodeB x = false := by rw [hfe]; unfold fieldsB; simp [k80, a0]
        simp only [wx, Nat.reduceAdd, Nat.reduceEqDiff, Nat.reduceLT, Nat.reduceMul, Nat.reduceLeDiff, Int.reduceEq, ↓reduceIte, reduceCtorEq, ne_eq, implies_true, if_true, if_false, ite_not, Tryd.ntmps34, List.length_map, d1, d2, d3, decide_eq_true k80, decide_eq_false a0]
        exact Leave.pure rfl (by simp only [wx, Nat.reduceAdd, Nat.reduceEqDiff, Nat.reduceLT, Nat.reduceMul, Nat.reduceLeDiff, Int.reduceEq, ↓reduceIte, reduceCtorEq, ne_eq, implies_true, if_true, if_false, ite_not, hn]) ((Ext.refl _).alloc _) rfl
      by_cases a1 : x.name = ⟨#[]⟩
      case neg =>
        have hn : nodeB x = false := by rw [hfe]; unfold fieldsB; simp [k80, a1]
        simp only [wx, Nat.reduceAdd, Nat.reduceEqDiff, Nat.reduceLT, Nat.reduceMul, Nat.reduceLeDiff, Int.reduceEq, ↓reduceIte, reduceCtorEq, ne_eq, implies_true, if_true, if_false, ite_not, Tryd.ntmps34, List.length_map, d1, d2, d3, decide_eq_true k80, decide_eq_true a0, decide_eq_false a1]
        exact Leave.pure rfl (by simp only [wx, Nat.reduceAdd, Nat.reduceEqDiff, Nat.reduceLT, Nat.reduceMul, Nat.reduceLeDiff, Int.reduceEq, ↓reduceIte, reduceCtorEq, ne_eq, implies_true, if_true, if_false, ite_not, hn]) ((Ext.refl _).alloc _) rfl
      simp only [wx, Nat.reduceAdd, Nat.reduceEqDiff, Nat.reduceLT, Nat.reduceMul, Nat.reduceLeDiff, Int.reduceEq, ↓reduceIte, reduceCtorEq, ne_eq, implies_true, if_true, if_false, ite_not, Tryd.ntmps34, List.length_map, d1, d2, d3, decide_eq_true k80, decide_eq_true a0, decide_eq_true a1]
      have hn : nodeB x = true := by rw [hfe]; unfold fieldsB; simp [k80, a0, a1]
      exact Leave.pure rfl (by simp only [wx, Nat.reduceAdd, Nat.reduceEqDiff, Nat.reduceLT, Nat.reduceMul, Nat.reduceLeDiff, Int.reduceEq, ↓reduceIte, reduceCtorEq, ne_eq, implies_true, if_true, if_false, ite_not, hn]) ((Ext.refl _).alloc _) rfl
    by_cases k82 : x.kind = 82
    case pos =>
      by_cases a0 : 8 ≤ x.num
      case neg =>
        have hn : nodeB x = false := by rw [hfe]; unfold fieldsB; simp [k80, k82, a0]
        simp only [wx, Nat.reduceAdd, Nat.reduceEqDiff, Nat.reduceLT, Nat.reduceMul, Nat.reduceLeDiff, Int.reduceEq, ↓reduceIte, reduceCtorEq, ne_eq, implies_true, if_true, if_false, ite_not, Tryd.ntmps34, List.length_map, d1, d2, d3, decide_eq_false k80, decide_eq_true k82, decide_eq_false a0]
        exact Leave.pure rfl (by simp only [wx, Nat.reduceAdd, Nat.reduceEqDiff, Nat.reduceLT, Nat.reduceMul, Nat.reduceLeDiff, Int.reduceEq, ↓reduceIte, reduceCtorEq, ne_eq, implies_true, if_true, if_false, ite_not, hn]) ((Ext.refl _).alloc _) rfl
      by_cases a1 : x.num ≤ 23
      case neg =>
        have hn : nodeB x = false := by rw [hfe]; unfold fieldsB; simp [k80, k82, a1]
        simp only [wx, Nat.reduceAdd, Nat.reduceEqDiff, Nat.reduceLT, Nat.reduceMul, Nat.reduceLeDiff, Int.reduceEq, ↓reduceIte, reduceCtorEq, ne_eq, implies_true, if_true, if_false, ite_not, Tryd.ntmps34, List.length_map, d1, d2, d3, decide_eq_false k80, decide_eq_true k82, decide_eq_true a0, decide_eq_false a1]
        exact Leave.pure rfl (by simp only [wx, Nat.reduceAdd, Nat.reduceEqDiff, Nat.reduceLT, Nat.reduceMul, Nat.reduceLeDiff, Int.reduceEq, ↓reduceIte, reduceCtorEq, ne_eq, implies_true, if_true, if_false, ite_not, hn]) ((Ext.refl _).alloc _) rfl
      by_cases a2 : x.name = ⟨#[]⟩
      case neg =>
        have hn : nodeB x = false := by rw [hfe]; unfold fieldsB; simp [k80, k82, a2]
        simp only [wx, Nat.reduceAdd, Nat.reduceEqDiff, Nat.reduceLT, Nat.reduceMul, Nat.reduceLeDiff, Int.reduceEq, ↓reduceIte, reduceCtorEq, ne_eq, implies_true, if_true, if_false, ite_not, Tryd.ntmps34, List.length_map, d1, d2, d3, decide_eq_false k80, decide_eq_true k82, decide_eq_true a0, decide_eq_true a1, decide_eq_false a2]
        exact Leave.pure rfl (by simp only [wx, Nat.reduceAdd, Nat.reduceEqDiff, Nat.reduceLT, Nat.reduceMul, Nat.reduceLeDiff, Int.reduceEq, ↓reduceIte, reduceCtorEq, ne_eq, implies_true, if_true, if_false, ite_not, hn]) ((Ext.refl _).alloc _) rfl
      simp only [wx, Nat.reduceAdd, Nat.reduceEqDiff, Nat.reduceLT, Nat.reduceMul, Nat.reduceLeDiff, Int.reduceEq, ↓reduceIte, reduceCtorEq, ne_eq, implies_true, if_true, if_false, ite_not, Tryd.ntmps34, List.length_map, d1, d2, d3, decide_eq_false k80, decide_eq_true k82, decide_eq_true a0, decide_eq_true a1, decide_eq_true a2]
      have hn : nodeB x = true := by rw [hfe]; unfold fieldsB; simp [k80, k82, a0, a1, a2]
      exact Leave.pure rfl (by simp only [wx, Nat.reduceAdd, Nat.reduceEqDiff, Nat.reduceLT, Nat.reduceMul, Nat.reduceLeDiff, Int.reduceEq, ↓reduceIte, reduceCtorEq, ne_eq, implies_true, if_true, if_false, ite_not, hn]) ((Ext.refl _).alloc _) rfl
    by_cases k84 : x.kind = 84
    case pos =>
      by_cases a0 : x.num = 0
      case neg =>
        have hn : nodeB x = false := by rw [hfe]; unfold fieldsB; simp [k80, k82, k84, a0]
        simp only [wx, Nat.reduceAdd, Nat.reduceEqDiff, Nat.reduceLT, Nat.reduceMul, Nat.reduceLeDiff, Int.reduceEq, ↓reduceIte, reduceCtorEq, ne_eq, implies_true, if_true, if_false, ite_not, Tryd.ntmps34, List.length_map, d1, d2, d3, decide_eq_false k80, decide_eq_false k82, decide_eq_true k84, decide_eq_false a0]
        exact Leave.pure rfl (by simp only [wx, Nat.reduceAdd, Nat.reduceEqDiff, Nat.reduceLT, Nat.reduceMul, Nat.reduceLeDiff, Int.reduceEq, ↓reduceIte, reduceCtorEq, ne_eq, implies_true, if_true, if_false, ite_not, hn]) ((Ext.refl _).alloc _) rfl
      simp only [wx, Nat.reduceAdd, Nat.reduceEqDiff, Nat.reduceLT, Nat.reduceMul, Nat.reduceLeDiff, Int.reduceEq, ↓reduceIte, reduceCtorEq, ne_eq, implies_true, if_true, if_false, ite_not, Tryd.ntmps34, List.length_map, d1, d2, d3, decide_eq_false k80, decide_eq_false k82, decide_eq_true k84, decide_eq_true a0]
      refine Stop.fact (ac25 x.name hw.name _) rfl (by simp only [wx, Nat.reduceAdd, Nat.reduceEqDiff, Nat.reduceLT, Nat.reduceMul, Nat.reduceLeDiff, Int.reduceEq, ↓reduceIte, reduceCtorEq, ne_eq, implies_true, if_true, if_false, ite_not, awanted]; rfl) (by simp only [wx, Nat.reduceAdd, Nat.reduceEqDiff, Nat.reduceLT, Nat.reduceMul, Nat.reduceLeDiff, Int.reduceEq, ↓reduceIte, reduceCtorEq, ne_eq, implies_true, if_true, if_false, ite_not, Tryd.ntmps34]) (caps := []) (by simp only [wx, Nat.reduceAdd, Nat.reduceEqDiff, Nat.reduceLT, Nat.reduceMul, Nat.reduceLeDiff, Int.reduceEq, ↓reduceIte, reduceCtorEq, ne_eq, implies_true, if_true, if_false, ite_not]) en_25 (by simp only [wx, Nat.reduceAdd, Nat.reduceEqDiff, Nat.reduceLT, Nat.reduceMul, Nat.reduceLeDiff, Int.reduceEq, ↓reduceIte, reduceCtorEq, ne_eq, implies_true, if_true, if_false, ite_not]) ?_
      refine Ev.sound 100 _ _ _ _ ?_
      have hn : nodeB x = nameB x.name := by rw [hfe]; unfold fieldsB; simp [k80, k82, k84, a0]
      simp only [wx, Nat.reduceAdd, Nat.reduceEqDiff, Nat.reduceLT, Nat.reduceMul, Nat.reduceLeDiff, Int.reduceEq, ↓reduceIte, reduceCtorEq, ne_eq, implies_true, if_true, if_false, ite_not, Tryd.ntmps34, List.length_map]
      exact Leave.pure rfl (by simp only [wx, Nat.reduceAdd, Nat.reduceEqDiff, Nat.reduceLT, Nat.reduceMul, Nat.reduceLeDiff, Int.reduceEq, ↓reduceIte, reduceCtorEq, ne_eq, implies_true, if_true, if_false, ite_not, hn]) ((Ext.refl _).alloc _) rfl
    by_cases k81 : x.kind = 81
    case pos =>
      by_cases a0 : x.num = 0
      case neg =>
        have hn : nodeB x = false := by rw [hfe]; unfold fieldsB; simp [k80, k82, k84, k81, a0]
        simp only [wx, Nat.reduceAdd, Nat.reduceEqDiff, Nat.reduceLT, Nat.reduceMul, Nat.reduceLeDiff, Int.reduceEq, ↓reduceIte, reduceCtorEq, ne_eq, implies_true, if_true, if_false, ite_not, Tryd.ntmps34, List.length_map, d1, d2, d3, decide_eq_false k80, decide_eq_false k82, decide_eq_false k84, decide_eq_true k81, decide_eq_false a0]
        exact Leave.pure rfl (by simp only [wx, Nat.reduceAdd, Nat.reduceEqDiff, Nat.reduceLT, Nat.reduceMul, Nat.reduceLeDiff, Int.reduceEq, ↓reduceIte, reduceCtorEq, ne_eq, implies_true, if_true, if_false, ite_not, hn]) ((Ext.refl _).alloc _) rfl
      simp only [wx, Nat.reduceAdd, Nat.reduceEqDiff, Nat.reduceLT, Nat.reduceMul, Nat.reduceLeDiff, Int.reduceEq, ↓reduceIte, reduceCtorEq, ne_eq, implies_true, if_true, if_false, ite_not, Tryd.ntmps34, List.length_map, d1, d2, d3, decide_eq_false k80, decide_eq_false k82, decide_eq_false k84, decide_eq_true k81, decide_eq_true a0]
      have hn : nodeB x = true := by rw [hfe]; unfold fieldsB; simp [k80, k82, k84, k81, a0]
      exact Leave.pure rfl (by simp only [wx, Nat.reduceAdd, Nat.reduceEqDiff, Nat.reduceLT, Nat.reduceMul, Nat.reduceLeDiff, Int.reduceEq, ↓reduceIte, reduceCtorEq, ne_eq, implies_true, if_true, if_false, ite_not, hn]) ((Ext.refl _).alloc _) rfl
    by_cases k85 : x.kind = 85
    case pos =>
      by_cases a0 : x.num = 0
      case neg =>
        have hn : nodeB x = false := by rw [hfe]; unfold fieldsB; simp [k80, k82, k84, k81, k85, a0]
        simp only [wx, Nat.reduceAdd, Nat.reduceEqDiff, Nat.reduceLT, Nat.reduceMul, Nat.reduceLeDiff, Int.reduceEq, ↓reduceIte, reduceCtorEq, ne_eq, implies_true, if_true, if_false, ite_not, Tryd.ntmps34, List.length_map, d1, d2, d3, decide_eq_false k80, decide_eq_false k82, decide_eq_false k84, decide_eq_false k81, decide_eq_true k85, decide_eq_false a0]
        exact Leave.pure rfl (by simp only [wx, Nat.reduceAdd, Nat.reduceEqDiff, Nat.reduceLT, Nat.reduceMul, Nat.reduceLeDiff, Int.reduceEq, ↓reduceIte, reduceCtorEq, ne_eq, implies_true, if_true, if_false, ite_not, hn]) ((Ext.refl _).alloc _) rfl
      simp only [wx, Nat.reduceAdd, Nat.reduceEqDiff, Nat.reduceLT, Nat.reduceMul, Nat.reduceLeDiff, Int.reduceEq, ↓reduceIte, reduceCtorEq, ne_eq, implies_true, if_true, if_false, ite_not, Tryd.ntmps34, List.length_map, d1, d2, d3, decide_eq_false k80, decide_eq_false k82, decide_eq_false k84, decide_eq_false k81, decide_eq_true k85, decide_eq_true a0]
      have hn : nodeB x = true := by rw [hfe]; unfold fieldsB; simp [k80, k82, k84, k81, k85, a0]
      exact Leave.pure rfl (by simp only [wx, Nat.reduceAdd, Nat.reduceEqDiff, Nat.reduceLT, Nat.reduceMul, Nat.reduceLeDiff, Int.reduceEq, ↓reduceIte, reduceCtorEq, ne_eq, implies_true, if_true, if_false, ite_not, hn]) ((Ext.refl _).alloc _) rfl
    case neg =>
      by_cases a0 : x.num = 0
      case neg =>
        have hn : nodeB x = false := by rw [hfe]; unfold fieldsB; simp [k80, k82, k84, k81, k85, a0]
        simp only [wx, Nat.reduceAdd, Nat.reduceEqDiff, Nat.reduceLT, Nat.reduceMul, Nat.reduceLeDiff, Int.reduceEq, ↓reduceIte, reduceCtorEq, ne_eq, implies_true, if_true, if_false, ite_not, Tryd.ntmps34, List.length_map, d1, d2, d3, decide_eq_false k80, decide_eq_false k82, decide_eq_false k84, decide_eq_false k81, decide_eq_false k85, decide_eq_false a0]
        exact Leave.pure rfl (by simp only [wx, Nat.reduceAdd, Nat.reduceEqDiff, Nat.reduceLT, Nat.reduceMul, Nat.reduceLeDiff, Int.reduceEq, ↓reduceIte, reduceCtorEq, ne_eq, implies_true, if_true, if_false, ite_not, hn]) ((Ext.refl _).alloc _) rfl
      by_cases a1 : x.name = ⟨#[]⟩
      case neg =>
        have hn : nodeB x = false := by rw [hfe]; unfold fieldsB; simp [k80, k82, k84, k81, k85, a1]
        simp only [wx, Nat.reduceAdd, Nat.reduceEqDiff, Nat.reduceLT, Nat.reduceMul, Nat.reduceLeDiff, Int.reduceEq, ↓reduceIte, reduceCtorEq, ne_eq, implies_true, if_true, if_false, ite_not, Tryd.ntmps34, List.length_map, d1, d2, d3, decide_eq_false k80, decide_eq_false k82, decide_eq_false k84, decide_eq_false k81, decide_eq_false k85, decide_eq_true a0, decide_eq_false a1]
        exact Leave.pure rfl (by simp only [wx, Nat.reduceAdd, Nat.reduceEqDiff, Nat.reduceLT, Nat.reduceMul, Nat.reduceLeDiff, Int.reduceEq, ↓reduceIte, reduceCtorEq, ne_eq, implies_true, if_true, if_false, ite_not, hn]) ((Ext.refl _).alloc _) rfl
      simp only [wx, Nat.reduceAdd, Nat.reduceEqDiff, Nat.reduceLT, Nat.reduceMul, Nat.reduceLeDiff, Int.reduceEq, ↓reduceIte, reduceCtorEq, ne_eq, implies_true, if_true, if_false, ite_not, Tryd.ntmps34, List.length_map, d1, d2, d3, decide_eq_false k80, decide_eq_false k82, decide_eq_false k84, decide_eq_false k81, decide_eq_false k85, decide_eq_true a0, decide_eq_true a1]
      have hn : nodeB x = true := by rw [hfe]; unfold fieldsB; simp [k80, k82, k84, k81, k85, a0, a1]
      exact Leave.pure rfl (by simp only [wx, Nat.reduceAdd, Nat.reduceEqDiff, Nat.reduceLT, Nat.reduceMul, Nat.reduceLeDiff, Int.reduceEq, ↓reduceIte, reduceCtorEq, ne_eq, implies_true, if_true, if_false, ite_not, hn]) ((Ext.refl _).alloc _) rfl
theorem ac17 (x : Node) : x.wf → ∀ h : AHeap, AC sd 17 [.agg x.enc] h (Pure1 (.bool (formB x)) h) := by
  intro hw h
  refine AC.pure Tryd.func17 rfl Tryd.ntmps17 (by show 1 ≤ 21; decide) ?_
  refine Ev.sound 100 _ _ _ _ ?_
  simp only [argFr, enc_eq]
  simp only [wx, Nat.reduceAdd, Nat.reduceEqDiff, Nat.reduceLT, Nat.reduceMul, Nat.reduceLeDiff, Int.reduceEq, ↓reduceIte, reduceCtorEq, ne_eq, implies_true, if_true, if_false, ite_not, Tryd.ntmps17]
  refine Stop.fact (ac34 x hw _) rfl rfl (by simp only [wx, Nat.reduceAdd, Nat.reduceEqDiff, Nat.reduceLT, Nat.reduceMul, Nat.reduceLeDiff, Int.reduceEq, ↓reduceIte, reduceCtorEq, ne_eq, implies_true, if_true, if_false, ite_not, Tryd.ntmps17]) (caps := []) (by simp only [wx, Nat.reduceAdd, Nat.reduceEqDiff, Nat.reduceLT, Nat.reduceMul, Nat.reduceLeDiff, Int.reduceEq, ↓reduceIte, reduceCtorEq, ne_eq, implies_true, if_true, if_false, ite_not]) en_34 (by simp only [wx, Nat.reduceAdd, Nat.reduceEqDiff, Nat.reduceLT, Nat.reduceMul, Nat.reduceLeDiff, Int.reduceEq, ↓reduceIte, reduceCtorEq, ne_eq, implies_true, if_true, if_false, ite_not, enc_eq, fgt_mapenc]) ?_
  refine Ev.sound 100 _ _ _ _ ?_
  have hfe := formB_eq x
  have hlen := hw.len
  cases hnb : nodeB x
  case false =>
    have hn : formB x = false := by rw [hfe, hnb]; rfl
    simp only [wx, Nat.reduceAdd, Nat.reduceEqDiff, Nat.reduceLT, Nat.reduceMul, Nat.reduceLeDiff, Int.reduceEq, ↓reduceIte, reduceCtorEq, ne_eq, implies_true, if_true, if_false, ite_not, Tryd.ntmps17, hnb]
    exact Leave.pure rfl (by simp only [wx, Nat.reduceAdd, Nat.reduceEqDiff, Nat.reduceLT, Nat.reduceMul, Nat.reduceLeDiff, Int.reduceEq, ↓reduceIte, reduceCtorEq, ne_eq, implies_true, if_true, if_false, ite_not, hn]) ((Ext.refl _).alloc _) rfl
  rw [hnb, Bool.true_and] at hfe
  simp only [wx, Nat.reduceAdd, Nat.reduceEqDiff, Nat.reduceLT, Nat.reduceMul, Nat.reduceLeDiff, Int.reduceEq, ↓reduceIte, reduceCtorEq, ne_eq, implies_true, if_true, if_false, ite_not, Tryd.ntmps17, hnb]
  refine Stop.round (σ := Nat) (fun k => x.kids.length - k) (fun k => [(1, .ptr h.next 0), (3, .int .i64 k)]) (fun k h1 => k ≤ x.kids.length ∧ h1 = h.alloc (.cells [.int .u8 x.kind, .int .i64 x.num, .str x.name, kslice 4 (x.kids.map Node.enc)]) ∧ x.kids.all formB = (x.kids.drop k).all formB) 0 ⟨Nat.zero_le _, rfl, rfl⟩ ?_ ?_
  · simp only [wx, Nat.reduceAdd, Nat.reduceEqDiff, Nat.reduceLT, Nat.reduceMul, Nat.reduceLeDiff, Int.reduceEq, ↓reduceIte, reduceCtorEq, ne_eq, implies_true, if_true, if_false, ite_not, Int.ofNat_zero, Int.natCast_zero]
  rintro k _ ⟨hk, rfl, hp⟩ next
  refine Ev.sound 100 _ _ _ _ ?_
  rcases turn x.kids k hk with ⟨y, hy, hmem, hlt, c1, c2⟩ | ⟨rfl, c1⟩
  · have hys := kid_size hmem
    have w1 := wrap_succ k (by omega)
    rw [drop_turn hy, List.all_cons] at hp
    simp only [wx, Nat.reduceAdd, Nat.reduceEqDiff, Nat.reduceLT, Nat.reduceMul, Nat.reduceLeDiff, Int.reduceEq, ↓reduceIte, reduceCtorEq, ne_eq, implies_true, if_true, if_false, ite_not, Tryd.ntmps17, c1, c2, List.length_map, getD_map Node.enc hy, enc_eq y]
    refine Stop.fact (ac17 y (hw.kid hmem) _) rfl rfl (by simp only [wx, Nat.reduceAdd, Nat.reduceEqDiff, Nat.reduceLT, Nat.reduceMul, Nat.reduceLeDiff, Int.reduceEq, ↓reduceIte, reduceCtorEq, ne_eq, implies_true, if_true, if_false, ite_not, Tryd.ntmps17]) (caps := []) (by simp only [wx, Nat.reduceAdd, Nat.reduceEqDiff, Nat.reduceLT, Nat.reduceMul, Nat.reduceLeDiff, Int.reduceEq, ↓reduceIte, reduceCtorEq, ne_eq, implies_true, if_true, if_false, ite_not]) en_17 (by simp only [wx, Nat.reduceAdd, Nat.reduceEqDiff, Nat.reduceLT, Nat.reduceMul, Nat.reduceLeDiff, Int.reduceEq, ↓reduceIte, reduceCtorEq, ne_eq, implies_true, if_true, if_false, ite_not, enc_eq y, fgt_mapenc]) ?_
    refine Ev.sound 100 _ _ _ _ ?_
    cases hb : formB y
    case false =>
      have hn : formB x = false := by rw [hfe, hp, hb]; rfl
      simp only [wx, Nat.reduceAdd, Nat.reduceEqDiff, Nat.reduceLT, Nat.reduceMul, Nat.reduceLeDiff, Int.reduceEq, ↓reduceIte, reduceCtorEq, ne_eq, implies_true, if_true, if_false, ite_not, Tryd.ntmps17, hb]
      exact Leave.pure rfl (by simp only [wx, Nat.reduceAdd, Nat.reduceEqDiff, Nat.reduceLT, Nat.reduceMul, Nat.reduceLeDiff, Int.reduceEq, ↓reduceIte, reduceCtorEq, ne_eq, implies_true, if_true, if_false, ite_not, hn]) ((Ext.refl _).alloc _) rfl
    simp only [wx, Nat.reduceAdd, Nat.reduceEqDiff, Nat.reduceLT, Nat.reduceMul, Nat.reduceLeDiff, Int.reduceEq, ↓reduceIte, reduceCtorEq, ne_eq, implies_true, if_true, if_false, ite_not, Tryd.ntmps17, hb, w1]
    exact next (k + 1) _ _ (by omega) ⟨hlt, rfl, by rw [hp, hb]; rfl⟩ (by simp only [wx, Nat.reduceAdd, Nat.reduceEqDiff, Nat.reduceLT, Nat.reduceMul, Nat.reduceLeDiff, Int.reduceEq, ↓reduceIte, reduceCtorEq, ne_eq, implies_true, if_true, if_false, ite_not])
  · rw [List.drop_length, List.all_nil] at hp
    have hn : formB x = true := by rw [hfe, hp]
    simp only [wx, Nat.reduceAdd, Nat.reduceEqDiff, Nat.reduceLT, Nat.reduceMul, Nat.reduceLeDiff, Int.reduceEq, ↓reduceIte, reduceCtorEq, ne_eq, implies_true, if_true, if_false, ite_not, Tryd.ntmps17, c1, List.length_map]
    exact Leave.pure rfl (by simp only [wx, Nat.reduceAdd, Nat.reduceEqDiff, Nat.reduceLT, Nat.reduceMul, Nat.reduceLeDiff, Int.reduceEq, ↓reduceIte, reduceCtorEq, ne_eq, implies_true, if_true, if_false, ite_not, hn]) ((Ext.refl _).alloc _) rfl
 termination_by x.size
end Go.Proofs.YtajknofacjiddaaDoor.Abs

/- Slices that are equal. -/
namespace Go.Proofs.YtajknofacjiddaaDoor.Abs
open Go Go.RowKit
set_option linter.unusedSimpArgs false
set_option linter.unusedVariables false
set_option maxHeartbeats 4000000
set_option maxRecDepth 100000
theorem drop_eq_turn {α : Type} {xs ys : List α} {k : Nat} {x y : α} (hx : xs[k]? = some x) (hy : ys[k]? = some y) : (xs.drop k = ys.drop k) ↔ (x = y ∧ xs.drop (k + 1) = ys.drop (k + 1)) := by
  rw [drop_turn hx, drop_turn hy, List.cons.injEq]
theorem ac61 (xs ys : List Bool) (hl : xs.length ≤ 1048576) (hl2 : ys.length ≤ 1048576) (h : AHeap) : AC sd 61 [vbools xs, vbools ys] h (Pure1 (.bool (decide (xs = ys))) h) := by
  refine AC.pure Tryd.func61 rfl Tryd.ntmps61 (by show 2 ≤ 26; decide) ?_
  refine Ev.sound 100 _ _ _ _ ?_
  simp only [argFr, vbools]
  by_cases hle : xs.length = ys.length
  case neg =>
    have d1 : decide ((xs.length : Int) = ys.length) = false := decide_eq_false (by omega)
    have hn : decide (xs = ys) = false := decide_eq_false (fun e => hle (by rw [e]))
    simp only [wx, Nat.reduceAdd, Nat.reduceEqDiff, Nat.reduceLT, Nat.reduceMul, Nat.reduceLeDiff, Int.reduceEq, ↓reduceIte, reduceCtorEq, ne_eq, implies_true, if_true, if_false, ite_not, Tryd.ntmps61, List.length_map, d1]
    exact Leave.pure rfl (by simp only [wx, Nat.reduceAdd, Nat.reduceEqDiff, Nat.reduceLT, Nat.reduceMul, Nat.reduceLeDiff, Int.reduceEq, ↓reduceIte, reduceCtorEq, ne_eq, implies_true, if_true, if_false, ite_not, hn]) (Ext.refl _) rfl
  have d1 : decide ((xs.length : Int) = ys.length) = true := decide_eq_true (by omega)
  simp only [wx, Nat.reduceAdd, Nat.reduceEqDiff, Nat.reduceLT, Nat.reduceMul, Nat.reduceLeDiff, Int.reduceEq, ↓reduceIte, reduceCtorEq, ne_eq, implies_true, if_true, if_false, ite_not, Tryd.ntmps61, List.length_map, d1]
  refine Stop.round (σ := Nat) (fun k => xs.length - k) (fun k => [(0, kslice 1 (xs.map fun b => [.bool b])), (1, kslice 1 (ys.map fun b => [.bool b])), (12, .int .i64 xs.length), (13, .int .i64 k)]) (fun k h1 => k ≤ xs.length ∧ h1 = h ∧ (xs = ys ↔ xs.drop k = ys.drop k)) 0 ⟨Nat.zero_le _, rfl, Iff.rfl⟩ ?_ ?_
  · simp only [wx, Nat.reduceAdd, Nat.reduceEqDiff, Nat.reduceLT, Nat.reduceMul, Nat.reduceLeDiff, Int.reduceEq, ↓reduceIte, reduceCtorEq, ne_eq, implies_true, if_true, if_false, ite_not, Int.ofNat_zero, Int.natCast_zero]
  rintro k _ ⟨hk, rfl, hp⟩ next
  refine Ev.sound 100 _ _ _ _ ?_
  rcases turn xs k hk with ⟨y, hy, hmem, hlt, c1, c2⟩ | ⟨rfl, c1⟩
  · obtain ⟨z, hz, _, hlt2, c3, _⟩ : ∃ z, ys[k]? = some z ∧ z ∈ ys ∧ k < ys.length ∧ ((k : Int) < (ys.length : Int)) = True ∧ (0 ≤ (k : Int)) = True := by
      rcases turn ys k (by omega) with h | h
      · exact h
      · omega
    have w1 := wrap_succ k (by omega)
    rw [drop_eq_turn hy hz] at hp
    simp only [wx, Nat.reduceAdd, Nat.reduceEqDiff, Nat.reduceLT, Nat.reduceMul, Nat.reduceLeDiff, Int.reduceEq, ↓reduceIte, reduceCtorEq, ne_eq, implies_true, if_true, if_false, ite_not, Tryd.ntmps61, c1, c2]
    refine Stop.drawn [(0, 0), (1, 0), (2, 0), (3, 0), (4, 0), (5, 0), (6, 0), (7, 0), (8, 0)] [[], [], [0, 1], [0, 1, 2], [], [], [4, 5], [4, 5, 6], [0, 1, 2, 3, 4, 5, 6, 7]] 90 (by kernel_rfl) ?_
    simp only [wx, Nat.reduceAdd, Nat.reduceEqDiff, Nat.reduceLT, Nat.reduceMul, Nat.reduceLeDiff, Int.reduceEq, ↓reduceIte, reduceCtorEq, ne_eq, implies_true, if_true, if_false, ite_not, Tryd.ntmps61, c1, c2, c3, List.length_map, getD_map (fun b : Bool => [AV.bool b]) hy, getD_map (fun b : Bool => [AV.bool b]) hz]
    by_cases q : y = z
    · subst q
      simp only [wx, Nat.reduceAdd, Nat.reduceEqDiff, Nat.reduceLT, Nat.reduceMul, Nat.reduceLeDiff, Int.reduceEq, ↓reduceIte, reduceCtorEq, ne_eq, implies_true, if_true, if_false, ite_not, beq_self_eq_true, w1]
      exact next (k + 1) _ _ (by omega) ⟨hlt, rfl, by rw [hp]; simp⟩ (by simp only [wx, Nat.reduceAdd, Nat.reduceEqDiff, Nat.reduceLT, Nat.reduceMul, Nat.reduceLeDiff, Int.reduceEq, ↓reduceIte, reduceCtorEq, ne_eq, implies_true, if_true, if_false, ite_not])
    · have hb : (y == z) = false := beq_eq_false_iff_ne.2 q
      have hn : decide (xs = ys) = false := decide_eq_false (fun e => q (hp.1 e).1)
      simp only [wx, Nat.reduceAdd, Nat.reduceEqDiff, Nat.reduceLT, Nat.reduceMul, Nat.reduceLeDiff, Int.reduceEq, ↓reduceIte, reduceCtorEq, ne_eq, implies_true, if_true, if_false, ite_not, hb]
      exact Leave.pure rfl (by simp only [wx, Nat.reduceAdd, Nat.reduceEqDiff, Nat.reduceLT, Nat.reduceMul, Nat.reduceLeDiff, Int.reduceEq, ↓reduceIte, reduceCtorEq, ne_eq, implies_true, if_true, if_false, ite_not, hn]) (Ext.refl _) rfl
  · rw [List.drop_length, hle, List.drop_length] at hp
    have hn : decide (xs = ys) = true := decide_eq_true (hp.2 rfl)
    simp only [wx, Nat.reduceAdd, Nat.reduceEqDiff, Nat.reduceLT, Nat.reduceMul, Nat.reduceLeDiff, Int.reduceEq, ↓reduceIte, reduceCtorEq, ne_eq, implies_true, if_true, if_false, ite_not, Tryd.ntmps61, c1]
    exact Leave.pure rfl (by simp only [wx, Nat.reduceAdd, Nat.reduceEqDiff, Nat.reduceLT, Nat.reduceMul, Nat.reduceLeDiff, Int.reduceEq, ↓reduceIte, reduceCtorEq, ne_eq, implies_true, if_true, if_false, ite_not, hn]) (Ext.refl _) rfl
end Go.Proofs.YtajknofacjiddaaDoor.Abs

/- Types of expressions: what is reckoned. -/
namespace Go.Proofs.YtajknofacjiddaaDoor.Abs
open Go Go.RowKit
set_option linter.unusedSimpArgs false
set_option linter.unusedVariables false
abbrev Typ := Env → Bool × Int
/-- All of them, from the left, up to the first error. -/
def runAll : List Typ → Env → List Bool × Int
  | [], _ => ([], 0)
  | f :: fs, env => if (f env).2 ≠ 0 then ([], (f env).2) else if (runAll fs env).2 ≠ 0 then ([], (runAll fs env).2) else ((f env).1 :: (runAll fs env).1, 0)
def allE (fs : List Typ) (want : List Bool) (env : Env) : Int :=
  if (runAll fs env).2 ≠ 0 then (runAll fs env).2 else if (runAll fs env).1 = want then 0 else 7
def branchesE (fs : List Typ) (env : Env) : Bool × Int :=
  if (runAll fs env).2 ≠ 0 then (false, (runAll fs env).2) else
  match (runAll fs env).1 with
  | [a, b, c] => if a = true ∨ b ≠ c then (false, 7) else (b, 0)
  | _ => (false, 0)
def bindE (s : ByteArray) (fs : List Typ) (env : Env) : Bool × Int :=
  if (env s).isSome then (false, 22) else
  match fs with
  | [f, g] => if (f env).2 ≠ 0 then (false, (f env).2) else g (envPut env s (f env).1)
  | _ => (false, 0)
def callE (lib : List Fn) (s : ByteArray) (fs : List Typ) (env : Env) : Bool × Int :=
  if find lib s < 0 then (false, 6) else
  match lib[(find lib s).toNat]? with
  | some x => if fs.length ≠ x.params.length then (false, 7) else (x.list, allE fs (x.params.map (·.list)) env)
  | none => (false, 0)
def stepE (lib : List Fn) (k : Int) (s : ByteArray) (fs : List Typ) (env : Env) : Bool × Int :=
  if k = 81 then (match env s with | none => (false, 6) | some b => (b, 0))
  else if k = 82 then (false, allE fs [false, false] env)
  else if k = 83 then branchesE fs env
  else if k = 84 then bindE s fs env
  else if k = 85 then callE lib s fs env
  else if k = 86 then (true, 0)
  else if k = 87 then (true, allE fs [false, true] env)
  else if k = 88 ∨ k = 90 then (false, allE fs [true] env)
  else if k = 89 then (true, allE fs [true] env)
  else (false, 0)
mutual
def chk (lib : List Fn) : Node → Typ
  | .mk k _ s ks => stepE lib k s (chks lib ks)
def chks (lib : List Fn) : List Node → List Typ
  | [] => []
  | x :: xs => chk lib x :: chks lib xs
end
theorem chks_eq (lib : List Fn) (ks : List Node) : chks lib ks = ks.map (chk lib) := by
  induction ks with
  | nil => rfl
  | cons x xs ih => simp [chks, ih]
theorem chk_eq (lib : List Fn) (x : Node) : chk lib x = stepE lib x.kind x.name (x.kids.map (chk lib)) := by
  cases x; rw [← chks_eq]; rfl
/-- The first ones had these types. -/
def pre (bs : List Bool) (r : List Bool × Int) : List Bool × Int := if r.2 ≠ 0 then ([], r.2) else (bs ++ r.1, 0)
theorem runAll_ok (fs : List Typ) (env : Env) : (runAll fs env).2 = 0 ∨ (runAll fs env).1 = [] := by
  cases fs with
  | nil => exact .inl rfl
  | cons f fs =>
    unfold runAll
    split
    · exact .inr rfl
    · split
      · exact .inr rfl
      · exact .inl rfl
theorem pre_nil (fs : List Typ) (env : Env) : pre [] (runAll fs env) = runAll fs env := by
  unfold pre
  split
  · rename_i h
    rcases runAll_ok fs env with h1 | h1
    · exact absurd h1 h
    · rw [← h1]
  · rename_i h
    have : (runAll fs env).2 = 0 := by omega
    rw [List.nil_append, ← this]
theorem pre_step {bs : List Bool} {f : Typ} {fs : List Typ} {env : Env} (h : (f env).2 = 0) : pre bs (runAll (f :: fs) env) = pre (bs ++ [(f env).1]) (runAll fs env) := by
  conv => lhs; rw [runAll, if_neg (by simp [h])]
  unfold pre
  by_cases q : (runAll fs env).2 = 0
  · simp [q]
  · simp [q]
theorem pre_err {bs : List Bool} {f : Typ} {fs : List Typ} {env : Env} (h : (f env).2 ≠ 0) : pre bs (runAll (f :: fs) env) = ([], (f env).2) := by
  rw [runAll, if_pos h]
  unfold pre
  rw [if_pos h]
/-- A slice that grows. -/
def gotV (q : Option Nat) (sz : Nat) (els : List (List AV)) : AV := match q with | none => .slice 0 [] .fixed | some q => .slice sz els (.tip q)
structure GotOk (h0 h : AHeap) (q : Option Nat) (n : Nat) : Prop where
  none : q = .none → n = 0
  some : ∀ t, q = .some t → h.tok t = n ∧ t < h.ntok ∧ h0.ntok ≤ t
def tyv (v : Bool × Int) : AV := .tup [.bool v.1, .int .i64 v.2]
/-- typing.visit answers as the specification at this tree. -/
def VisitAt (lib : List Fn) (x : Node) : Prop := ∀ (env : Env) (h : AHeap) (t m clk : Nat) (es : List AEnt), h.get t = some (.cells [vlib lib, .map m]) → h.get m = some (.map clk es) → EMap es env →
  AC sd 50 [.ptr t 0, .agg x.enc] h (MapPost h m env (tyv (chk lib x env)))
end Go.Proofs.YtajknofacjiddaaDoor.Abs

/- typing.all -/
namespace Go.Proofs.YtajknofacjiddaaDoor.Abs
open Go Go.RowKit
set_option linter.unusedSimpArgs false
set_option linter.unusedVariables false
set_option maxHeartbeats 4000000
set_option maxRecDepth 100000
theorem ac55 (lib : List Fn) (ks : List Node) (want : List Bool) (hv : ∀ y ∈ ks, VisitAt lib y) (hl : ks.length ≤ 1048576) (hl2 : want.length ≤ 1048576) (env : Env) (h : AHeap) (t m clk : Nat) (es : List AEnt) (ht : h.get t = some (.cells [vlib lib, .map m])) (hm : h.get m = some (.map clk es)) (hE : EMap es env) :
    AC sd 55 [.ptr t 0, kslice 4 (ks.map Node.enc), vbools want] h (MapPost h m env (.int .i64 (allE (ks.map (chk lib)) want env))) := by
  refine AC.mapped Tryd.func55 rfl Tryd.ntmps55 (by show 3 ≤ 36; decide) ?_
  refine Ev.sound 100 _ _ _ _ ?_
  simp only [argFr, vbools]
  have htm : t ≠ m := fun e => by rw [e, hm] at ht; cases ht
  have htn := get_lt h t ht
  have hmn := get_lt h m hm
  simp only [wx, Nat.reduceAdd, Nat.reduceEqDiff, Nat.reduceLT, Nat.reduceMul, Nat.reduceLeDiff, Int.reduceEq, ↓reduceIte, reduceCtorEq, ne_eq, implies_true, if_true, if_false, ite_not, Tryd.ntmps55]
  refine Stop.round (σ := List Bool × Option Nat) (fun s => ks.length - s.1.length) (fun s => [(0, .ptr t 0), (2, kslice 1 (want.map fun b => [.bool b])), (7, gotV s.2 1 (s.1.map fun b => [.bool b])), (12, kslice 4 (ks.map Node.enc)), (13, .int .i64 ks.length), (14, .int .i64 s.1.length)])
    (fun s h1 => s.1.length ≤ ks.length ∧ GotOk h h1 s.2 s.1.length ∧ runAll (ks.map (chk lib)) env = pre s.1 (runAll ((ks.drop s.1.length).map (chk lib)) env) ∧ ∃ clk es, Ext (h.set m (.map clk es)) h1 ∧ EMap es env) ([], none) ⟨Nat.zero_le _, ⟨fun _ => rfl, fun t e => by cases e⟩, (pre_nil _ _).symm, clk, es, ?_, hE⟩ ?_ ?_
  · have : h.set m (.map clk es) = h := set_same h hm
    rw [this]; exact Ext.refl h
  · simp only [wx, Nat.reduceAdd, Nat.reduceEqDiff, Nat.reduceLT, Nat.reduceMul, Nat.reduceLeDiff, Int.reduceEq, ↓reduceIte, reduceCtorEq, ne_eq, implies_true, if_true, if_false, ite_not, gotV, List.length_map, List.length_nil, Int.ofNat_zero, Int.natCast_zero]
  rintro ⟨bs, q⟩ h1 ⟨hk, hq, hr, clk, es, hx, hE⟩ next
  have ht1 : h1.get t = some (.cells [vlib lib, .map m]) := by rw [hx.get t (by rw [next_set]; exact htn), get_set, if_neg (fun e => htm e.1)]; exact ht
  have hm1 : h1.get m = some (.map clk es) := by rw [hx.get m (by rw [next_set]; exact hmn), get_set, if_pos ⟨rfl, hmn⟩]
  have n1 : (t = h1.next) = False := by have := get_lt h1 t ht1; simp; omega
  have n2 : (m = h1.next) = False := by have := get_lt h1 m hm1; simp; omega
  refine Ev.sound 100 _ _ _ _ ?_
  simp only at hk hq hr ⊢
  rcases turn ks bs.length hk with ⟨y, hy, hmem, hlt, c1, c2⟩ | ⟨hkk, c1⟩
  · have w1 := wrap_succ bs.length (by omega)
    rw [drop_turn hy, List.map_cons] at hr
    simp only [wx, Nat.reduceAdd, Nat.reduceEqDiff, Nat.reduceLT, Nat.reduceMul, Nat.reduceLeDiff, Int.reduceEq, ↓reduceIte, reduceCtorEq, ne_eq, implies_true, if_true, if_false, ite_not, Tryd.ntmps55, c1, c2, List.length_map, getD_map Node.enc hy, enc_eq y]
    refine Stop.mapped (hv y hmem env _ t m clk es ?_ ?_ hE) rfl rfl (by simp only [wx, Nat.reduceAdd, Nat.reduceEqDiff, Nat.reduceLT, Nat.reduceMul, Nat.reduceLeDiff, Int.reduceEq, ↓reduceIte, reduceCtorEq, ne_eq, implies_true, if_true, if_false, ite_not, Tryd.ntmps55]) (caps := []) (by simp only [wx, Nat.reduceAdd, Nat.reduceEqDiff, Nat.reduceLT, Nat.reduceMul, Nat.reduceLeDiff, Int.reduceEq, ↓reduceIte, reduceCtorEq, ne_eq, implies_true, if_true, if_false, ite_not]) en_50 (by simp only [wx, Nat.reduceAdd, Nat.reduceEqDiff, Nat.reduceLT, Nat.reduceMul, Nat.reduceLeDiff, Int.reduceEq, ↓reduceIte, reduceCtorEq, ne_eq, implies_true, if_true, if_false, ite_not, enc_eq y, fgt_mapenc]) ?_
    · simp only [wx, Nat.reduceAdd, Nat.reduceEqDiff, Nat.reduceLT, Nat.reduceMul, Nat.reduceLeDiff, Int.reduceEq, ↓reduceIte, reduceCtorEq, ne_eq, implies_true, if_true, if_false, ite_not, n1, ht1]
    · simp only [wx, Nat.reduceAdd, Nat.reduceEqDiff, Nat.reduceLT, Nat.reduceMul, Nat.reduceLeDiff, Int.reduceEq, ↓reduceIte, reduceCtorEq, ne_eq, implies_true, if_true, if_false, ite_not, n2, hm1]
    intro clk' es' hE'
    have hx2 := fun c => (hx.alloc (.cells c)).sets (by rw [next_set]; exact hmn) (.map clk' es')
    simp only [set_set] at hx2
    refine Ev.sound 100 _ _ _ _ ?_
    by_cases he : (chk lib y env).2 = 0
    case neg =>
      rw [pre_err he] at hr
      have hn : allE (ks.map (chk lib)) want env = (chk lib y env).2 := by unfold allE; rw [hr, if_pos he]
      simp only [wx, Nat.reduceAdd, Nat.reduceEqDiff, Nat.reduceLT, Nat.reduceMul, Nat.reduceLeDiff, Int.reduceEq, ↓reduceIte, reduceCtorEq, ne_eq, implies_true, if_true, if_false, ite_not, Tryd.ntmps55, tyv, decide_eq_false he]
      exact Leave.mapped rfl (by simp only [wx, Nat.reduceAdd, Nat.reduceEqDiff, Nat.reduceLT, Nat.reduceMul, Nat.reduceLeDiff, Int.reduceEq, ↓reduceIte, reduceCtorEq, ne_eq, implies_true, if_true, if_false, ite_not, oneOf, hn]) hmn hE' (hx2 _) rfl
    rw [pre_step he] at hr
    cases q with
    | none =>
      have hb : bs = [] := List.eq_nil_of_length_eq_zero (hq.none rfl)
      subst hb
      simp only [wx, Nat.reduceAdd, Nat.reduceEqDiff, Nat.reduceLT, Nat.reduceMul, Nat.reduceLeDiff, Int.reduceEq, ↓reduceIte, reduceCtorEq, ne_eq, implies_true, if_true, if_false, ite_not, Tryd.ntmps55, tyv, decide_eq_true he, gotV]
      refine ⟨⟨.inl trivial, .inr trivial⟩, ?_⟩
      have w1' : IntKind.i64.wrap 1 = 1 := by decide +kernel
      refine next ([(chk lib y env).1], some h1.ntok) _ _ (by simp only [List.length_cons, List.length_nil] at hlt ⊢; omega) ⟨hlt, ⟨fun e => (by cases e), fun t' e => ?_⟩, hr, clk', es', (hx2 _).newTok _, hE'⟩ ?_
      · cases e
        exact ⟨by simp only [wx, Nat.reduceAdd, Nat.reduceEqDiff, Nat.reduceLT, Nat.reduceMul, Nat.reduceLeDiff, Int.reduceEq, ↓reduceIte, reduceCtorEq, ne_eq, implies_true, if_true, if_false, ite_not], by simp only [wx, Nat.reduceAdd, Nat.reduceEqDiff, Nat.reduceLT, Nat.reduceMul, Nat.reduceLeDiff, Int.reduceEq, ↓reduceIte, reduceCtorEq, ne_eq, implies_true, if_true, if_false, ite_not, Nat.lt_succ_self], hx.ntok⟩
      · simp only [wx, Nat.reduceAdd, Nat.reduceEqDiff, Nat.reduceLT, Nat.reduceMul, Nat.reduceLeDiff, Int.reduceEq, ↓reduceIte, reduceCtorEq, ne_eq, implies_true, if_true, if_false, ite_not, gotV, Int.natCast_one, Int.natCast_zero]
        simp
        exact w1'
    | some q =>
      obtain ⟨q1, q2, q3⟩ := hq.some q rfl
      simp only [wx, Nat.reduceAdd, Nat.reduceEqDiff, Nat.reduceLT, Nat.reduceMul, Nat.reduceLeDiff, Int.reduceEq, ↓reduceIte, reduceCtorEq, ne_eq, implies_true, if_true, if_false, ite_not, Tryd.ntmps55, tyv, decide_eq_true he, gotV, q1, q2, List.length_map]
      refine ⟨⟨.inl trivial, by omega⟩, ?_⟩
      refine next (bs ++ [(chk lib y env).1], some q) _ _ (by simp only [List.length_append, List.length_cons, List.length_nil] at hlt ⊢; omega) ⟨by simp only [List.length_append, List.length_cons, List.length_nil]; omega, ⟨fun e => (by cases e), fun t' e => ?_⟩, by simpa using hr, clk', es', (hx2 _).setTok q3 _, hE'⟩ ?_
      · cases e
        refine ⟨?_, ?_, q3⟩
        · simp only [wx, Nat.reduceAdd, Nat.reduceEqDiff, Nat.reduceLT, Nat.reduceMul, Nat.reduceLeDiff, Int.reduceEq, ↓reduceIte, reduceCtorEq, ne_eq, implies_true, if_true, if_false, ite_not, q2, List.length_append, List.length_map]
        · simp only [wx, Nat.reduceAdd, Nat.reduceEqDiff, Nat.reduceLT, Nat.reduceMul, Nat.reduceLeDiff, Int.reduceEq, ↓reduceIte, reduceCtorEq, ne_eq, implies_true, if_true, if_false, ite_not, q2]
      · simp only [wx, Nat.reduceAdd, Nat.reduceEqDiff, Nat.reduceLT, Nat.reduceMul, Nat.reduceLeDiff, Int.reduceEq, ↓reduceIte, reduceCtorEq, ne_eq, implies_true, if_true, if_false, ite_not, gotV, w1, List.length_append, List.map_append]
  · have hle : ks.length ≤ bs.length := by omega
    rw [hkk, List.drop_length, List.map_nil] at hr
    have hr' : runAll (ks.map (chk lib)) env = (bs, 0) := by rw [hr]; simp [pre, runAll]
    have hfg : (gotV q 1 (bs.map fun b => [AV.bool b])).fgt = vbools bs := by
      cases q with
      | none =>
        have hb : bs = [] := List.eq_nil_of_length_eq_zero (hq.none rfl)
        subst hb; rfl
      | some q => simp only [gotV, fgt_slice, fgt_bools, vbools]
    simp only [wx, Nat.reduceAdd, Nat.reduceEqDiff, Nat.reduceLT, Nat.reduceMul, Nat.reduceLeDiff, Int.reduceEq, ↓reduceIte, reduceCtorEq, ne_eq, implies_true, if_true, if_false, ite_not, Tryd.ntmps55, c1]
    refine Stop.fact (ac61 bs want (by omega) hl2 _) rfl rfl (by simp only [wx, Nat.reduceAdd, Nat.reduceEqDiff, Nat.reduceLT, Nat.reduceMul, Nat.reduceLeDiff, Int.reduceEq, ↓reduceIte, reduceCtorEq, ne_eq, implies_true, if_true, if_false, ite_not, Tryd.ntmps55]) (caps := []) (by simp only [wx, Nat.reduceAdd, Nat.reduceEqDiff, Nat.reduceLT, Nat.reduceMul, Nat.reduceLeDiff, Int.reduceEq, ↓reduceIte, reduceCtorEq, ne_eq, implies_true, if_true, if_false, ite_not]) en_61 (by simp only [wx, Nat.reduceAdd, Nat.reduceEqDiff, Nat.reduceLT, Nat.reduceMul, Nat.reduceLeDiff, Int.reduceEq, ↓reduceIte, reduceCtorEq, ne_eq, implies_true, if_true, if_false, ite_not, hfg, vbools, fgt_bools]) ?_
    refine Ev.sound 100 _ _ _ _ ?_
    by_cases he : bs = want
    · have hn : allE (ks.map (chk lib)) want env = 0 := by unfold allE; rw [hr', if_neg (by simp), if_pos he]
      simp only [wx, Nat.reduceAdd, Nat.reduceEqDiff, Nat.reduceLT, Nat.reduceMul, Nat.reduceLeDiff, Int.reduceEq, ↓reduceIte, reduceCtorEq, ne_eq, implies_true, if_true, if_false, ite_not, Tryd.ntmps55, decide_eq_true he]
      exact Leave.mapped rfl (by simp only [wx, Nat.reduceAdd, Nat.reduceEqDiff, Nat.reduceLT, Nat.reduceMul, Nat.reduceLeDiff, Int.reduceEq, ↓reduceIte, reduceCtorEq, ne_eq, implies_true, if_true, if_false, ite_not, oneOf, hn]) hmn hE hx rfl
    · have hn : allE (ks.map (chk lib)) want env = 7 := by unfold allE; rw [hr', if_neg (by simp), if_neg he]
      simp only [wx, Nat.reduceAdd, Nat.reduceEqDiff, Nat.reduceLT, Nat.reduceMul, Nat.reduceLeDiff, Int.reduceEq, ↓reduceIte, reduceCtorEq, ne_eq, implies_true, if_true, if_false, ite_not, Tryd.ntmps55, decide_eq_false he]
      exact Leave.mapped rfl (by simp only [wx, Nat.reduceAdd, Nat.reduceEqDiff, Nat.reduceLT, Nat.reduceMul, Nat.reduceLeDiff, Int.reduceEq, ↓reduceIte, reduceCtorEq, ne_eq, implies_true, if_true, if_false, ite_not, oneOf, hn]) hmn hE hx rfl
end Go.Proofs.YtajknofacjiddaaDoor.Abs

/- typing.branches -/
namespace Go.Proofs.YtajknofacjiddaaDoor.Abs
open Go Go.RowKit
set_option linter.unusedSimpArgs false
set_option linter.unusedVariables false
set_option maxHeartbeats 4000000
set_option maxRecDepth 100000
def arr3 (bs : List Bool) : List AV := (bs.map AV.bool) ++ List.replicate (3 - bs.length) (.bool false)
theorem arr3_len (bs : List Bool) (h : bs.length ≤ 3) : (arr3 bs).length = 3 := by simp [arr3]; omega
theorem arr3_put (bs : List Bool) (b : Bool) (h : bs.length < 3) (id : Nat) (hp : AHeap) : storeM (some (.cells (arr3 bs))) id bs.length (some [.bool b]) 1 hp = some (hp.set id (.cells (arr3 (bs ++ [b])))) := by
  have e : asplice (arr3 bs) bs.length [.bool b] = arr3 (bs ++ [b]) := by
    match bs, h with
    | [], _ => rfl
    | [x], _ => rfl
    | [x, y], _ => rfl
  simp only [storeM, e]
  rw [if_pos ⟨rfl, by rw [arr3_len bs (by omega)]; simp; omega, rfl⟩]
theorem ac56 (lib : List Fn) (x : Node) (hv : ∀ y ∈ x.kids, VisitAt lib y) (hl : x.kids.length = 3) (env : Env) (h : AHeap) (t m clk : Nat) (es : List AEnt) (ht : h.get t = some (.cells [vlib lib, .map m])) (hm : h.get m = some (.map clk es)) (hE : EMap es env) :
    AC sd 56 [.ptr t 0, .agg x.enc] h (MapPost h m env (tyv (branchesE (x.kids.map (chk lib)) env))) := by
  refine AC.mapped Tryd.func56 rfl Tryd.ntmps56 (by show 2 ≤ 43; decide) ?_
  refine Ev.sound 100 _ _ _ _ ?_
  simp only [argFr, enc_eq]
  have htm : t ≠ m := fun e => by rw [e, hm] at ht; cases ht
  have htn := get_lt h t ht
  have hmn := get_lt h m hm
  simp only [wx, Nat.reduceAdd, Nat.reduceEqDiff, Nat.reduceLT, Nat.reduceMul, Nat.reduceLeDiff, Int.reduceEq, ↓reduceIte, reduceCtorEq, ne_eq, implies_true, if_true, if_false, ite_not, Tryd.ntmps56]
  refine Stop.round (σ := List Bool) (fun s => x.kids.length - s.length) (fun s => [(0, .ptr t 0), (6, .ptr (h.next + 1) 0), (12, kslice 4 (x.kids.map Node.enc)), (13, .int .i64 x.kids.length), (14, .int .i64 s.length)])
    (fun s h1 => s.length ≤ x.kids.length ∧ h1.get (h.next + 1) = some (.cells (arr3 s)) ∧ h.next + 1 < h1.next ∧ runAll (x.kids.map (chk lib)) env = pre s (runAll ((x.kids.drop s.length).map (chk lib)) env) ∧ ∃ clk es, Ext (h.set m (.map clk es)) h1 ∧ EMap es env) [] ⟨Nat.zero_le _, ?_, ?_, (pre_nil _ _).symm, clk, es, ?_, hE⟩ ?_ ?_
  · simp only [wx, Nat.reduceAdd, Nat.reduceEqDiff, Nat.reduceLT, Nat.reduceMul, Nat.reduceLeDiff, Int.reduceEq, ↓reduceIte, reduceCtorEq, ne_eq, implies_true, if_true, if_false, ite_not]; rfl
  · simp only [wx, Nat.reduceAdd, Nat.reduceEqDiff, Nat.reduceLT, Nat.reduceMul, Nat.reduceLeDiff, Int.reduceEq, ↓reduceIte, reduceCtorEq, ne_eq, implies_true, if_true, if_false, ite_not]
  · rw [set_same h hm]; exact ((Ext.refl h).alloc _).alloc _
  · simp only [wx, Nat.reduceAdd, Nat.reduceEqDiff, Nat.reduceLT, Nat.reduceMul, Nat.reduceLeDiff, Int.reduceEq, ↓reduceIte, reduceCtorEq, ne_eq, implies_true, if_true, if_false, ite_not, List.length_map, List.length_nil, Int.ofNat_zero, Int.natCast_zero]
  rintro bs h1 ⟨hk, ha, han, hr, clk, es, hx, hE⟩ next
  have ht1 : h1.get t = some (.cells [vlib lib, .map m]) := by rw [hx.get t (by rw [next_set]; exact htn), get_set, if_neg (fun e => htm e.1)]; exact ht
  have hm1 : h1.get m = some (.map clk es) := by rw [hx.get m (by rw [next_set]; exact hmn), get_set, if_pos ⟨rfl, hmn⟩]
  have n1 : (t = h1.next) = False := by have := get_lt h1 t ht1; simp; omega
  have n2 : (m = h1.next) = False := by have := get_lt h1 m hm1; simp; omega
  have n3 : (h.next + 1 = h1.next) = False := by simp; omega
  have n4 : (h.next + 1 = m) = False := by simp; omega
  refine Ev.sound 100 _ _ _ _ ?_
  rcases turn x.kids bs.length hk with ⟨y, hy, hmem, hlt, c1, c2⟩ | ⟨hkk, c1⟩
  · have w1 := wrap_succ bs.length (by omega)
    have c3 : ((bs.length : Int) < (3 : Nat)) = True := by simp; omega
    rw [drop_turn hy, List.map_cons] at hr
    simp only [wx, Nat.reduceAdd, Nat.reduceEqDiff, Nat.reduceLT, Nat.reduceMul, Nat.reduceLeDiff, Int.reduceEq, ↓reduceIte, reduceCtorEq, ne_eq, implies_true, if_true, if_false, ite_not, Tryd.ntmps56, c1, c2, List.length_map, getD_map Node.enc hy, enc_eq y]
    refine Stop.mapped (hv y hmem env _ t m clk es ?_ ?_ hE) rfl rfl (by simp only [wx, Nat.reduceAdd, Nat.reduceEqDiff, Nat.reduceLT, Nat.reduceMul, Nat.reduceLeDiff, Int.reduceEq, ↓reduceIte, reduceCtorEq, ne_eq, implies_true, if_true, if_false, ite_not, Tryd.ntmps56]) (caps := []) (by simp only [wx, Nat.reduceAdd, Nat.reduceEqDiff, Nat.reduceLT, Nat.reduceMul, Nat.reduceLeDiff, Int.reduceEq, ↓reduceIte, reduceCtorEq, ne_eq, implies_true, if_true, if_false, ite_not]) en_50 (by simp only [wx, Nat.reduceAdd, Nat.reduceEqDiff, Nat.reduceLT, Nat.reduceMul, Nat.reduceLeDiff, Int.reduceEq, ↓reduceIte, reduceCtorEq, ne_eq, implies_true, if_true, if_false, ite_not, enc_eq y, fgt_mapenc]) ?_
    · simp only [wx, Nat.reduceAdd, Nat.reduceEqDiff, Nat.reduceLT, Nat.reduceMul, Nat.reduceLeDiff, Int.reduceEq, ↓reduceIte, reduceCtorEq, ne_eq, implies_true, if_true, if_false, ite_not, n1, ht1]
    · simp only [wx, Nat.reduceAdd, Nat.reduceEqDiff, Nat.reduceLT, Nat.reduceMul, Nat.reduceLeDiff, Int.reduceEq, ↓reduceIte, reduceCtorEq, ne_eq, implies_true, if_true, if_false, ite_not, n2, hm1]
    intro clk' es' hE'
    have hx2 := fun c => (hx.alloc (.cells c)).sets (by rw [next_set]; exact hmn) (.map clk' es')
    simp only [set_set] at hx2
    refine Ev.sound 100 _ _ _ _ ?_
    by_cases he : (chk lib y env).2 = 0
    case neg =>
      rw [pre_err he] at hr
      have hn : branchesE (x.kids.map (chk lib)) env = (false, (chk lib y env).2) := by unfold branchesE; rw [hr, if_pos he]
      simp only [wx, Nat.reduceAdd, Nat.reduceEqDiff, Nat.reduceLT, Nat.reduceMul, Nat.reduceLeDiff, Int.reduceEq, ↓reduceIte, reduceCtorEq, ne_eq, implies_true, if_true, if_false, ite_not, Tryd.ntmps56, tyv, decide_eq_false he]
      exact Leave.mapped rfl (by simp only [wx, Nat.reduceAdd, Nat.reduceEqDiff, Nat.reduceLT, Nat.reduceMul, Nat.reduceLeDiff, Int.reduceEq, ↓reduceIte, reduceCtorEq, ne_eq, implies_true, if_true, if_false, ite_not, oneOf, hn, tyv]) hmn hE' (hx2 _) rfl
    rw [pre_step he] at hr
    simp only [wx, Nat.reduceAdd, Nat.reduceEqDiff, Nat.reduceLT, Nat.reduceMul, Nat.reduceLeDiff, Int.reduceEq, ↓reduceIte, reduceCtorEq, ne_eq, implies_true, if_true, if_false, ite_not, Tryd.ntmps56, tyv, decide_eq_true he, c2, c3, n3, n4, ha, Int.toNat_natCast, Nat.mul_one, arr3_put bs _ (by omega : bs.length < 3), false_and]
    refine next (bs ++ [(chk lib y env).1]) _ _ (by simp only [List.length_append, List.length_cons, List.length_nil]; omega) ⟨by simp only [List.length_append, List.length_cons, List.length_nil]; omega, ?_, ?_, by simpa using hr, clk', es', (hx2 _).set (by rw [next_set]; omega) _, hE'⟩ ?_
    · have n5 : (h.next + 1 < h1.next + 1) = True := by simp; omega
      simp only [wx, Nat.reduceAdd, Nat.reduceEqDiff, Nat.reduceLT, Nat.reduceMul, Nat.reduceLeDiff, Int.reduceEq, ↓reduceIte, reduceCtorEq, ne_eq, implies_true, if_true, if_false, ite_not, n5]
    · simp only [wx, Nat.reduceAdd, Nat.reduceEqDiff, Nat.reduceLT, Nat.reduceMul, Nat.reduceLeDiff, Int.reduceEq, ↓reduceIte, reduceCtorEq, ne_eq, implies_true, if_true, if_false, ite_not]; omega
    · simp only [wx, Nat.reduceAdd, Nat.reduceEqDiff, Nat.reduceLT, Nat.reduceMul, Nat.reduceLeDiff, Int.reduceEq, ↓reduceIte, reduceCtorEq, ne_eq, implies_true, if_true, if_false, ite_not, w1, List.length_append]
  · rw [hkk, List.drop_length, List.map_nil] at hr
    have hr' : runAll (x.kids.map (chk lib)) env = (bs, 0) := by rw [hr]; simp [pre, runAll]
    obtain ⟨a, b, c, hbs⟩ : ∃ a b c, bs = [a, b, c] := by
      match bs, (by omega : bs.length = 3) with
      | [a, b, c], _ => exact ⟨a, b, c, rfl⟩
    have ha' : h1.get (h.next + 1) = some (.cells [.bool a, .bool b, .bool c]) := by rw [ha, hbs]; rfl
    rw [hbs] at hr'
    have d0 : ((0 : Int) < (3 : Nat)) = True := by simp
    have d1 : ((1 : Int) < (3 : Nat)) = True := by simp
    have d2 : ((2 : Int) < (3 : Nat)) = True := by simp
    have e0 : ((0 : Int) ≤ 0) = True := by simp
    have e1 : ((0 : Int) ≤ 1) = True := by simp
    have e2 : ((0 : Int) ≤ 2) = True := by simp
    have t0 : (0 : Int).toNat = 0 := rfl
    have t1 : (1 : Int).toNat = 1 := rfl
    have t2 : (2 : Int).toNat = 2 := rfl
    have hb : branchesE (x.kids.map (chk lib)) env = if a = true ∨ b ≠ c then (false, 7) else (b, 0) := by unfold branchesE; rw [hr']; rfl
    cases a
    · by_cases q : b = c
      · subst q
        have hn : branchesE (x.kids.map (chk lib)) env = (b, 0) := by rw [hb]; simp
        simp only [wx, Nat.reduceAdd, Nat.reduceEqDiff, Nat.reduceLT, Nat.reduceMul, Nat.reduceLeDiff, Int.reduceEq, ↓reduceIte, reduceCtorEq, ne_eq, implies_true, if_true, if_false, ite_not, Tryd.ntmps56, c1, ha', d0, d1, d2, e0, e1, e2, t0, t1, t2, beq_self_eq_true]
        exact Leave.mapped rfl (by simp only [wx, Nat.reduceAdd, Nat.reduceEqDiff, Nat.reduceLT, Nat.reduceMul, Nat.reduceLeDiff, Int.reduceEq, ↓reduceIte, reduceCtorEq, ne_eq, implies_true, if_true, if_false, ite_not, oneOf, hn, tyv]) hmn hE hx rfl
      · have hn : branchesE (x.kids.map (chk lib)) env = (false, 7) := by rw [hb]; simp [q]
        have hb : (b == c) = false := beq_eq_false_iff_ne.2 q
        simp only [wx, Nat.reduceAdd, Nat.reduceEqDiff, Nat.reduceLT, Nat.reduceMul, Nat.reduceLeDiff, Int.reduceEq, ↓reduceIte, reduceCtorEq, ne_eq, implies_true, if_true, if_false, ite_not, Tryd.ntmps56, c1, ha', d0, d1, d2, e0, e1, e2, t0, t1, t2, hb]
        exact Leave.mapped rfl (by simp only [wx, Nat.reduceAdd, Nat.reduceEqDiff, Nat.reduceLT, Nat.reduceMul, Nat.reduceLeDiff, Int.reduceEq, ↓reduceIte, reduceCtorEq, ne_eq, implies_true, if_true, if_false, ite_not, oneOf, hn, tyv]) hmn hE hx rfl
    · have hn : branchesE (x.kids.map (chk lib)) env = (false, 7) := by rw [hb]; simp
      simp only [wx, Nat.reduceAdd, Nat.reduceEqDiff, Nat.reduceLT, Nat.reduceMul, Nat.reduceLeDiff, Int.reduceEq, ↓reduceIte, reduceCtorEq, ne_eq, implies_true, if_true, if_false, ite_not, Tryd.ntmps56, c1, ha', d0, d1, d2, e0, e1, e2, t0, t1, t2]
      exact Leave.mapped rfl (by simp only [wx, Nat.reduceAdd, Nat.reduceEqDiff, Nat.reduceLT, Nat.reduceMul, Nat.reduceLeDiff, Int.reduceEq, ↓reduceIte, reduceCtorEq, ne_eq, implies_true, if_true, if_false, ite_not, oneOf, hn, tyv]) hmn hE hx rfl
end Go.Proofs.YtajknofacjiddaaDoor.Abs
