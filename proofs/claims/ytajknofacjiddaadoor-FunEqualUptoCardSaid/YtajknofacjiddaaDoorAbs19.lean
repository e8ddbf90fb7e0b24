/- Maps as functions. -/
import Derived.Test.YtajknofacjiddaaDoorAbs18
namespace Go.Proofs.YtajknofacjiddaaDoor.Abs
open Go Go.RowKit
set_option linter.unusedVariables false
set_option linter.unusedSimpArgs false

class Keys (K : Type) [DecidableEq K] where
  key : K → AV
  eq : ∀ a b : K, akeyEq (key a) (key b) = some (decide (a = b))
theorem map_erase {α β : Type} (f : α → β) : ∀ (l : List α) (i : Nat), (l.eraseIdx i).map f = (l.map f).eraseIdx i
  | [], _ => rfl
  | a :: l, 0 => rfl
  | a :: l, i + 1 => congrArg (f a :: ·) (map_erase f l i)
instance : Keys ByteArray := ⟨AV.str, fun _ _ => rfl⟩
structure KMap {K : Type} [DecidableEq K] [Keys K] (es : List AEnt) (f : K → Option AV) : Prop where
  keys : ∃ ks : List K, es.map (·.key) = ks.map Keys.key ∧ ks.Nodup
  get : ∀ k : K, aget es (Keys.key k) = some (f k)
def kupd {K : Type} [DecidableEq K] [Keys K] (f : K → Option AV) (k : K) (v : Option AV) : K → Option AV := fun j => if j = k then v else f j
section
variable {K : Type} [DecidableEq K] [Keys K]
theorem KMap.nil : KMap (K := K) [] (fun _ => none) := ⟨⟨[], rfl, .nil⟩, fun _ => rfl⟩
/-- Where a key lies. -/
theorem find_cases (k : K) : ∀ (es : List AEnt) (ks : List K) (n : Nat), es.map (·.key) = ks.map Keys.key →
    (k ∉ ks ∧ afind (Keys.key k) es n = some none ∧ aget es (Keys.key k) = some none) ∨
    (∃ i v, ks[i]? = some k ∧ (∀ j, j < i → ks[j]? ≠ some k) ∧ afind (Keys.key k) es n = some (some (n + i, v)) ∧ aget es (Keys.key k) = some (some v) ∧ ∃ e, es[i]? = some e ∧ e.val = v) := by
  intro es
  induction es with
  | nil => intro ks n h; cases ks with | nil => exact .inl ⟨by simp, rfl, rfl⟩ | cons a b => simp at h
  | cons e es ih =>
    intro ks n h
    cases ks with
    | nil => simp at h
    | cons a ks =>
      simp only [List.map_cons, List.cons.injEq] at h
      obtain ⟨h1, h2⟩ := h
      by_cases q : k = a
      · subst q
        refine .inr ⟨0, e.val, rfl, fun j hj => absurd hj (Nat.not_lt_zero _), ?_, ?_, e, rfl, rfl⟩
        · simp [afind, h1, Keys.eq]
        · simp [aget, h1, Keys.eq]
      · have hf : afind (Keys.key k) (e :: es) n = afind (Keys.key k) es (n + 1) := by simp [afind, h1, Keys.eq, q]
        have hg : aget (e :: es) (Keys.key k) = aget es (Keys.key k) := by simp [aget, h1, Keys.eq, q]
        rw [hf, hg]
        rcases ih ks (n + 1) h2 with ⟨a1, a2, a3⟩ | ⟨i, v, a1, a2, a3, a4, a5⟩
        · exact .inl ⟨by simp [q, a1], a2, a3⟩
        · refine .inr ⟨i + 1, v, by simpa using a1, ?_, by rw [a3]; simp; omega, a4, by simpa using a5⟩
          intro j hj
          cases j with
          | zero => simp; exact fun e => q e.symm
          | succ j => simpa using a2 j (by omega)
theorem aget_app (es es' : List AEnt) (k : AV) : aget (es ++ es') k = match aget es k with | some none => aget es' k | r => r := by
  induction es with
  | nil => rfl
  | cons e es ih =>
    simp only [List.cons_append, aget]
    cases akeyEq k e.key with
    | none => rfl
    | some b => cases b with | true => rfl | false => exact ih
theorem KMap.put {es : List AEnt} {f : K → Option AV} (m : KMap es f) (clk : Nat) (k : K) (x : AV) : ∃ clk' es', amapPut clk es (Keys.key k) x = some (.map clk' es') ∧ KMap es' (kupd f k (some x)) ∧ ∀ e ∈ es', e ∈ es ∨ (e.key = Keys.key k ∧ e.val = x) := by
  obtain ⟨⟨ks, h1, h2⟩, h3⟩ := m
  rcases find_cases k es ks 0 h1 with ⟨a1, a2, a3⟩ | ⟨i, v, a1, a2, a3, a4, e, a5, a6⟩
  · refine ⟨clk + 1, es ++ [⟨clk, Keys.key k, x⟩], by unfold amapPut; rw [a2], ⟨⟨ks ++ [k], by simp [h1], ?_⟩, fun j => ?_⟩, fun e he => by rcases List.mem_append.1 he with h | h; exact .inl h; simp only [List.mem_singleton] at h; subst h; exact .inr ⟨rfl, rfl⟩⟩
    · rw [List.nodup_append]
      refine ⟨h2, by simp, ?_⟩
      intro a ha b hb
      simp only [List.mem_singleton] at hb
      subst hb
      exact fun e => a1 (e ▸ ha)
    · rw [aget_app, h3 j]
      unfold kupd
      by_cases q : j = k
      · subst q
        have : f j = none := by have := h3 j; rw [a3] at this; simpa using this.symm
        simp [this, aget, Keys.eq]
      · simp only [q, if_false]
        cases hf : f j with
        | none => simp [aget, Keys.eq, q]
        | some y => rfl
  · rw [Nat.zero_add] at a3
    refine ⟨clk, es.set i ⟨((es[i]?).map AEnt.born).getD 0, Keys.key k, x⟩, by unfold amapPut; rw [a3], ⟨⟨ks, ?_, h2⟩, fun j => ?_⟩, fun e he => by rcases List.mem_or_eq_of_mem_set he with h | h; exact .inl h; subst h; exact .inr ⟨rfl, rfl⟩⟩
    · rw [List.map_set, h1]
      refine List.ext_getElem? fun q => ?_
      rw [List.getElem?_set]
      split
      · rename_i hq
        subst hq
        have hi : i < ks.length := (List.getElem?_eq_some_iff.1 a1).1
        rw [if_pos (by simpa using hi), List.getElem?_map, a1]
        rfl
      · rfl
    · clear a3 a4 a5 a6
      revert ks i
      unfold kupd
      have hset : ∀ (es : List AEnt) (ks : List K) (i : Nat), es.map (·.key) = ks.map Keys.key → ks[i]? = some k → (∀ q, q < i → ks[q]? ≠ some k) → ∀ b : Nat, aget (es.set i ⟨b, Keys.key k, x⟩) (Keys.key j) = if j = k then some (some x) else aget es (Keys.key j) := by
        intro es
        induction es with
        | nil => intro ks i h1 h2; cases ks with | nil => simp at h2 | cons a b => simp at h1
        | cons e es ih =>
          intro ks i h1 h2 h4 b
          cases ks with
          | nil => simp at h1
          | cons a ks =>
            simp only [List.map_cons, List.cons.injEq] at h1
            cases i with
            | zero =>
              simp only [List.getElem?_cons_zero, Option.some.injEq] at h2
              subst h2
              by_cases q : j = a
              · subst q; simp [aget, Keys.eq]
              · simp [aget, Keys.eq, q, h1.1]
            | succ i =>
              have hne : a ≠ k := by have := h4 0 (by omega); simpa using this
              have := ih ks i h1.2 (by simpa using h2) (fun q hq => by have := h4 (q + 1) (by omega); simpa using this) b
              by_cases q : j = a
              · subst q
                simp [aget, Keys.eq, h1.1, hne]
              · simp only [List.set_cons_succ, aget, h1.1, Keys.eq, q, decide_false, this]
      intro ks h1 h2 i a1 a2
      rw [hset es ks i h1 a1 a2]
      by_cases q : j = k
      · simp [q]
      · simp only [q, if_false]; exact h3 j
theorem KMap.look {es : List AEnt} {f : K → Option AV} (m : KMap es f) (clk : Nat) (k : K) (ok : Bool) (z : AV) : lookM (some (.map clk es)) (Keys.key k) ok z = some (okOf ok z (f k)) := lookM_aget ok (m.get k)
theorem KMap.del {es : List AEnt} {f : K → Option AV} (m : KMap es f) (clk id : Nat) (k : K) (h : AHeap) (hg : h.get id = some (.map clk es)) : ∃ es', delM (h.get id) id (Keys.key k) h = some (h.set id (.map clk es')) ∧ KMap es' (kupd f k none) ∧ ∀ e ∈ es', e ∈ es := by
  obtain ⟨⟨ks, h1, h2⟩, h3⟩ := m
  rw [hg]
  rcases find_cases k es ks 0 h1 with ⟨a1, a2, a3⟩ | ⟨i, v, a1, a2, a3, a4, e, a5, a6⟩
  · refine ⟨es, ?_, ⟨⟨ks, h1, h2⟩, fun j => ?_⟩, fun e he => he⟩
    · simp only [delM, a2]
      have : h.set id (.map clk es) = h := by
        unfold AHeap.set
        have hid := get_lt h id hg
        have : h.objs.set id (some (.map clk es)) = h.objs := by
          refine List.ext_getElem? fun q => ?_
          rw [List.getElem?_set]
          split
          · rename_i hq
            subst hq
            unfold AHeap.get at hg
            unfold AHeap.next at hid
            rw [if_pos hid]
            rw [List.getElem?_eq_getElem hid] at hg ⊢
            simp only [Option.join_some] at hg
            rw [hg]
          · rfl
        rw [this]
      rw [this]
    · rw [h3 j]
      unfold kupd
      by_cases q : j = k
      · subst q
        have : f j = none := by have := h3 j; rw [a3] at this; simpa using this.symm
        simp [this]
      · simp [q]
  · rw [Nat.zero_add] at a3
    refine ⟨es.eraseIdx i, by simp only [delM, a3], ⟨⟨ks.eraseIdx i, by rw [map_erase, h1, map_erase], h2.sublist (List.eraseIdx_sublist _ _)⟩, fun j => ?_⟩, fun e he => List.mem_of_mem_eraseIdx he⟩
    have her : ∀ (es : List AEnt) (ks : List K) (i : Nat), es.map (·.key) = ks.map Keys.key → ks.Nodup → ks[i]? = some k → aget (es.eraseIdx i) (Keys.key j) = if j = k then some none else aget es (Keys.key j) := by
      intro es
      induction es with
      | nil => intro ks i h1 h2 h4; cases ks with | nil => simp at h4 | cons a b => simp at h1
      | cons e es ih =>
        intro ks i h1 h2 h4
        cases ks with
        | nil => simp at h1
        | cons a ks =>
          simp only [List.map_cons, List.cons.injEq] at h1
          rw [List.nodup_cons] at h2
          cases i with
          | zero =>
            simp only [List.getElem?_cons_zero, Option.some.injEq] at h4
            subst h4
            simp only [List.eraseIdx_zero, List.tail_cons]
            by_cases q : j = a
            · subst q
              rw [if_pos rfl]
              rcases find_cases j es ks 0 h1.2 with ⟨_, _, a3⟩ | ⟨i, v, a1, _⟩
              · exact a3
              · exact absurd (List.mem_of_getElem? a1) h2.1
            · simp [aget, Keys.eq, q, h1.1]
          | succ i =>
            have hk : ks[i]? = some k := by simpa using h4
            have hne : a ≠ k := fun e => h2.1 (e ▸ List.mem_of_getElem? hk)
            have := ih ks i h1.2 h2.2 hk
            by_cases q : j = a
            · subst q
              simp [aget, Keys.eq, h1.1, hne]
            · simp only [List.eraseIdx_cons_succ, aget, h1.1, Keys.eq, q, decide_false, this]
    rw [her es ks i h1 h2 a1, h3 j]
    unfold kupd
    by_cases q : j = k <;> simp [q]
end
theorem ev_zero {S : Seat} {fn : Func} {R : Post} {k : List Item} {ds : List ADef} {fr : Fr} {h : AHeap} : Ev S fn R 0 k ds fr h = Stop S fn R k ds fr h := rfl
theorem evc_if {E : EvT} {k : List Item} {ds : List ADef} {fr : Fr} {h : AHeap} (t : Bool) (x y : Code) : EvC E (.bool t) x y k ds fr h = if t = true then E (.code x :: k) ds fr h else E (.code y :: k) ds fr h := by
  rw [evc_bool]; cases t <;> simp
theorem evg_if {S : Seat} {fn : Func} {R : Post} {E : EvT} {k : List Item} {ds : List ADef} {fr : Fr} {h : AHeap} (b want : Bool) (o : Oper) (ops : Array Oper) (i : Nat) (l : List Nat) :
    EvG S fn R E (some (.bool b)) want o ops i l k ds fr h = if b = want then EvD S fn R E o ops i l k ds fr h else E (.inRegion ops l :: k) ds (fr.put o.dst (.tup [])) h := by
  rw [evg_bool]; cases b <;> cases want <;> simp
theorem ite_intro {p A B : Prop} [Decidable p] (h1 : p → A) (h2 : ¬ p → B) : if p then A else B := by
  split
  · exact h1 ‹_›
  · exact h2 ‹_›
/-! Maps reckoned entry by entry -/
structure K8 where
  v : Int
  deriving DecidableEq
instance : Keys K8 := ⟨fun k => .int .u8 k.v, fun a b => by
  show (if IntKind.u8 = IntKind.u8 then some (decide (a.v = b.v)) else none) = _
  rw [if_pos rfl]
  congr 1
  refine decide_eq_decide.2 ?_
  cases a; cases b; simp⟩
def putAt (clk : Nat) (es : List AEnt) (k x : AV) : Option (Option (Nat × AV)) → Option AObj
  | some (some (i, _)) => some (.map clk (es.set i { born := ((es[i]?).map AEnt.born).getD 0, key := k, val := x }))
  | some none => some (.map (clk + 1) (es ++ [{ born := clk, key := k, val := x }]))
  | none => none
theorem amapPut_eq (clk : Nat) (es : List AEnt) (k x : AV) : amapPut clk es k x = putAt clk es k x (afind k es 0) := rfl
theorem putAt_n (clk : Nat) (es : List AEnt) (k x : AV) : putAt clk es k x (some none) = some (.map (clk + 1) (es ++ [⟨clk, k, x⟩])) := rfl
def findAt (k : AV) (v : AV) (es : List AEnt) (i : Nat) : Option Bool → Option (Option (Nat × AV))
  | some true => some (some (i, v))
  | some false => afind k es (i + 1)
  | none => none
theorem afind_nil (k : AV) (i : Nat) : afind k [] i = some none := rfl
theorem afind_cons (k : AV) (b : Nat) (q v : AV) (es : List AEnt) (i : Nat) : afind k (⟨b, q, v⟩ :: es) i = findAt k v es i (akeyEq k q) := by
  simp only [afind]
  cases akeyEq k q with
  | none => rfl
  | some b => cases b <;> rfl
theorem findAt_t (k v : AV) (es : List AEnt) (i : Nat) : findAt k v es i (some true) = some (some (i, v)) := rfl
theorem findAt_f (k v : AV) (es : List AEnt) (i : Nat) : findAt k v es i (some false) = afind k es (i + 1) := rfl
theorem akeyEq_int (k : IntKind) (a b : Int) : akeyEq (.int k a) (.int k b) = some (decide (a = b)) := by simp [akeyEq]
theorem akeyEq_str (a b : ByteArray) : akeyEq (.str a) (.str b) = some (decide (a = b)) := rfl
def lookAt (ok : Bool) (z : AV) : Option (Option (Nat × AV)) → Option AV
  | some (some (_, v)) => some (okTup ok v true)
  | some none => some (okTup ok z false)
  | none => none
theorem lookM_m (clk : Nat) (es : List AEnt) (k : AV) (ok : Bool) (z : AV) : lookM (some (.map clk es)) k ok z = lookAt ok z (afind k es 0) := by
  simp only [lookM]
  cases afind k es 0 with
  | none => rfl
  | some o => cases o <;> rfl
theorem lookAt_s (ok : Bool) (z v : AV) (i : Nat) : lookAt ok z (some (some (i, v))) = some (okTup ok v true) := rfl
theorem lookAt_n (ok : Bool) (z : AV) : lookAt ok z (some none) = some (okTup ok z false) := rfl

/-! What is built from parts -/
def fillAt (place : Nat → Option (Nat × Nat)) : Option (Nat × Nat) → Option (List AV) → List AV → List (Nat × AV) → Option (List AV)
  | some (off, size), some cs, cells, rest => if cs.length = size ∧ off + cs.length ≤ cells.length then afill place (asplice cells off cs) rest else none
  | _, _, _, _ => none
theorem afill_nil (place : Nat → Option (Nat × Nat)) (cells : List AV) : afill place cells [] = some cells := rfl
theorem afill_cons (place : Nat → Option (Nat × Nat)) (cells : List AV) (i : Nat) (v : AV) (rest : List (Nat × AV)) : afill place cells ((i, v) :: rest) = fillAt place (place i) (acs v) cells rest := by
  simp only [afill]
  cases place i with
  | none => rfl
  | some p => obtain ⟨off, size⟩ := p; cases acs v <;> rfl
theorem fillAt_s (place : Nat → Option (Nat × Nat)) (off size : Nat) (cs cells : List AV) (rest : List (Nat × AV)) : fillAt place (some (off, size)) (some cs) cells rest = if cs.length = size ∧ off + cs.length ≤ cells.length then afill place (asplice cells off cs) rest else none := rfl
theorem plOf_eq (l : List (Nat × Nat)) (i : Nat) : plOf l i = l[i]? := rfl
theorem azeros_z (zs : List AV) : azeros zs 0 = [] := rfl
theorem azeros_s (zs : List AV) (n : Nat) : azeros zs (n + 1) = zs ++ azeros zs n := rfl
theorem chunk_s (sz n : Nat) (cs : List AV) : chunk sz (n + 1) cs = cs.take sz :: chunk sz n (cs.drop sz) := rfl
theorem chunk_z (sz : Nat) (r : List AV) : chunk sz 0 r = [] := rfl
theorem bsM_s (sz len : Nat) (r : List AV) : bsM sz len (some r) = if r.all acell = true then some (.slice sz (chunk sz len r) .fixed) else none := rfl
end Go.Proofs.YtajknofacjiddaaDoor.Abs
