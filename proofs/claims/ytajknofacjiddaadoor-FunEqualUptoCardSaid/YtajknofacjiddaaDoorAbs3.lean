/- More operations that turn no memory: slices, maps that are read, lengths, conversions; all of them in one function. -/
import Derived.Test.YtajknofacjiddaaDoorAbs2
import Derived.Laws.Unary
namespace Go.Proofs.YtajknofacjiddaaDoor.Abs
open Go Go.RowKit
set_option linter.unusedVariables false
set_option linter.unusedSimpArgs false

/-! Maps that are read -/
def akeyEq : AV → AV → Option Bool
  | .int k a, .int k' b => if k = k' then some (decide (a = b)) else none
  | .str a, .str b => some (decide (a = b))
  | .bool a, .bool b => some (a == b)
  | _, _ => none
def keyOk (d : Option TypeDesc) (k : AV) : Bool :=
  match d, k with
  | some (.int k'), .int k _ => decide (k' = k)
  | some .string, .str _ | some .bool, .bool _ => true
  | _, _ => false
def afind (k : AV) : List AEnt → Nat → Option (Option (Nat × AV))
  | [], _ => some none
  | e :: es, i => match akeyEq k e.key with
    | some true => some (some (i, e.val))
    | some false => afind k es (i + 1)
    | none => none
def azero (S : Seat) (t : TypeId) : Option AV := (S.P.info? t).bind fun i => i.zero.map ofValue
def okTup (ok : Bool) (v : AV) (b : Bool) : AV := if ok then .tup [v, .bool b] else v
def alookup (S : Seat) (t : TypeId) (m k : AV) (ok : Bool) (h : AHeap) : Option AV :=
  match S.P.underlying t with
  | some (.map kt et) =>
    if keyOk (S.P.underlying kt) k then
      (match m with
      | .nilmap => (azero S et).map fun z => okTup ok z false
      | .map id => match h.get id with
        | some (.map _ es) => match afind k es 0 with
          | some (some (_, v)) => some (okTup ok v true)
          | some none => (azero S et).map fun z => okTup ok z false
          | none => none
        | _ => none
      | _ => none)
    else none
  | _ => none

def MapRep (g : Ghost) (es : List AEnt) (ms : List MapEntry) : Prop := ms.length = es.length ∧ ∀ (i : Nat) (e : AEnt), es[i]? = some e → ∃ m : MapEntry, ms[i]? = some m ∧ m.born = e.born ∧ Rep g e.key m.key ∧ Rep g e.val m.val
theorem afind_sound {g : Ghost} {d : TypeDesc} {k : AV} {x : Value} (hk : Rep g k x) (hd : keyOk (some d) k = true) : ∀ (es : List AEnt) (ms : List MapEntry) (i : Nat) (r : Option (Nat × AV)), MapRep g es ms → afind k es i = some r →
    ∃ r', Instr.findNow d x ms i = some r' ∧ (match r, r' with | none, none => True | some (j, v), some (j', y) => j = j' ∧ Rep g v y ∧ i ≤ j ∧ j - i < es.length | _, _ => False)
  | [], ms, i, r, hm, e => by
    have : ms = [] := by simpa using hm.1
    subst this
    cases e
    exact ⟨none, rfl, trivial⟩
  | e0 :: es, ms, i, r, hm, e => by
    obtain ⟨m, hm0, hb, hkey, hval⟩ := hm.2 0 e0 rfl
    cases ms with
    | nil => simp at hm0
    | cons m' ms =>
      have : m' = m := by simpa using hm0
      subst this
      have hrest : MapRep g es ms := ⟨by simpa using hm.1, fun i e he => by simpa using hm.2 (i + 1) e (by simpa using he)⟩
      have hsame : ∀ b, akeyEq k e0.key = some b → Instr.sameNow d x m'.key = some b := by
        intro b hq
        revert hq hkey hk hd
        generalize e0.key = k2
        generalize m'.key = x2
        intro hk hd hkey hq
        cases hk <;> simp only [akeyEq] at hq <;> (try (cases hq; done))
        all_goals (cases hkey <;> simp only at hq <;> (try (cases hq; done)))
        all_goals (cases d <;> simp only [keyOk] at hd <;> (try (cases hd; done)))
        · cases hq; rfl
        · split at hq
          case isFalse => cases hq
          rename_i hkk
          cases hq
          subst hkk
          simp only [Instr.sameNow, if_true]
          congr 1
        · cases hq
          simp only [Instr.sameNow]
          congr 1
          rw [Bool.eq_iff_iff, MapKept.bytes_beq, decide_eq_true_eq]
      simp only [afind] at e
      unfold Instr.findNow
      cases hq : akeyEq k e0.key with
      | none => rw [hq] at e; cases e
      | some b =>
        rw [hq] at e
        rw [hsame b hq]
        cases b with
        | true =>
          cases e
          exact ⟨some (i, m'.val), rfl, rfl, hval, Nat.le_refl _, by simp⟩
        | false =>
          obtain ⟨r', h1, h2⟩ := afind_sound hk hd es ms (i + 1) r hrest e
          refine ⟨r', h1, ?_⟩
          cases r with
          | none => cases r' with | none => trivial | some q => exact h2.elim
          | some p => cases r' with
            | none => exact h2.elim
            | some q => exact ⟨h2.1, h2.2.1, by have := h2.2.2.1; omega, by have := h2.2.2; simp; omega⟩

theorem isKey_of {g : Ghost} {d : TypeDesc} {k : AV} {x : Value} (hk : Rep g k x) (hd : keyOk (some d) k = true) : MapKept.IsKey d x := by
  cases hk <;> cases d <;> simp only [keyOk] at hd <;> (first | exact trivial | (cases hd; done) | (have := of_decide_eq_true hd; subst this; simp [MapKept.IsKey]) | simp [MapKept.IsKey])

theorem azero_sound {S : Seat} {g : Ghost} {t : TypeId} {v : AV} (e : azero S t = some v) (w : World) : ∃ y, (zeroValue t).run S.P w = .ok y w ∧ Rep g v y := by
  unfold azero at e
  obtain ⟨i, hi, hz⟩ := Option.bind_eq_some_iff.1 e
  cases hzz : i.zero with
  | none => simp [hzz] at hz
  | some z =>
    rw [hzz] at hz
    cases hz
    exact ⟨z, by simp [zeroValue, typeInfo, hi, hzz], ofValue_rep g z⟩

theorem okTup_rep {g : Ghost} {v : AV} {y : Value} (h : Rep g v y) (ok b : Bool) : Rep g (okTup ok v b) (if ok then .tuple #[y, .bool b] else y) := by
  unfold okTup
  cases ok
  · exact h
  · refine .tup rfl (fun i u hu => ?_)
    match i with
    | 0 => cases hu; exact h
    | 1 => cases hu; exact .bool _
    | n + 2 => simp at hu

theorem alookup_sound {S : Seat} {w0 : World} {h : AHeap} {g : Ghost} {w : World} (i : Inv S w0 h g w) {t : TypeId} {m k v : AV} {x y : Value} {ok : Bool} (hm : Rep g m x) (hk : Rep g k y) (e : alookup S t m k ok h = some v) :
    ∃ z, (Instr.lookup t x y ok).run S.P w = .ok z w ∧ Rep g v z := by
  unfold alookup at e
  split at e
  case h_2 => cases e
  rename_i kt et hu
  split at e
  case isFalse => cases e
  rename_i hko
  cases hkt : S.P.underlying kt with
  | none => rw [hkt] at hko; simp [keyOk] at hko
  | some d =>
    rw [hkt] at hko
    have hck := fun (b : Bool) => MapKept.run_checkKey (P := S.P) (w := w) hkt (isKey_of hk hko) b 9999
    unfold Instr.lookup
    simp only [Sem.run_bind, run_underlying hu, Result.andThen_ok]
    split at e
    · cases hm
      cases hz : azero S et with
      | none => rw [hz] at e; cases e
      | some z =>
        rw [hz] at e
        cases e
        obtain ⟨y', hy', hr⟩ := azero_sound (S := S) (g := g) hz w
        refine ⟨_, ?_, okTup_rep hr ok false⟩
        simp only [Sem.run_pure, Sem.run_bind, Result.andThen_ok, hck, MapKept.run_findKey (P := S.P) (w := w) (l := []) hkt (show Instr.findNow d y [] 0 = some none from rfl), hy', Array.toList, Array.isEmpty]
    · rename_i id
      split at e
      case h_2 => cases e
      rename_i clk es ho
      cases hm
      rename_i b hb
      obtain ⟨b', hb', ms, h1, h2, h3⟩ := i.obj _ _ ho
      cases hb.symm.trans hb'
      have hmr : MapRep g es ms.toList := ⟨by simpa using h2, fun i e he => by simpa using h3 i e he⟩
      split at e
      · rename_i j v' hf
        cases e
        obtain ⟨r', hr', hh⟩ := afind_sound hk hko es ms.toList 0 _ hmr hf
        cases r' with
        | none => exact hh.elim
        | some q =>
          obtain ⟨j', y'⟩ := q
          refine ⟨_, ?_, okTup_rep hh.2.1 ok true⟩
          simp only [Sem.run_pure, Sem.run_bind, Result.andThen_ok, hck, MapKept.run_findKey (P := S.P) (w := w) hkt hr', MapKept.run_getObj_map (P := S.P) h1]
      · rename_i hf
        cases hz : azero S et with
        | none => rw [hz] at e; cases e
        | some z =>
          rw [hz] at e
          cases e
          obtain ⟨r', hr', hh⟩ := afind_sound hk hko es ms.toList 0 _ hmr hf
          cases r' with
          | some q => exact hh.elim
          | none =>
            obtain ⟨y', hy', hr⟩ := azero_sound (S := S) (g := g) hz w
            refine ⟨_, ?_, okTup_rep hr ok false⟩
            simp only [Sem.run_pure, Sem.run_bind, Result.andThen_ok, hck, MapKept.run_findKey (P := S.P) (w := w) hkt hr', MapKept.run_getObj_map (P := S.P) h1, hy']
      · cases e
    · cases e

/-! Slicing -/
/-- A bound, if there is one. -/
def abnd : Option AV → Option (Option Nat)
  | none => some none
  | some (.int _ i) => if 0 ≤ i then some (some i.toNat) else none
  | _ => none
def aslice (S : Seat) (t : TypeId) (x : AV) (lo hi mx : Option AV) : Option AV :=
  match abnd lo, abnd hi, abnd mx with
  | some lo, some hi, some mx =>
    if mx.isSome ∧ hi = none then none else
    (match S.P.underlying t, x with
    | some .string, .str s => if mx = none ∧ lo.getD 0 ≤ hi.getD s.size ∧ hi.getD s.size ≤ s.size then some (.str (s.extract (lo.getD 0) (hi.getD s.size))) else none
    | some (.slice e), .slice sz els tok =>
      if S.P.underlying e = none ∨ (sz ≠ S.P.cellsOf e ∧ els.length ≠ 0) then none else
      if lo.getD 0 ≤ hi.getD els.length ∧ hi.getD els.length ≤ mx.getD els.length ∧ mx.getD els.length ≤ els.length then
        some (.slice sz ((els.drop (lo.getD 0)).take (hi.getD els.length - lo.getD 0))
          (match mx with
          | none => if lo.getD 0 = 0 ∧ hi.getD els.length = els.length then tok else if tok = .fixed ∧ hi.getD els.length = els.length then .fixed else .unk
          | some m => if m = hi.getD els.length then .fixed else .unk))
      else none
    | some (.slice e), .row id off len cap sz =>
      if S.P.underlying e = none ∨ sz ≠ S.P.cellsOf e then none else
      if lo.getD 0 ≤ hi.getD len ∧ hi.getD len ≤ mx.getD cap ∧ mx.getD cap ≤ cap then
        some (.row id (if mx.getD cap = lo.getD 0 then off else off + lo.getD 0 * sz) (hi.getD len - lo.getD 0) (mx.getD cap - lo.getD 0) sz) else none
    | some (.array n e), .ptr id off =>
      if S.P.underlying e = none then none else
      if lo.getD 0 ≤ hi.getD n ∧ hi.getD n ≤ mx.getD n ∧ mx.getD n ≤ n then
        some (.row id (if mx.getD n = lo.getD 0 then off else off + lo.getD 0 * S.P.cellsOf e) (hi.getD n - lo.getD 0) (mx.getD n - lo.getD 0) (S.P.cellsOf e)) else none
    | _, _ => none)
  | _, _, _ => none

/-- A bound and its value. -/
def BndRep : Option Nat → Option Value → Prop
  | none, none => True
  | some n, some v => ∃ k i, v = .int k i ∧ 0 ≤ i ∧ n = i.toNat
  | _, _ => False
theorem abnd_rep {g : Ghost} {a : Option AV} {b : Option Value} (h : match a, b with | none, none => True | some v, some x => Rep g v x | _, _ => False) {r : Option Nat} (e : abnd a = some r) : BndRep r b := by
  cases a with
  | none => cases b with
    | none => cases e; trivial
    | some x => exact h.elim
  | some v => cases b with
    | none => exact h.elim
    | some x =>
      cases v <;> simp only [abnd] at e <;> (try (cases e; done))
      split at e
      case isFalse => cases e
      rename_i hi
      cases e
      cases h
      exact ⟨_, _, rfl, hi, rfl⟩
theorem run_bounds {P : Program} {w : World} (isS : Bool) (len cap : Nat) {lo hi mx : Option Nat} {l h m : Option Value} (hl : BndRep lo l) (hh : BndRep hi h) (hm : BndRep mx m) (hx : ¬ (mx.isSome ∧ hi = none))
    (h1 : lo.getD 0 ≤ hi.getD len) (h2 : hi.getD len ≤ mx.getD cap) (h3 : mx.getD cap ≤ cap) :
    (Instr.sliceBounds isS len cap l h m).run P w = .ok (lo.getD 0, hi.getD len, mx.getD cap) w := by
  have sb : ∀ (k : IntKind) (i : Int) (y : Nat) (c : BoundsCode), 0 ≤ i → i.toNat ≤ y → (Instr.sliceBound (.int k i) y c).run P w = .ok i.toNat w := by
    intro k i y c h0 h1
    unfold Instr.sliceBound
    simp only [Sem.run_bind, asIntOf, Sem.run_pure, Result.andThen_ok]
    rw [Sem.run_ite, if_pos (by omega)]
    rfl
  unfold Instr.sliceBounds
  cases mx with
  | none =>
    cases m with
    | some _ => exact hm.elim
    | none =>
      cases hi with
      | none =>
        cases h with
        | some _ => exact hh.elim
        | none =>
          cases lo with
          | none => cases l with
            | some _ => exact hl.elim
            | none => rfl
          | some n => cases l with
            | none => exact hl.elim
            | some v =>
              obtain ⟨k, i, rfl, hi0, rfl⟩ := hl
              simp only [Option.getD_some, Option.getD_none] at h1 h2 h3
              simp [sb _ _ _ _ hi0 h1]
      | some n =>
        cases h with
        | none => exact hh.elim
        | some v =>
          obtain ⟨k, i, rfl, hi0, rfl⟩ := hh
          simp only [Option.getD_some, Option.getD_none] at h1 h2 h3
          cases lo with
          | none => cases l with
            | some _ => exact hl.elim
            | none => simp [sb _ _ _ _ hi0 h2]
          | some n => cases l with
            | none => exact hl.elim
            | some v =>
              obtain ⟨k', i', rfl, hi0', rfl⟩ := hl
              simp only [Option.getD_some] at h1
              simp [sb _ _ _ _ hi0 h2, sb _ _ _ _ hi0' h1]
  | some mv =>
    cases m with
    | none => exact hm.elim
    | some v =>
      obtain ⟨km, im, rfl, hm0, rfl⟩ := hm
      cases hi with
      | none => exact absurd ⟨rfl, rfl⟩ hx
      | some n =>
        cases h with
        | none => exact hh.elim
        | some v =>
          obtain ⟨k, i, rfl, hi0, rfl⟩ := hh
          simp only [Option.getD_some, Option.getD_none] at h1 h2 h3
          cases lo with
          | none => cases l with
            | some _ => exact hl.elim
            | none => simp [sb _ _ _ _ hi0 h2, sb _ _ _ _ hm0 h3]
          | some n => cases l with
            | none => exact hl.elim
            | some v =>
              obtain ⟨k', i', rfl, hi0', rfl⟩ := hl
              simp only [Option.getD_some] at h1
              simp [sb _ _ _ _ hi0 h2, sb _ _ _ _ hi0' h1, sb _ _ _ _ hm0 h3]

/-- A part of a slice. -/
theorem rep_slice_part {g : Ghost} {sz : Nat} {els : List (List AV)} {tok tok' : Tok} {a : Option Addr} {n c : Nat} (h : Rep g (.slice sz els tok) (.slice a n c)) {l k m : Nat} (hl : l ≤ k) (hk : k ≤ els.length) (hkm : k ≤ m)
    (ht : ∀ a', a' = (if m = l then a else a.map (·.add (l * sz))) → TokRep g sz (k - l) a' (m - l) tok') :
    (m ≤ c) → Rep g (.slice sz ((els.drop l).take (k - l)) tok') (.slice (if m = l then a else a.map (·.add (l * sz))) (k - l) (m - l)) := by
  intro hm
  have hlen : ((els.drop l).take (k - l)).length = k - l := by simp; omega
  cases h with
  | sliceNil _ hn =>
    simp at hk
    subst hk
    have : l = 0 := by omega
    subst this
    refine .sliceNil (ht _ rfl) (fun e => ?_)
    by_cases hm0 : m = 0
    · omega
    · rw [if_neg hm0] at e
      have := hn (by cases a with | none => rfl | some _ => cases e)
      omega
  | slice f hI hsz hR hc ht0 =>
    rename_i b o
    have key : ∀ o', (m ≠ l → o' = o + l * sz) → TokRep g sz (k - l) (some ⟨b, o', none⟩) (m - l) tok' → Rep g (.slice sz ((els.drop l).take (k - l)) tok') (.slice (some ⟨b, o', none⟩) (k - l) (m - l)) := by
      intro o' ho' ht'
      have := Rep.slice (g := g) (sz := sz) (els := (els.drop l).take (k - l)) (tok := tok') (b := b) (o := o') (cap := m - l) (fun i => f (l * sz + i)) (fun i hi => by
          rw [hlen] at hi
          have hne : m ≠ l := fun e => by
            have : k - l = 0 := by omega
            rw [this] at hi
            omega
          rw [ho' hne, Nat.add_assoc]
          refine hI _ ?_
          have h1 : l * sz + (k - l) * sz = k * sz := by rw [← Nat.add_mul]; congr 1; omega
          have h2 : k * sz ≤ els.length * sz := Nat.mul_le_mul_right sz hk
          omega) (fun i e he => by
          rw [List.getElem?_take] at he
          split at he
          case isFalse => cases he
          rw [List.getElem?_drop] at he
          exact hsz _ e he) (fun i j e v he hv => by
          rw [List.getElem?_take] at he
          split at he
          case isFalse => cases he
          rw [List.getElem?_drop] at he
          have := hR _ j e v he hv
          rw [Nat.add_mul, Nat.add_assoc] at this
          exact this) (by rw [hlen]; omega) (by rw [hlen]; exact ht')
      rw [hlen] at this
      exact this
    by_cases e : m = l
    · rw [if_pos e]
      exact key o (fun q => absurd e q) (ht _ (by rw [if_pos e]))
    · rw [if_neg e]
      simp only [Option.map_some, addr_add]
      exact key (o + l * sz) (fun _ => rfl) (ht _ (by rw [if_neg e]; simp only [Option.map_some, addr_add]))

theorem tokRep_of_slice {g : Ghost} {sz : Nat} {els : List (List AV)} {tok : Tok} {a : Option Addr} {n c : Nat} (h : Rep g (.slice sz els tok) (.slice a n c)) : n = els.length ∧ els.length ≤ c ∧ TokRep g sz els.length a c tok := by
  cases h with
  | sliceNil h => exact ⟨rfl, Nat.zero_le _, h⟩
  | slice f hI hsz hR hc ht => exact ⟨rfl, hc, ht⟩
theorem rep_slice_shape {g : Ghost} {sz : Nat} {els : List (List AV)} {tok : Tok} {x : Value} (h : Rep g (.slice sz els tok) x) : ∃ a c, x = .slice a els.length c := by
  cases h <;> exact ⟨_, _, rfl⟩

theorem aslice_sound {S : Seat} {g : Ghost} {w : World} {t : TypeId} {p v : AV} {x : Value} {lo hi mx : Option AV} {lo' hi' mx' : Option Value} (hp : Rep g p x)
    (h1 : match lo, lo' with | none, none => True | some v, some x => Rep g v x | _, _ => False) (h2 : match hi, hi' with | none, none => True | some v, some x => Rep g v x | _, _ => False)
    (h3 : match mx, mx' with | none, none => True | some v, some x => Rep g v x | _, _ => False) (e : aslice S t p lo hi mx = some v) :
    ∃ z, (Instr.sliceAt t x lo' hi' mx').run S.P w = .ok z w ∧ Rep g v z := by
  unfold aslice at e
  split at e
  case h_2 => cases e
  rename_i l k m e1 e2 e3
  have b1 := abnd_rep h1 e1
  have b2 := abnd_rep h2 e2
  have b3 := abnd_rep h3 e3
  clear h1 h2 h3 e1 e2 e3
  split at e
  case isTrue => cases e
  rename_i hx
  split at e
  case h_5 => cases e
  · rename_i s hu
    split at e
    case isFalse => cases e
    rename_i hc
    obtain ⟨rfl, hc1, hc2⟩ := hc
    cases e
    cases hp
    cases mx' with
    | some _ => exact b3.elim
    | none =>
      refine ⟨_, ?_, .str _⟩
      unfold Instr.sliceAt Instr.slice
      simp only [Sem.run_bind, run_underlying hu, Result.andThen_ok, Option.isSome_none, Bool.false_eq_true, if_false, Sem.run_pure, run_bounds false s.size s.size b1 b2 (mx := none) (m := none) trivial hx hc1 hc2 (Nat.le_refl _)]
  · rename_i e' sz els tok hu
    split at e
    case isTrue => cases e
    rename_i hz
    obtain ⟨hud, hz⟩ := not_or.1 hz
    obtain ⟨d, hd⟩ := Option.ne_none_iff_exists'.1 hud
    split at e
    case isFalse => cases e
    rename_i hc
    obtain ⟨hc1, hc2, hc3⟩ := hc
    cases e
    obtain ⟨a, c, rfl⟩ := rep_slice_shape hp
    obtain ⟨_, hcap, htok⟩ := tokRep_of_slice hp
    have hh2 : k.getD els.length ≤ m.getD c := by
      cases m with
      | none => simp at hc2 ⊢; omega
      | some mv => exact hc2
    have hh3 : m.getD c ≤ c := by
      cases m with
      | none => simp
      | some mv => simp at hc3 ⊢; omega
    have hk : k.getD els.length ≤ els.length := by omega
    have hadr : ∀ q : Option Addr, (if m.getD c = l.getD 0 then a else a.map (·.add (l.getD 0 * S.P.cellsOf e'))) = (if m.getD c = l.getD 0 then a else a.map (·.add (l.getD 0 * sz))) := by
      intro q
      by_cases q : m.getD c = l.getD 0
      · rw [if_pos q, if_pos q]
      · rw [if_neg q, if_neg q]
        by_cases hl0 : els.length = 0
        · have : l.getD 0 = 0 := by omega
          rw [this]; simp
        · have : sz = S.P.cellsOf e' := Decidable.not_not.1 (fun hne => hz ⟨hne, hl0⟩)
          rw [this]
    refine ⟨_, ?_, rep_slice_part hp hc1 hk hh2 (fun a' ha' => ?_) hh3⟩
    · unfold Instr.sliceAt Instr.slice
      simp only [Sem.run_bind, run_underlying hu, Result.andThen_ok, Sem.run_pure, run_bounds true els.length c b1 b2 b3 hx hc1 hh2 hh3, run_sizeOf' hd, hadr none]
    · cases m with
      | none =>
        simp only [Option.getD_none] at ha' ⊢
        by_cases q : l.getD 0 = 0 ∧ k.getD els.length = els.length
        · rw [if_pos q]
          rw [q.1] at ha' ⊢
          rw [q.2]
          have : a' = a := by
            rw [ha']
            by_cases r : c = 0
            · rw [if_pos r]
            · rw [if_neg r]
              cases a with
              | none => rfl
              | some ad => simp [Addr.add]
          rw [this]
          exact htok
        · rw [if_neg q]
          by_cases r : tok = .fixed ∧ k.getD els.length = els.length
          · rw [if_pos r]
            rw [r.1] at htok
            have : c = els.length := htok
            show c - l.getD 0 = k.getD els.length - l.getD 0
            omega
          · rw [if_neg r]
            trivial
      | some mv =>
        simp only [Option.getD_some] at ha' ⊢
        by_cases q : mv = k.getD els.length
        · rw [if_pos q]
          show mv - l.getD 0 = k.getD els.length - l.getD 0
          omega
        · rw [if_neg q]
          trivial
  · rename_i e' id off len cap sz hu
    split at e
    case isTrue => cases e
    rename_i hz
    obtain ⟨hud, hz⟩ := not_or.1 hz
    obtain ⟨d, hd⟩ := Option.ne_none_iff_exists'.1 hud
    have hz : sz = S.P.cellsOf e' := Decidable.not_not.1 hz
    split at e
    case isFalse => cases e
    rename_i hc
    obtain ⟨hc1, hc2, hc3⟩ := hc
    cases e
    cases hp
    rename_i b hb
    refine ⟨_, ?_, .row hb⟩
    unfold Instr.sliceAt Instr.slice
    simp only [Sem.run_bind, run_underlying hu, Result.andThen_ok, Sem.run_pure, run_bounds true len cap b1 b2 b3 hx hc1 hc2 hc3, run_sizeOf' hd, hz]
    by_cases q : m.getD cap = l.getD 0
    · simp only [if_pos q]
    · simp only [if_neg q, Option.map_some, addr_add]
  · rename_i n e' id off hu
    split at e
    case isTrue => cases e
    rename_i hud
    obtain ⟨d, hd⟩ := Option.ne_none_iff_exists'.1 hud
    split at e
    case isFalse => cases e
    rename_i hc
    obtain ⟨hc1, hc2, hc3⟩ := hc
    cases e
    cases hp
    rename_i b hb
    refine ⟨_, ?_, .row hb⟩
    unfold Instr.sliceAt
    simp only [Sem.run_bind, run_underlying hu, Result.andThen_ok, Sem.run_pure, Instr.sureAddr, run_bounds false n n b1 b2 b3 hx hc1 hc2 hc3, run_sizeOf' hd]
    by_cases q : m.getD n = l.getD 0
    · simp only [if_pos q]
    · simp only [if_neg q, addr_add]
end Go.Proofs.YtajknofacjiddaaDoor.Abs
