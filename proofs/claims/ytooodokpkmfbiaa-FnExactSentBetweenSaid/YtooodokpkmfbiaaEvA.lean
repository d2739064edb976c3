/- Events: what both sides compute, in plain words; a map of the call's own, whatever its elements. -/
import Derived.Test.YtooodokpkmfbiaaHelp
import Derived.Deep.RegionHeld3
import Derived.Maps.OwnSet
namespace Go.Proofs.Ytooodokpkmfbiaa
open Go.RowKit

/-! ### A map with int keys that the call has made: it reads as a function -/
def hv (v : Value) : Option (DataW Value × List MemPlace) := some (.held v, [])
def OwnM (w : World) (P : Program) (kt : TypeId) (b n : Nat) (f : Int → Option Value) : Prop :=
  ∃ D : DataW Value, w.ownsMap P kt hv b n D ∧ ∀ p : Int, Maps.has D (.int .i64 p) = (f p).isSome ∧ ∀ z, D.atKey (.int .i64 p) z = (match f p with | some v => .held v | none => z)
theorem lit_wf {p : Int} (hp : -9223372036854775808 ≤ p ∧ p ≤ 9223372036854775807) : (Lit.int .i64 p).wf = true := by
  have h1 : IntKind.i64.min = -9223372036854775808 := by decide
  have h2 : IntKind.i64.max = 9223372036854775807 := by decide
  simp [Lit.wf, h1, h2]; omega
theorem keyI {p : Int} : WideAt.IsKeyLit (.int .i64 p) := by simp [WideAt.IsKeyLit]
section
variable {w : World} {P : Program} {kt : TypeId} {b n : Nat} {f : Int → Option Value}
theorem ownM_made (w : World) (P : Program) (kt : TypeId) : OwnM (w.alloc (.map #[] 0)) P kt w.heap.size 0 (fun _ => none) :=
  ⟨.map [], World.ownsMap_made w P kt hv, fun _ => ⟨rfl, fun _ => rfl⟩⟩
theorem OwnM.lt (h : OwnM w P kt b n f) : b < w.heap.size := by obtain ⟨D, h1, _⟩ := h; exact h1.lt
theorem OwnM.alloc (h : OwnM w P kt b n f) (o : Obj) : OwnM (w.alloc o) P kt b n f := by obtain ⟨D, h1, h2⟩ := h; exact ⟨D, h1.alloc o, h2⟩
theorem OwnM.drewN (h : OwnM w P kt b n f) (k : Nat) : OwnM (w.drewN k) P kt b n f := h
theorem OwnM.drew (h : OwnM w P kt b n f) : OwnM w.drew P kt b n f := h
theorem OwnM.kept {w' : World} {row : Option Nat} (h : OwnM w P kt b n f) (hg : w.grownBy w' row) (hne : some b ≠ row) : OwnM w' P kt b n f := by obtain ⟨D, h1, h2⟩ := h; exact ⟨D, h1.kept hg hne, h2⟩
theorem OwnM.below {w' : World} (h : OwnM w P kt b n f) (hb : Below w.heap.size w w') : OwnM w' P kt b n f := by
  have hlt := h.lt
  obtain ⟨D, ⟨es, clock, h1, h3⟩, h2⟩ := h
  exact ⟨D, ⟨es, clock, (hb.block b hlt).trans h1, h3⟩, h2⟩
theorem OwnM.look {t e : TypeId} (h : OwnM w P kt b n f) (hk : P.underlying kt = some (.int .i64)) (ht : P.underlying t = some (.map kt e)) {z : Value} (hz : (zeroValue e).run P w = .ok z w) {p : Int} (hp : -9223372036854775808 ≤ p ∧ p ≤ 9223372036854775807) :
    (Instr.lookup t (.map (some b)) (.int .i64 p) false).run P w = .ok ((f p).getD z) w := by
  obtain ⟨D, h1, h2⟩ := h
  obtain ⟨v, ps, hrun, hv'⟩ := h1.lookup (Maps.int_keyed hk) ht hz (zd := .held z) (zp := []) rfl (Maps.keyOf_int_mk hk (a := p) (lit_wf hp))
  rw [hrun]
  rw [(h2 p).2] at hv'
  cases hf : f p with
  | none => rw [hf] at hv'; simp [hv] at hv'; rw [hv'.1]; rfl
  | some u => rw [hf] at hv'; simp [hv] at hv'; rw [hv'.1]; rfl
theorem OwnM.look_ok {t e : TypeId} (h : OwnM w P kt b n f) (hk : P.underlying kt = some (.int .i64)) (ht : P.underlying t = some (.map kt e)) {z : Value} (hz : (zeroValue e).run P w = .ok z w) {p : Int} (hp : -9223372036854775808 ≤ p ∧ p ≤ 9223372036854775807) :
    (Instr.lookup t (.map (some b)) (.int .i64 p) true).run P w = .ok (.tuple #[(f p).getD z, .bool (f p).isSome]) w := by
  obtain ⟨D, h1, h2⟩ := h
  obtain ⟨v, ps, hrun, hv'⟩ := h1.look_ok (Maps.int_keyed hk) ht hz (zd := .held z) (zp := []) rfl (Maps.keyOf_int_mk hk (a := p) (lit_wf hp))
  rw [hrun, (h2 p).1]
  rw [(h2 p).2] at hv'
  cases hf : f p with
  | none => rw [hf] at hv'; simp [hv] at hv'; rw [hv'.1]; rfl
  | some u => rw [hf] at hv'; simp [hv] at hv'; rw [hv'.1]; rfl
theorem OwnM.update {t e : TypeId} (h : OwnM w P kt b n f) (hk : P.underlying kt = some (.int .i64)) (ht : P.underlying t = some (.map kt e)) (hn : n < maxLen) {p : Int} (hp : -9223372036854775808 ≤ p ∧ p ≤ 9223372036854775807) (v : Value) :
    ∃ w', (Instr.mapUpdate t (.map (some b)) (.int .i64 p) v).run P w = .ok () w' ∧ OwnM w' P kt b (n + 1) (fun q => if q = p then some v else f q) ∧ w.grownBy w' (some b) := by
  obtain ⟨D, h1, h2⟩ := h
  obtain ⟨w', hrun, ho, hg⟩ := h1.update (Maps.int_keyed hk) ht hn (Maps.keyOf_int_mk hk (a := p) (lit_wf hp)) (val := v) (d := .held v) (ps := []) rfl
  refine ⟨w', hrun, ⟨_, ho, fun q => ?_⟩, hg⟩
  by_cases hq : q = p
  · subst hq
    simp only [if_true]
    exact ⟨Maps.has_put_same h1.isMap keyI _, fun z => Maps.atKey_put_same h1.isMap keyI _ z⟩
  · have hne : (Lit.int .i64 q) ≠ .int .i64 p := by intro h; injection h with _ h; exact hq h
    simp only [if_neg hq]
    exact ⟨(Maps.has_put_other hne _).trans (h2 q).1, fun z => (Maps.atKey_put_other hne _ z).trans ((h2 q).2 z)⟩
end

/-! ### Events -/
def isArr (p : Int) (e : Event) : Bool := (e.kind != 4) && (e.packet == p)
def isOut (p : Int) (e : Event) : Bool := (e.kind == 4) && (e.packet == p)
def cameOf (pre : List Event) (p : Int) : Option Event := pre.find? (isArr p)
def sentOf (pre : List Event) (p : Int) : Bool := pre.any (isOut p)
def prevTick (l : List Event) : Nat → Int
  | 0 => 0
  | j + 1 => match l[j]? with
    | none => 0
    | some y => y.tick
/-- An event by itself, its tick not before t. -/
def evOne (e : Event) (t : Int) : Bool := inB e.tick t 1000000 && inB e.kind 1 4 && inB e.packet 1 100000 && inB e.size 1 1500 && (if e.kind = 3 then e.cls == 0 else inB e.cls 1 999)
def fitOut (pre : List Event) (e : Event) : Bool := match cameOf pre e.packet with
  | none => false
  | some x => (x.kind == 1) && (x.cls == e.cls) && (x.size == e.size) && !sentOf pre e.packet
def okEv (l : List Event) (k : Nat) (e : Event) : Bool := evOne e (prevTick l k) && (if e.kind = 4 then fitOut (l.take k) e else (cameOf (l.take k) e.packet).isNone)
def okAt (l : List Event) (k : Nat) : Bool := match l[k]? with
  | none => true
  | some e => okEv l k e
def eventsB (l : List Event) : Bool := (List.range l.length).all (okAt l) && decide (l.length ≤ 80)
theorem events_false {l : List Event} {k : Nat} {e : Event} (he : l[k]? = some e) (h : okEv l k e = false) : eventsB l = false := by
  have : (List.range l.length).all (okAt l) = false := by
    rw [List.all_eq_false]
    exact ⟨k, List.mem_range.2 (List.getElem?_eq_some_iff.1 he).1, by simp [okAt, he, h]⟩
  simp [eventsB, this]
theorem events_true {l : List Event} (h : ∀ k, k < l.length → okAt l k = true) : eventsB l = decide (l.length ≤ 80) := by
  have : (List.range l.length).all (okAt l) = true := by
    rw [List.all_eq_true]
    exact fun k hk => h k (List.mem_range.1 hk)
  simp [eventsB, this]
theorem events_at {l : List Event} (h : eventsB l = true) {k : Nat} {e : Event} (he : l[k]? = some e) : okEv l k e = true := by
  simp only [eventsB, Bool.and_eq_true] at h
  have := List.all_eq_true.1 h.1 k (List.mem_range.2 (List.getElem?_eq_some_iff.1 he).1)
  simpa [okAt, he] using this
theorem events_len {l : List Event} (h : eventsB l = true) : l.length ≤ 80 := by simp only [eventsB, Bool.and_eq_true, decide_eq_true_eq] at h; exact h.2
theorem evOne_bd {e : Event} {t : Int} (h : evOne e t = true) : (t ≤ e.tick ∧ e.tick ≤ 1000000) ∧ (1 ≤ e.kind ∧ e.kind ≤ 4) ∧ (1 ≤ e.packet ∧ e.packet ≤ 100000) ∧ (1 ≤ e.size ∧ e.size ≤ 1500) := by
  simp only [evOne, Bool.and_eq_true, inB_iff] at h
  exact ⟨h.1.1.1.1, h.1.1.1.2, h.1.1.2, h.1.2⟩
theorem prev_succ {l : List Event} {k : Nat} {e : Event} (he : l[k]? = some e) : prevTick l (k + 1) = e.tick := by simp [prevTick, he]
theorem came_snoc (pre : List Event) (e : Event) (p : Int) : cameOf (pre ++ [e]) p = (cameOf pre p).or (if isArr p e then some e else none) := by
  simp [cameOf, List.find?_append, List.find?_cons]
  cases isArr p e <;> rfl
theorem sent_snoc (pre : List Event) (e : Event) (p : Int) : sentOf (pre ++ [e]) p = (sentOf pre p || isOut p e) := by simp [sentOf]

/-! ### The reference looks for arrivals in the whole list -/
def arrIdx (l : List Event) (p : Int) : Int := if l.findIdx (isArr p) < l.length then (l.findIdx (isArr p) : Int) else -1
theorem arrIdx_some {l : List Event} {p : Int} {k : Nat} {e : Event} (he : l[k]? = some e) (h : isArr p e = true) (hno : ∀ j, j < k → ∀ y, l[j]? = some y → isArr p y = false) : arrIdx l p = k := by
  obtain ⟨hk, rfl⟩ := List.getElem?_eq_some_iff.1 he
  have : l.findIdx (isArr p) = k := by
    rw [List.findIdx_eq hk]
    exact ⟨h, fun j hj => hno j hj _ (List.getElem?_eq_getElem (by omega))⟩
  simp [arrIdx, this, hk]
theorem arrIdx_none {l : List Event} {p : Int} (hno : ∀ j, j < l.length → ∀ y, l[j]? = some y → isArr p y = false) : arrIdx l p = -1 := by
  have : ¬ l.findIdx (isArr p) < l.length := by
    intro h
    have h1 := List.findIdx_getElem (p := isArr p) (xs := l) (w := h)
    rw [hno _ h _ (List.getElem?_eq_getElem h)] at h1
    cases h1
  simp [arrIdx, this]
theorem came_some {l : List Event} {k : Nat} {p : Int} {x : Event} (h : cameOf (l.take k) p = some x) : ∃ j, j < k ∧ arrIdx l p = (j : Int) ∧ l[j]? = some x := by
  unfold cameOf at h
  rw [List.find?_eq_some_iff_getElem] at h
  obtain ⟨h1, i, hi, h2, h3⟩ := h
  have hi' : i < k ∧ i < l.length := by simp at hi; omega
  have e : l[i]? = some x := by
    rw [List.getElem_take] at h2
    rw [List.getElem?_eq_getElem hi'.2, h2]
  refine ⟨i, hi'.1, arrIdx_some e h1 fun j hj y hy => ?_, e⟩
  have h4 := h3 j hj
  rw [List.getElem_take] at h4
  rw [List.getElem?_eq_getElem (by omega)] at hy
  rw [Option.some.inj hy] at h4
  simpa using h4
theorem came_none {l : List Event} {k : Nat} {p : Int} (h : cameOf (l.take k) p = none) : ∀ j, j < k → ∀ y, l[j]? = some y → isArr p y = false := by
  intro j hj y hy
  unfold cameOf at h
  rw [List.find?_eq_none] at h
  have := h y (List.mem_of_getElem? (i := j) (by rw [List.getElem?_take, if_pos hj]; exact hy))
  simpa using this
theorem came_none_out {l : List Event} {k : Nat} {p : Int} {e : Event} (h : cameOf (l.take k) p = none) (he : l[k]? = some e) (ha : isArr p e = false) : arrIdx l p < 0 ∨ (k : Int) < arrIdx l p := by
  unfold arrIdx
  split
  · rename_i hlt
    right
    have h1 := List.findIdx_getElem (p := isArr p) (xs := l) (w := hlt)
    rcases Nat.lt_trichotomy (l.findIdx (isArr p)) k with h2 | h2 | h2
    · rw [came_none h _ h2 _ (List.getElem?_eq_getElem hlt)] at h1; cases h1
    · rw [List.getElem?_eq_getElem (by omega)] at he
      have e2 := Option.some.inj he
      subst h2
      rw [e2, ha] at h1
      cases h1
    · omega
  · left; omega
end Go.Proofs.Ytooodokpkmfbiaa
