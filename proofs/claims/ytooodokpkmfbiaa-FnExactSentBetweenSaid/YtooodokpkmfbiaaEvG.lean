/- SentBetween: contracts of the program's and the reference's; the law's walk. -/
import Derived.Test.YtooodokpkmfbiaaEvF
namespace Go.Proofs.Ytooodokpkmfbiaa
open Go.RowKit

def fpE (b : Bool) (x : Int) : Int := if b then x else 0
theorem fpE_false {c : Bool} (h : c = false) (s : Int) : fpE c s = 0 := by simp [fpE, h]
theorem fpE_true {c : Bool} (h : c = true) (s : Int) : fpE c s = s := by simp [fpE, h]
def ofCls (cl : Int) (e : Event) : Bool := (e.kind == 4) && (e.cls == cl)
def sbIn (fr to : Int) (e : Event) : Bool := inB e.tick fr to
def addE (p : Event → Bool) (a : Int) (e : Event) : Int := if p e then a + e.size else a
def sumE (p : Event → Bool) (xs : List Event) : Int := xs.foldl (addE p) 0
theorem sumE_snoc (p : Event → Bool) (xs : List Event) (x : Event) : sumE p (xs ++ [x]) = addE p (sumE p xs) x := by simp [sumE]
theorem sumE_bd (p : Event → Bool) (xs : List Event) (h : ∀ x ∈ xs, 1 ≤ x.size ∧ x.size ≤ 1500) : 0 ≤ sumE p xs ∧ sumE p xs ≤ xs.length * 1500 := by
  have key : ∀ (ys : List Event) (a B : Int), (∀ y ∈ ys, 1 ≤ y.size ∧ y.size ≤ 1500) → 0 ≤ a → a ≤ B → 0 ≤ ys.foldl (addE p) a ∧ ys.foldl (addE p) a ≤ B + ys.length * 1500 := by
    intro ys
    induction ys with
    | nil => intro a B _ h0 h1; simp; omega
    | cons y ys ih =>
      intro a B hy h0 h1
      have hy0 := hy y (by simp)
      have h2 := ih (addE p a y) (B + 1500) (fun z hz => hy z (by simp [hz])) (by unfold addE; split <;> omega) (by unfold addE; split <;> omega)
      rw [List.foldl_cons]
      simp only [List.length_cons, Int.natCast_add, Int.add_mul]
      omega
  have := key xs 0 0 h (by omega) (by omega)
  simpa [sumE] using this
theorem mem_at {α : Type} {xs : List α} {Q : α → Prop} (h : ∀ (k : Nat) (x : α), xs[k]? = some x → Q x) : ∀ x ∈ xs, Q x := fun x hx => by
  obtain ⟨i, hi⟩ := List.getElem?_of_mem hx
  exact h i x hi
def sbP (cl fr to : Int) (e : Event) : Bool := ofCls cl e && sbIn fr to e
def sbB (l : List Event) (cl fr to : Int) : Bool := eventsB l && inB cl 1 999 && inB fr 0 1000000 && inB to 0 1000000
/-- The indices of the packets sent of a class. -/
def outsTo (l : List Event) (cl : Int) : Nat → List Nat
  | 0 => []
  | k + 1 => match l[k]? with
    | none => outsTo l cl k
    | some e => outsTo l cl k ++ (if ofCls cl e then [k] else [])
theorem outsTo_yes {l : List Event} {cl : Int} {k : Nat} {e : Event} (he : l[k]? = some e) (h : ofCls cl e = true) : outsTo l cl (k + 1) = outsTo l cl k ++ [k] := by simp [outsTo, he, h]
theorem outsTo_no {l : List Event} {cl : Int} {k : Nat} {e : Event} (he : l[k]? = some e) (h : ofCls cl e = false) : outsTo l cl (k + 1) = outsTo l cl k := by simp [outsTo, he, h]
theorem outsTo_mem {l : List Event} {cl : Int} : ∀ k, ∀ i ∈ outsTo l cl k, i < k ∧ ∃ e, l[i]? = some e ∧ ofCls cl e = true
  | 0, i, hi => by simp [outsTo] at hi
  | k + 1, i, hi => by
    unfold outsTo at hi
    split at hi
    · have := outsTo_mem k i hi; exact ⟨by omega, this.2⟩
    · rename_i e he
      rw [List.mem_append] at hi
      rcases hi with hi | hi
      · have := outsTo_mem k i hi; exact ⟨by omega, this.2⟩
      · split at hi
        · rename_i h; simp at hi; subst hi; exact ⟨by omega, e, he, h⟩
        · simp at hi
theorem outsTo_len (l : List Event) (cl : Int) : ∀ k, (outsTo l cl k).length ≤ k
  | 0 => by simp [outsTo]
  | k + 1 => by
    have := outsTo_len l cl k
    unfold outsTo
    split
    · omega
    · split <;> simp <;> omega
def castL (is : List Nat) : List Int := List.map (fun i : Nat => (i : Int)) is
theorem castL_snoc (is : List Nat) (i : Nat) : castL (is ++ [i]) = castL is ++ [(i : Int)] := by simp [castL]
def evAt (l : List Event) (i : Nat) : List Event := match l[i]? with
  | none => []
  | some e => [e]
theorem outs_filter (l : List Event) (cl : Int) : ∀ k, (outsTo l cl k).flatMap (evAt l) = (l.take k).filter (ofCls cl)
  | 0 => by simp [outsTo]
  | k + 1 => by
    cases he : l[k]? with
    | none =>
      have e1 : outsTo l cl (k + 1) = outsTo l cl k := by simp [outsTo, he]
      rw [e1, outs_filter l cl k, List.take_add_one, he]; simp
    | some e =>
      rw [take_snoc he, List.filter_append, ← outs_filter l cl k]
      cases h : ofCls cl e with
      | true => rw [outsTo_yes he h, List.flatMap_append]; simp [evAt, he, h]
      | false => rw [outsTo_no he h]; simp [h]
theorem sumE_filter (p q : Event → Bool) (xs : List Event) : sumE p (xs.filter q) = sumE (fun e => q e && p e) xs := by
  unfold sumE
  generalize (0 : Int) = a
  induction xs generalizing a with
  | nil => rfl
  | cons x xs ih =>
    rw [List.filter_cons]
    cases h : q x with
    | true => simp only [if_true, List.foldl_cons]; rw [ih]; simp [addE, h]
    | false => simp only [Bool.false_eq_true, if_false, List.foldl_cons]; rw [ih]; simp [addE, h]
theorem outs_get {l : List Event} {cl : Int} {k j i : Nat} {e : Event} (hi : (outsTo l cl k)[j]? = some i) (he : l[i]? = some e) : ((outsTo l cl k).take (j + 1)).flatMap (evAt l) = ((outsTo l cl k).take j).flatMap (evAt l) ++ [e] := by
  rw [take_snoc hi, List.flatMap_append]; simp [evAt, he]
def SbRel (w : World) (n : Nat) (p : Event → Bool) (l : List Event) (sum i : Value) (wr : World) : Prop := ∃ k : Nat, k ≤ n ∧ i = .int .i64 k ∧ sum = .int .i64 (sumE p (l.take k)) ∧ Below w.heap.size w wr
theorem sbRel_step {w wr : World} {n k : Nat} {p : Event → Bool} {l : List Event} {e : Event} {v s : Int} (he : l[k]? = some e) (hk : k < n) (hs : sumE p (l.take k) = s) (hv : v = addE p s e) (hb : Below w.heap.size w wr) : SbRel w n p l (.int .i64 v) (.int .i64 ((k : Int) + 1)) wr :=
  ⟨k + 1, by omega, by simp, by rw [take_snoc he, sumE_snoc, hs, hv], hb⟩
def OutRel (w : World) (n : Nat) (l : List Event) (cl : Int) (out i : Value) (wr : World) : Prop := ∃ k : Nat, k ≤ n ∧ i = .int .i64 k ∧ OwnL w 3 out (castL (outsTo l cl k)) wr
def SoRel (l : List Event) (is : List Nat) (p : Event → Bool) (sum i : Value) : Prop := ∃ k : Nat, k ≤ is.length ∧ i = .int .i64 k ∧ sum = .int .i64 (sumE p ((is.take k).flatMap (evAt l)))
theorem soRel_step {l : List Event} {is : List Nat} {p : Event → Bool} {k i : Nat} {e : Event} {v s : Int} (hi : is[k]? = some i) (he : l[i]? = some e) (hk : k < is.length) (hs : sumE p ((is.take k).flatMap (evAt l)) = s) (hv : v = addE p s e) : SoRel l is p (.int .i64 v) (.int .i64 ((k : Int) + 1)) := by
  refine ⟨k + 1, by omega, by simp, ?_⟩
  have : (is.take (k + 1)).flatMap (evAt l) = (is.take k).flatMap (evAt l) ++ [e] := by rw [take_snoc hi, List.flatMap_append]; simp [evAt, he]
  rw [this, sumE_snoc, hs, hv]
theorem flat_ev_len (l : List Event) (is : List Nat) : (is.flatMap (evAt l)).length ≤ is.length := by
  induction is with
  | nil => simp
  | cons i is ih =>
    have h : (evAt l i).length ≤ 1 := by unfold evAt; split <;> simp
    rw [List.flatMap_cons, List.length_append, List.length_cons]; omega
theorem flat_ev_mem {l : List Event} {is : List Nat} {e : Event} (h : e ∈ is.flatMap (evAt l)) : ∃ i : Nat, l[i]? = some e := by
  rw [List.mem_flatMap] at h
  obtain ⟨i, _, hi⟩ := h
  unfold evAt at hi
  split at hi
  · simp at hi
  · rename_i x hx; simp at hi; subst hi; exact ⟨i, hx⟩
theorem hasB_one (a b : Int) : hasB [a] b = (b == a) := by
  unfold hasB; simp only [List.any_cons, List.any_nil, Bool.or_false]; rw [Bool.eq_iff_iff]; simp; exact eq_comm
def RetL (t : TypeId) (w : World) (rs : List Int) (e : Ending) (w' : World) : Prop := ∃ A c, e = .returned (.slice A rs.length c) ∧ w'.ownsRow w.heap.size t 1 (.slice A rs.length c) rs.length (rs.map (Value.int .i64)) ∧ Below w.heap.size w w'
theorem retL_own {t : TypeId} {w w' : World} {v : Value} {l : List Int} (h : OwnL w t v l w') : RetL t w l (.returned v) w' := by
  obtain ⟨A, c, rfl⟩ := own_shape h.1
  exact ⟨A, c, rfl, h.1, h.2⟩

set_option maxRecDepth 100000 in
set_option maxHeartbeats 4000000 in
theorem tcOuts_any (A : Option Addr) (n c : Nat) (l : List Event) (B : Option Addr) (d : Nat) (cl : Int) (w : World) (hn : n ≤ 1048576) (hr : Rd w 5 A n (l.flatMap encEvent)) (hs : Rd w 1 B 1 [.int .i64 cl]) :
    Calls Try.prog 28 #[.slice A n c, .slice B 1 d] w (RetL 3 w (castL (outsTo l cl n))) := by
  obtain ⟨i0, hi, hz0, hz1, hz2⟩ := info_parts infoIntB
  have hl : l.length = n := by have h1 := hr.1; rw [flat_len encEvent 5 encEvent_len] at h1; omega
  have HL := Lib.hid hl
  have HS := Lib.hid hs
  clear hl hs
  go_enter Try.func28, Try.ntmps28
  go_wp2_with fail
  go_loopw [5, 10] (OutRel w n l cl) (fun _ i _ => n - (intOf i).toNat)
  case atStart => exact ⟨0, Nat.zero_le _, rfl, by have h := ownL_nil (t := 3) (ext_refl w); exact h⟩
  case round =>
    obtain ⟨k, hk, rfl, hO⟩ := hrel
    have hlo : (castL (outsTo l cl k)).length ≤ k := by have := outsTo_len l cl k; simpa [castL] using this
    by_cases hlt : k < n
    · have hb := hO.2
      obtain ⟨b, o, rfl, hblb, hcellb⟩ := hr.2 (by omega)
      have hblrbe : b < wr.heap.size := Nat.lt_of_lt_of_le hblb hb.size
      have hlxe : k < l.length := by rw [HL.out]; omega
      have hxe : l[k]? = some l[k] := List.getElem?_eq_getElem hlxe
      generalize l[k] = e at hxe
      have c0 : wr.cell? ⟨b, o + (k * 5 + 0), none⟩ = some (.int .i64 e.tick) := (hb.cell (p := ⟨b, o + (k * 5 + 0), none⟩) hblb).trans (hcellb _ _ ((flat_get encEvent 5 encEvent_len l k 0 e hxe (by omega)).trans rfl))
      have c1 : wr.cell? ⟨b, o + (k * 5 + 1), none⟩ = some (.int .i64 e.kind) := (hb.cell (p := ⟨b, o + (k * 5 + 1), none⟩) hblb).trans (hcellb _ _ ((flat_get encEvent 5 encEvent_len l k 1 e hxe (by omega)).trans rfl))
      have c2 : wr.cell? ⟨b, o + (k * 5 + 2), none⟩ = some (.int .i64 e.cls) := (hb.cell (p := ⟨b, o + (k * 5 + 2), none⟩) hblb).trans (hcellb _ _ ((flat_get encEvent 5 encEvent_len l k 2 e hxe (by omega)).trans rfl))
      have c3 : wr.cell? ⟨b, o + (k * 5 + 3), none⟩ = some (.int .i64 e.packet) := (hb.cell (p := ⟨b, o + (k * 5 + 3), none⟩) hblb).trans (hcellb _ _ ((flat_get encEvent 5 encEvent_len l k 3 e hxe (by omega)).trans rfl))
      have c4 : wr.cell? ⟨b, o + (k * 5 + 4), none⟩ = some (.int .i64 e.size) := (hb.cell (p := ⟨b, o + (k * 5 + 4), none⟩) hblb).trans (hcellb _ _ ((flat_get encEvent 5 encEvent_len l k 4 e hxe (by omega)).trans rfl))
      simp only [Nat.add_zero, ← Nat.add_assoc] at c0 c1 c2 c3 c4
      have HX := Lib.hid hxe
      clear hxe hlxe hcellb
      generalize hwl : castL (outsTo l cl k) = wl at hO hlo
      have HWL := Lib.hid hwl
      clear hwl
      cases h4 : (e.kind == 4) with
      | false =>
        have HP := Lib.hid (show ofCls cl e = false by unfold ofCls; rw [h4]; rfl)
        go_wp2_with fail
        go_roundw
        case rel => exact ⟨k + 1, by omega, by go_num, by rw [outsTo_no HX.out HP.out, HWL.out]; exact ownL_alloc hO _⟩
        case measure => simp [intOf]; omega
      | true =>
        cases hc : (e.cls == cl) with
        | false =>
          have HP := Lib.hid (show ofCls cl e = false by unfold ofCls; rw [h4, hc]; rfl)
          have HH := Lib.hid (show hasB [cl] e.cls = false by rw [hasB_one, hc])
          go_wp2_with (go_at_call 32; refine (l1Has_any _ _ _ [cl] _ _ (by omega) (HS.out.below (ext_alloc hb (.cells (List.toArray [.int .i64 e.tick, .int .i64 e.kind, .int .i64 e.cls, .int .i64 e.packet, .int .i64 e.size]) 39)))).mono ?_; rintro e' w' ⟨rfl, rfl⟩; rw [HH.out])
          go_roundw
          case rel => exact ⟨k + 1, by omega, by go_num, by rw [outsTo_no HX.out HP.out, HWL.out]; exact ownL_alloc hO _⟩
          case measure => simp [intOf]; omega
        | true =>
          have HP := Lib.hid (show ofCls cl e = true by unfold ofCls; rw [h4, hc]; rfl)
          have HH := Lib.hid (show hasB [cl] e.cls = true by rw [hasB_one, hc])
          have O0 := ownL_alloc hO (.cells (List.toArray [.int .i64 e.tick, .int .i64 e.kind, .int .i64 e.cls, .int .i64 e.packet, .int .i64 e.size]) 39)
          go_wp2_with (first | (go_at_call 32; refine (l1Has_any _ _ _ [cl] _ _ (by omega) (HS.out.below (ext_alloc hb (.cells (List.toArray [.int .i64 e.tick, .int .i64 e.kind, .int .i64 e.cls, .int .i64 e.packet, .int .i64 e.size]) 39)))).mono ?_; rintro e' w' ⟨rfl, rfl⟩; rw [HH.out]) | (at_builtin; refine wpList_append_own _ rfl (.tmp 24) (.tmp 26) 32 rfl w.heap.size 3 i0 (.int .i64 0) 1 8 Try.underlying32 hi hz0 hz1 hz2 rfl (by decide) _ _ _ rfl (O0.1.alloc _) ⟨wr.heap.size + 1, 0, none⟩ 1 1 [.int .i64 ((k : Int))] rfl rfl ?c1 ?c2 ?c3 ?c4 ?c5 ?_))
          case c1 => have h := cell_one_new (wr.alloc (.cells (List.toArray [.int .i64 e.tick, .int .i64 e.kind, .int .i64 e.cls, .int .i64 e.packet, .int .i64 e.size]) 39)) (.int .i64 (k : Int)) 3; rw [World.size_alloc] at h; exact h
          case c2 => simp [Value.oneCell']
          case c3 => unfold maxLen; omega
          case c4 => omega
          case c5 => have := hO.2.size; simp; omega
          intro v' w3 hown1 hg1 _
          have hO3 := ownL_push O0 hown1 hg1
          have HO3 := Lib.hid hO3
          clear hO3 hown1 hg1 O0
          go_wp2_with fail
          go_roundw
          case rel => first | exact ⟨k + 1, by omega, by go_num, by rw [outsTo_yes HX.out HP.out, castL_snoc, HWL.out]; exact HO3.out⟩ | ((repeat apply Exists.intro); exact ⟨⟨k + 1, by omega, by go_num, by rw [outsTo_yes HX.out HP.out, castL_snoc, HWL.out]; exact HO3.out⟩, rfl⟩)
          case measure => simp [intOf]; omega
    · obtain rfl : k = n := by omega
      go_wp2_with fail
      go_ret
      exact retL_own hO

set_option maxRecDepth 100000 in
set_option maxHeartbeats 8000000 in
theorem specSentBetween_any (A : Option Addr) (n c : Nat) (l : List Event) (cl fr to : Int) (w : World) (hn : n ≤ 1048576) (hr : Rd w 5 A n (l.flatMap encEvent)) :
    Calls Try.prog 12 #[.slice A n c, .int .i64 cl, .int .i64 fr, .int .i64 to] w fun e w' => e = .returned (.tuple #[.int .i64 (fpE (sbB l cl fr to) (sumE (sbP cl fr to) l)), .bool (sbB l cl fr to)]) ∧ Below w.heap.size w w' := by
  cases h1 : eventsB l with
  | false =>
    have e0 : sbB l cl fr to = false := by simp [sbB, h1]
    rw [fpE_false e0, e0]
    clear e0
    go_enter Try.func12, Try.ntmps12
    go_wp2_with (first | (go_at_call 22; refine (tcGood_any A n _ l _ hn hr).mono ?_; rintro e' w1 ⟨rfl, hb1⟩) | (go_at_call 26; refine (tcClass_any _ _).mono ?_; rintro e w' ⟨rfl, rfl⟩) | (go_at_call 27; refine (l1In_any _ _ _ _).mono ?_; rintro e w' ⟨rfl, rfl⟩))
    go_ret2
    exact ⟨rfl, hb1⟩
  | true =>
    cases h2 : inB cl 1 999 with
    | false =>
      have e0 : sbB l cl fr to = false := by simp [sbB, h2]
      rw [fpE_false e0, e0]
      clear e0
      go_enter Try.func12, Try.ntmps12
      go_wp2_with (first | (go_at_call 22; refine (tcGood_any A n _ l _ hn hr).mono ?_; rintro e' w1 ⟨rfl, hb1⟩) | (go_at_call 26; refine (tcClass_any _ _).mono ?_; rintro e w' ⟨rfl, rfl⟩) | (go_at_call 27; refine (l1In_any _ _ _ _).mono ?_; rintro e w' ⟨rfl, rfl⟩))
      go_ret2
      exact ⟨rfl, hb1⟩
    | true =>
      cases h3 : inB fr 0 1000000 with
      | false =>
        have e0 : sbB l cl fr to = false := by simp [sbB, h3]
        rw [fpE_false e0, e0]
        clear e0
        go_enter Try.func12, Try.ntmps12
        go_wp2_with (first | (go_at_call 22; refine (tcGood_any A n _ l _ hn hr).mono ?_; rintro e' w1 ⟨rfl, hb1⟩) | (go_at_call 26; refine (tcClass_any _ _).mono ?_; rintro e w' ⟨rfl, rfl⟩) | (go_at_call 27; refine (l1In_any _ _ _ _).mono ?_; rintro e w' ⟨rfl, rfl⟩))
        go_ret2
        exact ⟨rfl, hb1⟩
      | true =>
        cases h4 : inB to 0 1000000 with
        | false =>
          have e0 : sbB l cl fr to = false := by simp [sbB, h4]
          rw [fpE_false e0, e0]
          clear e0
          go_enter Try.func12, Try.ntmps12
          go_wp2_with (first | (go_at_call 22; refine (tcGood_any A n _ l _ hn hr).mono ?_; rintro e' w1 ⟨rfl, hb1⟩) | (go_at_call 26; refine (tcClass_any _ _).mono ?_; rintro e w' ⟨rfl, rfl⟩) | (go_at_call 27; refine (l1In_any _ _ _ _).mono ?_; rintro e w' ⟨rfl, rfl⟩))
          go_ret2
          exact ⟨rfl, hb1⟩
        | true =>
          have e0 : sbB l cl fr to = true := by simp [sbB, h1, h2, h3, h4]
          rw [fpE_true e0, e0]
          clear e0
          have hl : l.length = n := by have h1 := hr.1; rw [flat_len encEvent 5 encEvent_len] at h1; omega
          have h80 : n ≤ 80 := by have := events_len h1; omega
          have HL := Lib.hid hl
          have HE := Lib.hid h1
          clear hl
          obtain ⟨i0, hi, hz0, hz1, hz2⟩ := info_parts infoIntB
          go_enter Try.func12, Try.ntmps12
          go_wp2_with (first | (go_at_call 22; refine (tcGood_any A n _ l _ hn hr).mono ?_; rintro e' w1 ⟨rfl, hb1⟩) | (go_at_call 26; refine (tcClass_any _ _).mono ?_; rintro e w' ⟨rfl, rfl⟩) | (go_at_call 27; refine (l1In_any _ _ _ _).mono ?_; rintro e w' ⟨rfl, rfl⟩))
          clear h1 h2 h3 h4
          have zA := ext_alloc hb1 (.cells #[.int .i64 cl] 3)
          refine (tcOuts_any A n _ l _ _ cl _ hn (hr.below zA) (rd_new1 (by simp))).mono ?_; rintro e' w2 ⟨B, d, rfl, ho, hb2⟩
          have z2 := ext_trans zA hb2
          have hmem := outsTo_mem (l := l) (cl := cl) n
          have hol := outsTo_len l cl n
          have hsum : sumE (sbP cl fr to) l = sumE (sbIn fr to) ((outsTo l cl n).flatMap (evAt l)) := by
            rw [outs_filter, List.take_of_length_le (by rw [HL.out]; omega), sumE_filter]; rfl
          have HSUM := Lib.hid hsum
          clear hsum
          generalize outsTo l cl n = os at *
          have HM := Lib.hid hmem
          have hcl : (castL os).length = os.length := by simp [castL]
          have ho2 := Rd.of_own ho
          clear hmem hb2 zA hb1 ho
          rw [hcl] at ho2 ⊢
          clear hcl
          go_wp2_with fail
          go_loop [10, 36] (SoRel l os (sbIn fr to)) (fun _ i => os.length - (intOf i).toNat)
          case atStart => exact ⟨0, Nat.zero_le _, rfl, rfl⟩
          case round =>
            obtain ⟨k, hk, rfl, rfl⟩ := hrel
            have hbd := sumE_bd (sbIn fr to) ((os.take k).flatMap (evAt l)) (fun y hy => by
              obtain ⟨i, hi⟩ := flat_ev_mem hy
              exact (ev_bd HE.out hi).2.2)
            have hl2 : ((os.take k).flatMap (evAt l)).length ≤ 80 := by have := flat_ev_len l (os.take k); rw [List.length_take] at this; omega
            generalize hs : sumE (sbIn fr to) ((os.take k).flatMap (evAt l)) = s at *
            have s1 : s ≤ 120000 := by omega
            have HS := Lib.hid hs
            clear hs hl2
            by_cases hlt : k < os.length
            · obtain ⟨b2, o2, x, rfl, hbl2, hx2, hc2⟩ := ho2.int k hlt
              have hos : os[k]? = some os[k] := List.getElem?_eq_getElem hlt
              generalize os[k] = i at hos
              have hxi : x = (i : Int) := by simp [castL, hos] at hx2; exact hx2.symm
              subst hxi
              obtain ⟨hin, e, he, hof⟩ := HM.out i (List.mem_of_getElem? hos)
              obtain ⟨b, o, rfl, hblb, hcellb⟩ := hr.2 (by omega)
              have c0 : w2.cell? ⟨b, o + (i * 5 + 0), none⟩ = some (.int .i64 e.tick) := (z2.cell (p := ⟨b, o + (i * 5 + 0), none⟩) hblb).trans (hcellb _ _ ((flat_get encEvent 5 encEvent_len l i 0 e he (by omega)).trans rfl))
              have c4 : w2.cell? ⟨b, o + (i * 5 + 4), none⟩ = some (.int .i64 e.size) := (z2.cell (p := ⟨b, o + (i * 5 + 4), none⟩) hblb).trans (hcellb _ _ ((flat_get encEvent 5 encEvent_len l i 4 e he (by omega)).trans rfl))
              simp only [Nat.add_zero, ← Nat.add_assoc] at c0 c4
              have hxb := (ev_bd HE.out he).2.2
              have gi0 : (0 : Int) ≤ (i : Int) := by omega
              have gi1 : (i : Int) < (n : Int) := by omega
              have HX := Lib.hid he
              have HOS := Lib.hid hos
              clear he hos hx2 hcellb hof
              cases hg : inB e.tick fr to with
              | false =>
                have HV := Lib.hid (show s = addE (sbIn fr to) s e by unfold addE sbIn; rw [hg]; rfl)
                go_wp2_with (go_at_call 27; refine (l1In_any _ _ _ _).mono ?_; rintro e w' ⟨rfl, rfl⟩)
                go_round
                case rel => exact soRel_step HOS.out HX.out hlt HS.out HV.out
                case measure => simp [intOf]; omega
              | true =>
                have HV := Lib.hid (show s + e.size = addE (sbIn fr to) s e by unfold addE sbIn; rw [hg]; rfl)
                go_wp2_with (go_at_call 27; refine (l1In_any _ _ _ _).mono ?_; rintro e w' ⟨rfl, rfl⟩)
                go_round
                case rel => exact soRel_step HOS.out HX.out hlt HS.out HV.out
                case measure => simp [intOf]; omega
            · go_wp2_with fail
              go_ret2
              exact ⟨by rw [HSUM.out, ← HS.out, List.take_of_length_le (by omega)]; rfl, z2⟩

set_option maxRecDepth 100000 in
set_option maxHeartbeats 8000000 in
theorem implSentBetween_any (A : Option Addr) (n c : Nat) (l : List Event) (cl fr to : Int) (w : World) (hn : n ≤ 1048576) (hr : Rd w 5 A n (l.flatMap encEvent)) :
    Calls Try.prog 13 #[.slice A n c, .int .i64 cl, .int .i64 fr, .int .i64 to] w fun e w' => e = .returned (.tuple #[.int .i64 (fpE (sbB l cl fr to) (sumE (sbP cl fr to) l)), .bool (sbB l cl fr to)]) ∧ Below w.heap.size w w' := by
  cases h1 : eventsB l with
  | false =>
    have e0 : sbB l cl fr to = false := by simp [sbB, h1]
    rw [fpE_false e0, e0]
    clear e0
    go_enter Try.func13, Try.ntmps13
    go_wp2_with (first | (go_at_call 10; refine (implAreEvents_any A n _ l _ hn hr).mono ?_; rintro e' w1 ⟨rfl, hb1⟩) | (go_at_call 29; refine (isId_any _ _).mono ?_; rintro e w' ⟨rfl, rfl⟩) | (go_at_call 30; refine (isEventTick_any _ _).mono ?_; rintro e w' ⟨rfl, rfl⟩))
    go_ret2
    exact ⟨rfl, hb1⟩
  | true =>
    cases h2 : inB cl 1 999 with
    | false =>
      have e0 : sbB l cl fr to = false := by simp [sbB, h2]
      rw [fpE_false e0, e0]
      clear e0
      go_enter Try.func13, Try.ntmps13
      go_wp2_with (first | (go_at_call 10; refine (implAreEvents_any A n _ l _ hn hr).mono ?_; rintro e' w1 ⟨rfl, hb1⟩) | (go_at_call 29; refine (isId_any _ _).mono ?_; rintro e w' ⟨rfl, rfl⟩) | (go_at_call 30; refine (isEventTick_any _ _).mono ?_; rintro e w' ⟨rfl, rfl⟩))
      go_ret2
      exact ⟨rfl, hb1⟩
    | true =>
      cases h3 : inB fr 0 1000000 with
      | false =>
        have e0 : sbB l cl fr to = false := by simp [sbB, h3]
        rw [fpE_false e0, e0]
        clear e0
        go_enter Try.func13, Try.ntmps13
        go_wp2_with (first | (go_at_call 10; refine (implAreEvents_any A n _ l _ hn hr).mono ?_; rintro e' w1 ⟨rfl, hb1⟩) | (go_at_call 29; refine (isId_any _ _).mono ?_; rintro e w' ⟨rfl, rfl⟩) | (go_at_call 30; refine (isEventTick_any _ _).mono ?_; rintro e w' ⟨rfl, rfl⟩))
        go_ret2
        exact ⟨rfl, hb1⟩
      | true =>
        cases h4 : inB to 0 1000000 with
        | false =>
          have e0 : sbB l cl fr to = false := by simp [sbB, h4]
          rw [fpE_false e0, e0]
          clear e0
          go_enter Try.func13, Try.ntmps13
          go_wp2_with (first | (go_at_call 10; refine (implAreEvents_any A n _ l _ hn hr).mono ?_; rintro e' w1 ⟨rfl, hb1⟩) | (go_at_call 29; refine (isId_any _ _).mono ?_; rintro e w' ⟨rfl, rfl⟩) | (go_at_call 30; refine (isEventTick_any _ _).mono ?_; rintro e w' ⟨rfl, rfl⟩))
          go_ret2
          exact ⟨rfl, hb1⟩
        | true =>
          have e0 : sbB l cl fr to = true := by simp [sbB, h1, h2, h3, h4]
          rw [fpE_true e0, e0]
          clear e0
          have hl : l.length = n := by have h1 := hr.1; rw [flat_len encEvent 5 encEvent_len] at h1; omega
          have h80 : n ≤ 80 := by have := events_len h1; omega
          have HL := Lib.hid hl
          have HE := Lib.hid h1
          clear hl
          skip
          go_enter Try.func13, Try.ntmps13
          go_wp2_with (first | (go_at_call 10; refine (implAreEvents_any A n _ l _ hn hr).mono ?_; rintro e' w1 ⟨rfl, hb1⟩) | (go_at_call 29; refine (isId_any _ _).mono ?_; rintro e w' ⟨rfl, rfl⟩) | (go_at_call 30; refine (isEventTick_any _ _).mono ?_; rintro e w' ⟨rfl, rfl⟩))
          clear h1 h2 h3 h4
          go_loopw [10, 33] (SbRel w n (sbP cl fr to) l) (fun _ i _ => n - (intOf i).toNat)
          case atStart => exact ⟨0, Nat.zero_le _, rfl, rfl, hb1⟩
          case round =>
            obtain ⟨k, hk, rfl, rfl, hb⟩ := hrel
            have hbd := sumE_bd (sbP cl fr to) (l.take k) (mem_at fun i y hy => by
              rw [List.getElem?_take] at hy
              split at hy
              · exact (ev_bd HE.out hy).2.2
              · cases hy)
            have hl2 : (l.take k).length ≤ 80 := by rw [List.length_take]; omega
            generalize hs : sumE (sbP cl fr to) (l.take k) = s at *
            have s1 : s ≤ 120000 := by omega
            have HS := Lib.hid hs
            clear hs hl2
            by_cases hlt : k < n
            ·
              obtain ⟨b, o, rfl, hblb, hcellb⟩ := hr.2 (by omega)
              have hblrbe : b < wr.heap.size := Nat.lt_of_lt_of_le hblb hb.size
              have hlxe : k < l.length := by rw [HL.out]; omega
              have hxe : l[k]? = some l[k] := List.getElem?_eq_getElem hlxe
              generalize l[k] = e at hxe
              have c0 : wr.cell? ⟨b, o + (k * 5 + 0), none⟩ = some (.int .i64 e.tick) := (hb.cell (p := ⟨b, o + (k * 5 + 0), none⟩) hblb).trans (hcellb _ _ ((flat_get encEvent 5 encEvent_len l k 0 e hxe (by omega)).trans rfl))
              have c1 : wr.cell? ⟨b, o + (k * 5 + 1), none⟩ = some (.int .i64 e.kind) := (hb.cell (p := ⟨b, o + (k * 5 + 1), none⟩) hblb).trans (hcellb _ _ ((flat_get encEvent 5 encEvent_len l k 1 e hxe (by omega)).trans rfl))
              have c2 : wr.cell? ⟨b, o + (k * 5 + 2), none⟩ = some (.int .i64 e.cls) := (hb.cell (p := ⟨b, o + (k * 5 + 2), none⟩) hblb).trans (hcellb _ _ ((flat_get encEvent 5 encEvent_len l k 2 e hxe (by omega)).trans rfl))
              have c3 : wr.cell? ⟨b, o + (k * 5 + 3), none⟩ = some (.int .i64 e.packet) := (hb.cell (p := ⟨b, o + (k * 5 + 3), none⟩) hblb).trans (hcellb _ _ ((flat_get encEvent 5 encEvent_len l k 3 e hxe (by omega)).trans rfl))
              have c4 : wr.cell? ⟨b, o + (k * 5 + 4), none⟩ = some (.int .i64 e.size) := (hb.cell (p := ⟨b, o + (k * 5 + 4), none⟩) hblb).trans (hcellb _ _ ((flat_get encEvent 5 encEvent_len l k 4 e hxe (by omega)).trans rfl))
              simp only [Nat.add_zero, ← Nat.add_assoc] at c0 c1 c2 c3 c4
              have HX := Lib.hid hxe
              clear hxe hlxe hcellb
              have hxb := (ev_bd HE.out HX.out).2.2
              cases k1 : (e.kind == 4) with
              | false =>
                have HV := Lib.hid (show s = addE (sbP cl fr to) s e by unfold addE sbP ofCls sbIn inB; rw [k1]; simp)
                go_wp2_with fail
                go_roundw
                case rel => exact sbRel_step HX.out hlt HS.out HV.out (ext_alloc hb _)
                case measure => simp [intOf]; omega
              | true =>
                cases k2 : (e.cls == cl) with
                | false =>
                  have HV := Lib.hid (show s = addE (sbP cl fr to) s e by unfold addE sbP ofCls sbIn inB; rw [k1, k2]; simp)
                  go_wp2_with fail
                  go_roundw
                  case rel => exact sbRel_step HX.out hlt HS.out HV.out (ext_alloc hb _)
                  case measure => simp [intOf]; omega
                | true =>
                  cases k3 : decide (fr ≤ e.tick) with
                  | false =>
                    have HV := Lib.hid (show s = addE (sbP cl fr to) s e by unfold addE sbP ofCls sbIn inB; rw [k1, k2, k3]; simp)
                    go_wp2_with fail
                    go_roundw
                    case rel => exact sbRel_step HX.out hlt HS.out HV.out (ext_alloc hb _)
                    case measure => simp [intOf]; omega
                  | true =>
                    cases k4 : decide (e.tick ≤ to) with
                    | false =>
                      have HV := Lib.hid (show s = addE (sbP cl fr to) s e by unfold addE sbP ofCls sbIn inB; rw [k1, k2, k3, k4]; simp)
                      go_wp2_with fail
                      go_roundw
                      case rel => exact sbRel_step HX.out hlt HS.out HV.out (ext_alloc hb _)
                      case measure => simp [intOf]; omega
                    | true =>
                      have HV := Lib.hid (show s + e.size = addE (sbP cl fr to) s e by unfold addE sbP ofCls sbIn inB; rw [k1, k2, k3, k4]; rfl)
                      go_wp2_with fail
                      go_roundw
                      case rel => exact sbRel_step HX.out hlt HS.out HV.out (ext_alloc hb _)
                      case measure => simp [intOf]; omega
            · go_wp2_with fail
              go_ret2
              exact ⟨by rw [← HS.out, List.take_of_length_le (by rw [HL.out]; omega)]; rfl, hb⟩

set_option maxHeartbeats 4000000 in
theorem walkSentBetween (Axl : Option Addr) (nxl cxl : Nat) (xl : List Event) (hnxl : nxl ≤ 9223372036854775807) (cl : Int) (fr : Int) (to : Int) (w : World) (hrxl : Rd w 5 Axl nxl (xl.flatMap encEvent)) :
    Calls Try.prog 4 #[.slice Axl nxl cxl, .int .i64 cl, .int .i64 fr, .int .i64 to] w fun e w' => e = .returned (.bool true) ∧ Below w.heap.size w w' := by
  by_cases hbigxl : 1048576 < nxl
  · go_enter Try.func4, Try.ntmps4
    go_wp2_with (first | (go_at_call 7; refine (szEventS_any Axl nxl cxl _ _ hnxl (by omega) (by omega)).mono ?_; rintro e w1 ⟨rfl, rfl⟩; have hsxl : (if (1048576 : Int) < (nxl : Int) then (-1 : Int) else 1048576 - nxl) = -1 := by {{ split <;> omega }}; rw [hsxl]; clear hsxl) | fail)
    go_ret
    exact ⟨rfl, ext_refl w⟩
  have hmxl : nxl ≤ 1048576 := by omega
  have z0 : Below w.heap.size w w := ext_refl w
  go_enter Try.func4, Try.ntmps4
  go_wp2_with fail
  refine (szEventS_any Axl nxl cxl _ _ hnxl (by omega) (by omega)).mono ?_; rintro e w' ⟨rfl, rfl⟩
  have hsxl : (if (1048576 : Int) < (nxl : Int) then (-1 : Int) else 1048576 - nxl) = 1048576 - nxl := by { split <;> omega }
  rw [hsxl]
  clear hsxl
  go_wp2_with fail
  refine (toEventS_any Axl nxl cxl xl _ hmxl (hrxl.below z0)).mono ?_; rintro e w1 ⟨gt1, rfl, owt1, hb1⟩
  have ot11 := own_base owt1 z0.size
  have z1 := ext_trans z0 hb1
  go_wp2_with fail
  refine (specSentBetween_any _ nxl _ xl cl fr to _ hmxl (Rd.of_own ot11)).mono ?_; rintro e w2 ⟨rfl, hb2⟩
  have ot12 := own_ext ot11 hb2
  have z2 := ext_trans z1 hb2
  go_wp2_with fail
  refine (toEventS_any Axl nxl cxl xl _ hmxl (hrxl.below z2)).mono ?_; rintro e w3 ⟨gxxl, rfl, owxxl, hb3⟩
  have apxxlt1 := apart_before ot12.lt owxxl.lt
  have ot13 := own_ext ot12 hb3
  have oxxl3 := own_base owxxl z2.size
  have z3 := ext_trans z2 hb3
  go_wp2_with fail
  refine (implSentBetween_any _ nxl _ xl cl fr to _ hmxl (Rd.of_own oxxl3)).mono ?_; rintro e w4 ⟨rfl, hb4⟩
  have ot14 := own_ext ot13 hb4
  have oxxl4 := own_ext oxxl3 hb4
  have z4 := ext_trans z3 hb4
  go_wp2_with fail
  refine (toEventS_any Axl nxl cxl xl _ hmxl (hrxl.below z4)).mono ?_; rintro e w5 ⟨gt3, rfl, owt3, hb5⟩
  have apt3t1 := apart_before ot14.lt owt3.lt
  have ot15 := own_ext ot14 hb5
  have apt3xxl := apart_before oxxl4.lt owt3.lt
  have oxxl5 := own_ext oxxl4 hb5
  have ot35 := own_base owt3 z4.size
  have z5 := ext_trans z4 hb5
  go_wp2_with fail
  refine (eqEventS_same _ _ nxl _ _ xl _ hmxl (Rd.of_own oxxl5) (Rd.of_own ot35)).mono ?_; rintro e w6 ⟨rfl, hb6⟩
  have ot16 := own_ext ot15 hb6
  have oxxl6 := own_ext oxxl5 hb6
  have ot36 := own_ext ot35 hb6
  have z6 := ext_trans z5 hb6
  go_wp2_with fail
  go_ret
  exact ⟨rfl, z6⟩

end Go.Proofs.Ytooodokpkmfbiaa