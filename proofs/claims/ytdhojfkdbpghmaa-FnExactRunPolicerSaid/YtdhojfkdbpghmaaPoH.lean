/- RunPolicer: contracts of the program's and the reference's. -/
import Derived.Test.YtdhojfkdbpghmaaPoG
import Derived.Test.YtdhojfkdbpghmaaApp
namespace Go.Proofs.Ytdhojfkdbpghmaa
open Go.RowKit

def fillI (t r c d : Int) : Int := min c (t + r * d)
structure PS where
  (lt ht now : Int)
  out : List Int
def rpStep (lr lc hr hc : Int) (x : Send) (g : Int) (s : PS) : PS :=
  ⟨lowAfter (fillI s.lt lr lc (x.tick - s.now)) x.size (colourI (fillI s.lt lr lc (x.tick - s.now)) (fillI s.ht hr hc (x.tick - s.now)) x.size g),
   highAfter (fillI s.ht hr hc (x.tick - s.now)) x.size (colourI (fillI s.lt lr lc (x.tick - s.now)) (fillI s.ht hr hc (x.tick - s.now)) x.size g),
   x.tick, s.out ++ [colourI (fillI s.lt lr lc (x.tick - s.now)) (fillI s.ht hr hc (x.tick - s.now)) x.size g]⟩
def gAt (gs : List Int) (k : Nat) : Int := if gs.isEmpty then 2 else gs.getD k 2
theorem gAt_some {gs : List Int} {k : Nat} {v : Int} (h : gs[k]? = some v) : gAt gs k = v := by
  have h0 : gs ≠ [] := fun e => by rw [e] at h; simp at h
  simp [gAt, List.getD_eq_getElem?_getD, h, h0]
theorem gAt_nil {gs : List Int} (h : gs.length = 0) (k : Nat) : gAt gs k = 2 := by
  have h0 : gs = [] := List.eq_nil_of_length_eq_zero h
  simp [gAt, h0]
def rpTo (lr lc lt hr hc ht : Int) (xs : List Send) (gs : List Int) : Nat → PS
  | 0 => ⟨lt, ht, 0, []⟩
  | k + 1 => match xs[k]? with
    | none => rpTo lr lc lt hr hc ht xs gs k
    | some x => rpStep lr lc hr hc x (gAt gs k) (rpTo lr lc lt hr hc ht xs gs k)
theorem rpTo_succ {lr lc lt hr hc ht : Int} {xs : List Send} {gs : List Int} {k : Nat} {x : Send} (hx : xs[k]? = some x) : rpTo lr lc lt hr hc ht xs gs (k + 1) = rpStep lr lc hr hc x (gAt gs k) (rpTo lr lc lt hr hc ht xs gs k) := by simp [rpTo, hx]
def rpB (lr lc lt hr hc ht : Int) (xs : List Send) (gs : List Int) : Bool := policerB lr lc lt hr hc ht && sendsB xs && (gs.all fun x => inB x 0 2) && (gs.isEmpty || decide (gs.length = xs.length))
def rpR (lr lc lt hr hc ht : Int) (xs : List Send) (gs : List Int) : PS := if rpB lr lc lt hr hc ht xs gs then rpTo lr lc lt hr hc ht xs gs xs.length else ⟨0, 0, 0, []⟩
theorem colour_2 {lt ht size g : Int} (h : colourI lt ht size g = 2) : size ≤ lt ∧ size ≤ ht := by
  unfold colourI at h
  split at h
  · omega
  · split at h <;> omega
theorem colour_n0 {lt ht size g : Int} (h : colourI lt ht size g ≠ 0) : size ≤ ht := by
  unfold colourI at h
  split at h
  · omega
  · omega
theorem rpStep_bd {lr lc hr hc : Int} (x : Send) (g : Int) (s : PS) (hl : 0 ≤ lr) (hh : 0 ≤ hr) (hs : 1 ≤ x.size) (h0 : 0 ≤ s.lt ∧ s.lt ≤ lc) (h1 : 0 ≤ s.ht ∧ s.ht ≤ hc) (hd : s.now ≤ x.tick) :
    (0 ≤ fillI s.lt lr lc (x.tick - s.now) ∧ fillI s.lt lr lc (x.tick - s.now) ≤ lc) ∧ (0 ≤ fillI s.ht hr hc (x.tick - s.now) ∧ fillI s.ht hr hc (x.tick - s.now) ≤ hc) ∧
    (0 ≤ (rpStep lr lc hr hc x g s).lt ∧ (rpStep lr lc hr hc x g s).lt ≤ lc) ∧ (0 ≤ (rpStep lr lc hr hc x g s).ht ∧ (rpStep lr lc hr hc x g s).ht ≤ hc) := by
  have a1 : 0 ≤ lr * (x.tick - s.now) := Int.mul_nonneg hl (by omega)
  have a2 : 0 ≤ hr * (x.tick - s.now) := Int.mul_nonneg hh (by omega)
  have b1 : 0 ≤ fillI s.lt lr lc (x.tick - s.now) ∧ fillI s.lt lr lc (x.tick - s.now) ≤ lc := by unfold fillI; omega
  have b2 : 0 ≤ fillI s.ht hr hc (x.tick - s.now) ∧ fillI s.ht hr hc (x.tick - s.now) ≤ hc := by unfold fillI; omega
  refine ⟨b1, b2, ?_, ?_⟩
  · show 0 ≤ lowAfter _ _ _ ∧ lowAfter _ _ _ ≤ lc
    generalize fillI s.lt lr lc (x.tick - s.now) = a at *
    generalize fillI s.ht hr hc (x.tick - s.now) = b at *
    unfold lowAfter
    split
    · rename_i h; have := colour_2 h; omega
    · exact b1
  · show 0 ≤ highAfter _ _ _ ∧ highAfter _ _ _ ≤ hc
    generalize fillI s.lt lr lc (x.tick - s.now) = a at *
    generalize fillI s.ht hr hc (x.tick - s.now) = b at *
    unfold highAfter
    split
    · exact b2
    · rename_i h; have := colour_n0 h; omega
theorem sends_at {xs : List Send} (h : sendsB xs = true) {k : Nat} {x : Send} (hx : xs[k]? = some x) : (0 ≤ x.tick ∧ x.tick ≤ 100000) ∧ (1 ≤ x.size ∧ x.size ≤ 1500) ∧ ∀ j y, k = j + 1 → xs[j]? = some y → y.tick ≤ x.tick := by
  simp only [sendsB, Bool.and_eq_true] at h
  have h1 := chain_at h.1 hx
  have h2 := h1.1
  simp only [sendOk, Bool.and_eq_true, inB_iff] at h2
  exact ⟨h2.2, h2.1, h1.2⟩
theorem sends_len {xs : List Send} (h : sendsB xs = true) : xs.length ≤ 60 := by simp only [sendsB, Bool.and_eq_true, decide_eq_true_eq] at h; exact h.2
structure PInv (lc hc : Int) (k : Nat) (s : PS) : Prop where
  l : 0 ≤ s.lt ∧ s.lt ≤ lc
  h : 0 ≤ s.ht ∧ s.ht ≤ hc
  n : 0 ≤ s.now ∧ s.now ≤ 100000
  o : s.out.length = k
theorem rpTo_inv {lr lc lt hr hc ht : Int} {xs : List Send} {gs : List Int} (hp : policerB lr lc lt hr hc ht = true) (hs : sendsB xs = true) : ∀ k, k ≤ xs.length → PInv lc hc k (rpTo lr lc lt hr hc ht xs gs k) ∧ ∀ x, xs[k]? = some x → (rpTo lr lc lt hr hc ht xs gs k).now ≤ x.tick
  | 0, _ => by
    have h := policerB_iff.1 hp
    exact ⟨⟨h.1.2.2, h.2.1.2.2, by simp [rpTo], rfl⟩, fun x hx => (sends_at hs hx).1.1⟩
  | k + 1, hk => by
    have hx : xs[k]? = some xs[k] := List.getElem?_eq_getElem (by omega)
    generalize xs[k] = x at hx
    obtain ⟨ih, hn⟩ := rpTo_inv (gs := gs) hp hs k (by omega)
    have h := policerB_iff.1 hp
    have hb := sends_at hs hx
    have hst := rpStep_bd x (gAt gs k) (rpTo lr lc lt hr hc ht xs gs k) h.1.1.1 h.2.1.1.1 hb.2.1.1 ih.l ih.h (hn x hx)
    rw [rpTo_succ hx]
    refine ⟨⟨hst.2.2.1, hst.2.2.2, hb.1, ?_⟩, fun y hy => (sends_at hs hy).2.2 k x rfl hx⟩
    simp only [rpStep, List.length_append, List.length_singleton, ih.o]
def RpRel (w : World) (n : Nat) (T IT : TypeId) (F : Nat → PS) (lr lc hr hc : Int) (out now i : Value) (wr : World) : Prop :=
  ∃ k : Nat, k ≤ n ∧ i = .int .i64 k ∧ now = .int .i64 (F k).now ∧ OwnL w IT out (F k).out wr ∧ Blk wr w.heap.size T [.int .i64 lr, .int .i64 lc, .int .i64 (F k).lt, .int .i64 hr, .int .i64 hc, .int .i64 (F k).ht] ∧ Blk wr (w.heap.size + 1) T [.int .i64 0, .int .i64 0, .int .i64 0, .int .i64 0, .int .i64 0, .int .i64 0]
theorem rpRel_step {w wr : World} {n k : Nat} {T IT : TypeId} {F : Nat → PS} {lr lc hr hc : Int} {out : Value} {s : PS} (hk : k < n) (hF : F (k + 1) = s) (hO : OwnL w IT out s.out wr) (hB : Blk wr w.heap.size T [.int .i64 lr, .int .i64 lc, .int .i64 s.lt, .int .i64 hr, .int .i64 hc, .int .i64 s.ht])
    (hZ : Blk wr (w.heap.size + 1) T [.int .i64 0, .int .i64 0, .int .i64 0, .int .i64 0, .int .i64 0, .int .i64 0]) : RpRel w n T IT F lr lc hr hc out (.int .i64 s.now) (.int .i64 ((k : Int) + 1)) wr := by
  subst hF
  exact ⟨k + 1, by omega, by simp, rfl, hO, hB, hZ⟩
def RetP (IT : TypeId) (w : World) (lr lc lt hr hc ht : Int) (rs : List Int) (ok : Bool) (e : Ending) (w' : World) : Prop :=
  ∃ A c, e = .returned (.tuple #[.agg #[.int .i64 lr, .int .i64 lc, .int .i64 lt, .int .i64 hr, .int .i64 hc, .int .i64 ht], .slice A rs.length c, .bool ok]) ∧ w'.ownsRow w.heap.size IT 1 (.slice A rs.length c) rs.length (rs.map (Value.int .i64)) ∧ Below w.heap.size w w'
theorem ownL_alloc {w wr : World} {t : TypeId} {v : Value} {l : List Int} (h : OwnL w t v l wr) (o : Obj) : OwnL w t v l (wr.alloc o) := ⟨h.1.alloc o, ext_alloc h.2 o⟩
theorem ownL_kept {w wr w1 : World} {t et : TypeId} {v : Value} {l : List Int} {g : Nat} {cs : List Value} (h : OwnL w t v l wr) (hB : Blk wr g et cs) (hne : t ≠ et) (hgw : w.heap.size ≤ g) (hg : wr.grownBy w1 (some g)) : OwnL w t v l w1 :=
  ⟨h.1.kept hg (.inr fun e => box_ne h.1 hB hne e.symm), h.2.grown hg h.2.size (fun k hk => by injection hk with hk; omega)⟩
theorem blk_lo {w : World} {g : Nat} {t : TypeId} {a0 a1 a2 a3 a4 a5 : Value} (b0 b1 b2 : Value) (h : Blk w g t [a0, a1, a2, a3, a4, a5]) : Blk (((w.setCell ⟨g, 0, none⟩ b0).setCell ⟨g, 1, none⟩ b1).setCell ⟨g, 2, none⟩ b2) g t [b0, b1, b2, a3, a4, a5] ∧ w.grownBy (((w.setCell ⟨g, 0, none⟩ b0).setCell ⟨g, 1, none⟩ b1).setCell ⟨g, 2, none⟩ b2) (some g) :=
  ⟨((h.set_ 0 b0).set_ 1 b1).set_ 2 b2, grownBy_setCell (grownBy_setCell (grownBy_setCell (World.grownBy.refl w (some g)) 0 b0) 1 b1) 2 b2⟩
theorem blk_hi {w : World} {g : Nat} {t : TypeId} {a0 a1 a2 a3 a4 a5 : Value} (b0 b1 b2 : Value) (h : Blk w g t [a0, a1, a2, a3, a4, a5]) : Blk (((w.setCell ⟨g, 3, none⟩ b0).setCell ⟨g, 4, none⟩ b1).setCell ⟨g, 5, none⟩ b2) g t [a0, a1, a2, b0, b1, b2] ∧ w.grownBy (((w.setCell ⟨g, 3, none⟩ b0).setCell ⟨g, 4, none⟩ b1).setCell ⟨g, 5, none⟩ b2) (some g) :=
  ⟨((h.set_ 3 b0).set_ 4 b1).set_ 5 b2, grownBy_setCell (grownBy_setCell (grownBy_setCell (World.grownBy.refl w (some g)) 3 b0) 4 b1) 5 b2⟩
theorem blk_all {w : World} {g : Nat} {t : TypeId} {a0 a1 a2 a3 a4 a5 : Value} (b0 b1 b2 b3 b4 b5 : Value) (h : Blk w g t [a0, a1, a2, a3, a4, a5]) : Blk ((((((w.setCell ⟨g, 0, none⟩ b0).setCell ⟨g, 1, none⟩ b1).setCell ⟨g, 2, none⟩ b2).setCell ⟨g, 3, none⟩ b3).setCell ⟨g, 4, none⟩ b4).setCell ⟨g, 5, none⟩ b5) g t [b0, b1, b2, b3, b4, b5] ∧ w.grownBy ((((((w.setCell ⟨g, 0, none⟩ b0).setCell ⟨g, 1, none⟩ b1).setCell ⟨g, 2, none⟩ b2).setCell ⟨g, 3, none⟩ b3).setCell ⟨g, 4, none⟩ b4).setCell ⟨g, 5, none⟩ b5) (some g) :=
  ⟨(((((h.set_ 0 b0).set_ 1 b1).set_ 2 b2).set_ 3 b3).set_ 4 b4).set_ 5 b5, grownBy_setCell (grownBy_setCell (grownBy_setCell (grownBy_setCell (grownBy_setCell (grownBy_setCell (World.grownBy.refl w (some g)) 0 b0) 1 b1) 2 b2) 3 b3) 4 b4) 5 b5⟩
theorem infoIntR : (Try.prog.info? 3).map (fun i => (i.zero, i.size, i.bytes)) = some (some (.int .i64 0), 1, 8) := by kernel_rfl

set_option maxHeartbeats 400000 in
theorem filled_any (t r c d : Int) (h0 : 0 ≤ r) (h1 : r ≤ 100000) (h2 : 0 ≤ t) (h3 : t ≤ 1000000) (h4 : 0 ≤ d) (h5 : d ≤ 100000) (w : World) :
    Calls Try.prog 64 #[.int .i64 t, .int .i64 r, .int .i64 c, .int .i64 d] w fun e w' => e = .returned (.int .i64 (fillI t r c d)) ∧ w = w' := by
  have p := mul_bd h0 h1 h4 h5
  have p1 := p.1
  have p2 := p.2
  clear p
  go_enter Try.func64, Try.ntmps64
  go_wp2
  all_goals (go_ret; exact ⟨ret_int (by unfold fillI; omega), rfl⟩)

set_option maxHeartbeats 1000000 in
theorem buFill_any (r c t d : Int) (h0 : 0 ≤ r) (h1 : r ≤ 100000) (h2 : 0 ≤ t) (h3 : t ≤ 1000000) (h4 : 0 ≤ d) (h5 : d ≤ 100000) (w : World) :
    Calls Try.prog 63 #[.agg #[.int .i64 r, .int .i64 c, .int .i64 t], .int .i64 d] w fun e w' => e = .returned (.agg #[.int .i64 r, .int .i64 c, .int .i64 (fillI t r c d)]) ∧ Below w.heap.size w w' := by
  have p := mul_bd h0 h1 h4 h5
  have p1 := p.1
  have p2 := p.2
  clear p
  go_enter Try.func63, Try.ntmps63
  go_wp2_with (go_at_call 67; refine (l1Least_any _ _ _).mono ?_; rintro e w' ⟨rfl, rfl⟩)
  refine bodyPost_ret (v := .agg #[.int .i64 r, .int .i64 c, .int .i64 (fillI t r c d)]) (by simp [results, Try.results63, go_sem, fillI]) rfl ⟨rfl, ?_⟩
  exact ext_alloc (ext_alloc (ext_refl w) _) _

end Go.Proofs.Ytdhojfkdbpghmaa