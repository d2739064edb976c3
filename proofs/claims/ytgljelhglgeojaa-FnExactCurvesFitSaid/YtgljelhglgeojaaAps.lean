/- append of a slice that reads as cells, with the word where the result lies; what sizes of sessions read beside rows that grow. -/
import Derived.Test.YtgljelhglgeojaaApp
import Derived.Test.YtgljelhglgeojaaDeN
namespace Go.Proofs.Ytgljelhglgeojaa
open Go.RowKit
section
variable {P : Program} {w : World} {base size bytes : Nat} {t e : TypeId} {i : TypeInfo} {z v : Value} {n : Nat} {xs : List Value}
theorem run_append_at2 (ty : TypeId) (ht : P.underlying t = some (.slice e)) (hi : P.info? e = some i) (hz : i.zero = some z) (hs : i.size = size) (hby : i.bytes = bytes) (hzs : z.cells.size = size) (hsz : 0 < size)
    (hown : w.ownsRow base e size v n xs) (A : Option Addr) (m c : Nat) (news : List Value) (hr : Rd w size A m news) (h1 : ∀ u ∈ news, u.oneCell' = true) (h63 : n + m ≤ maxLen) (hb : (n + m) * bytes ≤ 140737488355328) (hbase : base ≤ w.heap.size) :
    ∃ v' w', (Builtin.append_ #[t, t] ty #[v, .slice A m c]).run P w = .ok v' w' ∧ w'.ownsRow base e size v' (n + m) (xs ++ news) ∧ w.grownBy w' v.ownBlock ∧ (v'.ownBlock = v.ownBlock ∨ v'.ownBlock = some w.heap.size) := by
  cases A with
  | none =>
    obtain rfl : m = 0 := by
      rcases Nat.eq_zero_or_pos m with h | h
      · exact h
      · obtain ⟨b, o, he, _⟩ := hr.2 h; cases he
    obtain rfl : news = [] := List.eq_nil_of_length_eq_zero (by simpa using hr.1)
    refine ⟨v, w, ?_, by simpa using hown, World.grownBy.refl w _, .inl rfl⟩
    rcases hown.2 with ⟨rfl, rfl⟩ | ⟨g, cap, cur, rfl, _, _, hnc, _⟩
    · simp [Builtin.append_, run_underlying ht, sizeOf, typeInfo, hi, Builtin.lenOf, Builtin.firstCells]
    · simp [Builtin.append_, run_underlying ht, sizeOf, typeInfo, hi, Builtin.lenOf, Builtin.firstCells, hnc, storeCells]
  | some ad =>
    have hc : ∀ j u, news[j]? = some u → w.cell? (ad.add j) = some u := by
      intro j u hu
      have hm : 0 < m := by
        rcases Nat.eq_zero_or_pos m with h | h
        · subst h
          have : news = [] := List.eq_nil_of_length_eq_zero (by simpa using hr.1)
          subst this; simp at hu
        · exact h
      obtain ⟨b, o, he, _, hcell⟩ := hr.2 hm
      obtain rfl := Option.some.inj he
      rw [Go.WideShapes.add_plain]
      exact hcell j u hu
    obtain ⟨v', w', h2, h3, h4, _, h5⟩ := run_append_own_at (P := P) w base t ty e i z size bytes ht hi hz hs hby hzs hsz v n xs hown ad m c news hr.1 hc h1 h63 hb hbase
    exact ⟨v', w', h2, h3, h4, h5⟩
theorem wpList_append_at2 {ops : Array Oper} {rest : List Oper} {o : Oper} {a : Act} {Q : Exit → Act → World → Prop} (hgd : o.guard = none) (s x : Operand)
    (ho : o.op = .call { callee := .builtin .append, args := #[s, x], argTypes := #[t, t] }) (ht : P.underlying t = some (.slice e)) (hi : P.info? e = some i) (hz : i.zero = some z) (hs : i.size = size) (hby : i.bytes = bytes) (hzs : z.cells.size = size) (hsz : 0 < size)
    (hsv : a.eval s = v) (hown : w.ownsRow base e size v n xs) (A : Option Addr) (m c : Nat) (news : List Value) (hx : a.eval x = .slice A m c) (hr : Rd w size A m news) (h1 : ∀ u ∈ news, u.oneCell' = true) (h63 : n + m ≤ maxLen) (hb : (n + m) * bytes ≤ 140737488355328) (hbase : base ≤ w.heap.size)
    (h : ∀ v' w', w'.ownsRow base e size v' (n + m) (xs ++ news) → w.grownBy w' v.ownBlock → (v'.ownBlock = v.ownBlock ∨ v'.ownBlock = some w.heap.size) → wpList P ops Q rest (a.put o.dst v') w') : wpList P ops Q (o :: rest) a w := by
  refine wpList_plain hgd fun K hK => ?_
  obtain ⟨v', w', hrun, h2, h3, h4⟩ := run_append_at2 (P := P) o.type ht hi hz hs hby hzs hsz hown A m c news hr h1 h63 hb hbase
  unfold Oper.wp execOp
  simp only [ho, resolve, invoke, builtin, Sem.run_bind, Sem.run_pure, Result.andThen_ok, List.map_toArray, List.map_cons, List.map_nil, hsv, hx, hrun]
  exact hK _ _ (h v' w' h2 h3 h4)
end

/-- A session whose sizes are read beside three rows that the call itself writes. -/
def Zs (w : World) (v0 v1 v2 : Value) (y : SesV) : Prop := y.m ≤ 1048576 ∧ y.m ≤ y.c ∧ y.zs.length = y.m ∧
  (0 < y.m → ∃ b o, y.A = some ⟨b, o, none⟩ ∧ b < w.heap.size ∧ (some b ≠ v0.ownBlock ∧ some b ≠ v1.ownBlock ∧ some b ≠ v2.ownBlock) ∧ ∀ j u, (y.zs.map (Value.int .i64))[j]? = some u → w.cell? ⟨b, o + j, none⟩ = some u)
section
variable {w w' : World} {v0 v1 v2 : Value} {y : SesV}
theorem Zs.sz (h : Zs w v0 v1 v2 y) : SZ w y := ⟨h.1, h.2.1, by simp [h.2.2.1], fun hm => by
  obtain ⟨b, o, hA, hb, _, hc⟩ := h.2.2.2 hm
  exact ⟨b, o, hA, hb, hc⟩⟩
theorem Zs.of_old (h : SZ w y) (h0 : ∀ k, v0.ownBlock = some k → w.heap.size ≤ k) (h1 : ∀ k, v1.ownBlock = some k → w.heap.size ≤ k) (h2 : ∀ k, v2.ownBlock = some k → w.heap.size ≤ k) (hb : Below w.heap.size w w') : Zs w' v0 v1 v2 y :=
  ⟨h.1, h.2.1, h.2.2.len1, fun hm => by
    obtain ⟨b, o, hA, hlt, hc⟩ := h.2.2.2 hm
    refine ⟨b, o, hA, Nat.lt_of_lt_of_le hlt hb.size, ⟨fun e => ?_, fun e => ?_, fun e => ?_⟩, fun j u hu => (hb.cell (p := ⟨b, o + j, none⟩) hlt).trans (hc j u hu)⟩
    · have := h0 b e.symm; omega
    · have := h1 b e.symm; omega
    · have := h2 b e.symm; omega⟩
theorem Zs.below (h : Zs w v0 v1 v2 y) (hb : Below w.heap.size w w') : Zs w' v0 v1 v2 y :=
  ⟨h.1, h.2.1, h.2.2.1, fun hm => by
    obtain ⟨b, o, hA, hlt, hne, hc⟩ := h.2.2.2 hm
    exact ⟨b, o, hA, Nat.lt_of_lt_of_le hlt hb.size, hne, fun j u hu => (hb.cell (p := ⟨b, o + j, none⟩) hlt).trans (hc j u hu)⟩⟩
theorem Zs.set (h : Zs w v0 v1 v2 y) {p : Addr} (hp : v0.ownBlock = some p.block) (u : Value) : Zs (w.setCell p u) v0 v1 v2 y :=
  ⟨h.1, h.2.1, h.2.2.1, fun hm => by
    obtain ⟨b, o, hA, hlt, hne, hc⟩ := h.2.2.2 hm
    refine ⟨b, o, hA, by simpa using hlt, hne, fun j v hv => ?_⟩
    exact (World.cell?_setCell_other w p _ u (by intro e; exact hne.1 (by rw [hp, e]))).trans (hc j v hv)⟩
theorem cell_grown {row : Option Nat} (hg : w.grownBy w' row) {p : Addr} (hlt : p.block < w.heap.size) (hne : some p.block ≠ row) : w'.cell? p = w.cell? p := by
  have := hg.block p.block hlt hne
  unfold World.cell?
  rw [this]
theorem Zs.swap (h : Zs w v0 v1 v2 y) : Zs w v0 v2 v1 y := ⟨h.1, h.2.1, h.2.2.1, fun hm => by
  obtain ⟨b, o, hA, hlt, hne, hc⟩ := h.2.2.2 hm
  exact ⟨b, o, hA, hlt, ⟨hne.1, hne.2.2, hne.2.1⟩, hc⟩⟩
theorem Zs.grown (h : Zs w v0 v1 v2 y) {v1' : Value} (hg : w.grownBy w' v1.ownBlock) (hv : v1'.ownBlock = v1.ownBlock ∨ v1'.ownBlock = some w.heap.size) : Zs w' v0 v1' v2 y :=
  ⟨h.1, h.2.1, h.2.2.1, fun hm => by
    obtain ⟨b, o, hA, hlt, hne, hc⟩ := h.2.2.2 hm
    refine ⟨b, o, hA, Nat.lt_of_lt_of_le hlt hg.size, ⟨hne.1, ?_, hne.2.2⟩, fun j u hu => (cell_grown hg (p := ⟨b, o + j, none⟩) hlt hne.2.1).trans (hc j u hu)⟩
    rcases hv with hv | hv
    · rw [hv]; exact hne.2.1
    · rw [hv]; intro e; injection e with e; omega⟩
theorem Zs.new {base : Nat} {x : Ses} {A : Option Addr} {c : Nat} {e : TypeId} (hm : x.zs.length ≤ 1048576) (ho : w'.ownsRow base e 1 (.slice A x.zs.length c) x.zs.length (x.zs.map (Value.int .i64)))
    (h0 : ∀ k, v0.ownBlock = some k → k < base) (h1 : ∀ k, v1.ownBlock = some k → k < base) (h2 : ∀ k, v2.ownBlock = some k → k < base) : Zs w' v0 v1 v2 ⟨x, A, x.zs.length, c⟩ :=
  ⟨hm, by
    rcases ho.2 with ⟨hv, h⟩ | ⟨g, cap, cur, hv, _, _, hnc, _⟩
    · simp only; omega
    · injection hv with _ _ hc; simp only; omega, rfl, fun hpos => by
    obtain ⟨b, o, hA, hlt, hc⟩ := (Rd.of_own ho).2 hpos
    refine ⟨b, o, hA, hlt, ?_, hc⟩
    have hbb : base ≤ b := (ho.lt b (by rw [hA]; rfl)).1
    refine ⟨fun e => ?_, fun e => ?_, fun e => ?_⟩
    · have := h0 b e.symm; omega
    · have := h1 b e.symm; omega
    · have := h2 b e.symm; omega⟩
end
end Go.Proofs.Ytgljelhglgeojaa
