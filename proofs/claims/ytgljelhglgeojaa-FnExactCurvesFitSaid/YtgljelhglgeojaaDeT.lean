/- schedule: the program's run of slots; contract. -/
import Derived.Test.YtgljelhglgeojaaDeR
namespace Go.Proofs.Ytgljelhglgeojaa
open Go.RowKit

theorem ses_one (ys : List SesV) : ∀ u ∈ ys.flatMap encSes, u.oneCell' = true := by
  intro u hu
  rw [List.mem_flatMap] at hu
  obtain ⟨y, _, hu⟩ := hu
  simp only [encSes, List.mem_cons, List.not_mem_nil, or_false] at hu
  rcases hu with rfl | rfl | rfl | rfl | rfl | rfl | rfl <;> rfl
theorem Rd.of_nil {w : World} {size : Nat} {A : Option Addr} {n : Nat} {cs : List Value} (h : Rd w size A n cs) (hA : A = none) : n = 0 := by
  rcases Nat.eq_zero_or_pos n with h0 | h0
  · exact h0
  · obtain ⟨b, o, he, _⟩ := h.2 h0
    rw [hA] at he; cases he

set_option maxHeartbeats 2000000 in
theorem cloneS_any (A : Option Addr) (n c : Nat) (ys : List SesV) (w : World) (hn : n ≤ 1048576) (hr : Rd w 7 A n (ys.flatMap encSes)) :
    Calls Try.prog 90 #[.slice A n c] w fun e w' => ∃ v, e = .returned v ∧ w'.ownsRow w.heap.size 39 7 v n (ys.flatMap encSes) ∧ Below w.heap.size w w' := by
  obtain ⟨i0, hi, hz0, hz1, hz2⟩ := info_parts infoSes
  cases A with
  | none =>
    obtain rfl := hr.of_nil rfl
    have hx : ys.flatMap encSes = [] := List.eq_nil_of_length_eq_zero (by simpa using hr.1)
    rw [hx]
    have g0 := fun W => Lib.run_eql_slice_nil (P := Try.prog) W 26 39 none 0 c 0 0 Try.underlying26
    simp only [Option.isNone] at g0
    go_enter Try.func90, Try.ntmps90
    go_wp2_with fail
    go_ret
    exact ⟨_, rfl, World.ownsRow_nil _ _ _ _, ext_refl w⟩
  | some ad =>
    have g0 := fun W => Lib.run_eql_slice_nil (P := Try.prog) W 26 39 (some ad) n c 0 0 Try.underlying26
    simp only [Option.isNone] at g0
    go_enter Try.func90, Try.ntmps90
    go_wp2_with (at_builtin; refine wpList_append_rd (size := 7) (bytes := 72) (base := w.heap.size) rfl (.tmp 5) (.tmp 6) rfl Try.underlying26 hi hz0 hz1 hz2 rfl (by decide) rfl (World.ownsRow_made w #[] 0 (Nat.le_refl _) (by unfold maxLen; omega) (by simp)) (some ad) n c (ys.flatMap encSes) rfl (hr.alloc _) (ses_one ys) ?a1 ?a2 ?a3 ?_)
    case a1 => unfold maxLen; omega
    case a2 => omega
    case a3 => simp
    intro v' w1 ho hg
    go_wp2_with fail
    go_ret
    exact ⟨_, rfl, by simpa using ho, (ext_alloc (ext_refl w) _).grown hg (by simp) (fun k hk => by simp [Value.ownBlock] at hk <;> omega)⟩

/-- What the program's loop over slots holds. -/
def SchI (w : World) (n : Nat) (ss : List Ses) (rate slots : Int) (v0 : Value) (v1 v2 t i : Value) (wr : World) : Prop :=
  ∃ (k : Nat) (r : Run) (ys : List SesV), (k : Int) ≤ slots ∧ i = .int .i64 k ∧ t = .int .i64 r.t ∧ slotsI rate (run0 ss) k = some r ∧ RunOk r n k ∧ sesOf ys = r.ss ∧ (∀ y ∈ ys, Zs wr v0 v1 v2 y) ∧
    wr.ownsRow w.heap.size 39 7 v0 n (ys.flatMap encSes) ∧ wr.ownsRow w.heap.size 3 1 v1 r.sent.length (r.sent.map (Value.int .i64)) ∧ wr.ownsRow w.heap.size 3 1 v2 (trueAt 0 r.late).length ((trueAt 0 r.late).map (Value.int .i64)) ∧
    (∀ k, v1.ownBlock = some k → v2.ownBlock ≠ some k) ∧ Below w.heap.size w wr
def RetSch (w : World) (R M : List Int) (ok : Bool) (e : Ending) (w' : World) : Prop :=
  ∃ A c B d, e = .returned (.tuple #[.slice A R.length c, .slice B M.length d, .bool ok]) ∧ w'.ownsRow w.heap.size 3 1 (.slice A R.length c) R.length (R.map (Value.int .i64)) ∧ w'.ownsRow w.heap.size 3 1 (.slice B M.length d) M.length (M.map (Value.int .i64)) ∧ Below w.heap.size w w'
theorem retSch_none {w w' : World} {ss : List Ses} {rate slots : Int} (h : schRun ss rate slots = none) (hb : Below w.heap.size w w') : RetSch w (schR ss rate slots) (misR ss rate slots) (schOk ss rate slots) (.returned (.tuple #[.slice none 0 0, .slice none 0 0, .bool false])) w' := by
  have e1 : schR ss rate slots = [] := by simp [schR, h]
  have e2 : misR ss rate slots = [] := by simp [misR, schL, h, trueAt]
  have e3 : schOk ss rate slots = false := by simp [schOk, h]
  rw [e1, e2, e3]
  exact ⟨none, 0, none, 0, rfl, World.ownsRow_nil _ _ _ _, World.ownsRow_nil _ _ _ _, hb⟩
theorem retSch_some {w w' : World} {ss : List Ses} {rate slots : Int} {r : Run} {v1 v2 : Value} (h : schRun ss rate slots = some r) (h1 : w'.ownsRow w.heap.size 3 1 v1 r.sent.length (r.sent.map (Value.int .i64))) (h2 : w'.ownsRow w.heap.size 3 1 v2 (trueAt 0 r.late).length ((trueAt 0 r.late).map (Value.int .i64))) (hb : Below w.heap.size w w') :
    RetSch w (schR ss rate slots) (misR ss rate slots) (schOk ss rate slots) (.returned (.tuple #[v1, v2, .bool true])) w' := by
  have e1 : schR ss rate slots = r.sent := by simp [schR, h]
  have e2 : misR ss rate slots = trueAt 0 r.late := by simp [misR, schL, h]
  have e3 : schOk ss rate slots = true := by simp [schOk, h]
  rw [e1, e2, e3]
  obtain ⟨A, c, rfl⟩ := own_shape h1
  obtain ⟨B, d, rfl⟩ := own_shape h2
  exact ⟨A, c, B, d, rfl, h1, h2, hb⟩
theorem serveB_at {x : Ses} (h : SesOk x) (hz : x.zs ≠ []) : serveB x = decide (needI x ≤ 1000000000) := by
  have h2 : x.zs.isEmpty = false := by cases he : x.zs with
    | nil => exact absurd he hz
    | cons a b => rfl
  rw [serveB, sesB_iff.2 h, h2]; rfl
theorem own_ne {w : World} {base g : Nat} {e t : TypeId} {m n : Nat} {v : Value} {xs cs : List Value} (h : w.ownsRow base e m v n xs) (hB : Blk w g t cs) (hne : e ≠ t) : v.ownBlock = none ∨ v.ownBlock ≠ some g := .inr fun e' => box_ne h hB hne e'.symm

theorem own_apart {w : World} {base b2 : Nat} {e e2 : TypeId} {m m2 n n2 : Nat} {v v2 : Value} {xs xs2 : List Value} (h : w.ownsRow base e m v n xs) (h2 : w.ownsRow b2 e2 m2 v2 n2 xs2) (hne : e ≠ e2) : v.ownBlock = none ∨ v.ownBlock ≠ v2.ownBlock := by
  rcases h.2 with ⟨rfl, _⟩ | ⟨g, cap, cur, rfl, _, hg, _⟩
  · exact .inl rfl
  · refine .inr fun he => ?_
    rcases h2.2 with ⟨rfl, _⟩ | ⟨g2, cap2, cur2, rfl, _, hg2, _⟩
    · simp [Value.ownBlock] at he
    · have e1 : g = g2 := by simpa [Value.ownBlock] using he
      subst e1
      rw [hg] at hg2
      injection hg2 with hg2
      injection hg2 with _ ht
      exact hne ht
theorem or_of_hap {v1 v2 : Value} (h : ∀ k, v1.ownBlock = some k → v2.ownBlock ≠ some k) : v2.ownBlock = none ∨ v2.ownBlock ≠ v1.ownBlock := by
  cases h2 : v2.ownBlock with
  | none => exact .inl rfl
  | some k => exact .inr fun e => h k e.symm h2
theorem or_of_hap' {v1 v2 : Value} (h : ∀ k, v1.ownBlock = some k → v2.ownBlock ≠ some k) : v1.ownBlock = none ∨ v1.ownBlock ≠ v2.ownBlock := by
  cases h1 : v1.ownBlock with
  | none => exact .inl rfl
  | some k => exact .inr fun e => h k h1 e.symm
theorem hap_new {w : World} {v1 v1' v2 : Value} {base n m : Nat} {e : TypeId} {xs : List Value} (h : ∀ k, v1.ownBlock = some k → v2.ownBlock ≠ some k) (hv : v1'.ownBlock = v1.ownBlock ∨ v1'.ownBlock = some w.heap.size) (h2 : w.ownsRow base e m v2 n xs) : ∀ k, v1'.ownBlock = some k → v2.ownBlock ≠ some k := by
  intro k hk hk2
  rcases hv with hv | hv
  · exact h k (by rw [← hv]; exact hk) hk2
  · rw [hv] at hk
    injection hk with hk
    have := (h2.lt k hk2).2
    omega
theorem hap_new' {w : World} {v1 v2 v2' : Value} {base n m : Nat} {e : TypeId} {xs : List Value} (h : ∀ k, v1.ownBlock = some k → v2.ownBlock ≠ some k) (hv : v2'.ownBlock = v2.ownBlock ∨ v2'.ownBlock = some w.heap.size) (h1 : w.ownsRow base e m v1 n xs) : ∀ k, v1.ownBlock = some k → v2'.ownBlock ≠ some k := by
  intro k hk hk2
  rcases hv with hv | hv
  · exact h k hk (by rw [← hv]; exact hk2)
  · rw [hv] at hk2
    injection hk2 with hk2
    have := (h1.lt k hk).2
    omega
theorem blk_elem {ys : List SesV} {cs : List Value} {n j i : Nat} {y : SesV} (ht : cs.take (n * 7) = ys.flatMap encSes) (hl : ys.length = n) (hy : ys[j]? = some y) (hi : i < 7) : cs[j * 7 + i]? = (encSes y)[i]? := by
  have hj := (List.getElem?_eq_some_iff.1 hy).1
  rw [← flat_get encSes 7 encSes_len ys j i y hy hi, ← ht, List.getElem?_take, if_pos (by omega)]
theorem push_map {l : List Int} {v : Int} : l.map (Value.int .i64) ++ [.int .i64 v] = (l ++ [v]).map (Value.int .i64) := by simp

set_option maxRecDepth 100000 in
set_option maxHeartbeats 8000000 in
theorem implSchedule_any (rate slots : Int) (A : Option Addr) (n c : Nat) (xs : List SesV) (w : World) (hn : n ≤ 1048576) (hr : Rd w 7 A n (xs.flatMap encSes)) (hz : ∀ x ∈ xs, SZ w x) :
    Calls Try.prog 75 #[.slice A n c, .int .i64 rate, .int .i64 slots] w (RetSch w (schR (sesOf xs) rate slots) (misR (sesOf xs) rate slots) (schOk (sesOf xs) rate slots)) := by
  have hl : xs.length = n := by have h1 := hr.1; rw [flat_len encSes 7 encSes_len] at h1; omega
  have HL := Lib.hid hl
  clear hl
  obtain ⟨i0, hi, hz0, hz1, hz2⟩ := info_parts infoInt
  cases h1 : listB xs with
  | false =>
    have hg : schGo (sesOf xs) rate slots = false := by rw [schGo, ← listB_eq, h1]; rfl
    go_enter Try.func75, Try.ntmps75
    go_wp2_with (go_at_call 48; refine (areSessions_any A n c xs w hn hr hz).mono ?_; rintro e w1 ⟨rfl, hb1⟩)
    all_goals first | exact (show False by omega).elim | (go_ret3; exact retSch_none (sch_bad hg) hb1)
  | true =>
    have HLS := Lib.hid ((listB_eq xs).symm.trans h1)
    have hn6 : n ≤ 6 := by have := list_len h1; have := HL.out; omega
    by_cases hr1 : 1 ≤ rate
    case neg =>
      have hg : schGo (sesOf xs) rate slots = false := by have : ¬ 1 ≤ rate := hr1; simp [schGo, inB, this]
      go_enter Try.func75, Try.ntmps75
      go_wp2_with (go_at_call 48; refine (areSessions_any A n c xs w hn hr hz).mono ?_; rintro e w1 ⟨rfl, hb1⟩)
      all_goals first | exact (show False by omega).elim | (go_ret3; exact retSch_none (sch_bad hg) hb1)
    by_cases hr2 : rate ≤ 100000
    case neg =>
      have hg : schGo (sesOf xs) rate slots = false := by have : ¬ rate ≤ 100000 := hr2; simp [schGo, inB, this]
      go_enter Try.func75, Try.ntmps75
      go_wp2_with (go_at_call 48; refine (areSessions_any A n c xs w hn hr hz).mono ?_; rintro e w1 ⟨rfl, hb1⟩)
      all_goals first | exact (show False by omega).elim | (go_ret3; exact retSch_none (sch_bad hg) hb1)
    by_cases hs1 : 0 ≤ slots
    case neg =>
      have hg : schGo (sesOf xs) rate slots = false := by have : ¬ 0 ≤ slots := hs1; simp [schGo, inB, this]
      go_enter Try.func75, Try.ntmps75
      go_wp2_with (go_at_call 48; refine (areSessions_any A n c xs w hn hr hz).mono ?_; rintro e w1 ⟨rfl, hb1⟩)
      all_goals first | exact (show False by omega).elim | (go_ret3; exact retSch_none (sch_bad hg) hb1)
    by_cases hs2 : slots ≤ 60
    case neg =>
      have hg : schGo (sesOf xs) rate slots = false := by have : ¬ slots ≤ 60 := hs2; simp [schGo, inB, this]
      go_enter Try.func75, Try.ntmps75
      go_wp2_with (go_at_call 48; refine (areSessions_any A n c xs w hn hr hz).mono ?_; rintro e w1 ⟨rfl, hb1⟩)
      all_goals first | exact (show False by omega).elim | (go_ret3; exact retSch_none (sch_bad hg) hb1)
    have HG := Lib.hid (show schGo (sesOf xs) rate slots = true by rw [schGo, HLS.out, inB_iff.2 ⟨hr1, hr2⟩, inB_iff.2 ⟨hs1, hs2⟩]; rfl)
    have d1 : decide (60 < slots) = false := by simp; omega
    have d2 : decide (100000 < rate) = false := by simp; omega
    go_enter Try.func75, Try.ntmps75
    go_wp2_with (go_at_call 48; refine (areSessions_any A n c xs w hn hr hz).mono ?_; rintro e w1 ⟨rfl, hb1⟩)
    all_goals first | exact (show False by omega).elim | skip
    refine (cloneS_any A n c xs _ hn (hr.below hb1)).mono ?_; rintro e w2 ⟨v0, rfl, ow2, hb2⟩
    have z2 := ext_trans hb1 hb2
    have own2 := own_base ow2 hb1.size
    have O1 := World.ownsRow_made (base := w.heap.size) (e := 3) (size := 1) w2 #[] 0 z2.size (by unfold maxLen; omega) (by simp)
    have z3 := ext_alloc z2 (.cells #[] 3)
    have z4 := ext_alloc z3 (.cells #[] 3)
    have O2 := World.ownsRow_made (base := w.heap.size) (e := 3) (size := 1) (w2.alloc (.cells #[] 3)) #[] 0 z3.size (by unfold maxLen; omega) (by simp)
    rw [World.size_alloc] at O2
    have O1b := O1.alloc (.cells #[] 3)
    have own4 := (own2.alloc (.cells #[] 3)).alloc (.cells #[] 3)
    have zsh := fun y (hy : y ∈ xs) => Zs.of_old (v0 := v0) (v1 := .slice (some ⟨w2.heap.size, 0, none⟩) 0 0) (v2 := .slice (some ⟨w2.heap.size + 1, 0, none⟩) 0 0) (hz y hy) (fun k hk => (own2.lt k hk).1) (fun k hk => (O1.lt k hk).1) (fun k hk => (O2.lt k hk).1) z4
    go_wp2_with fail
    go_loopw [10, 11, 12, 43] (SchI w n (sesOf xs) rate slots v0) (fun _ _ _ i _ => slots.toNat - (intOf i).toNat)
    case atStart =>
      refine ⟨0, run0 (sesOf xs), xs, hs1, rfl, rfl, rfl, ?_, rfl, zsh, own4, O1b, O2, ?_, z4⟩
      · have := runOk_start HLS.out
        rwa [show (sesOf xs).length = n by unfold sesOf; rw [List.length_map, HL.out]] at this
      · intro k hk
        simp [Value.ownBlock] at hk ⊢
        omega
    case round =>
      obtain ⟨k, r, ys, hks, rfl, rfl, hsl, hok, hys, hzs, ownN, ownS, ownM, hap, hb⟩ := hrel
      have HOK := Lib.hid hok
      have HYS := Lib.hid hys
      have HZS := Lib.hid hzs
      have HSL := Lib.hid hsl
      have HAP := Lib.hid hap
      have HSLN := Lib.hid hok.sl
      have HTL := Lib.hid (show (trueAt 0 r.late).length ≤ k by have := trueAt_len 0 r.late; rw [hok.ll] at this; exact this)
      have ht0 := hok.t0
      have ht1 := hok.t1
      have hk60 : k ≤ 60 := by omega
      have hnl : ys.length = n := by have h1 := hok.len; rw [← hys] at h1; unfold sesOf at h1; rwa [List.length_map] at h1
      have HNL := Lib.hid hnl
      have hlB : listB ys = true := by rw [listB_eq, hys]; exact runOk_list hok hn6
      have HLB := Lib.hid hlB
      clear hok hys hzs hsl hap hnl hlB
      by_cases hlt : (k : Int) < slots
      · by_cases hov : 100000 < r.t
        · go_wp2_with fail
          all_goals first | exact (show False by omega).elim | (go_ret3; exact retSch_none (sch_none hlt HSL.out (slot_over hov)) hb)
        · have HOV := Lib.hid hov
          have hd0 : decide (100000 < r.t) = false := by simp; omega
          obtain ⟨AN, cN, rfl⟩ := own_shape ownN
          go_wp2_with fail
          all_goals first | exact (show False by omega).elim | skip
          refine (nextSession_any r.t AN n cN ys wr hn (Rd.of_own ownN) (fun y hy => (HZS.out y hy).sz) HLB.out ⟨ht0, by omega⟩).mono ?_; rintro e w3 ⟨rfl, hb3⟩
          rw [show sesOf ys = r.ss from HYS.out]
          have ownN3 := own_ext ownN hb3
          have ownS3 := own_ext ownS hb3
          have ownM3 := own_ext ownM hb3
          have z3 := ext_trans hb hb3
          have HZ3 := Lib.hid (fun (y : SesV) (hy : y ∈ ys) => (HZS.out y hy).below hb3)
          clear ownN ownS ownM HZS hb3
          rcases next_cases r with hneg | ⟨j, x, hxj, hnx, hdx, hzne⟩
          · have HNG := Lib.hid hneg
            generalize hi1 : (nextI r.ss r.t).1 = i1 at *
            generalize hd1 : (nextI r.ss r.t).2 = d1 at *
            have HI1 := Lib.hid hi1
            clear hi1 hd1
            go_wp2_with (at_builtin; refine wpList_append_at2 (size := 1) (bytes := 8) (base := w.heap.size) rfl (.tmp 54) (.tmp 56) rfl Try.underlying32 hi hz0 hz1 hz2 rfl (by decide) rfl (ownS3.alloc _) (some ⟨w3.heap.size, 0, none⟩) 1 1 [.int .i64 (i1)] rfl (Rd.of_blk (Blk.new w3 _ _) rfl) (by intro u hu; simp at hu; subst hu; rfl) ?p1 ?p2 ?p3 ?_)
            case p1 => have := HSLN.out; unfold maxLen; omega
            case p2 => have := HSLN.out; omega
            case p3 => have := z3.size; simp; omega
            intro v1' w4 own4 hg4 hv4
            have hs4 : (w3.alloc (.cells #[.int .i64 i1] 3)).heap.size = w3.heap.size + 1 := by simp
            rw [← hs4] at hv4
            have ON := ownN3.alloc (.cells #[.int .i64 i1] 3)
            have OS := ownS3.alloc (.cells #[.int .i64 i1] 3)
            have OM := ownM3.alloc (.cells #[.int .i64 i1] 3)
            have ZO := ext_alloc z3 (.cells #[.int .i64 i1] 3)
            have ownN4 := ON.kept hg4 (own_apart ON OS (by decide))
            have ownM4 := OM.kept hg4 (or_of_hap HAP.out)
            have z4 := own_grown ZO OS ZO.size hg4
            have HZ4 := Lib.hid (fun (y : SesV) (hy : y ∈ ys) => ((HZ3.out y hy).below (ext_alloc (ext_refl w3) (.cells #[.int .i64 i1] 3))).grown hg4 hv4)
            have HA4 := Lib.hid (hap_new HAP.out hv4 OM)
            clear ON OS OM ZO hs4
            have HO4 := Lib.hid own4
            clear own4 hg4 hv4 ownN3 ownS3 ownM3
            go_wp2_with fail
            go_roundw
            case rel =>
              have hr2 : SchI w n (sesOf xs) rate slots (.slice AN n cN) v1' _ (.int .i64 (r.t + 1)) (.int .i64 ((k : Int) + 1)) w4 :=
                ⟨k + 1, idleR r, ys, by omega, by simp, rfl, by rw [slots_succ HSL.out, slot_idle (by have := HOV.out; omega) (by rw [HI1.out]; exact HNG.out)], runOk_idle HOK.out (by have := HOV.out; omega), HYS.out, HZ4.out, ownN4, by have h := HO4.out; rw [push_map] at h; simpa [idleR, HI1.out] using h, by simpa [idleR, trueAt_false] using ownM4, HA4.out, z4⟩
              first | exact hr2 | ((repeat apply Exists.intro); exact ⟨hr2, rfl⟩)
            case measure => simp [intOf]; omega
          · rw [hnx]
            simp only
            obtain ⟨y, hyj, hyx⟩ : ∃ y : SesV, ys[j]? = some y ∧ y.toSes = x := by
              have h1 : (sesOf ys)[j]? = some x := by rw [HYS.out]; exact hxj
              unfold sesOf at h1
              rw [List.getElem?_map] at h1
              cases hq : ys[j]? with
              | none => rw [hq] at h1; cases h1
              | some y => rw [hq] at h1; exact ⟨y, rfl, by simpa using h1⟩
            have hj : j < n := by have := (List.getElem?_eq_some_iff.1 hyj).1; rw [HNL.out] at this; exact this
            have hokx := HOK.out.ok x (List.mem_of_getElem? hxj)
            have hzb := head_bd hokx hzne
            have hub := up_bd hr1 hzb
            have HNX := Lib.hid hnx
            have HXJ := Lib.hid hxj
            have HYJ := Lib.hid hyj
            have HYX := Lib.hid hyx
            have HZN := Lib.hid hzne
            have HOX := Lib.hid hokx
            have hsv := serveB_at hokx hzne
            have hszy := (HZ3.out y (List.mem_of_getElem? hyj)).sz
            generalize hd1 : deadI x = d1 at *
            have HD1 := Lib.hid hd1
            clear hd1 hnx hxj hyj hzne hokx
            go_wp2_with (at_builtin; refine wpList_append_at2 (size := 1) (bytes := 8) (base := w.heap.size) rfl (.tmp 54) (.tmp 56) rfl Try.underlying32 hi hz0 hz1 hz2 rfl (by decide) rfl (ownS3.alloc _) (some ⟨w3.heap.size, 0, none⟩) 1 1 [.int .i64 ((j : Int))] rfl (Rd.of_blk (Blk.new w3 _ _) rfl) (by intro u hu; simp at hu; subst hu; rfl) ?q1 ?q2 ?q3 ?_)
            case q1 => have := HSLN.out; unfold maxLen; omega
            case q2 => have := HSLN.out; omega
            case q3 => have := z3.size; simp; omega
            intro v1' w4 own4 hg4 hv4
            have hs4 : (w3.alloc (.cells #[.int .i64 (j : Int)] 3)).heap.size = w3.heap.size + 1 := by simp
            rw [← hs4] at hv4
            have ON := ownN3.alloc (.cells #[.int .i64 (j : Int)] 3)
            have OS := ownS3.alloc (.cells #[.int .i64 (j : Int)] 3)
            have OM := ownM3.alloc (.cells #[.int .i64 (j : Int)] 3)
            have ZO := ext_alloc z3 (.cells #[.int .i64 (j : Int)] 3)
            have ownN4 := ON.kept hg4 (own_apart ON OS (by decide))
            have ownM4 := OM.kept hg4 (or_of_hap HAP.out)
            have z4 := own_grown ZO OS ZO.size hg4
            have HZ4 := Lib.hid (fun (y : SesV) (hy : y ∈ ys) => ((HZ3.out y hy).below (ext_alloc (ext_refl w3) (.cells #[.int .i64 (j : Int)] 3))).grown hg4 hv4)
            have HA4 := Lib.hid (hap_new HAP.out hv4 OM)
            have HO4 := Lib.hid own4
            clear ON OS OM ZO hs4 own4 hg4 hv4 ownN3 ownS3 ownM3 hszy
            have hszy := (HZ4.out y (List.mem_of_getElem? HYJ.out)).sz
            obtain ⟨g, cs, rfl, hbg, BN, hcl, hnc, hcm, htk⟩ := own_blk ownN4 (by omega)
            have hjc : j * 7 + 7 ≤ cs.length := by
              have := Nat.mul_le_mul_right 7 hnc
              rw [hcl]; omega
            have c0 : w4.cell? ⟨g, j * 7, none⟩ = some (.int .i64 y.f) := by rw [BN.cell]; exact (blk_elem (i := 0) htk HNL.out HYJ.out (by omega)).trans rfl
            have f0 := BN.frozen (j * 7)
            have c1 : w4.cell? ⟨g, j * 7 + 1, none⟩ = some (.int .i64 y.l) := by rw [BN.cell]; exact (blk_elem (i := 1) htk HNL.out HYJ.out (by omega)).trans rfl
            have f1 := BN.frozen (j * 7 + 1)
            have c2 : w4.cell? ⟨g, j * 7 + 2, none⟩ = some (.int .i64 y.s) := by rw [BN.cell]; exact (blk_elem (i := 2) htk HNL.out HYJ.out (by omega)).trans rfl
            have f2 := BN.frozen (j * 7 + 2)
            have c3 : w4.cell? ⟨g, j * 7 + 3, none⟩ = some (.int .i64 y.st) := by rw [BN.cell]; exact (blk_elem (i := 3) htk HNL.out HYJ.out (by omega)).trans rfl
            have f3 := BN.frozen (j * 7 + 3)
            have c4 : w4.cell? ⟨g, j * 7 + 4, none⟩ = some (.int .i64 y.ba) := by rw [BN.cell]; exact (blk_elem (i := 4) htk HNL.out HYJ.out (by omega)).trans rfl
            have f4 := BN.frozen (j * 7 + 4)
            have c5 : w4.cell? ⟨g, j * 7 + 5, none⟩ = some (.int .i64 y.se) := by rw [BN.cell]; exact (blk_elem (i := 5) htk HNL.out HYJ.out (by omega)).trans rfl
            have f5 := BN.frozen (j * 7 + 5)
            have c6 : w4.cell? ⟨g, j * 7 + 6, none⟩ = some (.slice y.A y.m y.c) := by rw [BN.cell]; exact (blk_elem (i := 6) htk HNL.out HYJ.out (by omega)).trans rfl
            have f6 := BN.frozen (j * 7 + 6)
            have hgl := BN.lt
            have ij0 : (0 : Int) ≤ (j : Int) := by omega
            have ij1 : (j : Int) < (n : Int) := by omega
            subst hyx
            have hcall := fun hr => implServeOne_at y.toSes y.A y.m y.c w4 hszy.1 hszy.2.1 hr
            rw [hsv] at hcall
            by_cases hbig : 1000000000 < needI y.toSes
            · have HBIG := Lib.hid hbig
              have e0 : serveB y.toSes = false := by rw [hsv]; simp; omega
              rw [serveR_no e0, serveZ_no e0, show decide (needI y.toSes ≤ 1000000000) = false by simp; omega] at hcall
              clear e0 hsv hbig
              go_wp2_with fail
              refine (hcall hszy.2.2).mono ?_; rintro e w5 ⟨A5, c5, rfl, ow5, hb5⟩
              go_wp2_with fail
              all_goals first | exact (show False by omega).elim | (go_ret3; exact retSch_none (sch_none hlt HSL.out (slot_big (by have := HOV.out; omega) (by rw [HNX.out, HD1.out]) HXJ.out HBIG.out)) (ext_alloc (ext_trans z4 hb5) _))
            · have HBIG := Lib.hid hbig
              have e0 : serveB y.toSes = true := by rw [hsv]; simp; omega
              have eZ : serveZ y.toSes = y.zs.headD 0 := by simp [serveZ, e0]
              have hlen5 : (serveI y.toSes).zs.length ≤ 1048576 := by have := HOX.out.len; simp only [serveI, List.length_tail]; omega
              rw [serveR_yes e0, eZ, show decide (needI y.toSes ≤ 1000000000) = true by simp; omega] at hcall
              clear e0 hsv hbig eZ
              have HLN := Lib.hid hlen5
              clear hlen5
              obtain ⟨y2, hy2⟩ : ∃ y2, serveI y.toSes = y2 := ⟨_, rfl⟩
              have HY2 := Lib.hid hy2
              rw [hy2] at hcall HLN
              clear hy2
              obtain ⟨zv, hzv⟩ : ∃ zv, y.zs.headD 0 = zv := ⟨_, rfl⟩
              have HZV := Lib.hid hzv
              rw [hzv] at hcall hzb hub
              clear hzv
              have hu1 : (zv + rate - 1) / rate = upT rate zv := rfl
              have hu2 : (zv + rate - 1).tdiv rate = upT rate zv := by rw [Int.tdiv_eq_ediv_of_nonneg (by omega)]; rfl
              generalize hup : upT rate zv = up at *
              have HUP := Lib.hid hup
              clear hup
              go_wp2_with fail
              refine (hcall hszy.2.2).mono ?_; rintro e w5 ⟨A5, c5, rfl, ow5, hb5⟩
              clear hcall
              have BN5 := BN.below hb5
              have q0 : w5.cell? ⟨g, j * 7, none⟩ = some (cs[j * 7]'(by omega)) := by rw [BN5.cell, List.getElem?_eq_getElem (by omega)]
              have e0 := BN5.frozen (j * 7)
              have q1 : w5.cell? ⟨g, j * 7 + 1, none⟩ = some (cs[j * 7 + 1]'(by omega)) := by rw [BN5.cell, List.getElem?_eq_getElem (by omega)]
              have e1 := BN5.frozen (j * 7 + 1)
              have q2 : w5.cell? ⟨g, j * 7 + 2, none⟩ = some (cs[j * 7 + 2]'(by omega)) := by rw [BN5.cell, List.getElem?_eq_getElem (by omega)]
              have e2 := BN5.frozen (j * 7 + 2)
              have q3 : w5.cell? ⟨g, j * 7 + 3, none⟩ = some (cs[j * 7 + 3]'(by omega)) := by rw [BN5.cell, List.getElem?_eq_getElem (by omega)]
              have e3 := BN5.frozen (j * 7 + 3)
              have q4 : w5.cell? ⟨g, j * 7 + 4, none⟩ = some (cs[j * 7 + 4]'(by omega)) := by rw [BN5.cell, List.getElem?_eq_getElem (by omega)]
              have e4 := BN5.frozen (j * 7 + 4)
              have q5 : w5.cell? ⟨g, j * 7 + 5, none⟩ = some (cs[j * 7 + 5]'(by omega)) := by rw [BN5.cell, List.getElem?_eq_getElem (by omega)]
              have e5 := BN5.frozen (j * 7 + 5)
              have q6 : w5.cell? ⟨g, j * 7 + 6, none⟩ = some (cs[j * 7 + 6]'(by omega)) := by rw [BN5.cell, List.getElem?_eq_getElem (by omega)]
              have e6 := BN5.frozen (j * 7 + 6)
              have hgl5 := BN5.lt
              have hgl6 : ∀ i, g < w5.heap.size + i := fun i => by omega
              have z5 := ext_trans z4 hb5
              have gB := (grownBy_setCell (grownBy_setCell (grownBy_setCell (grownBy_setCell (grownBy_setCell (grownBy_setCell (grownBy_setCell (World.grownBy.refl w5 (some g)) (j * 7) (.int .i64 y2.f)) (j * 7 + 1) (.int .i64 y2.l)) (j * 7 + 2) (.int .i64 y2.s)) (j * 7 + 3) (.int .i64 y2.st)) (j * 7 + 4) (.int .i64 y2.ba)) (j * 7 + 5) (.int .i64 y2.se)) (j * 7 + 6) (.slice A5 y2.zs.length c5))
              have BN6 : Blk (((((((w5.setCell ⟨g, j * 7, none⟩ (.int .i64 y2.f)).setCell ⟨g, j * 7 + 1, none⟩ (.int .i64 y2.l)).setCell ⟨g, j * 7 + 2, none⟩ (.int .i64 y2.s)).setCell ⟨g, j * 7 + 3, none⟩ (.int .i64 y2.st)).setCell ⟨g, j * 7 + 4, none⟩ (.int .i64 y2.ba)).setCell ⟨g, j * 7 + 5, none⟩ (.int .i64 y2.se)).setCell ⟨g, j * 7 + 6, none⟩ (.slice A5 y2.zs.length c5)) g 39 (SetRow cs (j * 7) (encSes ⟨y2, A5, y2.zs.length, c5⟩)) := (((((((BN5.set_ (j * 7) (.int .i64 y2.f)).set_ (j * 7 + 1) (.int .i64 y2.l)).set_ (j * 7 + 2) (.int .i64 y2.s)).set_ (j * 7 + 3) (.int .i64 y2.st)).set_ (j * 7 + 4) (.int .i64 y2.ba)).set_ (j * 7 + 5) (.int .i64 y2.se)).set_ (j * 7 + 6) (.slice A5 y2.zs.length c5))
              have ownN7 := (own_setRow encSes_len HNL.out hj hbg hcl hnc hcm htk BN6).alloc (.cells (List.toArray [.int .i64 y2.f, .int .i64 y2.l, .int .i64 y2.s, .int .i64 y2.st, .int .i64 y2.ba, .int .i64 y2.se, .slice A5 y2.zs.length c5]) 39)
              have oS5 := own_ext HO4.out hb5
              have oM5 := own_ext ownM4 hb5
              have ownS7 := (oS5.kept gB (own_ne oS5 BN5 (by decide))).alloc (.cells (List.toArray [.int .i64 y2.f, .int .i64 y2.l, .int .i64 y2.s, .int .i64 y2.st, .int .i64 y2.ba, .int .i64 y2.se, .slice A5 y2.zs.length c5]) 39)
              have ownM7 := (oM5.kept gB (own_ne oM5 BN5 (by decide))).alloc (.cells (List.toArray [.int .i64 y2.f, .int .i64 y2.l, .int .i64 y2.s, .int .i64 y2.st, .int .i64 y2.ba, .int .i64 y2.se, .slice A5 y2.zs.length c5]) 39)
              have z6 := (((((((z5.setCell (p := ⟨g, j * 7, none⟩) hbg (.int .i64 y2.f)).setCell (p := ⟨g, j * 7 + 1, none⟩) hbg (.int .i64 y2.l)).setCell (p := ⟨g, j * 7 + 2, none⟩) hbg (.int .i64 y2.s)).setCell (p := ⟨g, j * 7 + 3, none⟩) hbg (.int .i64 y2.st)).setCell (p := ⟨g, j * 7 + 4, none⟩) hbg (.int .i64 y2.ba)).setCell (p := ⟨g, j * 7 + 5, none⟩) hbg (.int .i64 y2.se)).setCell (p := ⟨g, j * 7 + 6, none⟩) hbg (.slice A5 y2.zs.length c5))
              have z7 := ext_alloc z6 (.cells (List.toArray [.int .i64 y2.f, .int .i64 y2.l, .int .i64 y2.s, .int .i64 y2.st, .int .i64 y2.ba, .int .i64 y2.se, .slice A5 y2.zs.length c5]) 39)
              have zn5 := Zs.new (v0 := .slice (some ⟨g, 0, none⟩) n cN) HLN.out ow5 (fun q hq => by simp [Value.ownBlock] at hq; subst hq; exact BN.lt) (fun q hq => (HO4.out.lt q hq).2) (fun q hq => (ownM4.lt q hq).2)
              have HZ7 := Lib.hid (show ∀ y' ∈ ys.set j ⟨y2, A5, y2.zs.length, c5⟩, Zs ((((((((w5.setCell ⟨g, j * 7, none⟩ (.int .i64 y2.f)).setCell ⟨g, j * 7 + 1, none⟩ (.int .i64 y2.l)).setCell ⟨g, j * 7 + 2, none⟩ (.int .i64 y2.s)).setCell ⟨g, j * 7 + 3, none⟩ (.int .i64 y2.st)).setCell ⟨g, j * 7 + 4, none⟩ (.int .i64 y2.ba)).setCell ⟨g, j * 7 + 5, none⟩ (.int .i64 y2.se)).setCell ⟨g, j * 7 + 6, none⟩ (.slice A5 y2.zs.length c5)).alloc (.cells (List.toArray [.int .i64 y2.f, .int .i64 y2.l, .int .i64 y2.s, .int .i64 y2.st, .int .i64 y2.ba, .int .i64 y2.se, .slice A5 y2.zs.length c5]) 39)) (.slice (some ⟨g, 0, none⟩) n cN) v1' _ y' from fun y' hy' => by
                rcases List.mem_or_eq_of_mem_set hy' with h | rfl
                · exact (((((((((HZ4.out y' h).below hb5).set (p := ⟨g, j * 7, none⟩) rfl (.int .i64 y2.f)).set (p := ⟨g, j * 7 + 1, none⟩) rfl (.int .i64 y2.l)).set (p := ⟨g, j * 7 + 2, none⟩) rfl (.int .i64 y2.s)).set (p := ⟨g, j * 7 + 3, none⟩) rfl (.int .i64 y2.st)).set (p := ⟨g, j * 7 + 4, none⟩) rfl (.int .i64 y2.ba)).set (p := ⟨g, j * 7 + 5, none⟩) rfl (.int .i64 y2.se)).set (p := ⟨g, j * 7 + 6, none⟩) rfl (.slice A5 y2.zs.length c5)).below (ext_alloc (ext_refl _) _)
                · exact (((((((zn5.set (p := ⟨g, j * 7, none⟩) rfl (.int .i64 y2.f)).set (p := ⟨g, j * 7 + 1, none⟩) rfl (.int .i64 y2.l)).set (p := ⟨g, j * 7 + 2, none⟩) rfl (.int .i64 y2.s)).set (p := ⟨g, j * 7 + 3, none⟩) rfl (.int .i64 y2.st)).set (p := ⟨g, j * 7 + 4, none⟩) rfl (.int .i64 y2.ba)).set (p := ⟨g, j * 7 + 5, none⟩) rfl (.int .i64 y2.se)).set (p := ⟨g, j * 7 + 6, none⟩) rfl (.slice A5 y2.zs.length c5)).below (ext_alloc (ext_refl _) _))
              have HSE := Lib.hid (show sesOf (ys.set j ⟨y2, A5, y2.zs.length, c5⟩) = (busyR rate r j y.toSes).ss by rw [sesOf_set, HYS.out]; simp only [busyR]; rw [HY2.out])
              have HRT := Lib.hid (show (busyR rate r j y.toSes).t = r.t + up by simp only [busyR]; rw [HZV.out, HUP.out])
              have HSB := Lib.hid (show slotsI rate (run0 (sesOf xs)) (k + 1) = some (busyR rate r j y.toSes) by rw [slots_succ HSL.out, slot_busy (by have := HOV.out; omega) (by rw [HNX.out, HD1.out]) HXJ.out (by have := HBIG.out; omega)])
              have HRO := Lib.hid (runOk_busy (rate := rate) HOK.out (by have := HOV.out; omega) hr1 HXJ.out HZN.out (by have := HBIG.out; omega))
              have HS7 := Lib.hid ownS7
              clear BN6 oS5 oM5 gB zn5 z6 z5 z4 hb5 ow5 ownN4 ownM4 htk BN hszy ownS7 f0 f1 f2 f3 f4 f5 f6
              by_cases hlate : d1 < r.t + up
              · have HTR := Lib.hid (show trueAt 0 (busyR rate r j y.toSes).late = trueAt 0 r.late ++ [(k : Int)] by simp only [busyR]; rw [HZV.out, HUP.out, HD1.out, show decide (d1 < r.t + up) = true by simp; omega, trueAt_true, HOK.out.ll])
                have hs8 : ((((((((w5.setCell ⟨g, j * 7, none⟩ (.int .i64 y2.f)).setCell ⟨g, j * 7 + 1, none⟩ (.int .i64 y2.l)).setCell ⟨g, j * 7 + 2, none⟩ (.int .i64 y2.s)).setCell ⟨g, j * 7 + 3, none⟩ (.int .i64 y2.st)).setCell ⟨g, j * 7 + 4, none⟩ (.int .i64 y2.ba)).setCell ⟨g, j * 7 + 5, none⟩ (.int .i64 y2.se)).setCell ⟨g, j * 7 + 6, none⟩ (.slice A5 y2.zs.length c5)).alloc (.cells (List.toArray [.int .i64 y2.f, .int .i64 y2.l, .int .i64 y2.s, .int .i64 y2.st, .int .i64 y2.ba, .int .i64 y2.se, .slice A5 y2.zs.length c5]) 39)).heap.size = w5.heap.size + 1 := by simp
                have OM8 := ownM7.alloc (.cells #[.int .i64 (k : Int)] 3)
                have ON8 := ownN7.alloc (.cells #[.int .i64 (k : Int)] 3)
                have OS8 := HS7.out.alloc (.cells #[.int .i64 (k : Int)] 3)
                have ZO8 := ext_alloc z7 (.cells #[.int .i64 (k : Int)] 3)
                have RD8 : Rd (((((((((w5.setCell ⟨g, j * 7, none⟩ (.int .i64 y2.f)).setCell ⟨g, j * 7 + 1, none⟩ (.int .i64 y2.l)).setCell ⟨g, j * 7 + 2, none⟩ (.int .i64 y2.s)).setCell ⟨g, j * 7 + 3, none⟩ (.int .i64 y2.st)).setCell ⟨g, j * 7 + 4, none⟩ (.int .i64 y2.ba)).setCell ⟨g, j * 7 + 5, none⟩ (.int .i64 y2.se)).setCell ⟨g, j * 7 + 6, none⟩ (.slice A5 y2.zs.length c5)).alloc (.cells (List.toArray [.int .i64 y2.f, .int .i64 y2.l, .int .i64 y2.s, .int .i64 y2.st, .int .i64 y2.ba, .int .i64 y2.se, .slice A5 y2.zs.length c5]) 39)).alloc (.cells #[.int .i64 (k : Int)] 3)) 1 (some ⟨w5.heap.size + 1, 0, none⟩) 1 [.int .i64 (k : Int)] := by have h := Rd.of_blk (n := 1) (size := 1) (Blk.new ((((((((w5.setCell ⟨g, j * 7, none⟩ (.int .i64 y2.f)).setCell ⟨g, j * 7 + 1, none⟩ (.int .i64 y2.l)).setCell ⟨g, j * 7 + 2, none⟩ (.int .i64 y2.s)).setCell ⟨g, j * 7 + 3, none⟩ (.int .i64 y2.st)).setCell ⟨g, j * 7 + 4, none⟩ (.int .i64 y2.ba)).setCell ⟨g, j * 7 + 5, none⟩ (.int .i64 y2.se)).setCell ⟨g, j * 7 + 6, none⟩ (.slice A5 y2.zs.length c5)).alloc (.cells (List.toArray [.int .i64 y2.f, .int .i64 y2.l, .int .i64 y2.s, .int .i64 y2.st, .int .i64 y2.ba, .int .i64 y2.se, .slice A5 y2.zs.length c5]) 39)) 3 [.int .i64 (k : Int)]) rfl; rw [hs8] at h; exact h
                have HON := Lib.hid ON8
                have HOS := Lib.hid OS8
                clear ON8 OS8 ownN7 ownM7 hs8
                go_wp2_with (at_builtin; refine wpList_append_at2 (size := 1) (bytes := 8) (base := w.heap.size) rfl (.tmp 88) (.tmp 90) rfl Try.underlying32 hi hz0 hz1 hz2 rfl (by decide) rfl OM8 (some ⟨w5.heap.size + 1, 0, none⟩) 1 1 [.int .i64 (k : Int)] rfl RD8 (by intro u hu; simp at hu; subst hu; rfl) ?s1 ?s2 ?s3 ?_)
                case s1 => have := HTL.out; unfold maxLen; omega
                case s2 => have := HTL.out; omega
                case s3 => exact ZO8.size
                intro v2' w8 own8 hg8 hv8
                have hs9 : (((((((((w5.setCell ⟨g, j * 7, none⟩ (.int .i64 y2.f)).setCell ⟨g, j * 7 + 1, none⟩ (.int .i64 y2.l)).setCell ⟨g, j * 7 + 2, none⟩ (.int .i64 y2.s)).setCell ⟨g, j * 7 + 3, none⟩ (.int .i64 y2.st)).setCell ⟨g, j * 7 + 4, none⟩ (.int .i64 y2.ba)).setCell ⟨g, j * 7 + 5, none⟩ (.int .i64 y2.se)).setCell ⟨g, j * 7 + 6, none⟩ (.slice A5 y2.zs.length c5)).alloc (.cells (List.toArray [.int .i64 y2.f, .int .i64 y2.l, .int .i64 y2.s, .int .i64 y2.st, .int .i64 y2.ba, .int .i64 y2.se, .slice A5 y2.zs.length c5]) 39)).alloc (.cells #[.int .i64 (k : Int)] 3)).heap.size = w5.heap.size + 1 + 1 := by simp
                rw [← hs9] at hv8
                have ownN8 := HON.out.kept hg8 (own_apart HON.out OM8 (by decide))
                have ownS8 := HOS.out.kept hg8 (or_of_hap' HA4.out)
                have z8 := own_grown ZO8 OM8 ZO8.size hg8
                have HZ8 := Lib.hid (fun (y' : SesV) (hy' : y' ∈ ys.set j ⟨y2, A5, y2.zs.length, c5⟩) => (((HZ7.out y' hy').below (ext_alloc (ext_refl _) (.cells #[.int .i64 (k : Int)] 3))).swap.grown hg8 hv8).swap)
                have HA8 := Lib.hid (hap_new' HA4.out hv8 HOS.out)
                have HO8 := Lib.hid own8
                have HS8 := Lib.hid ownS8
                clear OM8 RD8 ZO8 HON HOS own8 hg8 hv8 hs9 ownS8 z7
                go_wp2_with fail
                go_roundw
                case rel =>
                  have hr2 : SchI w n (sesOf xs) rate slots (.slice (some ⟨g, 0, none⟩) n cN) v1' v2' (.int .i64 (r.t + up)) (.int .i64 ((k : Int) + 1)) w8 :=
                    ⟨k + 1, busyR rate r j y.toSes, ys.set j ⟨y2, A5, y2.zs.length, c5⟩, by omega, by simp, by rw [HRT.out], HSB.out, HRO.out, HSE.out, HZ8.out, ownN8, by have h := HS8.out; rw [push_map] at h; simpa [busyR] using h, by have h := HO8.out; rw [push_map] at h; rw [HTR.out]; simpa using h, HA8.out, z8⟩
                  first | exact hr2 | ((repeat apply Exists.intro); exact ⟨hr2, rfl⟩)
                case measure => simp [intOf]; omega
              · have HTR := Lib.hid (show trueAt 0 (busyR rate r j y.toSes).late = trueAt 0 r.late by simp only [busyR]; rw [HZV.out, HUP.out, HD1.out, show decide (d1 < r.t + up) = false by simp; omega, trueAt_false])
                go_wp2_with fail
                all_goals first | exact (show False by omega).elim | skip
                go_roundw
                case rel =>
                  have hr2 : SchI w n (sesOf xs) rate slots (.slice (some ⟨g, 0, none⟩) n cN) v1' _ (.int .i64 (r.t + up)) (.int .i64 ((k : Int) + 1)) ((((((((w5.setCell ⟨g, j * 7, none⟩ (.int .i64 y2.f)).setCell ⟨g, j * 7 + 1, none⟩ (.int .i64 y2.l)).setCell ⟨g, j * 7 + 2, none⟩ (.int .i64 y2.s)).setCell ⟨g, j * 7 + 3, none⟩ (.int .i64 y2.st)).setCell ⟨g, j * 7 + 4, none⟩ (.int .i64 y2.ba)).setCell ⟨g, j * 7 + 5, none⟩ (.int .i64 y2.se)).setCell ⟨g, j * 7 + 6, none⟩ (.slice A5 y2.zs.length c5)).alloc (.cells (List.toArray [.int .i64 y2.f, .int .i64 y2.l, .int .i64 y2.s, .int .i64 y2.st, .int .i64 y2.ba, .int .i64 y2.se, .slice A5 y2.zs.length c5]) 39)) :=
                    ⟨k + 1, busyR rate r j y.toSes, ys.set j ⟨y2, A5, y2.zs.length, c5⟩, by omega, by simp, by rw [HRT.out], HSB.out, HRO.out, HSE.out, HZ7.out, ownN7, by have h := HS7.out; rw [push_map] at h; simpa [busyR] using h, by rw [HTR.out]; exact ownM7, HA4.out, z7⟩
                  first | exact hr2 | ((repeat apply Exists.intro); exact ⟨hr2, rfl⟩)
                case measure => simp [intOf]; omega
      · go_wp2_with fail
        go_ret3
        exact retSch_some (sch_some HG.out (by omega) HSL.out) ownS ownM hb

end Go.Proofs.Ytgljelhglgeojaa