/- hfRun: the reference's run of slots; contract. -/
import Derived.Test.YtgljelhglgeojaaDeT
namespace Go.Proofs.Ytgljelhglgeojaa
open Go.RowKit

theorem infoBool : (Try.prog.info? 4).map (fun i => (i.zero, i.size, i.bytes)) = some (some (.bool false), 1, 1) := by kernel_rfl
def SchS (w : World) (n : Nat) (ss : List Ses) (rate slots : Int) (v0 : Value) (sl v1 v2 t : Value) (wr : World) : Prop :=
  ∃ (k : Nat) (r : Run) (ys : List SesV), (k : Int) ≤ slots ∧ sl = .int .i64 (slots - k) ∧ t = .int .i64 r.t ∧ slotsI rate (run0 ss) k = some r ∧ RunOk r n k ∧ sesOf ys = r.ss ∧ (∀ y ∈ ys, Zs wr v0 v1 v2 y) ∧
    wr.ownsRow w.heap.size 39 7 v0 n (ys.flatMap encSes) ∧ wr.ownsRow w.heap.size 3 1 v1 r.sent.length (r.sent.map (Value.int .i64)) ∧ wr.ownsRow w.heap.size 4 1 v2 r.late.length (r.late.map Value.bool) ∧ Below w.heap.size w wr
def RetRun (w : World) (R : List Int) (L : List Bool) (ok : Bool) (e : Ending) (w' : World) : Prop :=
  ∃ A c B d, e = .returned (.tuple #[.slice A R.length c, .slice B L.length d, .bool ok]) ∧ w'.ownsRow w.heap.size 3 1 (.slice A R.length c) R.length (R.map (Value.int .i64)) ∧ w'.ownsRow w.heap.size 4 1 (.slice B L.length d) L.length (L.map Value.bool) ∧ Below w.heap.size w w'
theorem retRun_none {w w' : World} {ss : List Ses} {rate slots : Int} (h : schRun ss rate slots = none) (hb : Below w.heap.size w w') : RetRun w (schR ss rate slots) (schL ss rate slots) (schOk ss rate slots) (.returned (.tuple #[.slice none 0 0, .slice none 0 0, .bool false])) w' := by
  have e1 : schR ss rate slots = [] := by simp [schR, h]
  have e2 : schL ss rate slots = [] := by simp [schL, h]
  have e3 : schOk ss rate slots = false := by simp [schOk, h]
  rw [e1, e2, e3]
  exact ⟨none, 0, none, 0, rfl, World.ownsRow_nil _ _ _ _, World.ownsRow_nil _ _ _ _, hb⟩
theorem retRun_some {w w' : World} {ss : List Ses} {rate slots : Int} {r : Run} {v1 v2 : Value} (h : schRun ss rate slots = some r) (h1 : w'.ownsRow w.heap.size 3 1 v1 r.sent.length (r.sent.map (Value.int .i64))) (h2 : w'.ownsRow w.heap.size 4 1 v2 r.late.length (r.late.map Value.bool)) (hb : Below w.heap.size w w') :
    RetRun w (schR ss rate slots) (schL ss rate slots) (schOk ss rate slots) (.returned (.tuple #[v1, v2, .bool true])) w' := by
  have e1 : schR ss rate slots = r.sent := by simp [schR, h]
  have e2 : schL ss rate slots = r.late := by simp [schL, h]
  have e3 : schOk ss rate slots = true := by simp [schOk, h]
  rw [e1, e2, e3]
  obtain ⟨A, c, rfl⟩ := own_shape h1
  obtain ⟨B, d, rfl⟩ := own_shape h2
  exact ⟨A, c, B, d, rfl, h1, h2, hb⟩
theorem push_mapB {l : List Bool} {v : Bool} : l.map Value.bool ++ [.bool v] = (l ++ [v]).map Value.bool := by simp
theorem own_late {w : World} {base : Nat} {e : TypeId} {v : Value} {l l' : List Bool} {d : Bool} (h : w.ownsRow base e 1 v (l.length + 1) (l.map Value.bool ++ [.bool d])) (he : l' = l ++ [d]) : w.ownsRow base e 1 v l'.length (l'.map Value.bool) := by subst he; simpa using h
theorem serveI_se (x : Ses) : (serveI x).se = needI x := rfl

set_option maxRecDepth 100000 in
set_option maxHeartbeats 8000000 in
theorem hfRun_any (rate slots : Int) (A : Option Addr) (n c : Nat) (xs : List SesV) (w : World) (hn : n ≤ 1048576) (hr : Rd w 7 A n (xs.flatMap encSes)) (hz : ∀ x ∈ xs, SZ w x) (hgo : schGo (sesOf xs) rate slots = true) :
    Calls Try.prog 74 #[.slice A n c, .int .i64 rate, .int .i64 slots] w (RetRun w (schR (sesOf xs) rate slots) (schL (sesOf xs) rate slots) (schOk (sesOf xs) rate slots)) := by
  have hl : xs.length = n := by have h1 := hr.1; rw [flat_len encSes 7 encSes_len] at h1; omega
  have HL := Lib.hid hl
  obtain ⟨i0, hi, hz0, hz1, hz2⟩ := info_parts infoInt
  obtain ⟨j0, hj0, hy0, hy1, hy2⟩ := info_parts infoBool
  obtain ⟨s0, hs0, hu0, hu1, hu2⟩ := info_parts infoSes
  have HG := Lib.hid hgo
  have hh : listS (sesOf xs) = true ∧ (1 ≤ rate ∧ rate ≤ 100000) ∧ (0 ≤ slots ∧ slots ≤ 60) := by simpa only [schGo, Bool.and_eq_true, inB_iff, and_assoc] using hgo
  obtain ⟨hls, ⟨hr1, hr2⟩, hs1, hs2⟩ := hh
  have HLS := Lib.hid hls
  have hn6 : n ≤ 6 := by have h := list_len ((listB_eq xs).trans hls); omega
  clear hl hgo hls
  go_enter Try.func74, Try.ntmps74
  go_wp2_with (at_builtin; refine wpList_append_at2 (size := 7) (bytes := 72) (base := w.heap.size) rfl (.tmp 14) (.tmp 15) rfl Try.underlying26 hs0 hu0 hu1 hu2 rfl (by decide) rfl (World.ownsRow_made w #[] 0 (Nat.le_refl _) (by unfold maxLen; omega) (by simp)) A n c (xs.flatMap encSes) rfl (hr.alloc _) (ses_one xs) ?a1 ?a2 ?a3 ?_)
  case a1 => unfold maxLen; omega
  case a2 => omega
  case a3 => simp
  intro v0 w2 ow2 hg2 _
  have own2 : w2.ownsRow w.heap.size 39 7 v0 n (xs.flatMap encSes) := by simpa using ow2
  have z2 : Below w.heap.size w w2 := (ext_alloc (ext_refl w) _).grown hg2 (by simp) (fun k hk => by simp [Value.ownBlock] at hk <;> omega)
  have zsh := fun y (hy : y ∈ xs) => Zs.of_old (v0 := v0) (v1 := .slice none 0 0) (v2 := .slice none 0 0) (hz y hy) (fun k hk => (own2.lt k hk).1) (fun k hk => by simp [Value.ownBlock] at hk) (fun k hk => by simp [Value.ownBlock] at hk) z2
  clear ow2 hg2
  go_wp2_with fail
  go_loopw [2, 10, 11, 12] (SchS w n (sesOf xs) rate slots v0) (fun s _ _ _ _ => (intOf s).toNat)
  case atStart =>
    refine ⟨0, run0 (sesOf xs), xs, hs1, by simp, rfl, rfl, ?_, rfl, zsh, own2, World.ownsRow_nil _ _ _ _, World.ownsRow_nil _ _ _ _, z2⟩
    have := runOk_start HLS.out
    rwa [show (sesOf xs).length = n by unfold sesOf; rw [List.length_map, HL.out]] at this
  case round =>
    obtain ⟨k, r, ys, hks, rfl, rfl, hsl, hok, hys, hzs, ownN, ownS, ownM, hb⟩ := hrel
    have HOK := Lib.hid hok
    have HYS := Lib.hid hys
    have HZS := Lib.hid hzs
    have HSL := Lib.hid hsl
    have HSLN := Lib.hid hok.sl
    have HTL := Lib.hid hok.ll
    have ht0 := hok.t0
    have ht1 := hok.t1
    have hk60 : k ≤ 60 := by omega
    have hnl : ys.length = n := by have h1 := hok.len; rw [← hys] at h1; unfold sesOf at h1; rwa [List.length_map] at h1
    have HNL := Lib.hid hnl
    have hlB : listB ys = true := by rw [listB_eq, hys]; exact runOk_list hok hn6
    have HLB := Lib.hid hlB
    clear hok hys hzs hsl hnl hlB
    by_cases hlt : (k : Int) < slots
    · by_cases hov : 100000 < r.t
      · go_wp2_with fail
        all_goals first | exact (show False by omega).elim | (go_ret3; exact retRun_none (sch_none hlt HSL.out (slot_over hov)) hb)
      · have HOV := Lib.hid hov
        have hd0 : decide (100000 < r.t) = false := by simp; omega
        obtain ⟨AN, cN, rfl⟩ := own_shape ownN
        go_wp2_with fail
        all_goals first | exact (show False by omega).elim | skip
        refine (hfNext_any r.t AN n cN ys wr hn (Rd.of_own ownN) (fun y hy => (HZS.out y hy).sz) HLB.out ⟨ht0, by omega⟩).mono ?_; rintro e w3 ⟨rfl, hb3⟩
        rw [show sesOf ys = r.ss from HYS.out]
        have ownN3 := own_ext ownN hb3
        have ownS3 := own_ext ownS hb3
        have ownM3 := own_ext ownM hb3
        have z3 := ext_trans hb hb3
        have HZ3 := Lib.hid (fun (y : SesV) (hy : y ∈ ys) => (HZS.out y hy).below hb3)
        clear ownN ownS ownM HZS hb3
        rcases next_cases r with hneg | ⟨j, x, hxj, hnx, hdx, hzne⟩
        · have HNG := Lib.hid hneg
          generalize hi1 : (nextI r.ss r.t).1 = i1 at *
          have HI1 := Lib.hid hi1
          clear hi1
          go_wp2_with (at_builtin; refine wpList_append_at2 (size := 1) (bytes := 8) (base := w.heap.size) rfl (.tmp 26) (.tmp 28) rfl Try.underlying32 hi hz0 hz1 hz2 rfl (by decide) rfl (ownS3.alloc _) (some ⟨w3.heap.size, 0, none⟩) 1 1 [.int .i64 (i1)] rfl (Rd.of_blk (Blk.new w3 _ _) rfl) (by intro u hu; simp at hu; subst hu; rfl) ?p1 ?p2 ?p3 ?_)
          case p1 => have := HSLN.out; unfold maxLen; omega
          case p2 => have := HSLN.out; omega
          case p3 => have := z3.size; simp; omega
          intro v1' w4 own4 hg4 hv4
          have hs4 : (w3.alloc (.cells #[.int .i64 (i1)] 3)).heap.size = w3.heap.size + 1 := by simp
          rw [← hs4] at hv4
          have ON := ownN3.alloc (.cells #[.int .i64 (i1)] 3)
          have OS := ownS3.alloc (.cells #[.int .i64 (i1)] 3)
          have OM := ownM3.alloc (.cells #[.int .i64 (i1)] 3)
          have ZO := ext_alloc z3 (.cells #[.int .i64 (i1)] 3)
          have ownN4 := ON.kept hg4 (own_apart ON OS (by decide))
          have ownM4 := OM.kept hg4 (own_apart OM OS (by decide))
          have z4 := own_grown ZO OS ZO.size hg4
          have HZ4 := Lib.hid (fun (y : SesV) (hy : y ∈ ys) => ((HZ3.out y hy).below (ext_alloc (ext_refl w3) (.cells #[.int .i64 (i1)] 3))).grown hg4 hv4)
          have HO4 := Lib.hid own4
          have hm4 := own4
          clear ON OS OM ZO hs4 own4 hg4 hv4 ownN3 ownS3 ownM3
          have HM4 := Lib.hid hm4
          clear hm4
          go_wp2_with (at_builtin; refine wpList_append_at2 (size := 1) (bytes := 1) (base := w.heap.size) rfl (.tmp 32) (.tmp 33) rfl Try.underlying76 hj0 hy0 hy1 hy2 rfl (by decide) rfl (ownM4.alloc _) (some ⟨w4.heap.size, 0, none⟩) 1 1 [.bool false] rfl (Rd.of_blk (Blk.new w4 _ _) rfl) (by intro u hu; simp at hu; subst hu; rfl) ?u1 ?u2 ?u3 ?_)
          case u1 => have := HTL.out; unfold maxLen; omega
          case u2 => have := HTL.out; omega
          case u3 => have := z4.size; simp; omega
          intro v2' w5 own5 hg5 hv5
          have hs5 : (w4.alloc (.cells #[.bool (false)] 4)).heap.size = w4.heap.size + 1 := by simp
          rw [← hs5] at hv5
          have ON := ownN4.alloc (.cells #[.bool (false)] 4)
          have OS := HM4.out.alloc (.cells #[.bool (false)] 4)
          have OM := ownM4.alloc (.cells #[.bool (false)] 4)
          have ZO := ext_alloc z4 (.cells #[.bool (false)] 4)
          have ownN5 := ON.kept hg5 (own_apart ON OM (by decide))
          have HS5 := Lib.hid (OS.kept hg5 (own_apart OS OM (by decide)))
          have z5 := own_grown ZO OM ZO.size hg5
          have HZ5 := Lib.hid (fun (y : SesV) (hy : y ∈ ys) => (((HZ4.out y hy).below (ext_alloc (ext_refl w4) (.cells #[.bool (false)] 4))).swap.grown hg5 hv5).swap)
          have HO5 := Lib.hid own5
          clear ON OS OM ZO hs5 own5 hg5 hv5 ownN4 ownM4
          go_wp2_with fail
          go_roundw
          case rel =>
            have hr2 : SchS w n (sesOf xs) rate slots (.slice AN n cN) (.int .i64 (slots - (k : Int) - 1)) v1' v2' (.int .i64 (r.t + 1)) w5 :=
              ⟨k + 1, idleR r, ys, by omega, by congr 1; omega, rfl, by rw [slots_succ HSL.out, slot_idle (by have := HOV.out; omega) (by rw [HI1.out]; exact HNG.out)], runOk_idle HOK.out (by have := HOV.out; omega), HYS.out, HZ5.out, ownN5, by have h := HS5.out; rw [push_map] at h; simpa [idleR, HI1.out] using h, by have h := HO5.out; rw [push_mapB] at h; simpa [idleR] using h, z5⟩
            first | exact hr2 | ((repeat apply Exists.intro); exact ⟨hr2, rfl⟩)
          case measure => simp [intOf]; omega
        · rw [hnx]
          simp only
          obtain ⟨y, hyj, hyx⟩ : ∃ y : SesV, ys[j]? = some y ∧ y.toSes = x := by
            have h1 : (sesOf ys)[j]? = some x := by rw [HYS.out]; exact hxj
            unfold sesOf at h1
            rw [List.getElem?_map] at h1
            cases hq : ys[j]? with
            | none => rw [hq] at h1; cases h1
            | some y => rw [hq] at h1; exact ⟨y, rfl, by simpa using h1⟩
          have hj : j < n := by have := (List.getElem?_eq_some_iff.1 hyj).1; rw [HNL.out] at this; exact this
          obtain ⟨x', Ay, my, cy⟩ := y
          obtain rfl : x = x' := hyx.symm
          have hokx := HOK.out.ok x (List.mem_of_getElem? hxj)
          have hzb := head_bd hokx hzne
          have hub := up_bd hr1 hzb
          obtain ⟨zv, hzv⟩ : ∃ zv, x.zs.headD 0 = zv := ⟨_, rfl⟩
          have hz0 : (x.zs.map (Value.int .i64))[0]? = some (.int .i64 zv) := by
            rw [List.getElem?_map, ← hzv]
            cases hq : x.zs with
            | nil => exact absurd hq hzne
            | cons a l => rfl
          have hmyz := (HZ3.out _ (List.mem_of_getElem? hyj)).2.2.1
          have hmyp : 0 < my := by
            have : 0 < x.zs.length := List.length_pos_iff.2 hzne
            simp only at hmyz
            omega
          obtain ⟨b, o, hAy, _⟩ := (HZ3.out _ (List.mem_of_getElem? hyj)).2.2.2 hmyp
          simp only at hAy
          subst hAy
          have HNX := Lib.hid hnx
          have HXJ := Lib.hid hxj
          have HYJ := Lib.hid hyj
          have HZN := Lib.hid hzne
          have HOX := Lib.hid hokx
          have HZ0 := Lib.hid hz0
          have HZV := Lib.hid hzv
          rw [hzv] at hzb hub
          generalize hd1 : deadI x = d1 at *
          have HD1 := Lib.hid hd1
          clear hd1 hnx hxj hyj hzne hokx hz0 hzv hmyz
          have ij0 : (0 : Int) ≤ (j : Int) := by omega
          have ij1 : (j : Int) < (n : Int) := by omega
          have ij2 : decide ((j : Int) < 0) = false := by simp
          have im0 : (0 : Int) < (my : Int) := by omega
          have hu1 : (zv + rate - 1) / rate = upT rate zv := rfl
          have hu2 : (zv + rate - 1).tdiv rate = upT rate zv := by rw [Int.tdiv_eq_ediv_of_nonneg (by omega)]; rfl
          generalize hup : upT rate zv = up at *
          have HUP := Lib.hid hup
          clear hup
          go_wp2_with (at_builtin; refine wpList_append_at2 (size := 1) (bytes := 8) (base := w.heap.size) rfl (.tmp 26) (.tmp 28) rfl Try.underlying32 hi hz0 hz1 hz2 rfl (by decide) rfl (ownS3.alloc _) (some ⟨w3.heap.size, 0, none⟩) 1 1 [.int .i64 ((j : Int))] rfl (Rd.of_blk (Blk.new w3 _ _) rfl) (by intro u hu; simp at hu; subst hu; rfl) ?q1 ?q2 ?q3 ?_)
          case q1 => have := HSLN.out; unfold maxLen; omega
          case q2 => have := HSLN.out; omega
          case q3 => have := z3.size; simp; omega
          intro v1' w4 own4 hg4 hv4
          have hs4 : (w3.alloc (.cells #[.int .i64 ((j : Int))] 3)).heap.size = w3.heap.size + 1 := by simp
          rw [← hs4] at hv4
          have ON := ownN3.alloc (.cells #[.int .i64 ((j : Int))] 3)
          have OS := ownS3.alloc (.cells #[.int .i64 ((j : Int))] 3)
          have OM := ownM3.alloc (.cells #[.int .i64 ((j : Int))] 3)
          have ZO := ext_alloc z3 (.cells #[.int .i64 ((j : Int))] 3)
          have ownN4 := ON.kept hg4 (own_apart ON OS (by decide))
          have ownM4 := OM.kept hg4 (own_apart OM OS (by decide))
          have z4 := own_grown ZO OS ZO.size hg4
          have HZ4 := Lib.hid (fun (y : SesV) (hy : y ∈ ys) => ((HZ3.out y hy).below (ext_alloc (ext_refl w3) (.cells #[.int .i64 ((j : Int))] 3))).grown hg4 hv4)
          have HO4 := Lib.hid own4
          clear ON OS OM ZO hs4 own4 hg4 hv4 ownN3 ownS3 ownM3
          have hszy := (HZ4.out _ (List.mem_of_getElem? HYJ.out))
          obtain ⟨b', o', hbo, hbl4, _, hcell4⟩ := hszy.2.2.2 hmyp
          have hszz := hszy.sz
          injection hbo with hbo
          injection hbo with hb1 ho1
          subst hb1; subst ho1
          have cz := hcell4 0 _ HZ0.out
          simp only [Nat.add_zero] at cz
          obtain ⟨g, cs, rfl, hbg, BN, hcl, hnc, hcm, htk⟩ := own_blk ownN4 (by omega)
          have hjc : j * 7 + 7 ≤ cs.length := by
            have := Nat.mul_le_mul_right 7 hnc
            rw [hcl]; omega
          have c0 : w4.cell? ⟨g, j * 7, none⟩ = some (.int .i64 x.f) := by rw [BN.cell]; exact (blk_elem (i := 0) htk HNL.out HYJ.out (by omega)).trans rfl
          have c1 : w4.cell? ⟨g, j * 7 + 1, none⟩ = some (.int .i64 x.l) := by rw [BN.cell]; exact (blk_elem (i := 1) htk HNL.out HYJ.out (by omega)).trans rfl
          have c2 : w4.cell? ⟨g, j * 7 + 2, none⟩ = some (.int .i64 x.s) := by rw [BN.cell]; exact (blk_elem (i := 2) htk HNL.out HYJ.out (by omega)).trans rfl
          have c3 : w4.cell? ⟨g, j * 7 + 3, none⟩ = some (.int .i64 x.st) := by rw [BN.cell]; exact (blk_elem (i := 3) htk HNL.out HYJ.out (by omega)).trans rfl
          have c4 : w4.cell? ⟨g, j * 7 + 4, none⟩ = some (.int .i64 x.ba) := by rw [BN.cell]; exact (blk_elem (i := 4) htk HNL.out HYJ.out (by omega)).trans rfl
          have c5 : w4.cell? ⟨g, j * 7 + 5, none⟩ = some (.int .i64 x.se) := by rw [BN.cell]; exact (blk_elem (i := 5) htk HNL.out HYJ.out (by omega)).trans rfl
          have c6 : w4.cell? ⟨g, j * 7 + 6, none⟩ = some (.slice (some ⟨b, o, none⟩) my cy) := by rw [BN.cell]; exact (blk_elem (i := 6) htk HNL.out HYJ.out (by omega)).trans rfl
          have hgl := BN.lt
          clear hcell4
          go_wp2_with fail
          all_goals first | exact (show False by omega).elim | skip
          refine (hfDeadline_any ⟨x, some ⟨b, o, none⟩, my, cy⟩ w4 HOX.out hszz.1 hszz.2.2).mono ?_; rintro e w5 ⟨rfl, hb5⟩
          rw [show deadI (SesV.toSes ⟨x, some ⟨b, o, none⟩, my, cy⟩) = d1 from HD1.out]
          have BN5 := BN.below hb5
          have ownN5 := own_ext ownN4 hb5
          have HS5 := Lib.hid (own_ext HO4.out hb5)
          have ownM5 := own_ext ownM4 hb5
          have z5 := ext_trans z4 hb5
          have HZ5 := Lib.hid (fun (y : SesV) (hy : y ∈ ys) => (HZ4.out y hy).below hb5)
          clear c0 c1 c2 c3 c4 c5 c6 cz BN ownN4 ownM4 z4 hb5 hszy hszz hbl4
          go_wp2_with (at_builtin; refine wpList_append_at2 (size := 1) (bytes := 1) (base := w.heap.size) rfl (.tmp 51) (.tmp 59) rfl Try.underlying76 hj0 hy0 hy1 hy2 rfl (by decide) rfl (ownM5.alloc _) (some ⟨w5.heap.size, 0, none⟩) 1 1 [.bool (decide (d1 < r.t + up))] rfl (Rd.of_blk (Blk.new w5 _ _) rfl) (by intro u hu; simp at hu; subst hu; rfl) ?v1 ?v2 ?v3 ?_)
          case v1 => have := HTL.out; unfold maxLen; omega
          case v2 => have := HTL.out; omega
          case v3 => have := z5.size; simp; omega
          intro v2' w6 own6 hg6 hv6
          have hs6 : (w5.alloc (.cells #[.bool (decide (d1 < r.t + up))] 4)).heap.size = w5.heap.size + 1 := by simp
          rw [← hs6] at hv6
          have ON := ownN5.alloc (.cells #[.bool (decide (d1 < r.t + up))] 4)
          have OS := HS5.out.alloc (.cells #[.bool (decide (d1 < r.t + up))] 4)
          have OM := ownM5.alloc (.cells #[.bool (decide (d1 < r.t + up))] 4)
          have ZO := ext_alloc z5 (.cells #[.bool (decide (d1 < r.t + up))] 4)
          have BN6 := (BN5.alloc (.cells #[.bool (decide (d1 < r.t + up))] 4)).grown hg6 (box_ne OM (BN5.alloc (.cells #[.bool (decide (d1 < r.t + up))] 4)) (by decide))
          have ownN6 := ON.kept hg6 (own_apart ON OM (by decide))
          have ownS6 := OS.kept hg6 (own_apart OS OM (by decide))
          have z6 := own_grown ZO OM ZO.size hg6
          have HZ6 := Lib.hid (fun (y : SesV) (hy : y ∈ ys) => (((HZ5.out y hy).below (ext_alloc (ext_refl w5) (.cells #[.bool (decide (d1 < r.t + up))] 4))).swap.grown hg6 hv6).swap)
          have HO6 := Lib.hid own6
          have HS6 := Lib.hid ownS6
          clear ON OS OM ZO hs6 own6 hg6 hv6 ownN5 ownM5 BN5 z5 ownS6
          have hsz6 := (HZ6.out _ (List.mem_of_getElem? HYJ.out)).sz
          have m0 : w6.cell? ⟨g, j * 7, none⟩ = some (.int .i64 x.f) := by rw [BN6.cell]; exact (blk_elem (i := 0) htk HNL.out HYJ.out (by omega)).trans rfl
          have m1 : w6.cell? ⟨g, j * 7 + 1, none⟩ = some (.int .i64 x.l) := by rw [BN6.cell]; exact (blk_elem (i := 1) htk HNL.out HYJ.out (by omega)).trans rfl
          have m2 : w6.cell? ⟨g, j * 7 + 2, none⟩ = some (.int .i64 x.s) := by rw [BN6.cell]; exact (blk_elem (i := 2) htk HNL.out HYJ.out (by omega)).trans rfl
          have m3 : w6.cell? ⟨g, j * 7 + 3, none⟩ = some (.int .i64 x.st) := by rw [BN6.cell]; exact (blk_elem (i := 3) htk HNL.out HYJ.out (by omega)).trans rfl
          have m4 : w6.cell? ⟨g, j * 7 + 4, none⟩ = some (.int .i64 x.ba) := by rw [BN6.cell]; exact (blk_elem (i := 4) htk HNL.out HYJ.out (by omega)).trans rfl
          have m5 : w6.cell? ⟨g, j * 7 + 5, none⟩ = some (.int .i64 x.se) := by rw [BN6.cell]; exact (blk_elem (i := 5) htk HNL.out HYJ.out (by omega)).trans rfl
          have m6 : w6.cell? ⟨g, j * 7 + 6, none⟩ = some (.slice (some ⟨b, o, none⟩) my cy) := by rw [BN6.cell]; exact (blk_elem (i := 6) htk HNL.out HYJ.out (by omega)).trans rfl
          have hgl6 := BN6.lt
          have hcall := hfServe_at x (some ⟨b, o, none⟩) my cy w6 HOX.out hsz6.1 hsz6.2.1 hmyp hsz6.2.2
          have hlen7 : (serveI x).zs.length ≤ 1048576 := by have := HOX.out.len; simp only [serveI, List.length_tail]; omega
          have hse7 := serveI_se x
          obtain ⟨y2, hy2⟩ : ∃ y2, serveI x = y2 := ⟨_, rfl⟩
          rw [hy2] at hcall hlen7 hse7
          have HY2 := Lib.hid hy2
          have HLN := Lib.hid hlen7
          have HSE2 := Lib.hid hse7
          clear hy2 hlen7 hse7 hsz6
          go_wp2_with fail
          refine hcall.mono ?_; rintro e w7 ⟨A7, d7, rfl, ow7, hb7⟩
          have BN7 := BN6.below hb7
          clear hcall m0 m1 m2 m3 m4 m5 m6
          have q0 : w7.cell? ⟨g, j * 7, none⟩ = some (cs[j * 7]'(by omega)) := by rw [BN7.cell, List.getElem?_eq_getElem (by omega)]
          have e0 := BN7.frozen (j * 7)
          have q1 : w7.cell? ⟨g, j * 7 + 1, none⟩ = some (cs[j * 7 + 1]'(by omega)) := by rw [BN7.cell, List.getElem?_eq_getElem (by omega)]
          have e1 := BN7.frozen (j * 7 + 1)
          have q2 : w7.cell? ⟨g, j * 7 + 2, none⟩ = some (cs[j * 7 + 2]'(by omega)) := by rw [BN7.cell, List.getElem?_eq_getElem (by omega)]
          have e2 := BN7.frozen (j * 7 + 2)
          have q3 : w7.cell? ⟨g, j * 7 + 3, none⟩ = some (cs[j * 7 + 3]'(by omega)) := by rw [BN7.cell, List.getElem?_eq_getElem (by omega)]
          have e3 := BN7.frozen (j * 7 + 3)
          have q4 : w7.cell? ⟨g, j * 7 + 4, none⟩ = some (cs[j * 7 + 4]'(by omega)) := by rw [BN7.cell, List.getElem?_eq_getElem (by omega)]
          have e4 := BN7.frozen (j * 7 + 4)
          have q5 : w7.cell? ⟨g, j * 7 + 5, none⟩ = some (cs[j * 7 + 5]'(by omega)) := by rw [BN7.cell, List.getElem?_eq_getElem (by omega)]
          have e5 := BN7.frozen (j * 7 + 5)
          have q6 : w7.cell? ⟨g, j * 7 + 6, none⟩ = some (cs[j * 7 + 6]'(by omega)) := by rw [BN7.cell, List.getElem?_eq_getElem (by omega)]
          have e6 := BN7.frozen (j * 7 + 6)
          have hgl7 := BN7.lt
          have z7 := ext_trans z6 hb7
          have z8 := (((((((z7.setCell (p := ⟨g, j * 7, none⟩) hbg (.int .i64 y2.f)).setCell (p := ⟨g, j * 7 + 1, none⟩) hbg (.int .i64 y2.l)).setCell (p := ⟨g, j * 7 + 2, none⟩) hbg (.int .i64 y2.s)).setCell (p := ⟨g, j * 7 + 3, none⟩) hbg (.int .i64 y2.st)).setCell (p := ⟨g, j * 7 + 4, none⟩) hbg (.int .i64 y2.ba)).setCell (p := ⟨g, j * 7 + 5, none⟩) hbg (.int .i64 y2.se)).setCell (p := ⟨g, j * 7 + 6, none⟩) hbg (.slice A7 y2.zs.length d7))
          have HZ8B := Lib.hid z8
          by_cases hbig : 1000000000 < y2.se
          · have HBIG := Lib.hid hbig
            clear z8
            go_wp2_with fail
            all_goals first | exact (show False by omega).elim | (go_ret3; exact retRun_none (sch_none hlt HSL.out (slot_big (by have := HOV.out; omega) (by rw [HNX.out, HD1.out]) HXJ.out (by rw [← HSE2.out]; exact HBIG.out))) HZ8B.out)
          · have hnb : ¬ 1000000000 < needI x := by rw [← HSE2.out]; exact hbig
            have gB := (grownBy_setCell (grownBy_setCell (grownBy_setCell (grownBy_setCell (grownBy_setCell (grownBy_setCell (grownBy_setCell (World.grownBy.refl w7 (some g)) (j * 7) (.int .i64 y2.f)) (j * 7 + 1) (.int .i64 y2.l)) (j * 7 + 2) (.int .i64 y2.s)) (j * 7 + 3) (.int .i64 y2.st)) (j * 7 + 4) (.int .i64 y2.ba)) (j * 7 + 5) (.int .i64 y2.se)) (j * 7 + 6) (.slice A7 y2.zs.length d7))
            have BN8 : Blk (((((((w7.setCell ⟨g, j * 7, none⟩ (.int .i64 y2.f)).setCell ⟨g, j * 7 + 1, none⟩ (.int .i64 y2.l)).setCell ⟨g, j * 7 + 2, none⟩ (.int .i64 y2.s)).setCell ⟨g, j * 7 + 3, none⟩ (.int .i64 y2.st)).setCell ⟨g, j * 7 + 4, none⟩ (.int .i64 y2.ba)).setCell ⟨g, j * 7 + 5, none⟩ (.int .i64 y2.se)).setCell ⟨g, j * 7 + 6, none⟩ (.slice A7 y2.zs.length d7)) g 39 (SetRow cs (j * 7) (encSes ⟨y2, A7, y2.zs.length, d7⟩)) := (((((((BN7.set_ (j * 7) (.int .i64 y2.f)).set_ (j * 7 + 1) (.int .i64 y2.l)).set_ (j * 7 + 2) (.int .i64 y2.s)).set_ (j * 7 + 3) (.int .i64 y2.st)).set_ (j * 7 + 4) (.int .i64 y2.ba)).set_ (j * 7 + 5) (.int .i64 y2.se)).set_ (j * 7 + 6) (.slice A7 y2.zs.length d7))
            have ownN8 := own_setRow encSes_len HNL.out hj hbg hcl hnc hcm htk BN8
            have oS7 := own_ext HS6.out hb7
            have oM7 := own_ext HO6.out hb7
            have HS8 := Lib.hid (oS7.kept gB (own_ne oS7 BN7 (by decide)))
            have HO8 := Lib.hid (oM7.kept gB (own_ne oM7 BN7 (by decide)))
            have zn7 := Zs.new (v0 := .slice (some ⟨g, 0, none⟩) n cN) HLN.out ow7 (fun q hq => by simp [Value.ownBlock] at hq; subst hq; exact hgl6) (fun q hq => (HS6.out.lt q hq).2) (fun q hq => (HO6.out.lt q hq).2)
            have HZ8 := Lib.hid (show ∀ y' ∈ ys.set j ⟨y2, A7, y2.zs.length, d7⟩, Zs (((((((w7.setCell ⟨g, j * 7, none⟩ (.int .i64 y2.f)).setCell ⟨g, j * 7 + 1, none⟩ (.int .i64 y2.l)).setCell ⟨g, j * 7 + 2, none⟩ (.int .i64 y2.s)).setCell ⟨g, j * 7 + 3, none⟩ (.int .i64 y2.st)).setCell ⟨g, j * 7 + 4, none⟩ (.int .i64 y2.ba)).setCell ⟨g, j * 7 + 5, none⟩ (.int .i64 y2.se)).setCell ⟨g, j * 7 + 6, none⟩ (.slice A7 y2.zs.length d7)) (.slice (some ⟨g, 0, none⟩) n cN) v1' v2' y' from fun y' hy' => by
              rcases List.mem_or_eq_of_mem_set hy' with h | rfl
              · exact (((((((((HZ6.out y' h).below hb7).set (p := ⟨g, j * 7, none⟩) rfl (.int .i64 y2.f)).set (p := ⟨g, j * 7 + 1, none⟩) rfl (.int .i64 y2.l)).set (p := ⟨g, j * 7 + 2, none⟩) rfl (.int .i64 y2.s)).set (p := ⟨g, j * 7 + 3, none⟩) rfl (.int .i64 y2.st)).set (p := ⟨g, j * 7 + 4, none⟩) rfl (.int .i64 y2.ba)).set (p := ⟨g, j * 7 + 5, none⟩) rfl (.int .i64 y2.se)).set (p := ⟨g, j * 7 + 6, none⟩) rfl (.slice A7 y2.zs.length d7))
              · exact (((((((zn7.set (p := ⟨g, j * 7, none⟩) rfl (.int .i64 y2.f)).set (p := ⟨g, j * 7 + 1, none⟩) rfl (.int .i64 y2.l)).set (p := ⟨g, j * 7 + 2, none⟩) rfl (.int .i64 y2.s)).set (p := ⟨g, j * 7 + 3, none⟩) rfl (.int .i64 y2.st)).set (p := ⟨g, j * 7 + 4, none⟩) rfl (.int .i64 y2.ba)).set (p := ⟨g, j * 7 + 5, none⟩) rfl (.int .i64 y2.se)).set (p := ⟨g, j * 7 + 6, none⟩) rfl (.slice A7 y2.zs.length d7)))
            have HSE := Lib.hid (show sesOf (ys.set j ⟨y2, A7, y2.zs.length, d7⟩) = (busyR rate r j x).ss by rw [sesOf_set, HYS.out]; simp only [busyR]; rw [HY2.out])
            have HRT := Lib.hid (show (busyR rate r j x).t = r.t + up by simp only [busyR]; rw [HZV.out, HUP.out])
            have HSB := Lib.hid (show slotsI rate (run0 (sesOf xs)) (k + 1) = some (busyR rate r j x) by rw [slots_succ HSL.out, slot_busy (by have := HOV.out; omega) (by rw [HNX.out, HD1.out]) HXJ.out hnb])
            have HRO := Lib.hid (runOk_busy (rate := rate) HOK.out (by have := HOV.out; omega) hr1 HXJ.out HZN.out hnb)
            have HTR := Lib.hid (show (busyR rate r j x).late = r.late ++ [decide (d1 < r.t + up)] by simp only [busyR]; rw [HZV.out, HUP.out, HD1.out])
            have HON := Lib.hid ownN8
            clear BN8 ownN8 oS7 oM7 gB zn7 z8 z7 z6 hb7 ow7 ownN6 htk BN6 hnb
            go_wp2_with fail
            all_goals first | exact (show False by omega).elim | skip
            go_roundw
            case rel =>
              have hr2 : SchS w n (sesOf xs) rate slots (.slice (some ⟨g, 0, none⟩) n cN) (.int .i64 (slots - (k : Int) - 1)) v1' v2' (.int .i64 (r.t + up)) (((((((w7.setCell ⟨g, j * 7, none⟩ (.int .i64 y2.f)).setCell ⟨g, j * 7 + 1, none⟩ (.int .i64 y2.l)).setCell ⟨g, j * 7 + 2, none⟩ (.int .i64 y2.s)).setCell ⟨g, j * 7 + 3, none⟩ (.int .i64 y2.st)).setCell ⟨g, j * 7 + 4, none⟩ (.int .i64 y2.ba)).setCell ⟨g, j * 7 + 5, none⟩ (.int .i64 y2.se)).setCell ⟨g, j * 7 + 6, none⟩ (.slice A7 y2.zs.length d7)) :=
                ⟨k + 1, busyR rate r j x, ys.set j ⟨y2, A7, y2.zs.length, d7⟩, by omega, by congr 1; omega, by rw [HRT.out], HSB.out, HRO.out, HSE.out, HZ8.out, HON.out, by have h := HS8.out; rw [push_map] at h; simpa [busyR] using h, own_late HO8.out HTR.out, HZ8B.out⟩
              first | exact hr2 | ((repeat apply Exists.intro); exact ⟨hr2, rfl⟩)
            case measure => simp [intOf]; omega
    · go_wp2_with fail
      all_goals first | exact (show False by omega).elim | (go_ret3; exact retRun_some (sch_some HG.out (by omega) HSL.out) ownS ownM hb)

end Go.Proofs.Ytgljelhglgeojaa