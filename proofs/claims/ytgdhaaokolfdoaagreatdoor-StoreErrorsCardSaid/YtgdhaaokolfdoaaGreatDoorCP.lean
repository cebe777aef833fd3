/- The clock of pages: what find, Look, full, empty, victim compute. Conditions: the clock lies in the world as AtP says. -/
import Derived.Test.YtgdhaaokolfdoaaGreatDoorProg
import Derived.Test.YtgdhaaokolfdoaaGreatDoorClk
import Derived.Deep.QuietTactic
import Derived.BigQuiet
import Derived.RegionTactic
import Derived.BigRegion
import Derived.Deep.LoopGhost
import Derived.Shelf.Abstract
import Derived.OwnWalkIn
import Derived.TacticsInMore
import Derived.LoopNIn
import Derived.LoopIn
import Derived.RangeFuncCalls
import Derived.Sort.BigQuietIn
import Derived.RangeFuncNested
namespace Go.Proofs.YtgdhaaokolfdoaaGreatDoor
theorem Tryz.zero3 (w : World) : (zeroValue 3).run Tryz.prog w = .ok (.int .i64 0) w := by kernel_rfl
namespace CP
open Go.RowKit Go.Sg Go.Sg.Clk Go.Shelf
attribute [local go_sem] Oper.semAt_some
def isP (_ : Pg) : Prop := True
abbrev AtP := At 260 264 isP
theorem find_nil (key : Int) (w : World) : Calls Tryz.prog 154 #[.pointer none, .int .i64 key] w fun e w' => e = .returned (.pointer none) ∧ w = w' := by
  go_enter Tryz.func154, Tryz.ntmps154
  go_wp2
  go_ret
  exact ⟨rfl, rfl⟩

theorem find_at {w : World} {bc bp bm hand : Nat} {pl : List Pl} (h : AtP w bc bp bm pl hand) (key : Int) :
    Calls Tryz.prog 154 #[.pointer (some ⟨bc, 0, none⟩), .int .i64 key] w fun e w' => e = .returned (.pointer ((find pl key).map fun i => ⟨bp, i * 6, none⟩)) ∧ w = w' := by
  obtain ⟨l, ck, hm, -, hlook, -⟩ := h.m
  have h0 := cell_of_heap h.c 0
  have h1 := cell_of_heap h.c 1
  simp at h0 h1
  have hl := run_lookup (P := Tryz.prog) (T := 258) true Tryz.underlying258 Tryz.underlying3 Tryz.zero3 hm key
  rw [hlook] at hl
  have hr := h.room
  cases hf : find pl key with
  | none =>
    rw [hf] at hl
    simp at hl
    clear hf hlook hm h
    go_enter Tryz.func154, Tryz.ntmps154
    go_wp2
    go_ret
    exact ⟨rfl, rfl⟩
  | some i =>
    rw [hf] at hl
    simp at hl
    have hi : i < pl.length := by
      obtain ⟨p, hp, -⟩ := find_some hf
      exact (List.getElem?_eq_some_iff.1 hp).1
    clear hf hlook hm h
    go_enter Tryz.func154, Tryz.ntmps154
    go_wp2
    go_ret
    exact ⟨rfl, rfl⟩


/-- What a look finds. -/
def lookM (pl : List Pl) (key : Int) : Pg := ((find pl key).bind fun i => (pl[i]?).map (·.v)).getD Pg.zero
theorem look_nil (key : Int) (w : World) : Calls Tryz.prog 155 #[.pointer none, .int .i64 key] w fun e w' => e = .returned (.tuple #[Pg.zero.val, .bool false]) ∧ Fr (fun _ => False) w w' := by
  go_enter Tryz.func155, Tryz.ntmps155
  go_wp2_with (go_at_call 154; refine (find_nil _ _).mono ?_; rintro e w' ⟨rfl, rfl⟩)
  try simp only [Exit.inBlock, Exit.then]
  refine bodyPost_ret (v := .tuple #[Pg.zero.val, .bool false]) (by simp [results, go_sem, Pg.zero, *]) rfl ⟨rfl, ((Fr.refl _ _).alloc _).alloc _⟩
theorem look_at {w : World} {bc bp bm hand : Nat} {pl : List Pl} (h : AtP w bc bp bm pl hand) (key : Int) :
    Calls Tryz.prog 155 #[.pointer (some ⟨bc, 0, none⟩), .int .i64 key] w fun e w' => e = .returned (.tuple #[(lookM pl key).val, .bool (find pl key).isSome]) ∧ Fr (fun _ => False) w w' := by
  have F := hid (fun W (FW : Fr (fun _ => False) w W) => find_at (h.fr FW (fun h => h) (fun h => h) (fun h => h)) key)
  cases hf : find pl key with
  | none =>
    rw [hf] at F
    have e2 : lookM pl key = Pg.zero := by simp [lookM, hf]
    have E2 := hid e2
    clear hf h e2
    go_enter Tryz.func155, Tryz.ntmps155
    go_wp2_with (go_at_call 154; refine (F.out _ ((Fr.refl _ _).alloc _)).mono ?_; rintro e w' ⟨rfl, rfl⟩)
    try simp only [Exit.inBlock, Exit.then]
    refine bodyPost_ret (v := .tuple #[Pg.zero.val, .bool false]) (by simp [results, go_sem, Pg.zero, *]) rfl ⟨by rw [E2.out]; rfl, ((Fr.refl _ _).alloc _).alloc _⟩
  | some i =>
    rw [hf] at F
    obtain ⟨p, hp, -⟩ := find_some hf
    have c1 := h.k1 hp
    have c2 := h.k2 hp
    have c3 := h.k3 hp
    have e2 : lookM pl key = p.v := by simp [lookM, hf, hp]
    have E2 := hid e2
    have hbp := lt_of_heap h.p
    clear hf h e2 hp
    go_enter Tryz.func155, Tryz.ntmps155
    go_wp2_with (go_at_call 154; refine (F.out _ ((Fr.refl _ _).alloc _)).mono ?_; rintro e w' ⟨rfl, rfl⟩)
    refine bodyPost_ret (v := .tuple #[p.v.val, .bool true]) (by simp [results, go_sem, *]) rfl ⟨by rw [E2.out]; rfl, ?_⟩
    first | exact (Fr.refl _ _).alloc _ | (refine Fr.setNew (Fr.setNew (Fr.setNew ((Fr.refl _ _).alloc _) ?_ _) ?_ _) ?_ _ <;> omega)

theorem full_any (a : Option Addr) (w : World) :
    Calls Tryz.prog 228 #[.pointer a] w fun e w' => e = .returned (.func (.func 268) #[] #[.pointer (some ⟨w.heap.size, 0, none⟩)]) ∧ w.alloc (.cells #[.pointer a] 154) = w' := by
  go_enter Tryz.func228, Tryz.ntmps228
  go_wp2
  go_ret
  exact ⟨rfl, rfl⟩

abbrev encP (x : Nat × Pl) : Array Value := #[.int .i64 x.1, .agg #[.int .i64 x.2.key, .int .i64 x.2.v.stamp, .slice x.2.v.la x.2.v.ll x.2.v.lc, .bool x.2.v.dirty, .bool x.2.full, .bool x.2.marked]]

set_option maxRecDepth 100000 in
set_option maxHeartbeats 2000000 in
theorem fullf_stops {w : World} {bc bp bm hand bx : Nat} {pl : List Pl} (h : AtP w bc bp bm pl hand) (hx : w.cell? ⟨bx, 0, none⟩ = some (.pointer (some ⟨bc, 0, none⟩))) :
    SeqStopsK Fence.wide 9 Tryz.prog 268 #[.pointer (some ⟨bx, 0, none⟩)] encP (fun W W' => W'.heap[bp]? = W.heap[bp]?) (fun xs => xs = fullAt pl.length pl) (fun pre => pre <+: fullAt pl.length pl) pl.length w := fun l J Jx W hW hJ _ hY h0 => by
  have hr := h.room
  have hbp := lt_of_heap h.p
  have hx' := (hW.cell (p := ⟨bx, 0, none⟩) (World.block_lt_of_cell? _ _ hx)).trans hx
  have hc0 := (hW.cell (p := ⟨bc, 0, none⟩) (lt_of_heap h.c)).trans (cell_of_heap h.c 0)
  simp at hc0
  have hp := (hW.block bp hbp).trans h.p
  clear hx hW
  refine callsIn_of_wp Tryz.func268 rfl trivial ?_ rfl
  simp only [Tryz.ntmps268, List.size_toArray, List.length_cons, List.length_nil, Nat.reduceAdd, Nat.reduceSub, Array.replicate_succ, Array.replicate_zero, List.push_toArray, List.append_toArray, List.nil_append, List.cons_append]
  gi_wp2
  gi_loopw [10] (fun i wr => ∃ k : Nat, k ≤ pl.length ∧ i = .int .i64 k ∧ J (fullAt k pl) wr ∧ wr.heap[bp]? = some (.cells (cellsOf pl) 264)) (fun i _ => pl.length - (intOf i).toNat)
  case atStart => exact ⟨0, Nat.zero_le _, rfl, h0, hp⟩
  case round =>
    obtain ⟨k, hk, rfl, hJs, hps⟩ := hrel
    by_cases hlt : k < pl.length
    · obtain ⟨⟨key, v, ful, mk⟩, hp⟩ : ∃ p, pl[k]? = some p := ⟨_, List.getElem?_eq_getElem hlt⟩
      obtain ⟨sta, la, ll, lc, di⟩ := v
      have c0 := cell_of_heap hps (k * 6 + 0)
      have c1 := cell_of_heap hps (k * 6 + 1)
      have c2 := cell_of_heap hps (k * 6 + 2)
      have c3 := cell_of_heap hps (k * 6 + 3)
      have c4 := cell_of_heap hps (k * 6 + 4)
      have c5 := cell_of_heap hps (k * 6 + 5)
      rw [cells_get hp _ (by omega)] at c0 c1 c2 c3 c4 c5
      simp [Pl.cells] at c0 c1 c2 c3 c4 c5
      have hs := fullAt_succ k pl _ hp
      have HS := hid hs
      have HP := hid hps
      have hbw := lt_of_heap hps
      clear hs hps hp
      cases ful with
      | false =>
        gi_wp2
        go_roundw
        case rel => exact ⟨k + 1, by omega, by simp, by rw [HS.out]; exact hJ _ _ _ none hJs (World.grownBy_alloc _ _ _) (fun r e => by cases e), (heap_alloc_lt _ _ _ hbw).trans HP.out⟩
        case measure => simp [intOf]; omega
      | true =>
        obtain ⟨fn, tmps, assign, body, hy, hR⟩ := hY _ (k, ⟨key, ⟨sta, la, ll, lc, di⟩, true, mk⟩) (wr.alloc (.cells #[.int .i64 key, .int .i64 sta, .slice la ll lc, .bool di, .bool true, .bool mk] 264)) (hJ _ _ _ none hJs (World.grownBy_alloc _ _ _) (fun r e => by cases e)) (Nat.lt_of_le_of_lt (fullAt_len _ _) hlt)
        dsimp only [encP] at hy
        gi_wp2
        refine hR.mono ?_
        rintro e W3 (⟨rfl, hJ3, hk3⟩ | ⟨rfl, hJx3⟩)
        · gi_wp2
          go_roundw
          case rel => exact ⟨k + 1, by omega, by simp, by rw [HS.out]; exact hJ3, (hk3.trans (heap_alloc_lt _ _ _ hbw)).trans HP.out⟩
          case measure => simp [intOf]; omega
        · gi_wp2
          refine bodyPost_ret (results_none rfl _ _ _) rfl ?_
          exact ⟨⟨_, rfl⟩, .inr ⟨_, (by have := fullAt_prefix pl (k + 1) pl.length (by omega) (Nat.le_refl _); rw [HS.out] at this; exact this), hJx3⟩⟩
    · obtain rfl : k = pl.length := by omega
      gi_wp2
      go_end0
      exact ⟨⟨_, rfl⟩, .inl ⟨_, rfl, hJs⟩⟩


set_option maxRecDepth 100000 in
set_option maxHeartbeats 2000000 in
theorem empty_at {w : World} {bc bp bm hand : Nat} {pl : List Pl} (h : AtP w bc bp bm pl hand) :
    Calls Tryz.prog 171 #[.pointer (some ⟨bc, 0, none⟩)] w fun e w' => e = .returned (.int .i64 (emptyI pl)) ∧ Fr (fun _ => False) w w' := by
  refine (callsIn_wide (n := 10)).1 ?_
  have hr := h.room
  have F := hid (full_any (some ⟨bc, 0, none⟩) (w.alloc (.cells #[.int .i64 0] 3)))
  refine callsIn_of_wp_marks Tryz.func171 rfl trivial ?_ rfl
  simp only [Tryz.ntmps171, List.size_toArray, List.length_cons, List.length_nil, Nat.reduceAdd, Nat.reduceSub, Array.replicate_succ, Array.replicate_zero, List.push_toArray, List.append_toArray, List.nil_append, List.cons_append]
  gi_wp2_with (gi_at_call 228; refine (callsIn_wide.2 F.out).mono ?_; rintro e w' ⟨rfl, rfl⟩)
  obtain ⟨W0, hW0⟩ : ∃ W0, (w.alloc (.cells #[.int .i64 0] 3)).alloc (.cells #[.pointer (some ⟨bc, 0, none⟩)] 154) = W0 := ⟨_, rfl⟩
  have hF0 : Fr (fun _ => False) w W0 := by rw [← hW0]; exact ((Fr.refl _ w).alloc _).alloc _
  have hsz : W0.heap.size = w.heap.size + 1 + 1 := by rw [← hW0]; simp
  have hnx : W0.heap[w.heap.size]? = some (.cells #[.int .i64 0] 3) := by rw [← hW0]; exact (heap_alloc_lt _ _ _ (by simp)).trans (heap_alloc_new _ _)
  have hbx : W0.cell? ⟨w.heap.size + 1, 0, none⟩ = some (.pointer (some ⟨bc, 0, none⟩)) := by rw [← hW0]; simp [go_sem]
  have h0 : AtP W0 bc bp bm pl hand := h.fr hF0 (fun h => h) (fun h => h) (fun h => h)
  have hbp := lt_of_heap h0.p
  simp only [hW0]
  refine wpIn_rangeFunc_ownG (F := Fence.wide) rfl (by omega) (gf := 268) (lb := #[.pointer (some ⟨w.heap.size + 1, 0, none⟩)]) rfl trivial (enters_of Tryz.func268 (by kernel_rfl) rfl)
    (fullf_stops h0 hbx) (fun h k => k.trans h) (fun W l o o' hl _ _ _ => heap_putObj_ne _ _ _ _ (by omega)) (Below.refl _ _) (fun _ => rfl)
    (fun pre W => (W.heap[w.heap.size]? = some (.cells #[.int .i64 pre.length] 3) ∧ Fr (fun _ => False) w W) ∧ pre.map (·.1) = List.range pre.length)
    (fun c pre W => (∃ k : Nat, (W.heap[w.heap.size]? = some (.cells #[.int .i64 k] 3) ∧ Fr (fun _ => False) w W) ∧ ∃ pre0 x, pre = pre0 ++ [x] ∧ pre0.length = k ∧ pre0.map (·.1) = List.range k ∧ x.1 ≠ k) ∧ c = .exit 0)
    (own_and (own_and (own_block _ _ _ (fun _ => .inl rfl)) (own_fr (by omega))) (own_pure _ _))
    (fun c => own_and (own_ex fun k => own_and (own_and (own_block _ _ _ (fun _ => .inl rfl)) (own_fr (by omega))) (own_pure _ _)) (own_pure _ _))
    ⟨⟨hnx, hF0⟩, rfl⟩
    (fun x => { tmps := #[.pointer (some ⟨bc, 0, none⟩), undef, .int .i64 0, .pointer (some ⟨w.heap.size, 0, none⟩), .int .i64 x.1, .pointer (some ⟨bc, 0, none⟩), .func (.func 268) #[] #[.pointer (some ⟨w.heap.size + 1, 0, none⟩)], .int .i64 x.1, .agg #[.int .i64 x.2.key, .int .i64 x.2.v.stamp, .slice x.2.v.la x.2.v.ll x.2.v.lc, .bool x.2.v.dirty, .bool x.2.full, .bool x.2.marked], undef, undef, undef, undef, undef, undef, undef, undef, undef, undef, undef, undef, undef], defers := [] }) ?assign ?body ?done ?stop
  case assign =>
    intro l x W K hK
    gi_wp2
    exact hK
  case body =>
    rintro l pre x W ⟨⟨hn, hFr⟩, hpre⟩ hlen
    have c0 := cell_of_heap hn 0
    have z0 := frozen_of_heap hn 0
    simp at c0
    have hw := lt_of_heap hn
    by_cases hx : x.1 = pre.length
    · have hd : ((x.1 : Int) == (pre.length : Int)) = true := by simp [hx]
      have hX := hid hx
      have HP := hid hpre
      have HN := hid hn
      clear hx hpre hn
      gi_wp2
      refine ⟨(KeepsOthers.setCell _ _ _).from _, heap_setCell_ne _ _ _ _ (by have := lt_of_heap h.p; simp; omega), ⟨?_, hFr.setCell (fun hh => absurd hh (Nat.lt_irrefl _)) _⟩, ?_⟩
      · rw [heap_setCell_cells _ _ _ _ HN.out]; simp
      · simp [HP.out, hX.out, List.range_succ]
    · have hd : ((x.1 : Int) == (pre.length : Int)) = false := by simp; omega
      have hX := hid hx
      have HP := hid hpre
      have HN := hid hn
      clear hx hpre hn
      gi_wp2
      exact ⟨(KeepsOthers.refl _).from _, ⟨_, ⟨HN.out, hFr⟩, _, _, rfl, rfl, HP.out, hX.out⟩, rfl⟩
  case done =>
    rintro D ys W hD rfl ⟨⟨hn, hFr⟩, hpre⟩ hK
    have c0 := cell_of_heap hn 0
    have z0 := frozen_of_heap hn 0
    simp at c0
    have e0 := (hFr.cell (p := ⟨bc, 0, none⟩) (lt_of_heap h.c) (fun h => h)).trans (cell_of_heap h.c 0)
    simp at e0
    have hm := fullAt_len pl.length pl
    by_cases hx : (fullAt pl.length pl).length = pl.length
    · have hd : (((fullAt pl.length pl).length : Int) == (pl.length : Int)) = true := by simp [hx]
      have hX := hid hx
      have HP := hid hpre
      have HN := hid hn
      clear hx hpre hn
      gi_wp2
      gi_big_quiet_th (fail)
      gi_wp2
      refine marks_ret1 (t := 2) rfl (show (W.drewN nq).heap[D]? = _ from hK) ⟨by rw [emptyI_none (by rw [empty_of_done HP.out, if_pos hX.out])]; rfl, (hFr.drewN _).putObj (fun hh => by omega) _⟩
    · have hd : (((fullAt pl.length pl).length : Int) == (pl.length : Int)) = false := by simp; omega
      have hX := hid hx
      have HP := hid hpre
      have HN := hid hn
      clear hx hpre hn
      gi_wp2
      gi_big_quiet_th (fail)
      gi_wp2
      refine marks_ret1 (t := 2) rfl (show (W.drewN nq).heap[D]? = _ from hK) ⟨by rw [emptyI_some (by rw [empty_of_done HP.out, if_neg hX.out])]; rfl, (hFr.drewN _).putObj (fun hh => by omega) _⟩
  case stop =>
    rintro D c pre W hD hSp ⟨⟨k, ⟨hn, hFr⟩, pre0, x, rfl, rfl, hpre, hne⟩, rfl⟩ hK
    have c0 := cell_of_heap hn 0
    have z0 := frozen_of_heap hn 0
    simp at c0
    have e0 := (hFr.cell (p := ⟨bc, 0, none⟩) (lt_of_heap h.c) (fun h => h)).trans (cell_of_heap h.c 0)
    simp at e0
    obtain ⟨he, hl⟩ := empty_of_stop hSp hpre hne
    have hd : ((pre0.length : Int) == (pl.length : Int)) = false := by simp; omega
    have HE := hid he
    have HS := hid hSp
    have HP := hid hpre
    have HN := hid hn
    have HX := hid hne
    clear hpre hn he hSp hne
    gi_wp2
    gi_big_quiet_th (fail)
    gi_wp2
    refine marks_ret1 (t := 2) rfl (show (W.drewN nq).heap[D]? = _ from hK) ⟨by rw [emptyI_some HE.out]; rfl, (hFr.drewN _).putObj (fun hh => by omega) _⟩


def VictimPost (pl : List Pl) (hand bc bp bm : Nat) (w : World) (e : Ending) (w' : World) : Prop :=
  e = .returned (.int .i64 (spin pl.length pl hand).2) ∧ AtP w' bc bp bm (spin pl.length pl hand).1 (((spin pl.length pl hand).2 + 1) % pl.length) ∧ Fr (fun b => b = bc ∨ b = bp) w w'

set_option maxHeartbeats 1000000 in
theorem victim_at {w : World} {bc bp bm hand : Nat} {pl : List Pl} (h : AtP w bc bp bm pl hand) :
    Calls Tryz.prog 172 #[.pointer (some ⟨bc, 0, none⟩)] w (VictimPost pl hand bc bp bm w) := by
  go_enter Tryz.func172, Tryz.ntmps172
  go_wp2
  go_step3
  go_wp2
  go_step3
  go_wp2
  go_loopg [3] pl.length (fun k _ wr => ∃ (pl' : List Pl) (hd : Nat), pl'.length = pl.length ∧ AtP wr bc bp bm pl' hd ∧ Fr (fun b => b = bc ∨ b = bp) w wr ∧ spin k pl' hd = spin pl.length pl hand ∧ marks pl' ≤ k)
  case atStart => exact ⟨pl, hand, rfl, h, Fr.refl _ _, rfl, marks_le _⟩
  case round =>
    obtain ⟨pl', hd, hlen, hA, hF, hs, hk⟩ := hrel
    have hr := hA.room
    have hh := hA.hand
    obtain ⟨n1, n2, n3⟩ := hA.ne
    have e0 := cell_of_heap hA.c 0
    have e2 := cell_of_heap hA.c 2
    have z2 := frozen_of_heap hA.c 2
    simp at e0 e2
    obtain ⟨p, hp⟩ : ∃ p, pl'[hd]? = some p := ⟨_, List.getElem?_eq_getElem hh⟩
    have c3 := cell_of_heap hA.p (hd * 6 + 5)
    have z3 := frozen_of_heap hA.p (hd * 6 + 5)
    rw [cells_get hp _ (by omega)] at c3
    simp [Pl.cells] at c3
    have HA := hid hA
    have HS := hid hs
    have HP := hid hp
    have HL := hid hlen
    have hmod := Nat.mod_lt (hd + 1) (show 0 < pl'.length by omega)
    clear hA hs hp hlen
    have hc1 : ((hd : Int) + 1) % (pl'.length : Int) = (((hd + 1) % pl'.length : Nat) : Int) := by simp
    have HC := hid hc1
    clear hc1
    cases hm : p.marked with
    | true =>
      rw [hm] at c3
      have HM := hid hm
      have hpos := marks_pos HP.out hm
      have hset := marks_set HP.out hm
      clear hm
      obtain ⟨g, rfl⟩ : ∃ g, gk = g + 1 := ⟨gk - 1, by omega⟩
      go_wp2
      go_quiet (fail)
      go_wp2
      go_region
      go_wp2
      go_roundg g
      case measure => omega
      case rel =>
        rw [HC.out]
        have hA := ((HA.out.drewN (nq + 1)).turn hmod).set HP.out 5 (by omega) (.bool false) { p with marked := false } rfl rfl rfl (trivial)
        exact ⟨_, _, by simp [HL.out], hA, ((hF.drewN _).setCell (fun _ => .inl rfl) _).setCell (fun _ => .inr rfl) _, by rw [← HS.out, spin_mark HP.out HM.out], by omega⟩
    | false =>
      rw [hm] at c3
      have HM := hid hm
      clear hm
      go_wp2
      go_quiet (fail)
      go_wp2
      go_region
      go_wp2
      rw [Exit.noGoto_ret]
      go_ret
      rw [HC.out]
      have e := spin_stop (k := gk) HP.out HM.out
      rw [HS.out] at e
      refine ⟨by rw [e]; rfl, ?_, (hF.drewN _).setCell (fun _ => .inl rfl) _⟩
      rw [e, ← HL.out]
      exact (HA.out.drewN (nq + 1)).turn hmod


end CP
end Go.Proofs.YtgdhaaokolfdoaaGreatDoor
