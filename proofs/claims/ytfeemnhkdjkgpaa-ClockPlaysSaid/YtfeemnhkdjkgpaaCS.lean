/- The clock of string: what find, Look, full, empty, victim, Put and Get compute. Conditions: the clock lies in the world as At says. -/
import Derived.Test.YtfeemnhkdjkgpaaRows
import Derived.Test.YtfeemnhkdjkgpaaCI
import Derived.Deep.QuietTactic
import Derived.BigQuiet
import Derived.RegionTactic
import Derived.BigRegion
import Derived.Deep.LoopGhost
import Derived.Shelf.Abstract
import Derived.OwnWalkIn
import Derived.TacticsInMore
import Derived.LoopNIn
import Derived.LoopIn
import Derived.RangeFuncCalls
import Derived.Sort.BigQuietIn
import Derived.RangeFuncNested
namespace Go.Proofs.Ytfeemnhkdjkgpaa
namespace CS
open Go.RowKit Go.Sg Go.Sg.Clk Go.Shelf
attribute [local go_sem] Oper.semAt_some
def isV (v : Value) : Prop := ∃ x : ByteArray, v = .string x
abbrev AtI := At 61 65 isV
theorem find_nil (key : Int) (w : World) : Calls Try.prog 27 #[.pointer none, .int .i64 key] w fun e w' => e = .returned (.pointer none) ∧ w = w' := by
  go_enter Try.func27, Try.ntmps27
  go_wp2
  go_ret
  exact ⟨rfl, rfl⟩

theorem find_at {w : World} {bc bp bm hand : Nat} {pl : List Pl} (h : AtI w bc bp bm pl hand) (key : Int) :
    Calls Try.prog 27 #[.pointer (some ⟨bc, 0, none⟩), .int .i64 key] w fun e w' => e = .returned (.pointer ((find pl key).map fun i => ⟨bp, i * 4, none⟩)) ∧ w = w' := by
  obtain ⟨l, ck, hm, -, hlook, -⟩ := h.m
  have h0 := cell_of_heap h.c 0
  have h1 := cell_of_heap h.c 1
  simp at h0 h1
  have hl := run_lookup (P := Try.prog) (T := 59) true Try.underlying59 Try.underlying3 Try.zero3 hm key
  rw [hlook] at hl
  have hr := h.room
  cases hf : find pl key with
  | none =>
    rw [hf] at hl
    simp at hl
    clear hf hlook hm h
    go_enter Try.func27, Try.ntmps27
    go_wp2
    go_ret
    exact ⟨rfl, rfl⟩
  | some i =>
    rw [hf] at hl
    simp at hl
    have hi : i < pl.length := by
      obtain ⟨p, hp, -⟩ := find_some hf
      exact (List.getElem?_eq_some_iff.1 hp).1
    clear hf hlook hm h
    go_enter Try.func27, Try.ntmps27
    go_wp2
    go_ret
    exact ⟨rfl, rfl⟩


theorem look_nil (key : Int) (w : World) : Calls Try.prog 9 #[.pointer none, .int .i64 key] w fun e w' => e = .returned (.tuple #[.string { data := #[] }, .bool false]) ∧ w = w' := by
  go_enter Try.func9, Try.ntmps9
  go_wp2_with (go_at_call 27; refine (find_nil _ _).mono ?_; rintro e w' ⟨rfl, rfl⟩)
  go_ret2
  exact ⟨rfl, rfl⟩

theorem look_at {w : World} {bc bp bm hand : Nat} {pl : List Pl} (h : AtI w bc bp bm pl hand) (key : Int) :
    Calls Try.prog 9 #[.pointer (some ⟨bc, 0, none⟩), .int .i64 key] w fun e w' => e = .returned (.tuple #[((find pl key).bind fun i => (pl[i]?).map (·.v)).getD (.string { data := #[] }), .bool (find pl key).isSome]) ∧ w = w' := by
  have F := hid (find_at h key)
  cases hf : find pl key with
  | none =>
    rw [hf] at F
    clear hf h
    go_enter Try.func9, Try.ntmps9
    go_wp2_with (go_at_call 27; refine F.out.mono ?_; rintro e w' ⟨rfl, rfl⟩)
    go_ret2
    exact ⟨rfl, rfl⟩
  | some i =>
    rw [hf] at F
    obtain ⟨p, hp, -⟩ := find_some hf
    have hc := cell_of_heap h.p (i * 4 + 1)
    rw [cells_get hp 1 (by omega)] at hc
    simp [Pl.cells] at hc
    have e : pl[i]? = some p := hp
    have E := hid e
    clear hf h e hp
    go_enter Try.func9, Try.ntmps9
    go_wp2_with (go_at_call 27; refine F.out.mono ?_; rintro e w' ⟨rfl, rfl⟩)
    go_ret2
    exact ⟨by rw [Option.bind_some, E.out]; rfl, rfl⟩




theorem full_any (a : Option Addr) (w : World) :
    Calls Try.prog 36 #[.pointer a] w fun e w' => e = .returned (.func (.func 38) #[] #[.pointer (some ⟨w.heap.size, 0, none⟩)]) ∧ w.alloc (.cells #[.pointer a] 23) = w' := by
  go_enter Try.func36, Try.ntmps36
  go_wp2
  go_ret
  exact ⟨rfl, rfl⟩

abbrev encP (x : Nat × Pl) : Array Value := #[.int .i64 x.1, .agg #[.int .i64 x.2.key, x.2.v, .bool x.2.full, .bool x.2.marked]]

set_option maxRecDepth 100000 in
set_option maxHeartbeats 2000000 in
theorem fullf_stops {w : World} {bc bp bm hand bx : Nat} {pl : List Pl} (h : AtI w bc bp bm pl hand) (hx : w.cell? ⟨bx, 0, none⟩ = some (.pointer (some ⟨bc, 0, none⟩))) :
    SeqStopsK Fence.wide 9 Try.prog 38 #[.pointer (some ⟨bx, 0, none⟩)] encP (fun W W' => W'.heap[bp]? = W.heap[bp]?) (fun xs => xs = fullAt pl.length pl) (fun pre => pre <+: fullAt pl.length pl) pl.length w := fun l J Jx W hW hJ _ hY h0 => by
  have hr := h.room
  have hbp := lt_of_heap h.p
  have hx' := (hW.cell (p := ⟨bx, 0, none⟩) (World.block_lt_of_cell? _ _ hx)).trans hx
  have hc0 := (hW.cell (p := ⟨bc, 0, none⟩) (lt_of_heap h.c)).trans (cell_of_heap h.c 0)
  simp at hc0
  have hp := (hW.block bp hbp).trans h.p
  clear hx hW
  refine callsIn_of_wp Try.func38 rfl trivial ?_ rfl
  simp only [Try.ntmps38, List.size_toArray, List.length_cons, List.length_nil, Nat.reduceAdd, Nat.reduceSub, Array.replicate_succ, Array.replicate_zero, List.push_toArray, List.append_toArray, List.nil_append, List.cons_append]
  gi_wp2
  gi_loopw [10] (fun i wr => ∃ k : Nat, k ≤ pl.length ∧ i = .int .i64 k ∧ J (fullAt k pl) wr ∧ wr.heap[bp]? = some (.cells (cellsOf pl) 65)) (fun i _ => pl.length - (intOf i).toNat)
  case atStart => exact ⟨0, Nat.zero_le _, rfl, h0, hp⟩
  case round =>
    obtain ⟨k, hk, rfl, hJs, hps⟩ := hrel
    by_cases hlt : k < pl.length
    · obtain ⟨⟨key, v, ful, mk⟩, hp⟩ : ∃ p, pl[k]? = some p := ⟨_, List.getElem?_eq_getElem hlt⟩
      obtain ⟨x, rfl⟩ : ∃ x : ByteArray, v = .string x := h.vs _ (List.mem_of_getElem? hp)
      have c0 := cell_of_heap hps (k * 4 + 0)
      have c1 := cell_of_heap hps (k * 4 + 1)
      have c2 := cell_of_heap hps (k * 4 + 2)
      have c3 := cell_of_heap hps (k * 4 + 3)
      rw [cells_get hp _ (by omega)] at c0 c1 c2 c3
      simp [Pl.cells] at c0 c1 c2 c3
      have hs := fullAt_succ k pl _ hp
      have HS := hid hs
      have HP := hid hps
      have hbw := lt_of_heap hps
      clear hs hps hp
      cases ful with
      | false =>
        gi_wp2
        go_roundw
        case rel => exact ⟨k + 1, by omega, by simp, by rw [HS.out]; exact hJ _ _ _ none hJs (World.grownBy_alloc _ _ _) (fun r e => by cases e), (heap_alloc_lt _ _ _ hbw).trans HP.out⟩
        case measure => simp [intOf]; omega
      | true =>
        obtain ⟨fn, tmps, assign, body, hy, hR⟩ := hY _ (k, ⟨key, .string x, true, mk⟩) (wr.alloc (.cells #[.int .i64 key, .string x, .bool true, .bool mk] 65)) (hJ _ _ _ none hJs (World.grownBy_alloc _ _ _) (fun r e => by cases e)) (Nat.lt_of_le_of_lt (fullAt_len _ _) hlt)
        dsimp only [encP] at hy
        gi_wp2
        refine hR.mono ?_
        rintro e W3 (⟨rfl, hJ3, hk3⟩ | ⟨rfl, hJx3⟩)
        · gi_wp2
          go_roundw
          case rel => exact ⟨k + 1, by omega, by simp, by rw [HS.out]; exact hJ3, (hk3.trans (heap_alloc_lt _ _ _ hbw)).trans HP.out⟩
          case measure => simp [intOf]; omega
        · gi_wp2
          refine bodyPost_ret (results_none rfl _ _ _) rfl ?_
          exact ⟨⟨_, rfl⟩, .inr ⟨_, (by have := fullAt_prefix pl (k + 1) pl.length (by omega) (Nat.le_refl _); rw [HS.out] at this; exact this), hJx3⟩⟩
    · obtain rfl : k = pl.length := by omega
      gi_wp2
      go_end0
      exact ⟨⟨_, rfl⟩, .inl ⟨_, rfl, hJs⟩⟩


set_option maxRecDepth 100000 in
set_option maxHeartbeats 2000000 in
theorem empty_at {w : World} {bc bp bm hand : Nat} {pl : List Pl} (h : AtI w bc bp bm pl hand) :
    Calls Try.prog 28 #[.pointer (some ⟨bc, 0, none⟩)] w fun e w' => e = .returned (.int .i64 (emptyI pl)) ∧ Fr (fun _ => False) w w' := by
  refine (callsIn_wide (n := 10)).1 ?_
  have hr := h.room
  have F := hid (full_any (some ⟨bc, 0, none⟩) (w.alloc (.cells #[.int .i64 0] 3)))
  refine callsIn_of_wp_marks Try.func28 rfl trivial ?_ rfl
  simp only [Try.ntmps28, List.size_toArray, List.length_cons, List.length_nil, Nat.reduceAdd, Nat.reduceSub, Array.replicate_succ, Array.replicate_zero, List.push_toArray, List.append_toArray, List.nil_append, List.cons_append]
  gi_wp2_with (gi_at_call 36; refine (callsIn_wide.2 F.out).mono ?_; rintro e w' ⟨rfl, rfl⟩)
  obtain ⟨W0, hW0⟩ : ∃ W0, (w.alloc (.cells #[.int .i64 0] 3)).alloc (.cells #[.pointer (some ⟨bc, 0, none⟩)] 23) = W0 := ⟨_, rfl⟩
  have hF0 : Fr (fun _ => False) w W0 := by rw [← hW0]; exact ((Fr.refl _ w).alloc _).alloc _
  have hsz : W0.heap.size = w.heap.size + 1 + 1 := by rw [← hW0]; simp
  have hnx : W0.heap[w.heap.size]? = some (.cells #[.int .i64 0] 3) := by rw [← hW0]; exact (heap_alloc_lt _ _ _ (by simp)).trans (heap_alloc_new _ _)
  have hbx : W0.cell? ⟨w.heap.size + 1, 0, none⟩ = some (.pointer (some ⟨bc, 0, none⟩)) := by rw [← hW0]; simp [go_sem]
  have h0 : AtI W0 bc bp bm pl hand := h.fr hF0 (fun h => h) (fun h => h) (fun h => h)
  have hbp := lt_of_heap h0.p
  simp only [hW0]
  refine wpIn_rangeFunc_ownG (F := Fence.wide) rfl (by omega) (gf := 38) (lb := #[.pointer (some ⟨w.heap.size + 1, 0, none⟩)]) rfl trivial (enters_of Try.func38 (by kernel_rfl) rfl)
    (fullf_stops h0 hbx) (fun h k => k.trans h) (fun W l o o' hl _ _ _ => heap_putObj_ne _ _ _ _ (by omega)) (Below.refl _ _) (fun _ => rfl)
    (fun pre W => (W.heap[w.heap.size]? = some (.cells #[.int .i64 pre.length] 3) ∧ Fr (fun _ => False) w W) ∧ pre.map (·.1) = List.range pre.length)
    (fun c pre W => (∃ k : Nat, (W.heap[w.heap.size]? = some (.cells #[.int .i64 k] 3) ∧ Fr (fun _ => False) w W) ∧ ∃ pre0 x, pre = pre0 ++ [x] ∧ pre0.length = k ∧ pre0.map (·.1) = List.range k ∧ x.1 ≠ k) ∧ c = .exit 0)
    (own_and (own_and (own_block _ _ _ (fun _ => .inl rfl)) (own_fr (by omega))) (own_pure _ _))
    (fun c => own_and (own_ex fun k => own_and (own_and (own_block _ _ _ (fun _ => .inl rfl)) (own_fr (by omega))) (own_pure _ _)) (own_pure _ _))
    ⟨⟨hnx, hF0⟩, rfl⟩
    (fun x => { tmps := #[.pointer (some ⟨bc, 0, none⟩), undef, .int .i64 0, .pointer (some ⟨w.heap.size, 0, none⟩), .int .i64 x.1, .pointer (some ⟨bc, 0, none⟩), .func (.func 38) #[] #[.pointer (some ⟨w.heap.size + 1, 0, none⟩)], .int .i64 x.1, .agg #[.int .i64 x.2.key, x.2.v, .bool x.2.full, .bool x.2.marked], undef, undef, undef, undef, undef, undef, undef, undef, undef, undef, undef, undef, undef], defers := [] }) ?assign ?body ?done ?stop
  case assign =>
    intro l x W K hK
    gi_wp2
    exact hK
  case body =>
    rintro l pre x W ⟨⟨hn, hFr⟩, hpre⟩ hlen
    have c0 := cell_of_heap hn 0
    have z0 := frozen_of_heap hn 0
    simp at c0
    have hw := lt_of_heap hn
    by_cases hx : x.1 = pre.length
    · have hd : ((x.1 : Int) == (pre.length : Int)) = true := by simp [hx]
      have hX := hid hx
      have HP := hid hpre
      have HN := hid hn
      clear hx hpre hn
      gi_wp2
      refine ⟨(KeepsOthers.setCell _ _ _).from _, heap_setCell_ne _ _ _ _ (by have := lt_of_heap h.p; simp; omega), ⟨?_, hFr.setCell (fun hh => absurd hh (Nat.lt_irrefl _)) _⟩, ?_⟩
      · rw [heap_setCell_cells _ _ _ _ HN.out]; simp
      · simp [HP.out, hX.out, List.range_succ]
    · have hd : ((x.1 : Int) == (pre.length : Int)) = false := by simp; omega
      have hX := hid hx
      have HP := hid hpre
      have HN := hid hn
      clear hx hpre hn
      gi_wp2
      exact ⟨(KeepsOthers.refl _).from _, ⟨_, ⟨HN.out, hFr⟩, _, _, rfl, rfl, HP.out, hX.out⟩, rfl⟩
  case done =>
    rintro D ys W hD rfl ⟨⟨hn, hFr⟩, hpre⟩ hK
    have c0 := cell_of_heap hn 0
    have z0 := frozen_of_heap hn 0
    simp at c0
    have e0 := (hFr.cell (p := ⟨bc, 0, none⟩) (lt_of_heap h.c) (fun h => h)).trans (cell_of_heap h.c 0)
    simp at e0
    have hm := fullAt_len pl.length pl
    by_cases hx : (fullAt pl.length pl).length = pl.length
    · have hd : (((fullAt pl.length pl).length : Int) == (pl.length : Int)) = true := by simp [hx]
      have hX := hid hx
      have HP := hid hpre
      have HN := hid hn
      clear hx hpre hn
      gi_wp2
      gi_big_quiet_th (fail)
      gi_wp2
      refine marks_ret1 (t := 2) rfl (show (W.drewN nq).heap[D]? = _ from hK) ⟨by rw [emptyI_none (by rw [empty_of_done HP.out, if_pos hX.out])]; rfl, (hFr.drewN _).putObj (fun hh => by omega) _⟩
    · have hd : (((fullAt pl.length pl).length : Int) == (pl.length : Int)) = false := by simp; omega
      have hX := hid hx
      have HP := hid hpre
      have HN := hid hn
      clear hx hpre hn
      gi_wp2
      gi_big_quiet_th (fail)
      gi_wp2
      refine marks_ret1 (t := 2) rfl (show (W.drewN nq).heap[D]? = _ from hK) ⟨by rw [emptyI_some (by rw [empty_of_done HP.out, if_neg hX.out])]; rfl, (hFr.drewN _).putObj (fun hh => by omega) _⟩
  case stop =>
    rintro D c pre W hD hSp ⟨⟨k, ⟨hn, hFr⟩, pre0, x, rfl, rfl, hpre, hne⟩, rfl⟩ hK
    have c0 := cell_of_heap hn 0
    have z0 := frozen_of_heap hn 0
    simp at c0
    have e0 := (hFr.cell (p := ⟨bc, 0, none⟩) (lt_of_heap h.c) (fun h => h)).trans (cell_of_heap h.c 0)
    simp at e0
    obtain ⟨he, hl⟩ := empty_of_stop hSp hpre hne
    have hd : ((pre0.length : Int) == (pl.length : Int)) = false := by simp; omega
    have HE := hid he
    have HS := hid hSp
    have HP := hid hpre
    have HN := hid hn
    have HX := hid hne
    clear hpre hn he hSp hne
    gi_wp2
    gi_big_quiet_th (fail)
    gi_wp2
    refine marks_ret1 (t := 2) rfl (show (W.drewN nq).heap[D]? = _ from hK) ⟨by rw [emptyI_some HE.out]; rfl, (hFr.drewN _).putObj (fun hh => by omega) _⟩


def VictimPost (pl : List Pl) (hand bc bp bm : Nat) (w : World) (e : Ending) (w' : World) : Prop :=
  e = .returned (.int .i64 (spin pl.length pl hand).2) ∧ AtI w' bc bp bm (spin pl.length pl hand).1 (((spin pl.length pl hand).2 + 1) % pl.length) ∧ Fr (fun b => b = bc ∨ b = bp) w w'

set_option maxHeartbeats 1000000 in
theorem victim_at {w : World} {bc bp bm hand : Nat} {pl : List Pl} (h : AtI w bc bp bm pl hand) :
    Calls Try.prog 29 #[.pointer (some ⟨bc, 0, none⟩)] w (VictimPost pl hand bc bp bm w) := by
  go_enter Try.func29, Try.ntmps29
  go_wp2
  go_step3
  go_wp2
  go_step3
  go_wp2
  go_loopg [3] pl.length (fun k _ wr => ∃ (pl' : List Pl) (hd : Nat), pl'.length = pl.length ∧ AtI wr bc bp bm pl' hd ∧ Fr (fun b => b = bc ∨ b = bp) w wr ∧ spin k pl' hd = spin pl.length pl hand ∧ marks pl' ≤ k)
  case atStart => exact ⟨pl, hand, rfl, h, Fr.refl _ _, rfl, marks_le _⟩
  case round =>
    obtain ⟨pl', hd, hlen, hA, hF, hs, hk⟩ := hrel
    have hr := hA.room
    have hh := hA.hand
    obtain ⟨n1, n2, n3⟩ := hA.ne
    have e0 := cell_of_heap hA.c 0
    have e2 := cell_of_heap hA.c 2
    have z2 := frozen_of_heap hA.c 2
    simp at e0 e2
    obtain ⟨p, hp⟩ : ∃ p, pl'[hd]? = some p := ⟨_, List.getElem?_eq_getElem hh⟩
    have c3 := cell_of_heap hA.p (hd * 4 + 3)
    have z3 := frozen_of_heap hA.p (hd * 4 + 3)
    rw [cells_get hp _ (by omega)] at c3
    simp [Pl.cells] at c3
    have HA := hid hA
    have HS := hid hs
    have HP := hid hp
    have HL := hid hlen
    have hmod := Nat.mod_lt (hd + 1) (show 0 < pl'.length by omega)
    clear hA hs hp hlen
    have hc1 : ((hd : Int) + 1) % (pl'.length : Int) = (((hd + 1) % pl'.length : Nat) : Int) := by simp
    have HC := hid hc1
    clear hc1
    cases hm : p.marked with
    | true =>
      rw [hm] at c3
      have HM := hid hm
      have hpos := marks_pos HP.out hm
      have hset := marks_set HP.out hm
      clear hm
      obtain ⟨g, rfl⟩ : ∃ g, gk = g + 1 := ⟨gk - 1, by omega⟩
      go_wp2
      go_quiet (fail)
      go_wp2
      go_region
      go_wp2
      go_roundg g
      case measure => omega
      case rel =>
        rw [HC.out]
        have hA := ((HA.out.drewN (nq + 1)).turn hmod).set HP.out 3 (by omega) (.bool false) { p with marked := false } rfl rfl rfl (show isV p.v from HA.out.vs p (List.mem_of_getElem? HP.out))
        exact ⟨_, _, by simp [HL.out], hA, ((hF.drewN _).setCell (fun _ => .inl rfl) _).setCell (fun _ => .inr rfl) _, by rw [← HS.out, spin_mark HP.out HM.out], by omega⟩
    | false =>
      rw [hm] at c3
      have HM := hid hm
      clear hm
      go_wp2
      go_quiet (fail)
      go_wp2
      go_region
      go_wp2
      rw [Exit.noGoto_ret]
      go_ret
      rw [HC.out]
      have e := spin_stop (k := gk) HP.out HM.out
      rw [HS.out] at e
      refine ⟨by rw [e]; rfl, ?_, (hF.drewN _).setCell (fun _ => .inl rfl) _⟩
      rw [e, ← HL.out]
      exact (HA.out.drewN (nq + 1)).turn hmod


def goneK (g : Option Pl) : Int := (g.map (·.key)).getD 0
def goneV (z : Value) (g : Option Pl) : Value := (g.map (·.v)).getD z
def PutPost (pl : List Pl) (hand bc bp bm : Nat) (key : Int) (v z : Value) (w : World) (e : Ending) (w' : World) : Prop :=
  e = .returned (.tuple #[.int .i64 (goneK (putM pl hand key v).gone), goneV z (putM pl hand key v).gone, .bool (putM pl hand key v).gone.isSome]) ∧
    AtI w' bc bp bm (putM pl hand key v).pl (putM pl hand key v).hand ∧ Fr (fun b => b = bc ∨ b = bp ∨ b = bm) w w'

set_option maxHeartbeats 1000000 in
theorem put_there {w : World} {bc bp bm hand : Nat} {pl : List Pl} (h : AtI w bc bp bm pl hand) (key : Int) (x : ByteArray) {i : Nat} (hf : find pl key = some i) :
    Calls Try.prog 10 #[.pointer (some ⟨bc, 0, none⟩), .int .i64 key, .string x] w (PutPost pl hand bc bp bm key (.string x) (.string { data := #[] }) w) := by
  have F := hid (find_at h key)
  obtain ⟨n1, n2, n3⟩ := h.ne
  obtain ⟨p, hp, hful, hkey⟩ := find_some hf
  have c1 := cell_of_heap h.p (i * 4 + 1)
  have c3 := cell_of_heap h.p (i * 4 + 3)
  have z1 := frozen_of_heap h.p (i * 4 + 1)
  have z3 := frozen_of_heap h.p (i * 4 + 3)
  rw [cells_get hp _ (by omega)] at c1 c3
  simp [Pl.cells] at c1 c3
  have hM : putM pl hand key (.string x) = ⟨pl.set i ⟨key, .string x, true, true⟩, hand, none⟩ := by simp [putM, hf]
  have HM := hid hM
  have HA := hid ((h.set hp 1 (by omega) (.string x) { p with v := .string x } rfl rfl rfl ⟨x, rfl⟩).set (get_set hp _ i |>.trans (if_pos rfl)) 3 (by omega) (.bool true) ⟨key, .string x, true, true⟩ (by simp [Pl.cells, hful, hkey]) (by simp [hkey]) (by simp [hful]) ⟨x, rfl⟩)
  rw [hf] at F
  clear hM hf hp hful hkey h
  go_enter Try.func10, Try.ntmps10
  go_wp2_with (go_at_call 27; refine F.out.mono ?_; rintro e w' ⟨rfl, rfl⟩)
  go_ret3
  refine ⟨by rw [HM.out]; rfl, ?_, ((Fr.refl _ _).setCell (fun _ => .inr (.inl rfl)) _).setCell (fun _ => .inr (.inl rfl)) _⟩
  rw [HM.out]
  have := HA.out
  rw [List.set_set] at this
  exact this

set_option maxHeartbeats 1000000 in
theorem put_free {w : World} {bc bp bm hand : Nat} {pl : List Pl} (h : AtI w bc bp bm pl hand) (key : Int) (x : ByteArray) {i : Nat} (hf : find pl key = none) (he : empty pl = some i) :
    Calls Try.prog 10 #[.pointer (some ⟨bc, 0, none⟩), .int .i64 key, .string x] w (PutPost pl hand bc bp bm key (.string x) (.string { data := #[] }) w) := by
  have F := hid (find_at h key)
  have E := hid (empty_at h)
  rw [emptyI_some he] at E
  rw [hf] at F
  obtain ⟨n1, n2, n3⟩ := h.ne
  have hr := h.room
  obtain ⟨hi, hpf⟩ : i < pl.length ∧ ∃ p, pl[i]? = some p ∧ p.full = false := by
    rw [empty, List.findIdx?_eq_some_iff_getElem] at he
    obtain ⟨hi, h1, _⟩ := he
    exact ⟨hi, pl[i], by simp, by simpa using h1⟩
  obtain ⟨p, hp, hful⟩ := hpf
  have hM : putM pl hand key (.string x) = ⟨pl.set i ⟨key, .string x, true, true⟩, hand, none⟩ := by simp [putM, hf, he]
  have HM := hid hM
  have HH := hid h
  have HP := hid hp
  have HF := hid hf
  have HU := hid hful
  clear hM hf he h hp hful
  go_enter Try.func10, Try.ntmps10
  go_wp2_with (go_at_call 27; refine F.out.mono ?_; rintro e w' ⟨rfl, rfl⟩)
  refine E.out.mono ?_
  rintro e w1 ⟨rfl, hF1⟩
  have hA1 := hid (HH.out.fr hF1 (fun h => h) (fun h => h) (fun h => h))
  have f0 := hA1.out.c0
  have f1 := hA1.out.c1
  have k0 := hA1.out.k0 HP.out
  have k1 := hA1.out.k1 HP.out
  have k2 := hA1.out.k2 HP.out
  have k3 := hA1.out.k3 HP.out
  have zp := hA1.out.zp
  obtain ⟨l, ck, hm, hR⟩ := hA1.out.m
  have HR := hid hR
  have hup := fun (W : World) (hW : W.heap[bm]? = some (.map (ents l) ck)) => run_mapUpdate (P := Try.prog) (T := 59) Try.underlying59 Try.underlying3 hW key (.int .i64 i)
  clear hR
  go_wp2
  go_ret3
  obtain ⟨hnd, hl, hn⟩ := HR.out
  have hlk : Sg.look l key = none := by rw [hl, HF.out]; rfl
  refine ⟨by rw [HM.out]; rfl, ?_, (hF1.mono (fun _ _ h => h.elim)).trans (S' := fun b => b = bp ∨ b = bm) (((((Fr.refl _ _).setCell (fun _ => .inl rfl) _).setCell (fun _ => .inl rfl) _).setCell (fun _ => .inl rfl) _).setCell (fun _ => .inl rfl) _ |>.putObj (fun _ => .inr rfl) _) (fun b _ h => .inr h)⟩
  rw [HM.out]
  refine hA1.out.place HP.out _ (fun _ => .inr HF.out) ⟨x, rfl⟩ hA1.out.hand ?_ ?_ (heap_putObj_same _ _ _ ?_) (nodup_put hnd _ _ _) (fun k => ?_) ?_
  · simp only [go_sem, ne_eq, n1.symm, n2.symm, not_false_eq_true]; exact hA1.out.c
  · simp only [go_sem, ne_eq, n3.symm, not_false_eq_true]; exact heap_place hA1.out.p HP.out _ _ _ _ _ rfl
  · simpa using lt_of_heap hm
  · rw [look_put, hl]
    simp [HU.out]
  · rw [length_put, hlk, hn, HU.out]; simp

set_option maxHeartbeats 1000000 in
theorem put_full {w : World} {bc bp bm hand : Nat} {pl : List Pl} (h : AtI w bc bp bm pl hand) (key : Int) (x : ByteArray) (hf : find pl key = none) (he : empty pl = none) :
    Calls Try.prog 10 #[.pointer (some ⟨bc, 0, none⟩), .int .i64 key, .string x] w (PutPost pl hand bc bp bm key (.string x) (.string { data := #[] }) w) := by
  have F := hid (find_at h key)
  have E := hid (empty_at h)
  rw [emptyI_none he] at E
  rw [hf] at F
  obtain ⟨n1, n2, n3⟩ := h.ne
  have hr := h.room
  have HH := hid h
  have HF := hid hf
  have HE := hid he
  clear hf he h
  go_enter Try.func10, Try.ntmps10
  go_wp2_with (go_at_call 27; refine F.out.mono ?_; rintro e w' ⟨rfl, rfl⟩)
  refine E.out.mono ?_
  rintro e w1 ⟨rfl, hF1⟩
  have hA1 := hid (HH.out.fr hF1 (fun h => h) (fun h => h) (fun h => h))
  go_wp2_with fail
  refine (victim_at hA1.out).mono ?_
  rintro e w2 ⟨rfl, hA2, hF2⟩
  obtain ⟨i, hi⟩ : ∃ i, (spin pl.length pl hand).2 = i := ⟨_, rfl⟩
  obtain ⟨pl2, hpl2⟩ : ∃ pl2, (spin pl.length pl hand).1 = pl2 := ⟨_, rfl⟩
  have hlen2 : pl2.length = pl.length := by rw [← hpl2]; exact spin_len _ _ _
  have hil : i < pl2.length := by rw [hlen2, ← hi]; exact spin_lt _ _ _ HH.out.hand
  have hf2 : find pl2 key = none := by rw [← hpl2, spin_find]; exact HF.out
  have he2 : empty pl2 = none := by rw [← hpl2, spin_empty]; exact HE.out
  obtain ⟨p, hp⟩ : ∃ p, pl2[i]? = some p := ⟨_, List.getElem?_eq_getElem hil⟩
  have hpf := full_of_empty he2 hp
  have hM : putM pl hand key (.string x) = ⟨pl2.set i ⟨key, .string x, true, true⟩, (i + 1) % pl.length, some p⟩ := by rw [putM_full HF.out HE.out, hpl2, hi, hp]
  rw [hpl2, hi] at hA2
  rw [hi]
  obtain ⟨y, hy⟩ : ∃ y : ByteArray, p.v = .string y := hA2.vs p (List.mem_of_getElem? hp)
  have f0 := hA2.c0
  have f1 := hA2.c1
  have k0 := hA2.k0 hp
  have k1 := hA2.k1 hp
  have k2 := hA2.k2 hp
  have k3 := hA2.k3 hp
  have zp := hA2.zp
  rw [hy] at k1
  obtain ⟨l, ck, hm, hR⟩ := hA2.m
  have hr2 := hA2.room
  have HR := hid hR
  have HA := hid hA2
  have HM := hid hM
  have HY := hid hy
  have HP := hid hp
  have HU := hid hpf
  have HF2 := hid hf2
  have HL := hid hlen2
  have hdel := fun (W : World) (hW : W.heap[bm]? = some (.map (ents l) ck)) (t' : TypeId) => run_delete (P := Try.prog) (T := 59) Try.underlying59 Try.underlying3 hW p.key t' #[59, 3] rfl
  have HN := hid hdel
  clear hR hA2 hM hp hpf hi hpl2 hf2 he2 hy hlen2 hdel
  go_wp2
  go_quiet (fail)
  go_wp2
  rw [HN.out (w2.drewN nq) hm 0]
  obtain ⟨w3, hw3⟩ : ∃ w3, (w2.drewN nq).putObj bm (.map (ents (del l p.key)) ck) = w3 := ⟨_, rfl⟩
  have hF3 : Fr (fun b => b = bm) w2 w3 := by rw [← hw3]; exact ((Fr.refl (fun b => b = bm) _).drewN _).putObj (fun _ => rfl) _
  have hm3 : w3.heap[bm]? = some (.map (ents (del l p.key)) ck) := by rw [← hw3]; exact heap_putObj_same _ _ _ (by simpa using lt_of_heap hm)
  have g0 := (hF3.cell (p := ⟨bc, 0, none⟩) (lt_of_heap HA.out.c) n2).trans f0
  have g1 := (hF3.cell (p := ⟨bc, 1, none⟩) (lt_of_heap HA.out.c) n2).trans f1
  have j0 := (hF3.cell (p := ⟨bp, i * 4, none⟩) (lt_of_heap HA.out.p) n3).trans k0
  have j1 := (hF3.cell (p := ⟨bp, i * 4 + 1, none⟩) (lt_of_heap HA.out.p) n3).trans k1
  have j2 := (hF3.cell (p := ⟨bp, i * 4 + 2, none⟩) (lt_of_heap HA.out.p) n3).trans k2
  have j3 := (hF3.cell (p := ⟨bp, i * 4 + 3, none⟩) (lt_of_heap HA.out.p) n3).trans k3
  have hp3 := hF3.heap HA.out.p n3
  have hc3 := hF3.heap HA.out.c n2
  have yp := fun o => frozen_of_heap hp3 o
  have HM3 := hid hm3
  have HP3 := hid hp3
  have HC3 := hid hc3
  have hup := fun (W : World) (hW : W.heap[bm]? = some (.map (ents (del l p.key)) ck)) => run_mapUpdate (P := Try.prog) (T := 59) Try.underlying59 Try.underlying3 hW key (.int .i64 i)
  rw [hw3]
  clear hw3 f0 f1 k0 k1 k2 k3 zp hm hp3 hc3
  go_wp2
  go_ret3
  obtain ⟨hnd, hl, hn⟩ := HR.out
  have hfp : find pl2 p.key = some i := (find_iff HA.out.nd _ _).2 ⟨p, HP.out, HU.out, rfl⟩
  have hlk : Sg.look (del l p.key) key = none := by
    rw [look_del hnd, hl, HF2.out]; split <;> rfl
  have hlp : (Sg.look l p.key).isSome = true := by rw [hl, hfp]; rfl
  have hFa : Fr (fun b => b = bc ∨ b = bp ∨ b = bm) w w3 := ((hF1.mono (fun _ _ h => h.elim)).trans hF2 (fun b _ h => h.elim .inl (fun h => .inr (.inl h)))).trans hF3 (fun b _ h => .inr (.inr h))
  refine ⟨by rw [HM.out]; simp [goneK, goneV, HY.out], ?_, (((((hFa.setCell (fun _ => .inr (.inl rfl)) _).setCell (fun _ => .inr (.inl rfl)) _).setCell (fun _ => .inr (.inl rfl)) _).setCell (fun _ => .inr (.inl rfl)) _)).putObj (fun _ => .inr (.inr rfl)) _⟩
  rw [HM.out]
  have hmod := HA.out.hand
  rw [← HL.out] at hmod ⊢
  refine HA.out.place HP.out _ (fun _ => .inr HF2.out) ⟨x, rfl⟩ hmod ?_ ?_ (heap_putObj_same _ _ _ ?_) (nodup_put (nodup_del hnd _) _ _ _) (fun k => ?_) ?_
  · simp only [go_sem, ne_eq, n1.symm, n2.symm, not_false_eq_true]; rw [HC3.out, HL.out]
  · simp only [go_sem, ne_eq, n3.symm, not_false_eq_true]; exact heap_place HP3.out HP.out _ _ _ _ _ rfl
  · simpa using lt_of_heap HM3.out
  · rw [look_put, look_del hnd, hl]
    simp [HU.out]
  · rw [length_put, hlk, length_del, hlp, hn, HU.out]; simp

theorem put_at {w : World} {bc bp bm hand : Nat} {pl : List Pl} (h : AtI w bc bp bm pl hand) (key : Int) (x : ByteArray) :
    Calls Try.prog 10 #[.pointer (some ⟨bc, 0, none⟩), .int .i64 key, .string x] w (PutPost pl hand bc bp bm key (.string x) (.string { data := #[] }) w) := by
  cases hf : find pl key with
  | some i => exact put_there h key x hf
  | none => cases he : empty pl with
    | some i => exact put_free h key x hf he
    | none => exact put_full h key x hf he


theorem get_nil (key : Int) (w : World) : Calls Try.prog 11 #[.pointer none, .int .i64 key] w fun e w' => e = .returned (.tuple #[.string { data := #[] }, .bool false]) ∧ w = w' := by
  go_enter Try.func11, Try.ntmps11
  go_wp2_with fail
  refine (find_nil _ _).mono ?_
  rintro e w' ⟨rfl, rfl⟩
  go_wp2_with fail
  refine (look_nil _ _).mono ?_
  rintro e w' ⟨rfl, rfl⟩
  go_wp2
  go_ret2
  exact ⟨rfl, rfl⟩
theorem put_nil (key : Int) (x : ByteArray) (w : World) : Calls Try.prog 10 #[.pointer none, .int .i64 key, .string x] w fun e w' => e = .returned (.tuple #[.int .i64 0, .string { data := #[] }, .bool false]) ∧ w = w' := by
  go_enter Try.func10, Try.ntmps10
  go_wp2
  go_ret3
  exact ⟨rfl, rfl⟩
theorem len_nil (w : World) : Calls Try.prog 8 #[.pointer none] w fun e w' => e = .returned (.int .i64 0) ∧ w = w' := by
  go_enter Try.func8, Try.ntmps8
  go_wp2
  go_ret
  exact ⟨rfl, rfl⟩
theorem len_at {w : World} {bc bp bm hand : Nat} {pl : List Pl} (h : AtI w bc bp bm pl hand) :
    Calls Try.prog 8 #[.pointer (some ⟨bc, 0, none⟩)] w fun e w' => e = .returned (.int .i64 (pl.countP (·.full))) ∧ w = w' := by
  obtain ⟨l, ck, hm, -, -, hn⟩ := h.m
  have c1 := h.c1
  have hl := Sg.run_len_map (P := Try.prog) (T := 59) Try.underlying59 hm 3 #[59] rfl
  rw [hn] at hl
  clear hn hm h
  go_enter Try.func8, Try.ntmps8
  go_wp2
  go_ret
  exact ⟨rfl, rfl⟩
def got (z : Value) (pl : List Pl) (key : Int) : Value := ((find pl key).bind fun i => (pl[i]?).map (·.v)).getD z
def markM (pl : List Pl) (key : Int) : List Pl := match find pl key with
  | some i => pl.modify i fun p => { p with marked := true }
  | none => pl
def GetPost (pl : List Pl) (hand bc bp bm : Nat) (key : Int) (z : Value) (w : World) (e : Ending) (w' : World) : Prop :=
  e = .returned (.tuple #[got z pl key, .bool (find pl key).isSome]) ∧ AtI w' bc bp bm (markM pl key) hand ∧ Fr (fun b => b = bp) w w'
theorem modify_eq {pl : List Pl} {i : Nat} {p : Pl} (hp : pl[i]? = some p) (f : Pl → Pl) : pl.modify i f = pl.set i (f p) := by
  apply List.ext_getElem?
  intro j
  rw [get_set hp, List.getElem?_modify]
  split
  · rename_i e; subst e; simp [hp]
  · simp
theorem get_at {w : World} {bc bp bm hand : Nat} {pl : List Pl} (h : AtI w bc bp bm pl hand) (key : Int) :
    Calls Try.prog 11 #[.pointer (some ⟨bc, 0, none⟩), .int .i64 key] w (GetPost pl hand bc bp bm key (.string { data := #[] }) w) := by
  have F := hid (find_at h key)
  cases hf : find pl key with
  | none =>
    rw [hf] at F
    have L := hid (look_at h key)
    rw [hf] at L
    have e1 : markM pl key = pl := by simp [markM, hf]
    have e2 : got (.string { data := #[] }) pl key = .string { data := #[] } := by simp [got, hf]
    have E := hid (And.intro e1 (And.intro e2 hf))
    clear e1 e2 hf
    have H := hid h
    clear h
    go_enter Try.func11, Try.ntmps11
    go_wp2_with (first | (go_at_call 27; refine F.out.mono ?_; rintro e w' ⟨rfl, rfl⟩) | (go_at_call 9; refine L.out.mono ?_; rintro e w' ⟨rfl, rfl⟩))
    go_ret2
    exact ⟨by rw [E.out.2.1, E.out.2.2]; rfl, by rw [E.out.1]; exact H.out, Fr.refl _ _⟩
  | some i =>
    rw [hf] at F
    obtain ⟨p, hp, hful, hkey⟩ := find_some hf
    have c3 := h.k3 hp
    have z3 := h.zp (i * 4 + 3)
    have h2 := h.set hp 3 (by omega) (.bool true) { p with marked := true } rfl rfl rfl (show isV p.v from h.vs p (List.mem_of_getElem? hp))
    have L := hid (look_at h2 key)
    have hf2 : find (pl.set i { p with marked := true }) key = some i := by
      rw [find_set h.nd hp { p with marked := true } (fun a => .inl ⟨hful, rfl⟩)]; simp [hful, hkey]
    rw [hf2] at L
    have e1 : markM pl key = pl.set i { p with marked := true } := by simp only [markM, hf]; exact modify_eq hp _
    have e2 : got (.string { data := #[] }) pl key = p.v := by simp [got, hf, hp]
    have e3 := get_set hp { p with marked := true } i
    rw [if_pos rfl] at e3
    have E := hid (And.intro e1 (And.intro e2 (And.intro hf e3)))
    have H2 := hid h2
    clear e1 e2 e3 hf hf2 h2 hp hful hkey h
    go_enter Try.func11, Try.ntmps11
    go_wp2_with (first | (go_at_call 27; refine F.out.mono ?_; rintro e w' ⟨rfl, rfl⟩) | (go_at_call 9; refine L.out.mono ?_; rintro e w' ⟨rfl, rfl⟩))
    go_ret2
    obtain ⟨e1, e2, e3, e4⟩ := E.out
    exact ⟨by rw [e2, e3]; simp [e4], by rw [e1]; exact H2.out, (Fr.refl (fun b => b = bp) _).setCell (fun _ => rfl) _⟩
end CS
end Go.Proofs.Ytfeemnhkdjkgpaa
