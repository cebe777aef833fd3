/- Keys of the clock of int. Conditions: the clock lies in the world as AtI says. -/
import Derived.Test.YtfeemnhkdjkgpaaR8
import Derived.RangeFuncBox
import Derived.RangeFuncNested
namespace Go.Proofs.Ytfeemnhkdjkgpaa
open Go.RowKit Go.Sg Go.Sg.Clk Go.Shelf
attribute [local go_sem] Oper.semAt_some

def toI : Value → Int
  | .int _ x => x
  | _ => 0
abbrev encQ (x : Nat × Pl) : Array Value := #[.int .i64 x.1, .agg #[.int .i64 x.2.key, .int .i64 (toI x.2.v), .bool x.2.full, .bool x.2.marked]]

set_option maxRecDepth 100000 in
set_option maxHeartbeats 2000000 in
theorem fullq_stops {w : World} {bc bp bm hand bx : Nat} {pl : List Pl} (h : CI.AtI w bc bp bm pl hand) (hx : w.cell? ⟨bx, 0, none⟩ = some (.pointer (some ⟨bc, 0, none⟩))) :
    SeqStopsK Fence.wide 9 Try.prog 37 #[.pointer (some ⟨bx, 0, none⟩)] encQ (fun W W' => W'.heap[bp]? = W.heap[bp]?) (fun xs => xs = fullAt pl.length pl) (fun pre => pre <+: fullAt pl.length pl) pl.length w := fun l J Jx W hW hJ _ hY h0 => by
  have hr := h.room
  have hbp := lt_of_heap h.p
  have hx' := (hW.cell (p := ⟨bx, 0, none⟩) (World.block_lt_of_cell? _ _ hx)).trans hx
  have hc0 := (hW.cell (p := ⟨bc, 0, none⟩) (lt_of_heap h.c)).trans (cell_of_heap h.c 0)
  simp at hc0
  have hp := (hW.block bp hbp).trans h.p
  clear hx hW
  refine callsIn_of_wp Try.func37 rfl trivial ?_ rfl
  simp only [Try.ntmps37, List.size_toArray, List.length_cons, List.length_nil, Nat.reduceAdd, Nat.reduceSub, Array.replicate_succ, Array.replicate_zero, List.push_toArray, List.append_toArray, List.nil_append, List.cons_append]
  gi_wp2
  gi_loopw [10] (fun i wr => ∃ k : Nat, k ≤ pl.length ∧ i = .int .i64 k ∧ J (fullAt k pl) wr ∧ wr.heap[bp]? = some (.cells (cellsOf pl) 72)) (fun i _ => pl.length - (intOf i).toNat)
  case atStart => exact ⟨0, Nat.zero_le _, rfl, h0, hp⟩
  case round =>
    obtain ⟨k, hk, rfl, hJs, hps⟩ := hrel
    by_cases hlt : k < pl.length
    · obtain ⟨⟨key, v, ful, mk⟩, hp⟩ : ∃ p, pl[k]? = some p := ⟨_, List.getElem?_eq_getElem hlt⟩
      obtain ⟨x, rfl⟩ : ∃ x : Int, v = .int .i64 x := h.vs _ (List.mem_of_getElem? hp)
      have c0 := cell_of_heap hps (k * 4 + 0)
      have c1 := cell_of_heap hps (k * 4 + 1)
      have c2 := cell_of_heap hps (k * 4 + 2)
      have c3 := cell_of_heap hps (k * 4 + 3)
      rw [cells_get hp _ (by omega)] at c0 c1 c2 c3
      simp [Pl.cells] at c0 c1 c2 c3
      have hs := fullAt_succ k pl _ hp
      have HS := hid hs
      have HP := hid hps
      have hbw := lt_of_heap hps
      clear hs hps hp
      cases ful with
      | false =>
        gi_wp2
        go_roundw
        case rel => exact ⟨k + 1, by omega, by simp, by rw [HS.out]; exact hJ _ _ _ none hJs (World.grownBy_alloc _ _ _) (fun r e => by cases e), (heap_alloc_lt _ _ _ hbw).trans HP.out⟩
        case measure => simp [intOf]; omega
      | true =>
        obtain ⟨fn, tmps, assign, body, hy, hR⟩ := hY _ (k, ⟨key, .int .i64 x, true, mk⟩) (wr.alloc (.cells #[.int .i64 key, .int .i64 x, .bool true, .bool mk] 72)) (hJ _ _ _ none hJs (World.grownBy_alloc _ _ _) (fun r e => by cases e)) (Nat.lt_of_le_of_lt (fullAt_len _ _) hlt)
        dsimp only [encQ, toI] at hy
        gi_wp2
        refine hR.mono ?_
        rintro e W3 (⟨rfl, hJ3, hk3⟩ | ⟨rfl, hJx3⟩)
        · gi_wp2
          go_roundw
          case rel => exact ⟨k + 1, by omega, by simp, by rw [HS.out]; exact hJ3, (hk3.trans (heap_alloc_lt _ _ _ hbw)).trans HP.out⟩
          case measure => simp [intOf]; omega
        · gi_wp2
          refine bodyPost_ret (results_none rfl _ _ _) rfl ?_
          exact ⟨⟨_, rfl⟩, .inr ⟨_, (by have := fullAt_prefix pl (k + 1) pl.length (by omega) (Nat.le_refl _); rw [HS.out] at this; exact this), hJx3⟩⟩
    · obtain rfl : k = pl.length := by omega
      gi_wp2
      go_end0
      exact ⟨⟨_, rfl⟩, .inl ⟨_, rfl, hJs⟩⟩

def HoldsKeys (w : World) (pre : List (Nat × Pl)) (W : World) : Prop :=
  ∃ v, Boxed W w.heap.size 52 v ∧ W.ownsRow w.heap.size 3 1 v pre.length (pre.map (fun x => Value.int .i64 x.2.key)) ∧ True

set_option maxRecDepth 100000 in
set_option maxHeartbeats 2000000 in
theorem keys_at {w : World} {bc bp bm hand : Nat} {pl : List Pl} (h : CI.AtI w bc bp bm pl hand) :
    Calls Try.prog 26 #[.pointer (some ⟨bc, 0, none⟩)] w fun e w' => ∃ v, e = .returned v ∧ Ints w' v (keysOf pl.length pl) ∧ Fr (fun _ => False) w w' := by
  obtain ⟨i0, hi0, hz0, hz1, hz2⟩ := info_parts Try.info3
  refine (callsIn_wide (n := 10)).1 ?_
  have hr := h.room
  have F := hid (CI.full_any (some ⟨bc, 0, none⟩) (w.alloc (.cells #[.slice none 0 0] 52)))
  refine callsIn_of_wp_marks Try.func26 rfl trivial ?_ rfl
  simp only [Try.ntmps26, List.size_toArray, List.length_cons, List.length_nil, Nat.reduceAdd, Nat.reduceSub, Array.replicate_succ, Array.replicate_zero, List.push_toArray, List.append_toArray, List.nil_append, List.cons_append]
  gi_wp2_with (gi_at_call 35; refine (callsIn_wide.2 F.out).mono ?_; rintro e w' ⟨rfl, rfl⟩)
  obtain ⟨W0, hW0⟩ : ∃ W0, (w.alloc (.cells #[.slice none 0 0] 52)).alloc (.cells #[.pointer (some ⟨bc, 0, none⟩)] 35) = W0 := ⟨_, rfl⟩
  have hF0 : Fr (fun _ => False) w W0 := by rw [← hW0]; exact ((Fr.refl _ w).alloc _).alloc _
  have hsz : W0.heap.size = w.heap.size + 1 + 1 := by rw [← hW0]; simp
  have hnx : W0.heap[w.heap.size]? = some (.cells #[.slice none 0 0] 52) := by rw [← hW0]; exact (heap_alloc_lt _ _ _ (by simp)).trans (heap_alloc_new _ _)
  have hbx : W0.cell? ⟨w.heap.size + 1, 0, none⟩ = some (.pointer (some ⟨bc, 0, none⟩)) := by rw [← hW0]; simp [go_sem]
  have h0 : CI.AtI W0 bc bp bm pl hand := h.fr hF0 (fun h => h) (fun h => h) (fun h => h)
  have hbp := lt_of_heap h0.p
  simp only [hW0]
  refine wpIn_rangeFunc_ownH (F := Fence.wide) rfl (by omega) (gf := 37) (lb := #[.pointer (some ⟨w.heap.size + 1, 0, none⟩)]) rfl trivial (enters_of Try.func37 (by kernel_rfl) rfl)
    (fullq_stops h0 hbx) (fun h k => k.trans h) (fun W l o o' hl _ _ _ => heap_putObj_ne _ _ _ _ (by omega)) (Below.refl _ _) (fun _ => rfl)
    (fun pre W => HoldsKeys w pre W ∧ Fr (fun _ => False) w W)
    (fun _ _ _ => False)
    (own_and ((holdsRow_own w.heap.size w.heap.size 52 3 1 (fun pre : List (Nat × Pl) => pre.length) (fun pre => pre.map (fun x => Value.int .i64 x.2.key)) (fun _ _ => True)).from _) (own_fr (by omega)))
    (fun _ _ _ _ _ h => h.elim)
    ⟨⟨_, hnx, World.ownsRow_nil _ _ _ _, trivial⟩, hF0⟩
    (fun x a' W => ∃ bx, (a' = { tmps := #[.pointer (some ⟨bc, 0, none⟩), undef, .slice none 0 0, .pointer (some ⟨w.heap.size, 0, none⟩), undef, .pointer (some ⟨bx, 0, none⟩), .pointer (some ⟨bc, 0, none⟩), .bool false, .pointer (some ⟨bc, 0, none⟩), .func (.func 37) #[] #[.pointer (some ⟨w.heap.size + 1, 0, none⟩)], .int .i64 x.1, .agg #[.int .i64 x.2.key, .int .i64 (toI x.2.v), .bool x.2.full, .bool x.2.marked], undef, undef, undef, undef, undef, undef], defers := [] } ∧ w.heap.size ≤ bx) ∧ W.heap[bx]? = some (.cells #[.int .i64 x.2.key, .int .i64 (toI x.2.v), .bool x.2.full, .bool x.2.marked] 72))
    (fun x a' => own_ex fun bx => own_and (own_pure _ _) (own_block _ _ _ (fun _ => .inl rfl)))
    ?assign ?body ?done ?stop
  case assign =>
    intro l pre x W K hI hK
    gi_wp2
    obtain ⟨⟨v, hv, hown, -⟩, hF⟩ := hI
    exact hK _ _ ((KeepsOthers.alloc _ _).from _) (heap_alloc_lt _ _ _ (Nat.lt_of_lt_of_le (lt_of_heap h.p) hF.size)) ⟨⟨v, hv.alloc _, hown.alloc _, trivial⟩, hF.alloc _⟩ ⟨W.heap.size, ⟨rfl, hF.size⟩, heap_alloc_new _ _⟩
  case body =>
    rintro l pre x a' W hl - ⟨⟨v, hv, hown, -⟩, hF⟩ ⟨bx, ⟨rfl, hbx'⟩, hbc⟩ hlen
    obtain ⟨c0, c1, c2, c3, z0, l0⟩ := cells4 hbc
    have e0 := hv.cell
    have e1 := hv.frozen
    have l1 := hv.lt
    have hsW := hF.size
    have HV := hid hv
    have HO := hid hown
    clear hv hown hbc h0 hnx hbx
    gi_wp2_with (gi_at_builtin; refine wpListIn_append_own _ rfl (.tmp 12) (.tmp 15) 52 rfl w.heap.size 3 i0 _ 1 8 Try.underlying52 hi0 hz0 hz1 hz2 rfl (by decide) _ _ _ rfl (HO.out.alloc _) ⟨W.heap.size, 0, none⟩ 1 1 [.int .i64 x.2.key] rfl rfl (cell_one_new _ _ _) (by simp [Value.oneCell']) ?c3 ?c4 ?c5 ?_)
    case c3 => simp [maxLen]; omega
    case c4 => omega
    case c5 => simp; omega
    intro v1 w2 hown2 hgrow hnil
    obtain ⟨g, cap, rfl⟩ := ownsRow_succ hown2
    obtain ⟨d1, d2, d3, d4, d5⟩ := HV.out.appended (by decide) HO.out hsW (Nat.le_refl _) hown2 hgrow
    have f0 := d1.cell
    have f1 := d1.frozen
    have D2 := hid d2
    have D3 := hid d3
    clear hown2 hgrow hnil d1 d2 d3
    gi_wp2
    refine ⟨d4.from _, d5.block _ (lt_of_heap h.p), ⟨_, D2.out, by simpa using D3.out, trivial⟩, ?_⟩
    exact ⟨d5.os.trans hF.os, d5.tape.trans hF.tape, d5.output.trans hF.output, Nat.le_trans hF.size d5.size, fun b hb hn => (d5.block b hb).trans (hF.block b hb hn)⟩
  case done =>
    rintro D ys W hD rfl ⟨⟨v, hv, hown, -⟩, hF⟩ hK
    have e0 := hv.cell
    have HO := hid hown
    clear hown hv h0 hnx hbx
    gi_wp2
    have hI := ownsRow_putObj HO.out (.deferred none) hK rfl
    refine marks_ret1 (t := 2) rfl hK ⟨v, rfl, ints_of_own (base := w.heap.size) (e := 3) (by simpa [keysOf, Function.comp_def] using hI), hF.putObj (fun hh => by omega) _⟩
  case stop => exact fun _ _ _ _ _ _ h => h.elim
end Go.Proofs.Ytfeemnhkdjkgpaa
