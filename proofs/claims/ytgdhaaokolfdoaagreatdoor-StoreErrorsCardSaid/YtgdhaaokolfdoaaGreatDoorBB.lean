/- The set of bits: All, whole. Conditions: the set lies in the world as BitsAt says, the library's table as its text lays it. -/
import Derived.Test.YtgdhaaokolfdoaaGreatDoorBA
import Derived.Test.YtgdhaaokolfdoaaGreatDoorLib2
namespace Go.Proofs.YtgdhaaokolfdoaaGreatDoor
open Go.RowKit Go.Sg Go.Sg.Bits Go.Shelf
attribute [local go_sem] Oper.semAt_some
theorem Tryz.info3 : (Tryz.prog.info? 3).map (fun i => (i.zero, i.size, i.bytes)) = some (some (.int .i64 0), 1, 8) := by kernel_rfl
theorem all_nil (w : World) : Calls Tryz.prog 100 #[.pointer none] w fun e w' => e = .returned (.slice none 0 0) ∧ Fr (fun _ => False) w w' := by
  refine (callsIn_wide (n := 10)).1 ?_
  refine callsIn_of_wp_marks Tryz.func100 rfl trivial ?_ rfl
  simp only [Tryz.ntmps100, List.size_toArray, List.length_cons, List.length_nil, Nat.reduceAdd, Nat.reduceSub, Array.replicate_succ, Array.replicate_zero, List.push_toArray, List.append_toArray, List.nil_append, List.cons_append]
  gi_wp2
  exact nomarks_ret1 rfl ⟨rfl, (Fr.refl _ _).alloc _⟩
def HoldsT (w : World) (pre : List Int) (W : World) : Prop :=
  ∃ v, Boxed W w.heap.size 52 v ∧ W.ownsRow w.heap.size 3 1 v pre.length (pre.map (fun x => Value.int .i64 x)) ∧ True
set_option maxRecDepth 100000 in
set_option maxHeartbeats 2000000 in
theorem all_raw {w : World} {bs bw n hand : Nat} {ws : List Nat} (h : BRaw w bs bw n hand ws) (hT : Tab w) :
    Calls Tryz.prog 100 #[.pointer (some ⟨bs, 0, none⟩)] w fun e w' => ∃ v, e = .returned v ∧ Ints w' v (tu (bit ws) (64 * ws.length)) ∧ Fr (fun _ => False) w w' := by
  obtain ⟨i0, hi0, hz0, hz1, hz2⟩ := info_parts Tryz.info3
  refine (callsIn_wide (n := 10)).1 ?_
  have hr := h.room
  have hl := h.len
  have F := hid (taken_any (some ⟨bs, 0, none⟩) (w.alloc (.cells #[.slice none 0 0] 52)))
  refine callsIn_of_wp_marks Tryz.func100 rfl trivial ?_ rfl
  simp only [Tryz.ntmps100, List.size_toArray, List.length_cons, List.length_nil, Nat.reduceAdd, Nat.reduceSub, Array.replicate_succ, Array.replicate_zero, List.push_toArray, List.append_toArray, List.nil_append, List.cons_append]
  gi_wp2_with (gi_at_call 162; refine (callsIn_wide.2 F.out).mono ?_; rintro e w' ⟨rfl, rfl⟩)
  obtain ⟨W0, hW0⟩ : ∃ W0, (w.alloc (.cells #[.slice none 0 0] 52)).alloc (.cells #[.pointer (some ⟨bs, 0, none⟩)] 152) = W0 := ⟨_, rfl⟩
  have hF0 : Fr (fun _ => False) w W0 := by rw [← hW0]; exact ((Fr.refl _ w).alloc _).alloc _
  have hsz : W0.heap.size = w.heap.size + 1 + 1 := by rw [← hW0]; simp
  have hnx : W0.heap[w.heap.size]? = some (.cells #[.slice none 0 0] 52) := by rw [← hW0]; exact (heap_alloc_lt _ _ _ (by simp)).trans (heap_alloc_new _ _)
  have hbx : W0.cell? ⟨w.heap.size + 1, 0, none⟩ = some (.pointer (some ⟨bs, 0, none⟩)) := by rw [← hW0]; simp [go_sem]
  have h0 := h.fr hF0 (fun h => h) (fun h => h)
  have hT0 := hT.fr hF0 (fun h => h)
  have hbp := lt_of_heap h0.w_
  have hl0 := hT0.lt
  have hlT := hT.lt
  have hlw := lt_of_heap h.w_
  simp only [hW0]
  refine wpIn_rangeFunc_ownG (F := Fence.wide) rfl (by omega) (gf := 224) (lb := #[.pointer (some ⟨w.heap.size + 1, 0, none⟩)]) rfl trivial (enters_of Tryz.func224 (by kernel_rfl) rfl)
    (takenf_stops h0 hT0 hbx) (fun h k => ⟨k.1.trans h.1, k.2.trans h.2⟩) (fun W l o o' hl _ _ _ => ⟨heap_putObj_ne _ _ _ _ (by omega), heap_putObj_ne _ _ _ _ (by omega)⟩) (Below.refl _ _) (fun _ => rfl)
    (fun pre W => HoldsT w pre W ∧ Fr (fun _ => False) w W)
    (fun _ _ _ => False)
    (own_and ((holdsRow_own w.heap.size w.heap.size 52 3 1 (fun pre : List Int => pre.length) (fun pre => pre.map (fun x => Value.int .i64 x)) (fun _ _ => True)).from _) (own_fr (by omega)))
    (fun _ _ _ _ _ h => h.elim)
    ⟨⟨_, hnx, World.ownsRow_nil _ _ _ _, trivial⟩, hF0⟩
    (fun x => { tmps := #[.pointer (some ⟨bs, 0, none⟩), undef, .slice none 0 0, .pointer (some ⟨w.heap.size, 0, none⟩), .int .i64 x, .pointer (some ⟨bs, 0, none⟩), .bool false, .pointer (some ⟨bs, 0, none⟩), .func (.func 224) #[] #[.pointer (some ⟨w.heap.size + 1, 0, none⟩)], .int .i64 x, undef, undef, undef, undef, undef], defers := [] }) ?assign ?body ?done ?stop
  case assign =>
    intro l x W K hK
    gi_wp2
    exact hK
  case body =>
    rintro l pre x W ⟨⟨v, hv, hown, -⟩, hF⟩ hlen
    have e0 := hv.cell
    have e1 := hv.frozen
    have l1 := hv.lt
    have hsW := hF.size
    have HV := hid hv
    have HO := hid hown
    clear hv hown h0 hnx hbx
    gi_wp2_with (gi_at_builtin; refine wpListIn_append_own _ rfl (.tmp 10) (.tmp 12) 52 rfl w.heap.size 3 i0 _ 1 8 Tryz.underlying52 hi0 hz0 hz1 hz2 rfl (by decide) _ _ _ rfl (HO.out.alloc _) ⟨W.heap.size, 0, none⟩ 1 1 [.int .i64 x] rfl rfl (cell_one_new _ _ _) (by simp [Value.oneCell']) ?c3 ?c4 ?c5 ?_)
    case c3 => simp [maxLen]; omega
    case c4 => omega
    case c5 => simp; omega
    intro v1 w2 hown2 hgrow hnil
    obtain ⟨g, cap, rfl⟩ := ownsRow_succ hown2
    obtain ⟨d1, d2, d3, d4, d5⟩ := HV.out.appended (by decide) HO.out hsW (Nat.le_refl _) hown2 hgrow
    have f0 := d1.cell
    have f1 := d1.frozen
    have D2 := hid d2
    have D3 := hid d3
    clear hown2 hgrow hnil d1 d2 d3
    gi_wp2
    refine ⟨d4.from _, ⟨d5.block _ (by omega), d5.block _ (by omega)⟩, ⟨_, D2.out, by simpa using D3.out, trivial⟩, ?_⟩
    exact ⟨d5.os.trans hF.os, d5.tape.trans hF.tape, d5.output.trans hF.output, Nat.le_trans hF.size d5.size, fun b hb hn => (d5.block b hb).trans (hF.block b hb hn)⟩
  case done =>
    rintro D ys W hD rfl ⟨⟨v, hv, hown, -⟩, hF⟩ hK
    have e0 := hv.cell
    have HO := hid hown
    clear hown hv h0 hnx hbx
    gi_wp2
    have hI := ownsRow_putObj HO.out (.deferred none) hK rfl
    refine marks_ret1 (t := 2) rfl hK ⟨v, rfl, ints_of_own (base := w.heap.size) (e := 3) (by simpa [Function.comp_def] using hI), hF.putObj (fun hh => by omega) _⟩
  case stop => exact fun _ _ _ _ _ _ h => h.elim
theorem all_at {w : World} {bs bw n hand : Nat} {t : Nat → Bool} (h : BitsAt w bs bw n hand t) (hT : Tab w) :
    Calls Tryz.prog 100 #[.pointer (some ⟨bs, 0, none⟩)] w fun e w' => ∃ v, e = .returned v ∧ Ints w' v (tu t n) ∧ Fr (fun _ => False) w w' := by
  obtain ⟨ws, h, ht⟩ := h
  have e1 : bit ws = t := funext ht
  have hl := h.len
  have e2 : tu t (64 * ws.length) = tu t n := by
    have := tu_skip t n (64 * ws.length - n) (fun i h1 h2 => by rw [← ht]; exact h.pad i h1)
    rw [← this]; congr 1; omega
  refine (all_raw h hT).mono fun e w' ⟨v, he, hI, hF⟩ => ⟨v, he, ?_, hF⟩
  rw [e1, e2] at hI
  exact hI
end Go.Proofs.YtgdhaaokolfdoaaGreatDoor
