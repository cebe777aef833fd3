/- plan: bounds, within. Conditions: none. -/
import Derived.Test.YtgdhaaokolfdoaaGreatDoorSt
import Derived.Deep.MidRow
import Derived.Outline
import Derived.Deep.Cut
namespace Go.Sg
open Go.RowKit
theorem Fr.setCells {S : Nat → Prop} {w : World} {b : Nat} (hb : w.heap.size ≤ b) (vs : List Value) : ∀ (o : Nat) (w1 : World), Fr S w w1 → Fr S w (w1.setCells b o vs) := by
  induction vs with
  | nil => intro o w1 h; exact h
  | cons v vs ih => intro o w1 h; exact ih (o + 1) _ (h.setNew hb v)
theorem results_cell_mid {P : Program} {fn : Func} {p : Tmp} {ty : TypeId} (h : fn.results = #[.cell p ty]) (tmps : Array Value) (w : World) (g : Nat) (cs : List Value) (d : TypeDesc)
    (hp : tmps.getD p undef = .pointer (some ⟨g, 0, none⟩)) (hg : w.rangeAt g 0 cs) (hu : P.underlying ty = some d) (hd : d.isRow = true) (hi : (P.info? ty).map (·.size) = some cs.length) :
    (results fn tmps).run P w = .ok (.agg cs.toArray) w := by
  have hp' : tmps[p]?.getD undef = .pointer (some ⟨g, 0, none⟩) := by simpa using hp
  have h1 := run_loadVar_mid w g 0 ty cs d hg hu hd hi
  simp [results, h, hp', asAddr, h1]
end Go.Sg
namespace Go.Proofs.YtgdhaaokolfdoaaGreatDoor
open Go.RowKit Go.Sg
abbrev bndL (p : Plan8) : List Value := [.int .i64 p.size, .int .i64 96, .int .i64 512, .int .i64 p.sectors, .int .i64 1, .int .i64 16384, .int .i64 p.regions, .int .i64 3, .int .i64 64, .int .i64 p.rsectors, .int .i64 1, .int .i64 32, .int .i64 p.log, .int .i64 4, .int .i64 256, .int .i64 p.depth, .int .i64 0, .int .i64 8, .int .i64 p.memory, .int .i64 8, .int .i64 256]
theorem Tryz.size327 : (Tryz.prog.info? 327).map (·.size) = some 21 := by kernel_rfl
abbrev zeros21 : Array Value := #[.int .i64 0, .int .i64 0, .int .i64 0, .int .i64 0, .int .i64 0, .int .i64 0, .int .i64 0, .int .i64 0, .int .i64 0, .int .i64 0, .int .i64 0, .int .i64 0, .int .i64 0, .int .i64 0, .int .i64 0, .int .i64 0, .int .i64 0, .int .i64 0, .int .i64 0, .int .i64 0, .int .i64 0]
theorem there_new (w : World) (c : Array Value) (t : TypeId) (n : Nat) (hn : n ≤ c.size) : (w.alloc (.cells c t)).there w.heap.size 0 n := by
  intro j hj
  have h := heap_alloc_new w (.cells c t)
  refine ⟨?_, frozen_of_heap h _⟩
  rw [cell_of_heap h]
  simp; omega
set_option maxRecDepth 100000 in
set_option maxHeartbeats 2000000 in
theorem bounds_ok (p : Plan8) (w : World) : Calls Tryz.prog 222 #[p.val] w fun e w' => e = .returned (.agg (bndL p).toArray) ∧ Fr (fun _ => False) w w' := by
  obtain ⟨a, b, c, d, f, g, h, s⟩ := p
  obtain ⟨W, hW⟩ : ∃ W, (w.alloc (.cells #[.int .i64 a, .int .i64 b, .int .i64 c, .int .i64 d, .int .i64 f, .int .i64 g, .int .i64 h, .int .u64 s] 31)).alloc (.cells zeros21 327) = W := ⟨_, rfl⟩
  obtain ⟨b0, b1, F1⟩ := heap_two hW
  have hs1 : w.heap.size + 1 < W.heap.size := lt_of_heap b1
  have ht : W.there (w.heap.size + 1) 0 21 := by
    intro j hj
    refine ⟨?_, frozen_of_heap b1 _⟩
    rw [cell_of_heap b1]
    simp; omega
  have HT := hid ht
  obtain ⟨w9, hw9⟩ : ∃ w9, W.setCells (w.heap.size + 1) 0 (bndL ⟨a, b, c, d, f, g, h, s⟩).toArray.toList = w9 := ⟨_, rfl⟩
  have hr9 : w9.rangeAt (w.heap.size + 1) 0 (bndL ⟨a, b, c, d, f, g, h, s⟩) := by
    rw [← hw9]
    exact World.rangeAt_setCells_same _ _ _ _ ht
  have F9 : Fr (fun _ => False) w w9 := by
    rw [← hw9]
    exact Fr.setCells (by omega) _ _ _ F1
  have c0 := cell_of_heap b0 0
  have c1 := cell_of_heap b0 1
  have c2 := cell_of_heap b0 2
  have c3 := cell_of_heap b0 3
  have c4 := cell_of_heap b0 4
  have c5 := cell_of_heap b0 5
  have c6 := cell_of_heap b0 6
  simp at c0 c1 c2 c3 c4 c5 c6
  have HR := hid hr9
  have HF := hid F9
  have HW := hid hW
  have HW9 := hid hw9
  clear ht hw9 hr9 F9 hs1 hW b0 b1 F1
  go_enter Tryz.func222, Tryz.ntmps222
  go_upto_region 1 with (fail)
  simp only [HW.out]
  iterate 100 (first | (refine wpList_store_mid (by rfl) 327 (.tmp 2) (.tmp 24) (by rfl) (w.heap.size + 1) 0 (bndL ⟨a, b, c, d, f, g, h, s⟩).toArray (by rfl) (by rfl) HT.out (by rw [Tryz.size327]; rfl) (by simp [Value.oneCell']) ?_) | go_step | skip)
  have e9 : W.setCells (w.heap.size + 1) 0 (bndL ⟨a, b, c, d, f, g, h, s⟩) = w9 := HW9.out
  rw [e9]
  exact bodyPost_ret (v := .agg (bndL ⟨a, b, c, d, f, g, h, s⟩).toArray) (results_cell_mid rfl _ _ (w.heap.size + 1) (bndL ⟨a, b, c, d, f, g, h, s⟩) _ rfl HR.out Tryz.underlying327 rfl (by rw [Tryz.size327]; rfl)) rfl ⟨rfl, HF.out⟩
end Go.Proofs.YtgdhaaokolfdoaaGreatDoor
