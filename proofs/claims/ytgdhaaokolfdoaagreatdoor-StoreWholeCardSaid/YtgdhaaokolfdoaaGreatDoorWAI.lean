/- A pack of texts: GM. Conditions: those that each text names. -/
import Derived.Test.YtgdhaaokolfdoaaGreatDoorWAH
set_option linter.unusedVariables false
set_option linter.unusedSimpArgs false
set_option linter.unnecessarySimpa false
/- leaf.Get of a sector that Build made. Conditions: the leaf is right for the device, the kind and the place are those asked for. -/
namespace Go.Proofs.YtgdhaaokolfdoaaGreatDoor
open Go.RowKit Go.Sg
set_option maxHeartbeats 4000000 in
set_option maxRecDepth 100000 in
theorem leafget_made {w : World} {base d bf bq : Nat} {D : Dev} (h : DevAt w base d bf bq D) (hdown : D.down = false) (hlen : ∀ y ∈ D.loose, y.2.length = D.size) (hmany : D.loose.length ≤ 100000) (at_ : Nat) (hat : at_ < D.sectors)
    (kind place stamp : Nat) (load : List Int) (hz : D.sec at_ = buildM D.size kind place stamp load) (hby : ∀ x ∈ load, 0 ≤ x ∧ x < 256) (hk : 1 ≤ kind ∧ kind ≤ 4) (hp : place ≤ 2147483647) (hs : stamp < 9223372036854775808) (hl : load.length + 19 ≤ D.size) :
    Calls Tryz.prog 87 #[.pointer (some ⟨d, 0, none⟩), .int .i64 at_, .int .i64 kind, .int .i64 place] w fun e w' => ∃ la lc, e = .returned (.tuple #[.agg #[.int .i64 kind, .int .i64 place, .int .i64 stamp, .slice la load.length lc], .int .i64 0]) ∧ ByV w' la load.length lc load ∧ Fr (fun _ => False) w w' := by
  obtain ⟨w1, hw1⟩ : ∃ w1, w.alloc (.cells #[.int .i64 0, .int .i64 0, .int .i64 0, .slice none 0 0] 166) = w1 := ⟨_, rfl⟩
  have F1 : Fr (fun _ => False) w w1 := by rw [← hw1]; exact (Fr.refl _ _).alloc _
  have b1 : w1.heap[w.heap.size]? = some (.cells #[.int .i64 0, .int .i64 0, .int .i64 0, .slice none 0 0] 166) := by rw [← hw1]; exact heap_alloc_new _ _
  have HR := hid (devread_ok (h.fr F1 (fun h => h) (fun h => h) (fun h => h) (fun _ _ _ _ _ h => h)) hdown hlen hmany at_ hat)
  have hr := h.rg.2
  have HZ := hid hz
  have HW1 := hid hw1
  have HB1 := hid (And.intro F1 b1)
  have HN := hid (And.intro hby (And.intro hk (And.intro hp (And.intro hs hl))))
  clear h hw1 F1 b1 hz hdown hlen hmany hby hk hp hs hl
  go_enter Tryz.func87, Tryz.ntmps87
  go_wp2_with fail
  rw [HW1.out]
  refine HR.out.mono ?_
  rintro e w2 ⟨a, c, rfl, hb, F2⟩
  rw [HZ.out] at hb
  have HLR := hid (leafread_made hb HN.out.1 (by omega) (by omega) HN.out.2.1 HN.out.2.2.1 HN.out.2.2.2.1 HN.out.2.2.2.2)
  have HF2 := hid F2
  clear hb F2
  go_wp2_with fail
  refine HLR.out.mono ?_
  rintro e w3 ⟨la, lc, rfl, hb3, F3⟩
  have F13 := HF2.out.trans F3 (fun _ _ h => h)
  have HBL := hid hb3
  have hx3 := F13.heap HB1.out.2 (fun h => h)
  have e0 := cell_of_heap hx3 0
  have e1 := cell_of_heap hx3 1
  have e2 := cell_of_heap hx3 2
  have e3 := cell_of_heap hx3 3
  have z := fun o => frozen_of_heap hx3 o
  simp at e0 e1 e2 e3
  have lt := lt_of_heap hx3
  have HG := hid (And.intro (HB1.out.1.trans F13 (fun _ _ h => h)) hx3)
  have HBL := hid hb3
  have ne1 : ¬ w3.heap.size = w.heap.size := by omega
  have ne2 : ¬ w.heap.size = w3.heap.size := by omega
  clear hx3 F13 F3 hb3
  go_wp2
  refine bodyPost_ret (v := .tuple #[.agg #[.int .i64 kind, .int .i64 place, .int .i64 stamp, .slice la load.length lc], .int .i64 0]) (by simp [results, go_sem, *]) rfl ⟨la, lc, rfl, ?_, ?_⟩
  · exact (HBL.out.fr (S := fun b => b = w.heap.size) (((((Fr.refl (fun b => b = w.heap.size) _).setCell (a := ⟨w.heap.size, 0, none⟩) (fun _ => rfl) _).setCell (a := ⟨w.heap.size, 1, none⟩) (fun _ => rfl) _).setCell (a := ⟨w.heap.size, 2, none⟩) (fun _ => rfl) _).setCell (a := ⟨w.heap.size, 3, none⟩) (fun _ => rfl) _) (fun b c hc e => by rw [e, HG.out.2] at hc; cases hc)).fr ((Fr.refl (fun _ => False) _).alloc _) (fun _ _ _ h => h)
  · exact ((((HG.out.1.setNew (Nat.le_refl _) _).setNew (Nat.le_refl _) _).setNew (Nat.le_refl _) _).setNew (Nat.le_refl _) _).alloc _
end Go.Proofs.YtgdhaaokolfdoaaGreatDoor
