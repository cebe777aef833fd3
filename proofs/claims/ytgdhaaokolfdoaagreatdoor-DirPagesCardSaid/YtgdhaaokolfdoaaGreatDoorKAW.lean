/- A pack of texts: PB. Conditions: those that each text names. -/
import Derived.Test.YtgdhaaokolfdoaaGreatDoorKAU
import Derived.Test.YtgdhaaokolfdoaaGreatDoorKAV
import Derived.Deep.RegionWith
set_option linter.unusedVariables false
set_option linter.unusedSimpArgs false
set_option linter.unnecessarySimpa false
/- The store: Parts. Conditions: the store lies in the world as StoreAt says. -/
namespace Go.Proofs.YtgdhaaokolfdoaaGreatDoor
open Go.RowKit Go.Sg Go.Sg.Bits Go.Sg.Clk CP
theorem _root_.Go.Sg.Ints.frL {w w' : World} {v : Value} {ks : List Int} (h : Ints w v ks) {k : Nat} (F : Fr (fun b => b = k) w w') {cs : Array Value} {t : TypeId} (hk : w.heap[k]? = some (.cells cs t)) (ht : cs.all (fun c => match c with | .int .i64 _ => false | _ => true) = true) : Ints w' v ks := by
  obtain ⟨a, cap, e, h⟩ := h
  refine ⟨a, cap, e, fun i x hx => ?_⟩
  obtain ⟨g, ha, hl, hc⟩ := h i x hx
  have : ¬ g = k := by
    rintro rfl
    rw [cell_of_heap hk] at hc
    have h2 := (Array.all_eq_true (p := _)).1 ht i (Array.getElem?_eq_some_iff.1 hc).1
    have h3 := (Array.getElem?_eq_some_iff.1 hc).2
    rw [h3] at h2
    simp at h2
  exact ⟨g, ha, Nat.lt_of_lt_of_le hl F.size, (F.cell (p := ⟨g, i, none⟩) hl this).trans hc⟩
namespace SF
theorem parts_nil (w : World) : Calls Tryz.prog 32 #[.pointer none] w fun e w' => e = .returned (.agg #[.slice none 0 0, .slice none 0 0, .slice none 0 0, .slice none 0 0]) ∧ Fr (fun _ => False) w w' := by
  go_enter Tryz.func32, Tryz.ntmps32
  go_wp2
  refine bodyPost_ret (v := .agg #[.slice none 0 0, .slice none 0 0, .slice none 0 0, .slice none 0 0]) (by simp [results, go_sem, *]) rfl ⟨rfl, (Fr.refl _ _).alloc _⟩
/-- What Parts tells. -/
def PartsPost (x : Sto) (w : World) (e : Ending) (w' : World) : Prop :=
  ∃ v0 v1 v2 v3 L1 L2 L3, e = .returned (.agg #[v0, v1, v2, v3]) ∧ Ints w' v0 (tu x.taken x.pages) ∧ Ints w' v1 L1 ∧ Ints w' v2 L2 ∧ Ints w' v3 L3 ∧ (RowOf x.fresh L1 ∧ RowOf x.dying L2 ∧ RowOf x.dead L3) ∧ Fr (fun _ => False) w w'
set_option maxHeartbeats 4000000 in
theorem parts_at {w : World} {B : Blk} {x : Sto} (h : StoreAt w B x) (hT : Tab w) : Calls Tryz.prog 32 #[B.ptr] w (PartsPost x w) := by
  obtain ⟨w1, hw1⟩ : ∃ w1, w.alloc (.cells #[.slice none 0 0, .slice none 0 0, .slice none 0 0, .slice none 0 0] 54) = w1 := ⟨_, rfl⟩
  have F1 : Fr (fun _ => False) w w1 := by rw [← hw1]; exact (Fr.refl _ _).alloc _
  have b1 : w1.heap[w.heap.size]? = some (.cells #[.slice none 0 0, .slice none 0 0, .slice none 0 0, .slice none 0 0] 54) := by rw [← hw1]; exact heap_alloc_new _ _
  have h1 := h.fr0 F1
  have hT1 := hT.fr F1 (fun h => h)
  have hpg := h.bits.room.1.2
  have nsb : ¬ w.heap.size = B.s := by have := h.sc.lt; omega
  have HA := hid (fun W (F : Fr (fun _ => False) w1 W) => all_at (h1.bits.fr F (fun h => h) (fun h => h)) (hT1.fr F (fun h => h)))
  have HR1 := hid (fun W (F : Fr (fun _ => False) w1 W) => row_at (h1.fr.fr F (fun h => h)) hpg h1.inr.1)
  have HR2 := hid (fun W (F : Fr (fun _ => False) w1 W) => row_at (h1.dy.fr F (fun h => h)) hpg h1.inr.2.1)
  have HR3 := hid (fun W (F : Fr (fun _ => False) w1 W) => row_at (h1.de.fr F (fun h => h)) hpg h1.inr.2.2)
  have c13 := h1.sc.c13
  have c14 := h1.sc.c14
  have c15 := h1.sc.c15
  have c16 := h1.sc.c16
  have ls := h1.sc.lt
  have G := hid (Fr.refl (fun _ => False) w1)
  have HW := hid hw1
  have HF1 := hid F1
  have HB1 := hid b1
  clear hw1 F1 b1 h h1 hT hT1
  go_enter Tryz.func32, Tryz.ntmps32
  go_wp2
  rw [HW.out]
  go_region_held3 (fun W => W.cell? ⟨B.s, 13, none⟩ = some (.pointer (some ⟨B.bs, 0, none⟩)) ∧ W.cell? ⟨B.s, 14, none⟩ = some (.map (some B.fr)) ∧ W.cell? ⟨B.s, 15, none⟩ = some (.map (some B.dy)) ∧ W.cell? ⟨B.s, 16, none⟩ = some (.map (some B.de)))
    (go_keep)
    (first
      | (go_at_call 100; refine (HA.out _ (by first | with_reducible exact G.out.drew | with_reducible exact G.out)).mono ?_; rintro e w4 ⟨v4, rfl, ⟨a4, ca4, rfl, hi4⟩, F4⟩; have I4 := hid (show Ints w4 (.slice a4 (tu x.taken x.pages).length ca4) (tu x.taken x.pages) from ⟨a4, ca4, rfl, hi4⟩); have G := hid (Fr.trans (by first | with_reducible exact G.out.drew | with_reducible exact G.out) F4 (fun _ _ h => h)); have c13 := (F4.cell (p := ⟨B.s, 13, none⟩) ls (fun h => h)).trans c13; have c14 := (F4.cell (p := ⟨B.s, 14, none⟩) ls (fun h => h)).trans c14; have c15 := (F4.cell (p := ⟨B.s, 15, none⟩) ls (fun h => h)).trans c15; have c16 := (F4.cell (p := ⟨B.s, 16, none⟩) ls (fun h => h)).trans c16; have ls := Nat.lt_of_lt_of_le ls F4.size; clear hi4 F4)
      | (go_at_call_of 97 (Value.map (some B.fr)); refine (HR1.out _ (by first | with_reducible exact G.out.drew | with_reducible exact G.out)).mono ?_; rintro e w5 ⟨v5, L1, rfl, ⟨a5, ca5, rfl, hi5⟩, hL1, F5⟩; have I5 := hid (And.intro (show Ints w5 (.slice a5 L1.length ca5) L1 from ⟨a5, ca5, rfl, hi5⟩) hL1); have I4 := hid (Ints.fr I4.out F5 (fun _ _ h => h)); have G := hid (Fr.trans (by first | with_reducible exact G.out.drew | with_reducible exact G.out) F5 (fun _ _ h => h)); have c13 := (F5.cell (p := ⟨B.s, 13, none⟩) ls (fun h => h)).trans c13; have c14 := (F5.cell (p := ⟨B.s, 14, none⟩) ls (fun h => h)).trans c14; have c15 := (F5.cell (p := ⟨B.s, 15, none⟩) ls (fun h => h)).trans c15; have c16 := (F5.cell (p := ⟨B.s, 16, none⟩) ls (fun h => h)).trans c16; have ls := Nat.lt_of_lt_of_le ls F5.size; clear hi5 F5 hL1)
      | (go_at_call_of 97 (Value.map (some B.dy)); refine (HR2.out _ (by first | with_reducible exact G.out.drew | with_reducible exact G.out)).mono ?_; rintro e w6 ⟨v6, L2, rfl, ⟨a6, ca6, rfl, hi6⟩, hL2, F6⟩; have I6 := hid (And.intro (show Ints w6 (.slice a6 L2.length ca6) L2 from ⟨a6, ca6, rfl, hi6⟩) hL2); have I5 := hid (And.intro (Ints.fr I5.out.1 F6 (fun _ _ h => h)) I5.out.2); have I4 := hid (Ints.fr I4.out F6 (fun _ _ h => h)); have G := hid (Fr.trans (by first | with_reducible exact G.out.drew | with_reducible exact G.out) F6 (fun _ _ h => h)); have c13 := (F6.cell (p := ⟨B.s, 13, none⟩) ls (fun h => h)).trans c13; have c14 := (F6.cell (p := ⟨B.s, 14, none⟩) ls (fun h => h)).trans c14; have c15 := (F6.cell (p := ⟨B.s, 15, none⟩) ls (fun h => h)).trans c15; have c16 := (F6.cell (p := ⟨B.s, 16, none⟩) ls (fun h => h)).trans c16; have ls := Nat.lt_of_lt_of_le ls F6.size; clear hi6 F6 hL2)
      | (go_at_call_of 97 (Value.map (some B.de)); refine (HR3.out _ (by first | with_reducible exact G.out.drew | with_reducible exact G.out)).mono ?_; rintro e w7 ⟨v7, L3, rfl, ⟨a7, ca7, rfl, hi7⟩, hL3, F7⟩; have I7 := hid (And.intro (show Ints w7 (.slice a7 L3.length ca7) L3 from ⟨a7, ca7, rfl, hi7⟩) hL3); have I6 := hid (And.intro (Ints.fr I6.out.1 F7 (fun _ _ h => h)) I6.out.2); have I5 := hid (And.intro (Ints.fr I5.out.1 F7 (fun _ _ h => h)) I5.out.2); have I4 := hid (Ints.fr I4.out F7 (fun _ _ h => h)); have G := hid (Fr.trans (by first | with_reducible exact G.out.drew | with_reducible exact G.out) F7 (fun _ _ h => h)); have c13 := (F7.cell (p := ⟨B.s, 13, none⟩) ls (fun h => h)).trans c13; have c14 := (F7.cell (p := ⟨B.s, 14, none⟩) ls (fun h => h)).trans c14; have c15 := (F7.cell (p := ⟨B.s, 15, none⟩) ls (fun h => h)).trans c15; have c16 := (F7.cell (p := ⟨B.s, 16, none⟩) ls (fun h => h)).trans c16; have ls := Nat.lt_of_lt_of_le ls F7.size; obtain ⟨k0, k1, k2, k3, kz, kl⟩ := cells4 (G.out.heap HB1.out (fun h => h)); clear hi7 F7 hL3))
  go_wp2
  refine bodyPost_ret (v := .agg #[.slice a4 (tu x.taken x.pages).length ca4, .slice a5 L1.length ca5, .slice a6 L2.length ca6, .slice a7 L3.length ca7]) (by simp [results, go_sem, *]) rfl ?_
  have FF : Fr (fun b => b = w.heap.size) w7 ((((w7.setCell ⟨w.heap.size, 0, none⟩ (.slice a4 (tu x.taken x.pages).length ca4)).setCell ⟨w.heap.size, 1, none⟩ (.slice a5 L1.length ca5)).setCell ⟨w.heap.size, 2, none⟩ (.slice a6 L2.length ca6)).setCell ⟨w.heap.size, 3, none⟩ (.slice a7 L3.length ca7)) :=
    ((((Fr.refl (fun b => b = w.heap.size) _).setCell (a := ⟨w.heap.size, 0, none⟩) (fun _ => rfl) _).setCell (a := ⟨w.heap.size, 1, none⟩) (fun _ => rfl) _).setCell (a := ⟨w.heap.size, 2, none⟩) (fun _ => rfl) _).setCell (a := ⟨w.heap.size, 3, none⟩) (fun _ => rfl) _
  have hb7 := G.out.heap HB1.out (fun h => h)
  refine ⟨_, _, _, _, L1, L2, L3, rfl, I4.out.frL FF hb7 (by simp), I5.out.1.frL FF hb7 (by simp), I6.out.1.frL FF hb7 (by simp), I7.out.1.frL FF hb7 (by simp), ⟨I5.out.2, I6.out.2, I7.out.2⟩, ?_⟩
  refine (HF1.out.trans G.out (fun _ _ h => h)).trans FF (fun b hb h => by omega)
end SF
end Go.Proofs.YtgdhaaokolfdoaaGreatDoor
