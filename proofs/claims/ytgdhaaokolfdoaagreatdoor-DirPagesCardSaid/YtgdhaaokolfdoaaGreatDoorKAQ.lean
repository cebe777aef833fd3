/- A pack of texts: SE. Conditions: those that each text names. -/
import Derived.Test.YtgdhaaokolfdoaaGreatDoorKAJ
import Derived.Test.YtgdhaaokolfdoaaGreatDoorKAP
set_option linter.unusedVariables false
set_option linter.unusedSimpArgs false
set_option linter.unnecessarySimpa false
/- The store: Read of a page that is nowhere; Free; Mark. Conditions: the store lies in the world as StoreAt says. -/
namespace Go.Proofs.YtgdhaaokolfdoaaGreatDoor
open Go.RowKit Go.Sg Go.Sg.Bits Go.Sg.Clk CP
namespace SF
set_option maxHeartbeats 4000000 in
theorem read_zero {w : World} {B : Blk} {x : Sto} (h : StoreAt w B x) (p st : Int) (h0 : 0 ≤ p) (h1 : p < x.pages) (hq : x.mem p = none)
    (hdown : x.dev.down = false) (hlen : ∀ y ∈ x.dev.loose, y.2.length = x.dev.size) (hmany : x.dev.loose.length ≤ 100000) (hz : x.dev.sec (x.first + p) = List.replicate x.dev.size 0) :
    Calls Tryz.prog 24 #[B.ptr, .agg #[.int .i64 p, .int .i64 st]] w fun e w' => e = .returned (.tuple #[.slice none 0 0, .int .i64 5]) ∧ StoreAt w' B x ∧ FrB B w w' := by
  obtain ⟨w1, hw1⟩ : ∃ w1, w.alloc (.cells #[.int .i64 p, .int .i64 st] 35) = w1 := ⟨_, rfl⟩
  have F1 : Fr (fun _ => False) w w1 := by rw [← hw1]; exact (Fr.refl _ _).alloc _
  have b1 : w1.heap[w.heap.size]? = some (.cells #[.int .i64 p, .int .i64 st] 35) := by rw [← hw1]; exact heap_alloc_new _ _
  obtain ⟨at_, hat⟩ := Int.eq_ofNat_of_zero_le (show 0 ≤ x.first + p by have := h.rg.2.2.1; omega)
  have hats : at_ < x.dev.sectors := by have := h.rg.2.2.2.1; omega
  have hsec := h.dev.rg.1.2
  have hwr : IntKind.i64.wrap (x.first + p) = (at_ : Int) := by rw [IntKind.wrap_i64]; omega
  have HLG := hid (fun W (hS : StoreAt W B x) => leafget_zero hS.dev hdown hlen hmany at_ hats (by have := hz; rw [hat] at this; exact this) 2 p)
  have HI := hid (in_ok (h.fr0 F1) p st h0 h1)
  have H1 := hid (h.fr0 F1)
  have HQ := hid hq
  have HW := hid hw1
  have HB1 := hid b1
  have HF1 := hid F1
  have HWR := hid hwr
  clear hw1 F1 h hq b1 hz hlen hmany hdown hwr hat
  go_enter Tryz.func24, Tryz.ntmps24
  go_wp2_with fail
  rw [HW.out]
  refine HI.out.mono ?_
  rintro e w2 ⟨rfl, F2⟩
  obtain ⟨f0, f1, fz, fl⟩ := cells2 (F2.heap HB1.out (fun h => h))
  have h2 := H1.out.fr0 F2
  have g17 := h2.sc.c17
  have ls := h2.sc.lt
  have nl := h2.mem.lts
  have HG := hid (fun W (F : Fr (fun _ => False) w2 W) => (getmem_at (h2.mem.fr F (fun h => h) (fun h => h) (fun h => h)) p).mono
    (fun (e : Ending) W' ⟨he, hm, F'⟩ => (⟨by rw [he, HQ.out]; rfl, hm, Fr.trans (S := fun b => b = B.bp) (S' := fun b => b = B.bp) (F.mono (fun _ _ h => h.elim)) F' (fun _ _ h => h), F'⟩ :
      e = Ending.returned (.tuple #[.agg #[.int .i64 0, .slice none 0 0, .bool false], .bool false]) ∧ MemAt W' B.bc B.bp B.bm x.places x.mem ∧ Fr (fun b => b = B.bp) w2 W' ∧ Fr (fun b => b = B.bp) W W')))
  have NX := hid (show ¬ w2.heap.size = B.bp by omega)
  have NS := hid (h2.ner (r := .s) (r' := .bp) (by decide))
  have NW := hid (show ¬ w.heap.size = B.bp by
    have := H1.out.heaps .bp
    have h3 := kd_cells HB1.out
    intro e
    rw [e] at h3
    have h4 := this.2.2.2
    simp only [Blk.at_] at h4
    rw [h4] at h3
    simp [Role.kind] at h3)
  have m1 : ¬ w2.heap.size = B.s := by omega
  have m2 : ¬ w2.heap.size = w.heap.size := by omega
  have H2 := hid h2
  have HF2 := hid F2
  clear h2 F2 nl
  go_wp2
  go_region_held3 (fun W => W.cell? ⟨B.s, 17, none⟩ = some (.pointer (some ⟨B.bc, 0, none⟩)) ∧ W.cell? ⟨w.heap.size, 0, none⟩ = some (.int .i64 p)) (go_keep)
    ((go_at_call 86; refine (HG.out _ (by first | exact ((Fr.refl _ _).alloc _) | exact (Fr.refl _ _) | exact ((Fr.refl _ _).drew) | exact ((Fr.refl _ _).alloc _).drew | exact ((Fr.refl _ _).drew.alloc _))).mono ?_; rintro e w7 ⟨rfl, hm, F7, F8⟩; have e0 := fun (i : Nat) (hh : w2.heap.size < _) => F8.cell (p := ⟨w2.heap.size, i, none⟩) hh NX.out; have ez := fun (i : Nat) (hh : w2.heap.size < _) => World.frozen?_of_block (a := ⟨w2.heap.size, i, none⟩) (F8.block w2.heap.size hh NX.out); have EB := hid (fun (hh : w2.heap.size < _) => F8.block w2.heap.size hh NX.out); have el := F8.size; have el7 := F7.size; have m3 : ¬ w7.heap.size = B.s := (by omega); have m4 : ¬ w7.heap.size = w.heap.size := (by omega); have g17 := (F7.cell (p := ⟨B.s, 17, none⟩) ls NS.out).trans g17; have f0 := (F7.cell (p := ⟨w.heap.size, 0, none⟩) fl NW.out).trans f0; have f1 := (F7.cell (p := ⟨w.heap.size, 1, none⟩) fl NW.out).trans f1; have HF7 := hid F7; have HM := hid hm; clear F7 hm F8))
  all_goals
    have lw7 : w.heap.size < w7.heap.size := by omega
    have FA : FrR B [.bp] w1 w7 := (HF2.out.mono (fun _ _ h => h.elim)).trans HF7.out (fun b _ h => ⟨.bp, by simp, h⟩)
    have hS7 : StoreAt w7 B x := H1.out.fr_bp FA HM.out
    have hbx := FrB.heap (B := B) (H1.out.frB FA) HB1.out (by decide)
    have H7 := hid (And.intro hS7 (And.intro (show FrB B w w7 from (FrB.none HF1.out).trans (H1.out.frB FA)) hbx))
    clear FA hS7 hbx m3 m4 m1 m2
  · obtain ⟨W8, hW8⟩ : ∃ W8, w7.alloc (.cells #[.int .i64 0, .slice none 0 0, .bool false] 162) = W8 := ⟨_, rfl⟩
    have FN : Fr (fun _ => False) w7 W8 := by rw [← hW8]; exact (Fr.refl _ _).alloc _
    rw [hW8]
    have H8 := hid (And.intro (H7.out.1.fr0 FN) (And.intro (H7.out.2.1.trans (FrB.none FN)) (FN.heap H7.out.2.2 (fun h => h))))
    clear FN hW8
    obtain ⟨hS8, F8, hb8⟩ := H8.out
    obtain ⟨p0, p1, pz, plt⟩ := cells2 hb8
    have q0 := hS8.sc.c0
    have q9 := hS8.sc.c9
    have qls := hS8.sc.lt
    have hwr := HWR.out
    have n1 : ¬ W8.heap.size = B.s := by omega
    have n2 : ¬ W8.heap.size = w.heap.size := by omega
    have HC := hid (fun W (F : Fr (fun _ => False) W8 W) => (HLG.out W (hS8.fr0 F)).mono (fun (e : Ending) W' ⟨he, F'⟩ => (⟨he, F.trans F' (fun _ _ h => h), F'⟩ : e = Ending.returned (.tuple #[.agg #[.int .i64 0, .int .i64 0, .int .i64 0, .slice none 0 0], .int .i64 5]) ∧ Fr (fun _ => False) W8 W' ∧ Fr (fun _ => False) W W')))
    clear hS8 F8 hb8 g17 f0 f1
    go_wp2
    go_region_held3 (fun W => (W.cell? ⟨B.s, 0, none⟩ = some (.pointer (some ⟨B.d, 0, none⟩)) ∧ W.cell? ⟨B.s, 9, none⟩ = some (.int .i64 x.first)) ∧ W.cell? ⟨w.heap.size, 0, none⟩ = some (.int .i64 p)) (go_keep)
      ((go_at_call 87; refine (HC.out _ (by first | exact ((Fr.refl _ _).alloc _) | exact (Fr.refl _ _) | exact ((Fr.refl _ _).drew) | exact ((Fr.refl _ _).alloc _).drew | exact ((Fr.refl _ _).drew.alloc _))).mono ?_; rintro e w9 ⟨rfl, F9, F9'⟩; have e90 := fun (i : Nat) (hh : W8.heap.size < _) => F9'.cell (p := ⟨W8.heap.size, i, none⟩) hh (fun h => h); have e9z := fun (i : Nat) (hh : W8.heap.size < _) => World.frozen?_of_block (a := ⟨W8.heap.size, i, none⟩) (F9'.block W8.heap.size hh (fun h => h)); have el9 := F9'.size; have el99 := F9.size; have p0 := (F9.cell (p := ⟨w.heap.size, 0, none⟩) plt (fun h => h)).trans p0; have q0 := (F9.cell (p := ⟨B.s, 0, none⟩) qls (fun h => h)).trans q0; have q9 := (F9.cell (p := ⟨B.s, 9, none⟩) qls (fun h => h)).trans q9; have HF9 := hid F9; clear F9 F9'))
    all_goals
      go_wp2
      go_ret2
      obtain ⟨hS8, F8, hb8⟩ := H8.out
      refine ⟨rfl, hS8.fr0 ?_, F8.trans (FrB.none ?_)⟩ <;> first | exact HF9.out.alloc _ | exact ((((HF9.out.setNew (Nat.le_refl _) _).setNew (Nat.le_refl _) _).setNew (Nat.le_refl _) _).setNew (Nat.le_refl _) _)
  · have hz7 : w7.heap[w2.heap.size]? = some (.cells #[.int .i64 0, .slice none 0 0, .bool false] 162) := (EB.out (by simp)).trans (heap_alloc_new _ _)
    have HZ7 := hid hz7
    clear hz7
    obtain ⟨W8, hW8⟩ : ∃ W8, ((w7.setCell ⟨w2.heap.size, 0, none⟩ (.int .i64 0)).setCell ⟨w2.heap.size, 1, none⟩ (.slice none 0 0)).setCell ⟨w2.heap.size, 2, none⟩ (.bool false) = W8 := ⟨_, rfl⟩
    have FN : Fr (fun b => b = w2.heap.size) w7 W8 := by rw [← hW8]; exact Fr.set3 (S := fun b => b = w2.heap.size) (b := w2.heap.size) (Fr.refl _ _) rfl _ _ _
    rw [hW8]
    have hlw : w.heap.size ≤ w2.heap.size := by omega
    have FF8 : FrB B w W8 := by
      rw [← hW8]
      exact ((H7.out.2.1.setCell (a := ⟨w2.heap.size, 0, none⟩) (fun h => absurd h (by simp; omega)) _).setCell (a := ⟨w2.heap.size, 1, none⟩) (fun h => absurd h (by simp; omega)) _).setCell (a := ⟨w2.heap.size, 2, none⟩) (fun h => absurd h (by simp; omega)) _
    have H8 := hid (And.intro (H7.out.1.frL FN HZ7.out (by decide)) (And.intro FF8 (FN.heap H7.out.2.2 (by omega))))
    have le8 := FN.size
    clear FN hW8 FF8
    obtain ⟨hS8, F8, hb8⟩ := H8.out
    obtain ⟨p0, p1, pz, plt⟩ := cells2 hb8
    have q0 := hS8.sc.c0
    have q9 := hS8.sc.c9
    have qls := hS8.sc.lt
    have hwr := HWR.out
    have n1 : ¬ W8.heap.size = B.s := by omega
    have n2 : ¬ W8.heap.size = w.heap.size := by omega
    have HC := hid (fun W (F : Fr (fun _ => False) W8 W) => (HLG.out W (hS8.fr0 F)).mono (fun (e : Ending) W' ⟨he, F'⟩ => (⟨he, F.trans F' (fun _ _ h => h), F'⟩ : e = Ending.returned (.tuple #[.agg #[.int .i64 0, .int .i64 0, .int .i64 0, .slice none 0 0], .int .i64 5]) ∧ Fr (fun _ => False) W8 W' ∧ Fr (fun _ => False) W W')))
    clear hS8 F8 hb8 g17 f0 f1
    go_wp2
    go_region_held3 (fun W => (W.cell? ⟨B.s, 0, none⟩ = some (.pointer (some ⟨B.d, 0, none⟩)) ∧ W.cell? ⟨B.s, 9, none⟩ = some (.int .i64 x.first)) ∧ W.cell? ⟨w.heap.size, 0, none⟩ = some (.int .i64 p)) (go_keep)
      ((go_at_call 87; refine (HC.out _ (by first | exact ((Fr.refl _ _).alloc _) | exact (Fr.refl _ _) | exact ((Fr.refl _ _).drew) | exact ((Fr.refl _ _).alloc _).drew | exact ((Fr.refl _ _).drew.alloc _))).mono ?_; rintro e w9 ⟨rfl, F9, F9'⟩; have e90 := fun (i : Nat) (hh : W8.heap.size < _) => F9'.cell (p := ⟨W8.heap.size, i, none⟩) hh (fun h => h); have e9z := fun (i : Nat) (hh : W8.heap.size < _) => World.frozen?_of_block (a := ⟨W8.heap.size, i, none⟩) (F9'.block W8.heap.size hh (fun h => h)); have el9 := F9'.size; have el99 := F9.size; have p0 := (F9.cell (p := ⟨w.heap.size, 0, none⟩) plt (fun h => h)).trans p0; have q0 := (F9.cell (p := ⟨B.s, 0, none⟩) qls (fun h => h)).trans q0; have q9 := (F9.cell (p := ⟨B.s, 9, none⟩) qls (fun h => h)).trans q9; have HF9 := hid F9; clear F9 F9'))
    all_goals
      go_wp2
      go_ret2
      obtain ⟨hS8, F8, hb8⟩ := H8.out
      refine ⟨rfl, hS8.fr0 ?_, F8.trans (FrB.none ?_)⟩ <;> first | exact HF9.out.alloc _ | exact ((((HF9.out.setNew (Nat.le_refl _) _).setNew (Nat.le_refl _) _).setNew (Nat.le_refl _) _).setNew (Nat.le_refl _) _)
end SF
end Go.Proofs.YtgdhaaokolfdoaaGreatDoor
