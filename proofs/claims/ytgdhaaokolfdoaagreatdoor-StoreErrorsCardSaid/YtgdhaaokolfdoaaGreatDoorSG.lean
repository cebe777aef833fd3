/- The store: gone. Conditions: the store lies in the world as StoreAt says. -/
import Derived.Test.YtgdhaaokolfdoaaGreatDoorSL
namespace Go.Proofs.YtgdhaaokolfdoaaGreatDoor
open Go.RowKit Go.Sg Go.Sg.Bits Go.Sg.Clk CP
theorem Tryz.zero4 (w : World) : (zeroValue 4).run Tryz.prog w = .ok (.bool false) w := by kernel_rfl
/-- A store behind a page that does not count any more. -/
def goneX (x : Sto) (n : Nat) : Sto :=
  if x.fresh n = true then { x with fresh := updI x.fresh n false, taken := upd x.taken n false, mem := updM x.mem n none } else { x with dying := updI x.dying n true }
theorem StoreAt.ner {w : World} {B : Blk} {x : Sto} (h : StoreAt w B x) {r r' : Role} (hr : r ≠ r') : B.at_ r ≠ B.at_ r' := fun e => hr (h.inj e)
namespace SF
set_option maxHeartbeats 1000000 in
theorem gone_dying {w : World} {B : Blk} {x : Sto} (h : StoreAt w B x) {n : Nat} (hn : n < x.pages) (hf : x.fresh n = false) :
    Calls Tryz.prog 89 #[B.ptr, .int .i64 n] w fun e w' => e = .returned (.tuple #[]) ∧ StoreAt w' B (goneX x n) ∧ FrR B [.dy] w w' := by
  have c14 := h.sc.c14
  have c15 := h.sc.c15
  obtain ⟨lf, cf, hfm, hfs⟩ := h.fr.ex
  obtain ⟨ld, cd, hdm, hds⟩ := h.dy.ex
  have hl := run_lookup (P := Tryz.prog) (T := 153) false Tryz.underlying153 Tryz.underlying3 Tryz.zero4 hfm n
  rw [hfs.at_, hf] at hl
  simp at hl
  have hup := run_mapUpdate (P := Tryz.prog) (T := 153) Tryz.underlying153 Tryz.underlying3 hdm n (.bool true)
  have H := hid h
  have HD := hid hds
  have HM := hid hdm
  have HF := hid hf
  clear h hfm hfs hds hf hdm
  go_enter Tryz.func89, Tryz.ntmps89
  go_wp2
  refine bodyPost_ret (results_none rfl _ _ _) rfl ?_
  have F : FrR B [.dy] w (w.putObj B.dy (.map (ents (put ld n (.bool true) cd)) (bump ld n cd))) := (Fr.refl _ _).putObj (fun _ => ⟨.dy, by simp, rfl⟩) _
  refine ⟨rfl, ?_, F⟩
  have S := H.out.stays F
  have e : goneX x n = { x with dying := updI x.dying n true } := by rw [goneX, HF.out]; rfl
  rw [e]
  refine ⟨S.s (by decide), S.dev (by decide) (by decide) (by decide), S.bits (by decide) (by decide), S.fr (by decide), ⟨_, _, heap_putObj_same _ _ _ (lt_of_heap HM.out), HD.out.put n⟩, S.de (by decide), S.mem (by decide) (by decide) (by decide), S.load, H.out.ne, H.out.ge, H.out.rg, H.out.inr.1, ?_, H.out.inr.2.2⟩
  intro k hk
  show 0 ≤ k ∧ k < x.pages
  by_cases hkn : k = n
  · omega
  · exact H.out.inr.2.1 k (by simpa [updI, hkn] using hk)
set_option maxRecDepth 100000 in
set_option maxHeartbeats 1000000 in
theorem gone_fresh {w : World} {B : Blk} {x : Sto} (h : StoreAt w B x) {n : Nat} (hn : n < x.pages) (hf : x.fresh n = true) (ht : x.taken n = true) :
    Calls Tryz.prog 89 #[B.ptr, .int .i64 n] w fun e w' => e = .returned (.tuple #[]) ∧ StoreAt w' B (goneX x n) ∧ FrR B [.fr, .bs, .bw, .bp, .bm] w w' := by
  have c14 := h.sc.c14
  have c13 := h.sc.c13
  have nfs : B.fr ≠ B.s := h.ner (r := .fr) (r' := .s) (by decide)
  obtain ⟨lf, cf, hfm, hfs⟩ := h.fr.ex
  have hl := run_lookup (P := Tryz.prog) (T := 153) false Tryz.underlying153 Tryz.underlying3 Tryz.zero4 hfm n
  rw [hfs.at_, hf] at hl
  simp at hl
  have hdel := run_delete (P := Tryz.prog) (T := 153) Tryz.underlying153 Tryz.underlying3 hfm n
  obtain ⟨w1, hw1⟩ : ∃ w1, w.putObj B.fr (.map (ents (del lf n)) cf) = w1 := ⟨_, rfl⟩
  have F1 : FrR B [.fr] w w1 := by rw [← hw1]; exact (Fr.refl _ _).putObj (fun _ => ⟨.fr, by simp, rfl⟩) _
  have hf1 : w1.heap[B.fr]? = some (.map (ents (del lf n)) cf) := by rw [← hw1]; exact heap_putObj_same _ _ _ (lt_of_heap hfm)
  have S1 := h.stays F1
  have hC := hid (clear_there (S1.bits (by decide) (by decide)) n hn ht)
  have s1 := S1.s (by decide)
  have d13 : w1.cell? ⟨B.s, 13, none⟩ = some (.pointer (some ⟨B.bs, 0, none⟩)) := by simpa using cell_of_heap s1 13
  have H := hid h
  have HS := hid hfs
  have HF1 := hid F1
  have HM1 := hid hf1
  have HF := hid hf
  have HW := hid hw1
  have Hs1 := hid s1
  clear h hfm hfs hf ht F1 hf1 S1 hw1 s1
  go_enter Tryz.func89, Tryz.ntmps89
  go_wp2_with fail
  rw [HW.out]
  refine hC.out.mono ?_
  rintro e w2 ⟨rfl, hB2, F2⟩
  have F02 : FrR B [.fr, .bs, .bw] w w2 := (HF1.out.mono (fun b _ ⟨r, hr, e⟩ => ⟨r, by simp at hr ⊢; exact .inl hr, e⟩)).trans F2 (fun b _ h => ⟨.bw, by simp, h⟩)
  have S2 := H.out.stays F02
  have s2 := S2.s (by decide)
  have d17 : w2.cell? ⟨B.s, 17, none⟩ = some (.pointer (some ⟨B.bc, 0, none⟩)) := by simpa using cell_of_heap s2 17
  have hD := hid (dropmem_at (S2.mem (by decide) (by decide) (by decide)) n)
  have HB2 := hid hB2
  have HF02 := hid F02
  have HF2 := hid F2
  clear S2 s2 hB2 F02 F2 hl hdel
  go_wp2_with fail
  refine hD.out.mono ?_
  rintro e w3 ⟨rfl, hM3, F3⟩
  have HM3 := hid hM3
  have HF3 := hid F3
  clear hM3 F3
  go_wp2
  go_end0
  have F03 : FrR B [.fr, .bs, .bw, .bp, .bm] w w3 := (HF02.out.mono (fun b _ ⟨r, hr, e⟩ => ⟨r, by simp at hr ⊢; rcases hr with h | h | h <;> simp [h], e⟩)).trans HF3.out (fun b _ h => by
    rcases h with h | h
    · exact ⟨.bp, by simp, h⟩
    · exact ⟨.bm, by simp, h⟩)
  refine ⟨rfl, ?_, F03⟩
  have S := H.out.stays F03
  have e : goneX x n = { x with fresh := updI x.fresh n false, taken := upd x.taken n false, mem := updM x.mem n none } := by rw [goneX, HF.out]; rfl
  rw [e]
  have ne1 : ¬ (B.fr = B.bp ∨ B.fr = B.bm) := fun h => by
    rcases h with h | h
    · exact H.out.ner (r := .fr) (r' := .bp) (by decide) h
    · exact H.out.ner (r := .fr) (r' := .bm) (by decide) h
  have ne2 : ¬ (B.bs = B.bp ∨ B.bs = B.bm) := fun h => by
    rcases h with h | h
    · exact H.out.ner (r := .bs) (r' := .bp) (by decide) h
    · exact H.out.ner (r := .bs) (r' := .bm) (by decide) h
  have ne3 : ¬ (B.bw = B.bp ∨ B.bw = B.bm) := fun h => by
    rcases h with h | h
    · exact H.out.ner (r := .bw) (r' := .bp) (by decide) h
    · exact H.out.ner (r := .bw) (r' := .bm) (by decide) h
  have ne4 : B.fr ≠ B.bw := H.out.ner (r := .fr) (r' := .bw) (by decide)
  refine ⟨S.s (by decide), S.dev (by decide) (by decide) (by decide), HB2.out.fr HF3.out ne2 ne3, ⟨_, _, HF3.out.heap (HF2.out.heap HM1.out ne4) ne1, HS.out.del n⟩, S.dy (by decide), S.de (by decide), HM3.out, ?_, H.out.ne, H.out.ge, H.out.rg, ?_, H.out.inr.2⟩
  · intro k p hp
    simp only [updM] at hp
    split at hp
    · cases hp
    · exact S.load k p hp
  · intro k hk
    show 0 ≤ k ∧ k < x.pages
    simp only [updI] at hk
    split at hk
    · cases hk
    · exact H.out.inr.1 k hk
end SF
end Go.Proofs.YtgdhaaokolfdoaaGreatDoor
