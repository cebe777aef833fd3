/- A pack of texts: SR, RM. Conditions: those that each text names. -/
import Derived.Test.YtgdhaaokolfdoaaGreatDoorJAO
set_option linter.unusedVariables false
set_option linter.unusedSimpArgs false
set_option linter.unnecessarySimpa false
namespace Go.Proofs.YtgdhaaokolfdoaaGreatDoor
open Go.RowKit Go.Sg Go.Sg.Bits Go.Sg.Clk CP
theorem StoreAt.fr_bp {w W : World} {B : Blk} {x : Sto} (h : StoreAt w B x) (F : FrR B [.bp] w W) (hm : MemAt W B.bc B.bp B.bm x.places x.mem) : StoreAt W B x := by
  have S := h.stays F
  exact ⟨S.s (by decide), S.dev (by decide) (by decide) (by decide), S.bits (by decide) (by decide), S.fr (by decide), S.dy (by decide), S.de (by decide), hm, S.load, h.ne, h.ge, h.rg, h.inr⟩
namespace SF
def ReadPost (B : Blk) (x : Sto) (q : Pg) (st : Int) (bs : List Int) (w : World) (e : Ending) (w' : World) : Prop :=
  (if q.stamp = st then ∃ a c, e = .returned (.tuple #[.slice a bs.length c, .int .i64 0]) ∧ ByV w' a bs.length c bs else e = .returned (.tuple #[.slice none 0 0, .int .i64 5])) ∧ StoreAt w' B x ∧ FrB B w w'
set_option maxHeartbeats 2000000 in
theorem read_hit {w : World} {B : Blk} {x : Sto} (h : StoreAt w B x) (p st : Int) (h0 : 0 ≤ p) (h1 : p < x.pages) {q : Pg} (hq : x.mem p = some q) {bs : List Int} (hb : ByV w q.la q.ll q.lc bs) :
    Calls Tryz.prog 24 #[B.ptr, .agg #[.int .i64 p, .int .i64 st]] w (ReadPost B x q st bs w) := by
  obtain ⟨qs, qa, ql, qc, qd⟩ := q
  obtain ⟨w1, hw1⟩ : ∃ w1, w.alloc (.cells #[.int .i64 p, .int .i64 st] 35) = w1 := ⟨_, rfl⟩
  have F1 : Fr (fun _ => False) w w1 := by rw [← hw1]; exact (Fr.refl _ _).alloc _
  have b1 : w1.heap[w.heap.size]? = some (.cells #[.int .i64 p, .int .i64 st] 35) := by rw [← hw1]; exact heap_alloc_new _ _
  obtain ⟨d0, d1, dz, dl⟩ := cells2 b1
  have HI := hid (in_ok (h.fr0 F1) p st h0 h1)
  have H1 := hid (h.fr0 F1)
  have hlen := hb.len
  have hlb : ql ≤ 493 := by
    obtain ⟨bs', hb', hl'⟩ := h.load p _ hq
    have := hb'.len
    have := h.rg.1
    simp only at *
    omega
  have HL := hid hlen
  have HB := hid (hb.frB (FrB.none (B := B) F1))
  have HQ := hid hq
  have HW := hid hw1
  have HB1 := hid b1
  have HF1 := hid F1
  clear hw1 F1 h hq hb hlen b1
  go_enter Tryz.func24, Tryz.ntmps24
  go_wp2_with fail
  rw [HW.out]
  refine HI.out.mono ?_
  rintro e w2 ⟨rfl, F2⟩
  obtain ⟨f0, f1, fz, fl⟩ := cells2 (F2.heap HB1.out (fun h => h))
  have h2 := H1.out.fr0 F2
  have g17 := h2.sc.c17
  have ls := h2.sc.lt
  have nl := h2.mem.lts
  have HG := hid (fun W (F : Fr (fun _ => False) w2 W) => (getmem_at (h2.mem.fr F (fun h => h) (fun h => h) (fun h => h)) p).mono
    (fun (e : Ending) W' ⟨he, hm, F'⟩ => (⟨by rw [he, HQ.out]; rfl, hm, Fr.trans (S := fun b => b = B.bp) (S' := fun b => b = B.bp) (F.mono (fun _ _ h => h.elim)) F' (fun _ _ h => h), F'⟩ :
      e = Ending.returned (.tuple #[.agg #[.int .i64 qs, .slice qa ql qc, .bool qd], .bool true]) ∧ MemAt W' B.bc B.bp B.bm x.places x.mem ∧ Fr (fun b => b = B.bp) w2 W' ∧ Fr (fun b => b = B.bp) W W')))
  have HB2 := hid (HB.out.frB (FrB.none (B := B) F2))
  have NX := hid (show ¬ w2.heap.size = B.bp by omega)
  have NS := hid (h2.ner (r := .s) (r' := .bp) (by decide))
  have NW := hid (show ¬ w.heap.size = B.bp by
    have := H1.out.heaps .bp
    have h3 := kd_cells HB1.out
    intro e
    rw [e] at h3
    have h4 := this.2.2.2
    simp only [Blk.at_] at h4
    rw [h4] at h3
    simp [Role.kind] at h3)
  have m1 : ¬ w2.heap.size = B.s := by omega
  have m2 : ¬ w2.heap.size = w.heap.size := by omega
  have H2 := hid h2
  have HF2 := hid F2
  clear h2 F2 nl
  go_wp2
  go_region_held3 (fun W => W.cell? ⟨B.s, 17, none⟩ = some (.pointer (some ⟨B.bc, 0, none⟩)) ∧ W.cell? ⟨w.heap.size, 0, none⟩ = some (.int .i64 p)) (go_keep)
    ((go_at_call 86; refine (HG.out _ (by first | exact ((Fr.refl _ _).alloc _) | exact (Fr.refl _ _) | exact ((Fr.refl _ _).drew) | exact ((Fr.refl _ _).alloc _).drew | exact ((Fr.refl _ _).drew.alloc _))).mono ?_; rintro e w7 ⟨rfl, hm, F7, F8⟩; have e0 := fun (i : Nat) (hh : w2.heap.size < _) => F8.cell (p := ⟨w2.heap.size, i, none⟩) hh NX.out; have ez := fun (i : Nat) (hh : w2.heap.size < _) => World.frozen?_of_block (a := ⟨w2.heap.size, i, none⟩) (F8.block w2.heap.size hh NX.out); have EB := hid (fun (hh : w2.heap.size < _) => F8.block w2.heap.size hh NX.out); have el := F8.size; have el7 := F7.size; have m3 : ¬ w7.heap.size = B.s := (by omega); have m4 : ¬ w7.heap.size = w.heap.size := (by omega); have g17 := (F7.cell (p := ⟨B.s, 17, none⟩) ls NS.out).trans g17; have f0 := (F7.cell (p := ⟨w.heap.size, 0, none⟩) fl NW.out).trans f0; have f1 := (F7.cell (p := ⟨w.heap.size, 1, none⟩) fl NW.out).trans f1; have HF7 := hid F7; have HM := hid hm; clear F7 hm F8))
  all_goals
    have lw7 : w.heap.size < w7.heap.size := by omega
    have FA : FrR B [.bp] w1 w7 := (HF2.out.mono (fun _ _ h => h.elim)).trans HF7.out (fun b _ h => ⟨.bp, by simp, h⟩)
    have hS7 : StoreAt w7 B x := H1.out.fr_bp FA HM.out
    have hbx := FrB.heap (B := B) (H1.out.frB FA) HB1.out (by decide)
    have hb7 := HB.out.frB (B := B) (H1.out.frB FA)
    have H7 := hid (And.intro hS7 (And.intro (show FrB B w w7 from (FrB.none HF1.out).trans (H1.out.frB FA)) hb7))
    clear FA hS7 hbx hb7 m3 m4 m1 m2
  · by_cases hst : qs = st
    · subst hst
      go_wp2_with fail
      have FN : Fr (fun _ => False) w7 (w7.alloc (.cells #[.int .i64 qs, .slice qa ql qc, .bool qd] 162)) := (Fr.refl _ _).alloc _
      refine (clone_v (H7.out.2.2.frB (B := B) (FrB.none FN)).slb (by omega)).mono ?_
      rintro e w9 ⟨a', c', rfl, hb9, F9⟩
      have H9 := hid (And.intro hb9 (FN.trans F9 (fun _ _ h => h)))
      clear hb9 F9 FN
      go_wp2
      go_ret2
      refine ⟨?_, H7.out.1.fr0 H9.out.2, H7.out.2.1.trans (FrB.none H9.out.2)⟩
      rw [if_pos rfl]
      exact ⟨a', c', by rw [HL.out]; rfl, by rw [HL.out]; exact H9.out.1⟩
    · have hne : (qs != st) = true := by simpa using hst
      go_wp2
      go_ret2
      have FN : Fr (fun _ => False) w7 (w7.alloc (.cells #[.int .i64 qs, .slice qa ql qc, .bool qd] 162)) := (Fr.refl _ _).alloc _
      refine ⟨?_, H7.out.1.fr0 FN, H7.out.2.1.trans (FrB.none FN)⟩
      rw [if_neg hst]; rfl
  · have hz7 : w7.heap[w2.heap.size]? = some (.cells #[.int .i64 0, .slice none 0 0, .bool false] 162) := (EB.out (by simp)).trans (heap_alloc_new _ _)
    have HZ7 := hid hz7
    clear hz7
    have FN : Fr (fun b => b = w2.heap.size) w7 (((w7.setCell ⟨w2.heap.size, 0, none⟩ (.int .i64 qs)).setCell ⟨w2.heap.size, 1, none⟩ (.slice qa ql qc)).setCell ⟨w2.heap.size, 2, none⟩ (.bool qd)) := Fr.set3 (S := fun b => b = w2.heap.size) (b := w2.heap.size) (Fr.refl _ _) rfl _ _ _
    have hS8 := H7.out.1.frL FN HZ7.out (by decide)
    have hb8 := H7.out.2.2.frL FN HZ7.out (by decide)
    have FF8 : FrB B w (((w7.setCell ⟨w2.heap.size, 0, none⟩ (.int .i64 qs)).setCell ⟨w2.heap.size, 1, none⟩ (.slice qa ql qc)).setCell ⟨w2.heap.size, 2, none⟩ (.bool qd)) := by
      have hlw : w.heap.size ≤ w2.heap.size := by omega
      exact ((H7.out.2.1.setCell (a := ⟨w2.heap.size, 0, none⟩) (fun h => absurd h (by simp; omega)) _).setCell (a := ⟨w2.heap.size, 1, none⟩) (fun h => absurd h (by simp; omega)) _).setCell (a := ⟨w2.heap.size, 2, none⟩) (fun h => absurd h (by simp; omega)) _
    have H8 := hid (And.intro hS8 (And.intro FF8 hb8))
    clear FN hS8 FF8 hb8
    by_cases hst : qs = st
    · subst hst
      go_wp2_with fail
      refine (clone_v H8.out.2.2.slb (by omega)).mono ?_
      rintro e w9 ⟨a', c', rfl, hb9, F9⟩
      have H9 := hid (And.intro hb9 F9)
      clear hb9 F9
      go_wp2
      go_ret2
      refine ⟨?_, H8.out.1.fr0 H9.out.2, H8.out.2.1.trans (FrB.none H9.out.2)⟩
      rw [if_pos rfl]
      exact ⟨a', c', by rw [HL.out]; rfl, by rw [HL.out]; exact H9.out.1⟩
    · have hne : (qs != st) = true := by simpa using hst
      go_wp2
      go_ret2
      refine ⟨?_, H8.out.1, H8.out.2.1⟩
      rw [if_neg hst]; rfl
end SF
end Go.Proofs.YtgdhaaokolfdoaaGreatDoor

namespace Go.Proofs.YtgdhaaokolfdoaaGreatDoor
open Go.RowKit Go.Sg Go.Sg.Bits Go.Sg.Clk CP SF
namespace SF
theorem Inp.fr0 {w w' : World} {B : Blk} {la : Option Addr} {ll lc : Nat} {bs : List Int} (h : Inp w B la ll lc bs) (F : Fr (fun _ => False) w w') (hB : B.base ≤ w.heap.size) : Inp w' B la ll lc bs := by
  refine ⟨⟨h.1.by_.fr F (fun _ _ _ _ h => h), h.1.at_⟩, fun b off e => ?_⟩
  rcases h.2 b off e with h0 | h1 | h1
  · exact .inl h0
  · exact .inr (.inl h1)
  · refine .inr (.inr ?_)
    cases hb : w.heap[b]? with
    | none => rw [kd, hb] at h1; cases h1
    | some o => rw [kd, F.heap hb (fun h => h)]; rw [kd, hb] at h1; exact h1
end SF
end Go.Proofs.YtgdhaaokolfdoaaGreatDoor
