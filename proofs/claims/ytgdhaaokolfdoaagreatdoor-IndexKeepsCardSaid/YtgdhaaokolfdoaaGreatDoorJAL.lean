/- A pack of texts: SW. Conditions: those that each text names. -/
import Derived.Test.YtgdhaaokolfdoaaGreatDoorJAK
set_option linter.unusedVariables false
set_option linter.unusedSimpArgs false
set_option linter.unnecessarySimpa false
namespace Go.Sg
theorem quiet_left {P : Program} {f : FuncId} {args : Array Value} {w : World} {n : Nat} {v : Value}
    (h : Calls P f args (w.drewN n) fun e w' => e = .returned v ∧ w.drewN n = w') : Calls P f args (w.drewN n) fun e w'' => e = .returned v ∧ ∃ m, w'' = w.drewN m :=
  h.mono fun _ _ ⟨he, hm⟩ => ⟨he, n, hm.symm⟩
end Go.Sg
namespace Go.Proofs.YtgdhaaokolfdoaaGreatDoor
open Go.RowKit Go.Sg Go.Sg.Bits Go.Sg.Clk CP
namespace SF
def WFresh (B : Blk) (x : Sto) (n : Nat) (bs : List Int) (w : World) (e : Ending) (w' : World) : Prop :=
  ∃ err g D p, e = .returned (.tuple #[.agg #[.int .i64 n, .int .i64 x.gen], .int .i64 err]) ∧ GoneOk x.mem x.places n g ∧ OutR w' x g D err ∧
    StoreAt w' B { x with mem := putF x.mem n p g, dev := D } ∧ (p.stamp = x.gen ∧ p.dirty = true ∧ ByV w' p.la p.ll p.lc bs) ∧ FrB B w w'
set_option maxHeartbeats 2000000 in
theorem write_fresh {w : World} {B : Blk} {x : Sto} (h : StoreAt w B x) (n : Nat) (st : Int) {la : Option Addr} {ll lc : Nat} {bs : List Int} (hin : Inp w B la ll lc bs) (hl : ll ≤ x.room) (hp : n < x.pages) (ht : x.taken n = true) (hf : x.fresh n = true)
    (hk : ∀ W p, StoreAt W B x → FrB B w W → (∃ bs, ByV W p.la p.ll p.lc bs ∧ bs.length ≤ x.room) → Calls Tryz.prog 82 #[B.ptr, .int .i64 n, p.val] W (KeepOut B x n p W)) :
    Calls Tryz.prog 26 #[B.ptr, .agg #[.int .i64 n, .int .i64 st], .slice la ll lc] w (WFresh B x n bs w) := by
  obtain ⟨w1, hw1⟩ : ∃ w1, (w.alloc (.cells #[.int .i64 n, .int .i64 st] 35)).alloc (.cells #[.int .i64 0, .int .i64 0] 35) = w1 := ⟨_, rfl⟩
  obtain ⟨b0, b1, F1⟩ := heap_two hw1
  obtain ⟨d0, d1, dz, dl⟩ := cells2 b0
  have c11 := h.sc.c11
  have l := h.sc.lt
  have HI := hid (in_ok (h.fr0 F1) n st (by omega) (by omega))
  have H1 := hid (h.fr0 F1)
  have HT := hid ht
  have HF := hid hf
  have HW := hid hw1
  have HB0 := hid b0
  have HB1 := hid b1
  have HF1 := hid F1
  have HK := hid hk
  have HIN := hid hin
  have hrm := h.rg.1
  clear hw1 b0 b1 F1 h ht hf hk hin
  go_enter Tryz.func26, Tryz.ntmps26
  go_wp2_with fail
  rw [HW.out]
  refine HI.out.mono ?_
  rintro e w2 ⟨rfl, F2⟩
  obtain ⟨e0, e1, ez, el⟩ := cells2 (F2.heap HB1.out (fun h => h))
  obtain ⟨f0, f1, fz, fl⟩ := cells2 (F2.heap HB0.out (fun h => h))
  have h2 := H1.out.fr0 F2
  have g13 := h2.sc.c13
  have g14 := h2.sc.c14
  have HH := hid (fun W (F : Fr (fun _ => False) w2 W) => (has_at (h2.bits.fr F (fun h => h) (fun h => h)) n hp))
  rw [HT.out] at HH
  obtain ⟨lf, cf, hfm, hfs⟩ := h2.fr.ex
  have hlk := fun (W : World) (hW : W.heap[B.fr]? = some (.map (ents lf) cf)) => run_lookup (P := Tryz.prog) (T := 153) false Tryz.underlying153 Tryz.underlying3 Tryz.zero4 hW n
  rw [hfs.at_, HF.out] at hlk
  simp only [if_true, Option.getD_some, Bool.false_eq_true, if_false] at hlk
  have HF2 := hid F2
  have H2 := hid h2
  clear F2 h2 hfs
  go_wp2
  go_quiet ((go_at_call 88; exact quiet_left (HH.out _ ((Fr.refl _ _).drewN _))))
  go_wp2
  go_quiet (fail)
  go_wp2
  have e12 : w2.cell? ⟨B.s, 12, none⟩ = some (.int .i64 x.gen) := H2.out.sc.c12
  have hsl : SlB w2 la ll lc bs := ⟨(HIN.out.1.by_.fr HF1.out (fun _ _ _ _ h => h)).fr HF2.out (fun _ _ _ _ h => h), HIN.out.1.at_⟩
  have HL := hid hsl.by_.len
  have HC := hid (fun W (F : Fr (fun _ => False) w2 W) => (clone_v (w := W) ⟨hsl.by_.fr F (fun _ _ _ _ h => h), hsl.at_⟩ (by omega)).mono
    (fun (e : Ending) W' ⟨a', c', he, hb, F'⟩ => (⟨a', c', he, hb, F.trans F' (fun _ _ h => h)⟩ : ∃ a' c', e = Ending.returned (.slice a' ll c') ∧ ByV W' a' ll c' bs ∧ Fr (fun _ => False) w2 W')))
  have ls : B.s < w2.heap.size := H2.out.sc.lt
  have ms : ¬ w.heap.size + 1 = B.s := by omega
  have HBB := hid (And.intro (HF2.out.heap HB0.out (fun h => h)) (HF2.out.heap HB1.out (fun h => h)))
  clear hsl HB0 HB1 d0 d1 dz hlk hfm c11 g13 g14 fz
  go_region_held3 (fun W => W.cell? ⟨w.heap.size, 0, none⟩ = some (.int .i64 n) ∧ W.cell? ⟨B.s, 12, none⟩ = some (.int .i64 x.gen)) (go_keep)
    (first
      | (go_at_call 83; refine (HC.out _ (by first | exact (Fr.refl _ _).drewN _ | exact ((Fr.refl _ _).drewN _).drew)).mono ?_; rintro e w4 ⟨a', c', rfl, hb4, F4⟩; have e12 := (F4.cell (p := ⟨B.s, 12, none⟩) ls (fun h => h)).trans e12; have f0 := (F4.cell (p := ⟨w.heap.size, 0, none⟩) fl (fun h => h)).trans f0; have e0 := (F4.cell (p := ⟨w.heap.size + 1, 0, none⟩) el (fun h => h)).trans e0; have e1 := (F4.cell (p := ⟨w.heap.size + 1, 1, none⟩) el (fun h => h)).trans e1; have HB4 := hid hb4; have HF4 := hid F4; clear hb4 F4)
      | (go_at_call 82; refine (HK.out _ ⟨x.gen, a', ll, c', true⟩ (H2.out.fr0 HF4.out) (FrB.none ((HF1.out.trans HF2.out (fun _ _ h => h)).trans HF4.out (fun _ _ h => h))) ⟨bs, HB4.out, by rw [HL.out]; exact hl⟩).mono ?_; rintro e w5 ⟨err, g, D, rfl, hg, ho, hS5, F5⟩; have e12 : w5.cell? ⟨B.s, 12, none⟩ = some (.int .i64 x.gen) := hS5.sc.c12; obtain ⟨f0, f1, fz, fl⟩ := cells2 (F5.heap (HF4.out.heap HBB.out.1 (fun h => h)) (by decide)); have hb5 := F5.heap (HF4.out.heap HBB.out.2 (fun h => h)) (by decide); obtain ⟨e0, e1, ez, el⟩ := cells2 hb5; have H5 := hid (And.intro hg (And.intro ho (And.intro hS5 (And.intro F5 hb5)))); clear hg ho hS5 F5 hb5))
  go_wp2
  refine bodyPost_ret (v := .tuple #[.agg #[.int .i64 n, .int .i64 x.gen], .int .i64 err]) (by simp [results, go_sem, *]) rfl ?_
  obtain ⟨hg, ho, hS5, F5, hb5⟩ := H5.out
  have FL : Fr (fun b => b = w.heap.size + 1) w5 ((w5.setCell ⟨w.heap.size + 1, 0, none⟩ (.int .i64 n)).setCell ⟨w.heap.size + 1, 1, none⟩ (.int .i64 x.gen)) := ((Fr.refl (fun b => b = w.heap.size + 1) _).setCell (a := ⟨w.heap.size + 1, 0, none⟩) (fun _ => rfl) _).setCell (a := ⟨w.heap.size + 1, 1, none⟩) (fun _ => rfl) _
  refine ⟨err, g, D, ⟨x.gen, a', ll, c', true⟩, rfl, hg, OutR_frL ho FL hb5 (by decide), hS5.frL FL hb5 (by decide), ⟨rfl, rfl, (HB4.out.frB F5).frL FL hb5 (by decide)⟩, ?_⟩
  exact (((FrB.none ((HF1.out.trans HF2.out (fun _ _ h => h)).trans HF4.out (fun _ _ h => h))).trans F5).setCell (a := ⟨w.heap.size + 1, 0, none⟩) (fun h => absurd h (by simp)) _).setCell (a := ⟨w.heap.size + 1, 1, none⟩) (fun h => absurd h (by simp)) _
end SF
end Go.Proofs.YtgdhaaokolfdoaaGreatDoor
