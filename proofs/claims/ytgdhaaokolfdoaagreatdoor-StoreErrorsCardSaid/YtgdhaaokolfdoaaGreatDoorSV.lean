/- The store: Write where the page is of the last commit. Conditions: the store lies in the world as StoreAt says. -/
import Derived.Test.YtgdhaaokolfdoaaGreatDoorSW
namespace Go.Proofs.YtgdhaaokolfdoaaGreatDoor
open Go.RowKit Go.Sg Go.Sg.Bits Go.Sg.Clk CP
namespace SF
/-- A store behind Write gave a page of the last commit another one. -/
def moved (x : Sto) (n m : Nat) (p : Pg) (g : Option (Int × Pg)) (D : Dev) (err : Int) : Sto :=
  if err = 0 then { tk x m with mem := putF x.mem m p g, dev := D, dying := updI x.dying n true } else { tk x m with mem := putF x.mem m p g, dev := D }
def WNew (B : Blk) (x : Sto) (n : Nat) (bs : List Int) (w : World) (e : Ending) (w' : World) : Prop :=
  ∃ m err g D p, TakeIs x.taken x.pages x.hand m ∧ e = .returned (.tuple #[refV err m x.gen, .int .i64 err]) ∧ GoneOk x.mem x.places m g ∧ OutR w' x g D err ∧
    StoreAt w' B (moved x n m p g D err) ∧ (p.stamp = x.gen ∧ p.dirty = true ∧ ByV w' p.la p.ll p.lc bs) ∧ FrB B.base w w'
set_option maxHeartbeats 2000000 in
theorem write_new {w : World} {B : Blk} {x : Sto} (h : StoreAt w B x) (n : Nat) (st : Int) {la : Option Addr} {ll lc : Nat} {bs : List Int} (hl : ll ≤ x.room) (hp : n < x.pages) (ht : x.taken n = true) (hf : x.fresh n = false)
    (hk : ∀ W, StoreAt W B x → Fr (fun _ => False) w W → Calls Tryz.prog 22 #[B.ptr, .slice la ll lc] W (NewPost B x bs W)) :
    Calls Tryz.prog 26 #[B.ptr, .agg #[.int .i64 n, .int .i64 st], .slice la ll lc] w (WNew B x n bs w) := by
  obtain ⟨w1, hw1⟩ : ∃ w1, (w.alloc (.cells #[.int .i64 n, .int .i64 st] 35)).alloc (.cells #[.int .i64 0, .int .i64 0] 35) = w1 := ⟨_, rfl⟩
  obtain ⟨b0, b1, F1⟩ := heap_two hw1
  obtain ⟨d0, d1, dz, dl⟩ := cells2 b0
  have c11 := h.sc.c11
  have l := h.sc.lt
  have HI := hid (in_ok (h.fr0 F1) n st (by omega) (by omega))
  have H1 := hid (h.fr0 F1)
  have HT := hid ht
  have HF := hid hf
  have HW := hid hw1
  have HB0 := hid b0
  have HB1 := hid b1
  have HF1 := hid F1
  have HK := hid hk
  clear hw1 b0 b1 F1 h ht hf hk
  go_enter Tryz.func26, Tryz.ntmps26
  go_wp2_with fail
  rw [HW.out]
  refine HI.out.mono ?_
  rintro e w2 ⟨rfl, F2⟩
  obtain ⟨e0, e1, ez, el⟩ := cells2 (F2.heap HB1.out (fun h => h))
  obtain ⟨f0, f1, fz, fl⟩ := cells2 (F2.heap HB0.out (fun h => h))
  have h2 := H1.out.fr0 F2
  have g13 := h2.sc.c13
  have g14 := h2.sc.c14
  have HH := hid (fun W (F : Fr (fun _ => False) w2 W) => (has_at (h2.bits.fr F (fun h => h) (fun h => h)) n hp))
  rw [HT.out] at HH
  obtain ⟨lf, cf, hfm, hfs⟩ := h2.fr.ex
  have hlk := fun (W : World) (hW : W.heap[B.fr]? = some (.map (ents lf) cf)) => run_lookup (P := Tryz.prog) (T := 153) false Tryz.underlying153 Tryz.underlying3 Tryz.zero4 hW n
  rw [hfs.at_, HF.out] at hlk
  simp only [Bool.false_eq_true, if_false, Option.getD_none] at hlk
  have HF2 := hid F2
  have H2 := hid h2
  clear F2 h2 hfs
  go_wp2
  go_quiet ((go_at_call 88; exact quiet_left (HH.out _ ((Fr.refl _ _).drewN _))))
  go_wp2
  go_quiet (fail)
  go_wp2_with fail
  have HBB := hid (And.intro (HF2.out.heap HB0.out (fun h => h)) (HF2.out.heap HB1.out (fun h => h)))
  have ls : B.s < w2.heap.size := H2.out.sc.lt
  have ms : ¬ w.heap.size + 1 = B.s := by omega
  have HK2 := hid (fun W (F : Fr (fun _ => False) w2 W) => (HK.out W (H2.out.fr0 F) ((HF1.out.trans HF2.out (fun _ _ h => h)).trans F (fun _ _ h => h))).mono
    (fun (e : Ending) W' hN => (⟨W, F, hN⟩ : ∃ W, Fr (fun _ => False) w2 W ∧ NewPost B x bs W e W')))
  clear hlk hfm HB0 HB1 d0 d1 dz c11 g13 g14 fz
  refine (HK2.out _ (by first | exact (Fr.refl _ _).drewN _ | exact ((Fr.refl _ _).drewN _).drew)).mono ?_
  rintro e w5 ⟨W, FW, m, err, g, D, p, hm, rfl, hg, ho, hS5, hpp, F5⟩
  obtain ⟨f0, f1, fz, fl⟩ := cells2 (F5.heap (FW.heap HBB.out.1 (fun h => h)) (by decide))
  have hb5 := F5.heap (FW.heap HBB.out.2 (fun h => h)) (by decide)
  have hb6 := F5.heap (FW.heap HBB.out.1 (fun h => h)) (by decide)
  have FF : FrB B.base w w5 := (FrB.none ((HF1.out.trans HF2.out (fun _ _ h => h)).trans FW (fun _ _ h => h))).trans F5
  have hmn : (tk x m).fresh n = false := by
    have : ¬ (n : Int) = (m : Int) := fun e => by
      have e' : n = m := by omega
      rw [e', hm.2.1] at HT
      cases HT.out
    simp [tk, updI, this, HF.out]
  have HMN := hid hmn
  have H5 := hid (And.intro hm (And.intro hg (And.intro ho (And.intro hS5 (And.intro hpp (And.intro FF (And.intro hb5 hb6)))))))
  have ms5 : ¬ w5.heap.size = w.heap.size := by omega
  have ms6 : ¬ w5.heap.size = w.heap.size + 1 := by have := lt_of_heap hb5; omega
  clear hm hg ho hS5 hpp F5 FW FF hb5 hb6 hmn
  by_cases he : err = 0
  · subst he
    simp only [refV, if_true]
    obtain ⟨w6, hw6⟩ : ∃ w6, w5.alloc (.cells #[.int .i64 m, .int .i64 x.gen] 35) = w6 := ⟨_, rfl⟩
    have F6 : Fr (fun _ => False) w5 w6 := by rw [← hw6]; exact (Fr.refl _ _).alloc _
    have b6 : w6.heap[w5.heap.size]? = some (.cells #[.int .i64 m, .int .i64 x.gen] 35) := by rw [← hw6]; exact heap_alloc_new _ _
    have HG := hid (gone_dying (H5.out.2.2.2.1.fr0 F6) (n := n) hp HMN.out)
    have H6 := hid (And.intro F6 b6)
    have HW6 := hid hw6
    clear hw6 F6 b6
    go_wp2_with fail
    rw [HW6.out]
    refine HG.out.mono ?_
    rintro e w7 ⟨rfl, hS7, F7⟩
    have F57 : FrB B.base w5 w7 := (FrB.none H6.out.1).trans ((H5.out.2.2.2.1.fr0 H6.out.1).frB F7)
    have F67 : FrB B.base w6 w7 := (H5.out.2.2.2.1.fr0 H6.out.1).frB F7
    obtain ⟨g0, g1, gz, gl⟩ := cells2 (F67.heap H6.out.2 (by decide))
    have hb7 := F57.heap H5.out.2.2.2.2.2.2.1 (by decide)
    obtain ⟨k0, k1, kz, kl⟩ := cells2 hb7
    have H7 := hid (And.intro hS7 (And.intro F57 hb7))
    clear hS7 F7 F57 F67 hb7
    go_wp2
    refine bodyPost_ret (v := .tuple #[.agg #[.int .i64 m, .int .i64 x.gen], .int .i64 0]) (by simp [results, go_sem, *]) rfl ?_
    obtain ⟨hS7, F57, hb7⟩ := H7.out
    obtain ⟨hm, hg, ho, hS5, hpp, FF, hb5, hb6⟩ := H5.out
    have FL : Fr (fun b => b = w.heap.size + 1) w7 ((w7.setCell ⟨w.heap.size + 1, 0, none⟩ (.int .i64 m)).setCell ⟨w.heap.size + 1, 1, none⟩ (.int .i64 x.gen)) := ((Fr.refl (fun b => b = w.heap.size + 1) _).setCell (a := ⟨w.heap.size + 1, 0, none⟩) (fun _ => rfl) _).setCell (a := ⟨w.heap.size + 1, 1, none⟩) (fun _ => rfl) _
    refine ⟨m, 0, g, D, p, hm, rfl, hg, OutR_frL (OutR_frB ho F57) FL hb7 (by decide), ?_, ⟨hpp.1, hpp.2.1, (hpp.2.2.frB F57).frL FL hb7 (by decide)⟩, ?_⟩
    · have e : moved x n m p g D 0 = goneX { tk x m with mem := putF x.mem m p g, dev := D } n := by
        have : ({ tk x m with mem := putF x.mem m p g, dev := D } : Sto).fresh n = false := HMN.out
        rw [goneX, this, moved, if_pos rfl]; rfl
      rw [e]
      exact hS7.frL FL hb7 (by decide)
    · exact ((FF.trans F57).setCell (a := ⟨w.heap.size + 1, 0, none⟩) (fun h => absurd h (by simp)) _).setCell (a := ⟨w.heap.size + 1, 1, none⟩) (fun h => absurd h (by simp)) _
  · have he2 : (err == 0) = false := by simpa using he
    simp only [refV, if_neg he]
    obtain ⟨k0, k1, kz, kl⟩ := cells2 H5.out.2.2.2.2.2.2.1
    go_wp2
    refine bodyPost_ret (v := .tuple #[.agg #[.int .i64 0, .int .i64 0], .int .i64 err]) (by simp [results, go_sem, *]) rfl ?_
    obtain ⟨hm, hg, ho, hS5, hpp, FF, hb5, hb6⟩ := H5.out
    have FL : Fr (fun b => b = w.heap.size + 1) w5 (((w5.setCell ⟨w.heap.size + 1, 0, none⟩ (.int .i64 0)).setCell ⟨w.heap.size + 1, 1, none⟩ (.int .i64 0)).alloc (.cells #[.int .i64 0, .int .i64 0] 35)) := (((Fr.refl (fun b => b = w.heap.size + 1) _).setCell (a := ⟨w.heap.size + 1, 0, none⟩) (fun _ => rfl) _).setCell (a := ⟨w.heap.size + 1, 1, none⟩) (fun _ => rfl) _).alloc _
    refine ⟨m, err, g, D, p, hm, by rw [refV, if_neg he], hg, OutR_frL ho FL hb5 (by decide), ?_, ⟨hpp.1, hpp.2.1, hpp.2.2.frL FL hb5 (by decide)⟩, ?_⟩
    · rw [moved, if_neg he]
      exact hS5.frL FL hb5 (by decide)
    · exact ((FF.setCell (a := ⟨w.heap.size + 1, 0, none⟩) (fun h => absurd h (by simp)) _).setCell (a := ⟨w.heap.size + 1, 1, none⟩) (fun h => absurd h (by simp)) _).alloc _
end SF
end Go.Proofs.YtgdhaaokolfdoaaGreatDoor
