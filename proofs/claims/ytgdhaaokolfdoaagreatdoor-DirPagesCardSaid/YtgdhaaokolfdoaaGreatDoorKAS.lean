/- A pack of texts: SX, CN, FB. Conditions: those that each text names. -/
import Derived.Test.YtgdhaaokolfdoaaGreatDoorKAQ
import Derived.Test.YtgdhaaokolfdoaaGreatDoorKAR
import Derived.Test.YtgdhaaokolfdoaaGreatDoorKAH
import Derived.WalkMore
set_option linter.unusedVariables false
set_option linter.unusedSimpArgs false
set_option linter.unnecessarySimpa false
/- The store: Free, Mark. Conditions: the store lies in the world as StoreAt says. -/
namespace Go.Proofs.YtgdhaaokolfdoaaGreatDoor
open Go.RowKit Go.Sg Go.Sg.Bits Go.Sg.Clk CP
namespace SF
set_option maxHeartbeats 1000000 in
theorem free_none {w : World} {B : Blk} {x : Sto} (h : StoreAt w B x) (n : Nat) (st : Int) (hp : n < x.pages) (ht : x.taken n = false) :
    Calls Tryz.prog 27 #[B.ptr, .agg #[.int .i64 n, .int .i64 st]] w fun e w' => e = .returned (.int .i64 7) ∧ Fr (fun _ => False) w w' := by
  obtain ⟨w1, hw1⟩ : ∃ w1, w.alloc (.cells #[.int .i64 n, .int .i64 st] 35) = w1 := ⟨_, rfl⟩
  have F1 : Fr (fun _ => False) w w1 := by rw [← hw1]; exact (Fr.refl _ _).alloc _
  have b1 : w1.heap[w.heap.size]? = some (.cells #[.int .i64 n, .int .i64 st] 35) := by rw [← hw1]; exact heap_alloc_new _ _
  obtain ⟨d0, d1, dz, dl⟩ := cells2 b1
  have HI := hid (in_ok (h.fr0 F1) n st (by omega) (by omega))
  have H1 := hid (h.fr0 F1)
  have HT := hid ht
  have HW := hid hw1
  have HB1 := hid b1
  have HF1 := hid F1
  clear hw1 b1 F1 h ht
  go_enter Tryz.func27, Tryz.ntmps27
  go_wp2_with fail
  rw [HW.out]
  refine HI.out.mono ?_
  rintro e w2 ⟨rfl, F2⟩
  obtain ⟨f0, f1, fz, fl⟩ := cells2 (F2.heap HB1.out (fun h => h))
  have h2 := H1.out.fr0 F2
  have g13 := h2.sc.c13
  have HH := hid (fun W (F : Fr (fun _ => False) w2 W) => (has_at (h2.bits.fr F (fun h => h) (fun h => h)) n hp))
  rw [HT.out] at HH
  have HF2 := hid F2
  clear F2 h2
  go_wp2
  go_quiet ((go_at_call 88; exact quiet_left (HH.out _ ((Fr.refl _ _).drewN _))))
  go_wp2
  go_ret
  exact ⟨rfl, (HF1.out.trans HF2.out (fun _ _ h => h)).drewN _⟩
theorem gone_any {w : World} {B : Blk} {x : Sto} (h : StoreAt w B x) {n : Nat} (hn : n < x.pages) (ht : x.taken n = true) :
    Calls Tryz.prog 89 #[B.ptr, .int .i64 n] w fun e w' => e = .returned (.tuple #[]) ∧ StoreAt w' B (goneX x n) ∧ FrB B w w' := by
  cases hf : x.fresh n with
  | false => exact (gone_dying h hn hf).mono fun e w' ⟨he, hS, hF⟩ => ⟨he, hS, h.frB hF⟩
  | true => exact (gone_fresh h hn hf ht).mono fun e w' ⟨he, hS, hF⟩ => ⟨he, hS, h.frB hF⟩
set_option maxHeartbeats 2000000 in
theorem free_ok {w : World} {B : Blk} {x : Sto} (h : StoreAt w B x) (n : Nat) (st : Int) (hp : n < x.pages) (ht : x.taken n = true) (hy : x.dying n = false) (he : x.dead n = false) :
    Calls Tryz.prog 27 #[B.ptr, .agg #[.int .i64 n, .int .i64 st]] w fun e w' => e = .returned (.int .i64 0) ∧ StoreAt w' B (goneX x n) ∧ FrB B w w' := by
  obtain ⟨w1, hw1⟩ : ∃ w1, w.alloc (.cells #[.int .i64 n, .int .i64 st] 35) = w1 := ⟨_, rfl⟩
  have F1 : Fr (fun _ => False) w w1 := by rw [← hw1]; exact (Fr.refl _ _).alloc _
  have b1 : w1.heap[w.heap.size]? = some (.cells #[.int .i64 n, .int .i64 st] 35) := by rw [← hw1]; exact heap_alloc_new _ _
  obtain ⟨d0, d1, dz, dl⟩ := cells2 b1
  have HI := hid (in_ok (h.fr0 F1) n st (by omega) (by omega))
  have H1 := hid (h.fr0 F1)
  have HT := hid ht
  have HY := hid (And.intro hy he)
  have HW := hid hw1
  have HB1 := hid b1
  have HF1 := hid F1
  clear hw1 b1 F1 h ht hy he
  go_enter Tryz.func27, Tryz.ntmps27
  go_wp2_with fail
  rw [HW.out]
  refine HI.out.mono ?_
  rintro e w2 ⟨rfl, F2⟩
  obtain ⟨f0, f1, fz, fl⟩ := cells2 (F2.heap HB1.out (fun h => h))
  have h2 := H1.out.fr0 F2
  have g13 := h2.sc.c13
  have g15 := h2.sc.c15
  have g16 := h2.sc.c16
  have HH := hid (fun W (F : Fr (fun _ => False) w2 W) => (has_at (h2.bits.fr F (fun h => h) (fun h => h)) n hp))
  rw [HT.out] at HH
  obtain ⟨lf, cf, hfm, hfs⟩ := h2.dy.ex
  have hlk := fun (W : World) (hW : W.heap[B.dy]? = some (.map (ents lf) cf)) => run_lookup (P := Tryz.prog) (T := 153) false Tryz.underlying153 Tryz.underlying3 Tryz.zero4 hW n
  rw [hfs.at_, HY.out.1] at hlk
  simp only [if_true, Option.getD_some, Option.getD_none, Bool.false_eq_true, if_false] at hlk
  obtain ⟨le, ce, hem, hes⟩ := h2.de.ex
  have hlk2 := fun (W : World) (hW : W.heap[B.de]? = some (.map (ents le) ce)) => run_lookup (P := Tryz.prog) (T := 153) false Tryz.underlying153 Tryz.underlying3 Tryz.zero4 hW n
  rw [hes.at_, HY.out.2] at hlk2
  simp only [if_true, Option.getD_some, Option.getD_none, Bool.false_eq_true, if_false] at hlk2
  have HF2 := hid F2
  have H2 := hid h2
  clear F2 h2 hfs hes
  go_wp2
  go_quiet ((go_at_call 88; exact quiet_left (HH.out _ ((Fr.refl _ _).drewN _))))
  go_wp2_with fail
  refine (gone_any (H2.out.fr0 ((Fr.refl _ _).drewN nq)) hp HT.out).mono ?_
  rintro e w3 ⟨rfl, hS, F3⟩
  have H3 := hid (And.intro hS F3)
  clear hS F3
  go_wp2
  go_ret
  exact ⟨rfl, H3.out.1, (FrB.none (HF1.out.trans (HF2.out.drewN nq) (fun _ _ h => h))).trans H3.out.2⟩
set_option maxHeartbeats 2000000 in
theorem mark_free {w : World} {B : Blk} {x : Sto} (h : StoreAt w B x) (n : Nat) (st : Int) (hp : n < x.pages) (ht : x.taken n = false) :
    Calls Tryz.prog 28 #[B.ptr, .agg #[.int .i64 n, .int .i64 st]] w fun e w' => e = .returned (.int .i64 0) ∧ StoreAt w' B { x with taken := upd x.taken n true } ∧ FrB B w w' := by
  obtain ⟨w1, hw1⟩ : ∃ w1, w.alloc (.cells #[.int .i64 n, .int .i64 st] 35) = w1 := ⟨_, rfl⟩
  have F1 : Fr (fun _ => False) w w1 := by rw [← hw1]; exact (Fr.refl _ _).alloc _
  have b1 : w1.heap[w.heap.size]? = some (.cells #[.int .i64 n, .int .i64 st] 35) := by rw [← hw1]; exact heap_alloc_new _ _
  obtain ⟨d0, d1, dz, dl⟩ := cells2 b1
  have HI := hid (in_ok (h.fr0 F1) n st (by omega) (by omega))
  have H1 := hid (h.fr0 F1)
  have HT := hid ht
  have HW := hid hw1
  have HB1 := hid b1
  have HF1 := hid F1
  clear hw1 b1 F1 h ht
  go_enter Tryz.func28, Tryz.ntmps28
  go_wp2_with fail
  rw [HW.out]
  refine HI.out.mono ?_
  rintro e w2 ⟨rfl, F2⟩
  obtain ⟨f0, f1, fz, fl⟩ := cells2 (F2.heap HB1.out (fun h => h))
  have h2 := H1.out.fr0 F2
  have g13 := h2.sc.c13
  have NS := hid (h2.ner (r := .s) (r' := .bw) (by decide))
  have HH := hid (fun W (F : Fr (fun _ => False) w2 W) => (mark_new (h2.bits.fr F (fun h => h) (fun h => h)) n hp HT.out).mono (fun (e : Ending) W' ⟨he, hb, F'⟩ => (⟨he, hb, Fr.trans (S := fun b => b = B.bw) (S' := fun b => b = B.bw) (F.mono (fun _ _ h => h.elim)) F' (fun _ _ h => h)⟩ :
      e = Ending.returned (.bool true) ∧ BitsAt W' B.bs B.bw x.pages x.hand (upd x.taken n true) ∧ Fr (fun b => b = B.bw) w2 W')))
  have NW := hid (show ¬ w.heap.size = B.bw by
    have := H1.out.heaps .bw
    have h3 := kd_cells HB1.out
    intro e
    rw [e] at h3
    have h4 := this.2.2.2
    simp only [Blk.at_] at h4
    rw [h4] at h3
    simp [Role.kind] at h3)
  have ls := h2.sc.lt
  have HF2 := hid F2
  have H2 := hid h2
  clear F2 h2
  go_wp2
  go_region_held3 (fun W => W.cell? ⟨B.s, 13, none⟩ = some (.pointer (some ⟨B.bs, 0, none⟩)) ∧ W.cell? ⟨w.heap.size, 0, none⟩ = some (.int .i64 n)) (go_keep)
    ((go_at_call 90; refine (HH.out _ (by first | exact (Fr.refl _ _) | exact ((Fr.refl _ _).drew))).mono ?_; rintro e w3 ⟨rfl, hb3, F3⟩; have g13 := (F3.cell (p := ⟨B.s, 13, none⟩) ls NS.out).trans g13; have f0 := (F3.cell (p := ⟨w.heap.size, 0, none⟩) fl NW.out).trans f0; have H3 := hid (And.intro hb3 F3); clear hb3 F3))
  go_wp2
  go_ret
  obtain ⟨hb3, F3⟩ := H3.out
  have FR : FrR B [.bw] w2 w3 := F3.mono (fun b _ h => ⟨.bw, by simp, h⟩)
  have S := H2.out.stays FR
  refine ⟨rfl, ⟨S.s (by decide), S.dev (by decide) (by decide) (by decide), hb3, S.fr (by decide), S.dy (by decide), S.de (by decide), S.mem (by decide) (by decide) (by decide), S.load, H2.out.ne, H2.out.ge, H2.out.rg, H2.out.inr⟩, ?_⟩
  exact (FrB.none (HF1.out.trans HF2.out (fun _ _ h => h))).trans (H2.out.frB FR)
set_option maxHeartbeats 2000000 in
theorem mark_taken {w : World} {B : Blk} {x : Sto} (h : StoreAt w B x) (n : Nat) (st : Int) (hp : n < x.pages) (ht : x.taken n = true) :
    Calls Tryz.prog 28 #[B.ptr, .agg #[.int .i64 n, .int .i64 st]] w fun e w' => e = .returned (.int .i64 8) ∧ Fr (fun _ => False) w w' := by
  obtain ⟨w1, hw1⟩ : ∃ w1, w.alloc (.cells #[.int .i64 n, .int .i64 st] 35) = w1 := ⟨_, rfl⟩
  have F1 : Fr (fun _ => False) w w1 := by rw [← hw1]; exact (Fr.refl _ _).alloc _
  have b1 : w1.heap[w.heap.size]? = some (.cells #[.int .i64 n, .int .i64 st] 35) := by rw [← hw1]; exact heap_alloc_new _ _
  obtain ⟨d0, d1, dz, dl⟩ := cells2 b1
  have HI := hid (in_ok (h.fr0 F1) n st (by omega) (by omega))
  have H1 := hid (h.fr0 F1)
  have HT := hid ht
  have HW := hid hw1
  have HB1 := hid b1
  have HF1 := hid F1
  clear hw1 b1 F1 h ht
  go_enter Tryz.func28, Tryz.ntmps28
  go_wp2_with fail
  rw [HW.out]
  refine HI.out.mono ?_
  rintro e w2 ⟨rfl, F2⟩
  obtain ⟨f0, f1, fz, fl⟩ := cells2 (F2.heap HB1.out (fun h => h))
  have h2 := H1.out.fr0 F2
  have g13 := h2.sc.c13
  have HH := hid (fun W (F : Fr (fun _ => False) w2 W) => mark_there (h2.bits.fr F (fun h => h) (fun h => h)) n hp HT.out)
  have HF2 := hid F2
  clear F2 h2
  go_wp2
  go_quiet ((go_at_call 90; exact quiet_left (HH.out _ ((Fr.refl _ _).drewN _))))
  go_wp2
  go_ret
  exact ⟨rfl, (HF1.out.trans HF2.out (fun _ _ h => h)).drewN _⟩
end SF
end Go.Proofs.YtgdhaaokolfdoaaGreatDoor

/- The store in terms of its pages' contents: New, Read, Write, Free. Conditions: the store lies in the world as StoreC says. -/
namespace Go.Proofs.YtgdhaaokolfdoaaGreatDoor
open Go.RowKit Go.Sg Go.Sg.Bits Go.Sg.Clk CP SF
theorem _root_.Go.Sg.ByV.inp {w : World} {a : Option Addr} {n c : Nat} {bs : List Int} (h : ByV w a n c bs) (B : Blk) : Inp w B a n c bs := by
  refine ⟨h.slb, fun b off e => ?_⟩
  rcases h.at_ with ⟨h0, _⟩ | ⟨b', off', cs, h1, h2⟩
  · rw [h0] at e; cases e
  · rw [h1] at e; cases e
    exact .inr (.inr (kd_cells h2))
theorem Holds.of {w : World} {x x' : Sto} {c : Cont} {P : Prot} (h : Holds w x c P) (h1 : x'.mem = x.mem) (h2 : x'.dev = x.dev) (h3 : x'.first = x.first) (h4 : x'.pages = x.pages) (h5 : x'.room = x.room) : Holds w x' c P :=
  ⟨by rw [h4, h5]; exact h.ok, by rw [h1, h2, h3]; exact h.mem, by rw [h1, h2, h3]; exact h.dev⟩
theorem gen_lt {w : World} {B : Blk} {x : Sto} (h : StoreAt w B x) : x.gen < 9223372036854775808 := by have := h.rg.2.1; omega
theorem Apart.new {t : Nat → Bool} {f y d : Int → Bool} (h : Apart t f y d) {n : Nat} (hn : t n = false) : Apart (upd t n true) (updI f n true) y d := by
  have hy : y n = false := by
    cases e : y n with
    | false => rfl
    | true => rw [h.yt n e] at hn; cases hn
  have hd : d n = false := by
    cases e : d n with
    | false => rfl
    | true => rw [h.et n e] at hn; cases hn
  refine ⟨fun k hk => ?_, fun k hk => ?_, fun k hk => ?_, fun k hk => ?_, h.ye⟩
  · simp only [updI] at hk
    simp only [upd]
    split
    · rfl
    · rename_i e
      rw [if_neg (by omega)] at hk
      exact h.ft k hk
  · simp only [upd]
    split
    · rfl
    · exact h.yt k hk
  · simp only [upd]
    split
    · rfl
    · exact h.et k hk
  · simp only [updI] at hk
    split at hk
    · rename_i e; subst e; exact ⟨hy, hd⟩
    · exact h.fy k hk
/-- What New does. -/
def NewC (B : Blk) (y : Cs) (P : Prot) (a : Bool) (N : Nat) (bs : List Int) (w : World) (e : Ending) (w' : World) : Prop :=
  ∃ n err, TakeIs y.taken y.pages y.hand n ∧ e = .returned (.tuple #[refV err n y.gen, .int .i64 err]) ∧ Went w' B y (y.new n bs) P a (N + 1) err ∧ FrB B w w'
/-- The plain side of New. -/
theorem new_plain {w w' : World} {B : Blk} {x : Sto} {c : Cont} {P : Prot} {a : Bool} {N : Nat} (hS : StoreAt w B x) (hi : Is w x c P a N) (hT : Tab w) (hb : 0 < B.base) {la : Option Addr} {ll lc : Nat} {bs : List Int} (hl : bs.length ≤ x.room) (hby : ∀ b ∈ bs, 0 ≤ b ∧ b < 256) (hN : N + 1 ≤ 90000)
    {e : Ending} {n : Nat} {err : Int} {g : Option (Int × Pg)} {D : Dev} {p : Pg} (hn : TakeIs x.taken x.pages x.hand n) (hg : GoneOk x.mem x.places n g) (ho : OutR w' x g D err) (hS' : StoreAt w' B { tk x n with mem := putF x.mem n p g, dev := D })
    (hp : p.stamp = x.gen ∧ p.dirty = true ∧ ByV w' p.la p.ll p.lc bs) (F : FrB B w w') :
    ((err = 0 ∧ Is w' { tk x n with mem := putF x.mem n p g, dev := D } (updC c n (some (x.gen, bs))) P a (N + 1)) ∨ (err = 4 ∧ a = true ∧ D.down = true)) ∧ (DevOk D P a (N + 1) ∧ D.sectors = x.dev.sectors ∧ D.size = x.dev.size) := by
  have hrg := hS.rg
  have hgen := gen_lt hS
  have hpn : P (x.first + n) = none := by
    cases hP : P (x.first + n) with
    | none => rfl
    | some v =>
      have := (hi.ptk n hn.1 (by rw [hP]; simp)).1
      rw [hn.2.1] at this; cases this
  obtain ⟨h1, h2, h3⟩ := goes hi.holds hi.dev hi.down hg ho F ⟨hp.1, hp.2.2⟩ (n := n) (st := x.gen) ⟨by have := hn.1; omega, hgen, hl, hby⟩ ⟨hrg.2.2.2.2, hrg.2.2.2.1, hrg.2.2.1⟩ (fun _ => hpn) (fun hc => by rw [hp.2.1] at hc; cases hc)
  refine ⟨?_, h1⟩
  rcases h2 with ⟨rfl, hD⟩ | ⟨rfl, ha, hD⟩
  · refine .inl ⟨rfl, hD, h1.1, h3 _ rfl rfl rfl rfl rfl, fun k hk hP => ?_, hi.apart.new hn.2.1, hN⟩
    obtain ⟨a1, a2⟩ := hi.ptk k hk hP
    have hkn : k ≠ n := by rintro rfl; rw [hn.2.1] at a1; cases a1
    exact ⟨by show upd x.taken n true k = true; simp [upd, hkn, a1], by show updI x.fresh n true k = false; simp only [updI]; rw [if_neg (by omega)]; exact a2⟩
  · exact .inr ⟨rfl, ha, hD⟩
theorem new_c {w : World} {B : Blk} {y : Cs} {P : Prot} {a : Bool} {N : Nat} (h : StoreC w B y P a N) {la : Option Addr} {ll lc : Nat} {bs : List Int} (hin : Inp w B la ll lc bs) (hby : ∀ b ∈ bs, 0 ≤ b ∧ b < 256) (hl : ll ≤ y.room) {j : Nat} (hj : j < y.pages) (hfree : y.taken j = false) (hN : N + 1 ≤ 90000) :
    Calls Tryz.prog 22 #[B.ptr, .slice la ll lc] w (NewC B y P a N bs w) := by
  obtain ⟨⟨x, c, hS, rfl, hi⟩, hT, hb⟩ := h
  have hlen := hin.1.by_.len
  refine (SF.new_ok hS hT hb hin hl hj hfree fun W p n hn hS' hF hp => keep_dev hS' ((hi.holds.frB hF).good : GoodMem W x) (hi.dev.up hi.down hi.few) n p hp).mono ?_
  rintro e w' ⟨n, err, g, D, p, hn, he, hg, ho, hS', hp, F⟩
  obtain ⟨h1, h2⟩ := new_plain hS hi hT hb (la := la) (ll := ll) (lc := lc) (e := e) (by rw [hlen]; exact hl) hby hN hn hg ho hS' hp F
  refine ⟨n, err, hn, he, ?_, F⟩
  rcases h1 with ⟨rfl, h1⟩ | ⟨rfl, ha, hD⟩
  · refine .inl ⟨rfl, ⟨_, _, hS', ?_, h1⟩, hT.fr F (fun h => by omega), hb⟩
    show Cs.new (x.cs c) n bs = _
    simp [Cs.new, Sto.cs, tk, h2.2.1, h2.2.2]
  · subst ha
    exact .inr ⟨rfl, rfl, ⟨D, hS'.dev, h2.1, hD, h2.2.1, h2.2.2⟩⟩
theorem new_long_c {w : World} {B : Blk} {y : Cs} {P : Prot} {a : Bool} {N : Nat} (h : StoreC w B y P a N) (la : Option Addr) (ll lc : Nat) (hl : y.room < ll) :
    Calls Tryz.prog 22 #[B.ptr, .slice la ll lc] w fun e w' => e = .returned (.tuple #[.agg #[.int .i64 0, .int .i64 0], .int .i64 9]) ∧ Fr (fun _ => False) w w' := by
  obtain ⟨⟨x, c, hS, rfl, hi⟩, hT, hb⟩ := h
  exact new_long hS la ll lc hl
theorem new_full_c {w : World} {B : Blk} {y : Cs} {P : Prot} {a : Bool} {N : Nat} (h : StoreC w B y P a N) (la : Option Addr) (ll lc : Nat) (hl : ll ≤ y.room) (hall : allTaken y.taken y.pages 0 y.pages) :
    Calls Tryz.prog 22 #[B.ptr, .slice la ll lc] w fun e w' => e = .returned (.tuple #[.agg #[.int .i64 0, .int .i64 0], .int .i64 6]) ∧ Fr (fun _ => False) w w' := by
  obtain ⟨⟨x, c, hS, rfl, hi⟩, hT, hb⟩ := h
  exact new_full hS hT la ll lc hl hall
/-- What Read of a page with a load does. -/
def ReadC (B : Blk) (y : Cs) (P : Prot) (a : Bool) (N : Nat) (stamp : Nat) (st : Int) (load : List Int) (w : World) (e : Ending) (w' : World) : Prop :=
  ∃ err, Went w' B y y P a (N + 1) err ∧ FrB B w w' ∧ (err ≠ 0 → e = .returned (.tuple #[.slice none 0 0, .int .i64 err])) ∧ (err = 0 → (stamp : Int) ≠ st → e = .returned (.tuple #[.slice none 0 0, .int .i64 5])) ∧
    (err = 0 → (stamp : Int) = st → ∃ la lc, e = .returned (.tuple #[.slice la load.length lc, .int .i64 0]) ∧ ByV w' la load.length lc load)
theorem read_c {w : World} {B : Blk} {y : Cs} {P : Prot} {a : Bool} {N : Nat} (h : StoreC w B y P a N) (p : Nat) (st : Int) {stamp : Nat} {load : List Int} (hc : y.cont p = some (stamp, load)) (hN : N + 1 ≤ 90000) :
    Calls Tryz.prog 24 #[B.ptr, .agg #[.int .i64 p, .int .i64 st]] w (ReadC B y P a N stamp st load w) := by
  obtain ⟨⟨x, c, hS, rfl, hi⟩, hT, hb⟩ := h
  obtain ⟨g1, g2, g3, g4⟩ := hi.holds.ok p stamp load hc
  have hrg := hS.rg
  have hsec := hS.dev.rg.1.2
  cases hm : x.mem p with
  | some q =>
    obtain ⟨s0, b0, a1, a2, a3, _⟩ := hi.holds.mem p q hm
    have hc' : c p = some (stamp, load) := hc
    rw [hc'] at a1
    cases a1
    refine (read_hit hS p st g1.1 g1.2 hm a3).mono ?_
    rintro e w' ⟨he, hS', F⟩
    refine ⟨0, .inl ⟨rfl, ⟨x, c, hS', rfl, { hi with dev := hi.dev.mono (Nat.le_succ _), holds := hi.holds.frB F, few := hN }⟩, hT.fr F (fun h => by omega), hb⟩, F, fun h => absurd rfl h, fun _ hne => ?_, fun _ heq => ?_⟩
    · rw [if_neg (by rw [a2]; exact hne)] at he; exact he
    · rw [if_pos (by rw [a2]; exact heq)] at he; exact he
  | none =>
    refine (read_dev hS hi.holds.good (hi.dev.up hi.down hi.few) p stamp st load g1.2 hm hi.dev.len (by have := hi.holds.dev p stamp load hc hm; simpa using this) g4 (by omega) g2 (by omega) g3).mono ?_
    rintro e w' ⟨err, g, D, la, lc, hg, ho, hbv, hS', F, e1, e2, e3⟩
    obtain ⟨h1, h2, h3⟩ := goes hi.holds hi.dev hi.down hg ho F (p := ⟨stamp, la, load.length, lc, false⟩) (st := stamp) ⟨rfl, hbv⟩ ⟨g1, g2, g3, g4⟩ ⟨hrg.2.2.2.2, hrg.2.2.2.1, hrg.2.2.1⟩ (fun h => by cases h) (fun _ => by have := hi.holds.dev p stamp load hc hm; simpa using this)
    refine ⟨err, ?_, F, e1, e2, e3⟩
    rcases h2 with ⟨rfl, hD⟩ | ⟨rfl, ha, hD⟩
    · have ec : updC c p (some (stamp, load)) = c := by
        funext k
        simp only [updC]
        split
        · rename_i e; rw [e]; exact hc.symm
        · rfl
      have h3' := h3 { x with mem := putF x.mem p ⟨stamp, la, load.length, lc, false⟩ g, dev := D } rfl rfl rfl rfl rfl
      rw [ec] at h3'
      refine .inl ⟨rfl, ⟨_, c, hS', ?_, hD, h1.1, h3', hi.ptk, hi.apart, hN⟩, hT.fr F (fun h => by omega), hb⟩
      simp [Sto.cs, h1.2.1, h1.2.2]
    · subst ha
      exact .inr ⟨rfl, rfl, ⟨D, hS'.dev, h1.1, hD, h1.2.1, h1.2.2⟩⟩
end Go.Proofs.YtgdhaaokolfdoaaGreatDoor

/- plan: within. Conditions: none. -/
namespace Go.Sg
/-- Are all numbers of a plan between their bounds? -/
def withinM (p : Plan8) : Bool := decide ((96 ≤ p.size ∧ p.size ≤ 512) ∧ (1 ≤ p.sectors ∧ p.sectors ≤ 16384) ∧ (3 ≤ p.regions ∧ p.regions ≤ 64) ∧ (1 ≤ p.rsectors ∧ p.rsectors ≤ 32) ∧ (4 ≤ p.log ∧ p.log ≤ 256) ∧ (0 ≤ p.depth ∧ p.depth ≤ 8) ∧ (8 ≤ p.memory ∧ p.memory ≤ 256))
def okTo (p : Plan8) (k : Nat) : Prop := (0 < k → 96 ≤ p.size ∧ p.size ≤ 512) ∧ (1 < k → 1 ≤ p.sectors ∧ p.sectors ≤ 16384) ∧ (2 < k → 3 ≤ p.regions ∧ p.regions ≤ 64) ∧ (3 < k → 1 ≤ p.rsectors ∧ p.rsectors ≤ 32) ∧ (4 < k → 4 ≤ p.log ∧ p.log ≤ 256) ∧ (5 < k → 0 ≤ p.depth ∧ p.depth ≤ 8) ∧ (6 < k → 8 ≤ p.memory ∧ p.memory ≤ 256)
end Go.Sg
namespace Go.Proofs.YtgdhaaokolfdoaaGreatDoor
open Go.RowKit Go.Sg
theorem idx0 (p : Plan8) (w : World) : (Instr.index 327 (.agg (bndL p).toArray) (.int .i64 0)).run Tryz.prog w = .ok (.agg #[.int .i64 p.size, .int .i64 96, .int .i64 512]) w := by kernel_rfl
theorem idx1 (p : Plan8) (w : World) : (Instr.index 327 (.agg (bndL p).toArray) (.int .i64 1)).run Tryz.prog w = .ok (.agg #[.int .i64 p.sectors, .int .i64 1, .int .i64 16384]) w := by kernel_rfl
theorem idx2 (p : Plan8) (w : World) : (Instr.index 327 (.agg (bndL p).toArray) (.int .i64 2)).run Tryz.prog w = .ok (.agg #[.int .i64 p.regions, .int .i64 3, .int .i64 64]) w := by kernel_rfl
theorem idx3 (p : Plan8) (w : World) : (Instr.index 327 (.agg (bndL p).toArray) (.int .i64 3)).run Tryz.prog w = .ok (.agg #[.int .i64 p.rsectors, .int .i64 1, .int .i64 32]) w := by kernel_rfl
theorem idx4 (p : Plan8) (w : World) : (Instr.index 327 (.agg (bndL p).toArray) (.int .i64 4)).run Tryz.prog w = .ok (.agg #[.int .i64 p.log, .int .i64 4, .int .i64 256]) w := by kernel_rfl
theorem idx5 (p : Plan8) (w : World) : (Instr.index 327 (.agg (bndL p).toArray) (.int .i64 5)).run Tryz.prog w = .ok (.agg #[.int .i64 p.depth, .int .i64 0, .int .i64 8]) w := by kernel_rfl
theorem idx6 (p : Plan8) (w : World) : (Instr.index 327 (.agg (bndL p).toArray) (.int .i64 6)).run Tryz.prog w = .ok (.agg #[.int .i64 p.memory, .int .i64 8, .int .i64 256]) w := by kernel_rfl
set_option maxRecDepth 100000 in
set_option maxHeartbeats 4000000 in
theorem within_ok (p : Plan8) (w : World) : Calls Tryz.prog 158 #[p.val] w fun e w' => e = .returned (.bool (withinM p)) ∧ Fr (fun _ => False) w w' := by
  have HB := hid (fun W => bounds_ok p W)
  obtain ⟨V, hV⟩ : ∃ V, (Value.agg (bndL p).toArray) = V := ⟨_, rfl⟩
  have i0 := idx0 p
  have i1 := idx1 p
  have i2 := idx2 p
  have i3 := idx3 p
  have i4 := idx4 p
  have i5 := idx5 p
  have i6 := idx6 p
  rw [hV] at i0 i1 i2 i3 i4 i5 i6
  simp only [hV] at HB
  obtain ⟨a, b, c, d, f, g, h, s⟩ := p
  clear hV
  go_enter Tryz.func158, Tryz.ntmps158
  go_wp2
  go_step3
  go_wp2
  go_step3
  go_wp2_with fail
  refine (HB.out _).mono ?_
  rintro e w1 ⟨rfl, F1⟩
  have G1 := hid (((Fr.refl (fun _ => False) w).alloc _).trans F1 (fun _ _ h => h))
  clear F1
  go_wp2
  go_loopw [3, 8] (fun r i wr => ∃ k : Nat, k ≤ 7 ∧ i = .int .i64 k ∧ r = .bool true ∧ okTo ⟨a, b, c, d, f, g, h, s⟩ k ∧ Fr (fun _ => False) w wr) (fun _ i _ => 7 - (Go.RowKit.intOf i).toNat)
  case atStart => exact ⟨0, by omega, rfl, rfl, by simp [okTo], G1.out⟩
  case round =>
    obtain ⟨k, hk, rfl, rfl, hok, hF⟩ := hrel
    have HOK := hid hok
    have HF := hid hF
    clear hok hF
    rcases (show k = 0 ∨ k = 1 ∨ k = 2 ∨ k = 3 ∨ k = 4 ∨ k = 5 ∨ k = 6 ∨ k = 7 by omega) with rfl | rfl | rfl | rfl | rfl | rfl | rfl | rfl
    · have ho := HOK.out
      simp only [okTo] at ho
      have HO := hid ho
      clear ho
      go_wp2
      · rw [Exit.noGoto_ret]
        go_ret
        exact ⟨by rw [show withinM ⟨a, b, c, d, f, g, h, s⟩ = false from decide_eq_false (by simp only; omega)]; rfl, HF.out.alloc _⟩
      · rw [Exit.noGoto_ret]
        go_ret
        exact ⟨by rw [show withinM ⟨a, b, c, d, f, g, h, s⟩ = false from decide_eq_false (by simp only; omega)]; rfl, HF.out.alloc _⟩
      · go_roundw
        case rel =>
          have ho := HO.out
          exact ⟨1, by omega, rfl, rfl, by simp only [okTo]; omega, HF.out.alloc _⟩
        case measure => simp [Go.RowKit.intOf]
    · have ho := HOK.out
      simp only [okTo] at ho
      have HO := hid ho
      clear ho
      go_wp2
      · rw [Exit.noGoto_ret]
        go_ret
        exact ⟨by rw [show withinM ⟨a, b, c, d, f, g, h, s⟩ = false from decide_eq_false (by simp only; omega)]; rfl, HF.out.alloc _⟩
      · rw [Exit.noGoto_ret]
        go_ret
        exact ⟨by rw [show withinM ⟨a, b, c, d, f, g, h, s⟩ = false from decide_eq_false (by simp only; omega)]; rfl, HF.out.alloc _⟩
      · go_roundw
        case rel =>
          have ho := HO.out
          exact ⟨2, by omega, rfl, rfl, by simp only [okTo]; omega, HF.out.alloc _⟩
        case measure => simp [Go.RowKit.intOf]
    · have ho := HOK.out
      simp only [okTo] at ho
      have HO := hid ho
      clear ho
      go_wp2
      · rw [Exit.noGoto_ret]
        go_ret
        exact ⟨by rw [show withinM ⟨a, b, c, d, f, g, h, s⟩ = false from decide_eq_false (by simp only; omega)]; rfl, HF.out.alloc _⟩
      · rw [Exit.noGoto_ret]
        go_ret
        exact ⟨by rw [show withinM ⟨a, b, c, d, f, g, h, s⟩ = false from decide_eq_false (by simp only; omega)]; rfl, HF.out.alloc _⟩
      · go_roundw
        case rel =>
          have ho := HO.out
          exact ⟨3, by omega, rfl, rfl, by simp only [okTo]; omega, HF.out.alloc _⟩
        case measure => simp [Go.RowKit.intOf]
    · have ho := HOK.out
      simp only [okTo] at ho
      have HO := hid ho
      clear ho
      go_wp2
      · rw [Exit.noGoto_ret]
        go_ret
        exact ⟨by rw [show withinM ⟨a, b, c, d, f, g, h, s⟩ = false from decide_eq_false (by simp only; omega)]; rfl, HF.out.alloc _⟩
      · rw [Exit.noGoto_ret]
        go_ret
        exact ⟨by rw [show withinM ⟨a, b, c, d, f, g, h, s⟩ = false from decide_eq_false (by simp only; omega)]; rfl, HF.out.alloc _⟩
      · go_roundw
        case rel =>
          have ho := HO.out
          exact ⟨4, by omega, rfl, rfl, by simp only [okTo]; omega, HF.out.alloc _⟩
        case measure => simp [Go.RowKit.intOf]
    · have ho := HOK.out
      simp only [okTo] at ho
      have HO := hid ho
      clear ho
      go_wp2
      · rw [Exit.noGoto_ret]
        go_ret
        exact ⟨by rw [show withinM ⟨a, b, c, d, f, g, h, s⟩ = false from decide_eq_false (by simp only; omega)]; rfl, HF.out.alloc _⟩
      · rw [Exit.noGoto_ret]
        go_ret
        exact ⟨by rw [show withinM ⟨a, b, c, d, f, g, h, s⟩ = false from decide_eq_false (by simp only; omega)]; rfl, HF.out.alloc _⟩
      · go_roundw
        case rel =>
          have ho := HO.out
          exact ⟨5, by omega, rfl, rfl, by simp only [okTo]; omega, HF.out.alloc _⟩
        case measure => simp [Go.RowKit.intOf]
    · have ho := HOK.out
      simp only [okTo] at ho
      have HO := hid ho
      clear ho
      go_wp2
      · rw [Exit.noGoto_ret]
        go_ret
        exact ⟨by rw [show withinM ⟨a, b, c, d, f, g, h, s⟩ = false from decide_eq_false (by simp only; omega)]; rfl, HF.out.alloc _⟩
      · rw [Exit.noGoto_ret]
        go_ret
        exact ⟨by rw [show withinM ⟨a, b, c, d, f, g, h, s⟩ = false from decide_eq_false (by simp only; omega)]; rfl, HF.out.alloc _⟩
      · go_roundw
        case rel =>
          have ho := HO.out
          exact ⟨6, by omega, rfl, rfl, by simp only [okTo]; omega, HF.out.alloc _⟩
        case measure => simp [Go.RowKit.intOf]
    · have ho := HOK.out
      simp only [okTo] at ho
      have HO := hid ho
      clear ho
      go_wp2
      · rw [Exit.noGoto_ret]
        go_ret
        exact ⟨by rw [show withinM ⟨a, b, c, d, f, g, h, s⟩ = false from decide_eq_false (by simp only; omega)]; rfl, HF.out.alloc _⟩
      · rw [Exit.noGoto_ret]
        go_ret
        exact ⟨by rw [show withinM ⟨a, b, c, d, f, g, h, s⟩ = false from decide_eq_false (by simp only; omega)]; rfl, HF.out.alloc _⟩
      · go_roundw
        case rel =>
          have ho := HO.out
          exact ⟨7, by omega, rfl, rfl, by simp only [okTo]; omega, HF.out.alloc _⟩
        case measure => simp [Go.RowKit.intOf]
    · have ho := HOK.out
      simp only [okTo] at ho
      have HO := hid ho
      clear ho
      go_wp2
      rw [Exit.noGoto_ret]
      go_ret
      have ho := HO.out
      exact ⟨by rw [show withinM ⟨a, b, c, d, f, g, h, s⟩ = true from decide_eq_true (by simp only; omega)]; rfl, HF.out⟩
end Go.Proofs.YtgdhaaokolfdoaaGreatDoor
