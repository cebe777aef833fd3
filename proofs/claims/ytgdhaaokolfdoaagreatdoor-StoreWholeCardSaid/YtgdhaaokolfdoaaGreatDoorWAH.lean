/- A pack of texts: SW, BU, BE, LG. Conditions: those that each text names. -/
import Derived.Test.YtgdhaaokolfdoaaGreatDoorWAG
import Derived.Test.YtgdhaaokolfdoaaGreatDoorWAF
import Derived.Laws.BytesArg
set_option linter.unusedVariables false
set_option linter.unusedSimpArgs false
set_option linter.unnecessarySimpa false
/- The store: Write. Conditions: the store lies in the world as StoreAt says. -/
namespace Go.Sg
theorem quiet_left {P : Program} {f : FuncId} {args : Array Value} {w : World} {n : Nat} {v : Value}
    (h : Calls P f args (w.drewN n) fun e w' => e = .returned v ∧ w.drewN n = w') : Calls P f args (w.drewN n) fun e w'' => e = .returned v ∧ ∃ m, w'' = w.drewN m :=
  h.mono fun _ _ ⟨he, hm⟩ => ⟨he, n, hm.symm⟩
end Go.Sg
namespace Go.Proofs.YtgdhaaokolfdoaaGreatDoor
open Go.RowKit Go.Sg Go.Sg.Bits Go.Sg.Clk CP
namespace SF
/-- What Write does to a page that was made since the last commit. -/
def WFresh (B : Blk) (x : Sto) (n : Nat) (bs : List Int) (w : World) (e : Ending) (w' : World) : Prop :=
  ∃ err g D p, e = .returned (.tuple #[.agg #[.int .i64 n, .int .i64 x.gen], .int .i64 err]) ∧ GoneOk x.mem x.places n g ∧ OutR w' x g D err ∧
    StoreAt w' B { x with mem := putF x.mem n p g, dev := D } ∧ (p.stamp = x.gen ∧ p.dirty = true ∧ ByV w' p.la p.ll p.lc bs) ∧ FrB B w w'
set_option maxHeartbeats 2000000 in
theorem write_fresh {w : World} {B : Blk} {x : Sto} (h : StoreAt w B x) (n : Nat) (st : Int) {la : Option Addr} {ll lc : Nat} {bs : List Int} (hin : Inp w B la ll lc bs) (hl : ll ≤ x.room) (hp : n < x.pages) (ht : x.taken n = true) (hf : x.fresh n = true)
    (hk : ∀ W p, StoreAt W B x → FrB B w W → (∃ bs, ByV W p.la p.ll p.lc bs ∧ bs.length ≤ x.room) → Calls Tryz.prog 82 #[B.ptr, .int .i64 n, p.val] W (KeepOut B x n p W)) :
    Calls Tryz.prog 26 #[B.ptr, .agg #[.int .i64 n, .int .i64 st], .slice la ll lc] w (WFresh B x n bs w) := by
  obtain ⟨w1, hw1⟩ : ∃ w1, (w.alloc (.cells #[.int .i64 n, .int .i64 st] 35)).alloc (.cells #[.int .i64 0, .int .i64 0] 35) = w1 := ⟨_, rfl⟩
  obtain ⟨b0, b1, F1⟩ := heap_two hw1
  obtain ⟨d0, d1, dz, dl⟩ := cells2 b0
  have c11 := h.sc.c11
  have l := h.sc.lt
  have HI := hid (in_ok (h.fr0 F1) n st (by omega) (by omega))
  have H1 := hid (h.fr0 F1)
  have HT := hid ht
  have HF := hid hf
  have HW := hid hw1
  have HB0 := hid b0
  have HB1 := hid b1
  have HF1 := hid F1
  have HK := hid hk
  have HIN := hid hin
  have hrm := h.rg.1
  clear hw1 b0 b1 F1 h ht hf hk hin
  go_enter Tryz.func26, Tryz.ntmps26
  go_wp2_with fail
  rw [HW.out]
  refine HI.out.mono ?_
  rintro e w2 ⟨rfl, F2⟩
  obtain ⟨e0, e1, ez, el⟩ := cells2 (F2.heap HB1.out (fun h => h))
  obtain ⟨f0, f1, fz, fl⟩ := cells2 (F2.heap HB0.out (fun h => h))
  have h2 := H1.out.fr0 F2
  have g13 := h2.sc.c13
  have g14 := h2.sc.c14
  have HH := hid (fun W (F : Fr (fun _ => False) w2 W) => (has_at (h2.bits.fr F (fun h => h) (fun h => h)) n hp))
  rw [HT.out] at HH
  obtain ⟨lf, cf, hfm, hfs⟩ := h2.fr.ex
  have hlk := fun (W : World) (hW : W.heap[B.fr]? = some (.map (ents lf) cf)) => run_lookup (P := Tryz.prog) (T := 153) false Tryz.underlying153 Tryz.underlying3 Tryz.zero4 hW n
  rw [hfs.at_, HF.out] at hlk
  simp only [if_true, Option.getD_some, Bool.false_eq_true, if_false] at hlk
  have HF2 := hid F2
  have H2 := hid h2
  clear F2 h2 hfs
  go_wp2
  go_quiet ((go_at_call 88; exact quiet_left (HH.out _ ((Fr.refl _ _).drewN _))))
  go_wp2
  go_quiet (fail)
  go_wp2
  have e12 : w2.cell? ⟨B.s, 12, none⟩ = some (.int .i64 x.gen) := H2.out.sc.c12
  have hsl : SlB w2 la ll lc bs := ⟨(HIN.out.1.by_.fr HF1.out (fun _ _ _ _ h => h)).fr HF2.out (fun _ _ _ _ h => h), HIN.out.1.at_⟩
  have HL := hid hsl.by_.len
  have HC := hid (fun W (F : Fr (fun _ => False) w2 W) => (clone_v (w := W) ⟨hsl.by_.fr F (fun _ _ _ _ h => h), hsl.at_⟩ (by omega)).mono
    (fun (e : Ending) W' ⟨a', c', he, hb, F'⟩ => (⟨a', c', he, hb, F.trans F' (fun _ _ h => h)⟩ : ∃ a' c', e = Ending.returned (.slice a' ll c') ∧ ByV W' a' ll c' bs ∧ Fr (fun _ => False) w2 W')))
  have ls : B.s < w2.heap.size := H2.out.sc.lt
  have ms : ¬ w.heap.size + 1 = B.s := by omega
  have HBB := hid (And.intro (HF2.out.heap HB0.out (fun h => h)) (HF2.out.heap HB1.out (fun h => h)))
  clear hsl HB0 HB1 d0 d1 dz hlk hfm c11 g13 g14 fz
  go_region_held3 (fun W => W.cell? ⟨w.heap.size, 0, none⟩ = some (.int .i64 n) ∧ W.cell? ⟨B.s, 12, none⟩ = some (.int .i64 x.gen)) (go_keep)
    (first
      | (go_at_call 83; refine (HC.out _ (by first | exact (Fr.refl _ _).drewN _ | exact ((Fr.refl _ _).drewN _).drew)).mono ?_; rintro e w4 ⟨a', c', rfl, hb4, F4⟩; have e12 := (F4.cell (p := ⟨B.s, 12, none⟩) ls (fun h => h)).trans e12; have f0 := (F4.cell (p := ⟨w.heap.size, 0, none⟩) fl (fun h => h)).trans f0; have e0 := (F4.cell (p := ⟨w.heap.size + 1, 0, none⟩) el (fun h => h)).trans e0; have e1 := (F4.cell (p := ⟨w.heap.size + 1, 1, none⟩) el (fun h => h)).trans e1; have HB4 := hid hb4; have HF4 := hid F4; clear hb4 F4)
      | (go_at_call 82; refine (HK.out _ ⟨x.gen, a', ll, c', true⟩ (H2.out.fr0 HF4.out) (FrB.none ((HF1.out.trans HF2.out (fun _ _ h => h)).trans HF4.out (fun _ _ h => h))) ⟨bs, HB4.out, by rw [HL.out]; exact hl⟩).mono ?_; rintro e w5 ⟨err, g, D, rfl, hg, ho, hS5, F5⟩; have e12 : w5.cell? ⟨B.s, 12, none⟩ = some (.int .i64 x.gen) := hS5.sc.c12; obtain ⟨f0, f1, fz, fl⟩ := cells2 (F5.heap (HF4.out.heap HBB.out.1 (fun h => h)) (by decide)); have hb5 := F5.heap (HF4.out.heap HBB.out.2 (fun h => h)) (by decide); obtain ⟨e0, e1, ez, el⟩ := cells2 hb5; have H5 := hid (And.intro hg (And.intro ho (And.intro hS5 (And.intro F5 hb5)))); clear hg ho hS5 F5 hb5))
  go_wp2
  refine bodyPost_ret (v := .tuple #[.agg #[.int .i64 n, .int .i64 x.gen], .int .i64 err]) (by simp [results, go_sem, *]) rfl ?_
  obtain ⟨hg, ho, hS5, F5, hb5⟩ := H5.out
  have FL : Fr (fun b => b = w.heap.size + 1) w5 ((w5.setCell ⟨w.heap.size + 1, 0, none⟩ (.int .i64 n)).setCell ⟨w.heap.size + 1, 1, none⟩ (.int .i64 x.gen)) := ((Fr.refl (fun b => b = w.heap.size + 1) _).setCell (a := ⟨w.heap.size + 1, 0, none⟩) (fun _ => rfl) _).setCell (a := ⟨w.heap.size + 1, 1, none⟩) (fun _ => rfl) _
  refine ⟨err, g, D, ⟨x.gen, a', ll, c', true⟩, rfl, hg, OutR_frL ho FL hb5 (by decide), hS5.frL FL hb5 (by decide), ⟨rfl, rfl, (HB4.out.frB F5).frL FL hb5 (by decide)⟩, ?_⟩
  exact (((FrB.none ((HF1.out.trans HF2.out (fun _ _ h => h)).trans HF4.out (fun _ _ h => h))).trans F5).setCell (a := ⟨w.heap.size + 1, 0, none⟩) (fun h => absurd h (by simp)) _).setCell (a := ⟨w.heap.size + 1, 1, none⟩) (fun h => absurd h (by simp)) _
end SF
end Go.Proofs.YtgdhaaokolfdoaaGreatDoor

/- leaf: right, Build. Conditions: the leaf is right for the size. -/
namespace Go.Sg
open Go.RowKit
/-- Within leaf.Build: the leaf's box, the writer. -/
structure BSt (w0 w : World) (bx base r : Nat) (cs : Array Value) (bs : List Int) (limit : Nat) : Prop where
  box : w.heap[bx]? = some (.cells cs 166)
  wt : WtAt w base r bs limit
  f : Fr (fun _ => False) w0 w
  le : w0.heap.size ≤ base ∧ base ≤ w.heap.size ∧ bx < base
theorem BSt.step {w0 w w' : World} {bx base r limit : Nat} {cs : Array Value} {bs bs' : List Int} (h : BSt w0 w bx base r cs bs limit) (hw : WtAt w' base r bs' limit) (F : Fr (fun b => base ≤ b) w w') : BSt w0 w' bx base r cs bs' limit :=
  ⟨F.heap h.box (by have := h.le.2.2; omega), hw, h.f.trans F (fun b hb e => by have := h.le.1; omega), h.le.1, Nat.le_trans h.le.2.1 F.size, h.le.2.2⟩
theorem BSt.fr {w0 w w' : World} {bx base r limit : Nat} {cs : Array Value} {bs : List Int} (h : BSt w0 w bx base r cs bs limit) (F : Fr (fun _ => False) w w') : BSt w0 w' bx base r cs bs limit :=
  ⟨F.heap h.box (fun h => h), h.wt.fr F (fun _ _ _ h => h), h.f.trans F (fun _ _ h => h), h.le.1, Nat.le_trans h.le.2.1 F.size, h.le.2.2⟩
end Go.Sg
namespace Go.Proofs.YtgdhaaokolfdoaaGreatDoor
open Go.RowKit Go.Sg
set_option maxRecDepth 100000 in
set_option maxHeartbeats 1000000 in
theorem right_ok (k p s : Int) (a : Option Addr) (n c : Nat) (z : Int) (h1 : 96 ≤ z) (h2 : z ≤ 512) (hk : 1 ≤ k ∧ k ≤ 4) (hp : 0 ≤ p ∧ p ≤ 2147483647) (hs : 0 ≤ s) (hn : (n : Int) ≤ z - 19) (w : World) :
    Calls Tryz.prog 219 #[.agg #[.int .i64 k, .int .i64 p, .int .i64 s, .slice a n c], .int .i64 z] w fun e w' => e = .returned (.int .i64 0) ∧ Fr (fun _ => False) w w' := by
  obtain ⟨k1, k2⟩ := hk
  obtain ⟨p1, p2⟩ := hp
  have hd : decide (z - 19 < (n : Int)) = false := by simp; omega
  have hd2 : ¬ z - 19 < (n : Int) := by omega
  go_enter Tryz.func219, Tryz.ntmps219
  go_wp2_with (go_at_call 159; refine (may_yes z h1 h2 _).mono ?_; rintro e w' ⟨rfl, rfl⟩)
  go_quiet ((go_at_call 94; exact quiet_left (room_ok z h1 h2 _)))
  go_wp2
  go_ret
  exact ⟨rfl, ((Fr.refl _ _).alloc _).drewN _⟩
theorem raww_zeros {w W1 : World} {base r limit : Nat} {bs : List Int} (h : WtAt w base r bs limit) (hbase : base ≤ w.heap.size) (m : Nat) (hroom : bs.length + m ≤ limit) (F1 : Fr (fun _ => False) (w.alloc (.cells (madeCells #[.int .u8 0] m) 5)) W1) :
    Calls Tryz.prog 237 #[.pointer (some ⟨r, 0, none⟩), .slice (some ⟨w.heap.size, 0, none⟩) m m] W1 fun e w' => e = .returned (.tuple #[]) ∧ WtAt w' base r (bs ++ List.replicate m 0) limit ∧ Fr (fun b => base ≤ b) w w' := by
  have FN : Fr (fun _ => False) w (w.alloc (.cells (madeCells #[.int .u8 0] m) 5)) := (Fr.refl _ _).alloc _
  have FN1 := FN.trans F1 (fun _ _ h => h)
  have hz := ByV.zeros (w := w.alloc (.cells (madeCells #[.int .u8 0] m) 5)) (g := w.heap.size) (n := m) (cap := m) (f := (0, 0)) (by rw [show (List.replicate m (Value.int .u8 0)).toArray = madeCells #[.int .u8 0] m by apply Array.toList_inj.1; rw [toList_madeCells_one]]; exact heap_alloc_new _ _)
  exact (raww_ok (h.fr FN1 (fun _ _ _ h => h)) (Nat.le_trans hbase FN1.size) (hz.fr F1 (fun _ _ _ h => h)) hroom).mono fun e w' ⟨he, hw, F⟩ => ⟨he, hw, (FN1.mono (fun _ _ h => h.elim)).trans F (fun _ _ h => h)⟩
set_option maxRecDepth 100000 in
set_option maxHeartbeats 4000000 in
theorem build_ok {w : World} {la : Option Addr} {ll lc : Nat} {bs : List Int} (hb : ByV w la ll lc bs) (hby : ∀ x ∈ bs, 0 ≤ x ∧ x < 256) (size kind place stamp : Nat) (h1 : 96 ≤ size) (h2 : size ≤ 512) (hk : 1 ≤ kind ∧ kind ≤ 4) (hp : place ≤ 2147483647) (hs : stamp < 9223372036854775808) (hl : ll + 19 ≤ size) :
    Calls Tryz.prog 220 #[.int .i64 size, .agg #[.int .i64 kind, .int .i64 place, .int .i64 stamp, .slice la ll lc]] w fun e w' => ∃ a c, e = .returned (.tuple #[.slice a size c, .int .i64 0]) ∧ ByV w' a size c (buildM size kind place stamp bs) ∧ Fr (fun _ => False) w w' := by
  obtain ⟨k1, k2⟩ := hk
  have hbl := hb.len
  obtain ⟨m, hm⟩ : ∃ m : Nat, size - 19 - ll = m := ⟨_, rfl⟩
  have hmi : (size : Int) - 19 - (ll : Int) = (m : Int) := by omega
  obtain ⟨w1, hw1⟩ : ∃ w1, w.alloc (.cells #[.int .i64 kind, .int .i64 place, .int .i64 stamp, .slice la ll lc] 166) = w1 := ⟨_, rfl⟩
  have F1 : Fr (fun _ => False) w w1 := by rw [← hw1]; exact (Fr.refl _ _).alloc _
  have b1 : w1.heap[w.heap.size]? = some (.cells #[.int .i64 kind, .int .i64 place, .int .i64 stamp, .slice la ll lc] 166) := by rw [← hw1]; exact heap_alloc_new _ _
  obtain ⟨c0, c1, c2, c3⟩ : w1.cell? ⟨w.heap.size, 0, none⟩ = some (.int .i64 kind) ∧ w1.cell? ⟨w.heap.size, 1, none⟩ = some (.int .i64 place) ∧ w1.cell? ⟨w.heap.size, 2, none⟩ = some (.int .i64 stamp) ∧ w1.cell? ⟨w.heap.size, 3, none⟩ = some (.slice la ll lc) :=
    ⟨by simpa using cell_of_heap b1 0, by simpa using cell_of_heap b1 1, by simpa using cell_of_heap b1 2, by simpa using cell_of_heap b1 3⟩
  have HB := hid hb
  have HBL := hid hbl
  have HM := hid hm
  have HMI := hid hmi
  have HW1 := hid hw1
  have HB1 := hid (And.intro F1 b1)
  have hkk : (kind : Int) ≤ 4 := by omega
  have hk1 : 1 ≤ (kind : Int) := by omega
  have hpp : (place : Int) ≤ 2147483647 := by omega
  have hss : (stamp : Int) < 9223372036854775808 := by omega
  clear hb hbl hm hmi hw1 F1 b1
  go_enter Tryz.func220, Tryz.ntmps220
  go_wp2_with fail
  rw [HW1.out]
  refine (right_ok kind place stamp la ll lc size (by omega) (by omega) ⟨by omega, by omega⟩ ⟨by omega, by omega⟩ (by omega) (by omega) _).mono ?_
  rintro e w2 ⟨rfl, F2⟩
  have HF2 := hid F2
  have lt2 : w.heap.size < w2.heap.size := lt_of_heap (F2.heap HB1.out.2 (fun h => h))
  clear F2 c0 c1 c2 c3
  go_wp2_with fail
  refine (newwriter_ok size (by omega) w2).mono ?_
  rintro e w3 ⟨rfl, hW, F3⟩
  have HS3 : BSt w w3 w.heap.size w2.heap.size w2.heap.size #[.int .i64 kind, .int .i64 place, .int .i64 stamp, .slice la ll lc] [] size :=
    ⟨F3.heap (HF2.out.heap HB1.out.2 (fun h => h)) (fun h => h), hW, (HB1.out.1.trans HF2.out (fun _ _ h => h)).trans F3 (fun _ _ h => h), (HB1.out.1.trans HF2.out (fun _ _ h => h)).size, F3.size, lt2⟩
  have HS3 := hid HS3
  clear hW F3
  obtain ⟨c0, c1, c2, c3⟩ : w3.cell? ⟨w.heap.size, 0, none⟩ = some (.int .i64 kind) ∧ w3.cell? ⟨w.heap.size, 1, none⟩ = some (.int .i64 place) ∧ w3.cell? ⟨w.heap.size, 2, none⟩ = some (.int .i64 stamp) ∧ w3.cell? ⟨w.heap.size, 3, none⟩ = some (.slice la ll lc) :=
    ⟨by simpa using cell_of_heap HS3.out.box 0, by simpa using cell_of_heap HS3.out.box 1, by simpa using cell_of_heap HS3.out.box 2, by simpa using cell_of_heap HS3.out.box 3⟩
  go_wp2_with fail
  refine (wnum_ok HS3.out.wt HS3.out.le.2.1 kind 1 (by omega) (by omega) (by simp [Sg.leB_length]; omega)).mono ?_
  rintro e w4 ⟨rfl, hW, F⟩
  have HS4 := hid (HS3.out.step hW F)
  clear hW F c0 c1 c2 c3
  obtain ⟨c0, c1, c2, c3⟩ : w4.cell? ⟨w.heap.size, 0, none⟩ = some (.int .i64 kind) ∧ w4.cell? ⟨w.heap.size, 1, none⟩ = some (.int .i64 place) ∧ w4.cell? ⟨w.heap.size, 2, none⟩ = some (.int .i64 stamp) ∧ w4.cell? ⟨w.heap.size, 3, none⟩ = some (.slice la ll lc) :=
    ⟨by simpa using cell_of_heap HS4.out.box 0, by simpa using cell_of_heap HS4.out.box 1, by simpa using cell_of_heap HS4.out.box 2, by simpa using cell_of_heap HS4.out.box 3⟩
  go_wp2_with fail
  refine (wnum_ok HS4.out.wt HS4.out.le.2.1 ll 2 (by omega) (by omega) (by simp [Sg.leB_length]; omega)).mono ?_
  rintro e w5 ⟨rfl, hW, F⟩
  have HS5 := hid (HS4.out.step hW F)
  clear hW F c0 c1 c2 c3
  obtain ⟨c0, c1, c2, c3⟩ : w5.cell? ⟨w.heap.size, 0, none⟩ = some (.int .i64 kind) ∧ w5.cell? ⟨w.heap.size, 1, none⟩ = some (.int .i64 place) ∧ w5.cell? ⟨w.heap.size, 2, none⟩ = some (.int .i64 stamp) ∧ w5.cell? ⟨w.heap.size, 3, none⟩ = some (.slice la ll lc) :=
    ⟨by simpa using cell_of_heap HS5.out.box 0, by simpa using cell_of_heap HS5.out.box 1, by simpa using cell_of_heap HS5.out.box 2, by simpa using cell_of_heap HS5.out.box 3⟩
  go_wp2_with fail
  refine (wnum_ok HS5.out.wt HS5.out.le.2.1 place 4 (by omega) (by omega) (by simp [Sg.leB_length]; omega)).mono ?_
  rintro e w6 ⟨rfl, hW, F⟩
  have HS6 := hid (HS5.out.step hW F)
  clear hW F c0 c1 c2 c3
  obtain ⟨c0, c1, c2, c3⟩ : w6.cell? ⟨w.heap.size, 0, none⟩ = some (.int .i64 kind) ∧ w6.cell? ⟨w.heap.size, 1, none⟩ = some (.int .i64 place) ∧ w6.cell? ⟨w.heap.size, 2, none⟩ = some (.int .i64 stamp) ∧ w6.cell? ⟨w.heap.size, 3, none⟩ = some (.slice la ll lc) :=
    ⟨by simpa using cell_of_heap HS6.out.box 0, by simpa using cell_of_heap HS6.out.box 1, by simpa using cell_of_heap HS6.out.box 2, by simpa using cell_of_heap HS6.out.box 3⟩
  go_wp2_with fail
  refine (wnum_ok HS6.out.wt HS6.out.le.2.1 stamp 8 (by omega) (by omega) (by simp [Sg.leB_length]; omega)).mono ?_
  rintro e w7 ⟨rfl, hW, F⟩
  have HS7 := hid (HS6.out.step hW F)
  clear hW F c0 c1 c2 c3
  obtain ⟨c0, c1, c2, c3⟩ : w7.cell? ⟨w.heap.size, 0, none⟩ = some (.int .i64 kind) ∧ w7.cell? ⟨w.heap.size, 1, none⟩ = some (.int .i64 place) ∧ w7.cell? ⟨w.heap.size, 2, none⟩ = some (.int .i64 stamp) ∧ w7.cell? ⟨w.heap.size, 3, none⟩ = some (.slice la ll lc) :=
    ⟨by simpa using cell_of_heap HS7.out.box 0, by simpa using cell_of_heap HS7.out.box 1, by simpa using cell_of_heap HS7.out.box 2, by simpa using cell_of_heap HS7.out.box 3⟩
  go_wp2_with fail
  refine (raww_ok HS7.out.wt HS7.out.le.2.1 (HB.out.fr HS7.out.f (fun _ _ _ h => h)) (by simp [Sg.leB_length]; omega)).mono ?_
  rintro e w8 ⟨rfl, hW, F⟩
  have HS8 := hid (HS7.out.step hW F)
  clear hW F c0 c1 c2 c3
  obtain ⟨c0, c1, c2, c3⟩ : w8.cell? ⟨w.heap.size, 0, none⟩ = some (.int .i64 kind) ∧ w8.cell? ⟨w.heap.size, 1, none⟩ = some (.int .i64 place) ∧ w8.cell? ⟨w.heap.size, 2, none⟩ = some (.int .i64 stamp) ∧ w8.cell? ⟨w.heap.size, 3, none⟩ = some (.slice la ll lc) :=
    ⟨by simpa using cell_of_heap HS8.out.box 0, by simpa using cell_of_heap HS8.out.box 1, by simpa using cell_of_heap HS8.out.box 2, by simpa using cell_of_heap HS8.out.box 3⟩
  obtain ⟨i0, hi, hz0, hz1, hz2⟩ := info_parts Tryz.info5
  have hmb : m ≤ 512 := by have := HM.out; omega
  have hmk := fun W => run_make_len (P := Tryz.prog) 22 5 i0 _ Tryz.underlying22 hi hz0 m (by rw [hz2]; omega) (by omega) W
  rw [hz1] at hmk
  have hwm : IntKind.i64.wrap (m : Int) = (m : Int) := by rw [IntKind.wrap_i64]; omega
  have hmi := HMI.out
  have lbx := lt_of_heap HS8.out.box
  have HZ := hid (fun W1 F => raww_zeros (W1 := W1) HS8.out.wt HS8.out.le.2.1 m (by simp [Sg.leB_length]; have := HM.out; have := HBL.out; omega) F)
  clear hi hz0 hz1 hz2 c0 c1 c2
  go_wp2
  go_region_held3 (fun W => W.cell? ⟨w.heap.size, 3, none⟩ = some (.slice la ll lc)) (go_keep)
    (first
      | (go_at_call 94; refine (room_ok size (by omega) (by omega) _).mono ?_; rintro e w' ⟨rfl, rfl⟩)
      | (go_at_call 237; refine (HZ.out _ (by first | exact Fr.refl _ _ | exact (Fr.refl _ _).drew)).mono ?_; rintro e w9 ⟨rfl, hW, F9⟩; have c3 : w9.cell? ⟨w.heap.size, 3, none⟩ = some (.slice la ll lc) := (F9.cell (p := ⟨w.heap.size, 3, none⟩) lbx (by have := HS8.out.le.2.2; simp; omega)).trans c3; have HF9 := hid F9; have HW9 := hid hW; clear F9 hW))
  have HS9 := HS8.out.step HW9.out HF9.out
  have hbody : [] ++ Sg.leB kind 1 ++ Sg.leB ll 2 ++ Sg.leB place 4 ++ Sg.leB stamp 8 ++ bs ++ List.replicate m 0 = bodyM size kind place stamp bs := by
    rw [bodyM, HBL.out, HM.out, List.nil_append]
  rw [hbody] at HS9
  have hlen : (bodyM size kind place stamp bs).length = size - 4 := bodyM_length (by rw [HBL.out]; exact hl)
  have hbyt : ∀ x ∈ bodyM size kind place stamp bs, 0 ≤ x ∧ x < 256 := by
    intro x hx
    simp only [bodyM, List.mem_append, List.mem_replicate] at hx
    rcases hx with ((((hx | hx) | hx) | hx) | hx) | hx
    · exact leB_byte _ _ x hx
    · exact leB_byte _ _ x hx
    · exact leB_byte _ _ x hx
    · exact leB_byte _ _ x hx
    · exact hby x hx
    · omega
  have hbm : buildM size kind place stamp bs = bodyM size kind place stamp bs ++ Sg.leB (crcM (bodyM size kind place stamp bs)) 4 := rfl
  have hcl : crcM (bodyM size kind place stamp bs) < 4294967296 := by
    obtain ⟨l, hl⟩ := bytes_sub hbyt
    rw [← hl]
    exact Nat.xor_lt_two_pow (n := 32) (crcAcc_lt l (by decide)) (by decide)
  obtain ⟨body, hbo⟩ : ∃ body, bodyM size kind place stamp bs = body := ⟨_, rfl⟩
  rw [hbo] at HS9 hlen hbyt hbm hcl
  have HBM := hid hbm
  have HS9 := hid HS9
  have HLEN := hid hlen
  clear hbody hlen hmk hwm hmi c3 hbm hbo
  go_wp2_with fail
  refine (wbytes_ok HS9.out.wt).mono ?_
  rintro e w10 ⟨ba, bc, rfl, hb10, F10⟩
  have HS10 := hid (HS9.out.fr F10)
  have HSUM := hid (sum_ok hb10.1 hbyt (by rw [HLEN.out]; omega))
  clear hb10 F10
  go_wp2_with fail
  refine HSUM.out.mono ?_
  rintro e w11 ⟨rfl, F11⟩
  have HS11 := hid (HS10.out.fr F11)
  clear F11
  go_wp2_with fail
  refine (wnum_ok HS11.out.wt HS11.out.le.2.1 (crcM body) 4 (by omega) (by omega) (by rw [HLEN.out]; omega)).mono ?_
  rintro e w12 ⟨rfl, hW, F⟩
  have HS12 := hid (HS11.out.step hW F)
  clear hW F
  go_wp2_with fail
  refine (wbytes_ok HS12.out.wt).mono ?_
  rintro e w13 ⟨ra, rc, rfl, hb13, F13⟩
  have hl2 : (body ++ Sg.leB (crcM body) 4).length = size := by rw [List.length_append, HLEN.out, leB_length]; omega
  rw [hl2] at hb13
  have HF := hid (And.intro hb13.1 (HS12.out.f.trans F13 (fun _ _ h => h)))
  have HL2 := hid hl2
  clear hb13 F13 hl2
  go_wp2
  go_ret2
  exact ⟨ra, rc, by have h := HL2.out; rw [List.length_append] at h; rw [h]; rfl, by rw [HBM.out]; exact HF.out.1, HF.out.2⟩
end Go.Proofs.YtgdhaaokolfdoaaGreatDoor

/- bytes.Equal of two slices of bytes. Conditions: they lie as ByV says. -/
namespace Go.Sg
open Go.RowKit
end Go.Sg
namespace Go.Proofs.YtgdhaaokolfdoaaGreatDoor
open Go.RowKit Go.Sg
theorem conv_byt {w : World} {a : Option Addr} {n c : Nat} {xs : List Int} (h : ByV w a n c xs) : (convert 22 9 (.slice a n c)).run Tryz.prog w = .ok (.string (strOfNums xs)) w := by
  have hl := h.by_.len
  rcases h.at_ with ⟨rfl, rfl, _⟩ | ⟨b, off, cs, rfl, _⟩
  · obtain rfl : xs = [] := List.eq_nil_of_length_eq_zero hl
    exact run_convert_bytes_nil (P := Tryz.prog) w 22 5 Tryz.underlying22 Tryz.underlying5 0 c 9 Tryz.underlying9
  · refine run_convert_bytes_arg (P := Tryz.prog) w 22 5 Tryz.underlying22 Tryz.underlying5 b off n c xs hl (fun i hi => ?_) 9 Tryz.underlying9
    have hi' : i < xs.length := by omega
    obtain ⟨b', off', e, _, hc⟩ := h.by_.at_ i (xs[i]) (List.getElem?_eq_getElem hi')
    cases e
    rw [hc]
    simp [List.getD, List.getElem?_eq_getElem hi']
theorem equal_ok {w : World} {a a' : Option Addr} {n c m d : Nat} {xs ys : List Int} (h : ByV w a n c xs) (h' : ByV w a' m d ys) :
    Calls Tryz.prog 221 #[.slice a n c, .slice a' m d] w fun e w' => e = .returned (.bool ((strOfNums xs).toList == (strOfNums ys).toList)) ∧ w' = w := by
  have k1 := conv_byt h
  have k2 := conv_byt h'
  clear h h'
  go_enter Tryz.func221, Tryz.ntmps221
  go_wp2
  go_ret
  exact ⟨rfl, rfl⟩
theorem equal_same {w : World} {a a' : Option Addr} {n c m d : Nat} {xs : List Int} (h : ByV w a n c xs) (h' : ByV w a' m d xs) :
    Calls Tryz.prog 221 #[.slice a n c, .slice a' m d] w fun e w' => e = .returned (.bool true) ∧ w' = w :=
  (equal_ok h h').mono fun e w' ⟨he, hw⟩ => ⟨by rw [he]; simp, hw⟩
end Go.Proofs.YtgdhaaokolfdoaaGreatDoor

/- leaf.Read of a sector that Build made. Conditions: the leaf is right for the size. -/
namespace Go.Sg
open Go.RowKit
theorem bodyM_byte {size kind place stamp : Nat} {load : List Int} (hl : ∀ x ∈ load, 0 ≤ x ∧ x < 256) : ∀ x ∈ bodyM size kind place stamp load, 0 ≤ x ∧ x < 256 := by
  intro x hx
  simp only [bodyM, List.mem_append, List.mem_replicate] at hx
  rcases hx with ((((h | h) | h) | h) | h) | h
  · exact leB_byte _ _ _ h
  · exact leB_byte _ _ _ h
  · exact leB_byte _ _ _ h
  · exact leB_byte _ _ _ h
  · exact hl _ h
  · omega
theorem buildM_byte {size kind place stamp : Nat} {load : List Int} (hl : ∀ x ∈ load, 0 ≤ x ∧ x < 256) : ∀ x ∈ buildM size kind place stamp load, 0 ≤ x ∧ x < 256 := by
  intro x hx
  rcases List.mem_append.1 hx with h | h
  · exact bodyM_byte hl _ h
  · exact leB_byte _ _ _ h
/-- What lies behind the load. -/
def tailM (size kind place stamp : Nat) (load : List Int) : List Int := List.replicate (size - 19 - load.length) 0 ++ leB (crcM (bodyM size kind place stamp load)) 4
theorem buildM_parts (size kind place stamp : Nat) (load : List Int) :
    buildM size kind place stamp load = leB kind 1 ++ (leB load.length 2 ++ (leB place 4 ++ (leB stamp 8 ++ (load ++ tailM size kind place stamp load)))) := by
  simp [buildM, tailM, bodyM]
end Go.Sg
namespace Go.Proofs.YtgdhaaokolfdoaaGreatDoor
open Go.RowKit Go.Sg
theorem num_at {w : World} {r n k : Nat} {rest : List Int} (h : RdAt w r (Go.Sg.leB n k ++ rest) false) (hby : ∀ x ∈ rest, 0 ≤ x ∧ x < 256) (hk : k = 1 ∨ k = 2 ∨ k = 4 ∨ k = 8) (hn : n < 256 ^ k) :
    Calls Tryz.prog 216 #[.pointer (some ⟨r, 0, none⟩), .int .i64 k] w fun e w' => e = .returned (.int .u64 n) ∧ RdAt w' r rest false ∧ Fr (fun b => b = r) w w' := by
  refine (num_ok h (fun x hx => by
    rcases List.mem_append.1 hx with h | h
    · exact Go.Sg.leB_byte _ _ _ h
    · exact hby _ h) k hk (by rw [List.length_append, Go.Sg.leB_length]; omega)).mono fun e w' ⟨he, hr, hF⟩ => ⟨?_, ?_, hF⟩
  · rw [he, List.take_append_of_le_length (Nat.le_of_eq (Go.Sg.leB_length _ _).symm), List.take_of_length_le (Nat.le_of_eq (Go.Sg.leB_length _ _)), Go.Sg.leV_leB k n hn]
  · rw [List.drop_append_of_le_length (Nat.le_of_eq (Go.Sg.leB_length _ _).symm), List.drop_of_length_le (Nat.le_of_eq (Go.Sg.leB_length _ _))] at hr; exact hr
theorem raw_at {w : World} {r : Nat} {bs rest : List Int} (h : RdAt w r (bs ++ rest) false) :
    Calls Tryz.prog 217 #[.pointer (some ⟨r, 0, none⟩), .int .i64 bs.length] w fun e w' => ∃ a c, e = .returned (.slice a bs.length c) ∧ ByV w' a bs.length c bs ∧ RdAt w' r rest false ∧ Fr (fun b => b = r) w w' :=
  (raw_ok h bs.length (by rw [List.length_append]; omega)).mono fun e w' ⟨a, c, he, hb, hr, hF⟩ => ⟨a, c, he, by simpa using hb, by simpa using hr, hF⟩
end Go.Proofs.YtgdhaaokolfdoaaGreatDoor
namespace Go.Proofs.YtgdhaaokolfdoaaGreatDoor
open Go.RowKit Go.Sg
set_option maxHeartbeats 4000000 in
set_option maxRecDepth 100000 in
theorem leafread_made {w : World} {a : Option Addr} {size c kind place stamp : Nat} {load : List Int} (h : ByV w a size c (buildM size kind place stamp load)) (hby : ∀ x ∈ load, 0 ≤ x ∧ x < 256) (h1 : 96 ≤ size) (h2 : size ≤ 512) (hk : 1 ≤ kind ∧ kind ≤ 4) (hp : place ≤ 2147483647) (hs : stamp < 9223372036854775808) (hl : load.length + 19 ≤ size) :
    Calls Tryz.prog 156 #[.slice a size c] w fun e w' => ∃ la lc, e = .returned (.tuple #[.agg #[.int .i64 kind, .int .i64 place, .int .i64 stamp, .slice la load.length lc], .int .i64 0]) ∧ ByV w' la load.length lc load ∧ Fr (fun _ => False) w w' := by
  obtain ⟨ll, hll⟩ : ∃ ll, load.length = ll := ⟨_, rfl⟩
  obtain ⟨tl, htl⟩ : ∃ tl, tailM size kind place stamp load = tl := ⟨_, rfl⟩
  have hparts := buildM_parts size kind place stamp load
  have hall := buildM_byte (size := size) (kind := kind) (place := place) (stamp := stamp) hby
  have hlen : (buildM size kind place stamp load).length = size := buildM_length hl
  rw [hparts] at hall
  rw [htl, hll] at hparts hall
  have hb5 : ∀ x ∈ load ++ tl, 0 ≤ x ∧ x < 256 := fun x hx => hall x (by simp only [List.mem_append] at hx ⊢; simp [hx])
  have hb4 : ∀ x ∈ Go.Sg.leB stamp 8 ++ (load ++ tl), 0 ≤ x ∧ x < 256 := fun x hx => hall x (by simp only [List.mem_append] at hx ⊢; simp [hx])
  have hb3 : ∀ x ∈ Go.Sg.leB place 4 ++ (Go.Sg.leB stamp 8 ++ (load ++ tl)), 0 ≤ x ∧ x < 256 := fun x hx => hall x (by simp only [List.mem_append] at hx ⊢; simp [hx])
  have hb2 : ∀ x ∈ Go.Sg.leB ll 2 ++ (Go.Sg.leB place 4 ++ (Go.Sg.leB stamp 8 ++ (load ++ tl))), 0 ≤ x ∧ x < 256 := fun x hx => hall x (by simp only [List.mem_append] at hx ⊢; simp [hx])
  obtain ⟨w1, hw1⟩ : ∃ w1, w.alloc (.cells #[.int .i64 0, .int .i64 0, .int .i64 0, .slice none 0 0] 166) = w1 := ⟨_, rfl⟩
  have F1 : Fr (fun _ => False) w w1 := by rw [← hw1]; exact (Fr.refl _ _).alloc _
  have b1 : w1.heap[w.heap.size]? = some (.cells #[.int .i64 0, .int .i64 0, .int .i64 0, .slice none 0 0] 166) := by rw [← hw1]; exact heap_alloc_new _ _
  have hB1 := h.fr F1 (fun _ _ _ h => h)
  have HNR := hid (newreader_ok (w := w1) (a := a) (n := size) (c := c) (bs := buildM size kind place stamp load) hB1.slb (by omega))
  rw [hparts] at HNR
  have HA := hid (And.intro hB1 (And.intro hlen hparts))
  have HBS := hid (And.intro hb2 (And.intro hb3 (And.intro hb4 hb5)))
  have HN := hid (And.intro hk (And.intro hp (And.intro hs (And.intro hl hll))))
  have HLD := hid hby
  have HW1 := hid hw1
  have HB1 := hid (And.intro F1 b1)
  clear h hw1 F1 b1 hB1 hlen hparts hb2 hb3 hb4 hb5 hk hp hs hl hll hby hall htl
  go_enter Tryz.func156, Tryz.ntmps156
  go_wp2_with fail
  rw [HW1.out]
  refine (may_yes size (by omega) (by omega) _).mono ?_
  rintro e w' ⟨rfl, rfl⟩
  go_wp2_with fail
  refine HNR.out.mono ?_
  rintro e w2 ⟨r, rfl, hr, hrl, F2⟩
  obtain ⟨w3, hw3⟩ : ∃ w3, w2.alloc (.cells #[.int .i64 0, .int .i64 0, .int .i64 0, .slice none 0 0] 166) = w3 := ⟨_, rfl⟩
  have F3 : Fr (fun _ => False) w2 w3 := by rw [← hw3]; exact (Fr.refl _ _).alloc _
  have hs2 := F2.size
  have L3 : LRs w1 w3 r w2.heap.size _ 0 0 0 (.slice none 0 0) := ⟨by rw [← hw3]; exact heap_alloc_new _ _, hr.fr F3 (fun h => h) (fun _ _ _ h => h), F2.trans F3 (fun _ _ h => h), hrl, hs2⟩
  have HL3 := hid L3
  have HW3 := hid hw3
  clear hw3 F3 L3 hr F2
  go_wp2_with fail
  rw [HW3.out]
  refine (num_at HL3.out.rd HBS.out.1 (by omega) (by have := HN.out.1; omega)).mono ?_
  rintro e w4 ⟨rfl, hr4, F4⟩
  have HL4 := hid (HL3.out.call F4 hr4)
  have x4 := cell_of_heap HL4.out.x 0
  have f4 := frozen_of_heap HL4.out.x 0
  simp at x4
  have kw : IntKind.wrap .i64 (kind : Int) = (kind : Int) := by have := HN.out.1; rw [IntKind.wrap_i64]; omega
  obtain ⟨w5, hw5⟩ : ∃ w5, w4.setCell ⟨w2.heap.size, 0, none⟩ (.int .i64 kind) = w5 := ⟨_, rfl⟩
  have HL5 := HL4.out.set 0 (.int .i64 kind) rfl
  rw [hw5] at HL5
  have HL5 := hid HL5
  have HW5 := hid hw5
  clear hw5 F4 hr4
  go_wp2_with fail
  rw [HW5.out]
  clear x4 f4 kw
  have kl : IntKind.wrap .i64 (ll : Int) = (ll : Int) := by have := HN.out.2.2.2; rw [IntKind.wrap_i64]; omega
  have kp : IntKind.wrap .i64 (place : Int) = (place : Int) := by have := HN.out.2.1; rw [IntKind.wrap_i64]; omega
  have ks : IntKind.wrap .i64 (stamp : Int) = (stamp : Int) := by have := HN.out.2.2.1; rw [IntKind.wrap_i64]; omega
  refine (num_at HL5.out.rd HBS.out.2.1 (by omega) (by have := HN.out.2.2.2; omega)).mono ?_
  rintro e w6 ⟨rfl, hr6, F6⟩
  have HL6 := hid (HL5.out.call F6 hr6)
  clear F6 hr6
  go_wp2_with fail
  refine (num_at HL6.out.rd HBS.out.2.2.1 (by omega) (by have := HN.out.2.1; omega)).mono ?_
  rintro e w7 ⟨rfl, hr7, F7⟩
  have HL7 := hid (HL6.out.call F7 hr7)
  have x7 := cell_of_heap HL7.out.x 1
  have f7 := frozen_of_heap HL7.out.x 1
  simp at x7
  obtain ⟨w8, hw8⟩ : ∃ w8, w7.setCell ⟨w2.heap.size, 1, none⟩ (.int .i64 place) = w8 := ⟨_, rfl⟩
  have HL8 := HL7.out.set 1 (.int .i64 place) rfl
  rw [hw8] at HL8
  have HL8 := hid HL8
  have HW8 := hid hw8
  clear hw8 F7 hr7
  go_wp2_with fail
  rw [HW8.out]
  clear x7 f7
  refine (num_at HL8.out.rd HBS.out.2.2.2 (by omega) (by have := HN.out.2.2.1; omega)).mono ?_
  rintro e w9 ⟨rfl, hr9, F9⟩
  have HL9 := hid (HL8.out.call F9 hr9)
  have x9 := cell_of_heap HL9.out.x 2
  have f9 := frozen_of_heap HL9.out.x 2
  simp at x9
  obtain ⟨w10, hw10⟩ : ∃ w10, w9.setCell ⟨w2.heap.size, 2, none⟩ (.int .i64 stamp) = w10 := ⟨_, rfl⟩
  have HL10 := HL9.out.set 2 (.int .i64 stamp) rfl
  rw [hw10] at HL10
  have HL10 := hid HL10
  have HW10 := hid hw10
  clear hw10 F9 hr9
  go_wp2_with fail
  rw [HW10.out]
  clear x9 f9 kl kp ks
  have HR := raw_at HL10.out.rd
  rw [HN.out.2.2.2.2] at HR
  refine HR.mono ?_
  rintro e w11 ⟨la, lc, rfl, hb11, hr11, F11⟩
  have HL11 := hid (HL10.out.call F11 hr11)
  have x11 := cell_of_heap HL11.out.x 3
  have f11 := frozen_of_heap HL11.out.x 3
  simp at x11
  obtain ⟨w12, hw12⟩ : ∃ w12, w11.setCell ⟨w2.heap.size, 3, none⟩ (.slice la ll lc) = w12 := ⟨_, rfl⟩
  have HL12 := HL11.out.set 3 (.slice la ll lc) rfl
  rw [hw12] at HL12
  have hb12 := hb11.fr (S := fun b => b = w2.heap.size) (w' := w12) (by rw [← hw12]; exact (Fr.refl (fun b => b = w2.heap.size) _).setCell (a := ⟨w2.heap.size, 3, none⟩) (fun _ => rfl) _) (fun b c hc e => by rw [e, HL11.out.x] at hc; cases hc)
  have HL12 := hid HL12
  have HBL := hid hb12
  have HW12 := hid hw12
  clear hw12 F11 hr11 hb11 hb12 HR
  go_wp2_with fail
  rw [HW12.out]
  clear x11 f11
  refine (bad_at HL12.out.rd).mono ?_
  rintro e w' ⟨rfl, rfl⟩
  have y0 := cell_of_heap HL12.out.x 0
  have y1 := cell_of_heap HL12.out.x 1
  have y2 := cell_of_heap HL12.out.x 2
  have y3 := cell_of_heap HL12.out.x 3
  simp at y0 y1 y2 y3
  go_wp2_with fail
  refine (right_ok kind place stamp la ll lc size (by omega) (by omega) (by have := HN.out.1; omega) (by have := HN.out.2.1; omega) (by omega) (by have := HN.out.2.2.2; omega) _).mono ?_
  rintro e w13 ⟨rfl, F13⟩
  have F113 := HL12.out.f.trans F13 (fun _ _ h => h)
  have hx13 := F13.heap HL12.out.x (fun h => h)
  have z0 := cell_of_heap hx13 0
  have z1 := cell_of_heap hx13 1
  have z2 := cell_of_heap hx13 2
  have z3 := cell_of_heap hx13 3
  simp at z0 z1 z2 z3
  have HBO := hid (build_ok (HBL.out.fr F13 (fun _ _ _ h => h)) HLD.out size kind place stamp (by omega) (by omega) HN.out.1 HN.out.2.1 HN.out.2.2.1 (by have := HN.out.2.2.2; omega))
  have HF13 := hid (And.intro F13 (And.intro F113 hx13))
  clear F13 F113 hx13 y0 y1 y2 y3
  go_wp2_with fail
  refine HBO.out.mono ?_
  rintro e w14 ⟨ma, mc, rfl, hm, F14⟩
  have HEQ := hid (equal_same hm ((HA.out.1.fr HF13.out.2.1 (fun _ _ _ h => h)).fr F14 (fun _ _ _ h => h)))
  have hx14 := F14.heap HF13.out.2.2 (fun h => h)
  have HF14 := hid (And.intro F14 hx14)
  clear F14 hx14 hm z0 z1 z2 z3
  go_wp2_with fail
  refine HEQ.out.mono ?_
  rintro e w' ⟨rfl, rfl⟩
  have y0 := cell_of_heap HF14.out.2 0
  have y1 := cell_of_heap HF14.out.2 1
  have y2 := cell_of_heap HF14.out.2 2
  have y3 := cell_of_heap HF14.out.2 3
  simp at y0 y1 y2 y3
  have G := HB1.out.1.trans (HF13.out.2.1.trans HF14.out.1 (fun _ _ h => h)) (fun _ _ h => h)
  have hb15 := (HF13.out.2.1.trans HF14.out.1 (fun _ _ h => h)).heap HB1.out.2 (fun h => h)
  have e0 := cell_of_heap hb15 0
  have e1 := cell_of_heap hb15 1
  have e2 := cell_of_heap hb15 2
  have e3 := cell_of_heap hb15 3
  have z := fun o => frozen_of_heap hb15 o
  simp at e0 e1 e2 e3
  have lt := lt_of_heap hb15
  have HG := hid (And.intro G hb15)
  clear G hb15
  go_wp2
  have HLN := HN.out.2.2.2.2
  have hbl := (HBL.out.fr HF13.out.1 (fun _ _ _ h => h)).fr HF14.out.1 (fun _ _ _ h => h)
  refine bodyPost_ret (v := .tuple #[.agg #[.int .i64 kind, .int .i64 place, .int .i64 stamp, .slice la ll lc], .int .i64 0]) (by simp [results, go_sem, *]) rfl ⟨la, lc, by rw [HLN], ?_, ?_⟩
  · rw [HLN]
    refine hbl.fr (S := fun b => b = w.heap.size) (((((Fr.refl (fun b => b = w.heap.size) _).setCell (a := ⟨w.heap.size, 0, none⟩) (fun _ => rfl) _).setCell (a := ⟨w.heap.size, 1, none⟩) (fun _ => rfl) _).setCell (a := ⟨w.heap.size, 2, none⟩) (fun _ => rfl) _).setCell (a := ⟨w.heap.size, 3, none⟩) (fun _ => rfl) _) (fun b c hc e => by rw [e, HG.out.2] at hc; cases hc)
  · exact (((HG.out.1.setNew (Nat.le_refl _) _).setNew (Nat.le_refl _) _).setNew (Nat.le_refl _) _).setNew (Nat.le_refl _) _
end Go.Proofs.YtgdhaaokolfdoaaGreatDoor
