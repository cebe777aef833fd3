/- A pack of texts: RV, CO, SX, CN. Conditions: those that each text names. -/
import Derived.Test.YtgdhaaokolfdoaaGreatDoorWAI
import Derived.Test.YtgdhaaokolfdoaaGreatDoorWAK
import Derived.Test.YtgdhaaokolfdoaaGreatDoorWAL
import Derived.Deep.Cut
import Derived.Deep.CutRange
set_option linter.unusedVariables false
set_option linter.unusedSimpArgs false
set_option linter.unnecessarySimpa false
/- The store: Read of a page that lies on the device. Conditions: the store lies in the world as StoreAt says, its device is not down, the page's sector was built by the store. -/
namespace Go.Proofs.YtgdhaaokolfdoaaGreatDoor
open Go.RowKit Go.Sg Go.Sg.Bits Go.Sg.Clk CP
theorem GoodMem.frB {w w' : World} {B : Blk} {x : Sto} (h : GoodMem w x) (F : FrB B w w') : GoodMem w' x := fun k q hq =>
  ⟨(h k q hq).1, (h k q hq).2.1, (h k q hq).2.2.elim fun bs ⟨hb, hl, hy⟩ => ⟨bs, hb.frB F, hl, hy⟩⟩
theorem leafget_page {w : World} {base d bf bq : Nat} {D : Dev} (h : DevAt w base d bf bq D) (hdown : D.down = false) (hlen : ∀ y ∈ D.loose, y.2.length = D.size) (hmany : D.loose.length ≤ 100000) (at_ : Nat) (hat : at_ < D.sectors)
    (place stamp : Nat) (load : List Int) (hz : D.sec at_ = buildM D.size 2 place stamp load) (hby : ∀ x ∈ load, 0 ≤ x ∧ x < 256) (hp : place ≤ 2147483647) (hs : stamp < 9223372036854775808) (hl : load.length + 19 ≤ D.size) :
    Calls Tryz.prog 87 #[.pointer (some ⟨d, 0, none⟩), .int .i64 at_, .int .i64 2, .int .i64 place] w fun e w' => ∃ la lc, e = .returned (.tuple #[.agg #[.int .i64 2, .int .i64 place, .int .i64 stamp, .slice la load.length lc], .int .i64 0]) ∧ ByV w' la load.length lc load ∧ Fr (fun _ => False) w w' :=
  leafget_made h hdown hlen hmany at_ hat 2 place stamp load hz hby (by omega) hp hs hl
/-- What Read of a page on the device does. -/
def ReadDev (B : Blk) (x : Sto) (p stamp : Nat) (st : Int) (load : List Int) (w : World) (e : Ending) (w' : World) : Prop :=
  ∃ err g D la lc, GoneOk x.mem x.places p g ∧ OutR w' x g D err ∧ ByV w' la load.length lc load ∧ StoreAt w' B { x with mem := putF x.mem p ⟨stamp, la, load.length, lc, false⟩ g, dev := D } ∧ FrB B w w' ∧
    (err ≠ 0 → e = .returned (.tuple #[.slice none 0 0, .int .i64 err])) ∧ (err = 0 → (stamp : Int) ≠ st → e = .returned (.tuple #[.slice none 0 0, .int .i64 5])) ∧
    (err = 0 → (stamp : Int) = st → ∃ a c, e = .returned (.tuple #[.slice a load.length c, .int .i64 0]) ∧ ByV w' a load.length c load)
/-- Read, behind memory was asked. -/
def ReadM1 (B : Blk) (x : Sto) (p : Nat) (st : Int) (w : World) (v v' : Value) (W : World) : Prop :=
  ∃ b, (v = .pointer (some ⟨b, 0, none⟩) ∧ v' = .bool false) ∧ (w.heap.size < b ∧ W.heap[b]? = some (.cells #[.int .i64 0, .slice none 0 0, .bool false] 162)) ∧ W.heap[w.heap.size]? = some (.cells #[.int .i64 p, .int .i64 st] 35) ∧ StoreAt W B x ∧ FrB B w W
/-- Read, behind the device was asked. -/
def ReadM2 (B : Blk) (x : Sto) (p : Nat) (st : Int) (b stamp : Nat) (load : List Int) (w : World) (v v' : Value) (W : World) : Prop :=
  ∃ b' la lc, (v = .pointer (some ⟨b', 0, none⟩) ∧ v' = .int .i64 0) ∧ (W.heap[b']? = some (.cells #[.int .i64 2, .int .i64 p, .int .i64 stamp, .slice la load.length lc] 166) ∧ W.heap[b]? = some (.cells #[.int .i64 0, .slice none 0 0, .bool false] 162)) ∧ W.heap[w.heap.size]? = some (.cells #[.int .i64 p, .int .i64 st] 35) ∧ StoreAt W B x ∧ FrB B w W ∧ ByV W la load.length lc load
namespace SF
set_option maxHeartbeats 4000000 in
theorem read_dev {w : World} {B : Blk} {x : Sto} (h : StoreAt w B x) (hg : GoodMem w x) (hu : DevUp x.dev) (p stamp : Nat) (st : Int) (load : List Int) (h1 : (p : Int) < x.pages) (hq : x.mem p = none)
    (hlen : ∀ y ∈ x.dev.loose, y.2.length = x.dev.size) (hz : x.dev.sec (x.first + p) = buildM x.dev.size 2 p stamp load) (hby : ∀ b ∈ load, 0 ≤ b ∧ b < 256) (hp : p ≤ 2147483647) (hs : stamp < 9223372036854775808) (hl : load.length + 19 ≤ x.dev.size) (hroom : load.length ≤ x.room) :
    Calls Tryz.prog 24 #[B.ptr, .agg #[.int .i64 p, .int .i64 st]] w (ReadDev B x p stamp st load w) := by
  obtain ⟨w1, hw1⟩ : ∃ w1, w.alloc (.cells #[.int .i64 p, .int .i64 st] 35) = w1 := ⟨_, rfl⟩
  have F1 : Fr (fun _ => False) w w1 := by rw [← hw1]; exact (Fr.refl _ _).alloc _
  have b1 : w1.heap[w.heap.size]? = some (.cells #[.int .i64 p, .int .i64 st] 35) := by rw [← hw1]; exact heap_alloc_new _ _
  obtain ⟨at_, hat⟩ := Int.eq_ofNat_of_zero_le (show 0 ≤ x.first + (p : Int) by have := h.rg.2.2.1; omega)
  have hats : at_ < x.dev.sectors := by have := h.rg.2.2.2.1; omega
  have hsec := h.dev.rg.1.2
  have hwr : IntKind.i64.wrap (x.first + (p : Int)) = (at_ : Int) := by rw [IntKind.wrap_i64]; omega
  have HK := hid (fun W (q : Pg) (S : StoreAt W B x) (F : FrB B w W) (hb : ∃ bs, ByV W q.la q.ll q.lc bs ∧ bs.length ≤ x.room) => keep_dev S (hg.frB F) hu p q hb)
  have HN := hid (And.intro hby hroom)
  have HLG := hid (fun W (hS : StoreAt W B x) => leafget_page hS.dev hu.down hlen hu.many at_ hats p stamp load (by have := hz; rw [hat] at this; exact this) hby hp hs hl)
  have HI := hid (in_ok (h.fr0 F1) p st (by omega) h1)
  have H1 := hid (h.fr0 F1)
  have HQ := hid hq
  have HW := hid hw1
  have HB1 := hid b1
  have HF1 := hid F1
  have HWR := hid hwr
  clear hw1 F1 h hq b1 hz hlen hwr hat hby hroom hl hp hs hu hg
  go_enter Tryz.func24, Tryz.ntmps24
  go_wp2_with fail
  rw [HW.out]
  refine HI.out.mono ?_
  rintro e w2 ⟨rfl, F2⟩
  obtain ⟨f0, f1, fz, fl⟩ := cells2 (F2.heap HB1.out (fun h => h))
  have h2 := H1.out.fr0 F2
  have g17 := h2.sc.c17
  have ls := h2.sc.lt
  have nl := h2.mem.lts
  have HG := hid (fun W (F : Fr (fun _ => False) w2 W) => (getmem_at (h2.mem.fr F (fun h => h) (fun h => h) (fun h => h)) p).mono
    (fun (e : Ending) W' ⟨he, hm, F'⟩ => (⟨by rw [he, HQ.out]; rfl, hm, Fr.trans (S := fun b => b = B.bp) (S' := fun b => b = B.bp) (F.mono (fun _ _ h => h.elim)) F' (fun _ _ h => h), F'⟩ :
      e = Ending.returned (.tuple #[.agg #[.int .i64 0, .slice none 0 0, .bool false], .bool false]) ∧ MemAt W' B.bc B.bp B.bm x.places x.mem ∧ Fr (fun b => b = B.bp) w2 W' ∧ Fr (fun b => b = B.bp) W W')))
  have NX := hid (show ¬ w2.heap.size = B.bp by omega)
  have NS := hid (h2.ner (r := .s) (r' := .bp) (by decide))
  have NW := hid (show ¬ w.heap.size = B.bp by
    have := H1.out.heaps .bp
    have h3 := kd_cells HB1.out
    intro e
    rw [e] at h3
    have h4 := this.2.2.2
    simp only [Blk.at_] at h4
    rw [h4] at h3
    simp [Role.kind] at h3)
  have m1 : ¬ w2.heap.size = B.s := by omega
  have m2 : ¬ w2.heap.size = w.heap.size := by omega
  have H2 := hid h2
  have HF2 := hid F2
  clear h2 F2 nl
  go_upto_region 4 with fail
  go_cut [7, 8] from 18 to 27 (fun v v' wx => ReadM1 B x p st w v v' wx)
  case first =>
    go_region_held3 (fun W => W.cell? ⟨B.s, 17, none⟩ = some (.pointer (some ⟨B.bc, 0, none⟩)) ∧ W.cell? ⟨w.heap.size, 0, none⟩ = some (.int .i64 p)) (go_keep)
      ((go_at_call 86; refine (HG.out _ (by first | exact ((Fr.refl _ _).alloc _) | exact (Fr.refl _ _) | exact ((Fr.refl _ _).drew) | exact ((Fr.refl _ _).alloc _).drew | exact ((Fr.refl _ _).drew.alloc _))).mono ?_; rintro e w7 ⟨rfl, hm, F7, F8⟩; have e0 := fun (i : Nat) (hh : w2.heap.size < _) => F8.cell (p := ⟨w2.heap.size, i, none⟩) hh NX.out; have ez := fun (i : Nat) (hh : w2.heap.size < _) => World.frozen?_of_block (a := ⟨w2.heap.size, i, none⟩) (F8.block w2.heap.size hh NX.out); have EB := hid (fun (hh : w2.heap.size < _) => F8.block w2.heap.size hh NX.out); have el := F8.size; have el7 := F7.size; have m3 : ¬ w7.heap.size = B.s := (by omega); have m4 : ¬ w7.heap.size = w.heap.size := (by omega); have g17 := (F7.cell (p := ⟨B.s, 17, none⟩) ls NS.out).trans g17; have f0 := (F7.cell (p := ⟨w.heap.size, 0, none⟩) fl NW.out).trans f0; have f1 := (F7.cell (p := ⟨w.heap.size, 1, none⟩) fl NW.out).trans f1; have HF7 := hid F7; have HM := hid hm; clear F7 hm F8))
    all_goals
      have lw7 : w.heap.size < w7.heap.size := by omega
      have FA : FrR B [.bp] w1 w7 := (HF2.out.mono (fun _ _ h => h.elim)).trans HF7.out (fun b _ h => ⟨.bp, by simp, h⟩)
      have hS7 : StoreAt w7 B x := H1.out.fr_bp FA HM.out
      have hbx := FrB.heap (B := B) (H1.out.frB FA) HB1.out (by decide)
      have H7 := hid (And.intro hS7 (And.intro (show FrB B w w7 from (FrB.none HF1.out).trans (H1.out.frB FA)) hbx))
      clear FA hS7 hbx m3 m4 m1 m2
    · go_wp2_with fail
      go_meet
      case rel =>
        have FN : Fr (fun _ => False) w7 (w7.alloc (.cells #[.int .i64 0, .slice none 0 0, .bool false] 162)) := (Fr.refl _ _).alloc _
        exact ⟨w7.heap.size, ⟨rfl, rfl⟩, ⟨lw7, heap_alloc_new _ _⟩, FN.heap H7.out.2.2 (fun h => h), H7.out.1.fr0 FN, H7.out.2.1.trans (FrB.none FN)⟩
    · go_wp2_with fail
      go_meet
      case rel =>
        have hz7 : w7.heap[w2.heap.size]? = some (.cells #[.int .i64 0, .slice none 0 0, .bool false] 162) := (EB.out (by simp)).trans (heap_alloc_new _ _)
        obtain ⟨W8, hW8⟩ : ∃ W8, ((w7.setCell ⟨w2.heap.size, 0, none⟩ (.int .i64 0)).setCell ⟨w2.heap.size, 1, none⟩ (.slice none 0 0)).setCell ⟨w2.heap.size, 2, none⟩ (.bool false) = W8 := ⟨_, rfl⟩
        have FN : Fr (fun b => b = w2.heap.size) w7 W8 := by rw [← hW8]; exact Fr.set3 (S := fun b => b = w2.heap.size) (b := w2.heap.size) (Fr.refl _ _) rfl _ _ _
        have hlw : w.heap.size ≤ w2.heap.size := by omega
        have FF8 : FrB B w W8 := by
          rw [← hW8]
          exact ((H7.out.2.1.setCell (a := ⟨w2.heap.size, 0, none⟩) (fun h => absurd h (by simp; omega)) _).setCell (a := ⟨w2.heap.size, 1, none⟩) (fun h => absurd h (by simp; omega)) _).setCell (a := ⟨w2.heap.size, 2, none⟩) (fun h => absurd h (by simp; omega)) _
        have hz8 : W8.heap[w2.heap.size]? = some (.cells #[.int .i64 0, .slice none 0 0, .bool false] 162) := by
          rw [← hW8, heap_setCell_cells _ _ _ _ (heap_setCell_cells _ _ _ _ (heap_setCell_cells _ _ _ _ hz7))]; rfl
        rw [hW8]
        exact ⟨w2.heap.size, ⟨rfl, rfl⟩, ⟨fl, hz8⟩, FN.heap H7.out.2.2 (by omega), H7.out.1.frL FN hz7 (by decide), FF8⟩
  case rest =>
    obtain ⟨bp, ⟨rfl, rfl⟩, ⟨hbp, hpx⟩, hrx, hSc, Fc⟩ := hcut
    clear f0 f1 fz fl g17 HG NX NS NW m1 m2 HF2 H2 ls
    obtain ⟨p0, p1, pz, plt⟩ := cells2 hrx
    have q0 := hSc.sc.c0
    have q9 := hSc.sc.c9
    have qls := hSc.sc.lt
    have hwr := HWR.out
    have n1 : ¬ wc.heap.size = B.s := by omega
    have n2 : ¬ wc.heap.size = w.heap.size := by omega
    have HC := hid (fun W (F : Fr (fun _ => False) wc W) => (HLG.out W (hSc.fr0 F)).mono (fun (e : Ending) W' ⟨la, lc, he, hb, F'⟩ => (⟨la, lc, he, hb, F.trans F' (fun _ _ h => h), F'⟩ : ∃ la lc, e = Ending.returned (.tuple #[.agg #[.int .i64 2, .int .i64 p, .int .i64 stamp, .slice la load.length lc], .int .i64 0]) ∧ ByV W' la load.length lc load ∧ Fr (fun _ => False) wc W' ∧ Fr (fun _ => False) W W')))
    have H8 := hid (And.intro hSc (And.intro Fc (And.intro hrx hpx)))
    clear hSc Fc hrx hpx
    go_upto_region 6 with fail
    go_cut [9, 10] from 30 to 46 (fun v v' wx => ReadM2 B x p st bp stamp load w v v' wx)
    case first =>
      go_region_held3 (fun W => (W.cell? ⟨B.s, 0, none⟩ = some (.pointer (some ⟨B.d, 0, none⟩)) ∧ W.cell? ⟨B.s, 9, none⟩ = some (.int .i64 x.first)) ∧ W.cell? ⟨w.heap.size, 0, none⟩ = some (.int .i64 p)) (go_keep)
        ((go_at_call 87; refine (HC.out _ (by first | exact ((Fr.refl _ _).alloc _) | exact (Fr.refl _ _) | exact ((Fr.refl _ _).drew) | exact ((Fr.refl _ _).alloc _).drew | exact ((Fr.refl _ _).drew.alloc _))).mono ?_; rintro e w9 ⟨la, lc, rfl, hb9, F9, F9'⟩; have e90 := fun (i : Nat) (hh : wc.heap.size < _) => F9'.cell (p := ⟨wc.heap.size, i, none⟩) hh (fun h => h); have e9z := fun (i : Nat) (hh : wc.heap.size < _) => World.frozen?_of_block (a := ⟨wc.heap.size, i, none⟩) (F9'.block wc.heap.size hh (fun h => h)); have EB9 := hid (fun (hh : wc.heap.size < _) => F9'.block wc.heap.size hh (fun h => h)); have el9 := F9'.size; have el99 := F9.size; have p0 := (F9.cell (p := ⟨w.heap.size, 0, none⟩) plt (fun h => h)).trans p0; have q0 := (F9.cell (p := ⟨B.s, 0, none⟩) qls (fun h => h)).trans q0; have q9 := (F9.cell (p := ⟨B.s, 9, none⟩) qls (fun h => h)).trans q9; have HF9 := hid F9; have HB9 := hid hb9; clear F9 F9' hb9))
      · go_wp2_with fail
        go_meet
        case rel =>
          obtain ⟨hSc, Fc, hrx, hpx⟩ := H8.out
          have FN : Fr (fun _ => False) wc (w9.alloc (.cells #[.int .i64 2, .int .i64 p, .int .i64 stamp, .slice la load.length lc] 166)) := HF9.out.alloc _
          exact ⟨w9.heap.size, la, lc, ⟨rfl, rfl⟩, ⟨heap_alloc_new _ _, FN.heap hpx (fun h => h)⟩, FN.heap hrx (fun h => h), hSc.fr0 FN, Fc.trans (FrB.none FN), HB9.out.fr ((Fr.refl (fun _ => False) _).alloc _) (fun _ _ _ h => h)⟩
      · go_wp2_with fail
        go_meet
        case rel =>
          obtain ⟨hSc, Fc, hrx, hpx⟩ := H8.out
          have hz9 : w9.heap[wc.heap.size]? = some (.cells #[.int .i64 0, .int .i64 0, .int .i64 0, .slice none 0 0] 166) := (EB9.out (by simp)).trans (heap_alloc_new _ _)
          obtain ⟨W8, hW8⟩ : ∃ W8, (((w9.setCell ⟨wc.heap.size, 0, none⟩ (.int .i64 2)).setCell ⟨wc.heap.size, 1, none⟩ (.int .i64 p)).setCell ⟨wc.heap.size, 2, none⟩ (.int .i64 stamp)).setCell ⟨wc.heap.size, 3, none⟩ (.slice la load.length lc) = W8 := ⟨_, rfl⟩
          have FN : Fr (fun b => b = wc.heap.size) w9 W8 := by
            rw [← hW8]
            exact ((((Fr.refl (fun b => b = wc.heap.size) _).setCell (a := ⟨wc.heap.size, 0, none⟩) (fun _ => rfl) _).setCell (a := ⟨wc.heap.size, 1, none⟩) (fun _ => rfl) _).setCell (a := ⟨wc.heap.size, 2, none⟩) (fun _ => rfl) _).setCell (a := ⟨wc.heap.size, 3, none⟩) (fun _ => rfl) _
          have FC : Fr (fun _ => False) wc W8 := HF9.out.trans FN (fun b hb h => by omega)
          have hz8 : W8.heap[wc.heap.size]? = some (.cells #[.int .i64 2, .int .i64 p, .int .i64 stamp, .slice la load.length lc] 166) := by
            rw [← hW8, heap_setCell_cells _ _ _ _ (heap_setCell_cells _ _ _ _ (heap_setCell_cells _ _ _ _ (heap_setCell_cells _ _ _ _ hz9)))]; rfl
          rw [hW8]
          exact ⟨wc.heap.size, la, lc, ⟨rfl, rfl⟩, ⟨hz8, FC.heap hpx (fun h => h)⟩, FC.heap hrx (fun h => h), hSc.fr0 FC, Fc.trans (FrB.none FC), HB9.out.frL FN hz9 (by decide)⟩
    case rest =>
      obtain ⟨bx, la, lc, ⟨rfl, rfl⟩, ⟨hxx, hpx⟩, hrx, hSc, Fc, hbv⟩ := hcut
      clear p0 p1 pz plt q0 q9 qls hwr n1 n2 HC H8
      obtain ⟨r0, r1, rz, rl⟩ := cells2 hrx
      obtain ⟨x0, x1, x2, x3, xz, xl⟩ := cells4 hxx
      obtain ⟨y0, y1, y2, yz, yl⟩ := cells3 hpx
      obtain ⟨W3, hW3⟩ : ∃ W3, ((wc.setCell ⟨bp, 0, none⟩ (.int .i64 stamp)).setCell ⟨bp, 1, none⟩ (.slice la load.length lc)).setCell ⟨bp, 2, none⟩ (.bool false) = W3 := ⟨_, rfl⟩
      have FN : Fr (fun b => b = bp) wc W3 := by rw [← hW3]; exact Fr.set3 (S := fun b => b = bp) (b := bp) (Fr.refl _ _) rfl _ _ _
      have hz3 : W3.heap[bp]? = some (.cells #[.int .i64 stamp, .slice la load.length lc, .bool false] 162) := by
        rw [← hW3, heap_setCell_cells _ _ _ _ (heap_setCell_cells _ _ _ _ (heap_setCell_cells _ _ _ _ hpx))]; rfl
      have hr3 := FN.heap hrx (by omega)
      have F3 : FrB B w W3 := by
        rw [← hW3]
        exact ((Fc.setCell (a := ⟨bp, 0, none⟩) (fun h => absurd h (by simp; omega)) _).setCell (a := ⟨bp, 1, none⟩) (fun h => absurd h (by simp; omega)) _).setCell (a := ⟨bp, 2, none⟩) (fun h => absurd h (by simp; omega)) _
      have hb3 := hbv.frL FN hpx (by decide)
      have hS3 := hSc.frL FN hpx (by decide)
      have HKC := hid (HK.out W3 ⟨stamp, la, load.length, lc, false⟩ hS3 F3 ⟨load, hb3, HN.out.2⟩)
      obtain ⟨s0, s1, s2, sz, sl⟩ := cells3 hz3
      obtain ⟨t0, t1, tz, tl⟩ := cells2 hr3
      have H3 := hid (And.intro hS3 (And.intro F3 (And.intro hb3 (And.intro hz3 hr3))))
      have HW3 := hid hW3
      have nb1 : ¬ bx = bp := by
        intro e; rw [e, hpx] at hxx; cases hxx
      clear FN hz3 hr3 F3 hb3 hS3 hW3 hSc Fc hbv hxx hpx hrx
      go_wp2_with fail
      rw [HW3.out]
      refine HKC.out.mono ?_
      rintro e w5 ⟨err, g, D, rfl, hgo, ho, hS5, F5⟩
      obtain ⟨hS3, F3, hb3, hz3, hr3⟩ := H3.out
      have hz5 := F5.heap hz3 (by decide)
      have hr5 := F5.heap hr3 (by decide)
      have hb5 := hb3.frB F5
      have F05 := F3.trans F5
      have hrm := hS3.rg.1
      have hlr := HN.out.2
      have H5 := hid (And.intro hgo (And.intro ho (And.intro hb5 (And.intro hS5 F05))))
      clear s0 s1 s2 sz sl t0 t1 tz tl r0 r1 rz rl x0 x1 x2 x3 xz xl y0 y1 y2 yz yl hgo ho hS5 F5 hS3 F3 hb3 hz3 hr3 F05 H3 HKC HK
      obtain ⟨s0, s1, s2, sz, sl⟩ := cells3 hz5
      obtain ⟨t0, t1, tz, tl⟩ := cells2 hr5
      clear hz5 hr5
      by_cases he : err = 0
      · subst he
        by_cases hst : (stamp : Int) = st
        · have hne : ((stamp : Int) != st) = false := by simp [hst]
          have HST := hid hst
          have HCL := hid (clone_v hb5.slb (by omega))
          clear hst hb5
          go_wp2_with fail
          refine HCL.out.mono ?_
          rintro e w6 ⟨a', c', rfl, hb6, F6⟩
          have H6 := hid (And.intro hb6 F6)
          clear hb6 F6
          go_wp2
          go_ret2
          obtain ⟨hgo, ho, hb5, hS5, F05⟩ := H5.out
          obtain ⟨hb6, F6⟩ := H6.out
          exact ⟨0, g, D, la, lc, hgo, OutR_frB ho (FrB.none (B := B) F6), hb5.frB (FrB.none (B := B) F6), hS5.fr0 F6, F05.trans (FrB.none F6), fun h => absurd rfl h, fun _ h => absurd HST.out h, fun _ _ => ⟨a', c', rfl, hb6⟩⟩
        · have hne : ((stamp : Int) != st) = true := by simpa using hst
          have HST := hid hst
          clear hst hb5
          go_wp2
          go_ret2
          obtain ⟨hgo, ho, hb5, hS5, F05⟩ := H5.out
          exact ⟨0, g, D, la, lc, hgo, ho, hb5, hS5, F05, fun h => absurd rfl h, fun _ _ => rfl, fun _ h => absurd h HST.out⟩
      · have hne : (err != 0) = true := by simpa using he
        have HE := hid he
        clear he hb5
        go_wp2
        go_ret2
        obtain ⟨hgo, ho, hb5, hS5, F05⟩ := H5.out
        exact ⟨err, g, D, la, lc, hgo, ho, hb5, hS5, F05, fun _ => rfl, fun h => absurd h HE.out, fun h => absurd h HE.out⟩
end SF
end Go.Proofs.YtgdhaaokolfdoaaGreatDoor

/- What a store's pages hold, in memory or on the device: the plain side. Conditions: none. -/
namespace Go.Sg
open Go.RowKit
theorem ByV.uniq {w : World} {a : Option Addr} {n c c' : Nat} {bs bs' : List Int} (h : ByV w a n c bs) (h' : ByV w a n c' bs') : bs = bs' := by
  have l1 := h.len
  have l2 := h'.len
  refine List.ext_getElem? fun i => ?_
  rcases Nat.lt_or_ge i n with hi | hi
  · have e1 : bs[i]? = some bs[i] := List.getElem?_eq_getElem (by omega)
    have e2 : bs'[i]? = some bs'[i] := List.getElem?_eq_getElem (by omega)
    obtain ⟨b, off, ha, _, hc⟩ := h.by_.at_ i _ e1
    obtain ⟨b', off', ha', _, hc'⟩ := h'.by_.at_ i _ e2
    rw [ha] at ha'; cases ha'
    rw [hc] at hc'
    simp only [Option.some.injEq, Value.int.injEq, true_and] at hc'
    rw [e1, e2, hc']
  · rw [List.getElem?_eq_none (by omega), List.getElem?_eq_none (by omega)]
/-- A device behind a write. -/
def Dev.wrote (D : Dev) (at_ : Int) (bs : List Int) : Dev := { D.act with loose := D.loose ++ [(at_, bs)] }
theorem Dev.write_ok {D : Dev} {at_ : Int} {bs : List Int} (h : D.down = false) (h1 : 0 ≤ at_ ∧ at_ < D.sectors) (h2 : bs.length = D.size) :
    D.write at_ bs = (D.wrote at_ bs, if D.act.down then 4 else 0) := by
  rw [Dev.write, h]
  simp only [Bool.false_eq_true, if_false]
  rw [if_neg (show ¬ (at_ < 0 ∨ (D.sectors : Int) ≤ at_) by omega), if_neg (show ¬ bs.length ≠ D.size by omega)]
  rfl
theorem Dev.wrote_sec (D : Dev) (at_ : Int) (bs : List Int) (k : Int) : (D.wrote at_ bs).sec k = if k = at_ then bs else D.sec k := by
  simp only [Dev.sec, Dev.wrote, Dev.act, List.reverse_append, List.reverse_cons, List.reverse_nil, List.nil_append, List.singleton_append, List.find?_cons]
  by_cases h : k = at_
  · subst h; simp
  · have : ¬ at_ = k := fun e => h e.symm
    simp [h, this]
/-- What is known of a device: few acts; what is protected stays; whether it may go down. -/
structure DevOk (D : Dev) (P : Int → Option (List Int)) (a : Bool) (N : Nat) : Prop where
  acts : D.acts ≤ N
  many : D.loose.length ≤ N
  len : ∀ y ∈ D.loose, y.2.length = D.size
  prot : ∀ k bs, P k = some bs → D.fast k = some bs ∧ ∀ y ∈ D.loose, y.1 ≠ k
  armed : D.armed ≤ 9223372036854775807
  calm : a = false → D.armed = 0
  byt : (∀ y ∈ D.loose, ∀ x ∈ y.2, 0 ≤ x ∧ x < 256) ∧ ∀ k bs, D.fast k = some bs → ∀ x ∈ bs, 0 ≤ x ∧ x < 256
theorem DevOk.mono {D : Dev} {P : Int → Option (List Int)} {a : Bool} {N N' : Nat} (h : DevOk D P a N) (hN : N ≤ N') : DevOk D P a N' :=
  ⟨Nat.le_trans h.acts hN, Nat.le_trans h.many hN, h.len, h.prot, h.armed, h.calm, h.byt⟩
theorem DevOk.wrote {D : Dev} {P : Int → Option (List Int)} {a : Bool} {N : Nat} (h : DevOk D P a N) {at_ : Int} {bs : List Int} (hl : bs.length = D.size) (hp : P at_ = none) (hbt : ∀ x ∈ bs, 0 ≤ x ∧ x < 256) : DevOk (D.wrote at_ bs) P a (N + 1) := by
  refine ⟨Nat.succ_le_succ h.acts, ?_, ?_, ?_, ?_, ?_, ⟨fun y hy => ?_, h.byt.2⟩⟩
  · simp [Dev.wrote]; exact h.many
  · intro y hy
    rcases List.mem_append.1 hy with hy | hy
    · exact h.len y hy
    · simp at hy; subst hy; exact hl
  · intro k cs hk
    refine ⟨(h.prot k cs hk).1, fun y hy => ?_⟩
    rcases List.mem_append.1 hy with hy | hy
    · exact (h.prot k cs hk).2 y hy
    · simp at hy; subst hy
      rintro rfl
      rw [hp] at hk; cases hk
  · show D.armed - 1 ≤ _
    have := h.armed; omega
  · intro ha
    show D.armed - 1 = 0
    rw [h.calm ha]
  · rcases List.mem_append.1 hy with hy | hy
    · exact h.byt.1 y hy
    · simp at hy; subst hy; exact hbt
theorem Dev.calm_up {D : Dev} (h : D.down = false) (ha : D.armed = 0) : D.act.down = false := by
  rw [Dev.act]; simp [ha, h]
/-- Contents of pages: of each a stamp and a load. -/
abbrev Cont := Int → Option (Nat × List Int)
def updC (c : Cont) (k : Int) (v : Option (Nat × List Int)) : Cont := fun j => if j = k then v else c j
/-- What must hold of a page's contents. -/
def CntOk (pages room : Nat) (k : Int) (st : Nat) (bs : List Int) : Prop := (0 ≤ k ∧ k < pages) ∧ st < 9223372036854775808 ∧ bs.length ≤ room ∧ ∀ b ∈ bs, 0 ≤ b ∧ b < 256
end Go.Sg
namespace Go.Proofs.YtgdhaaokolfdoaaGreatDoor
open Go.RowKit Go.Sg Go.Sg.Bits Go.Sg.Clk CP SF
/-- The pages of a store hold these contents. -/
structure Holds (w : World) (x : Sto) (c : Cont) (P : Int → Option (List Int)) : Prop where
  ok : ∀ k st bs, c k = some (st, bs) → CntOk x.pages x.room k st bs
  mem : ∀ k q, x.mem k = some q → ∃ st bs, c k = some (st, bs) ∧ q.stamp = st ∧ ByV w q.la q.ll q.lc bs ∧ (q.dirty = true → P (x.first + k) = none) ∧ (q.dirty = false → x.dev.sec (x.first + k) = buildM x.dev.size 2 k.toNat st bs)
  dev : ∀ k st bs, c k = some (st, bs) → x.mem k = none → x.dev.sec (x.first + k) = buildM x.dev.size 2 k.toNat st bs
theorem Holds.frB {w w' : World} {B : Blk} {x : Sto} {c : Cont} {P : Int → Option (List Int)} (h : Holds w x c P) (F : FrB B w w') : Holds w' x c P :=
  ⟨h.ok, fun k q hq => by obtain ⟨st, bs, h1, h2, h3, h4⟩ := h.mem k q hq; exact ⟨st, bs, h1, h2, h3.frB F, h4⟩, h.dev⟩
theorem Holds.good {w : World} {x : Sto} {c : Cont} {P : Int → Option (List Int)} (h : Holds w x c P) : GoodMem w x := fun k q hq => by
  obtain ⟨st, bs, h1, h2, h3, _⟩ := h.mem k q hq
  obtain ⟨g1, g2, g3, g4⟩ := h.ok k st bs h1
  exact ⟨g1, by rw [h2]; omega, bs, h3, g3, g4⟩
/-- A store as its callers know it. -/
structure Cs where
  plan : Plan8
  first : Int
  pages : Nat
  room : Nat
  gen : Nat
  hand : Nat
  taken : Nat → Bool
  fresh : Int → Bool
  dying : Int → Bool
  dead : Int → Bool
  places : Nat
  sectors : Nat
  size : Nat
  cont : Cont
abbrev Prot := Int → Option (List Int)
abbrev _root_.Go.Sg.Sto.cs (x : Sto) (c : Cont) : Cs := ⟨x.plan, x.first, x.pages, x.room, x.gen, x.hand, x.taken, x.fresh, x.dying, x.dead, x.places, x.dev.sectors, x.dev.size, c⟩
/-- What is fresh, dying, dead is taken, each apart. -/
structure Apart (taken : Nat → Bool) (fresh dying dead : Int → Bool) : Prop where
  ft : ∀ k : Nat, fresh k = true → taken k = true
  yt : ∀ k : Nat, dying k = true → taken k = true
  et : ∀ k : Nat, dead k = true → taken k = true
  fy : ∀ k, fresh k = true → dying k = false ∧ dead k = false
  ye : ∀ k, dying k = true → dead k = false
/-- The store x holds the contents c. -/
structure Is (w : World) (x : Sto) (c : Cont) (P : Prot) (a : Bool) (N : Nat) : Prop where
  down : x.dev.down = false
  dev : DevOk x.dev P a N
  holds : Holds w x c P
  ptk : ∀ k : Nat, k < x.pages → P (x.first + k) ≠ none → x.taken k = true ∧ x.fresh k = false
  apart : Apart x.taken x.fresh x.dying x.dead
  few : N ≤ 90000
/-- A store lies in the world whose pages hold what y says. -/
structure StoreC (w : World) (B : Blk) (y : Cs) (P : Prot) (a : Bool) (N : Nat) : Prop where
  ex : ∃ x c, StoreAt w B x ∧ y = x.cs c ∧ Is w x c P a N
  tab : Tab w
  base : 0 < B.base
/-- Its device is down. -/
structure DownC (w : World) (B : Blk) (y : Cs) (P : Prot) (N : Nat) : Prop where
  ex : ∃ D, DevAt w B.base B.d B.bf B.bq D ∧ DevOk D P true N ∧ D.down = true ∧ D.sectors = y.sectors ∧ D.size = y.size
/-- How a call ends that may have gone to the device. -/
def Went (w : World) (B : Blk) (y y' : Cs) (P : Prot) (a : Bool) (N : Nat) (err : Int) : Prop :=
  (err = 0 ∧ StoreC w B y' P a N) ∨ (err = 4 ∧ a = true ∧ DownC w B y P N)
theorem StoreC.mono {w : World} {B : Blk} {y : Cs} {P : Prot} {a : Bool} {N N' : Nat} (h : StoreC w B y P a N) (hN : N ≤ N') (h9 : N' ≤ 90000) : StoreC w B y P a N' := by
  obtain ⟨⟨x, c, hS, hy, hi⟩, ht, hb⟩ := h
  exact ⟨⟨x, c, hS, hy, { hi with dev := hi.dev.mono hN, few := h9 }⟩, ht, hb⟩
theorem StoreC.fr0 {w w' : World} {B : Blk} {y : Cs} {P : Prot} {a : Bool} {N : Nat} (h : StoreC w B y P a N) (F : Fr (fun _ => False) w w') : StoreC w' B y P a N := by
  obtain ⟨⟨x, c, hS, hy, hi⟩, ht, hb⟩ := h
  exact ⟨⟨x, c, hS.fr0 F, hy, { hi with holds := hi.holds.frB (B := B) (FrB.none F) }⟩, ht.fr F (fun h => h), hb⟩
theorem Holds.frL {w w' : World} {x : Sto} {c : Cont} {P : Prot} (h : Holds w x c P) {k : Nat} (F : Fr (fun b => b = k) w w') {cs : Array Value} {t : TypeId} (hk : w.heap[k]? = some (.cells cs t)) (ht : t ≠ 5) : Holds w' x c P :=
  ⟨h.ok, fun k q hq => by obtain ⟨st, bs, h1, h2, h3, h4⟩ := h.mem k q hq; exact ⟨st, bs, h1, h2, h3.frL F hk ht, h4⟩, h.dev⟩
theorem StoreC.frL {w w' : World} {B : Blk} {y : Cs} {P : Prot} {a : Bool} {N : Nat} (h : StoreC w B y P a N) {k : Nat} (F : Fr (fun b => b = k) w w') {c : Array Value} {t : TypeId} (hk : w.heap[k]? = some (.cells c t)) (ht : t ∉ 5 :: mutT) (h0 : 0 < k) : StoreC w' B y P a N := by
  obtain ⟨⟨x, c, hS, hy, hi⟩, hT, hb⟩ := h
  exact ⟨⟨x, c, hS.frL F hk ht, hy, { hi with holds := hi.holds.frL F hk (fun e => ht (by simp [e])) }⟩, hT.fr F (fun e => by omega), hb⟩
theorem StoreC.base_le {w : World} {B : Blk} {y : Cs} {P : Prot} {a : Bool} {N : Nat} (h : StoreC w B y P a N) : B.base ≤ w.heap.size := by
  obtain ⟨⟨x, c, hS, hy, hi⟩, hT, hb⟩ := h
  have := (hS.heaps .s); omega
/-- A page is made. -/
def Cs.new (y : Cs) (n : Nat) (bs : List Int) : Cs :=
  { y with taken := upd y.taken n true, hand := (n + 1) % y.pages, fresh := updI y.fresh n true, cont := updC y.cont n (some (y.gen, bs)) }
theorem _root_.Go.Sg.DevOk.up {D : Dev} {P : Prot} {a : Bool} {N : Nat} (h : DevOk D P a N) (hd : D.down = false) (hN : N ≤ 90000) : DevUp D :=
  ⟨hd, Nat.le_trans h.acts (by omega), h.armed, Nat.le_trans h.many (by omega)⟩
/-- What a page that goes does to the device, in terms of the contents. -/
theorem out_dev {w w' : World} {B : Blk} {x : Sto} {c : Cont} {P : Prot} {a : Bool} {N : Nat} {n : Int} {g : Option (Int × Pg)} {D : Dev} {err : Int}
    (hh : Holds w x c P) (hd : DevOk x.dev P a N) (hdn : x.dev.down = false) (hg : GoneOk x.mem x.places n g) (ho : OutR w' x g D err) (F : FrB B w w') (hrg : x.room + 19 = x.dev.size ∧ x.first + x.pages = x.dev.sectors ∧ 0 ≤ x.first) :
    (DevOk D P a (N + 1) ∧ D.sectors = x.dev.sectors ∧ D.size = x.dev.size) ∧ (∀ j, (∀ k q, g = some (k, q) → j ≠ k) → D.sec (x.first + j) = x.dev.sec (x.first + j)) ∧
    (∀ k q, g = some (k, q) → ∃ st bs, c k = some (st, bs) ∧ D.sec (x.first + k) = buildM x.dev.size 2 k.toNat st bs) ∧ ((err = 0 ∧ D.down = false) ∨ (err = 4 ∧ a = true ∧ D.down = true)) := by
  cases g with
  | none =>
    obtain ⟨rfl, rfl⟩ := (show D = x.dev ∧ err = 0 from ho)
    exact ⟨⟨hd.mono (Nat.le_succ _), rfl, rfl⟩, fun _ _ => rfl, fun k q e => (by cases e), .inl ⟨rfl, hdn⟩⟩
  | some g =>
    obtain ⟨k, q⟩ := g
    obtain ⟨st, bs, hc, hst, hb, hdi, hcl⟩ := hh.mem k q hg.2.1
    obtain ⟨g1, g2, g3, g4⟩ := hh.ok k st bs hc
    unfold OutR at ho
    simp only at ho
    by_cases hq : q.dirty = true
    · rw [if_pos hq] at ho
      obtain ⟨bs', hb', hw⟩ := ho
      obtain rfl := hb'.uniq (hb.frB F)
      have hstn : q.stamp.toNat = st := by rw [hst]; simp
      have hbl : (buildM x.dev.size 2 k.toNat st bs').length = x.dev.size := buildM_length (by omega)
      rw [hstn, Dev.write_ok hdn (by omega) hbl] at hw
      obtain ⟨rfl, rfl⟩ := Prod.mk.inj hw
      refine ⟨⟨hd.wrote hbl (hdi hq) (buildM_byte g4), rfl, rfl⟩, fun j hj => ?_, fun k' q' e => ?_, ?_⟩
      · rw [Dev.wrote_sec, if_neg]
        have := hj k q rfl
        omega
      · cases e
        exact ⟨st, bs', hc, by rw [Dev.wrote_sec, if_pos rfl]⟩
      · by_cases hdo : x.dev.act.down = true
        · refine .inr ⟨by rw [if_pos hdo], ?_, hdo⟩
          cases a with
          | true => rfl
          | false => rw [Dev.calm_up hdn (hd.calm rfl)] at hdo; cases hdo
        · refine .inl ⟨by rw [if_neg hdo], (by simpa using hdo : x.dev.act.down = false)⟩
    · rw [if_neg hq] at ho
      obtain ⟨rfl, rfl⟩ := ho
      exact ⟨⟨hd.mono (Nat.le_succ _), rfl, rfl⟩, fun _ _ => rfl, fun k' q' e => by cases e; exact ⟨st, bs, hc, hcl (by simpa using hq)⟩, .inl ⟨rfl, hdn⟩⟩
theorem goes {w w' : World} {B : Blk} {x : Sto} {c : Cont} {P : Prot} {a : Bool} {N : Nat} {n : Int} {p : Pg} {g : Option (Int × Pg)} {D : Dev} {err : Int}
    (hh : Holds w x c P) (hd : DevOk x.dev P a N) (hdn : x.dev.down = false) (hg : GoneOk x.mem x.places n g) (ho : OutR w' x g D err) (F : FrB B w w')
    {st : Nat} {bs : List Int} (hp : p.stamp = st ∧ ByV w' p.la p.ll p.lc bs) (hok : CntOk x.pages x.room n st bs) (hrg : x.room + 19 = x.dev.size ∧ x.first + x.pages = x.dev.sectors ∧ 0 ≤ x.first)
    (hdirty : p.dirty = true → P (x.first + n) = none) (hclean : p.dirty = false → x.dev.sec (x.first + n) = buildM x.dev.size 2 n.toNat st bs) :
    (DevOk D P a (N + 1) ∧ D.sectors = x.dev.sectors ∧ D.size = x.dev.size) ∧ ((err = 0 ∧ D.down = false) ∨ (err = 4 ∧ a = true ∧ D.down = true)) ∧
    ∀ x' : Sto, x'.mem = putF x.mem n p g → x'.dev = D → x'.first = x.first → x'.pages = x.pages → x'.room = x.room → Holds w' x' (updC c n (some (st, bs))) P := by
  obtain ⟨h1, h2, h3, h4⟩ := out_dev hh hd hdn hg ho F hrg
  refine ⟨h1, h4, fun x' e1 e2 e3 e4 e5 => ⟨fun k s b hk => ?_, fun k q hq => ?_, fun k s b hk hm => ?_⟩⟩
  · rw [e4, e5]
    by_cases hkn : k = n
    · subst hkn
      simp [updC] at hk
      obtain ⟨rfl, rfl⟩ := hk
      exact hok
    · simp [updC, hkn] at hk
      exact hh.ok k s b hk
  · rw [e1] at hq
    rw [e2, e3, h1.2.2]
    by_cases hkn : k = n
    · subst hkn
      simp [putF] at hq
      subst hq
      refine ⟨st, bs, by simp [updC], hp.1, hp.2, hdirty, fun hc => ?_⟩
      rw [h2 k (fun k' q' e => by subst e; exact fun e' => hg.1 e'.symm)]
      exact hclean hc
    · simp only [putF, if_neg hkn] at hq
      split at hq
      · cases hq
      · rename_i hgk
        obtain ⟨s0, b0, a1, a2, a3, a4, a5⟩ := hh.mem k q hq
        refine ⟨s0, b0, by simp [updC, hkn, a1], a2, a3.frB F, a4, fun hc => ?_⟩
        rw [h2 k (fun k' q' e => by subst e; rintro rfl; exact hgk rfl)]
        exact a5 hc
  · rw [e1] at hm
    rw [e2, e3, h1.2.2]
    have hkn : k ≠ n := by
      rintro rfl
      simp [putF] at hm
    simp only [updC, if_neg hkn] at hk
    simp only [putF, if_neg hkn] at hm
    split at hm
    · rename_i hgk
      cases g with
      | none => cases hgk
      | some g =>
        obtain ⟨k', q'⟩ := g
        simp at hgk
        subst hgk
        obtain ⟨s0, b0, a1, a2⟩ := h3 k' q' rfl
        rw [hk] at a1
        cases a1
        exact a2
    · rename_i hgk
      rw [h2 k (fun k' q' e => by subst e; rintro rfl; exact hgk rfl)]
      exact hh.dev k s b hk hm
end Go.Proofs.YtgdhaaokolfdoaaGreatDoor

/- The store: Free, Mark. Conditions: the store lies in the world as StoreAt says. -/
namespace Go.Proofs.YtgdhaaokolfdoaaGreatDoor
open Go.RowKit Go.Sg Go.Sg.Bits Go.Sg.Clk CP
namespace SF
theorem gone_any {w : World} {B : Blk} {x : Sto} (h : StoreAt w B x) {n : Nat} (hn : n < x.pages) (ht : x.taken n = true) :
    Calls Tryz.prog 89 #[B.ptr, .int .i64 n] w fun e w' => e = .returned (.tuple #[]) ∧ StoreAt w' B (goneX x n) ∧ FrB B w w' := by
  cases hf : x.fresh n with
  | false => exact (gone_dying h hn hf).mono fun e w' ⟨he, hS, hF⟩ => ⟨he, hS, h.frB hF⟩
  | true => exact (gone_fresh h hn hf ht).mono fun e w' ⟨he, hS, hF⟩ => ⟨he, hS, h.frB hF⟩
set_option maxHeartbeats 2000000 in
theorem free_ok {w : World} {B : Blk} {x : Sto} (h : StoreAt w B x) (n : Nat) (st : Int) (hp : n < x.pages) (ht : x.taken n = true) (hy : x.dying n = false) (he : x.dead n = false) :
    Calls Tryz.prog 27 #[B.ptr, .agg #[.int .i64 n, .int .i64 st]] w fun e w' => e = .returned (.int .i64 0) ∧ StoreAt w' B (goneX x n) ∧ FrB B w w' := by
  obtain ⟨w1, hw1⟩ : ∃ w1, w.alloc (.cells #[.int .i64 n, .int .i64 st] 35) = w1 := ⟨_, rfl⟩
  have F1 : Fr (fun _ => False) w w1 := by rw [← hw1]; exact (Fr.refl _ _).alloc _
  have b1 : w1.heap[w.heap.size]? = some (.cells #[.int .i64 n, .int .i64 st] 35) := by rw [← hw1]; exact heap_alloc_new _ _
  obtain ⟨d0, d1, dz, dl⟩ := cells2 b1
  have HI := hid (in_ok (h.fr0 F1) n st (by omega) (by omega))
  have H1 := hid (h.fr0 F1)
  have HT := hid ht
  have HY := hid (And.intro hy he)
  have HW := hid hw1
  have HB1 := hid b1
  have HF1 := hid F1
  clear hw1 b1 F1 h ht hy he
  go_enter Tryz.func27, Tryz.ntmps27
  go_wp2_with fail
  rw [HW.out]
  refine HI.out.mono ?_
  rintro e w2 ⟨rfl, F2⟩
  obtain ⟨f0, f1, fz, fl⟩ := cells2 (F2.heap HB1.out (fun h => h))
  have h2 := H1.out.fr0 F2
  have g13 := h2.sc.c13
  have g15 := h2.sc.c15
  have g16 := h2.sc.c16
  have HH := hid (fun W (F : Fr (fun _ => False) w2 W) => (has_at (h2.bits.fr F (fun h => h) (fun h => h)) n hp))
  rw [HT.out] at HH
  obtain ⟨lf, cf, hfm, hfs⟩ := h2.dy.ex
  have hlk := fun (W : World) (hW : W.heap[B.dy]? = some (.map (ents lf) cf)) => run_lookup (P := Tryz.prog) (T := 153) false Tryz.underlying153 Tryz.underlying3 Tryz.zero4 hW n
  rw [hfs.at_, HY.out.1] at hlk
  simp only [if_true, Option.getD_some, Option.getD_none, Bool.false_eq_true, if_false] at hlk
  obtain ⟨le, ce, hem, hes⟩ := h2.de.ex
  have hlk2 := fun (W : World) (hW : W.heap[B.de]? = some (.map (ents le) ce)) => run_lookup (P := Tryz.prog) (T := 153) false Tryz.underlying153 Tryz.underlying3 Tryz.zero4 hW n
  rw [hes.at_, HY.out.2] at hlk2
  simp only [if_true, Option.getD_some, Option.getD_none, Bool.false_eq_true, if_false] at hlk2
  have HF2 := hid F2
  have H2 := hid h2
  clear F2 h2 hfs hes
  go_wp2
  go_quiet ((go_at_call 88; exact quiet_left (HH.out _ ((Fr.refl _ _).drewN _))))
  go_wp2_with fail
  refine (gone_any (H2.out.fr0 ((Fr.refl _ _).drewN nq)) hp HT.out).mono ?_
  rintro e w3 ⟨rfl, hS, F3⟩
  have H3 := hid (And.intro hS F3)
  clear hS F3
  go_wp2
  go_ret
  exact ⟨rfl, H3.out.1, (FrB.none (HF1.out.trans (HF2.out.drewN nq) (fun _ _ h => h))).trans H3.out.2⟩
set_option maxHeartbeats 2000000 in
theorem mark_free {w : World} {B : Blk} {x : Sto} (h : StoreAt w B x) (n : Nat) (st : Int) (hp : n < x.pages) (ht : x.taken n = false) :
    Calls Tryz.prog 28 #[B.ptr, .agg #[.int .i64 n, .int .i64 st]] w fun e w' => e = .returned (.int .i64 0) ∧ StoreAt w' B { x with taken := upd x.taken n true } ∧ FrB B w w' := by
  obtain ⟨w1, hw1⟩ : ∃ w1, w.alloc (.cells #[.int .i64 n, .int .i64 st] 35) = w1 := ⟨_, rfl⟩
  have F1 : Fr (fun _ => False) w w1 := by rw [← hw1]; exact (Fr.refl _ _).alloc _
  have b1 : w1.heap[w.heap.size]? = some (.cells #[.int .i64 n, .int .i64 st] 35) := by rw [← hw1]; exact heap_alloc_new _ _
  obtain ⟨d0, d1, dz, dl⟩ := cells2 b1
  have HI := hid (in_ok (h.fr0 F1) n st (by omega) (by omega))
  have H1 := hid (h.fr0 F1)
  have HT := hid ht
  have HW := hid hw1
  have HB1 := hid b1
  have HF1 := hid F1
  clear hw1 b1 F1 h ht
  go_enter Tryz.func28, Tryz.ntmps28
  go_wp2_with fail
  rw [HW.out]
  refine HI.out.mono ?_
  rintro e w2 ⟨rfl, F2⟩
  obtain ⟨f0, f1, fz, fl⟩ := cells2 (F2.heap HB1.out (fun h => h))
  have h2 := H1.out.fr0 F2
  have g13 := h2.sc.c13
  have NS := hid (h2.ner (r := .s) (r' := .bw) (by decide))
  have HH := hid (fun W (F : Fr (fun _ => False) w2 W) => (mark_new (h2.bits.fr F (fun h => h) (fun h => h)) n hp HT.out).mono (fun (e : Ending) W' ⟨he, hb, F'⟩ => (⟨he, hb, Fr.trans (S := fun b => b = B.bw) (S' := fun b => b = B.bw) (F.mono (fun _ _ h => h.elim)) F' (fun _ _ h => h)⟩ :
      e = Ending.returned (.bool true) ∧ BitsAt W' B.bs B.bw x.pages x.hand (upd x.taken n true) ∧ Fr (fun b => b = B.bw) w2 W')))
  have NW := hid (show ¬ w.heap.size = B.bw by
    have := H1.out.heaps .bw
    have h3 := kd_cells HB1.out
    intro e
    rw [e] at h3
    have h4 := this.2.2.2
    simp only [Blk.at_] at h4
    rw [h4] at h3
    simp [Role.kind] at h3)
  have ls := h2.sc.lt
  have HF2 := hid F2
  have H2 := hid h2
  clear F2 h2
  go_wp2
  go_region_held3 (fun W => W.cell? ⟨B.s, 13, none⟩ = some (.pointer (some ⟨B.bs, 0, none⟩)) ∧ W.cell? ⟨w.heap.size, 0, none⟩ = some (.int .i64 n)) (go_keep)
    ((go_at_call 90; refine (HH.out _ (by first | exact (Fr.refl _ _) | exact ((Fr.refl _ _).drew))).mono ?_; rintro e w3 ⟨rfl, hb3, F3⟩; have g13 := (F3.cell (p := ⟨B.s, 13, none⟩) ls NS.out).trans g13; have f0 := (F3.cell (p := ⟨w.heap.size, 0, none⟩) fl NW.out).trans f0; have H3 := hid (And.intro hb3 F3); clear hb3 F3))
  go_wp2
  go_ret
  obtain ⟨hb3, F3⟩ := H3.out
  have FR : FrR B [.bw] w2 w3 := F3.mono (fun b _ h => ⟨.bw, by simp, h⟩)
  have S := H2.out.stays FR
  refine ⟨rfl, ⟨S.s (by decide), S.dev (by decide) (by decide) (by decide), hb3, S.fr (by decide), S.dy (by decide), S.de (by decide), S.mem (by decide) (by decide) (by decide), S.load, H2.out.ne, H2.out.ge, H2.out.rg, H2.out.inr⟩, ?_⟩
  exact (FrB.none (HF1.out.trans HF2.out (fun _ _ h => h))).trans (H2.out.frB FR)
end SF
end Go.Proofs.YtgdhaaokolfdoaaGreatDoor

/- The store in terms of its pages' contents: New, Read, Write, Free. Conditions: the store lies in the world as StoreC says. -/
namespace Go.Proofs.YtgdhaaokolfdoaaGreatDoor
open Go.RowKit Go.Sg Go.Sg.Bits Go.Sg.Clk CP SF
theorem gen_lt {w : World} {B : Blk} {x : Sto} (h : StoreAt w B x) : x.gen < 9223372036854775808 := by have := h.rg.2.1; omega
theorem Apart.new {t : Nat → Bool} {f y d : Int → Bool} (h : Apart t f y d) {n : Nat} (hn : t n = false) : Apart (upd t n true) (updI f n true) y d := by
  have hy : y n = false := by
    cases e : y n with
    | false => rfl
    | true => rw [h.yt n e] at hn; cases hn
  have hd : d n = false := by
    cases e : d n with
    | false => rfl
    | true => rw [h.et n e] at hn; cases hn
  refine ⟨fun k hk => ?_, fun k hk => ?_, fun k hk => ?_, fun k hk => ?_, h.ye⟩
  · simp only [updI] at hk
    simp only [upd]
    split
    · rfl
    · rename_i e
      rw [if_neg (by omega)] at hk
      exact h.ft k hk
  · simp only [upd]
    split
    · rfl
    · exact h.yt k hk
  · simp only [upd]
    split
    · rfl
    · exact h.et k hk
  · simp only [updI] at hk
    split at hk
    · rename_i e; subst e; exact ⟨hy, hd⟩
    · exact h.fy k hk
/-- What New does. -/
def NewC (B : Blk) (y : Cs) (P : Prot) (a : Bool) (N : Nat) (bs : List Int) (w : World) (e : Ending) (w' : World) : Prop :=
  ∃ n err, TakeIs y.taken y.pages y.hand n ∧ e = .returned (.tuple #[refV err n y.gen, .int .i64 err]) ∧ Went w' B y (y.new n bs) P a (N + 1) err ∧ FrB B w w'
/-- The plain side of New. -/
theorem new_plain {w w' : World} {B : Blk} {x : Sto} {c : Cont} {P : Prot} {a : Bool} {N : Nat} (hS : StoreAt w B x) (hi : Is w x c P a N) (hT : Tab w) (hb : 0 < B.base) {la : Option Addr} {ll lc : Nat} {bs : List Int} (hl : bs.length ≤ x.room) (hby : ∀ b ∈ bs, 0 ≤ b ∧ b < 256) (hN : N + 1 ≤ 90000)
    {e : Ending} {n : Nat} {err : Int} {g : Option (Int × Pg)} {D : Dev} {p : Pg} (hn : TakeIs x.taken x.pages x.hand n) (hg : GoneOk x.mem x.places n g) (ho : OutR w' x g D err) (hS' : StoreAt w' B { tk x n with mem := putF x.mem n p g, dev := D })
    (hp : p.stamp = x.gen ∧ p.dirty = true ∧ ByV w' p.la p.ll p.lc bs) (F : FrB B w w') :
    ((err = 0 ∧ Is w' { tk x n with mem := putF x.mem n p g, dev := D } (updC c n (some (x.gen, bs))) P a (N + 1)) ∨ (err = 4 ∧ a = true ∧ D.down = true)) ∧ (DevOk D P a (N + 1) ∧ D.sectors = x.dev.sectors ∧ D.size = x.dev.size) := by
  have hrg := hS.rg
  have hgen := gen_lt hS
  have hpn : P (x.first + n) = none := by
    cases hP : P (x.first + n) with
    | none => rfl
    | some v =>
      have := (hi.ptk n hn.1 (by rw [hP]; simp)).1
      rw [hn.2.1] at this; cases this
  obtain ⟨h1, h2, h3⟩ := goes hi.holds hi.dev hi.down hg ho F ⟨hp.1, hp.2.2⟩ (n := n) (st := x.gen) ⟨by have := hn.1; omega, hgen, hl, hby⟩ ⟨hrg.2.2.2.2, hrg.2.2.2.1, hrg.2.2.1⟩ (fun _ => hpn) (fun hc => by rw [hp.2.1] at hc; cases hc)
  refine ⟨?_, h1⟩
  rcases h2 with ⟨rfl, hD⟩ | ⟨rfl, ha, hD⟩
  · refine .inl ⟨rfl, hD, h1.1, h3 _ rfl rfl rfl rfl rfl, fun k hk hP => ?_, hi.apart.new hn.2.1, hN⟩
    obtain ⟨a1, a2⟩ := hi.ptk k hk hP
    have hkn : k ≠ n := by rintro rfl; rw [hn.2.1] at a1; cases a1
    exact ⟨by show upd x.taken n true k = true; simp [upd, hkn, a1], by show updI x.fresh n true k = false; simp only [updI]; rw [if_neg (by omega)]; exact a2⟩
  · exact .inr ⟨rfl, ha, hD⟩
theorem new_c {w : World} {B : Blk} {y : Cs} {P : Prot} {a : Bool} {N : Nat} (h : StoreC w B y P a N) {la : Option Addr} {ll lc : Nat} {bs : List Int} (hin : Inp w B la ll lc bs) (hby : ∀ b ∈ bs, 0 ≤ b ∧ b < 256) (hl : ll ≤ y.room) {j : Nat} (hj : j < y.pages) (hfree : y.taken j = false) (hN : N + 1 ≤ 90000) :
    Calls Tryz.prog 22 #[B.ptr, .slice la ll lc] w (NewC B y P a N bs w) := by
  obtain ⟨⟨x, c, hS, rfl, hi⟩, hT, hb⟩ := h
  have hlen := hin.1.by_.len
  refine (SF.new_ok hS hT hb hin hl hj hfree fun W p n hn hS' hF hp => keep_dev hS' ((hi.holds.frB hF).good : GoodMem W x) (hi.dev.up hi.down hi.few) n p hp).mono ?_
  rintro e w' ⟨n, err, g, D, p, hn, he, hg, ho, hS', hp, F⟩
  obtain ⟨h1, h2⟩ := new_plain hS hi hT hb (la := la) (ll := ll) (lc := lc) (e := e) (by rw [hlen]; exact hl) hby hN hn hg ho hS' hp F
  refine ⟨n, err, hn, he, ?_, F⟩
  rcases h1 with ⟨rfl, h1⟩ | ⟨rfl, ha, hD⟩
  · refine .inl ⟨rfl, ⟨_, _, hS', ?_, h1⟩, hT.fr F (fun h => by omega), hb⟩
    show Cs.new (x.cs c) n bs = _
    simp [Cs.new, Sto.cs, tk, h2.2.1, h2.2.2]
  · subst ha
    exact .inr ⟨rfl, rfl, ⟨D, hS'.dev, h2.1, hD, h2.2.1, h2.2.2⟩⟩
theorem new_long_c {w : World} {B : Blk} {y : Cs} {P : Prot} {a : Bool} {N : Nat} (h : StoreC w B y P a N) (la : Option Addr) (ll lc : Nat) (hl : y.room < ll) :
    Calls Tryz.prog 22 #[B.ptr, .slice la ll lc] w fun e w' => e = .returned (.tuple #[.agg #[.int .i64 0, .int .i64 0], .int .i64 9]) ∧ Fr (fun _ => False) w w' := by
  obtain ⟨⟨x, c, hS, rfl, hi⟩, hT, hb⟩ := h
  exact new_long hS la ll lc hl
theorem new_full_c {w : World} {B : Blk} {y : Cs} {P : Prot} {a : Bool} {N : Nat} (h : StoreC w B y P a N) (la : Option Addr) (ll lc : Nat) (hl : ll ≤ y.room) (hall : allTaken y.taken y.pages 0 y.pages) :
    Calls Tryz.prog 22 #[B.ptr, .slice la ll lc] w fun e w' => e = .returned (.tuple #[.agg #[.int .i64 0, .int .i64 0], .int .i64 6]) ∧ Fr (fun _ => False) w w' := by
  obtain ⟨⟨x, c, hS, rfl, hi⟩, hT, hb⟩ := h
  exact new_full hS hT la ll lc hl hall
/-- What Read of a page with a load does. -/
def ReadC (B : Blk) (y : Cs) (P : Prot) (a : Bool) (N : Nat) (stamp : Nat) (st : Int) (load : List Int) (w : World) (e : Ending) (w' : World) : Prop :=
  ∃ err, Went w' B y y P a (N + 1) err ∧ FrB B w w' ∧ (err ≠ 0 → e = .returned (.tuple #[.slice none 0 0, .int .i64 err])) ∧ (err = 0 → (stamp : Int) ≠ st → e = .returned (.tuple #[.slice none 0 0, .int .i64 5])) ∧
    (err = 0 → (stamp : Int) = st → ∃ la lc, e = .returned (.tuple #[.slice la load.length lc, .int .i64 0]) ∧ ByV w' la load.length lc load)
theorem read_c {w : World} {B : Blk} {y : Cs} {P : Prot} {a : Bool} {N : Nat} (h : StoreC w B y P a N) (p : Nat) (st : Int) {stamp : Nat} {load : List Int} (hc : y.cont p = some (stamp, load)) (hN : N + 1 ≤ 90000) :
    Calls Tryz.prog 24 #[B.ptr, .agg #[.int .i64 p, .int .i64 st]] w (ReadC B y P a N stamp st load w) := by
  obtain ⟨⟨x, c, hS, rfl, hi⟩, hT, hb⟩ := h
  obtain ⟨g1, g2, g3, g4⟩ := hi.holds.ok p stamp load hc
  have hrg := hS.rg
  have hsec := hS.dev.rg.1.2
  cases hm : x.mem p with
  | some q =>
    obtain ⟨s0, b0, a1, a2, a3, _⟩ := hi.holds.mem p q hm
    have hc' : c p = some (stamp, load) := hc
    rw [hc'] at a1
    cases a1
    refine (read_hit hS p st g1.1 g1.2 hm a3).mono ?_
    rintro e w' ⟨he, hS', F⟩
    refine ⟨0, .inl ⟨rfl, ⟨x, c, hS', rfl, { hi with dev := hi.dev.mono (Nat.le_succ _), holds := hi.holds.frB F, few := hN }⟩, hT.fr F (fun h => by omega), hb⟩, F, fun h => absurd rfl h, fun _ hne => ?_, fun _ heq => ?_⟩
    · rw [if_neg (by rw [a2]; exact hne)] at he; exact he
    · rw [if_pos (by rw [a2]; exact heq)] at he; exact he
  | none =>
    refine (read_dev hS hi.holds.good (hi.dev.up hi.down hi.few) p stamp st load g1.2 hm hi.dev.len (by have := hi.holds.dev p stamp load hc hm; simpa using this) g4 (by omega) g2 (by omega) g3).mono ?_
    rintro e w' ⟨err, g, D, la, lc, hg, ho, hbv, hS', F, e1, e2, e3⟩
    obtain ⟨h1, h2, h3⟩ := goes hi.holds hi.dev hi.down hg ho F (p := ⟨stamp, la, load.length, lc, false⟩) (st := stamp) ⟨rfl, hbv⟩ ⟨g1, g2, g3, g4⟩ ⟨hrg.2.2.2.2, hrg.2.2.2.1, hrg.2.2.1⟩ (fun h => by cases h) (fun _ => by have := hi.holds.dev p stamp load hc hm; simpa using this)
    refine ⟨err, ?_, F, e1, e2, e3⟩
    rcases h2 with ⟨rfl, hD⟩ | ⟨rfl, ha, hD⟩
    · have ec : updC c p (some (stamp, load)) = c := by
        funext k
        simp only [updC]
        split
        · rename_i e; rw [e]; exact hc.symm
        · rfl
      have h3' := h3 { x with mem := putF x.mem p ⟨stamp, la, load.length, lc, false⟩ g, dev := D } rfl rfl rfl rfl rfl
      rw [ec] at h3'
      refine .inl ⟨rfl, ⟨_, c, hS', ?_, hD, h1.1, h3', hi.ptk, hi.apart, hN⟩, hT.fr F (fun h => by omega), hb⟩
      simp [Sto.cs, h1.2.1, h1.2.2]
    · subst ha
      exact .inr ⟨rfl, rfl, ⟨D, hS'.dev, h1.1, hD, h1.2.1, h1.2.2⟩⟩
end Go.Proofs.YtgdhaaokolfdoaaGreatDoor
