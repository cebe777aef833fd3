/- A pack of texts: CR, CS, CT, Mem, MA, By, Set. Conditions: those that each text names. -/
import Derived.Test.YtgdhaaokolfdoaaGreatDoorWAA
import Derived.Test.YtgdhaaokolfdoaaGreatDoorProg
import Derived.Deep.QuietTactic
import Derived.BigQuiet
import Derived.RegionTactic
import Derived.BigRegion
import Derived.Lib.SliceRun
import Derived.Maps.RangeWalk
import Derived.Lib.SlKeysI
set_option linter.unusedVariables false
set_option linter.unusedSimpArgs false
set_option linter.unnecessarySimpa false
/- The clock of pages: what Put computes. Conditions: the clock lies in the world as AtP says. -/
namespace Go.Sg
theorem Fr.set3 {S : Nat → Prop} {w w1 : World} (h : Fr S w w1) {b : Nat} (hb : S b) (x y z : Value) : Fr S w (((w1.setCell ⟨b, 0, none⟩ x).setCell ⟨b, 1, none⟩ y).setCell ⟨b, 2, none⟩ z) :=
  ((h.setCell (a := ⟨b, 0, none⟩) (fun _ => hb) x).setCell (a := ⟨b, 1, none⟩) (fun _ => hb) y).setCell (a := ⟨b, 2, none⟩) (fun _ => hb) z
theorem Fr.set3n {S : Nat → Prop} {w w1 : World} (h : Fr S w w1) {b : Nat} (hb : w.heap.size ≤ b) (x y z : Value) : Fr S w (((w1.setCell ⟨b, 0, none⟩ x).setCell ⟨b, 1, none⟩ y).setCell ⟨b, 2, none⟩ z) :=
  ((h.setNew hb x).setNew hb y).setNew hb z
end Go.Sg
namespace Go.Proofs.YtgdhaaokolfdoaaGreatDoor
namespace CP
open Go.RowKit Go.Sg Go.Sg.Clk Go.Shelf
def goneK (g : Option Pl) : Int := (g.map (·.key)).getD 0
def goneV (g : Option Pl) : Pg := (g.map (·.v)).getD Pg.zero
def PutPost (pl : List Pl) (hand bc bp bm : Nat) (key : Int) (x : Pg) (w : World) (e : Ending) (w' : World) : Prop :=
  e = .returned (.tuple #[.int .i64 (goneK (putM pl hand key x).gone), (goneV (putM pl hand key x).gone).val, .bool (putM pl hand key x).gone.isSome]) ∧
  AtP w' bc bp bm (putM pl hand key x).pl (putM pl hand key x).hand ∧ Fr (fun b => b = bc ∨ b = bp ∨ b = bm) w w'

set_option maxHeartbeats 2000000 in
theorem put_there {w : World} {bc bp bm hand : Nat} {pl : List Pl} (h : AtP w bc bp bm pl hand) (key : Int) (x : Pg) {i : Nat} (hf : find pl key = some i) :
    Calls Tryz.prog 111 #[.pointer (some ⟨bc, 0, none⟩), .int .i64 key, x.val] w (PutPost pl hand bc bp bm key x w) := by
  obtain ⟨st, la, ll, lc, di⟩ := x
  have hlt := AtP_lts h
  obtain ⟨w2, hw2⟩ : ∃ w2, (w.alloc (.cells #[.int .i64 st, .slice la ll lc, .bool di] 162)).alloc (.cells #[.int .i64 0, .slice none 0 0, .bool false] 162) = w2 := ⟨_, rfl⟩
  obtain ⟨b0, b1, F2⟩ := heap_two hw2
  have hA := h.fr F2 (fun h => h) (fun h => h) (fun h => h)
  obtain ⟨p, hp, hful, hkey⟩ := find_some hf
  have k1 := hA.k1 hp
  have k2 := hA.k2 hp
  have k3 := hA.k3 hp
  have k5 := hA.k5 hp
  have zp := hA.zp
  obtain ⟨d0, d1, d2, dz, dl⟩ := cells3 b0
  obtain ⟨c0, c1, c2, cz, cl⟩ := cells3 b1
  have g1 := hA.set hp 1 (by omega) (.int .i64 st) ⟨p.key, { p.v with stamp := st }, p.full, p.marked⟩ rfl rfl rfl trivial
  have at_ : ∀ r : Pl, (pl.set i r)[i]? = some r := fun r => by rw [get_set hp, if_pos rfl]
  have g2 := g1.set (at_ _) 2 (by omega) (.slice la ll lc) ⟨p.key, ⟨st, la, ll, lc, p.v.dirty⟩, p.full, p.marked⟩ rfl rfl rfl trivial
  rw [List.set_set] at g2
  have g3 := g2.set (at_ _) 3 (by omega) (.bool di) ⟨p.key, ⟨st, la, ll, lc, di⟩, p.full, p.marked⟩ rfl rfl rfl trivial
  rw [List.set_set] at g3
  have g5 := g3.set (at_ _) 5 (by omega) (.bool true) ⟨p.key, ⟨st, la, ll, lc, di⟩, p.full, true⟩ rfl rfl rfl trivial
  rw [List.set_set, hful, hkey] at g5
  have HE : Hid (putM pl hand key ⟨st, la, ll, lc, di⟩ = ⟨pl.set i ⟨key, ⟨st, la, ll, lc, di⟩, true, true⟩, hand, none⟩) := hid (by simp [putM, hf])
  have G5 := hid g5
  have FN := hid (find_at hA key)
  rw [hf] at FN
  have HW := hid hw2
  have n1 : w.heap.size ≠ bp := by omega
  have n2 : w.heap.size + 1 ≠ bp := by omega
  clear hf hp hful hkey at_ g1 g2 g3 g5 hA h hw2 b0 b1
  go_enter Tryz.func111, Tryz.ntmps111
  go_wp2_with fail
  rw [HW.out]
  refine FN.out.mono ?_
  rintro e w' ⟨rfl, rfl⟩
  go_wp2
  go_region
  go_wp2
  refine bodyPost_ret (v := .tuple #[.int .i64 0, Pg.zero.val, .bool false]) (by simp [results, go_sem, Pg.zero, *]) rfl ⟨by rw [HE.out]; rfl, ?_, ?_⟩
  · rw [HE.out]
    refine At.fr (S := fun b => b = w.heap.size + 1) G5.out ?_ (by omega) (by omega) (by omega)
    exact (Fr.set3 (S := fun b => b = w.heap.size + 1) (b := w.heap.size + 1) (Fr.refl _ _) rfl _ _ _).drew
  · refine Fr.drew (Fr.set3n ?_ (by omega) _ _ _)
    exact ((((F2.mono (fun _ _ h => h.elim)).setCell (a := ⟨bp, i * 6 + 1, none⟩) (fun _ => .inr (.inl rfl)) _).setCell (a := ⟨bp, i * 6 + 2, none⟩) (fun _ => .inr (.inl rfl)) _).setCell (a := ⟨bp, i * 6 + 3, none⟩) (fun _ => .inr (.inl rfl)) _).setCell (a := ⟨bp, i * 6 + 5, none⟩) (fun _ => .inr (.inl rfl)) _

set_option maxHeartbeats 4000000 in
theorem put_free {w : World} {bc bp bm hand : Nat} {pl : List Pl} (h : AtP w bc bp bm pl hand) (key : Int) (x : Pg) {i : Nat} (hf : find pl key = none) (he : empty pl = some i) :
    Calls Tryz.prog 111 #[.pointer (some ⟨bc, 0, none⟩), .int .i64 key, x.val] w (PutPost pl hand bc bp bm key x w) := by
  obtain ⟨st, la, ll, lc, di⟩ := x
  have hlt := AtP_lts h
  have n123 := h.ne
  obtain ⟨w2, hw2⟩ : ∃ w2, (w.alloc (.cells #[.int .i64 st, .slice la ll lc, .bool di] 162)).alloc (.cells #[.int .i64 0, .slice none 0 0, .bool false] 162) = w2 := ⟨_, rfl⟩
  obtain ⟨b0, b1, F2⟩ := heap_two hw2
  have hA := h.fr F2 (fun h => h) (fun h => h) (fun h => h)
  have hHE : putM pl hand key ⟨st, la, ll, lc, di⟩ = ⟨pl.set i ⟨key, ⟨st, la, ll, lc, di⟩, true, true⟩, hand, none⟩ := by simp [putM, hf, he]
  have HE := hid hHE
  have FN := hid (find_at hA key)
  rw [hf] at FN
  have EM := hid (empty_at hA)
  rw [emptyI_some he] at EM
  have HA := hid hA
  have HF := hid hf
  have HO := hid he
  have HW := hid hw2
  have B01 := hid (And.intro b0 b1)
  have hi : i < pl.length := by
    rw [empty, List.findIdx?_eq_some_iff_getElem] at he
    exact he.1
  clear hf he h hA hw2 b0 b1 hHE
  go_enter Tryz.func111, Tryz.ntmps111
  go_wp2_with fail
  rw [HW.out]
  refine FN.out.mono ?_
  rintro e w' ⟨rfl, rfl⟩
  go_wp2_with fail
  refine EM.out.mono ?_
  rintro e w3 ⟨rfl, F3⟩
  have hA3 := HA.out.fr F3 (fun h => h) (fun h => h) (fun h => h)
  have l3 := F3.size
  have l2 := lt_of_heap B01.out.2
  obtain ⟨p, hp⟩ : ∃ p, pl[i]? = some p := ⟨_, List.getElem?_eq_getElem hi⟩
  have f0 := hA3.c0
  have f1 := hA3.c1
  have k0 := hA3.k0 hp
  have k1 := hA3.k1 hp
  have k2 := hA3.k2 hp
  have k3 := hA3.k3 hp
  have k4 := hA3.k4 hp
  have k5 := hA3.k5 hp
  have zp := hA3.zp
  have hr := hA3.room
  obtain ⟨d0, d1, d2, dz, dl⟩ := cells3 (F3.heap B01.out.1 (fun h => h))
  obtain ⟨c0, c1, c2, cz, cl⟩ := cells3 (F3.heap B01.out.2 (fun h => h))
  obtain ⟨l, ck, hm, hR⟩ := hA3.m
  have HA3 := hid hA3
  have HP := hid hp
  have HR := hid hR
  clear hA3 hp hR
  go_wp2
  go_region
  obtain ⟨w4, hw4⟩ : ∃ w4, ((((((w3.setCell ⟨bp, i * 6, none⟩ (.int .i64 key)).setCell ⟨bp, i * 6 + 1, none⟩ (.int .i64 st)).setCell ⟨bp, i * 6 + 2, none⟩ (.slice la ll lc)).setCell ⟨bp, i * 6 + 3, none⟩ (.bool di)).setCell ⟨bp, i * 6 + 4, none⟩ (.bool true)).setCell ⟨bp, i * 6 + 5, none⟩ (.bool true)).drew = w4 := ⟨_, rfl⟩
  have F34 : Fr (fun b => b = bp) w3 w4 := by
    rw [← hw4]
    exact (((((((Fr.refl (fun b => b = bp) _).setCell (a := ⟨bp, i * 6, none⟩) (fun _ => rfl) _).setCell (a := ⟨bp, i * 6 + 1, none⟩) (fun _ => rfl) _).setCell (a := ⟨bp, i * 6 + 2, none⟩) (fun _ => rfl) _).setCell (a := ⟨bp, i * 6 + 3, none⟩) (fun _ => rfl) _).setCell (a := ⟨bp, i * 6 + 4, none⟩) (fun _ => rfl) _).setCell (a := ⟨bp, i * 6 + 5, none⟩) (fun _ => rfl) _).drew
  have hp4 : w4.heap[bp]? = some (.cells (cellsOf (pl.set i ⟨key, ⟨st, la, ll, lc, di⟩, true, true⟩)) 264) := by
    have := heap_place HA3.out.p HP.out ⟨key, ⟨st, la, ll, lc, di⟩, true, true⟩
    rw [← hw4, heap_drew]
    exact this
  rw [hw4]
  have hm4 := F34.heap hm (fun e => n123.2.2 e.symm)
  have hc4 := F34.heap HA3.out.c n123.1
  have hb04 := F34.heap (F3.heap B01.out.1 (fun h => h)) (by omega)
  have hb14 := F34.heap (F3.heap B01.out.2 (fun h => h)) (by omega)
  clear f0 f1 k0 k1 k2 k3 k4 k5 zp d0 d1 d2 dz dl c0 c1 c2 cz cl hw4 hm
  obtain ⟨f0, f1, f2, fz, fl⟩ := cells3 hc4
  obtain ⟨c0, c1, c2, cz, cl⟩ := cells3 hb14
  have hup := fun (W : World) (hW : W.heap[bm]? = some (.map (ents l) ck)) => run_mapUpdate (P := Tryz.prog) (T := 258) Tryz.underlying258 Tryz.underlying3 hW key (.int .i64 i)
  have HP4 := hid hp4
  have HC4 := hid hc4
  have n1 : bm ≠ w.heap.size + 1 := by omega
  have n2 : w.heap.size + 1 ≠ bm := by omega
  clear hp4 hc4 hb04 hb14
  go_wp2
  obtain ⟨w5, hw5⟩ : ∃ w5, w4.putObj bm (.map (ents (put l key (.int .i64 i) ck)) (bump l key ck)) = w5 := ⟨_, rfl⟩
  have F45 : Fr (fun b => b = bm) w4 w5 := by rw [← hw5]; exact (Fr.refl (fun b => b = bm) _).putObj (fun _ => rfl) _
  have hm5 : w5.heap[bm]? = some (.map (ents (put l key (.int .i64 i) ck)) (bump l key ck)) := by rw [← hw5]; exact heap_putObj_same _ _ _ (lt_of_heap hm4)
  rw [hw5]
  have e0 := (F45.cell (p := ⟨w.heap.size + 1, 0, none⟩) cl n2).trans c0
  have e1 := (F45.cell (p := ⟨w.heap.size + 1, 1, none⟩) cl n2).trans c1
  have e2 := (F45.cell (p := ⟨w.heap.size + 1, 2, none⟩) cl n2).trans c2
  have ez : ∀ o, w5.frozen? ⟨w.heap.size + 1, o, none⟩ = false := fun o => (World.frozen?_of_block (F45.block _ cl n2)).trans (cz o)
  have HM5 := hid hm5
  have HF45 := hid F45
  clear hw5 c0 c1 c2 cz f0 f1 f2 fz hup hm5 F45 hm4
  go_region
  go_wp2
  obtain ⟨hnd, hl, hn⟩ := HR.out
  have hlk : Sg.look l key = none := by rw [hl, HF.out]; rfl
  have hpf : p.full = false := by
    have := HO.out
    rw [empty, List.findIdx?_eq_some_iff_getElem] at this
    obtain ⟨hi', h1, _⟩ := this
    have e := HP.out
    rw [List.getElem?_eq_getElem hi'] at e
    cases e
    simpa using h1
  have hAp : AtP w5 bc bp bm (pl.set i ⟨key, ⟨st, la, ll, lc, di⟩, true, true⟩) hand := by
    refine HA3.out.place HP.out _ (fun _ => .inr HF.out) trivial HA3.out.hand ?_ ?_ HM5.out (nodup_put hnd _ _ _) (fun k => ?_) ?_
    · exact HF45.out.heap HC4.out n123.2.1
    · exact HF45.out.heap HP4.out n123.2.2
    · rw [look_put, hl]
      simp [hpf]
    · rw [length_put, hlk, hn, hpf]; simp
  refine bodyPost_ret (v := .tuple #[.int .i64 0, Pg.zero.val, .bool false]) (by simp [results, go_sem, Pg.zero, *]) rfl ⟨by rw [HE.out]; rfl, ?_, ?_⟩
  · rw [HE.out]
    refine hAp.fr (S := fun b => b = w.heap.size + 1) ?_ (by omega) (by omega) (by omega)
    exact (Fr.set3 (S := fun b => b = w.heap.size + 1) (b := w.heap.size + 1) (Fr.refl _ _) rfl _ _ _).drew
  · refine Fr.drew (Fr.set3n ?_ (by omega) _ _ _)
    exact (((F2.mono (S' := fun b => b = bc ∨ b = bp ∨ b = bm) (fun _ _ h => h.elim)).trans F3 (fun _ _ h => h.elim)).trans F34 (fun _ _ h => .inr (.inl h))).trans HF45.out (fun _ _ h => .inr (.inr h))
end CP
end Go.Proofs.YtgdhaaokolfdoaaGreatDoor

/- The clock of pages: what Put computes where no place is free. Conditions: the clock lies in the world as AtP says. -/
namespace Go.Proofs.YtgdhaaokolfdoaaGreatDoor
namespace CP
open Go.RowKit Go.Sg Go.Sg.Clk Go.Shelf
set_option maxHeartbeats 4000000 in
set_option maxRecDepth 100000 in
theorem put_full {w : World} {bc bp bm hand : Nat} {pl : List Pl} (h : AtP w bc bp bm pl hand) (key : Int) (x : Pg) (hf : find pl key = none) (he : empty pl = none) :
    Calls Tryz.prog 111 #[.pointer (some ⟨bc, 0, none⟩), .int .i64 key, x.val] w (PutPost pl hand bc bp bm key x w) := by
  obtain ⟨st, la, ll, lc, di⟩ := x
  have hlt := AtP_lts h
  have n123 := h.ne
  obtain ⟨w2, hw2⟩ : ∃ w2, (w.alloc (.cells #[.int .i64 st, .slice la ll lc, .bool di] 162)).alloc (.cells #[.int .i64 0, .slice none 0 0, .bool false] 162) = w2 := ⟨_, rfl⟩
  obtain ⟨b0, b1, F2⟩ := heap_two hw2
  have hA := h.fr F2 (fun h => h) (fun h => h) (fun h => h)
  have FN := hid (find_at hA key)
  rw [hf] at FN
  have EM := hid (empty_at hA)
  rw [emptyI_none he] at EM
  have HA := hid hA
  have HF := hid hf
  have HO := hid he
  have HH := hid h
  have HW := hid hw2
  have B01 := hid (And.intro b0 b1)
  clear hf he h hA hw2 b0 b1
  go_enter Tryz.func111, Tryz.ntmps111
  go_wp2_with fail
  rw [HW.out]
  refine FN.out.mono ?_
  rintro e w' ⟨rfl, rfl⟩
  go_wp2_with fail
  refine EM.out.mono ?_
  rintro e w3 ⟨rfl, F3⟩
  have hA3 := hid (HA.out.fr F3 (fun h => h) (fun h => h) (fun h => h))
  go_wp2_with fail
  refine (victim_at hA3.out).mono ?_
  rintro e w4 ⟨rfl, hA4, F4⟩
  obtain ⟨i, hi⟩ : ∃ i, (spin pl.length pl hand).2 = i := ⟨_, rfl⟩
  obtain ⟨pl2, hpl2⟩ : ∃ pl2, (spin pl.length pl hand).1 = pl2 := ⟨_, rfl⟩
  have hlen2 : pl2.length = pl.length := by rw [← hpl2]; exact spin_len _ _ _
  have hil : i < pl2.length := by rw [hlen2, ← hi]; exact spin_lt _ _ _ HH.out.hand
  have hf2 : find pl2 key = none := by rw [← hpl2, spin_find]; exact HF.out
  have he2 : empty pl2 = none := by rw [← hpl2, spin_empty]; exact HO.out
  obtain ⟨p, hp⟩ : ∃ p, pl2[i]? = some p := ⟨_, List.getElem?_eq_getElem hil⟩
  have hpf := full_of_empty he2 hp
  have hM : putM pl hand key ⟨st, la, ll, lc, di⟩ = ⟨pl2.set i ⟨key, ⟨st, la, ll, lc, di⟩, true, true⟩, (i + 1) % pl.length, some p⟩ := by rw [putM_full HF.out HO.out, hpl2, hi, hp]
  rw [hpl2, hi] at hA4
  rw [hi]
  have f0 := hA4.c0
  have f1 := hA4.c1
  have k0 := hA4.k0 hp
  have k1 := hA4.k1 hp
  have k2 := hA4.k2 hp
  have k3 := hA4.k3 hp
  have l2 := lt_of_heap B01.out.2
  have l3 := F3.size
  have l4 := F4.size
  obtain ⟨d0, d1, d2, dz, dl⟩ := cells3 (F4.heap (F3.heap B01.out.1 (fun h => h)) (by omega))
  have hr1 := F4.heap (F3.heap B01.out.2 (fun h => h)) (by omega)
  obtain ⟨c0, c1, c2, cz, cl⟩ := cells3 hr1
  obtain ⟨l, ck, hm, hR⟩ := hA4.m
  have hr2 := hA4.room
  have HR := hid hR
  have HA4 := hid hA4
  have HM := hid hM
  have HP := hid hp
  have HU := hid hpf
  have HF2 := hid hf2
  have HL := hid hlen2
  have HR1 := hid hr1
  have Hm := hid hm
  clear hR hA4 hM hp hpf hi hpl2 hf2 he2 hlen2 hr1 hm
  go_wp2
  go_region
  obtain ⟨w5, hw5⟩ : ∃ w5, (((w4.setCell ⟨w.heap.size + 1, 0, none⟩ (.int .i64 p.v.stamp)).setCell ⟨w.heap.size + 1, 1, none⟩ (.slice p.v.la p.v.ll p.v.lc)).setCell ⟨w.heap.size + 1, 2, none⟩ (.bool p.v.dirty)).drew = w5 := ⟨_, rfl⟩
  have F45 : Fr (fun b => b = w.heap.size + 1) w4 w5 := by
    rw [← hw5]
    exact (Fr.set3 (S := fun b => b = w.heap.size + 1) (b := w.heap.size + 1) (Fr.refl _ _) rfl _ _ _).drew
  have hr5 : w5.heap[w.heap.size + 1]? = some (.cells #[.int .i64 p.v.stamp, .slice p.v.la p.v.ll p.v.lc, .bool p.v.dirty] 162) := by
    rw [← hw5, heap_drew, heap_setCell_cells _ _ _ _ (heap_setCell_cells _ _ _ _ (heap_setCell_cells _ _ _ _ HR1.out))]
    simp
  rw [hw5]
  have hA5 := HA4.out.fr F45 (by omega) (by omega) (by omega)
  have hm5 := F45.heap Hm.out (by omega)
  have hb05 := F45.heap (F4.heap (F3.heap B01.out.1 (fun h => h)) (by omega)) (by omega)
  clear f0 f1 k0 k1 k2 k3 d0 d1 d2 dz dl c0 c1 c2 cz cl hw5
  have f0 := hA5.c0
  have f1 := hA5.c1
  have hdel := fun (W : World) (hW : W.heap[bm]? = some (.map (ents l) ck)) (t' : TypeId) => run_delete (P := Tryz.prog) (T := 258) Tryz.underlying258 Tryz.underlying3 hW p.key t' #[258, 3] rfl
  have HN := hid hdel
  have HA5 := hid hA5
  have HR5 := hid hr5
  have HB5 := hid hb05
  have Hm5 := hid hm5
  have HF45 := hid F45
  have l5 := F45.size
  clear hdel hA5 hr5 hb05 hm5 F45
  go_wp2
  rw [HN.out w5 Hm5.out 0]
  obtain ⟨w6, hw6⟩ : ∃ w6, w5.putObj bm (.map (ents (del l p.key)) ck) = w6 := ⟨_, rfl⟩
  have F56 : Fr (fun b => b = bm) w5 w6 := by rw [← hw6]; exact (Fr.refl (fun b => b = bm) _).putObj (fun _ => rfl) _
  have hm6 : w6.heap[bm]? = some (.map (ents (del l p.key)) ck) := by rw [← hw6]; exact heap_putObj_same _ _ _ (lt_of_heap Hm5.out)
  have hc6 := F56.heap HA5.out.c n123.2.1
  have hp6 := F56.heap HA5.out.p n123.2.2
  have hr6 := F56.heap HR5.out (by omega)
  have hb6 := F56.heap HB5.out (by omega)
  rw [hw6]
  clear f0 f1 hw6
  obtain ⟨f0, f1, f2, fz, fl⟩ := cells3 hc6
  obtain ⟨d0, d1, d2, dz, dl⟩ := cells3 hb6
  have zp : ∀ o, w6.frozen? ⟨bp, o, none⟩ = false := fun o => frozen_of_heap hp6 o
  have j : ∀ o, o < 6 → w6.cell? ⟨bp, i * 6 + o, none⟩ = p.cells[o]? := fun o ho => by rw [cell_of_heap hp6, cells_get HP.out o ho]
  have k0 : w6.cell? ⟨bp, i * 6, none⟩ = some (.int .i64 p.key) := j 0 (by omega)
  have k1 : w6.cell? ⟨bp, i * 6 + 1, none⟩ = some (.int .i64 p.v.stamp) := j 1 (by omega)
  have k2 : w6.cell? ⟨bp, i * 6 + 2, none⟩ = some (.slice p.v.la p.v.ll p.v.lc) := j 2 (by omega)
  have k3 : w6.cell? ⟨bp, i * 6 + 3, none⟩ = some (.bool p.v.dirty) := j 3 (by omega)
  have k4 : w6.cell? ⟨bp, i * 6 + 4, none⟩ = some (.bool p.full) := j 4 (by omega)
  have k5 : w6.cell? ⟨bp, i * 6 + 5, none⟩ = some (.bool p.marked) := j 5 (by omega)
  have Hm6 := hid hm6
  have HC6 := hid hc6
  have HP6 := hid hp6
  have HR6 := hid hr6
  have HF56 := hid F56
  clear j hm6 hc6 hp6 hr6 hb6 F56
  go_wp2
  go_region
  obtain ⟨w7, hw7⟩ : ∃ w7, ((((((w6.setCell ⟨bp, i * 6, none⟩ (.int .i64 key)).setCell ⟨bp, i * 6 + 1, none⟩ (.int .i64 st)).setCell ⟨bp, i * 6 + 2, none⟩ (.slice la ll lc)).setCell ⟨bp, i * 6 + 3, none⟩ (.bool di)).setCell ⟨bp, i * 6 + 4, none⟩ (.bool true)).setCell ⟨bp, i * 6 + 5, none⟩ (.bool true)).drew = w7 := ⟨_, rfl⟩
  have F67 : Fr (fun b => b = bp) w6 w7 := by
    rw [← hw7]
    exact (((((((Fr.refl (fun b => b = bp) _).setCell (a := ⟨bp, i * 6, none⟩) (fun _ => rfl) _).setCell (a := ⟨bp, i * 6 + 1, none⟩) (fun _ => rfl) _).setCell (a := ⟨bp, i * 6 + 2, none⟩) (fun _ => rfl) _).setCell (a := ⟨bp, i * 6 + 3, none⟩) (fun _ => rfl) _).setCell (a := ⟨bp, i * 6 + 4, none⟩) (fun _ => rfl) _).setCell (a := ⟨bp, i * 6 + 5, none⟩) (fun _ => rfl) _).drew
  have hp7 : w7.heap[bp]? = some (.cells (cellsOf (pl2.set i ⟨key, ⟨st, la, ll, lc, di⟩, true, true⟩)) 264) := by
    have := heap_place HP6.out HP.out ⟨key, ⟨st, la, ll, lc, di⟩, true, true⟩
    rw [← hw7, heap_drew]
    exact this
  rw [hw7]
  have hm7 := F67.heap Hm6.out (fun e => n123.2.2 e.symm)
  have hc7 := F67.heap HC6.out n123.1
  have hr7 := F67.heap HR6.out (by omega)
  clear f0 f1 f2 fz fl k0 k1 k2 k3 k4 k5 zp d0 d1 d2 dz dl hw7
  obtain ⟨f0, f1, f2, fz, fl⟩ := cells3 hc7
  obtain ⟨c0, c1, c2, cz, cl⟩ := cells3 hr7
  have hup := fun (W : World) (hW : W.heap[bm]? = some (.map (ents (del l p.key)) ck)) => run_mapUpdate (P := Tryz.prog) (T := 258) Tryz.underlying258 Tryz.underlying3 hW key (.int .i64 i)
  have HP7 := hid hp7
  have HC7 := hid hc7
  have n2 : w.heap.size + 1 ≠ bm := by omega
  have HF67 := hid F67
  clear hp7 hc7 hr7 F67
  go_wp2
  obtain ⟨w8, hw8⟩ : ∃ w8, w7.putObj bm (.map (ents (put (del l p.key) key (.int .i64 i) ck)) (bump (del l p.key) key ck)) = w8 := ⟨_, rfl⟩
  have F78 : Fr (fun b => b = bm) w7 w8 := by rw [← hw8]; exact (Fr.refl (fun b => b = bm) _).putObj (fun _ => rfl) _
  have hm8 : w8.heap[bm]? = some (.map (ents (put (del l p.key) key (.int .i64 i) ck)) (bump (del l p.key) key ck)) := by rw [← hw8]; exact heap_putObj_same _ _ _ (lt_of_heap hm7)
  rw [hw8]
  have e0 := (F78.cell (p := ⟨w.heap.size + 1, 0, none⟩) cl n2).trans c0
  have e1 := (F78.cell (p := ⟨w.heap.size + 1, 1, none⟩) cl n2).trans c1
  have e2 := (F78.cell (p := ⟨w.heap.size + 1, 2, none⟩) cl n2).trans c2
  have ez : ∀ o, w8.frozen? ⟨w.heap.size + 1, o, none⟩ = false := fun o => (World.frozen?_of_block (F78.block _ cl n2)).trans (cz o)
  have HM8 := hid hm8
  have HF78 := hid F78
  clear hw8 c0 c1 c2 cz f0 f1 f2 fz hup hm8 F78 hm7
  go_region
  go_wp2
  obtain ⟨hnd, hl, hn⟩ := HR.out
  have hfp : find pl2 p.key = some i := (find_iff HA4.out.nd _ _).2 ⟨p, HP.out, HU.out, rfl⟩
  have hlk : Sg.look (del l p.key) key = none := by
    rw [look_del hnd, hl, HF2.out]; split <;> rfl
  have hlp : (Sg.look l p.key).isSome = true := by rw [hl, hfp]; rfl
  have hmod := Nat.mod_lt (i + 1) (show 0 < pl.length by have := HL.out; omega)
  have hAp : AtP w8 bc bp bm (pl2.set i ⟨key, ⟨st, la, ll, lc, di⟩, true, true⟩) ((i + 1) % pl.length) := by
    refine HA4.out.place HP.out _ (fun _ => .inr HF2.out) trivial (by rw [HL.out]; exact hmod) ?_ ?_ HM8.out (nodup_put (nodup_del hnd _) _ _ _) (fun k => ?_) ?_
    · exact HF78.out.heap HC7.out n123.2.1
    · exact HF78.out.heap HP7.out n123.2.2
    · rw [look_put, look_del hnd, hl]
      simp [HU.out]
    · rw [length_put, hlk, length_del, hlp, hn, HU.out]; simp
  have Fa : Fr (fun b => b = bc ∨ b = bp ∨ b = bm) w w8 :=
    ((((((F2.mono (S' := fun b => b = bc ∨ b = bp ∨ b = bm) (fun _ _ h => h.elim)).trans F3 (fun _ _ h => h.elim)).trans F4 (fun _ _ h => h.elim .inl (fun h => .inr (.inl h)))).trans HF45.out (fun b hb h => by omega)).trans HF56.out (fun _ _ h => .inr (.inr h))).trans HF67.out (fun _ _ h => .inr (.inl h))).trans HF78.out (fun _ _ h => .inr (.inr h))
  refine bodyPost_ret (v := .tuple #[.int .i64 p.key, p.v.val, .bool true]) (by simp [results, go_sem, *]) rfl ⟨by rw [HM.out]; rfl, ?_, ?_⟩
  · rw [HM.out]
    refine hAp.fr (S := fun b => b = w.heap.size + 1) ?_ (by omega) (by omega) (by omega)
    exact (Fr.set3 (S := fun b => b = w.heap.size + 1) (b := w.heap.size + 1) (Fr.refl _ _) rfl _ _ _).drew
  · exact Fr.drew (Fr.set3n Fa (by omega) _ _ _)
theorem put_at {w : World} {bc bp bm hand : Nat} {pl : List Pl} (h : AtP w bc bp bm pl hand) (key : Int) (x : Pg) :
    Calls Tryz.prog 111 #[.pointer (some ⟨bc, 0, none⟩), .int .i64 key, x.val] w (PutPost pl hand bc bp bm key x w) := by
  cases hf : find pl key with
  | some i => exact put_there h key x hf
  | none =>
    cases he : empty pl with
    | some i => exact put_free h key x hf he
    | none => exact put_full h key x hf he
end CP
end Go.Proofs.YtgdhaaokolfdoaaGreatDoor

/- The clock of pages: what Drop computes. Conditions: the clock lies in the world as AtP says. -/
namespace Go.Proofs.YtgdhaaokolfdoaaGreatDoor
namespace CP
open Go.RowKit Go.Sg Go.Sg.Clk Go.Shelf
def dropM (pl : List Pl) (key : Int) : List Pl := match find pl key with
  | some i => pl.set i (Pl.none Pg.zero)
  | none => pl
def DropPost (pl : List Pl) (hand bc bp bm : Nat) (key : Int) (w : World) (e : Ending) (w' : World) : Prop :=
  e = .returned (.tuple #[(lookM pl key).val, .bool (find pl key).isSome]) ∧ AtP w' bc bp bm (dropM pl key) hand ∧ Fr (fun b => b = bp ∨ b = bm) w w'
set_option maxHeartbeats 2000000 in
set_option maxRecDepth 100000 in
theorem drop_none {w : World} {bc bp bm hand : Nat} {pl : List Pl} (h : AtP w bc bp bm pl hand) (key : Int) (hf : find pl key = none) :
    Calls Tryz.prog 108 #[.pointer (some ⟨bc, 0, none⟩), .int .i64 key] w (DropPost pl hand bc bp bm key w) := by
  have hlt := AtP_lts h
  obtain ⟨w1, hw1⟩ : ∃ w1, w.alloc (.cells #[.int .i64 0, .slice none 0 0, .bool false] 162) = w1 := ⟨_, rfl⟩
  have b1 : w1.heap[w.heap.size]? = some (.cells #[.int .i64 0, .slice none 0 0, .bool false] 162) := by rw [← hw1]; exact heap_alloc_new _ _
  have F1 : Fr (fun _ => False) w w1 := by rw [← hw1]; exact (Fr.refl _ _).alloc _
  have hA1 := hid (h.fr F1 (fun h => h) (fun h => h) (fun h => h))
  have e1 : dropM pl key = pl := by simp [dropM, hf]
  have e2 : lookM pl key = Pg.zero := by simp [lookM, hf]
  have HF := hid hf
  have E := hid (And.intro e1 e2)
  have HW := hid hw1
  have B1 := hid b1
  clear h hf e1 e2 hw1 b1
  go_enter Tryz.func108, Tryz.ntmps108
  go_wp2_with fail
  rw [HW.out]
  refine (look_at hA1.out key).mono ?_
  rintro e w2 ⟨rfl, F2⟩
  rw [HF.out, E.out.2]
  obtain ⟨c0, c1, c2, z, l⟩ := cells3 (F2.heap B1.out (fun h => h))
  simp only [Pg.val, Pg.zero]
  go_wp2
  refine bodyPost_ret (v := .tuple #[Pg.zero.val, .bool false]) (by simp [results, go_sem, Pg.zero, *]) rfl ⟨by rw [HF.out, E.out.2]; rfl, ?_, ?_⟩
  · rw [E.out.1]
    refine (hA1.out.fr F2 (fun h => h) (fun h => h) (fun h => h)).fr (S := fun b => b = w.heap.size) ?_ (by omega) (by omega) (by omega)
    exact (Fr.set3 (S := fun b => b = w.heap.size) (b := w.heap.size) (Fr.refl _ _) rfl _ _ _).alloc _
  · exact (Fr.set3n ((F1.trans F2 (fun _ _ h => h)).mono (fun _ _ h => h.elim)) (Nat.le_refl _) _ _ _).alloc _

set_option maxHeartbeats 4000000 in
set_option maxRecDepth 100000 in
theorem drop_some {w : World} {bc bp bm hand : Nat} {pl : List Pl} (h : AtP w bc bp bm pl hand) (key : Int) {i : Nat} (hf : find pl key = some i) :
    Calls Tryz.prog 108 #[.pointer (some ⟨bc, 0, none⟩), .int .i64 key] w (DropPost pl hand bc bp bm key w) := by
  have hlt := AtP_lts h
  have n123 := h.ne
  obtain ⟨w1, hw1⟩ : ∃ w1, w.alloc (.cells #[.int .i64 0, .slice none 0 0, .bool false] 162) = w1 := ⟨_, rfl⟩
  have b1 : w1.heap[w.heap.size]? = some (.cells #[.int .i64 0, .slice none 0 0, .bool false] 162) := by rw [← hw1]; exact heap_alloc_new _ _
  have F1 : Fr (fun _ => False) w w1 := by rw [← hw1]; exact (Fr.refl _ _).alloc _
  have hA1 := hid (h.fr F1 (fun h => h) (fun h => h) (fun h => h))
  obtain ⟨p, hp, hful, hkey⟩ := find_some hf
  have hi : i < pl.length := (List.getElem?_eq_some_iff.1 hp).1
  have e1 : dropM pl key = pl.set i (Pl.none Pg.zero) := by simp [dropM, hf]
  have e2 : lookM pl key = p.v := by simp [lookM, hf, hp]
  have HF := hid hf
  have E := hid (And.intro e1 e2)
  have HW := hid hw1
  have B1 := hid b1
  have HP := hid hp
  have HU := hid (And.intro hful hkey)
  have l1 := lt_of_heap b1
  clear h hf e1 e2 hw1 b1 hp hful hkey
  go_enter Tryz.func108, Tryz.ntmps108
  go_wp2_with fail
  rw [HW.out]
  refine (look_at hA1.out key).mono ?_
  rintro e w2 ⟨rfl, F2⟩
  rw [HF.out, E.out.2]
  have hA2 := hA1.out.fr F2 (fun h => h) (fun h => h) (fun h => h)
  have hb2 := F2.heap B1.out (fun h => h)
  obtain ⟨w3, hw3⟩ : ∃ w3, w2.alloc (.cells #[.int .i64 p.v.stamp, .slice p.v.la p.v.ll p.v.lc, .bool p.v.dirty] 162) = w3 := ⟨_, rfl⟩
  have F3 : Fr (fun _ => False) w2 w3 := by rw [← hw3]; exact (Fr.refl _ _).alloc _
  have hv3 : w3.heap[w2.heap.size]? = some (.cells #[.int .i64 p.v.stamp, .slice p.v.la p.v.ll p.v.lc, .bool p.v.dirty] 162) := by rw [← hw3]; exact heap_alloc_new _ _
  have hA3 := hA2.fr F3 (fun h => h) (fun h => h) (fun h => h)
  have hb3 := F3.heap hb2 (fun h => h)
  have f0 := hA3.c0
  have f1 := hA3.c1
  have k0 := hA3.k0 HP.out
  have k1 := hA3.k1 HP.out
  have k2 := hA3.k2 HP.out
  have k3 := hA3.k3 HP.out
  have k4 := hA3.k4 HP.out
  have k5 := hA3.k5 HP.out
  have zp := hA3.zp
  have hr := hA3.room
  have l2 := F2.size
  obtain ⟨l, ck, hm, hR⟩ := hA3.m
  have hlk : Sg.look l key = some (.int .i64 i) := by rw [hR.2.1, HF.out]; rfl
  have hl2 := fun (W : World) (hW : W.heap[bm]? = some (.map (ents l) ck)) => run_lookup (P := Tryz.prog) (T := 258) false Tryz.underlying258 Tryz.underlying3 Tryz.zero3 hW key
  have hdel := fun (W : World) (hW : W.heap[bm]? = some (.map (ents l) ck)) => run_delete (P := Tryz.prog) (T := 258) Tryz.underlying258 Tryz.underlying3 hW key 0 #[258, 3] rfl
  rw [hlk] at hl2
  simp only [Option.getD_some, Bool.false_eq_true, if_false] at hl2
  have HW3 := hid hw3
  have HA3 := hid hA3
  have HR := hid hR
  have HK := hid hlk
  have HV3 := hid hv3
  have HB3 := hid hb3
  have Hm := hid hm
  have F13 := hid (F2.trans F3 (fun _ _ h => h))
  clear hw3 hA3 hR hlk hv3 hb3 hA2 hb2 F3
  simp only [Pg.val]
  go_wp2
  rw [HW3.out]
  go_region
  obtain ⟨w4, hw4⟩ : ∃ w4, ((((((w3.setCell ⟨bp, i * 6, none⟩ (.int .i64 0)).setCell ⟨bp, i * 6 + 1, none⟩ (.int .i64 0)).setCell ⟨bp, i * 6 + 2, none⟩ (.slice none 0 0)).setCell ⟨bp, i * 6 + 3, none⟩ (.bool false)).setCell ⟨bp, i * 6 + 4, none⟩ (.bool false)).setCell ⟨bp, i * 6 + 5, none⟩ (.bool false)).drew = w4 := ⟨_, rfl⟩
  have F34 : Fr (fun b => b = bp) w3 w4 := by
    rw [← hw4]
    exact (((((((Fr.refl (fun b => b = bp) _).setCell (a := ⟨bp, i * 6, none⟩) (fun _ => rfl) _).setCell (a := ⟨bp, i * 6 + 1, none⟩) (fun _ => rfl) _).setCell (a := ⟨bp, i * 6 + 2, none⟩) (fun _ => rfl) _).setCell (a := ⟨bp, i * 6 + 3, none⟩) (fun _ => rfl) _).setCell (a := ⟨bp, i * 6 + 4, none⟩) (fun _ => rfl) _).setCell (a := ⟨bp, i * 6 + 5, none⟩) (fun _ => rfl) _).drew
  have hp4 : w4.heap[bp]? = some (.cells (cellsOf (pl.set i (Pl.none Pg.zero))) 264) := by
    have := heap_place HA3.out.p HP.out (Pl.none Pg.zero)
    rw [← hw4, heap_drew]
    exact this
  rw [hw4]
  have hm4 := F34.heap Hm.out (fun e => n123.2.2 e.symm)
  have hc4 := F34.heap HA3.out.c n123.1
  have hb4 := F34.heap HB3.out (by omega)
  have hv4 := F34.heap HV3.out (by omega)
  clear f0 f1 k0 k1 k2 k3 k4 k5 zp hl2 hw4 hm
  obtain ⟨f0, f1, f2, fz, fl⟩ := cells3 hc4
  obtain ⟨c0, c1, c2, cz, cl⟩ := cells3 hb4
  obtain ⟨v0, v1, v2, vz, vl⟩ := cells3 hv4
  have m1 : bm ≠ w.heap.size := by omega
  have m2 : bm ≠ w2.heap.size := by omega
  have m3 : w.heap.size ≠ bm := by omega
  have m4 : w2.heap.size ≠ bm := by omega
  have HP4 := hid hp4
  have HC4 := hid hc4
  have HF34 := hid F34
  clear hp4 hc4 hb4 hv4 F34
  go_wp2
  obtain ⟨w5, hw5⟩ : ∃ w5, w4.putObj bm (.map (ents (del l key)) ck) = w5 := ⟨_, rfl⟩
  have F45 : Fr (fun b => b = bm) w4 w5 := by rw [← hw5]; exact (Fr.refl (fun b => b = bm) _).putObj (fun _ => rfl) _
  have hm5 : w5.heap[bm]? = some (.map (ents (del l key)) ck) := by rw [← hw5]; exact heap_putObj_same _ _ _ (lt_of_heap hm4)
  have g0 := (F45.cell (p := ⟨w.heap.size, 0, none⟩) cl m3).trans c0
  have g1 := (F45.cell (p := ⟨w.heap.size, 1, none⟩) cl m3).trans c1
  have g2 := (F45.cell (p := ⟨w.heap.size, 2, none⟩) cl m3).trans c2
  rw [hw5]
  obtain ⟨hnd, hl, hn⟩ := HR.out
  obtain ⟨hu, hk⟩ := HU.out
  have hAp : AtP w5 bc bp bm (pl.set i (Pl.none Pg.zero)) hand := by
    refine HA3.out.place HP.out _ (fun h => by cases h) trivial HA3.out.hand ?_ ?_ hm5 (nodup_del hnd _) (fun k => ?_) ?_
    · exact F45.heap HC4.out n123.2.1
    · exact F45.heap HP4.out n123.2.2
    · rw [look_del hnd, hl, hu, hk]
      simp [Pl.none]
    · rw [length_del, HK.out, hn, hu]; simp [Pl.none]
  refine bodyPost_ret (v := .tuple #[p.v.val, .bool true]) (by simp [results, go_sem, *]) rfl ⟨by rw [HF.out, E.out.2]; rfl, ?_, ?_⟩
  · rw [E.out.1]
    refine hAp.fr (S := fun b => b = w.heap.size) ?_ (by omega) (by omega) (by omega)
    exact Fr.set3 (S := fun b => b = w.heap.size) (b := w.heap.size) (Fr.refl _ _) rfl _ _ _
  · exact Fr.set3n ((((F1.mono (S' := fun b => b = bp ∨ b = bm) (fun _ _ h => h.elim)).trans F13.out (fun _ _ h => h.elim)).trans HF34.out (fun _ _ h => .inl h)).trans F45 (fun _ _ h => .inr h)) (Nat.le_refl _) _ _ _
theorem drop_at {w : World} {bc bp bm hand : Nat} {pl : List Pl} (h : AtP w bc bp bm pl hand) (key : Int) :
    Calls Tryz.prog 108 #[.pointer (some ⟨bc, 0, none⟩), .int .i64 key] w (DropPost pl hand bc bp bm key w) := by
  cases hf : find pl key with
  | some i => exact drop_some h key hf
  | none => exact drop_none h key hf
end CP
end Go.Proofs.YtgdhaaokolfdoaaGreatDoor

/- The clock of pages as what is in memory by its number. Conditions: none. -/
namespace Go.Sg.Clk
open Go.RowKit
/-- What is in memory at a number. -/
def memOf (pl : List Pl) (k : Int) : Option Pg := (find pl k).bind fun i => (pl[i]?).map (·.v)
theorem memOf_iff {pl : List Pl} (hn : Nd pl) (k : Int) (v : Pg) : memOf pl k = some v ↔ ∃ (i : Nat) (p : Pl), pl[i]? = some p ∧ p.full = true ∧ p.key = k ∧ p.v = v := by
  constructor
  · intro h
    rw [memOf, Option.bind_eq_some_iff] at h
    obtain ⟨i, hi, hv⟩ := h
    obtain ⟨p, hp, hf, hk⟩ := find_some hi
    rw [hp] at hv
    exact ⟨i, p, hp, hf, hk, by simpa using hv⟩
  · rintro ⟨i, p, hp, hf, hk, rfl⟩
    rw [memOf, (find_iff hn k i).2 ⟨p, hp, hf, hk⟩]
    simp [hp]
theorem memOf_isSome {pl : List Pl} (k : Int) : (memOf pl k).isSome = (find pl k).isSome := by
  rw [memOf]
  cases h : find pl k with
  | none => rfl
  | some i =>
    obtain ⟨p, hp, _⟩ := find_some h
    simp [hp]
theorem memOf_set {pl : List Pl} (hn : Nd pl) {i : Nat} {p : Pl} (hp : pl[i]? = some p) (q : Pl) (h : q.full = true → (p.full = true ∧ q.key = p.key) ∨ find pl q.key = none) (k : Int) :
    memOf (pl.set i q) k = if q.full = true ∧ q.key = k then some q.v else if p.full = true ∧ p.key = k then none else memOf pl k := by
  rw [memOf, find_set hn hp q h]
  split
  · simp [get_set hp]
  · split
    · rfl
    · rename_i h1 h2
      rw [memOf]
      cases hf : find pl k with
      | none => rfl
      | some j =>
        obtain ⟨x, hx, hxf, hxk⟩ := find_some hf
        have : ¬ i = j := by
          rintro rfl
          rw [hp] at hx; cases hx
          exact h2 ⟨hxf, hxk⟩
        simp only [Option.bind_some]
        rw [get_set hp, if_neg this]
theorem memOf_unmark (pl : List Pl) (k : Int) : memOf pl k = memOf (pl.map Pl.unmark) k := by
  rw [memOf, memOf, ← find_unmark]
  congr 1
  funext i
  rw [List.getElem?_map]
  cases pl[i]? <;> rfl
theorem memOf_spin (f : Nat) (pl : List Pl) (h : Nat) (k : Int) : memOf (spin f pl h).1 k = memOf pl k := by
  rw [memOf_unmark, spin_same, ← memOf_unmark]
theorem nd_unmark {a b : List Pl} (h : a.map Pl.unmark = b.map Pl.unmark) (hn : Nd b) : Nd a := by
  intro i j x y hx hy hxf hyf hk
  have ga : ∀ n : Nat, (a[n]?).map Pl.unmark = (b[n]?).map Pl.unmark := fun n => by rw [← List.getElem?_map, ← List.getElem?_map, h]
  have gx := ga i
  have gy := ga j
  rw [hx] at gx
  rw [hy] at gy
  cases hxa : b[i]? with
  | none => rw [hxa] at gx; cases gx
  | some x' =>
    cases hyb : b[j]? with
    | none => rw [hyb] at gy; cases gy
    | some y' =>
      rw [hxa] at gx
      rw [hyb] at gy
      simp only [Option.map_some, Option.some.injEq, Pl.unmark, Pl.mk.injEq] at gx gy
      exact hn i j x' y' hxa hyb (by rw [← gx.2.2.1, hxf]) (by rw [← gy.2.2.1, hyf]) (by rw [← gx.1, ← gy.1, hk])
/-- What a put does to what is in memory. -/
structure MPut (pl : List Pl) (key : Int) (v : Pg) (M : Put) : Prop where
  at_ : (M.gone = none ∧ ∀ k, memOf M.pl k = if k = key then some v else memOf pl k) ∨
    (∃ g, M.gone = some g ∧ g.key ≠ key ∧ memOf pl g.key = some g.v ∧ memOf pl key = none ∧ pl.countP (·.full) = pl.length ∧ ∀ k, memOf M.pl k = if k = key then some v else if k = g.key then none else memOf pl k)
theorem mem_put {pl : List Pl} {hand : Nat} (hn : Nd pl) (hh : hand < pl.length) (key : Int) (v : Pg) : MPut pl key v (putM pl hand key v) := by
  constructor
  cases hf : find pl key with
  | some i =>
    obtain ⟨p, hp, hfu, hk⟩ := find_some hf
    have e : putM pl hand key v = ⟨pl.set i ⟨key, v, true, true⟩, hand, none⟩ := by simp [putM, hf]
    have hq : (⟨key, v, true, true⟩ : Pl).full = true → (p.full = true ∧ (⟨key, v, true, true⟩ : Pl).key = p.key) ∨ find pl (⟨key, v, true, true⟩ : Pl).key = none := fun _ => .inl ⟨hfu, hk.symm⟩
    refine .inl ⟨by rw [e], fun k => ?_⟩
    rw [e]
    simp only
    rw [memOf_set hn hp _ hq]
    by_cases hkk : k = key
    · subst hkk; simp
    · have h1 : ¬ key = k := fun x => hkk x.symm
      have h2 : ¬ p.key = k := by rw [hk]; exact h1
      simp [h1, h2, hkk]
  | none =>
    cases he : empty pl with
    | some i =>
      obtain ⟨p, hp, hfu⟩ : ∃ p, pl[i]? = some p ∧ p.full = false := by
        rw [empty, List.findIdx?_eq_some_iff_getElem] at he
        obtain ⟨hi, h1, _⟩ := he
        exact ⟨pl[i], by simp, by simpa using h1⟩
      have e : putM pl hand key v = ⟨pl.set i ⟨key, v, true, true⟩, hand, none⟩ := by simp [putM, hf, he]
      have hq : (⟨key, v, true, true⟩ : Pl).full = true → (p.full = true ∧ (⟨key, v, true, true⟩ : Pl).key = p.key) ∨ find pl (⟨key, v, true, true⟩ : Pl).key = none := fun _ => .inr hf
      refine .inl ⟨by rw [e], fun k => ?_⟩
      rw [e]
      simp only
      rw [memOf_set hn hp _ hq]
      by_cases hkk : k = key
      · subst hkk; simp
      · have h1 : ¬ key = k := fun x => hkk x.symm
        simp [h1, hfu, hkk]
    | none =>
      have e := putM_full (hand := hand) (v := v) hf he
      have hl := spin_len pl.length pl hand
      have hi := spin_lt pl.length pl hand hh
      have hf2 := spin_find pl.length pl hand key
      have he2 := spin_empty pl.length pl hand
      rw [hf] at hf2
      rw [he] at he2
      have hn2 : Nd (spin pl.length pl hand).1 := nd_unmark (spin_same _ _ _) hn
      have hm2 := memOf_spin pl.length pl hand
      generalize spin pl.length pl hand = s at *
      obtain ⟨p, hp⟩ : ∃ p, s.1[s.2]? = some p := ⟨_, List.getElem?_eq_getElem (by omega)⟩
      have hfu := full_of_empty he2 hp
      have hq : (⟨key, v, true, true⟩ : Pl).full = true → (p.full = true ∧ (⟨key, v, true, true⟩ : Pl).key = p.key) ∨ find s.1 (⟨key, v, true, true⟩ : Pl).key = none := fun _ => .inr hf2
      have hne := find_none hf2 hp hfu
      refine .inr ⟨p, by rw [e]; exact hp, hne, ?_, ?_, full_count he, fun k => ?_⟩
      · rw [← hm2, memOf_iff hn2]
        exact ⟨s.2, p, hp, hfu, rfl, rfl⟩
      · rw [memOf, hf]; rfl
      · rw [e]
        simp only
        rw [memOf_set hn2 hp _ hq, hm2]
        by_cases hkk : k = key
        · subst hkk; simp
        · have h1 : ¬ key = k := fun x => hkk x.symm
          by_cases hg : k = p.key
          · subst hg; simp [h1, hfu, hkk]
          · have h2 : ¬ p.key = k := fun x => hg x.symm
            simp [h1, h2, hkk, hg]
theorem count_cover {pl : List Pl} (hn : Nd pl) (L : List Int) (h : ∀ k, (memOf pl k).isSome = true → k ∈ L) : pl.countP (·.full) ≤ L.length := by
  rw [List.countP_eq_length_filter]
  have h1 : ((pl.filter (·.full)).map (·.key)).Nodup := by
    rw [List.Nodup, List.pairwise_map]
    have : (pl.filter (·.full)).Pairwise (fun a b => a.key ≠ b.key) := by
      rw [List.pairwise_filter]
      rw [List.pairwise_iff_getElem]
      intro i j hi hj hij hfi hfj hk
      have := hn i j pl[i] pl[j] (List.getElem?_eq_getElem hi) (List.getElem?_eq_getElem hj) hfi hfj hk
      omega
    exact this
  have h2 := List.Nodup.length_le_of_subset h1 (l₂ := L) (by
    intro k hk
    obtain ⟨p, hp, rfl⟩ := List.mem_map.1 hk
    rw [List.mem_filter] at hp
    obtain ⟨hp, hf⟩ := hp
    obtain ⟨i, hi, rfl⟩ := List.getElem_of_mem hp
    refine h _ ?_
    rw [(memOf_iff hn _ _).2 ⟨i, pl[i], List.getElem?_eq_getElem hi, hf, rfl, rfl⟩]
    rfl)
  simpa using h2
def updM (m : Int → Option Pg) (k : Int) (v : Option Pg) : Int → Option Pg := fun j => if j = k then v else m j
theorem memOf_drop {pl : List Pl} (hn : Nd pl) {i : Nat} {key : Int} (hf : find pl key = some i) (z : Pg) (k : Int) : memOf (pl.set i (Pl.none z)) k = updM (memOf pl) key none k := by
  obtain ⟨p, hp, hfu, hk⟩ := find_some hf
  rw [memOf_set hn hp _ (fun a => by cases a), updM]
  by_cases hkk : k = key
  · subst hkk; simp [Pl.none, hfu, hk]
  · have h1 : ¬ p.key = k := by rw [hk]; exact fun x => hkk x.symm
    simp [Pl.none, h1, hkk]
theorem memOf_mark {pl : List Pl} (hn : Nd pl) {i : Nat} {p : Pl} (hp : pl[i]? = some p) (b : Bool) (k : Int) : memOf (pl.set i { p with marked := b }) k = memOf pl k := by
  rw [memOf_set hn hp { p with marked := b } (fun a => .inl ⟨a, rfl⟩)]
  by_cases h : p.full = true ∧ p.key = k
  · rw [if_pos h, (memOf_iff hn _ _).2 ⟨i, p, hp, h.1, h.2, rfl⟩]
  · rw [if_neg h, if_neg h]
theorem memOf_replicate (n : Nat) (z : Pg) (k : Int) : memOf (List.replicate n (Pl.none z)) k = none := by
  have : find (List.replicate n (Pl.none z)) k = none := by
    rw [find, List.findIdx?_eq_none_iff]
    intro p hp
    rw [List.eq_of_mem_replicate hp]; rfl
  rw [memOf, this]; rfl
end Go.Sg.Clk

/- The clock of pages by what is in memory: New, Get, Look, Put, Drop, Len. Conditions: the clock lies in the world as MemAt says. -/
namespace Go.Proofs.YtgdhaaokolfdoaaGreatDoor
namespace CP
open Go.RowKit Go.Sg Go.Sg.Clk
/-- A clock of n places lies in the world; m is what is in memory. -/
structure MemAt (w : World) (bc bp bm n : Nat) (m : Int → Option Pg) : Prop where
  ex : ∃ pl hand, AtP w bc bp bm pl hand ∧ pl.length = n ∧ ∀ k, memOf pl k = m k
theorem MemAt.fr {S : Nat → Prop} {w w' : World} {bc bp bm n : Nat} {m : Int → Option Pg} (h : MemAt w bc bp bm n m) (F : Fr S w w') (h1 : ¬ S bc) (h2 : ¬ S bp) (h3 : ¬ S bm) : MemAt w' bc bp bm n m := by
  obtain ⟨pl, hand, hA, hl, hm⟩ := h.ex
  exact ⟨pl, hand, hA.fr F h1 h2 h3, hl, hm⟩
theorem MemAt.lts {w : World} {bc bp bm n : Nat} {m : Int → Option Pg} (h : MemAt w bc bp bm n m) : bc < w.heap.size ∧ bp < w.heap.size ∧ bm < w.heap.size := by
  obtain ⟨pl, hand, hA, hl, hm⟩ := h.ex
  exact AtP_lts hA
theorem MemAt.heaps {w : World} {bc bp bm n : Nat} {m : Int → Option Pg} (h : MemAt w bc bp bm n m) : (∃ c, w.heap[bc]? = some (.cells c 260)) ∧ (∃ c, w.heap[bp]? = some (.cells c 264)) ∧ ∃ l ck, w.heap[bm]? = some (.map (ents l) ck) := by
  obtain ⟨pl, hand, hA, hl, hm⟩ := h.ex
  obtain ⟨l, ck, hm, _⟩ := hA.m
  exact ⟨⟨_, hA.c⟩, ⟨_, hA.p⟩, l, ck, hm⟩
def Cover (m : Int → Option Pg) (L : List Int) : Prop := ∀ k, (m k).isSome = true → k ∈ L

theorem memOf_markM {pl : List Pl} (hn : Nd pl) (key k : Int) : memOf (markM pl key) k = memOf pl k := by
  cases hf : find pl key with
  | none => simp [markM, hf]
  | some i =>
    obtain ⟨p, hp, _⟩ := find_some hf
    have e1 : markM pl key = pl.set i { p with marked := true } := by simp only [markM, hf]; exact modify_eq hp _
    rw [e1]; exact memOf_mark hn hp true k
theorem lookM_eq (pl : List Pl) (key : Int) : lookM pl key = (memOf pl key).getD Pg.zero := rfl
theorem newmem_ok (n : Nat) (h1 : 1 ≤ n) (h2 : n ≤ 4096) (w : World) :
    Calls Tryz.prog 96 #[.int .i64 n] w fun e w' => e = .returned (.pointer (some ⟨w.heap.size + 2, 0, none⟩)) ∧ MemAt w' (w.heap.size + 2) w.heap.size (w.heap.size + 1) n (fun _ => none) ∧ Fr (fun _ => False) w w' :=
  (new_ok n h1 h2 w).mono fun e w' ⟨he, hA, hF⟩ => ⟨he, ⟨⟨_, _, hA, by simp, fun k => memOf_replicate _ _ _⟩⟩, hF⟩
theorem getmem_at {w : World} {bc bp bm n : Nat} {m : Int → Option Pg} (h : MemAt w bc bp bm n m) (key : Int) :
    Calls Tryz.prog 86 #[.pointer (some ⟨bc, 0, none⟩), .int .i64 key] w fun e w' => e = .returned (.tuple #[((m key).getD Pg.zero).val, .bool (m key).isSome]) ∧ MemAt w' bc bp bm n m ∧ Fr (fun b => b = bp) w w' := by
  obtain ⟨pl, hand, hA, hl, hm⟩ := h.ex
  refine (get_at hA key).mono fun e w' ⟨he, hA', hF⟩ => ⟨?_, ⟨⟨_, _, hA', ?_, fun k => ?_⟩⟩, hF⟩
  · rw [he, lookM_eq, ← memOf_isSome, hm]
  · rw [← hl]
    cases hf : find pl key with
    | none => simp [markM, hf]
    | some i => simp [markM, hf]
  · rw [memOf_markM hA.nd, hm]
theorem lookmem_at {w : World} {bc bp bm n : Nat} {m : Int → Option Pg} (h : MemAt w bc bp bm n m) (key : Int) :
    Calls Tryz.prog 155 #[.pointer (some ⟨bc, 0, none⟩), .int .i64 key] w fun e w' => e = .returned (.tuple #[((m key).getD Pg.zero).val, .bool (m key).isSome]) ∧ Fr (fun _ => False) w w' := by
  obtain ⟨pl, hand, hA, hl, hm⟩ := h.ex
  refine (look_at hA key).mono fun e w' ⟨he, hF⟩ => ⟨?_, hF⟩
  rw [he, lookM_eq, ← memOf_isSome, hm]
/-- Which page goes for another one. -/
def GoneOk (m : Int → Option Pg) (n : Nat) (key : Int) : Option (Int × Pg) → Prop
  | none => True
  | some g => g.1 ≠ key ∧ m g.1 = some g.2 ∧ m key = none ∧ ∀ L, Cover m L → n ≤ L.length
def putF (m : Int → Option Pg) (key : Int) (x : Pg) (g : Option (Int × Pg)) : Int → Option Pg := fun k => if k = key then some x else if g.map (·.1) = some k then none else m k
def gK (g : Option (Int × Pg)) : Int := (g.map (·.1)).getD 0
def gV (g : Option (Int × Pg)) : Pg := (g.map (·.2)).getD Pg.zero
def PutMem (m : Int → Option Pg) (bc bp bm n : Nat) (key : Int) (x : Pg) (w : World) (e : Ending) (w' : World) : Prop :=
  ∃ g, GoneOk m n key g ∧ e = .returned (.tuple #[.int .i64 (gK g), (gV g).val, .bool g.isSome]) ∧ MemAt w' bc bp bm n (putF m key x g) ∧ Fr (fun b => b = bc ∨ b = bp ∨ b = bm) w w'
theorem putmem_at {w : World} {bc bp bm n : Nat} {m : Int → Option Pg} (h : MemAt w bc bp bm n m) (key : Int) (x : Pg) :
    Calls Tryz.prog 111 #[.pointer (some ⟨bc, 0, none⟩), .int .i64 key, x.val] w (PutMem m bc bp bm n key x w) := by
  obtain ⟨pl, hand, hA, hl, hm⟩ := h.ex
  have hc : ∀ L, Cover m L → pl.countP (·.full) ≤ L.length := fun L hL => count_cover hA.nd L fun k hk => hL k (by rw [← hm]; exact hk)
  have hlen := (did hA.nd hA.hand key x).len
  refine (put_at hA key x).mono fun e w' ⟨he, hA', hF⟩ => ?_
  rcases (mem_put hA.nd hA.hand key x).at_ with ⟨hg, hmm⟩ | ⟨g, hg, hne, hgm, hkm, hcnt, hmm⟩
  · refine ⟨none, trivial, ?_, ⟨⟨_, _, hA', by rw [hlen, hl], fun k => ?_⟩⟩, hF⟩
    · rw [he, hg]; rfl
    · rw [hmm, putF, hm]; simp
  · refine ⟨some (g.key, g.v), ⟨hne, by rw [← hm]; exact hgm, by rw [← hm]; exact hkm, fun L hL => ?_⟩, ?_, ⟨⟨_, _, hA', by rw [hlen, hl], fun k => ?_⟩⟩, hF⟩
    · rw [← hl, ← hcnt]; exact hc L hL
    · rw [he, hg]; rfl
    · rw [hmm, putF, hm]
      by_cases h1 : k = key
      · simp [h1]
      · by_cases h2 : k = g.key
        · simp [h1, h2]
        · have h3 : ¬ g.key = k := fun x => h2 x.symm
          simp [h1, h2, h3]
theorem dropmem_at {w : World} {bc bp bm n : Nat} {m : Int → Option Pg} (h : MemAt w bc bp bm n m) (key : Int) :
    Calls Tryz.prog 108 #[.pointer (some ⟨bc, 0, none⟩), .int .i64 key] w fun e w' => e = .returned (.tuple #[((m key).getD Pg.zero).val, .bool (m key).isSome]) ∧ MemAt w' bc bp bm n (updM m key none) ∧ Fr (fun b => b = bp ∨ b = bm) w w' := by
  obtain ⟨pl, hand, hA, hl, hm⟩ := h.ex
  refine (drop_at hA key).mono fun e w' ⟨he, hA', hF⟩ => ⟨?_, ⟨⟨_, _, hA', ?_, fun k => ?_⟩⟩, hF⟩
  · rw [he, lookM_eq, ← memOf_isSome, hm]
  · rw [← hl]
    cases hf : find pl key with
    | none => simp [dropM, hf]
    | some i => simp [dropM, hf]
  · cases hf : find pl key with
    | none =>
      have e : dropM pl key = pl := by simp [dropM, hf]
      have e2 : m key = none := by rw [← hm, memOf, hf]; rfl
      rw [e, hm, updM]
      split
      · rename_i h; rw [h, e2]
      · rfl
    | some i =>
      have e : dropM pl key = pl.set i (Pl.none Pg.zero) := by simp [dropM, hf]
      rw [e, memOf_drop hA.nd hf, updM, updM, hm]
end CP
end Go.Proofs.YtgdhaaokolfdoaaGreatDoor

/- bytes.Clone. Conditions: the slice reads as Byts says, of at most 65536 bytes. -/
namespace Go.Sg
open Go.RowKit
/-- A slice of bytes reads as bs. -/
structure Byts (w : World) (a : Option Addr) (n : Nat) (bs : List Int) : Prop where
  len : bs.length = n
  at_ : ∀ (i : Nat) (x : Int), bs[i]? = some x → ∃ b off, a = some ⟨b, off, none⟩ ∧ b < w.heap.size ∧ w.cell? ⟨b, off + i, none⟩ = some (.int .u8 x)
theorem Byts.fr {S : Nat → Prop} {w w' : World} {a : Option Addr} {n : Nat} {bs : List Int} (h : Byts w a n bs) (F : Fr S w w') (hS : ∀ b off, a = some ⟨b, off, none⟩ → b < w.heap.size → ¬ S b) : Byts w' a n bs :=
  ⟨h.len, fun i x hx => by
    obtain ⟨b, off, e, hb, hc⟩ := h.at_ i x hx
    exact ⟨b, off, e, Nat.lt_of_lt_of_le hb F.size, (F.cell (p := ⟨b, off + i, none⟩) hb (hS b off e hb)).trans hc⟩⟩
theorem Byts.frn {S : Nat → Prop} {w w' : World} {a : Option Addr} {n : Nat} {bs : List Int} (h : Byts w a n bs) (F : Fr S w w') (hS : ∀ b off, a = some ⟨b, off, none⟩ → b < w.heap.size → 0 < n → ¬ S b) : Byts w' a n bs :=
  ⟨h.len, fun i x hx => by
    obtain ⟨b, off, e, hb, hc⟩ := h.at_ i x hx
    have hn : 0 < n := by have := (List.getElem?_eq_some_iff.1 hx).1; have := h.len; omega
    exact ⟨b, off, e, Nat.lt_of_lt_of_le hb F.size, (F.cell (p := ⟨b, off + i, none⟩) hb (hS b off e hb hn)).trans hc⟩⟩
theorem own_lit0 (W : World) (e : TypeId) (size : Nat) (v : Value) (h : v = .slice (some ⟨W.heap.size, 0, none⟩) 0 0) : (W.alloc (.cells #[] e)).ownsRow 0 e size v 0 [] := by
  subst h
  exact World.ownsRow_lit W #[] 0 (Nat.zero_le _) (Nat.zero_le _) (by simp)
theorem byts_of_own {w : World} {base e n : Nat} {v : Value} {bs : List Int} (h : w.ownsRow base e 1 v n (bs.map (Value.int .u8))) (hne : v ≠ .slice none 0 0) :
    ∃ g cap c, v = .slice (some ⟨g, 0, none⟩) n cap ∧ w.heap[g]? = some (.cells c e) ∧ Byts w (some ⟨g, 0, none⟩) n bs := by
  obtain ⟨hl, ⟨rfl, _⟩ | ⟨g, cap, cur, rfl, _, hg, _, _, _, ht⟩⟩ := h
  · exact absurd rfl hne
  · refine ⟨g, cap, cur, rfl, hg, by simpa using hl, fun i x hx => ⟨g, 0, rfl, lt_of_heap hg, ?_⟩⟩
    rw [Nat.zero_add, cell_of_heap hg]
    have hi := (List.getElem?_eq_some_iff.1 hx).1
    have hl' : bs.length = n * 1 := by simpa using hl
    have : (cur.toList.take (n * 1))[i]? = some (.int .u8 x) := by rw [ht, List.getElem?_map, hx]; rfl
    rw [List.getElem?_take, if_pos (by omega)] at this
    simpa using this
end Go.Sg
namespace Go.Proofs.YtgdhaaokolfdoaaGreatDoor
open Go.RowKit Go.Sg
theorem Tryz.info5 : (Tryz.prog.info? 5).map (fun i => (i.zero, i.size, i.bytes)) = some (some (.int .u8 0), 1, 1) := by kernel_rfl
set_option maxRecDepth 100000 in
theorem clone_nil (w : World) : Calls Tryz.prog 83 #[.slice none 0 0] w fun e w' => e = .returned (.slice none 0 0) ∧ w = w' := by
  have q22 : ∀ (w : World) (a : Option Addr) (n c n' c' : Nat), (binOp .eql 22 (.slice a n c) (.slice none n' c')).run Tryz.prog w = .ok (.bool a.isNone) w := fun w a n c n' c' => Lib.run_eql_slice_nil w _ _ a n c n' c' Tryz.underlying22
  go_enter Tryz.func83, Tryz.ntmps83
  go_wp2
  go_ret
  exact ⟨rfl, rfl⟩
set_option maxHeartbeats 1000000 in
set_option maxRecDepth 100000 in
theorem clone_at {w : World} {ad : Addr} {n cap : Nat} {bs : List Int} (h : Byts w (some ad) n bs) (hn : n ≤ 65536) :
    Calls Tryz.prog 83 #[.slice (some ad) n cap] w fun e w' => ∃ g cap' c, e = .returned (.slice (some ⟨g, 0, none⟩) n cap') ∧ w'.heap[g]? = some (.cells c 5) ∧ Byts w' (some ⟨g, 0, none⟩) n bs ∧ w.heap.size ≤ g ∧ Fr (fun _ => False) w w' := by
  obtain ⟨i0, hi0, hz0, hz1, hz2⟩ := info_parts Tryz.info5
  have H := hid h
  have hlen := h.len
  have hcell : ∀ (o : Obj) (j : Nat) (u : Value), (bs.map (Value.int .u8))[j]? = some u → (w.alloc o).cell? (ad.add j) = some u := fun o j u hu => by
    rw [List.getElem?_map] at hu
    cases hx : bs[j]? with
    | none => rw [hx] at hu; cases hu
    | some x =>
      rw [hx] at hu
      cases hu
      obtain ⟨b', off', e, hb, hc⟩ := h.at_ j x hx
      cases e
      rw [show (⟨b', off', none⟩ : Addr).add j = ⟨b', off' + j, none⟩ by unfold Addr.add; split <;> simp_all]
      exact (((Fr.refl (fun _ => False) w).alloc o).cell (p := ⟨b', off' + j, none⟩) hb (fun h => h)).trans hc
  have HC := hid hcell
  clear h hcell
  have q22 : ∀ (w : World) (a : Option Addr) (n c n' c' : Nat), (binOp .eql 22 (.slice a n c) (.slice none n' c')).run Tryz.prog w = .ok (.bool a.isNone) w := fun w a n c n' c' => Lib.run_eql_slice_nil w _ _ a n c n' c' Tryz.underlying22
  go_enter Tryz.func83, Tryz.ntmps83
  go_wp2_with (at_builtin; refine wpList_append_own_at _ rfl (.tmp 5) (.tmp 6) 22 rfl 0 5 i0 _ 1 1 Tryz.underlying22 hi0 hz0 hz1 hz2 rfl (by decide) _ _ _ rfl (own_lit0 _ _ _ _ (by simp [go_sem])) ad n cap (bs.map (Value.int .u8)) rfl (by simpa using hlen) ?c1 ?c2 ?c3 ?c4 (Nat.zero_le _) ?_)
  case c1 => exact HC.out _
  case c2 => intro u hu; obtain ⟨x, _, rfl⟩ := List.mem_map.1 hu; rfl
  case c3 => simp [maxLen]; omega
  case c4 => omega
  intro v1 w1 hown hgrow hnil hat
  try simp only [List.nil_append, Nat.zero_add] at hown
  have F1 : Fr (fun _ => False) w w1 := ((Fr.refl (fun _ => False) w).alloc _).trans (S' := fun b => b = w.heap.size) (Fr.of_grownBy hgrow) (fun b hb h => by omega)
  obtain ⟨g, cap', c, rfl, hg, hB⟩ := byts_of_own hown hnil
  have hgl : w.heap.size ≤ g := by
    rcases hat with h | h <;> simp [Value.ownBlock] at h <;> omega
  have HG := hid (And.intro hg (And.intro hB (And.intro hgl F1)))
  clear hown hgrow hat hg hB F1 hgl
  go_wp2
  go_ret
  exact ⟨g, cap', c, rfl, HG.out.1, HG.out.2.1, HG.out.2.2.1, HG.out.2.2.2⟩
end Go.Proofs.YtgdhaaokolfdoaaGreatDoor

/- Sets of numbers as maps from int to bool; slices of bytes that are kept. Conditions: none. -/
namespace Go.Sg
open Go.RowKit
theorem borns_put (l : List Ent) (k : Int) (v : Value) (c : Nat) : (put l k v c).map (·.born) = if (look l k).isSome then l.map (·.born) else l.map (·.born) ++ [c] := by
  induction l with
  | nil => rfl
  | cons e l ih =>
    unfold put
    by_cases hk : (e.k == k) = true
    · have hk' : e.k = k := by simpa using hk
      simp [look, hk, hk']
    · have hk' : (e.k == k) = false := by simpa using hk
      have e1 : look (e :: l) k = look l k := by simp [look, List.find?_cons, hk']
      rw [hk', e1]
      simp only [Bool.false_eq_true, if_false, List.map_cons]
      rw [ih]
      split <;> rfl
theorem del_sub (l : List Ent) (k : Int) : (del l k).Sublist l := by
  induction l with
  | nil => exact List.Sublist.refl _
  | cons e l ih =>
    unfold del
    split
    · exact List.sublist_cons_self _ _
    · exact ih.cons_cons _
theorem look_mem {l : List Ent} (h : (keys l).Nodup) {e : Ent} (he : e ∈ l) : look l e.k = some e.v := by
  induction l with
  | nil => cases he
  | cons a l ih =>
    have hn : (keys l).Nodup := by simp [keys] at h ⊢; exact h.2
    have ha : a.k ∉ keys l := by simp [keys] at h ⊢; exact h.1
    rcases List.mem_cons.1 he with rfl | he'
    · simp [look]
    · have : a.k ≠ e.k := by
        intro x
        exact ha (by rw [x]; exact List.mem_map.2 ⟨e, he', rfl⟩)
      have := ih hn he'
      simp [look] at this ⊢
      simp [List.find?_cons, *]
/-- A row of entries is the set f. -/
structure SetIs (l : List Ent) (ck : Nat) (f : Int → Bool) : Prop where
  nd : (keys l).Nodup
  born : ∀ x ∈ l.map (·.born), x < ck
  bnd : (l.map (·.born)).Nodup
  at_ : ∀ k, look l k = if f k then some (.bool true) else none
def updI (f : Int → Bool) (k : Int) (b : Bool) : Int → Bool := fun j => if j = k then b else f j
theorem SetIs.made : SetIs [] 0 (fun _ => false) := ⟨by simp [keys], by simp, by simp, fun k => rfl⟩
theorem SetIs.isSome {l : List Ent} {ck : Nat} {f : Int → Bool} (h : SetIs l ck f) (k : Int) : (look l k).isSome = f k := by
  rw [h.at_]; cases f k <;> rfl
theorem SetIs.put {l : List Ent} {ck : Nat} {f : Int → Bool} (h : SetIs l ck f) (k : Int) : SetIs (put l k (.bool true) ck) (bump l k ck) (updI f k true) := by
  refine ⟨nodup_put h.nd _ _ _, ?_, ?_, fun j => ?_⟩
  · rw [borns_put]
    unfold bump
    split
    · exact h.born
    · intro x hx
      rcases List.mem_append.1 hx with hx | hx
      · have := h.born x hx; omega
      · simp at hx; omega
  · rw [borns_put]
    split
    · exact h.bnd
    · rw [List.nodup_append]
      refine ⟨h.bnd, by simp, ?_⟩
      rintro a ha b hb rfl
      simp at hb
      subst hb
      exact absurd (h.born _ ha) (Nat.lt_irrefl _)
  · rw [look_put, h.at_, updI]
    by_cases e : k = j
    · subst e; simp
    · have e' : ¬ j = k := fun x => e x.symm
      simp [e, e']
theorem SetIs.del {l : List Ent} {ck : Nat} {f : Int → Bool} (h : SetIs l ck f) (k : Int) : SetIs (del l k) ck (updI f k false) := by
  have hs := (del_sub l k).map (·.born)
  refine ⟨nodup_del h.nd _, fun x hx => h.born x (hs.subset hx), h.bnd.sublist hs, fun j => ?_⟩
  rw [look_del h.nd, h.at_, updI]
  by_cases e : k = j
  · subst e; simp
  · have e' : ¬ j = k := fun x => e x.symm
    simp [e, e']
theorem SetIs.len {l : List Ent} {ck : Nat} {f : Int → Bool} (h : SetIs l ck f) {n : Nat} (hn : ∀ k, f k = true → 0 ≤ k ∧ k < n) : l.length ≤ n := by
  rw [← length_keys]
  have hsub : ∀ k ∈ keys l, k.toNat ∈ List.range n ∧ 0 ≤ k := fun k hk => by
    have h1 : look l k ≠ none := fun e => (look_none l k).1 e hk
    rw [h.at_] at h1
    have h2 : f k = true := by
      cases hf : f k with
      | true => rfl
      | false => rw [hf] at h1; simp at h1
    have := hn k h2
    simp; omega
  have h1 : ((keys l).map Int.toNat).Nodup := by
    rw [List.Nodup, List.pairwise_map]
    refine List.Pairwise.imp_of_mem ?_ h.nd
    intro a b ha hb hab
    have := (hsub a ha).2
    have := (hsub b hb).2
    omega
  have h2 : ((keys l).map Int.toNat).length ≤ (List.range n).length := by
    refine List.Nodup.length_le_of_subset h1 ?_
    intro x hx
    obtain ⟨k, hk, rfl⟩ := List.mem_map.1 hx
    exact (hsub k hk).1
  simpa using h2
/-- A map lies in the world that is the set f. -/
structure SetAt (w : World) (b : Nat) (f : Int → Bool) : Prop where
  ex : ∃ l ck, w.heap[b]? = some (.map (ents l) ck) ∧ SetIs l ck f
theorem SetAt.fr {S : Nat → Prop} {w w' : World} {b : Nat} {f : Int → Bool} (h : SetAt w b f) (F : Fr S w w') (hn : ¬ S b) : SetAt w' b f := by
  obtain ⟨l, ck, hm, hs⟩ := h.ex
  exact ⟨l, ck, F.heap hm hn, hs⟩
theorem SetAt.made {w : World} {b : Nat} (h : w.heap[b]? = some (.map #[] 0)) : SetAt w b (fun _ => false) := ⟨[], 0, h, SetIs.made⟩

/-! ### A set as the kit reads it -/
theorem insert_perm {H : Type} (x : Lit × DataW H) (l : List (Lit × DataW H)) : (DataW.insert x l).Perm (x :: l) := by
  induction l with
  | nil => exact List.Perm.refl _
  | cons y r ih =>
    unfold DataW.insert
    split
    · exact List.Perm.refl _
    · exact (ih.cons y).trans (List.Perm.swap _ _ _)
theorem foldr_perm {H : Type} (l : List (Lit × DataW H)) : (l.foldr DataW.insert []).Perm l := by
  induction l with
  | nil => exact List.Perm.refl _
  | cons x l ih => exact (insert_perm _ _).trans (ih.cons x)
def boolD {H : Type} : DataW H := .lit (.bool true)
def setD {H : Type} (l : List Ent) : DataW H := .map ((l.map fun e => (Lit.int .i64 e.k, boolD)).foldr DataW.insert [])
theorem setD_keys {H : Type} (l : List Ent) : (intKeys (setD (H := H) l)).Perm (keys l) := by
  unfold setD intKeys
  refine ((foldr_perm _).map _).trans ?_
  rw [List.map_map]
  exact List.Perm.of_eq rfl
theorem setD_size {H : Type} (l : List Ent) : Maps.size (setD (H := H) l) = l.length := by
  rw [setD, Maps.size_eq, (foldr_perm _).length_eq, List.length_map]
theorem setD_has {H : Type} (l : List Ent) (k : Int) : Maps.has (setD (H := H) l) (.int .i64 k) = decide (k ∈ keys l) := by
  rw [setD, Maps.has_eq, Bool.eq_iff_iff]
  rw [List.any_eq_true]
  constructor
  · rintro ⟨p, hp, hs⟩
    have hp' := (foldr_perm _).mem_iff.1 hp
    obtain ⟨e, he, rfl⟩ := List.mem_map.1 hp'
    have : e.k = k := by simpa [Lit.sameKey] using hs
    simp
    rw [← this]
    exact List.mem_map.2 ⟨e, he, rfl⟩
  · intro h
    have h' : k ∈ keys l := by simpa using h
    obtain ⟨e, he, rfl⟩ := List.mem_map.1 h'
    exact ⟨_, (foldr_perm _).mem_iff.2 (List.mem_map.2 ⟨e, he, rfl⟩), by simp [Lit.sameKey]⟩
open Go.WideElems in
theorem set_owns {H : Type} {P : Program} {w : World} {b K E : Nat} {l : List Ent} {ck : Nat} {f : Int → Bool} (hK : P.underlying K = some (.int .i64)) (hE : P.underlying E = some .bool)
    (hb : w.heap[b]? = some (.map (ents l) ck)) (hs : SetIs l ck f) (hw : ∀ k, f k = true → (Lit.int .i64 k).wf = true) (hl : l.length ≤ maxLen) :
    w.ownsMap P K (plainElem (H := H) P E) b l.length (setD l) := by
  have hrd : ∀ e ∈ l, rd P K (plainElem (H := H) P E) e.entry = some (.int .i64 e.k, boolD) := fun e he => by
    have h1 := look_mem hs.nd he
    rw [hs.at_] at h1
    have hf : f e.k = true := by
      cases hf : f e.k with
      | true => rfl
      | false => rw [hf] at h1; simp at h1
    rw [hf] at h1
    simp at h1
    have : e.entry = ⟨.int .i64 e.k, .bool true, e.born⟩ := by rw [Ent.entry, ← h1]
    rw [this]
    exact rd_mk (Maps.keyOf_int_mk hK (hw _ hf)) (plainElem_bool hE true)
  refine ⟨ents l, ck, hb, ⟨by simp [ents]; exact hl, (MapKept.stamped_iff _ _).2 ⟨?_, ?_, ?_⟩, ?_⟩, by simp [ents], ?_⟩
  · intro x hx
    simp [ents] at hx
    obtain ⟨e, he, rfl⟩ := hx
    exact hs.born _ (List.mem_map.2 ⟨e, he, rfl⟩)
  · have := hs.bnd
    simpa [ents, Ent.entry, List.map_map, Function.comp_def] using this
  · have := hs.nd
    rw [keys, List.Nodup, List.pairwise_map] at this
    simp only [ents, List.toList_toArray, List.pairwise_map, Ent.entry]
    refine this.imp ?_
    intro a c h h'
    exact h (by simpa using h')
  · intro x hx
    simp [ents] at hx
    obtain ⟨e, he, rfl⟩ := hx
    exact ⟨_, hrd e he⟩
  · rw [setD]
    congr 2
    simp only [ents, List.toList_toArray, List.map_map]
    refine List.map_congr_left fun e he => ?_
    simp only [Function.comp]
    rw [rg_of (hrd e he)]

/-! ### Slices of bytes as values -/
/-- A slice's value reads as bs. -/
structure SlB (w : World) (a : Option Addr) (n c : Nat) (bs : List Int) : Prop where
  by_ : Byts w a n bs
  at_ : (a = none ∧ n = 0 ∧ c = 0) ∨ ∃ ad, a = some ad
/-- .. and lies in a block of bytes alone. -/
structure ByV (w : World) (a : Option Addr) (n c : Nat) (bs : List Int) : Prop where
  by_ : Byts w a n bs
  at_ : (a = none ∧ n = 0 ∧ c = 0) ∨ ∃ b off cs, a = some ⟨b, off, none⟩ ∧ w.heap[b]? = some (.cells cs 5)
theorem ByV.slb {w : World} {a : Option Addr} {n c : Nat} {bs : List Int} (h : ByV w a n c bs) : SlB w a n c bs := by
  refine ⟨h.by_, ?_⟩
  rcases h.at_ with h0 | ⟨b, off, cs, h1, _⟩
  · exact .inl h0
  · exact .inr ⟨_, h1⟩
theorem ByV.fr {S : Nat → Prop} {w w' : World} {a : Option Addr} {n c : Nat} {bs : List Int} (h : ByV w a n c bs) (F : Fr S w w') (hS : ∀ b c, w.heap[b]? = some (.cells c 5) → ¬ S b) : ByV w' a n c bs := by
  refine ⟨h.by_.fr F (fun b off e hb => ?_), ?_⟩
  · rcases h.at_ with ⟨h0, _⟩ | ⟨b', off', cs, h1, h2⟩
    · rw [h0] at e; cases e
    · rw [h1] at e; cases e; exact hS _ _ h2
  · rcases h.at_ with h0 | ⟨b', off', cs, h1, h2⟩
    · exact .inl h0
    · exact .inr ⟨b', off', cs, h1, F.heap h2 (hS _ _ h2)⟩
theorem ByV.nil (w : World) : ByV w none 0 0 [] := ⟨⟨rfl, fun i x h => by simp at h⟩, .inl ⟨rfl, rfl, rfl⟩⟩
theorem ByV.len {w : World} {a : Option Addr} {n c : Nat} {bs : List Int} (h : ByV w a n c bs) : bs.length = n := h.by_.len
end Go.Sg
namespace Go.Proofs.YtgdhaaokolfdoaaGreatDoor
open Go.RowKit Go.Sg
theorem clone_v {w : World} {a : Option Addr} {n c : Nat} {bs : List Int} (h : SlB w a n c bs) (hn : n ≤ 65536) :
    Calls Tryz.prog 83 #[.slice a n c] w fun e w' => ∃ a' c', e = .returned (.slice a' n c') ∧ ByV w' a' n c' bs ∧ Fr (fun _ => False) w w' := by
  rcases h.at_ with ⟨rfl, rfl, rfl⟩ | ⟨ad, rfl⟩
  · refine (clone_nil w).mono fun e w' ⟨he, hw⟩ => ⟨none, 0, he, ?_, by rw [hw]; exact Fr.refl _ _⟩
    have : bs = [] := List.eq_nil_of_length_eq_zero h.by_.len
    rw [this]; exact ByV.nil w'
  · exact (clone_at h.by_ hn).mono fun e w' ⟨g, c', cs, he, hg, hB, _, hF⟩ => ⟨_, _, he, ⟨hB, .inr ⟨g, 0, cs, rfl, hg⟩⟩, hF⟩
end Go.Proofs.YtgdhaaokolfdoaaGreatDoor
