/- A pack of texts: CR, CS, CT, Mem, MA. Conditions: those that each text names. -/
import Derived.Test.YtgdhaaokolfdoaaGreatDoorJAA
set_option linter.unusedVariables false
set_option linter.unusedSimpArgs false
set_option linter.unnecessarySimpa false
namespace Go.Sg
theorem Fr.set3 {S : Nat → Prop} {w w1 : World} (h : Fr S w w1) {b : Nat} (hb : S b) (x y z : Value) : Fr S w (((w1.setCell ⟨b, 0, none⟩ x).setCell ⟨b, 1, none⟩ y).setCell ⟨b, 2, none⟩ z) :=
  ((h.setCell (a := ⟨b, 0, none⟩) (fun _ => hb) x).setCell (a := ⟨b, 1, none⟩) (fun _ => hb) y).setCell (a := ⟨b, 2, none⟩) (fun _ => hb) z
theorem Fr.set3n {S : Nat → Prop} {w w1 : World} (h : Fr S w w1) {b : Nat} (hb : w.heap.size ≤ b) (x y z : Value) : Fr S w (((w1.setCell ⟨b, 0, none⟩ x).setCell ⟨b, 1, none⟩ y).setCell ⟨b, 2, none⟩ z) :=
  ((h.setNew hb x).setNew hb y).setNew hb z
end Go.Sg
namespace Go.Proofs.YtgdhaaokolfdoaaGreatDoor
namespace CP
open Go.RowKit Go.Sg Go.Sg.Clk Go.Shelf
def goneK (g : Option Pl) : Int := (g.map (·.key)).getD 0
def goneV (g : Option Pl) : Pg := (g.map (·.v)).getD Pg.zero
def PutPost (pl : List Pl) (hand bc bp bm : Nat) (key : Int) (x : Pg) (w : World) (e : Ending) (w' : World) : Prop :=
  e = .returned (.tuple #[.int .i64 (goneK (putM pl hand key x).gone), (goneV (putM pl hand key x).gone).val, .bool (putM pl hand key x).gone.isSome]) ∧
  AtP w' bc bp bm (putM pl hand key x).pl (putM pl hand key x).hand ∧ Fr (fun b => b = bc ∨ b = bp ∨ b = bm) w w'

set_option maxHeartbeats 2000000 in
theorem put_there {w : World} {bc bp bm hand : Nat} {pl : List Pl} (h : AtP w bc bp bm pl hand) (key : Int) (x : Pg) {i : Nat} (hf : find pl key = some i) :
    Calls Tryz.prog 111 #[.pointer (some ⟨bc, 0, none⟩), .int .i64 key, x.val] w (PutPost pl hand bc bp bm key x w) := by
  obtain ⟨st, la, ll, lc, di⟩ := x
  have hlt := AtP_lts h
  obtain ⟨w2, hw2⟩ : ∃ w2, (w.alloc (.cells #[.int .i64 st, .slice la ll lc, .bool di] 162)).alloc (.cells #[.int .i64 0, .slice none 0 0, .bool false] 162) = w2 := ⟨_, rfl⟩
  obtain ⟨b0, b1, F2⟩ := heap_two hw2
  have hA := h.fr F2 (fun h => h) (fun h => h) (fun h => h)
  obtain ⟨p, hp, hful, hkey⟩ := find_some hf
  have k1 := hA.k1 hp
  have k2 := hA.k2 hp
  have k3 := hA.k3 hp
  have k5 := hA.k5 hp
  have zp := hA.zp
  obtain ⟨d0, d1, d2, dz, dl⟩ := cells3 b0
  obtain ⟨c0, c1, c2, cz, cl⟩ := cells3 b1
  have g1 := hA.set hp 1 (by omega) (.int .i64 st) ⟨p.key, { p.v with stamp := st }, p.full, p.marked⟩ rfl rfl rfl trivial
  have at_ : ∀ r : Pl, (pl.set i r)[i]? = some r := fun r => by rw [get_set hp, if_pos rfl]
  have g2 := g1.set (at_ _) 2 (by omega) (.slice la ll lc) ⟨p.key, ⟨st, la, ll, lc, p.v.dirty⟩, p.full, p.marked⟩ rfl rfl rfl trivial
  rw [List.set_set] at g2
  have g3 := g2.set (at_ _) 3 (by omega) (.bool di) ⟨p.key, ⟨st, la, ll, lc, di⟩, p.full, p.marked⟩ rfl rfl rfl trivial
  rw [List.set_set] at g3
  have g5 := g3.set (at_ _) 5 (by omega) (.bool true) ⟨p.key, ⟨st, la, ll, lc, di⟩, p.full, true⟩ rfl rfl rfl trivial
  rw [List.set_set, hful, hkey] at g5
  have HE : Hid (putM pl hand key ⟨st, la, ll, lc, di⟩ = ⟨pl.set i ⟨key, ⟨st, la, ll, lc, di⟩, true, true⟩, hand, none⟩) := hid (by simp [putM, hf])
  have G5 := hid g5
  have FN := hid (find_at hA key)
  rw [hf] at FN
  have HW := hid hw2
  have n1 : w.heap.size ≠ bp := by omega
  have n2 : w.heap.size + 1 ≠ bp := by omega
  clear hf hp hful hkey at_ g1 g2 g3 g5 hA h hw2 b0 b1
  go_enter Tryz.func111, Tryz.ntmps111
  go_wp2_with fail
  rw [HW.out]
  refine FN.out.mono ?_
  rintro e w' ⟨rfl, rfl⟩
  go_wp2
  go_region
  go_wp2
  refine bodyPost_ret (v := .tuple #[.int .i64 0, Pg.zero.val, .bool false]) (by simp [results, go_sem, Pg.zero, *]) rfl ⟨by rw [HE.out]; rfl, ?_, ?_⟩
  · rw [HE.out]
    refine At.fr (S := fun b => b = w.heap.size + 1) G5.out ?_ (by omega) (by omega) (by omega)
    exact (Fr.set3 (S := fun b => b = w.heap.size + 1) (b := w.heap.size + 1) (Fr.refl _ _) rfl _ _ _).drew
  · refine Fr.drew (Fr.set3n ?_ (by omega) _ _ _)
    exact ((((F2.mono (fun _ _ h => h.elim)).setCell (a := ⟨bp, i * 6 + 1, none⟩) (fun _ => .inr (.inl rfl)) _).setCell (a := ⟨bp, i * 6 + 2, none⟩) (fun _ => .inr (.inl rfl)) _).setCell (a := ⟨bp, i * 6 + 3, none⟩) (fun _ => .inr (.inl rfl)) _).setCell (a := ⟨bp, i * 6 + 5, none⟩) (fun _ => .inr (.inl rfl)) _

set_option maxHeartbeats 4000000 in
theorem put_free {w : World} {bc bp bm hand : Nat} {pl : List Pl} (h : AtP w bc bp bm pl hand) (key : Int) (x : Pg) {i : Nat} (hf : find pl key = none) (he : empty pl = some i) :
    Calls Tryz.prog 111 #[.pointer (some ⟨bc, 0, none⟩), .int .i64 key, x.val] w (PutPost pl hand bc bp bm key x w) := by
  obtain ⟨st, la, ll, lc, di⟩ := x
  have hlt := AtP_lts h
  have n123 := h.ne
  obtain ⟨w2, hw2⟩ : ∃ w2, (w.alloc (.cells #[.int .i64 st, .slice la ll lc, .bool di] 162)).alloc (.cells #[.int .i64 0, .slice none 0 0, .bool false] 162) = w2 := ⟨_, rfl⟩
  obtain ⟨b0, b1, F2⟩ := heap_two hw2
  have hA := h.fr F2 (fun h => h) (fun h => h) (fun h => h)
  have hHE : putM pl hand key ⟨st, la, ll, lc, di⟩ = ⟨pl.set i ⟨key, ⟨st, la, ll, lc, di⟩, true, true⟩, hand, none⟩ := by simp [putM, hf, he]
  have HE := hid hHE
  have FN := hid (find_at hA key)
  rw [hf] at FN
  have EM := hid (empty_at hA)
  rw [emptyI_some he] at EM
  have HA := hid hA
  have HF := hid hf
  have HO := hid he
  have HW := hid hw2
  have B01 := hid (And.intro b0 b1)
  have hi : i < pl.length := by
    rw [empty, List.findIdx?_eq_some_iff_getElem] at he
    exact he.1
  clear hf he h hA hw2 b0 b1 hHE
  go_enter Tryz.func111, Tryz.ntmps111
  go_wp2_with fail
  rw [HW.out]
  refine FN.out.mono ?_
  rintro e w' ⟨rfl, rfl⟩
  go_wp2_with fail
  refine EM.out.mono ?_
  rintro e w3 ⟨rfl, F3⟩
  have hA3 := HA.out.fr F3 (fun h => h) (fun h => h) (fun h => h)
  have l3 := F3.size
  have l2 := lt_of_heap B01.out.2
  obtain ⟨p, hp⟩ : ∃ p, pl[i]? = some p := ⟨_, List.getElem?_eq_getElem hi⟩
  have f0 := hA3.c0
  have f1 := hA3.c1
  have k0 := hA3.k0 hp
  have k1 := hA3.k1 hp
  have k2 := hA3.k2 hp
  have k3 := hA3.k3 hp
  have k4 := hA3.k4 hp
  have k5 := hA3.k5 hp
  have zp := hA3.zp
  have hr := hA3.room
  obtain ⟨d0, d1, d2, dz, dl⟩ := cells3 (F3.heap B01.out.1 (fun h => h))
  obtain ⟨c0, c1, c2, cz, cl⟩ := cells3 (F3.heap B01.out.2 (fun h => h))
  obtain ⟨l, ck, hm, hR⟩ := hA3.m
  have HA3 := hid hA3
  have HP := hid hp
  have HR := hid hR
  clear hA3 hp hR
  go_wp2
  go_region
  obtain ⟨w4, hw4⟩ : ∃ w4, ((((((w3.setCell ⟨bp, i * 6, none⟩ (.int .i64 key)).setCell ⟨bp, i * 6 + 1, none⟩ (.int .i64 st)).setCell ⟨bp, i * 6 + 2, none⟩ (.slice la ll lc)).setCell ⟨bp, i * 6 + 3, none⟩ (.bool di)).setCell ⟨bp, i * 6 + 4, none⟩ (.bool true)).setCell ⟨bp, i * 6 + 5, none⟩ (.bool true)).drew = w4 := ⟨_, rfl⟩
  have F34 : Fr (fun b => b = bp) w3 w4 := by
    rw [← hw4]
    exact (((((((Fr.refl (fun b => b = bp) _).setCell (a := ⟨bp, i * 6, none⟩) (fun _ => rfl) _).setCell (a := ⟨bp, i * 6 + 1, none⟩) (fun _ => rfl) _).setCell (a := ⟨bp, i * 6 + 2, none⟩) (fun _ => rfl) _).setCell (a := ⟨bp, i * 6 + 3, none⟩) (fun _ => rfl) _).setCell (a := ⟨bp, i * 6 + 4, none⟩) (fun _ => rfl) _).setCell (a := ⟨bp, i * 6 + 5, none⟩) (fun _ => rfl) _).drew
  have hp4 : w4.heap[bp]? = some (.cells (cellsOf (pl.set i ⟨key, ⟨st, la, ll, lc, di⟩, true, true⟩)) 264) := by
    have := heap_place HA3.out.p HP.out ⟨key, ⟨st, la, ll, lc, di⟩, true, true⟩
    rw [← hw4, heap_drew]
    exact this
  rw [hw4]
  have hm4 := F34.heap hm (fun e => n123.2.2 e.symm)
  have hc4 := F34.heap HA3.out.c n123.1
  have hb04 := F34.heap (F3.heap B01.out.1 (fun h => h)) (by omega)
  have hb14 := F34.heap (F3.heap B01.out.2 (fun h => h)) (by omega)
  clear f0 f1 k0 k1 k2 k3 k4 k5 zp d0 d1 d2 dz dl c0 c1 c2 cz cl hw4 hm
  obtain ⟨f0, f1, f2, fz, fl⟩ := cells3 hc4
  obtain ⟨c0, c1, c2, cz, cl⟩ := cells3 hb14
  have hup := fun (W : World) (hW : W.heap[bm]? = some (.map (ents l) ck)) => run_mapUpdate (P := Tryz.prog) (T := 258) Tryz.underlying258 Tryz.underlying3 hW key (.int .i64 i)
  have HP4 := hid hp4
  have HC4 := hid hc4
  have n1 : bm ≠ w.heap.size + 1 := by omega
  have n2 : w.heap.size + 1 ≠ bm := by omega
  clear hp4 hc4 hb04 hb14
  go_wp2
  obtain ⟨w5, hw5⟩ : ∃ w5, w4.putObj bm (.map (ents (put l key (.int .i64 i) ck)) (bump l key ck)) = w5 := ⟨_, rfl⟩
  have F45 : Fr (fun b => b = bm) w4 w5 := by rw [← hw5]; exact (Fr.refl (fun b => b = bm) _).putObj (fun _ => rfl) _
  have hm5 : w5.heap[bm]? = some (.map (ents (put l key (.int .i64 i) ck)) (bump l key ck)) := by rw [← hw5]; exact heap_putObj_same _ _ _ (lt_of_heap hm4)
  rw [hw5]
  have e0 := (F45.cell (p := ⟨w.heap.size + 1, 0, none⟩) cl n2).trans c0
  have e1 := (F45.cell (p := ⟨w.heap.size + 1, 1, none⟩) cl n2).trans c1
  have e2 := (F45.cell (p := ⟨w.heap.size + 1, 2, none⟩) cl n2).trans c2
  have ez : ∀ o, w5.frozen? ⟨w.heap.size + 1, o, none⟩ = false := fun o => (World.frozen?_of_block (F45.block _ cl n2)).trans (cz o)
  have HM5 := hid hm5
  have HF45 := hid F45
  clear hw5 c0 c1 c2 cz f0 f1 f2 fz hup hm5 F45 hm4
  go_region
  go_wp2
  obtain ⟨hnd, hl, hn⟩ := HR.out
  have hlk : Sg.look l key = none := by rw [hl, HF.out]; rfl
  have hpf : p.full = false := by
    have := HO.out
    rw [empty, List.findIdx?_eq_some_iff_getElem] at this
    obtain ⟨hi', h1, _⟩ := this
    have e := HP.out
    rw [List.getElem?_eq_getElem hi'] at e
    cases e
    simpa using h1
  have hAp : AtP w5 bc bp bm (pl.set i ⟨key, ⟨st, la, ll, lc, di⟩, true, true⟩) hand := by
    refine HA3.out.place HP.out _ (fun _ => .inr HF.out) trivial HA3.out.hand ?_ ?_ HM5.out (nodup_put hnd _ _ _) (fun k => ?_) ?_
    · exact HF45.out.heap HC4.out n123.2.1
    · exact HF45.out.heap HP4.out n123.2.2
    · rw [look_put, hl]
      simp [hpf]
    · rw [length_put, hlk, hn, hpf]; simp
  refine bodyPost_ret (v := .tuple #[.int .i64 0, Pg.zero.val, .bool false]) (by simp [results, go_sem, Pg.zero, *]) rfl ⟨by rw [HE.out]; rfl, ?_, ?_⟩
  · rw [HE.out]
    refine hAp.fr (S := fun b => b = w.heap.size + 1) ?_ (by omega) (by omega) (by omega)
    exact (Fr.set3 (S := fun b => b = w.heap.size + 1) (b := w.heap.size + 1) (Fr.refl _ _) rfl _ _ _).drew
  · refine Fr.drew (Fr.set3n ?_ (by omega) _ _ _)
    exact (((F2.mono (S' := fun b => b = bc ∨ b = bp ∨ b = bm) (fun _ _ h => h.elim)).trans F3 (fun _ _ h => h.elim)).trans F34 (fun _ _ h => .inr (.inl h))).trans HF45.out (fun _ _ h => .inr (.inr h))
end CP
end Go.Proofs.YtgdhaaokolfdoaaGreatDoor

namespace Go.Proofs.YtgdhaaokolfdoaaGreatDoor
namespace CP
open Go.RowKit Go.Sg Go.Sg.Clk Go.Shelf
set_option maxHeartbeats 4000000 in
set_option maxRecDepth 100000 in
theorem put_full {w : World} {bc bp bm hand : Nat} {pl : List Pl} (h : AtP w bc bp bm pl hand) (key : Int) (x : Pg) (hf : find pl key = none) (he : empty pl = none) :
    Calls Tryz.prog 111 #[.pointer (some ⟨bc, 0, none⟩), .int .i64 key, x.val] w (PutPost pl hand bc bp bm key x w) := by
  obtain ⟨st, la, ll, lc, di⟩ := x
  have hlt := AtP_lts h
  have n123 := h.ne
  obtain ⟨w2, hw2⟩ : ∃ w2, (w.alloc (.cells #[.int .i64 st, .slice la ll lc, .bool di] 162)).alloc (.cells #[.int .i64 0, .slice none 0 0, .bool false] 162) = w2 := ⟨_, rfl⟩
  obtain ⟨b0, b1, F2⟩ := heap_two hw2
  have hA := h.fr F2 (fun h => h) (fun h => h) (fun h => h)
  have FN := hid (find_at hA key)
  rw [hf] at FN
  have EM := hid (empty_at hA)
  rw [emptyI_none he] at EM
  have HA := hid hA
  have HF := hid hf
  have HO := hid he
  have HH := hid h
  have HW := hid hw2
  have B01 := hid (And.intro b0 b1)
  clear hf he h hA hw2 b0 b1
  go_enter Tryz.func111, Tryz.ntmps111
  go_wp2_with fail
  rw [HW.out]
  refine FN.out.mono ?_
  rintro e w' ⟨rfl, rfl⟩
  go_wp2_with fail
  refine EM.out.mono ?_
  rintro e w3 ⟨rfl, F3⟩
  have hA3 := hid (HA.out.fr F3 (fun h => h) (fun h => h) (fun h => h))
  go_wp2_with fail
  refine (victim_at hA3.out).mono ?_
  rintro e w4 ⟨rfl, hA4, F4⟩
  obtain ⟨i, hi⟩ : ∃ i, (spin pl.length pl hand).2 = i := ⟨_, rfl⟩
  obtain ⟨pl2, hpl2⟩ : ∃ pl2, (spin pl.length pl hand).1 = pl2 := ⟨_, rfl⟩
  have hlen2 : pl2.length = pl.length := by rw [← hpl2]; exact spin_len _ _ _
  have hil : i < pl2.length := by rw [hlen2, ← hi]; exact spin_lt _ _ _ HH.out.hand
  have hf2 : find pl2 key = none := by rw [← hpl2, spin_find]; exact HF.out
  have he2 : empty pl2 = none := by rw [← hpl2, spin_empty]; exact HO.out
  obtain ⟨p, hp⟩ : ∃ p, pl2[i]? = some p := ⟨_, List.getElem?_eq_getElem hil⟩
  have hpf := full_of_empty he2 hp
  have hM : putM pl hand key ⟨st, la, ll, lc, di⟩ = ⟨pl2.set i ⟨key, ⟨st, la, ll, lc, di⟩, true, true⟩, (i + 1) % pl.length, some p⟩ := by rw [putM_full HF.out HO.out, hpl2, hi, hp]
  rw [hpl2, hi] at hA4
  rw [hi]
  have f0 := hA4.c0
  have f1 := hA4.c1
  have k0 := hA4.k0 hp
  have k1 := hA4.k1 hp
  have k2 := hA4.k2 hp
  have k3 := hA4.k3 hp
  have l2 := lt_of_heap B01.out.2
  have l3 := F3.size
  have l4 := F4.size
  obtain ⟨d0, d1, d2, dz, dl⟩ := cells3 (F4.heap (F3.heap B01.out.1 (fun h => h)) (by omega))
  have hr1 := F4.heap (F3.heap B01.out.2 (fun h => h)) (by omega)
  obtain ⟨c0, c1, c2, cz, cl⟩ := cells3 hr1
  obtain ⟨l, ck, hm, hR⟩ := hA4.m
  have hr2 := hA4.room
  have HR := hid hR
  have HA4 := hid hA4
  have HM := hid hM
  have HP := hid hp
  have HU := hid hpf
  have HF2 := hid hf2
  have HL := hid hlen2
  have HR1 := hid hr1
  have Hm := hid hm
  clear hR hA4 hM hp hpf hi hpl2 hf2 he2 hlen2 hr1 hm
  go_wp2
  go_region
  obtain ⟨w5, hw5⟩ : ∃ w5, (((w4.setCell ⟨w.heap.size + 1, 0, none⟩ (.int .i64 p.v.stamp)).setCell ⟨w.heap.size + 1, 1, none⟩ (.slice p.v.la p.v.ll p.v.lc)).setCell ⟨w.heap.size + 1, 2, none⟩ (.bool p.v.dirty)).drew = w5 := ⟨_, rfl⟩
  have F45 : Fr (fun b => b = w.heap.size + 1) w4 w5 := by
    rw [← hw5]
    exact (Fr.set3 (S := fun b => b = w.heap.size + 1) (b := w.heap.size + 1) (Fr.refl _ _) rfl _ _ _).drew
  have hr5 : w5.heap[w.heap.size + 1]? = some (.cells #[.int .i64 p.v.stamp, .slice p.v.la p.v.ll p.v.lc, .bool p.v.dirty] 162) := by
    rw [← hw5, heap_drew, heap_setCell_cells _ _ _ _ (heap_setCell_cells _ _ _ _ (heap_setCell_cells _ _ _ _ HR1.out))]
    simp
  rw [hw5]
  have hA5 := HA4.out.fr F45 (by omega) (by omega) (by omega)
  have hm5 := F45.heap Hm.out (by omega)
  have hb05 := F45.heap (F4.heap (F3.heap B01.out.1 (fun h => h)) (by omega)) (by omega)
  clear f0 f1 k0 k1 k2 k3 d0 d1 d2 dz dl c0 c1 c2 cz cl hw5
  have f0 := hA5.c0
  have f1 := hA5.c1
  have hdel := fun (W : World) (hW : W.heap[bm]? = some (.map (ents l) ck)) (t' : TypeId) => run_delete (P := Tryz.prog) (T := 258) Tryz.underlying258 Tryz.underlying3 hW p.key t' #[258, 3] rfl
  have HN := hid hdel
  have HA5 := hid hA5
  have HR5 := hid hr5
  have HB5 := hid hb05
  have Hm5 := hid hm5
  have HF45 := hid F45
  have l5 := F45.size
  clear hdel hA5 hr5 hb05 hm5 F45
  go_wp2
  rw [HN.out w5 Hm5.out 0]
  obtain ⟨w6, hw6⟩ : ∃ w6, w5.putObj bm (.map (ents (del l p.key)) ck) = w6 := ⟨_, rfl⟩
  have F56 : Fr (fun b => b = bm) w5 w6 := by rw [← hw6]; exact (Fr.refl (fun b => b = bm) _).putObj (fun _ => rfl) _
  have hm6 : w6.heap[bm]? = some (.map (ents (del l p.key)) ck) := by rw [← hw6]; exact heap_putObj_same _ _ _ (lt_of_heap Hm5.out)
  have hc6 := F56.heap HA5.out.c n123.2.1
  have hp6 := F56.heap HA5.out.p n123.2.2
  have hr6 := F56.heap HR5.out (by omega)
  have hb6 := F56.heap HB5.out (by omega)
  rw [hw6]
  clear f0 f1 hw6
  obtain ⟨f0, f1, f2, fz, fl⟩ := cells3 hc6
  obtain ⟨d0, d1, d2, dz, dl⟩ := cells3 hb6
  have zp : ∀ o, w6.frozen? ⟨bp, o, none⟩ = false := fun o => frozen_of_heap hp6 o
  have j : ∀ o, o < 6 → w6.cell? ⟨bp, i * 6 + o, none⟩ = p.cells[o]? := fun o ho => by rw [cell_of_heap hp6, cells_get HP.out o ho]
  have k0 : w6.cell? ⟨bp, i * 6, none⟩ = some (.int .i64 p.key) := j 0 (by omega)
  have k1 : w6.cell? ⟨bp, i * 6 + 1, none⟩ = some (.int .i64 p.v.stamp) := j 1 (by omega)
  have k2 : w6.cell? ⟨bp, i * 6 + 2, none⟩ = some (.slice p.v.la p.v.ll p.v.lc) := j 2 (by omega)
  have k3 : w6.cell? ⟨bp, i * 6 + 3, none⟩ = some (.bool p.v.dirty) := j 3 (by omega)
  have k4 : w6.cell? ⟨bp, i * 6 + 4, none⟩ = some (.bool p.full) := j 4 (by omega)
  have k5 : w6.cell? ⟨bp, i * 6 + 5, none⟩ = some (.bool p.marked) := j 5 (by omega)
  have Hm6 := hid hm6
  have HC6 := hid hc6
  have HP6 := hid hp6
  have HR6 := hid hr6
  have HF56 := hid F56
  clear j hm6 hc6 hp6 hr6 hb6 F56
  go_wp2
  go_region
  obtain ⟨w7, hw7⟩ : ∃ w7, ((((((w6.setCell ⟨bp, i * 6, none⟩ (.int .i64 key)).setCell ⟨bp, i * 6 + 1, none⟩ (.int .i64 st)).setCell ⟨bp, i * 6 + 2, none⟩ (.slice la ll lc)).setCell ⟨bp, i * 6 + 3, none⟩ (.bool di)).setCell ⟨bp, i * 6 + 4, none⟩ (.bool true)).setCell ⟨bp, i * 6 + 5, none⟩ (.bool true)).drew = w7 := ⟨_, rfl⟩
  have F67 : Fr (fun b => b = bp) w6 w7 := by
    rw [← hw7]
    exact (((((((Fr.refl (fun b => b = bp) _).setCell (a := ⟨bp, i * 6, none⟩) (fun _ => rfl) _).setCell (a := ⟨bp, i * 6 + 1, none⟩) (fun _ => rfl) _).setCell (a := ⟨bp, i * 6 + 2, none⟩) (fun _ => rfl) _).setCell (a := ⟨bp, i * 6 + 3, none⟩) (fun _ => rfl) _).setCell (a := ⟨bp, i * 6 + 4, none⟩) (fun _ => rfl) _).setCell (a := ⟨bp, i * 6 + 5, none⟩) (fun _ => rfl) _).drew
  have hp7 : w7.heap[bp]? = some (.cells (cellsOf (pl2.set i ⟨key, ⟨st, la, ll, lc, di⟩, true, true⟩)) 264) := by
    have := heap_place HP6.out HP.out ⟨key, ⟨st, la, ll, lc, di⟩, true, true⟩
    rw [← hw7, heap_drew]
    exact this
  rw [hw7]
  have hm7 := F67.heap Hm6.out (fun e => n123.2.2 e.symm)
  have hc7 := F67.heap HC6.out n123.1
  have hr7 := F67.heap HR6.out (by omega)
  clear f0 f1 f2 fz fl k0 k1 k2 k3 k4 k5 zp d0 d1 d2 dz dl hw7
  obtain ⟨f0, f1, f2, fz, fl⟩ := cells3 hc7
  obtain ⟨c0, c1, c2, cz, cl⟩ := cells3 hr7
  have hup := fun (W : World) (hW : W.heap[bm]? = some (.map (ents (del l p.key)) ck)) => run_mapUpdate (P := Tryz.prog) (T := 258) Tryz.underlying258 Tryz.underlying3 hW key (.int .i64 i)
  have HP7 := hid hp7
  have HC7 := hid hc7
  have n2 : w.heap.size + 1 ≠ bm := by omega
  have HF67 := hid F67
  clear hp7 hc7 hr7 F67
  go_wp2
  obtain ⟨w8, hw8⟩ : ∃ w8, w7.putObj bm (.map (ents (put (del l p.key) key (.int .i64 i) ck)) (bump (del l p.key) key ck)) = w8 := ⟨_, rfl⟩
  have F78 : Fr (fun b => b = bm) w7 w8 := by rw [← hw8]; exact (Fr.refl (fun b => b = bm) _).putObj (fun _ => rfl) _
  have hm8 : w8.heap[bm]? = some (.map (ents (put (del l p.key) key (.int .i64 i) ck)) (bump (del l p.key) key ck)) := by rw [← hw8]; exact heap_putObj_same _ _ _ (lt_of_heap hm7)
  rw [hw8]
  have e0 := (F78.cell (p := ⟨w.heap.size + 1, 0, none⟩) cl n2).trans c0
  have e1 := (F78.cell (p := ⟨w.heap.size + 1, 1, none⟩) cl n2).trans c1
  have e2 := (F78.cell (p := ⟨w.heap.size + 1, 2, none⟩) cl n2).trans c2
  have ez : ∀ o, w8.frozen? ⟨w.heap.size + 1, o, none⟩ = false := fun o => (World.frozen?_of_block (F78.block _ cl n2)).trans (cz o)
  have HM8 := hid hm8
  have HF78 := hid F78
  clear hw8 c0 c1 c2 cz f0 f1 f2 fz hup hm8 F78 hm7
  go_region
  go_wp2
  obtain ⟨hnd, hl, hn⟩ := HR.out
  have hfp : find pl2 p.key = some i := (find_iff HA4.out.nd _ _).2 ⟨p, HP.out, HU.out, rfl⟩
  have hlk : Sg.look (del l p.key) key = none := by
    rw [look_del hnd, hl, HF2.out]; split <;> rfl
  have hlp : (Sg.look l p.key).isSome = true := by rw [hl, hfp]; rfl
  have hmod := Nat.mod_lt (i + 1) (show 0 < pl.length by have := HL.out; omega)
  have hAp : AtP w8 bc bp bm (pl2.set i ⟨key, ⟨st, la, ll, lc, di⟩, true, true⟩) ((i + 1) % pl.length) := by
    refine HA4.out.place HP.out _ (fun _ => .inr HF2.out) trivial (by rw [HL.out]; exact hmod) ?_ ?_ HM8.out (nodup_put (nodup_del hnd _) _ _ _) (fun k => ?_) ?_
    · exact HF78.out.heap HC7.out n123.2.1
    · exact HF78.out.heap HP7.out n123.2.2
    · rw [look_put, look_del hnd, hl]
      simp [HU.out]
    · rw [length_put, hlk, length_del, hlp, hn, HU.out]; simp
  have Fa : Fr (fun b => b = bc ∨ b = bp ∨ b = bm) w w8 :=
    ((((((F2.mono (S' := fun b => b = bc ∨ b = bp ∨ b = bm) (fun _ _ h => h.elim)).trans F3 (fun _ _ h => h.elim)).trans F4 (fun _ _ h => h.elim .inl (fun h => .inr (.inl h)))).trans HF45.out (fun b hb h => by omega)).trans HF56.out (fun _ _ h => .inr (.inr h))).trans HF67.out (fun _ _ h => .inr (.inl h))).trans HF78.out (fun _ _ h => .inr (.inr h))
  refine bodyPost_ret (v := .tuple #[.int .i64 p.key, p.v.val, .bool true]) (by simp [results, go_sem, *]) rfl ⟨by rw [HM.out]; rfl, ?_, ?_⟩
  · rw [HM.out]
    refine hAp.fr (S := fun b => b = w.heap.size + 1) ?_ (by omega) (by omega) (by omega)
    exact (Fr.set3 (S := fun b => b = w.heap.size + 1) (b := w.heap.size + 1) (Fr.refl _ _) rfl _ _ _).drew
  · exact Fr.drew (Fr.set3n Fa (by omega) _ _ _)
theorem put_at {w : World} {bc bp bm hand : Nat} {pl : List Pl} (h : AtP w bc bp bm pl hand) (key : Int) (x : Pg) :
    Calls Tryz.prog 111 #[.pointer (some ⟨bc, 0, none⟩), .int .i64 key, x.val] w (PutPost pl hand bc bp bm key x w) := by
  cases hf : find pl key with
  | some i => exact put_there h key x hf
  | none =>
    cases he : empty pl with
    | some i => exact put_free h key x hf he
    | none => exact put_full h key x hf he
end CP
end Go.Proofs.YtgdhaaokolfdoaaGreatDoor

namespace Go.Proofs.YtgdhaaokolfdoaaGreatDoor
namespace CP
open Go.RowKit Go.Sg Go.Sg.Clk Go.Shelf

end CP
end Go.Proofs.YtgdhaaokolfdoaaGreatDoor

namespace Go.Sg.Clk
open Go.RowKit
def memOf (pl : List Pl) (k : Int) : Option Pg := (find pl k).bind fun i => (pl[i]?).map (·.v)
theorem memOf_iff {pl : List Pl} (hn : Nd pl) (k : Int) (v : Pg) : memOf pl k = some v ↔ ∃ (i : Nat) (p : Pl), pl[i]? = some p ∧ p.full = true ∧ p.key = k ∧ p.v = v := by
  constructor
  · intro h
    rw [memOf, Option.bind_eq_some_iff] at h
    obtain ⟨i, hi, hv⟩ := h
    obtain ⟨p, hp, hf, hk⟩ := find_some hi
    rw [hp] at hv
    exact ⟨i, p, hp, hf, hk, by simpa using hv⟩
  · rintro ⟨i, p, hp, hf, hk, rfl⟩
    rw [memOf, (find_iff hn k i).2 ⟨p, hp, hf, hk⟩]
    simp [hp]
theorem memOf_isSome {pl : List Pl} (k : Int) : (memOf pl k).isSome = (find pl k).isSome := by
  rw [memOf]
  cases h : find pl k with
  | none => rfl
  | some i =>
    obtain ⟨p, hp, _⟩ := find_some h
    simp [hp]
theorem memOf_set {pl : List Pl} (hn : Nd pl) {i : Nat} {p : Pl} (hp : pl[i]? = some p) (q : Pl) (h : q.full = true → (p.full = true ∧ q.key = p.key) ∨ find pl q.key = none) (k : Int) :
    memOf (pl.set i q) k = if q.full = true ∧ q.key = k then some q.v else if p.full = true ∧ p.key = k then none else memOf pl k := by
  rw [memOf, find_set hn hp q h]
  split
  · simp [get_set hp]
  · split
    · rfl
    · rename_i h1 h2
      rw [memOf]
      cases hf : find pl k with
      | none => rfl
      | some j =>
        obtain ⟨x, hx, hxf, hxk⟩ := find_some hf
        have : ¬ i = j := by
          rintro rfl
          rw [hp] at hx; cases hx
          exact h2 ⟨hxf, hxk⟩
        simp only [Option.bind_some]
        rw [get_set hp, if_neg this]
theorem memOf_unmark (pl : List Pl) (k : Int) : memOf pl k = memOf (pl.map Pl.unmark) k := by
  rw [memOf, memOf, ← find_unmark]
  congr 1
  funext i
  rw [List.getElem?_map]
  cases pl[i]? <;> rfl
theorem memOf_spin (f : Nat) (pl : List Pl) (h : Nat) (k : Int) : memOf (spin f pl h).1 k = memOf pl k := by
  rw [memOf_unmark, spin_same, ← memOf_unmark]
theorem nd_unmark {a b : List Pl} (h : a.map Pl.unmark = b.map Pl.unmark) (hn : Nd b) : Nd a := by
  intro i j x y hx hy hxf hyf hk
  have ga : ∀ n : Nat, (a[n]?).map Pl.unmark = (b[n]?).map Pl.unmark := fun n => by rw [← List.getElem?_map, ← List.getElem?_map, h]
  have gx := ga i
  have gy := ga j
  rw [hx] at gx
  rw [hy] at gy
  cases hxa : b[i]? with
  | none => rw [hxa] at gx; cases gx
  | some x' =>
    cases hyb : b[j]? with
    | none => rw [hyb] at gy; cases gy
    | some y' =>
      rw [hxa] at gx
      rw [hyb] at gy
      simp only [Option.map_some, Option.some.injEq, Pl.unmark, Pl.mk.injEq] at gx gy
      exact hn i j x' y' hxa hyb (by rw [← gx.2.2.1, hxf]) (by rw [← gy.2.2.1, hyf]) (by rw [← gx.1, ← gy.1, hk])
structure MPut (pl : List Pl) (key : Int) (v : Pg) (M : Put) : Prop where
  at_ : (M.gone = none ∧ ∀ k, memOf M.pl k = if k = key then some v else memOf pl k) ∨
    (∃ g, M.gone = some g ∧ g.key ≠ key ∧ memOf pl g.key = some g.v ∧ memOf pl key = none ∧ pl.countP (·.full) = pl.length ∧ ∀ k, memOf M.pl k = if k = key then some v else if k = g.key then none else memOf pl k)
theorem mem_put {pl : List Pl} {hand : Nat} (hn : Nd pl) (hh : hand < pl.length) (key : Int) (v : Pg) : MPut pl key v (putM pl hand key v) := by
  constructor
  cases hf : find pl key with
  | some i =>
    obtain ⟨p, hp, hfu, hk⟩ := find_some hf
    have e : putM pl hand key v = ⟨pl.set i ⟨key, v, true, true⟩, hand, none⟩ := by simp [putM, hf]
    have hq : (⟨key, v, true, true⟩ : Pl).full = true → (p.full = true ∧ (⟨key, v, true, true⟩ : Pl).key = p.key) ∨ find pl (⟨key, v, true, true⟩ : Pl).key = none := fun _ => .inl ⟨hfu, hk.symm⟩
    refine .inl ⟨by rw [e], fun k => ?_⟩
    rw [e]
    simp only
    rw [memOf_set hn hp _ hq]
    by_cases hkk : k = key
    · subst hkk; simp
    · have h1 : ¬ key = k := fun x => hkk x.symm
      have h2 : ¬ p.key = k := by rw [hk]; exact h1
      simp [h1, h2, hkk]
  | none =>
    cases he : empty pl with
    | some i =>
      obtain ⟨p, hp, hfu⟩ : ∃ p, pl[i]? = some p ∧ p.full = false := by
        rw [empty, List.findIdx?_eq_some_iff_getElem] at he
        obtain ⟨hi, h1, _⟩ := he
        exact ⟨pl[i], by simp, by simpa using h1⟩
      have e : putM pl hand key v = ⟨pl.set i ⟨key, v, true, true⟩, hand, none⟩ := by simp [putM, hf, he]
      have hq : (⟨key, v, true, true⟩ : Pl).full = true → (p.full = true ∧ (⟨key, v, true, true⟩ : Pl).key = p.key) ∨ find pl (⟨key, v, true, true⟩ : Pl).key = none := fun _ => .inr hf
      refine .inl ⟨by rw [e], fun k => ?_⟩
      rw [e]
      simp only
      rw [memOf_set hn hp _ hq]
      by_cases hkk : k = key
      · subst hkk; simp
      · have h1 : ¬ key = k := fun x => hkk x.symm
        simp [h1, hfu, hkk]
    | none =>
      have e := putM_full (hand := hand) (v := v) hf he
      have hl := spin_len pl.length pl hand
      have hi := spin_lt pl.length pl hand hh
      have hf2 := spin_find pl.length pl hand key
      have he2 := spin_empty pl.length pl hand
      rw [hf] at hf2
      rw [he] at he2
      have hn2 : Nd (spin pl.length pl hand).1 := nd_unmark (spin_same _ _ _) hn
      have hm2 := memOf_spin pl.length pl hand
      generalize spin pl.length pl hand = s at *
      obtain ⟨p, hp⟩ : ∃ p, s.1[s.2]? = some p := ⟨_, List.getElem?_eq_getElem (by omega)⟩
      have hfu := full_of_empty he2 hp
      have hq : (⟨key, v, true, true⟩ : Pl).full = true → (p.full = true ∧ (⟨key, v, true, true⟩ : Pl).key = p.key) ∨ find s.1 (⟨key, v, true, true⟩ : Pl).key = none := fun _ => .inr hf2
      have hne := find_none hf2 hp hfu
      refine .inr ⟨p, by rw [e]; exact hp, hne, ?_, ?_, full_count he, fun k => ?_⟩
      · rw [← hm2, memOf_iff hn2]
        exact ⟨s.2, p, hp, hfu, rfl, rfl⟩
      · rw [memOf, hf]; rfl
      · rw [e]
        simp only
        rw [memOf_set hn2 hp _ hq, hm2]
        by_cases hkk : k = key
        · subst hkk; simp
        · have h1 : ¬ key = k := fun x => hkk x.symm
          by_cases hg : k = p.key
          · subst hg; simp [h1, hfu, hkk]
          · have h2 : ¬ p.key = k := fun x => hg x.symm
            simp [h1, h2, hkk, hg]
theorem count_cover {pl : List Pl} (hn : Nd pl) (L : List Int) (h : ∀ k, (memOf pl k).isSome = true → k ∈ L) : pl.countP (·.full) ≤ L.length := by
  rw [List.countP_eq_length_filter]
  have h1 : ((pl.filter (·.full)).map (·.key)).Nodup := by
    rw [List.Nodup, List.pairwise_map]
    have : (pl.filter (·.full)).Pairwise (fun a b => a.key ≠ b.key) := by
      rw [List.pairwise_filter]
      rw [List.pairwise_iff_getElem]
      intro i j hi hj hij hfi hfj hk
      have := hn i j pl[i] pl[j] (List.getElem?_eq_getElem hi) (List.getElem?_eq_getElem hj) hfi hfj hk
      omega
    exact this
  have h2 := List.Nodup.length_le_of_subset h1 (l₂ := L) (by
    intro k hk
    obtain ⟨p, hp, rfl⟩ := List.mem_map.1 hk
    rw [List.mem_filter] at hp
    obtain ⟨hp, hf⟩ := hp
    obtain ⟨i, hi, rfl⟩ := List.getElem_of_mem hp
    refine h _ ?_
    rw [(memOf_iff hn _ _).2 ⟨i, pl[i], List.getElem?_eq_getElem hi, hf, rfl, rfl⟩]
    rfl)
  simpa using h2
def updM (m : Int → Option Pg) (k : Int) (v : Option Pg) : Int → Option Pg := fun j => if j = k then v else m j
theorem memOf_mark {pl : List Pl} (hn : Nd pl) {i : Nat} {p : Pl} (hp : pl[i]? = some p) (b : Bool) (k : Int) : memOf (pl.set i { p with marked := b }) k = memOf pl k := by
  rw [memOf_set hn hp { p with marked := b } (fun a => .inl ⟨a, rfl⟩)]
  by_cases h : p.full = true ∧ p.key = k
  · rw [if_pos h, (memOf_iff hn _ _).2 ⟨i, p, hp, h.1, h.2, rfl⟩]
  · rw [if_neg h, if_neg h]
theorem memOf_replicate (n : Nat) (z : Pg) (k : Int) : memOf (List.replicate n (Pl.none z)) k = none := by
  have : find (List.replicate n (Pl.none z)) k = none := by
    rw [find, List.findIdx?_eq_none_iff]
    intro p hp
    rw [List.eq_of_mem_replicate hp]; rfl
  rw [memOf, this]; rfl
end Go.Sg.Clk

namespace Go.Proofs.YtgdhaaokolfdoaaGreatDoor
namespace CP
open Go.RowKit Go.Sg Go.Sg.Clk
structure MemAt (w : World) (bc bp bm n : Nat) (m : Int → Option Pg) : Prop where
  ex : ∃ pl hand, AtP w bc bp bm pl hand ∧ pl.length = n ∧ ∀ k, memOf pl k = m k
theorem MemAt.fr {S : Nat → Prop} {w w' : World} {bc bp bm n : Nat} {m : Int → Option Pg} (h : MemAt w bc bp bm n m) (F : Fr S w w') (h1 : ¬ S bc) (h2 : ¬ S bp) (h3 : ¬ S bm) : MemAt w' bc bp bm n m := by
  obtain ⟨pl, hand, hA, hl, hm⟩ := h.ex
  exact ⟨pl, hand, hA.fr F h1 h2 h3, hl, hm⟩
theorem MemAt.lts {w : World} {bc bp bm n : Nat} {m : Int → Option Pg} (h : MemAt w bc bp bm n m) : bc < w.heap.size ∧ bp < w.heap.size ∧ bm < w.heap.size := by
  obtain ⟨pl, hand, hA, hl, hm⟩ := h.ex
  exact AtP_lts hA
theorem MemAt.heaps {w : World} {bc bp bm n : Nat} {m : Int → Option Pg} (h : MemAt w bc bp bm n m) : (∃ c, w.heap[bc]? = some (.cells c 260)) ∧ (∃ c, w.heap[bp]? = some (.cells c 264)) ∧ ∃ l ck, w.heap[bm]? = some (.map (ents l) ck) := by
  obtain ⟨pl, hand, hA, hl, hm⟩ := h.ex
  obtain ⟨l, ck, hm, _⟩ := hA.m
  exact ⟨⟨_, hA.c⟩, ⟨_, hA.p⟩, l, ck, hm⟩
def Cover (m : Int → Option Pg) (L : List Int) : Prop := ∀ k, (m k).isSome = true → k ∈ L

theorem memOf_markM {pl : List Pl} (hn : Nd pl) (key k : Int) : memOf (markM pl key) k = memOf pl k := by
  cases hf : find pl key with
  | none => simp [markM, hf]
  | some i =>
    obtain ⟨p, hp, _⟩ := find_some hf
    have e1 : markM pl key = pl.set i { p with marked := true } := by simp only [markM, hf]; exact modify_eq hp _
    rw [e1]; exact memOf_mark hn hp true k
theorem lookM_eq (pl : List Pl) (key : Int) : lookM pl key = (memOf pl key).getD Pg.zero := rfl
theorem newmem_ok (n : Nat) (h1 : 1 ≤ n) (h2 : n ≤ 4096) (w : World) :
    Calls Tryz.prog 96 #[.int .i64 n] w fun e w' => e = .returned (.pointer (some ⟨w.heap.size + 2, 0, none⟩)) ∧ MemAt w' (w.heap.size + 2) w.heap.size (w.heap.size + 1) n (fun _ => none) ∧ Fr (fun _ => False) w w' :=
  (new_ok n h1 h2 w).mono fun e w' ⟨he, hA, hF⟩ => ⟨he, ⟨⟨_, _, hA, by simp, fun k => memOf_replicate _ _ _⟩⟩, hF⟩
theorem getmem_at {w : World} {bc bp bm n : Nat} {m : Int → Option Pg} (h : MemAt w bc bp bm n m) (key : Int) :
    Calls Tryz.prog 86 #[.pointer (some ⟨bc, 0, none⟩), .int .i64 key] w fun e w' => e = .returned (.tuple #[((m key).getD Pg.zero).val, .bool (m key).isSome]) ∧ MemAt w' bc bp bm n m ∧ Fr (fun b => b = bp) w w' := by
  obtain ⟨pl, hand, hA, hl, hm⟩ := h.ex
  refine (get_at hA key).mono fun e w' ⟨he, hA', hF⟩ => ⟨?_, ⟨⟨_, _, hA', ?_, fun k => ?_⟩⟩, hF⟩
  · rw [he, lookM_eq, ← memOf_isSome, hm]
  · rw [← hl]
    cases hf : find pl key with
    | none => simp [markM, hf]
    | some i => simp [markM, hf]
  · rw [memOf_markM hA.nd, hm]
def GoneOk (m : Int → Option Pg) (n : Nat) (key : Int) : Option (Int × Pg) → Prop
  | none => True
  | some g => g.1 ≠ key ∧ m g.1 = some g.2 ∧ m key = none ∧ ∀ L, Cover m L → n ≤ L.length
def putF (m : Int → Option Pg) (key : Int) (x : Pg) (g : Option (Int × Pg)) : Int → Option Pg := fun k => if k = key then some x else if g.map (·.1) = some k then none else m k
def gK (g : Option (Int × Pg)) : Int := (g.map (·.1)).getD 0
def gV (g : Option (Int × Pg)) : Pg := (g.map (·.2)).getD Pg.zero
def PutMem (m : Int → Option Pg) (bc bp bm n : Nat) (key : Int) (x : Pg) (w : World) (e : Ending) (w' : World) : Prop :=
  ∃ g, GoneOk m n key g ∧ e = .returned (.tuple #[.int .i64 (gK g), (gV g).val, .bool g.isSome]) ∧ MemAt w' bc bp bm n (putF m key x g) ∧ Fr (fun b => b = bc ∨ b = bp ∨ b = bm) w w'
theorem putmem_at {w : World} {bc bp bm n : Nat} {m : Int → Option Pg} (h : MemAt w bc bp bm n m) (key : Int) (x : Pg) :
    Calls Tryz.prog 111 #[.pointer (some ⟨bc, 0, none⟩), .int .i64 key, x.val] w (PutMem m bc bp bm n key x w) := by
  obtain ⟨pl, hand, hA, hl, hm⟩ := h.ex
  have hc : ∀ L, Cover m L → pl.countP (·.full) ≤ L.length := fun L hL => count_cover hA.nd L fun k hk => hL k (by rw [← hm]; exact hk)
  have hlen := (did hA.nd hA.hand key x).len
  refine (put_at hA key x).mono fun e w' ⟨he, hA', hF⟩ => ?_
  rcases (mem_put hA.nd hA.hand key x).at_ with ⟨hg, hmm⟩ | ⟨g, hg, hne, hgm, hkm, hcnt, hmm⟩
  · refine ⟨none, trivial, ?_, ⟨⟨_, _, hA', by rw [hlen, hl], fun k => ?_⟩⟩, hF⟩
    · rw [he, hg]; rfl
    · rw [hmm, putF, hm]; simp
  · refine ⟨some (g.key, g.v), ⟨hne, by rw [← hm]; exact hgm, by rw [← hm]; exact hkm, fun L hL => ?_⟩, ?_, ⟨⟨_, _, hA', by rw [hlen, hl], fun k => ?_⟩⟩, hF⟩
    · rw [← hl, ← hcnt]; exact hc L hL
    · rw [he, hg]; rfl
    · rw [hmm, putF, hm]
      by_cases h1 : k = key
      · simp [h1]
      · by_cases h2 : k = g.key
        · simp [h1, h2]
        · have h3 : ¬ g.key = k := fun x => h2 x.symm
          simp [h1, h2, h3]
end CP
end Go.Proofs.YtgdhaaokolfdoaaGreatDoor
