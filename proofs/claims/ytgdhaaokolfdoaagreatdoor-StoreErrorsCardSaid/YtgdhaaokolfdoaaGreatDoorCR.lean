/- The clock of pages: what Put computes. Conditions: the clock lies in the world as AtP says. -/
import Derived.Test.YtgdhaaokolfdoaaGreatDoorCQ
import Derived.Test.YtgdhaaokolfdoaaGreatDoorPut
namespace Go.Sg
theorem Fr.set3 {S : Nat → Prop} {w w1 : World} (h : Fr S w w1) {b : Nat} (hb : S b) (x y z : Value) : Fr S w (((w1.setCell ⟨b, 0, none⟩ x).setCell ⟨b, 1, none⟩ y).setCell ⟨b, 2, none⟩ z) :=
  ((h.setCell (a := ⟨b, 0, none⟩) (fun _ => hb) x).setCell (a := ⟨b, 1, none⟩) (fun _ => hb) y).setCell (a := ⟨b, 2, none⟩) (fun _ => hb) z
theorem Fr.set3n {S : Nat → Prop} {w w1 : World} (h : Fr S w w1) {b : Nat} (hb : w.heap.size ≤ b) (x y z : Value) : Fr S w (((w1.setCell ⟨b, 0, none⟩ x).setCell ⟨b, 1, none⟩ y).setCell ⟨b, 2, none⟩ z) :=
  ((h.setNew hb x).setNew hb y).setNew hb z
end Go.Sg
namespace Go.Proofs.YtgdhaaokolfdoaaGreatDoor
namespace CP
open Go.RowKit Go.Sg Go.Sg.Clk Go.Shelf
def goneK (g : Option Pl) : Int := (g.map (·.key)).getD 0
def goneV (g : Option Pl) : Pg := (g.map (·.v)).getD Pg.zero
def PutPost (pl : List Pl) (hand bc bp bm : Nat) (key : Int) (x : Pg) (w : World) (e : Ending) (w' : World) : Prop :=
  e = .returned (.tuple #[.int .i64 (goneK (putM pl hand key x).gone), (goneV (putM pl hand key x).gone).val, .bool (putM pl hand key x).gone.isSome]) ∧
  AtP w' bc bp bm (putM pl hand key x).pl (putM pl hand key x).hand ∧ Fr (fun b => b = bc ∨ b = bp ∨ b = bm) w w'

set_option maxHeartbeats 2000000 in
theorem put_there {w : World} {bc bp bm hand : Nat} {pl : List Pl} (h : AtP w bc bp bm pl hand) (key : Int) (x : Pg) {i : Nat} (hf : find pl key = some i) :
    Calls Tryz.prog 111 #[.pointer (some ⟨bc, 0, none⟩), .int .i64 key, x.val] w (PutPost pl hand bc bp bm key x w) := by
  obtain ⟨st, la, ll, lc, di⟩ := x
  have hlt := AtP_lts h
  obtain ⟨w2, hw2⟩ : ∃ w2, (w.alloc (.cells #[.int .i64 st, .slice la ll lc, .bool di] 162)).alloc (.cells #[.int .i64 0, .slice none 0 0, .bool false] 162) = w2 := ⟨_, rfl⟩
  obtain ⟨b0, b1, F2⟩ := heap_two hw2
  have hA := h.fr F2 (fun h => h) (fun h => h) (fun h => h)
  obtain ⟨p, hp, hful, hkey⟩ := find_some hf
  have k1 := hA.k1 hp
  have k2 := hA.k2 hp
  have k3 := hA.k3 hp
  have k5 := hA.k5 hp
  have zp := hA.zp
  obtain ⟨d0, d1, d2, dz, dl⟩ := cells3 b0
  obtain ⟨c0, c1, c2, cz, cl⟩ := cells3 b1
  have g1 := hA.set hp 1 (by omega) (.int .i64 st) ⟨p.key, { p.v with stamp := st }, p.full, p.marked⟩ rfl rfl rfl trivial
  have at_ : ∀ r : Pl, (pl.set i r)[i]? = some r := fun r => by rw [get_set hp, if_pos rfl]
  have g2 := g1.set (at_ _) 2 (by omega) (.slice la ll lc) ⟨p.key, ⟨st, la, ll, lc, p.v.dirty⟩, p.full, p.marked⟩ rfl rfl rfl trivial
  rw [List.set_set] at g2
  have g3 := g2.set (at_ _) 3 (by omega) (.bool di) ⟨p.key, ⟨st, la, ll, lc, di⟩, p.full, p.marked⟩ rfl rfl rfl trivial
  rw [List.set_set] at g3
  have g5 := g3.set (at_ _) 5 (by omega) (.bool true) ⟨p.key, ⟨st, la, ll, lc, di⟩, p.full, true⟩ rfl rfl rfl trivial
  rw [List.set_set, hful, hkey] at g5
  have HE : Hid (putM pl hand key ⟨st, la, ll, lc, di⟩ = ⟨pl.set i ⟨key, ⟨st, la, ll, lc, di⟩, true, true⟩, hand, none⟩) := hid (by simp [putM, hf])
  have G5 := hid g5
  have FN := hid (find_at hA key)
  rw [hf] at FN
  have HW := hid hw2
  have n1 : w.heap.size ≠ bp := by omega
  have n2 : w.heap.size + 1 ≠ bp := by omega
  clear hf hp hful hkey at_ g1 g2 g3 g5 hA h hw2 b0 b1
  go_enter Tryz.func111, Tryz.ntmps111
  go_wp2_with fail
  rw [HW.out]
  refine FN.out.mono ?_
  rintro e w' ⟨rfl, rfl⟩
  go_wp2
  go_region
  go_wp2
  refine bodyPost_ret (v := .tuple #[.int .i64 0, Pg.zero.val, .bool false]) (by simp [results, go_sem, Pg.zero, *]) rfl ⟨by rw [HE.out]; rfl, ?_, ?_⟩
  · rw [HE.out]
    refine At.fr (S := fun b => b = w.heap.size + 1) G5.out ?_ (by omega) (by omega) (by omega)
    exact (Fr.set3 (S := fun b => b = w.heap.size + 1) (b := w.heap.size + 1) (Fr.refl _ _) rfl _ _ _).drew
  · refine Fr.drew (Fr.set3n ?_ (by omega) _ _ _)
    exact ((((F2.mono (fun _ _ h => h.elim)).setCell (a := ⟨bp, i * 6 + 1, none⟩) (fun _ => .inr (.inl rfl)) _).setCell (a := ⟨bp, i * 6 + 2, none⟩) (fun _ => .inr (.inl rfl)) _).setCell (a := ⟨bp, i * 6 + 3, none⟩) (fun _ => .inr (.inl rfl)) _).setCell (a := ⟨bp, i * 6 + 5, none⟩) (fun _ => .inr (.inl rfl)) _

set_option maxHeartbeats 4000000 in
theorem put_free {w : World} {bc bp bm hand : Nat} {pl : List Pl} (h : AtP w bc bp bm pl hand) (key : Int) (x : Pg) {i : Nat} (hf : find pl key = none) (he : empty pl = some i) :
    Calls Tryz.prog 111 #[.pointer (some ⟨bc, 0, none⟩), .int .i64 key, x.val] w (PutPost pl hand bc bp bm key x w) := by
  obtain ⟨st, la, ll, lc, di⟩ := x
  have hlt := AtP_lts h
  have n123 := h.ne
  obtain ⟨w2, hw2⟩ : ∃ w2, (w.alloc (.cells #[.int .i64 st, .slice la ll lc, .bool di] 162)).alloc (.cells #[.int .i64 0, .slice none 0 0, .bool false] 162) = w2 := ⟨_, rfl⟩
  obtain ⟨b0, b1, F2⟩ := heap_two hw2
  have hA := h.fr F2 (fun h => h) (fun h => h) (fun h => h)
  have hHE : putM pl hand key ⟨st, la, ll, lc, di⟩ = ⟨pl.set i ⟨key, ⟨st, la, ll, lc, di⟩, true, true⟩, hand, none⟩ := by simp [putM, hf, he]
  have HE := hid hHE
  have FN := hid (find_at hA key)
  rw [hf] at FN
  have EM := hid (empty_at hA)
  rw [emptyI_some he] at EM
  have HA := hid hA
  have HF := hid hf
  have HO := hid he
  have HW := hid hw2
  have B01 := hid (And.intro b0 b1)
  have hi : i < pl.length := by
    rw [empty, List.findIdx?_eq_some_iff_getElem] at he
    exact he.1
  clear hf he h hA hw2 b0 b1 hHE
  go_enter Tryz.func111, Tryz.ntmps111
  go_wp2_with fail
  rw [HW.out]
  refine FN.out.mono ?_
  rintro e w' ⟨rfl, rfl⟩
  go_wp2_with fail
  refine EM.out.mono ?_
  rintro e w3 ⟨rfl, F3⟩
  have hA3 := HA.out.fr F3 (fun h => h) (fun h => h) (fun h => h)
  have l3 := F3.size
  have l2 := lt_of_heap B01.out.2
  obtain ⟨p, hp⟩ : ∃ p, pl[i]? = some p := ⟨_, List.getElem?_eq_getElem hi⟩
  have f0 := hA3.c0
  have f1 := hA3.c1
  have k0 := hA3.k0 hp
  have k1 := hA3.k1 hp
  have k2 := hA3.k2 hp
  have k3 := hA3.k3 hp
  have k4 := hA3.k4 hp
  have k5 := hA3.k5 hp
  have zp := hA3.zp
  have hr := hA3.room
  obtain ⟨d0, d1, d2, dz, dl⟩ := cells3 (F3.heap B01.out.1 (fun h => h))
  obtain ⟨c0, c1, c2, cz, cl⟩ := cells3 (F3.heap B01.out.2 (fun h => h))
  obtain ⟨l, ck, hm, hR⟩ := hA3.m
  have HA3 := hid hA3
  have HP := hid hp
  have HR := hid hR
  clear hA3 hp hR
  go_wp2
  go_region
  obtain ⟨w4, hw4⟩ : ∃ w4, ((((((w3.setCell ⟨bp, i * 6, none⟩ (.int .i64 key)).setCell ⟨bp, i * 6 + 1, none⟩ (.int .i64 st)).setCell ⟨bp, i * 6 + 2, none⟩ (.slice la ll lc)).setCell ⟨bp, i * 6 + 3, none⟩ (.bool di)).setCell ⟨bp, i * 6 + 4, none⟩ (.bool true)).setCell ⟨bp, i * 6 + 5, none⟩ (.bool true)).drew = w4 := ⟨_, rfl⟩
  have F34 : Fr (fun b => b = bp) w3 w4 := by
    rw [← hw4]
    exact (((((((Fr.refl (fun b => b = bp) _).setCell (a := ⟨bp, i * 6, none⟩) (fun _ => rfl) _).setCell (a := ⟨bp, i * 6 + 1, none⟩) (fun _ => rfl) _).setCell (a := ⟨bp, i * 6 + 2, none⟩) (fun _ => rfl) _).setCell (a := ⟨bp, i * 6 + 3, none⟩) (fun _ => rfl) _).setCell (a := ⟨bp, i * 6 + 4, none⟩) (fun _ => rfl) _).setCell (a := ⟨bp, i * 6 + 5, none⟩) (fun _ => rfl) _).drew
  have hp4 : w4.heap[bp]? = some (.cells (cellsOf (pl.set i ⟨key, ⟨st, la, ll, lc, di⟩, true, true⟩)) 264) := by
    have := heap_place HA3.out.p HP.out ⟨key, ⟨st, la, ll, lc, di⟩, true, true⟩
    rw [← hw4, heap_drew]
    exact this
  rw [hw4]
  have hm4 := F34.heap hm (fun e => n123.2.2 e.symm)
  have hc4 := F34.heap HA3.out.c n123.1
  have hb04 := F34.heap (F3.heap B01.out.1 (fun h => h)) (by omega)
  have hb14 := F34.heap (F3.heap B01.out.2 (fun h => h)) (by omega)
  clear f0 f1 k0 k1 k2 k3 k4 k5 zp d0 d1 d2 dz dl c0 c1 c2 cz cl hw4 hm
  obtain ⟨f0, f1, f2, fz, fl⟩ := cells3 hc4
  obtain ⟨c0, c1, c2, cz, cl⟩ := cells3 hb14
  have hup := fun (W : World) (hW : W.heap[bm]? = some (.map (ents l) ck)) => run_mapUpdate (P := Tryz.prog) (T := 258) Tryz.underlying258 Tryz.underlying3 hW key (.int .i64 i)
  have HP4 := hid hp4
  have HC4 := hid hc4
  have n1 : bm ≠ w.heap.size + 1 := by omega
  have n2 : w.heap.size + 1 ≠ bm := by omega
  clear hp4 hc4 hb04 hb14
  go_wp2
  obtain ⟨w5, hw5⟩ : ∃ w5, w4.putObj bm (.map (ents (put l key (.int .i64 i) ck)) (bump l key ck)) = w5 := ⟨_, rfl⟩
  have F45 : Fr (fun b => b = bm) w4 w5 := by rw [← hw5]; exact (Fr.refl (fun b => b = bm) _).putObj (fun _ => rfl) _
  have hm5 : w5.heap[bm]? = some (.map (ents (put l key (.int .i64 i) ck)) (bump l key ck)) := by rw [← hw5]; exact heap_putObj_same _ _ _ (lt_of_heap hm4)
  rw [hw5]
  have e0 := (F45.cell (p := ⟨w.heap.size + 1, 0, none⟩) cl n2).trans c0
  have e1 := (F45.cell (p := ⟨w.heap.size + 1, 1, none⟩) cl n2).trans c1
  have e2 := (F45.cell (p := ⟨w.heap.size + 1, 2, none⟩) cl n2).trans c2
  have ez : ∀ o, w5.frozen? ⟨w.heap.size + 1, o, none⟩ = false := fun o => (World.frozen?_of_block (F45.block _ cl n2)).trans (cz o)
  have HM5 := hid hm5
  have HF45 := hid F45
  clear hw5 c0 c1 c2 cz f0 f1 f2 fz hup hm5 F45 hm4
  go_region
  go_wp2
  obtain ⟨hnd, hl, hn⟩ := HR.out
  have hlk : Sg.look l key = none := by rw [hl, HF.out]; rfl
  have hpf : p.full = false := by
    have := HO.out
    rw [empty, List.findIdx?_eq_some_iff_getElem] at this
    obtain ⟨hi', h1, _⟩ := this
    have e := HP.out
    rw [List.getElem?_eq_getElem hi'] at e
    cases e
    simpa using h1
  have hAp : AtP w5 bc bp bm (pl.set i ⟨key, ⟨st, la, ll, lc, di⟩, true, true⟩) hand := by
    refine HA3.out.place HP.out _ (fun _ => .inr HF.out) trivial HA3.out.hand ?_ ?_ HM5.out (nodup_put hnd _ _ _) (fun k => ?_) ?_
    · exact HF45.out.heap HC4.out n123.2.1
    · exact HF45.out.heap HP4.out n123.2.2
    · rw [look_put, hl]
      simp [hpf]
    · rw [length_put, hlk, hn, hpf]; simp
  refine bodyPost_ret (v := .tuple #[.int .i64 0, Pg.zero.val, .bool false]) (by simp [results, go_sem, Pg.zero, *]) rfl ⟨by rw [HE.out]; rfl, ?_, ?_⟩
  · rw [HE.out]
    refine hAp.fr (S := fun b => b = w.heap.size + 1) ?_ (by omega) (by omega) (by omega)
    exact (Fr.set3 (S := fun b => b = w.heap.size + 1) (b := w.heap.size + 1) (Fr.refl _ _) rfl _ _ _).drew
  · refine Fr.drew (Fr.set3n ?_ (by omega) _ _ _)
    exact (((F2.mono (S' := fun b => b = bc ∨ b = bp ∨ b = bm) (fun _ _ h => h.elim)).trans F3 (fun _ _ h => h.elim)).trans F34 (fun _ _ h => .inr (.inl h))).trans HF45.out (fun _ _ h => .inr (.inr h))
end CP
end Go.Proofs.YtgdhaaokolfdoaaGreatDoor
