/- The clock of pages: what Drop computes. Conditions: the clock lies in the world as AtP says. -/
import Derived.Test.YtgdhaaokolfdoaaGreatDoorCS
namespace Go.Proofs.YtgdhaaokolfdoaaGreatDoor
namespace CP
open Go.RowKit Go.Sg Go.Sg.Clk Go.Shelf
def dropM (pl : List Pl) (key : Int) : List Pl := match find pl key with
  | some i => pl.set i (Pl.none Pg.zero)
  | none => pl
def DropPost (pl : List Pl) (hand bc bp bm : Nat) (key : Int) (w : World) (e : Ending) (w' : World) : Prop :=
  e = .returned (.tuple #[(lookM pl key).val, .bool (find pl key).isSome]) ∧ AtP w' bc bp bm (dropM pl key) hand ∧ Fr (fun b => b = bp ∨ b = bm) w w'
set_option maxHeartbeats 2000000 in
set_option maxRecDepth 100000 in
theorem drop_none {w : World} {bc bp bm hand : Nat} {pl : List Pl} (h : AtP w bc bp bm pl hand) (key : Int) (hf : find pl key = none) :
    Calls Tryz.prog 108 #[.pointer (some ⟨bc, 0, none⟩), .int .i64 key] w (DropPost pl hand bc bp bm key w) := by
  have hlt := AtP_lts h
  obtain ⟨w1, hw1⟩ : ∃ w1, w.alloc (.cells #[.int .i64 0, .slice none 0 0, .bool false] 162) = w1 := ⟨_, rfl⟩
  have b1 : w1.heap[w.heap.size]? = some (.cells #[.int .i64 0, .slice none 0 0, .bool false] 162) := by rw [← hw1]; exact heap_alloc_new _ _
  have F1 : Fr (fun _ => False) w w1 := by rw [← hw1]; exact (Fr.refl _ _).alloc _
  have hA1 := hid (h.fr F1 (fun h => h) (fun h => h) (fun h => h))
  have e1 : dropM pl key = pl := by simp [dropM, hf]
  have e2 : lookM pl key = Pg.zero := by simp [lookM, hf]
  have HF := hid hf
  have E := hid (And.intro e1 e2)
  have HW := hid hw1
  have B1 := hid b1
  clear h hf e1 e2 hw1 b1
  go_enter Tryz.func108, Tryz.ntmps108
  go_wp2_with fail
  rw [HW.out]
  refine (look_at hA1.out key).mono ?_
  rintro e w2 ⟨rfl, F2⟩
  rw [HF.out, E.out.2]
  obtain ⟨c0, c1, c2, z, l⟩ := cells3 (F2.heap B1.out (fun h => h))
  simp only [Pg.val, Pg.zero]
  go_wp2
  refine bodyPost_ret (v := .tuple #[Pg.zero.val, .bool false]) (by simp [results, go_sem, Pg.zero, *]) rfl ⟨by rw [HF.out, E.out.2]; rfl, ?_, ?_⟩
  · rw [E.out.1]
    refine (hA1.out.fr F2 (fun h => h) (fun h => h) (fun h => h)).fr (S := fun b => b = w.heap.size) ?_ (by omega) (by omega) (by omega)
    exact (Fr.set3 (S := fun b => b = w.heap.size) (b := w.heap.size) (Fr.refl _ _) rfl _ _ _).alloc _
  · exact (Fr.set3n ((F1.trans F2 (fun _ _ h => h)).mono (fun _ _ h => h.elim)) (Nat.le_refl _) _ _ _).alloc _

set_option maxHeartbeats 4000000 in
set_option maxRecDepth 100000 in
theorem drop_some {w : World} {bc bp bm hand : Nat} {pl : List Pl} (h : AtP w bc bp bm pl hand) (key : Int) {i : Nat} (hf : find pl key = some i) :
    Calls Tryz.prog 108 #[.pointer (some ⟨bc, 0, none⟩), .int .i64 key] w (DropPost pl hand bc bp bm key w) := by
  have hlt := AtP_lts h
  have n123 := h.ne
  obtain ⟨w1, hw1⟩ : ∃ w1, w.alloc (.cells #[.int .i64 0, .slice none 0 0, .bool false] 162) = w1 := ⟨_, rfl⟩
  have b1 : w1.heap[w.heap.size]? = some (.cells #[.int .i64 0, .slice none 0 0, .bool false] 162) := by rw [← hw1]; exact heap_alloc_new _ _
  have F1 : Fr (fun _ => False) w w1 := by rw [← hw1]; exact (Fr.refl _ _).alloc _
  have hA1 := hid (h.fr F1 (fun h => h) (fun h => h) (fun h => h))
  obtain ⟨p, hp, hful, hkey⟩ := find_some hf
  have hi : i < pl.length := (List.getElem?_eq_some_iff.1 hp).1
  have e1 : dropM pl key = pl.set i (Pl.none Pg.zero) := by simp [dropM, hf]
  have e2 : lookM pl key = p.v := by simp [lookM, hf, hp]
  have HF := hid hf
  have E := hid (And.intro e1 e2)
  have HW := hid hw1
  have B1 := hid b1
  have HP := hid hp
  have HU := hid (And.intro hful hkey)
  have l1 := lt_of_heap b1
  clear h hf e1 e2 hw1 b1 hp hful hkey
  go_enter Tryz.func108, Tryz.ntmps108
  go_wp2_with fail
  rw [HW.out]
  refine (look_at hA1.out key).mono ?_
  rintro e w2 ⟨rfl, F2⟩
  rw [HF.out, E.out.2]
  have hA2 := hA1.out.fr F2 (fun h => h) (fun h => h) (fun h => h)
  have hb2 := F2.heap B1.out (fun h => h)
  obtain ⟨w3, hw3⟩ : ∃ w3, w2.alloc (.cells #[.int .i64 p.v.stamp, .slice p.v.la p.v.ll p.v.lc, .bool p.v.dirty] 162) = w3 := ⟨_, rfl⟩
  have F3 : Fr (fun _ => False) w2 w3 := by rw [← hw3]; exact (Fr.refl _ _).alloc _
  have hv3 : w3.heap[w2.heap.size]? = some (.cells #[.int .i64 p.v.stamp, .slice p.v.la p.v.ll p.v.lc, .bool p.v.dirty] 162) := by rw [← hw3]; exact heap_alloc_new _ _
  have hA3 := hA2.fr F3 (fun h => h) (fun h => h) (fun h => h)
  have hb3 := F3.heap hb2 (fun h => h)
  have f0 := hA3.c0
  have f1 := hA3.c1
  have k0 := hA3.k0 HP.out
  have k1 := hA3.k1 HP.out
  have k2 := hA3.k2 HP.out
  have k3 := hA3.k3 HP.out
  have k4 := hA3.k4 HP.out
  have k5 := hA3.k5 HP.out
  have zp := hA3.zp
  have hr := hA3.room
  have l2 := F2.size
  obtain ⟨l, ck, hm, hR⟩ := hA3.m
  have hlk : Sg.look l key = some (.int .i64 i) := by rw [hR.2.1, HF.out]; rfl
  have hl2 := fun (W : World) (hW : W.heap[bm]? = some (.map (ents l) ck)) => run_lookup (P := Tryz.prog) (T := 258) false Tryz.underlying258 Tryz.underlying3 Tryz.zero3 hW key
  have hdel := fun (W : World) (hW : W.heap[bm]? = some (.map (ents l) ck)) => run_delete (P := Tryz.prog) (T := 258) Tryz.underlying258 Tryz.underlying3 hW key 0 #[258, 3] rfl
  rw [hlk] at hl2
  simp only [Option.getD_some, Bool.false_eq_true, if_false] at hl2
  have HW3 := hid hw3
  have HA3 := hid hA3
  have HR := hid hR
  have HK := hid hlk
  have HV3 := hid hv3
  have HB3 := hid hb3
  have Hm := hid hm
  have F13 := hid (F2.trans F3 (fun _ _ h => h))
  clear hw3 hA3 hR hlk hv3 hb3 hA2 hb2 F3
  simp only [Pg.val]
  go_wp2
  rw [HW3.out]
  go_region
  obtain ⟨w4, hw4⟩ : ∃ w4, ((((((w3.setCell ⟨bp, i * 6, none⟩ (.int .i64 0)).setCell ⟨bp, i * 6 + 1, none⟩ (.int .i64 0)).setCell ⟨bp, i * 6 + 2, none⟩ (.slice none 0 0)).setCell ⟨bp, i * 6 + 3, none⟩ (.bool false)).setCell ⟨bp, i * 6 + 4, none⟩ (.bool false)).setCell ⟨bp, i * 6 + 5, none⟩ (.bool false)).drew = w4 := ⟨_, rfl⟩
  have F34 : Fr (fun b => b = bp) w3 w4 := by
    rw [← hw4]
    exact (((((((Fr.refl (fun b => b = bp) _).setCell (a := ⟨bp, i * 6, none⟩) (fun _ => rfl) _).setCell (a := ⟨bp, i * 6 + 1, none⟩) (fun _ => rfl) _).setCell (a := ⟨bp, i * 6 + 2, none⟩) (fun _ => rfl) _).setCell (a := ⟨bp, i * 6 + 3, none⟩) (fun _ => rfl) _).setCell (a := ⟨bp, i * 6 + 4, none⟩) (fun _ => rfl) _).setCell (a := ⟨bp, i * 6 + 5, none⟩) (fun _ => rfl) _).drew
  have hp4 : w4.heap[bp]? = some (.cells (cellsOf (pl.set i (Pl.none Pg.zero))) 264) := by
    have := heap_place HA3.out.p HP.out (Pl.none Pg.zero)
    rw [← hw4, heap_drew]
    exact this
  rw [hw4]
  have hm4 := F34.heap Hm.out (fun e => n123.2.2 e.symm)
  have hc4 := F34.heap HA3.out.c n123.1
  have hb4 := F34.heap HB3.out (by omega)
  have hv4 := F34.heap HV3.out (by omega)
  clear f0 f1 k0 k1 k2 k3 k4 k5 zp hl2 hw4 hm
  obtain ⟨f0, f1, f2, fz, fl⟩ := cells3 hc4
  obtain ⟨c0, c1, c2, cz, cl⟩ := cells3 hb4
  obtain ⟨v0, v1, v2, vz, vl⟩ := cells3 hv4
  have m1 : bm ≠ w.heap.size := by omega
  have m2 : bm ≠ w2.heap.size := by omega
  have m3 : w.heap.size ≠ bm := by omega
  have m4 : w2.heap.size ≠ bm := by omega
  have HP4 := hid hp4
  have HC4 := hid hc4
  have HF34 := hid F34
  clear hp4 hc4 hb4 hv4 F34
  go_wp2
  obtain ⟨w5, hw5⟩ : ∃ w5, w4.putObj bm (.map (ents (del l key)) ck) = w5 := ⟨_, rfl⟩
  have F45 : Fr (fun b => b = bm) w4 w5 := by rw [← hw5]; exact (Fr.refl (fun b => b = bm) _).putObj (fun _ => rfl) _
  have hm5 : w5.heap[bm]? = some (.map (ents (del l key)) ck) := by rw [← hw5]; exact heap_putObj_same _ _ _ (lt_of_heap hm4)
  have g0 := (F45.cell (p := ⟨w.heap.size, 0, none⟩) cl m3).trans c0
  have g1 := (F45.cell (p := ⟨w.heap.size, 1, none⟩) cl m3).trans c1
  have g2 := (F45.cell (p := ⟨w.heap.size, 2, none⟩) cl m3).trans c2
  rw [hw5]
  obtain ⟨hnd, hl, hn⟩ := HR.out
  obtain ⟨hu, hk⟩ := HU.out
  have hAp : AtP w5 bc bp bm (pl.set i (Pl.none Pg.zero)) hand := by
    refine HA3.out.place HP.out _ (fun h => by cases h) trivial HA3.out.hand ?_ ?_ hm5 (nodup_del hnd _) (fun k => ?_) ?_
    · exact F45.heap HC4.out n123.2.1
    · exact F45.heap HP4.out n123.2.2
    · rw [look_del hnd, hl, hu, hk]
      simp [Pl.none]
    · rw [length_del, HK.out, hn, hu]; simp [Pl.none]
  refine bodyPost_ret (v := .tuple #[p.v.val, .bool true]) (by simp [results, go_sem, *]) rfl ⟨by rw [HF.out, E.out.2]; rfl, ?_, ?_⟩
  · rw [E.out.1]
    refine hAp.fr (S := fun b => b = w.heap.size) ?_ (by omega) (by omega) (by omega)
    exact Fr.set3 (S := fun b => b = w.heap.size) (b := w.heap.size) (Fr.refl _ _) rfl _ _ _
  · exact Fr.set3n ((((F1.mono (S' := fun b => b = bp ∨ b = bm) (fun _ _ h => h.elim)).trans F13.out (fun _ _ h => h.elim)).trans HF34.out (fun _ _ h => .inl h)).trans F45 (fun _ _ h => .inr h)) (Nat.le_refl _) _ _ _
theorem drop_at {w : World} {bc bp bm hand : Nat} {pl : List Pl} (h : AtP w bc bp bm pl hand) (key : Int) :
    Calls Tryz.prog 108 #[.pointer (some ⟨bc, 0, none⟩), .int .i64 key] w (DropPost pl hand bc bp bm key w) := by
  cases hf : find pl key with
  | some i => exact drop_some h key hf
  | none => exact drop_none h key hf
end CP
end Go.Proofs.YtgdhaaokolfdoaaGreatDoor
