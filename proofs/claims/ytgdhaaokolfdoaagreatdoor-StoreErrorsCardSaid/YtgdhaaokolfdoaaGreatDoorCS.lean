/- The clock of pages: what Put computes where no place is free. Conditions: the clock lies in the world as AtP says. -/
import Derived.Test.YtgdhaaokolfdoaaGreatDoorCR
namespace Go.Proofs.YtgdhaaokolfdoaaGreatDoor
namespace CP
open Go.RowKit Go.Sg Go.Sg.Clk Go.Shelf
set_option maxHeartbeats 4000000 in
set_option maxRecDepth 100000 in
theorem put_full {w : World} {bc bp bm hand : Nat} {pl : List Pl} (h : AtP w bc bp bm pl hand) (key : Int) (x : Pg) (hf : find pl key = none) (he : empty pl = none) :
    Calls Tryz.prog 111 #[.pointer (some ⟨bc, 0, none⟩), .int .i64 key, x.val] w (PutPost pl hand bc bp bm key x w) := by
  obtain ⟨st, la, ll, lc, di⟩ := x
  have hlt := AtP_lts h
  have n123 := h.ne
  obtain ⟨w2, hw2⟩ : ∃ w2, (w.alloc (.cells #[.int .i64 st, .slice la ll lc, .bool di] 162)).alloc (.cells #[.int .i64 0, .slice none 0 0, .bool false] 162) = w2 := ⟨_, rfl⟩
  obtain ⟨b0, b1, F2⟩ := heap_two hw2
  have hA := h.fr F2 (fun h => h) (fun h => h) (fun h => h)
  have FN := hid (find_at hA key)
  rw [hf] at FN
  have EM := hid (empty_at hA)
  rw [emptyI_none he] at EM
  have HA := hid hA
  have HF := hid hf
  have HO := hid he
  have HH := hid h
  have HW := hid hw2
  have B01 := hid (And.intro b0 b1)
  clear hf he h hA hw2 b0 b1
  go_enter Tryz.func111, Tryz.ntmps111
  go_wp2_with fail
  rw [HW.out]
  refine FN.out.mono ?_
  rintro e w' ⟨rfl, rfl⟩
  go_wp2_with fail
  refine EM.out.mono ?_
  rintro e w3 ⟨rfl, F3⟩
  have hA3 := hid (HA.out.fr F3 (fun h => h) (fun h => h) (fun h => h))
  go_wp2_with fail
  refine (victim_at hA3.out).mono ?_
  rintro e w4 ⟨rfl, hA4, F4⟩
  obtain ⟨i, hi⟩ : ∃ i, (spin pl.length pl hand).2 = i := ⟨_, rfl⟩
  obtain ⟨pl2, hpl2⟩ : ∃ pl2, (spin pl.length pl hand).1 = pl2 := ⟨_, rfl⟩
  have hlen2 : pl2.length = pl.length := by rw [← hpl2]; exact spin_len _ _ _
  have hil : i < pl2.length := by rw [hlen2, ← hi]; exact spin_lt _ _ _ HH.out.hand
  have hf2 : find pl2 key = none := by rw [← hpl2, spin_find]; exact HF.out
  have he2 : empty pl2 = none := by rw [← hpl2, spin_empty]; exact HO.out
  obtain ⟨p, hp⟩ : ∃ p, pl2[i]? = some p := ⟨_, List.getElem?_eq_getElem hil⟩
  have hpf := full_of_empty he2 hp
  have hM : putM pl hand key ⟨st, la, ll, lc, di⟩ = ⟨pl2.set i ⟨key, ⟨st, la, ll, lc, di⟩, true, true⟩, (i + 1) % pl.length, some p⟩ := by rw [putM_full HF.out HO.out, hpl2, hi, hp]
  rw [hpl2, hi] at hA4
  rw [hi]
  have f0 := hA4.c0
  have f1 := hA4.c1
  have k0 := hA4.k0 hp
  have k1 := hA4.k1 hp
  have k2 := hA4.k2 hp
  have k3 := hA4.k3 hp
  have l2 := lt_of_heap B01.out.2
  have l3 := F3.size
  have l4 := F4.size
  obtain ⟨d0, d1, d2, dz, dl⟩ := cells3 (F4.heap (F3.heap B01.out.1 (fun h => h)) (by omega))
  have hr1 := F4.heap (F3.heap B01.out.2 (fun h => h)) (by omega)
  obtain ⟨c0, c1, c2, cz, cl⟩ := cells3 hr1
  obtain ⟨l, ck, hm, hR⟩ := hA4.m
  have hr2 := hA4.room
  have HR := hid hR
  have HA4 := hid hA4
  have HM := hid hM
  have HP := hid hp
  have HU := hid hpf
  have HF2 := hid hf2
  have HL := hid hlen2
  have HR1 := hid hr1
  have Hm := hid hm
  clear hR hA4 hM hp hpf hi hpl2 hf2 he2 hlen2 hr1 hm
  go_wp2
  go_region
  obtain ⟨w5, hw5⟩ : ∃ w5, (((w4.setCell ⟨w.heap.size + 1, 0, none⟩ (.int .i64 p.v.stamp)).setCell ⟨w.heap.size + 1, 1, none⟩ (.slice p.v.la p.v.ll p.v.lc)).setCell ⟨w.heap.size + 1, 2, none⟩ (.bool p.v.dirty)).drew = w5 := ⟨_, rfl⟩
  have F45 : Fr (fun b => b = w.heap.size + 1) w4 w5 := by
    rw [← hw5]
    exact (Fr.set3 (S := fun b => b = w.heap.size + 1) (b := w.heap.size + 1) (Fr.refl _ _) rfl _ _ _).drew
  have hr5 : w5.heap[w.heap.size + 1]? = some (.cells #[.int .i64 p.v.stamp, .slice p.v.la p.v.ll p.v.lc, .bool p.v.dirty] 162) := by
    rw [← hw5, heap_drew, heap_setCell_cells _ _ _ _ (heap_setCell_cells _ _ _ _ (heap_setCell_cells _ _ _ _ HR1.out))]
    simp
  rw [hw5]
  have hA5 := HA4.out.fr F45 (by omega) (by omega) (by omega)
  have hm5 := F45.heap Hm.out (by omega)
  have hb05 := F45.heap (F4.heap (F3.heap B01.out.1 (fun h => h)) (by omega)) (by omega)
  clear f0 f1 k0 k1 k2 k3 d0 d1 d2 dz dl c0 c1 c2 cz cl hw5
  have f0 := hA5.c0
  have f1 := hA5.c1
  have hdel := fun (W : World) (hW : W.heap[bm]? = some (.map (ents l) ck)) (t' : TypeId) => run_delete (P := Tryz.prog) (T := 258) Tryz.underlying258 Tryz.underlying3 hW p.key t' #[258, 3] rfl
  have HN := hid hdel
  have HA5 := hid hA5
  have HR5 := hid hr5
  have HB5 := hid hb05
  have Hm5 := hid hm5
  have HF45 := hid F45
  have l5 := F45.size
  clear hdel hA5 hr5 hb05 hm5 F45
  go_wp2
  rw [HN.out w5 Hm5.out 0]
  obtain ⟨w6, hw6⟩ : ∃ w6, w5.putObj bm (.map (ents (del l p.key)) ck) = w6 := ⟨_, rfl⟩
  have F56 : Fr (fun b => b = bm) w5 w6 := by rw [← hw6]; exact (Fr.refl (fun b => b = bm) _).putObj (fun _ => rfl) _
  have hm6 : w6.heap[bm]? = some (.map (ents (del l p.key)) ck) := by rw [← hw6]; exact heap_putObj_same _ _ _ (lt_of_heap Hm5.out)
  have hc6 := F56.heap HA5.out.c n123.2.1
  have hp6 := F56.heap HA5.out.p n123.2.2
  have hr6 := F56.heap HR5.out (by omega)
  have hb6 := F56.heap HB5.out (by omega)
  rw [hw6]
  clear f0 f1 hw6
  obtain ⟨f0, f1, f2, fz, fl⟩ := cells3 hc6
  obtain ⟨d0, d1, d2, dz, dl⟩ := cells3 hb6
  have zp : ∀ o, w6.frozen? ⟨bp, o, none⟩ = false := fun o => frozen_of_heap hp6 o
  have j : ∀ o, o < 6 → w6.cell? ⟨bp, i * 6 + o, none⟩ = p.cells[o]? := fun o ho => by rw [cell_of_heap hp6, cells_get HP.out o ho]
  have k0 : w6.cell? ⟨bp, i * 6, none⟩ = some (.int .i64 p.key) := j 0 (by omega)
  have k1 : w6.cell? ⟨bp, i * 6 + 1, none⟩ = some (.int .i64 p.v.stamp) := j 1 (by omega)
  have k2 : w6.cell? ⟨bp, i * 6 + 2, none⟩ = some (.slice p.v.la p.v.ll p.v.lc) := j 2 (by omega)
  have k3 : w6.cell? ⟨bp, i * 6 + 3, none⟩ = some (.bool p.v.dirty) := j 3 (by omega)
  have k4 : w6.cell? ⟨bp, i * 6 + 4, none⟩ = some (.bool p.full) := j 4 (by omega)
  have k5 : w6.cell? ⟨bp, i * 6 + 5, none⟩ = some (.bool p.marked) := j 5 (by omega)
  have Hm6 := hid hm6
  have HC6 := hid hc6
  have HP6 := hid hp6
  have HR6 := hid hr6
  have HF56 := hid F56
  clear j hm6 hc6 hp6 hr6 hb6 F56
  go_wp2
  go_region
  obtain ⟨w7, hw7⟩ : ∃ w7, ((((((w6.setCell ⟨bp, i * 6, none⟩ (.int .i64 key)).setCell ⟨bp, i * 6 + 1, none⟩ (.int .i64 st)).setCell ⟨bp, i * 6 + 2, none⟩ (.slice la ll lc)).setCell ⟨bp, i * 6 + 3, none⟩ (.bool di)).setCell ⟨bp, i * 6 + 4, none⟩ (.bool true)).setCell ⟨bp, i * 6 + 5, none⟩ (.bool true)).drew = w7 := ⟨_, rfl⟩
  have F67 : Fr (fun b => b = bp) w6 w7 := by
    rw [← hw7]
    exact (((((((Fr.refl (fun b => b = bp) _).setCell (a := ⟨bp, i * 6, none⟩) (fun _ => rfl) _).setCell (a := ⟨bp, i * 6 + 1, none⟩) (fun _ => rfl) _).setCell (a := ⟨bp, i * 6 + 2, none⟩) (fun _ => rfl) _).setCell (a := ⟨bp, i * 6 + 3, none⟩) (fun _ => rfl) _).setCell (a := ⟨bp, i * 6 + 4, none⟩) (fun _ => rfl) _).setCell (a := ⟨bp, i * 6 + 5, none⟩) (fun _ => rfl) _).drew
  have hp7 : w7.heap[bp]? = some (.cells (cellsOf (pl2.set i ⟨key, ⟨st, la, ll, lc, di⟩, true, true⟩)) 264) := by
    have := heap_place HP6.out HP.out ⟨key, ⟨st, la, ll, lc, di⟩, true, true⟩
    rw [← hw7, heap_drew]
    exact this
  rw [hw7]
  have hm7 := F67.heap Hm6.out (fun e => n123.2.2 e.symm)
  have hc7 := F67.heap HC6.out n123.1
  have hr7 := F67.heap HR6.out (by omega)
  clear f0 f1 f2 fz fl k0 k1 k2 k3 k4 k5 zp d0 d1 d2 dz dl hw7
  obtain ⟨f0, f1, f2, fz, fl⟩ := cells3 hc7
  obtain ⟨c0, c1, c2, cz, cl⟩ := cells3 hr7
  have hup := fun (W : World) (hW : W.heap[bm]? = some (.map (ents (del l p.key)) ck)) => run_mapUpdate (P := Tryz.prog) (T := 258) Tryz.underlying258 Tryz.underlying3 hW key (.int .i64 i)
  have HP7 := hid hp7
  have HC7 := hid hc7
  have n2 : w.heap.size + 1 ≠ bm := by omega
  have HF67 := hid F67
  clear hp7 hc7 hr7 F67
  go_wp2
  obtain ⟨w8, hw8⟩ : ∃ w8, w7.putObj bm (.map (ents (put (del l p.key) key (.int .i64 i) ck)) (bump (del l p.key) key ck)) = w8 := ⟨_, rfl⟩
  have F78 : Fr (fun b => b = bm) w7 w8 := by rw [← hw8]; exact (Fr.refl (fun b => b = bm) _).putObj (fun _ => rfl) _
  have hm8 : w8.heap[bm]? = some (.map (ents (put (del l p.key) key (.int .i64 i) ck)) (bump (del l p.key) key ck)) := by rw [← hw8]; exact heap_putObj_same _ _ _ (lt_of_heap hm7)
  rw [hw8]
  have e0 := (F78.cell (p := ⟨w.heap.size + 1, 0, none⟩) cl n2).trans c0
  have e1 := (F78.cell (p := ⟨w.heap.size + 1, 1, none⟩) cl n2).trans c1
  have e2 := (F78.cell (p := ⟨w.heap.size + 1, 2, none⟩) cl n2).trans c2
  have ez : ∀ o, w8.frozen? ⟨w.heap.size + 1, o, none⟩ = false := fun o => (World.frozen?_of_block (F78.block _ cl n2)).trans (cz o)
  have HM8 := hid hm8
  have HF78 := hid F78
  clear hw8 c0 c1 c2 cz f0 f1 f2 fz hup hm8 F78 hm7
  go_region
  go_wp2
  obtain ⟨hnd, hl, hn⟩ := HR.out
  have hfp : find pl2 p.key = some i := (find_iff HA4.out.nd _ _).2 ⟨p, HP.out, HU.out, rfl⟩
  have hlk : Sg.look (del l p.key) key = none := by
    rw [look_del hnd, hl, HF2.out]; split <;> rfl
  have hlp : (Sg.look l p.key).isSome = true := by rw [hl, hfp]; rfl
  have hmod := Nat.mod_lt (i + 1) (show 0 < pl.length by have := HL.out; omega)
  have hAp : AtP w8 bc bp bm (pl2.set i ⟨key, ⟨st, la, ll, lc, di⟩, true, true⟩) ((i + 1) % pl.length) := by
    refine HA4.out.place HP.out _ (fun _ => .inr HF2.out) trivial (by rw [HL.out]; exact hmod) ?_ ?_ HM8.out (nodup_put (nodup_del hnd _) _ _ _) (fun k => ?_) ?_
    · exact HF78.out.heap HC7.out n123.2.1
    · exact HF78.out.heap HP7.out n123.2.2
    · rw [look_put, look_del hnd, hl]
      simp [HU.out]
    · rw [length_put, hlk, length_del, hlp, hn, HU.out]; simp
  have Fa : Fr (fun b => b = bc ∨ b = bp ∨ b = bm) w w8 :=
    ((((((F2.mono (S' := fun b => b = bc ∨ b = bp ∨ b = bm) (fun _ _ h => h.elim)).trans F3 (fun _ _ h => h.elim)).trans F4 (fun _ _ h => h.elim .inl (fun h => .inr (.inl h)))).trans HF45.out (fun b hb h => by omega)).trans HF56.out (fun _ _ h => .inr (.inr h))).trans HF67.out (fun _ _ h => .inr (.inl h))).trans HF78.out (fun _ _ h => .inr (.inr h))
  refine bodyPost_ret (v := .tuple #[.int .i64 p.key, p.v.val, .bool true]) (by simp [results, go_sem, *]) rfl ⟨by rw [HM.out]; rfl, ?_, ?_⟩
  · rw [HM.out]
    refine hAp.fr (S := fun b => b = w.heap.size + 1) ?_ (by omega) (by omega) (by omega)
    exact (Fr.set3 (S := fun b => b = w.heap.size + 1) (b := w.heap.size + 1) (Fr.refl _ _) rfl _ _ _).drew
  · exact Fr.drew (Fr.set3n Fa (by omega) _ _ _)
theorem put_at {w : World} {bc bp bm hand : Nat} {pl : List Pl} (h : AtP w bc bp bm pl hand) (key : Int) (x : Pg) :
    Calls Tryz.prog 111 #[.pointer (some ⟨bc, 0, none⟩), .int .i64 key, x.val] w (PutPost pl hand bc bp bm key x w) := by
  cases hf : find pl key with
  | some i => exact put_there h key x hf
  | none =>
    cases he : empty pl with
    | some i => exact put_free h key x hf he
    | none => exact put_full h key x hf he
end CP
end Go.Proofs.YtgdhaaokolfdoaaGreatDoor
