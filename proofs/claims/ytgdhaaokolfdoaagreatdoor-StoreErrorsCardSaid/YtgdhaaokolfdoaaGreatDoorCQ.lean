/- The clock of pages: what Len, New, Get compute. Conditions: the clock lies in the world as AtP says. -/
import Derived.Test.YtgdhaaokolfdoaaGreatDoorCP
namespace Go.Proofs.YtgdhaaokolfdoaaGreatDoor
namespace CP
open Go.RowKit Go.Sg Go.Sg.Clk Go.Shelf
theorem len_nil (w : World) : Calls Tryz.prog 84 #[.pointer none] w fun e w' => e = .returned (.int .i64 0) ∧ w = w' := by
  go_enter Tryz.func84, Tryz.ntmps84
  go_wp2
  go_ret
  exact ⟨rfl, rfl⟩
theorem len_at {w : World} {bc bp bm hand : Nat} {pl : List Pl} (h : AtP w bc bp bm pl hand) :
    Calls Tryz.prog 84 #[.pointer (some ⟨bc, 0, none⟩)] w fun e w' => e = .returned (.int .i64 (pl.countP (·.full))) ∧ w = w' := by
  obtain ⟨l, ck, hm, -, -, hn⟩ := h.m
  have c1 := h.c1
  have hl := Sg.run_len_map (P := Tryz.prog) (T := 258) Tryz.underlying258 hm 3 #[258] rfl
  rw [hn] at hl
  clear hn hm h
  go_enter Tryz.func84, Tryz.ntmps84
  go_wp2
  go_ret
  exact ⟨rfl, rfl⟩
theorem info264 : (Tryz.prog.info? 264).map (fun i => (i.zero, i.size, i.bytes)) = some (some (.agg #[.int .i64 0, .int .i64 0, .slice none 0 0, .bool false, .bool false, .bool false]), 6, 56) := by kernel_rfl
set_option maxHeartbeats 1000000 in
theorem new_ok (n : Nat) (h1 : 1 ≤ n) (h2 : n ≤ 4096) (w : World) :
    Calls Tryz.prog 96 #[.int .i64 n] w fun e w' => e = .returned (.pointer (some ⟨w.heap.size + 2, 0, none⟩)) ∧ AtP w' (w.heap.size + 2) w.heap.size (w.heap.size + 1) (List.replicate n (Pl.none Pg.zero)) 0 ∧ Fr (fun _ => False) w w' := by
  obtain ⟨i0, hi, hz0, hz1, hz2⟩ := info_parts info264
  have hmk := fun W => run_make_len (P := Tryz.prog) 257 264 i0 _ Tryz.underlying257 hi hz0 n (by rw [hz2]; omega) (by omega) W
  have hmm := fun (t : TypeId) (W : World) => run_makeMap (P := Tryz.prog) t W
  rw [hz1] at hmk
  clear hi hz0 hz1 hz2
  go_enter Tryz.func96, Tryz.ntmps96
  go_wp2
  go_ret
  exact ⟨rfl, At.fresh trivial h1 h2, (((Fr.refl _ _).alloc _).alloc _).alloc _⟩

theorem AtP_lts {w : World} {bc bp bm hand : Nat} {pl : List Pl} (h : AtP w bc bp bm pl hand) : bc < w.heap.size ∧ bp < w.heap.size ∧ bm < w.heap.size := by
  obtain ⟨l, ck, hm, _⟩ := h.m
  exact ⟨lt_of_heap h.c, lt_of_heap h.p, lt_of_heap hm⟩
def markM (pl : List Pl) (key : Int) : List Pl := match find pl key with
  | some i => pl.modify i fun p => { p with marked := true }
  | none => pl
theorem modify_eq {pl : List Pl} {i : Nat} {p : Pl} (hp : pl[i]? = some p) (f : Pl → Pl) : pl.modify i f = pl.set i (f p) := by
  apply List.ext_getElem?
  intro j
  rw [get_set hp, List.getElem?_modify]
  split
  · rename_i e; subst e; simp [hp]
  · simp
def GetPost (pl : List Pl) (hand bc bp bm : Nat) (key : Int) (w : World) (e : Ending) (w' : World) : Prop :=
  e = .returned (.tuple #[(lookM pl key).val, .bool (find pl key).isSome]) ∧ AtP w' bc bp bm (markM pl key) hand ∧ Fr (fun b => b = bp) w w'
set_option maxHeartbeats 1000000 in
theorem get_at {w : World} {bc bp bm hand : Nat} {pl : List Pl} (h : AtP w bc bp bm pl hand) (key : Int) :
    Calls Tryz.prog 86 #[.pointer (some ⟨bc, 0, none⟩), .int .i64 key] w (GetPost pl hand bc bp bm key w) := by
  have hfr := hid (fun W (FW : Fr (fun _ => False) w W) => (h.fr FW (fun h => h) (fun h => h) (fun h => h) : AtP W bc bp bm pl hand))
  obtain ⟨w1, hw1⟩ : ∃ w1, w.alloc (.cells #[.int .i64 0, .slice none 0 0, .bool false] 162) = w1 := ⟨_, rfl⟩
  have b1 : w1.heap[w.heap.size]? = some (.cells #[.int .i64 0, .slice none 0 0, .bool false] 162) := by rw [← hw1]; exact heap_alloc_new _ _
  have F1 : Fr (fun _ => False) w w1 := by rw [← hw1]; exact (Fr.refl _ _).alloc _
  have B1 := hid b1
  have hA1 := hid (hfr.out w1 F1)
  have hlt := AtP_lts h
  cases hf : find pl key with
  | none =>
    have e1 : markM pl key = pl := by simp [markM, hf]
    have HF := hid hf
    have E := hid e1
    have HW := hid hw1
    have FN := hid (find_at hA1.out key)
    rw [hf] at FN
    clear hf h e1 hw1 b1
    go_enter Tryz.func86, Tryz.ntmps86
    go_wp2_with fail
    rw [HW.out]
    refine FN.out.mono ?_
    rintro e w' ⟨rfl, rfl⟩
    go_wp2_with fail
    refine (look_at hA1.out key).mono ?_
    rintro e w2 ⟨rfl, F2⟩
    obtain ⟨c0, c1, c2, z, l⟩ := cells3 (F2.heap B1.out (fun h => h))
    rw [HF.out]
    generalize hlm : lookM pl key = lm
    have HLM := hid hlm
    clear hlm
    obtain ⟨st, la, ll, lc, di⟩ := lm
    go_wp2
    refine bodyPost_ret (v := .tuple #[.agg #[.int .i64 st, .slice la ll lc, .bool di], .bool false]) (by simp [results, go_sem, *]) rfl ⟨by rw [HLM.out, HF.out]; rfl, ?_, ?_⟩
    · rw [E.out]
      refine (hA1.out.fr F2 (fun h => h) (fun h => h) (fun h => h)).fr (S := fun b => b = w.heap.size) ?_ (by omega) (by omega) (by omega)
      repeat (with_reducible refine Fr.setCell ?_ (fun _ => by simp) _)
      exact Fr.refl _ _
    · repeat (with_reducible refine Fr.setNew ?_ (by omega) _)
      exact (F1.trans F2 (fun _ _ h => h)).mono (fun _ _ h => h.elim)
  | some i =>
    obtain ⟨p, hp, hful, hkey⟩ := find_some hf
    have k5 := hA1.out.k5 hp
    have zp := hA1.out.zp (i * 6 + 5)
    have h2 := hA1.out.set hp 5 (by omega) (.bool true) { p with marked := true } rfl rfl rfl trivial
    have hf2 : find (pl.set i { p with marked := true }) key = some i := by
      rw [find_set h.nd hp { p with marked := true } (fun a => .inl ⟨hful, rfl⟩)]; simp [hful, hkey]
    have e1 : markM pl key = pl.set i { p with marked := true } := by simp only [markM, hf]; exact modify_eq hp _
    have e3 : lookM pl key = p.v := by simp [lookM, hf, hp]
    have e4 : lookM (pl.set i { p with marked := true }) key = p.v := by
      have := get_set hp { p with marked := true } i
      rw [if_pos rfl] at this
      simp [lookM, hf2, this]
    have HF := hid hf
    have HF2 := hid hf2
    have E := hid (And.intro e1 (And.intro e3 e4))
    have HW := hid hw1
    have FN := hid (find_at hA1.out key)
    rw [hf] at FN
    have H2 := hid h2
    obtain ⟨w2, hw2⟩ : ∃ w2, w1.setCell ⟨bp, i * 6 + 5, none⟩ (.bool true) = w2 := ⟨_, rfl⟩
    have F12 : Fr (fun b => b = bp) w1 w2 := by rw [← hw2]; exact (Fr.refl (fun b => b = bp) _).setCell (a := ⟨bp, i * 6 + 5, none⟩) (fun _ => rfl) _
    have HW2 := hid hw2
    have l1 := F1.size
    clear hf h e1 e3 e4 hw1 b1 hf2 h2 hp hful hkey hw2
    go_enter Tryz.func86, Tryz.ntmps86
    go_wp2_with fail
    rw [HW.out]
    refine FN.out.mono ?_
    rintro e w' ⟨rfl, rfl⟩
    go_wp2_with fail
    rw [HW2.out]
    have hA2 := hid H2.out
    rw [HW2.out] at hA2
    refine (look_at hA2.out key).mono ?_
    rintro e w3 ⟨rfl, F3⟩
    have F13 := F12.trans F3 (fun _ _ h => h.elim)
    obtain ⟨c0, c1, c2, z, l⟩ := cells3 (F13.heap B1.out (by omega))
    rw [HF2.out, E.out.2.2]
    obtain ⟨key', ⟨st, la, ll, lc, di⟩, fu, ma⟩ := p
    clear k5 zp
    go_wp2
    refine bodyPost_ret (v := .tuple #[.agg #[.int .i64 st, .slice la ll lc, .bool di], .bool true]) (by simp [results, go_sem, *]) rfl ⟨by rw [E.out.2.1, HF.out]; rfl, ?_, ?_⟩
    · rw [E.out.1]
      refine (hA2.out.fr F3 (fun h => h) (fun h => h) (fun h => h)).fr (S := fun b => b = w.heap.size) ?_ (by omega) (by omega) (by omega)
      repeat (with_reducible refine Fr.setCell ?_ (fun _ => by simp) _)
      exact Fr.refl _ _
    · repeat (with_reducible refine Fr.setNew ?_ (by omega) _)
      exact (F1.mono (S' := fun b => b = bp) (fun _ _ h => h.elim)).trans F13 (fun _ _ h => h)
end CP
end Go.Proofs.YtgdhaaokolfdoaaGreatDoor
