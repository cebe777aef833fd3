/- The reference's clock: what New, Get and Drop compute. Conditions: the places lie in the world as RSl says. -/
import Derived.Test.YtfeemnhkdjkgpaaR2
import Derived.Deep.RegionHeld3
namespace Go.Proofs.Ytfeemnhkdjkgpaa
open Go.RowKit Go.Sg Go.Sg.Clk

/-- What a call of the reference gives: a clock of the places pl with the hand. -/
def RClk (w : World) (v : Value) (pl : List Pl) (hand : Nat) : Prop :=
  ∃ g cap, v = .agg #[.slice (some ⟨g, 0, none⟩) pl.length cap, .int .i64 hand] ∧ RS w g cap pl ∧ pl.length ≤ cap

theorem rcells_made (n : Nat) : madeCells #[.bool false, .bool false, .int .i64 0, .int .i64 0] (n * 4) = rcellsOf (List.replicate n (Pl.none (.int .i64 0))) := by
  apply Array.ext
  · rw [size_madeCells, size_rcells]; simp
  · intro i h1 h2
    have hi : i < n * 4 := by simpa [size_madeCells] using h1
    have e : (rcellsOf (List.replicate n (Pl.none (.int .i64 0))))[i]? = (Pl.none (.int .i64 0)).rcells[i % 4]? := by
      have hq : (List.replicate n (Pl.none (.int .i64 0)))[i / 4]? = some (Pl.none (.int .i64 0)) := by rw [List.getElem?_replicate, if_pos (by omega)]
      have := rcells_get hq (i % 4) (by omega)
      rwa [show i / 4 * 4 + i % 4 = i by omega] at this
    rw [Array.getElem?_eq_getElem h2] at e
    have h4 : i % 4 < 4 := by omega
    have e2 : (Pl.none (.int .i64 0)).rcells[i % 4]? = some ((Pl.none (.int .i64 0)).rcells[i % 4]'(by simp [Pl.rcells]; omega)) := List.getElem?_eq_getElem _
    rw [e2] at e
    rw [Option.some.inj e]
    simp [madeCells, Pl.rcells, Pl.none, getElem!_def]
    generalize i % 4 = j at *
    match j, h4 with
    | 0, _ => rfl
    | 1, _ => rfl
    | 2, _ => rfl
    | 3, _ => rfl

set_option maxHeartbeats 1000000 in
theorem rnew_ok (n : Nat) (h2 : n ≤ 4096) (w : World) :
    Calls Try.prog 18 #[.int .i64 n] w fun e w' => ∃ v, e = .returned v ∧ RClk w' v (List.replicate n (Pl.none (.int .i64 0))) 0 ∧ Fr (fun _ => False) w w' := by
  obtain ⟨i0, hi, hz0, hz1, hz2⟩ := info_parts Try.info49
  have hmk := fun W => run_make_len (P := Try.prog) 41 49 i0 _ Try.underlying41 hi hz0 n (by rw [hz2]; omega) (by omega) W
  rw [hz1] at hmk
  clear hi hz0 hz1 hz2
  go_enter Try.func18, Try.ntmps18
  go_wp2
  refine bodyPost_ret (v := .agg #[.slice (some ⟨w.heap.size + 1, 0, none⟩) n n, .int .i64 0]) (by simp [results, go_sem, *]) rfl ⟨_, rfl, ⟨w.heap.size + 1, n, by rw [List.length_replicate]; rfl, ⟨[], ?_⟩, by rw [List.length_replicate]; exact Nat.le_refl _⟩, ((Fr.refl _ _).alloc _).alloc _⟩
  have := heap_alloc_new (w.alloc (Obj.cells #[Value.slice (some { block := w.heap.size + 1, off := 0 }) n n, Value.int IntKind.i64 0] 43)) (Obj.cells (madeCells #[Value.bool false, Value.bool false, Value.int IntKind.i64 0, Value.int IntKind.i64 0] (n * 4)) 49)
  rw [show (w.alloc (Obj.cells #[Value.slice (some { block := w.heap.size + 1, off := 0 }) n n, Value.int IntKind.i64 0] 43)).heap.size = w.heap.size + 1 by simp] at this
  rw [this, rcells_made, rcellsOf, List.append_nil]

def rmark (mark : Bool) (pl : List Pl) (key : Int) : List Pl := if mark then CI.markM pl key else pl
def RGetPost (pl : List Pl) (hand : Nat) (key : Int) (mark : Bool) (w : World) (e : Ending) (w' : World) : Prop :=
  ∃ v, e = .returned (.tuple #[v, CI.got (.int .i64 0) pl key, .bool (find pl key).isSome]) ∧ RClk w' v (rmark mark pl key) hand ∧ Fr (fun _ => False) w w'

set_option maxHeartbeats 2000000 in
theorem rget_at {w : World} {b cap hand : Nat} {pl : List Pl} (h : RS w b cap pl) (hn : pl.length ≤ 4096) (hc : pl.length ≤ cap) (hv : ∀ p ∈ pl, ∃ y, p.v = .int .i64 y) (key : Int) (mark : Bool) :
    Calls Try.prog 19 #[.agg #[.slice (some ⟨b, 0, none⟩) pl.length cap, .int .i64 hand], .int .i64 key, .bool mark] w (RGetPost pl hand key mark w) := by
  have hb := h.lt
  have HA := hid (fun W (F : Fr (fun _ => False) w W) => h.fr F (fun h => h))
  have HV := hid hv
  clear h hv
  cases hf : find pl key with
  | none =>
    have HF := hid hf
    clear hf
    go_enter Try.func19, Try.ntmps19
    go_wp2_with fail
    refine (rfind_at (HA.out _ (((Fr.refl _ _).alloc _).alloc _)) hn hc key).mono ?_
    rintro e w3 ⟨rfl, hw⟩
    obtain ⟨b0, b1, -, F3⟩ := heap_three hw
    obtain ⟨c00, c01, z0, l0⟩ := cells2 b0
    obtain ⟨c10, c11, z1, l1⟩ := cells2 b1
    rw [findI_none HF.out]
    clear hw
    go_wp2
    try simp only [Exit.inBlock, Exit.then]
    refine bodyPost_ret (v := .tuple #[.agg #[.slice (some ⟨b, 0, none⟩) pl.length cap, .int .i64 hand], .int .i64 0, .bool false]) (by simp [results, go_sem, *]) rfl ?_
    have e1 : rmark mark pl key = pl := by simp [rmark, CI.markM, HF.out]
    refine ⟨.agg #[.slice (some ⟨b, 0, none⟩) pl.length cap, .int .i64 hand], by simp [CI.got, HF.out], ⟨b, cap, by rw [e1], ?_, by rw [e1]; exact hc⟩, ?_⟩
    · rw [e1]
      exact HA.out _ ((F3.setNew (by omega) _).setNew (by omega) _)
    · exact (F3.setNew (by omega) _).setNew (by omega) _
  | some i =>
    obtain ⟨p, hp, hful, hkey⟩ := find_some hf
    obtain ⟨y, hy⟩ := HV.out p (List.mem_of_getElem? hp)
    have hi : i < pl.length := (List.getElem?_eq_some_iff.1 hp).1
    have HF := hid hf
    have HY := hid hy
    have HP := hid hp
    have HU := hid (And.intro hful hkey)
    clear hf hp hful hkey hy
    have E : rmark mark pl key = pl.set i { p with marked := p.marked || mark } := by
      cases mark
      · simp only [rmark, Bool.or_false, Bool.false_eq_true, if_false]
        apply List.ext_getElem?
        intro j
        rw [get_set HP.out]
        split
        · rename_i e; subst e; exact HP.out
        · rfl
      · simp only [rmark, Bool.or_true, if_true, CI.markM, HF.out]
        exact CI.modify_eq HP.out _
    have HE := hid E
    clear E
    cases mark with
    | false =>
      cases hm : p.marked with
      | false =>
        have HM := hid hm
        clear hm
        go_enter Try.func19, Try.ntmps19
        go_wp2_with fail
        refine (rfind_at (HA.out _ (((Fr.refl _ _).alloc _).alloc _)) hn hc key).mono ?_
        rintro e w3 ⟨rfl, hw⟩
        obtain ⟨b0, b1, -, F3⟩ := heap_three hw
        obtain ⟨c00, c01, z0, l0⟩ := cells2 b0
        obtain ⟨c10, c11, z1, l1⟩ := cells2 b1
        rw [findI_some HF.out]
        have k0 := (HA.out _ F3).k0 HP.out
        have k1 := (HA.out _ F3).k1 HP.out
        have k2 := (HA.out _ F3).k2 HP.out
        have k3 := (HA.out _ F3).k3 HP.out
        rw [HY.out] at k3
        rw [HM.out] at k1
        clear hw
        go_wp2_with fail
        obtain ⟨w4, hw4⟩ : ∃ w4, w3.alloc (.cells #[.bool p.full, .bool false, .int .i64 p.key, .int .i64 y] 49) = w4 := ⟨_, rfl⟩
        have b3 : w4.heap[w3.heap.size]? = some (.cells #[.bool p.full, .bool false, .int .i64 p.key, .int .i64 y] 49) := by rw [← hw4]; exact heap_alloc_new _ _
        have F34 : Fr (fun _ => False) w3 w4 := by rw [← hw4]; exact (Fr.refl _ _).alloc _
        have F4 := F3.trans F34 (fun _ _ h => h)
        replace b0 := F34.heap b0 (fun h => h)
        replace b1 := F34.heap b1 (fun h => h)
        rw [hw4]
        have l3 := lt_of_heap b3
        have n1 : w.heap.size + 1 ≠ w3.heap.size := by omega
        have n2 : w3.heap.size ≠ w.heap.size + 1 := by omega
        clear c00 c01 z0 l0 c10 c11 z1 l1 k0 k1 k2 k3 hw4
        obtain ⟨c00, c01, z0, l0⟩ := cells2 b0
        obtain ⟨c10, c11, z1, l1⟩ := cells2 b1
        obtain ⟨c30, c31, c32, c33, z3, l3⟩ := cells4 b3
        have HS := hid F4
        clear b0 b1 b3 F34 F4
        go_region_held3 (fun W => W.cell? ⟨w.heap.size, 0, none⟩ = some (.slice (some ⟨b, 0, none⟩) pl.length cap) ∧ W.cell? ⟨w.heap.size, 1, none⟩ = some (.int .i64 hand) ∧ W.cell? ⟨w3.heap.size, 0, none⟩ = some (.bool p.full) ∧ W.cell? ⟨w3.heap.size, 1, none⟩ = some (.bool false) ∧ W.cell? ⟨w3.heap.size, 2, none⟩ = some (.int .i64 p.key) ∧ W.cell? ⟨w3.heap.size, 3, none⟩ = some (.int .i64 y))
            (go_keep)
            ((go_at_call 34; refine (rwith_at (HA.out _ HS.out.drew) hn hc HV.out i hi ⟨p.key, p.v, p.full, false⟩ y HY.out).mono ?_; rintro e w5 ⟨g, cap', rfl, hR, hcap, hg, F5⟩; have HR := hid hR; have d00 := (F5.cell (p := ⟨w.heap.size, 0, none⟩) l0 (fun h => h)).trans c00; have d01 := (F5.cell (p := ⟨w.heap.size, 1, none⟩) l0 (fun h => h)).trans c01; have d10 := (F5.cell (p := ⟨w.heap.size + 1, 0, none⟩) l1 (fun h => h)).trans c10; have d11 := (F5.cell (p := ⟨w.heap.size + 1, 1, none⟩) l1 (fun h => h)).trans c11; have dz : ∀ o, w5.frozen? ⟨w.heap.size + 1, o, none⟩ = false := fun o => (World.frozen?_of_block (F5.block _ l1 (fun h => h))).trans (z1 o); have d30 := (F5.cell (p := ⟨w3.heap.size, 0, none⟩) l3 (fun h => h)).trans c30; have d31 := (F5.cell (p := ⟨w3.heap.size, 1, none⟩) l3 (fun h => h)).trans c31; have d32 := (F5.cell (p := ⟨w3.heap.size, 2, none⟩) l3 (fun h => h)).trans c32; have d33 := (F5.cell (p := ⟨w3.heap.size, 3, none⟩) l3 (fun h => h)).trans c33; have l5 := F5.size; clear hR))
        go_wp2
        have hg2 : w4.heap.size ≤ g := hg
        have F := (HS.out.drew.trans F5 (fun _ _ h => h))
        refine bodyPost_ret (v := .tuple #[.agg #[.slice (some ⟨g, 0, none⟩) pl.length cap', .int .i64 hand], .int .i64 y, .bool true]) (by simp [results, go_sem, *]) rfl ?_
        refine ⟨.agg #[.slice (some ⟨g, 0, none⟩) pl.length cap', .int .i64 hand], by simp [CI.got, HF.out, HP.out, HY.out], ⟨g, cap', by rw [HE.out]; simp, ?_, by rw [HE.out]; simpa using hcap⟩, ?_⟩
        · rw [HE.out, HM.out]
          exact HR.out.fr (((Fr.refl (fun b => b = w.heap.size + 1) _).setCell (fun _ => rfl) _).setCell (fun _ => rfl) _) (by omega)
        · exact (F.setNew (by omega) _).setNew (by omega) _
      | true =>
        have HM := hid hm
        clear hm
        go_enter Try.func19, Try.ntmps19
        go_wp2_with fail
        refine (rfind_at (HA.out _ (((Fr.refl _ _).alloc _).alloc _)) hn hc key).mono ?_
        rintro e w3 ⟨rfl, hw⟩
        obtain ⟨b0, b1, -, F3⟩ := heap_three hw
        obtain ⟨c00, c01, z0, l0⟩ := cells2 b0
        obtain ⟨c10, c11, z1, l1⟩ := cells2 b1
        rw [findI_some HF.out]
        have k0 := (HA.out _ F3).k0 HP.out
        have k1 := (HA.out _ F3).k1 HP.out
        have k2 := (HA.out _ F3).k2 HP.out
        have k3 := (HA.out _ F3).k3 HP.out
        rw [HY.out] at k3
        rw [HM.out] at k1
        clear hw
        go_wp2_with fail
        obtain ⟨w4, hw4⟩ : ∃ w4, w3.alloc (.cells #[.bool p.full, .bool true, .int .i64 p.key, .int .i64 y] 49) = w4 := ⟨_, rfl⟩
        have b3 : w4.heap[w3.heap.size]? = some (.cells #[.bool p.full, .bool true, .int .i64 p.key, .int .i64 y] 49) := by rw [← hw4]; exact heap_alloc_new _ _
        have F34 : Fr (fun _ => False) w3 w4 := by rw [← hw4]; exact (Fr.refl _ _).alloc _
        have F4 := F3.trans F34 (fun _ _ h => h)
        replace b0 := F34.heap b0 (fun h => h)
        replace b1 := F34.heap b1 (fun h => h)
        rw [hw4]
        have l3 := lt_of_heap b3
        have n1 : w.heap.size + 1 ≠ w3.heap.size := by omega
        have n2 : w3.heap.size ≠ w.heap.size + 1 := by omega
        clear c00 c01 z0 l0 c10 c11 z1 l1 k0 k1 k2 k3 hw4
        obtain ⟨c00, c01, z0, l0⟩ := cells2 b0
        obtain ⟨c10, c11, z1, l1⟩ := cells2 b1
        obtain ⟨c30, c31, c32, c33, z3, l3⟩ := cells4 b3
        have HS := hid F4
        clear b0 b1 b3 F34 F4
        go_region_held3 (fun W => W.cell? ⟨w.heap.size, 0, none⟩ = some (.slice (some ⟨b, 0, none⟩) pl.length cap) ∧ W.cell? ⟨w.heap.size, 1, none⟩ = some (.int .i64 hand) ∧ W.cell? ⟨w3.heap.size, 0, none⟩ = some (.bool p.full) ∧ W.cell? ⟨w3.heap.size, 1, none⟩ = some (.bool true) ∧ W.cell? ⟨w3.heap.size, 2, none⟩ = some (.int .i64 p.key) ∧ W.cell? ⟨w3.heap.size, 3, none⟩ = some (.int .i64 y))
            (go_keep)
            ((go_at_call 34; refine (rwith_at (HA.out _ HS.out.drew) hn hc HV.out i hi ⟨p.key, p.v, p.full, true⟩ y HY.out).mono ?_; rintro e w5 ⟨g, cap', rfl, hR, hcap, hg, F5⟩; have HR := hid hR; have d00 := (F5.cell (p := ⟨w.heap.size, 0, none⟩) l0 (fun h => h)).trans c00; have d01 := (F5.cell (p := ⟨w.heap.size, 1, none⟩) l0 (fun h => h)).trans c01; have d10 := (F5.cell (p := ⟨w.heap.size + 1, 0, none⟩) l1 (fun h => h)).trans c10; have d11 := (F5.cell (p := ⟨w.heap.size + 1, 1, none⟩) l1 (fun h => h)).trans c11; have dz : ∀ o, w5.frozen? ⟨w.heap.size + 1, o, none⟩ = false := fun o => (World.frozen?_of_block (F5.block _ l1 (fun h => h))).trans (z1 o); have d30 := (F5.cell (p := ⟨w3.heap.size, 0, none⟩) l3 (fun h => h)).trans c30; have d31 := (F5.cell (p := ⟨w3.heap.size, 1, none⟩) l3 (fun h => h)).trans c31; have d32 := (F5.cell (p := ⟨w3.heap.size, 2, none⟩) l3 (fun h => h)).trans c32; have d33 := (F5.cell (p := ⟨w3.heap.size, 3, none⟩) l3 (fun h => h)).trans c33; have l5 := F5.size; clear hR))
        go_wp2
        have hg2 : w4.heap.size ≤ g := hg
        have F := (HS.out.drew.trans F5 (fun _ _ h => h))
        refine bodyPost_ret (v := .tuple #[.agg #[.slice (some ⟨g, 0, none⟩) pl.length cap', .int .i64 hand], .int .i64 y, .bool true]) (by simp [results, go_sem, *]) rfl ?_
        refine ⟨.agg #[.slice (some ⟨g, 0, none⟩) pl.length cap', .int .i64 hand], by simp [CI.got, HF.out, HP.out, HY.out], ⟨g, cap', by rw [HE.out]; simp, ?_, by rw [HE.out]; simpa using hcap⟩, ?_⟩
        · rw [HE.out, HM.out]
          exact HR.out.fr (((Fr.refl (fun b => b = w.heap.size + 1) _).setCell (fun _ => rfl) _).setCell (fun _ => rfl) _) (by omega)
        · exact (F.setNew (by omega) _).setNew (by omega) _
    | true =>
      cases hm : p.marked with
      | false =>
        have HM := hid hm
        clear hm
        go_enter Try.func19, Try.ntmps19
        go_wp2_with fail
        refine (rfind_at (HA.out _ (((Fr.refl _ _).alloc _).alloc _)) hn hc key).mono ?_
        rintro e w3 ⟨rfl, hw⟩
        obtain ⟨b0, b1, -, F3⟩ := heap_three hw
        obtain ⟨c00, c01, z0, l0⟩ := cells2 b0
        obtain ⟨c10, c11, z1, l1⟩ := cells2 b1
        rw [findI_some HF.out]
        have k0 := (HA.out _ F3).k0 HP.out
        have k1 := (HA.out _ F3).k1 HP.out
        have k2 := (HA.out _ F3).k2 HP.out
        have k3 := (HA.out _ F3).k3 HP.out
        rw [HY.out] at k3
        rw [HM.out] at k1
        clear hw
        go_wp2_with fail
        obtain ⟨w4, hw4⟩ : ∃ w4, w3.alloc (.cells #[.bool p.full, .bool true, .int .i64 p.key, .int .i64 y] 49) = w4 := ⟨_, rfl⟩
        have b3 : w4.heap[w3.heap.size]? = some (.cells #[.bool p.full, .bool true, .int .i64 p.key, .int .i64 y] 49) := by rw [← hw4]; exact heap_alloc_new _ _
        have F34 : Fr (fun _ => False) w3 w4 := by rw [← hw4]; exact (Fr.refl _ _).alloc _
        have F4 := F3.trans F34 (fun _ _ h => h)
        replace b0 := F34.heap b0 (fun h => h)
        replace b1 := F34.heap b1 (fun h => h)
        rw [hw4]
        have l3 := lt_of_heap b3
        have n1 : w.heap.size + 1 ≠ w3.heap.size := by omega
        have n2 : w3.heap.size ≠ w.heap.size + 1 := by omega
        clear c00 c01 z0 l0 c10 c11 z1 l1 k0 k1 k2 k3 hw4
        obtain ⟨c00, c01, z0, l0⟩ := cells2 b0
        obtain ⟨c10, c11, z1, l1⟩ := cells2 b1
        obtain ⟨c30, c31, c32, c33, z3, l3⟩ := cells4 b3
        have HS := hid F4
        clear b0 b1 b3 F34 F4
        go_region_held3 (fun W => W.cell? ⟨w.heap.size, 0, none⟩ = some (.slice (some ⟨b, 0, none⟩) pl.length cap) ∧ W.cell? ⟨w.heap.size, 1, none⟩ = some (.int .i64 hand) ∧ W.cell? ⟨w3.heap.size, 0, none⟩ = some (.bool p.full) ∧ W.cell? ⟨w3.heap.size, 1, none⟩ = some (.bool true) ∧ W.cell? ⟨w3.heap.size, 2, none⟩ = some (.int .i64 p.key) ∧ W.cell? ⟨w3.heap.size, 3, none⟩ = some (.int .i64 y))
            (go_keep)
            ((go_at_call 34; refine (rwith_at (HA.out _ HS.out.drew) hn hc HV.out i hi ⟨p.key, p.v, p.full, true⟩ y HY.out).mono ?_; rintro e w5 ⟨g, cap', rfl, hR, hcap, hg, F5⟩; have HR := hid hR; have d00 := (F5.cell (p := ⟨w.heap.size, 0, none⟩) l0 (fun h => h)).trans c00; have d01 := (F5.cell (p := ⟨w.heap.size, 1, none⟩) l0 (fun h => h)).trans c01; have d10 := (F5.cell (p := ⟨w.heap.size + 1, 0, none⟩) l1 (fun h => h)).trans c10; have d11 := (F5.cell (p := ⟨w.heap.size + 1, 1, none⟩) l1 (fun h => h)).trans c11; have dz : ∀ o, w5.frozen? ⟨w.heap.size + 1, o, none⟩ = false := fun o => (World.frozen?_of_block (F5.block _ l1 (fun h => h))).trans (z1 o); have d30 := (F5.cell (p := ⟨w3.heap.size, 0, none⟩) l3 (fun h => h)).trans c30; have d31 := (F5.cell (p := ⟨w3.heap.size, 1, none⟩) l3 (fun h => h)).trans c31; have d32 := (F5.cell (p := ⟨w3.heap.size, 2, none⟩) l3 (fun h => h)).trans c32; have d33 := (F5.cell (p := ⟨w3.heap.size, 3, none⟩) l3 (fun h => h)).trans c33; have l5 := F5.size; clear hR))
        go_wp2
        have hg2 : w4.heap.size ≤ g := hg
        have F := (HS.out.drew.trans F5 (fun _ _ h => h))
        refine bodyPost_ret (v := .tuple #[.agg #[.slice (some ⟨g, 0, none⟩) pl.length cap', .int .i64 hand], .int .i64 y, .bool true]) (by simp [results, go_sem, *]) rfl ?_
        refine ⟨.agg #[.slice (some ⟨g, 0, none⟩) pl.length cap', .int .i64 hand], by simp [CI.got, HF.out, HP.out, HY.out], ⟨g, cap', by rw [HE.out]; simp, ?_, by rw [HE.out]; simpa using hcap⟩, ?_⟩
        · rw [HE.out, HM.out]
          exact HR.out.fr (((Fr.refl (fun b => b = w.heap.size + 1) _).setCell (fun _ => rfl) _).setCell (fun _ => rfl) _) (by omega)
        · exact (F.setNew (by omega) _).setNew (by omega) _
      | true =>
        have HM := hid hm
        clear hm
        go_enter Try.func19, Try.ntmps19
        go_wp2_with fail
        refine (rfind_at (HA.out _ (((Fr.refl _ _).alloc _).alloc _)) hn hc key).mono ?_
        rintro e w3 ⟨rfl, hw⟩
        obtain ⟨b0, b1, -, F3⟩ := heap_three hw
        obtain ⟨c00, c01, z0, l0⟩ := cells2 b0
        obtain ⟨c10, c11, z1, l1⟩ := cells2 b1
        rw [findI_some HF.out]
        have k0 := (HA.out _ F3).k0 HP.out
        have k1 := (HA.out _ F3).k1 HP.out
        have k2 := (HA.out _ F3).k2 HP.out
        have k3 := (HA.out _ F3).k3 HP.out
        rw [HY.out] at k3
        rw [HM.out] at k1
        clear hw
        go_wp2_with fail
        obtain ⟨w4, hw4⟩ : ∃ w4, w3.alloc (.cells #[.bool p.full, .bool true, .int .i64 p.key, .int .i64 y] 49) = w4 := ⟨_, rfl⟩
        have b3 : w4.heap[w3.heap.size]? = some (.cells #[.bool p.full, .bool true, .int .i64 p.key, .int .i64 y] 49) := by rw [← hw4]; exact heap_alloc_new _ _
        have F34 : Fr (fun _ => False) w3 w4 := by rw [← hw4]; exact (Fr.refl _ _).alloc _
        have F4 := F3.trans F34 (fun _ _ h => h)
        replace b0 := F34.heap b0 (fun h => h)
        replace b1 := F34.heap b1 (fun h => h)
        rw [hw4]
        have l3 := lt_of_heap b3
        have n1 : w.heap.size + 1 ≠ w3.heap.size := by omega
        have n2 : w3.heap.size ≠ w.heap.size + 1 := by omega
        clear c00 c01 z0 l0 c10 c11 z1 l1 k0 k1 k2 k3 hw4
        obtain ⟨c00, c01, z0, l0⟩ := cells2 b0
        obtain ⟨c10, c11, z1, l1⟩ := cells2 b1
        obtain ⟨c30, c31, c32, c33, z3, l3⟩ := cells4 b3
        have HS := hid F4
        clear b0 b1 b3 F34 F4
        go_region_held3 (fun W => W.cell? ⟨w.heap.size, 0, none⟩ = some (.slice (some ⟨b, 0, none⟩) pl.length cap) ∧ W.cell? ⟨w.heap.size, 1, none⟩ = some (.int .i64 hand) ∧ W.cell? ⟨w3.heap.size, 0, none⟩ = some (.bool p.full) ∧ W.cell? ⟨w3.heap.size, 1, none⟩ = some (.bool true) ∧ W.cell? ⟨w3.heap.size, 2, none⟩ = some (.int .i64 p.key) ∧ W.cell? ⟨w3.heap.size, 3, none⟩ = some (.int .i64 y))
            (go_keep)
            ((go_at_call 34; refine (rwith_at (HA.out _ HS.out.drew) hn hc HV.out i hi ⟨p.key, p.v, p.full, true⟩ y HY.out).mono ?_; rintro e w5 ⟨g, cap', rfl, hR, hcap, hg, F5⟩; have HR := hid hR; have d00 := (F5.cell (p := ⟨w.heap.size, 0, none⟩) l0 (fun h => h)).trans c00; have d01 := (F5.cell (p := ⟨w.heap.size, 1, none⟩) l0 (fun h => h)).trans c01; have d10 := (F5.cell (p := ⟨w.heap.size + 1, 0, none⟩) l1 (fun h => h)).trans c10; have d11 := (F5.cell (p := ⟨w.heap.size + 1, 1, none⟩) l1 (fun h => h)).trans c11; have dz : ∀ o, w5.frozen? ⟨w.heap.size + 1, o, none⟩ = false := fun o => (World.frozen?_of_block (F5.block _ l1 (fun h => h))).trans (z1 o); have d30 := (F5.cell (p := ⟨w3.heap.size, 0, none⟩) l3 (fun h => h)).trans c30; have d31 := (F5.cell (p := ⟨w3.heap.size, 1, none⟩) l3 (fun h => h)).trans c31; have d32 := (F5.cell (p := ⟨w3.heap.size, 2, none⟩) l3 (fun h => h)).trans c32; have d33 := (F5.cell (p := ⟨w3.heap.size, 3, none⟩) l3 (fun h => h)).trans c33; have l5 := F5.size; clear hR))
        go_wp2
        have hg2 : w4.heap.size ≤ g := hg
        have F := (HS.out.drew.trans F5 (fun _ _ h => h))
        refine bodyPost_ret (v := .tuple #[.agg #[.slice (some ⟨g, 0, none⟩) pl.length cap', .int .i64 hand], .int .i64 y, .bool true]) (by simp [results, go_sem, *]) rfl ?_
        refine ⟨.agg #[.slice (some ⟨g, 0, none⟩) pl.length cap', .int .i64 hand], by simp [CI.got, HF.out, HP.out, HY.out], ⟨g, cap', by rw [HE.out]; simp, ?_, by rw [HE.out]; simpa using hcap⟩, ?_⟩
        · rw [HE.out, HM.out]
          exact HR.out.fr (((Fr.refl (fun b => b = w.heap.size + 1) _).setCell (fun _ => rfl) _).setCell (fun _ => rfl) _) (by omega)
        · exact (F.setNew (by omega) _).setNew (by omega) _
end Go.Proofs.Ytfeemnhkdjkgpaa
