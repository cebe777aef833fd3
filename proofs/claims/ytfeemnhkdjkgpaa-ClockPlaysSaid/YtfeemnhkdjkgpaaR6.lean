/- The reference's clock: what Put computes where no place is free. Conditions: the places lie in the world as RSl says. -/
import Derived.Test.YtfeemnhkdjkgpaaR5
namespace Go.Proofs.Ytfeemnhkdjkgpaa
open Go.RowKit Go.Sg Go.Sg.Clk

theorem RSl.ne_of {tp tc : TypeId} {w : World} {g cap k : Nat} {pl : List Pl} {c : Array Value} (h : RSl tp w g cap pl) (hk : w.heap[k]? = some (.cells c tc)) (hne : tc ≠ tp) : g ≠ k := by
  rintro rfl
  obtain ⟨rest, h⟩ := h.h
  rw [h] at hk
  cases hk
  exact hne rfl

set_option maxHeartbeats 4000000 in
theorem rput_full {w : World} {b cap hand : Nat} {pl : List Pl} (h : RS w b cap pl) (hn : pl.length ≤ 4096) (hc : pl.length ≤ cap) (hv : ∀ p ∈ pl, ∃ y, p.v = .int .i64 y) (hh : hand < pl.length) (key x : Int) (hf : find pl key = none) (he : empty pl = none) :
    Calls Try.prog 22 #[.agg #[.slice (some ⟨b, 0, none⟩) pl.length cap, .int .i64 hand], .int .i64 key, .int .i64 x] w (RPutPost pl hand key x w) := by
  have hb := h.lt
  have HA := hid (fun W (F : Fr (fun _ => False) w W) => h.fr F (fun h => h))
  have HV := hid hv
  have HF := hid hf
  have HO := hid he
  clear h hv hf he
  go_enter Try.func22, Try.ntmps22
  go_wp2_with fail
  refine (rfind_at (HA.out _ ((((Fr.refl _ _).alloc _).alloc _).alloc _)) hn hc key).mono ?_
  rintro e w4 ⟨rfl, hw⟩
  obtain ⟨b0, b1, b2, -, F4⟩ := heap_four hw
  obtain ⟨c00, c01, z0, l0⟩ := cells2 b0
  rw [findI_none HF.out]
  have B0 := hid b0
  have B1 := hid b1
  have B2 := hid b2
  have HS := hid (HA.out _ F4)
  clear hw b0 b1 b2
  go_wp2
  go_loop [10] (fun i' => ∃ k : Nat, k ≤ pl.length ∧ i' = .int .i64 k) (fun i' => pl.length - (intOf i').toNat)
  case atStart => exact ⟨0, Nat.zero_le _, rfl⟩
  case round =>
    obtain ⟨k, hk, rfl⟩ := hrel
    by_cases hlt : k < pl.length
    · obtain ⟨q, hq⟩ : ∃ q, pl[k]? = some q := ⟨_, List.getElem?_eq_getElem hlt⟩
      have k0 := HS.out.k0 hq
      rw [full_of_empty HO.out hq] at k0
      clear hq
      go_wp2
      go_round
      case rel => exact ⟨k + 1, by omega, by simp⟩
      case measure => simp [intOf]; omega
    · obtain rfl : k = pl.length := by omega
      go_wp2
      go_loopg [] pl.length (fun k wr => ∃ (pl' : List Pl) (hd g cp : Nat), pl'.length = pl.length ∧ wr.heap[w.heap.size]? = some (.cells #[.slice (some ⟨g, 0, none⟩) pl'.length cp, .int .i64 hd] 43) ∧ RS wr g cp pl' ∧ pl'.length ≤ cp ∧
        (∀ p ∈ pl', ∃ y, p.v = .int .i64 y) ∧ hd < pl'.length ∧ spin k pl' hd = spin pl.length pl hand ∧ marks pl' ≤ k ∧ Fr (fun b => b = w.heap.size) w4 wr)
      case atStart => exact ⟨pl, hand, b, cap, rfl, B0.out, HS.out, hc, HV.out, hh, rfl, marks_le _, Fr.refl _ _⟩
      case round =>
        clear c00 c01 z0
        obtain ⟨pl', hd, g, cp, hL, hB, hR, hcp, hv', hhd, hsp, hmk, hFr⟩ := hrel
        obtain ⟨p, hp⟩ : ∃ p, pl'[hd]? = some p := ⟨_, List.getElem?_eq_getElem hhd⟩
        obtain ⟨y, hy⟩ := hv' p (List.mem_of_getElem? hp)
        have hn' : pl'.length ≤ 4096 := by omega
        obtain ⟨c00, c01, z0, l0'⟩ := cells2 hB
        have k0 := hR.k0 hp
        have k1 := hR.k1 hp
        have k2 := hR.k2 hp
        have k3 := hR.k3 hp
        rw [hy] at k3
        have HL := hid hL
        have HB := hid hB
        have HR := hid hR
        have HV' := hid hv'
        have HSP := hid hsp
        have HP := hid hp
        have HY := hid hy
        have hmod := Nat.mod_lt (hd + 1) (show 0 < pl'.length by omega)
        have hc1 : ((hd : Int) + 1) % (pl'.length : Int) = (((hd + 1) % pl'.length : Nat) : Int) := by simp
        have HC := hid hc1
        clear hL hB hR hv' hsp hp hy hc1
        cases hm : p.marked with
        | true =>
          rw [hm] at k1
          have HM := hid hm
          have hpos := marks_pos HP.out hm
          have hset := marks_set HP.out hm
          clear hm
          obtain ⟨gg, rfl⟩ : ∃ gg, gk = gg + 1 := ⟨gk - 1, by omega⟩
          go_wp2_with fail
          refine (rwith_at (HR.out.fr ((Fr.refl (fun _ => False) _).alloc _) (fun h => h)) hn' hcp HV'.out hd hhd ⟨p.key, p.v, p.full, false⟩ y HY.out).mono ?_
          rintro e w5 ⟨g', cap', rfl, hR', hcap', hg', F5⟩
          have F5' := ((Fr.refl (fun _ => False) wr).alloc (.cells #[.bool p.full, .bool false, .int .i64 p.key, .int .i64 y] 49)).trans F5 (fun _ _ h => h)
          have hB' := F5'.heap HB.out (fun h => h)
          have l5 := F5'.size
          clear c00 c01 z0 l0'
          obtain ⟨c00, c01, z0, l0'⟩ := cells2 hB'
          have HB' := hid hB'
          have HR' := hid hR'
          have hF5 := hid F5'
          clear hB' hR' F5 F5' k0 k1 k2 k3
          go_wp2
          go_roundg gg
          case measure => omega
          case rel =>
            rw [HC.out]
            have hg2 : w.heap.size < g' := by
              have : wr.heap.size + 1 ≤ g' := by simpa using hg'
              have := lt_of_heap HB.out
              omega
            refine ⟨pl'.set hd { p with marked := false }, (hd + 1) % pl'.length, g', cap', by simpa using HL.out, ?_, ?_, by simpa using hcap', ?_, by simpa using hmod, by rw [← HSP.out, spin_mark HP.out HM.out], by omega, ?_⟩
            · rw [heap_setCell_cells _ _ _ _ (heap_setCell_cells _ _ _ _ (heap_setCell_cells _ _ _ _ HB'.out))]
              simp
            · refine HR'.out.fr (S := fun b => b = w.heap.size) ?_ (by omega)
              repeat (with_reducible refine Fr.setCell ?_ (fun _ => by simp) _)
              exact Fr.refl _ _
            · intro q hq
              rcases List.mem_or_eq_of_mem_set hq with hq | rfl
              · exact HV'.out q hq
              · exact ⟨y, HY.out⟩
            · repeat (with_reducible refine Fr.setCell ?_ (fun _ => by simp) _)
              exact hFr.trans hF5.out (fun _ _ h => h.elim)
        | false =>
          rw [hm] at k1
          have HM := hid hm
          clear hm
          have hs0 := spin_stop (k := gk) HP.out HM.out
          rw [HSP.out] at hs0
          have HE : Hid (putM pl hand key (.int .i64 x) = ⟨pl'.set hd ⟨key, .int .i64 x, true, true⟩, (hd + 1) % pl'.length, some p⟩) := hid (by
            rw [putM_full HF.out HO.out, hs0, HL.out, HP.out])
          clear hs0
          go_wp2_with fail
          refine (rwith_at (HR.out.fr ((Fr.refl (fun _ => False) _).alloc _) (fun h => h)) hn' hcp HV'.out hd hhd ⟨key, .int .i64 x, true, true⟩ x rfl).mono ?_
          rintro e w5 ⟨g', cap', rfl, hR', hcap', hg', F5⟩
          have b3 := F5.heap (heap_alloc_new wr _) (fun h => h)
          have F5' := ((Fr.refl (fun _ => False) wr).alloc (.cells #[.bool p.full, .bool false, .int .i64 p.key, .int .i64 y] 49)).trans F5 (fun _ _ h => h)
          have hB' := F5'.heap HB.out (fun h => h)
          have l5 := F5'.size
          have hg2 : wr.heap.size + 1 ≤ g' := by simpa using hg'
          have l4 := hFr.size
          have hb1 := F5'.heap (hFr.heap B1.out (by omega)) (fun h => h)
          have hb2 := F5'.heap (hFr.heap B2.out (by omega)) (fun h => h)
          have l1 := lt_of_heap B1.out
          have l2 := lt_of_heap B2.out
          clear c00 c01 z0 l0' k0 k1 k2 k3
          obtain ⟨c00, c01, z0, l0'⟩ := cells2 hB'
          obtain ⟨c10, c11, z1, l1'⟩ := cells2 hb1
          obtain ⟨c20, c21, c22, c23, z2, l2'⟩ := cells4 hb2
          obtain ⟨c30, c31, c32, c33, z3, l3'⟩ := cells4 b3
          have n1 : w.heap.size ≠ wr.heap.size := by omega
          have HR' := hid hR'
          have hF5 := hid F5'
          have hB2 := And.intro hB' (And.intro hb1 (And.intro hb2 b3))
          clear hR' F5 F5' hb1 hb2 b3 hB'
          have HB2 := hid hB2
          clear hB2
          go_wp2
          rw [HC.out]
          obtain ⟨w6, hw6⟩ : ∃ w6, ((w5.setCell ⟨w.heap.size, 0, none⟩ (.slice (some ⟨g', 0, none⟩) pl'.length cap')).setCell ⟨w.heap.size, 1, none⟩ (.int .i64 hd)).setCell ⟨w.heap.size, 1, none⟩ (.int .i64 ((hd + 1) % pl'.length : Nat)) = w6 := ⟨_, rfl⟩
          have F6 : Fr (fun b => b = w.heap.size) w5 w6 := by
            rw [← hw6]
            repeat (with_reducible refine Fr.setCell ?_ (fun _ => by simp) _)
            exact Fr.refl _ _
          have hB6 : w6.heap[w.heap.size]? = some (.cells #[.slice (some ⟨g', 0, none⟩) pl'.length cap', .int .i64 ((hd + 1) % pl'.length : Nat)] 43) := by
            rw [← hw6, heap_setCell_cells _ _ _ _ (heap_setCell_cells _ _ _ _ (heap_setCell_cells _ _ _ _ HB2.out.1))]
            simp
          rw [hw6]
          have hb1 := F6.heap HB2.out.2.1 (by omega)
          have hb2 := F6.heap HB2.out.2.2.1 (by omega)
          have hb3 := F6.heap HB2.out.2.2.2 (by omega)
          have hR6 := HR'.out.fr F6 (by omega)
          have hF6 := hid ((hFr.trans hF5.out (fun _ _ h => h.elim)).trans F6 (fun _ _ h => h))
          clear c00 c01 z0 l0' c10 c11 z1 l1' c20 c21 c22 c23 z2 l2' c30 c31 c32 c33 z3 l3' hw6 F6
          obtain ⟨c00, c01, z0, l0'⟩ := cells2 hB6
          obtain ⟨c10, c11, z1, l1'⟩ := cells2 hb1
          obtain ⟨c20, c21, c22, c23, z2, l2'⟩ := cells4 hb2
          obtain ⟨c30, c31, c32, c33, z3, l3'⟩ := cells4 hb3
          have HR6 := hid hR6
          clear hR6 hB6 hb1 hb2 hb3
          go_region
          go_wp2
          refine bodyPost_ret (v := .tuple #[.agg #[.slice (some ⟨g', 0, none⟩) pl'.length cap', .int .i64 ((hd + 1) % pl'.length : Nat)], goneP p.full false (some p), .bool true]) (by simp [results, go_sem, goneP, CI.goneK, CI.goneV, HY.out, *]) rfl ?_
          refine ⟨.agg #[.slice (some ⟨g', 0, none⟩) pl'.length cap', .int .i64 ((hd + 1) % pl'.length : Nat)], p.full, false, by rw [HE.out]; rfl, ⟨g', cap', by rw [HE.out]; simp, ?_, by rw [HE.out]; simpa using hcap'⟩, ?_⟩
          · rw [HE.out]
            refine (HR6.out.fr (S := fun b => b = w.heap.size + 1 ∨ b = w.heap.size + 1 + 1) ?_ (by omega))
            refine Fr.drew ?_
            repeat (with_reducible refine Fr.setCell ?_ (fun _ => by simp) _)
            exact Fr.refl _ _
          · refine Fr.drew ?_
            repeat (with_reducible refine Fr.setNew ?_ (by omega) _)
            exact F4.trans hF6.out (fun _ _ h => by omega)

theorem rput_at {w : World} {b cap hand : Nat} {pl : List Pl} (h : RS w b cap pl) (hn : pl.length ≤ 4096) (hc : pl.length ≤ cap) (hv : ∀ p ∈ pl, ∃ y, p.v = .int .i64 y) (hh : hand < pl.length) (key x : Int) :
    Calls Try.prog 22 #[.agg #[.slice (some ⟨b, 0, none⟩) pl.length cap, .int .i64 hand], .int .i64 key, .int .i64 x] w (RPutPost pl hand key x w) := by
  cases hf : find pl key with
  | some i => exact rput_there h hn hc hv key x hf
  | none =>
    cases he : empty pl with
    | some i => exact rput_free h hn hc hv key x hf he
    | none => exact rput_full h hn hc hv hh key x hf he
end Go.Proofs.Ytfeemnhkdjkgpaa
