/- The walk of ClockPlays within its bounds. Conditions: the arguments read as the row opens them. -/
import Derived.Test.YtfeemnhkdjkgpaaRB
namespace Go.Proofs.Ytfeemnhkdjkgpaa
open Go.RowKit Go.Sg Go.Sg.Clk

set_option maxHeartbeats 4000000 in
set_option maxRecDepth 100000 in
theorem clockPlays_in (n : Nat) (hn1 : 1 ≤ n ∧ n ≤ 20) (a : Option Addr) (len cap : Nat) (l : List (Int × Int × Int)) (hll : l.length = len) (w : World) (hl : Row3 w a l) (hlen : len ≤ 200) :
    Calls Try.prog 5 #[.int .i64 n, .slice a len cap] w fun e w' => e = .returned (.bool true) ∧ Fr (fun _ => False) w w' := by
  have HL := hid hl
  have HLL := hid hll
  clear hl hll
  go_enter Try.func5, Try.ntmps5
  go_wp2_with fail
  refine (CI.new_ok n (by omega) (by omega) w).mono ?_
  rintro e wc ⟨rfl, h0, F0⟩
  obtain ⟨bc, hbc⟩ : ∃ bc, w.heap.size + 2 = bc := ⟨_, rfl⟩
  obtain ⟨bp, hbp⟩ : ∃ bp, w.heap.size = bp := ⟨_, rfl⟩
  obtain ⟨bm, hbm⟩ : ∃ bm, w.heap.size + 1 = bm := ⟨_, rfl⟩
  have hnew : w.heap.size ≤ bc ∧ w.heap.size ≤ bp ∧ w.heap.size ≤ bm := by omega
  have t : ∀ b, b < w.heap.size → (b = bc ∨ b = bp ∨ b = bm) → False := fun b hb h => by omega
  rw [hbc, hbm, hbp] at h0
  rw [hbc]
  clear hbc hbm hbp
  have H0 := hid h0
  have T := hid t
  clear h0 t
  go_wp2_with fail
  refine (rnew_ok n (by omega) wc).mono ?_
  rintro e w1 ⟨v, rfl, ⟨g, cp, rfl, hR, hcp⟩, F1⟩
  obtain ⟨br, hbr⟩ : ∃ br, w1.heap.size = br := ⟨_, rfl⟩
  obtain ⟨w2, hw2⟩ : ∃ w2, w1.alloc (.cells #[.slice (some ⟨g, 0, none⟩) n cp, .int .i64 0] 43) = w2 := ⟨_, rfl⟩
  have F2 : Fr (fun _ => False) w1 w2 := by rw [← hw2]; exact (Fr.refl _ _).alloc _
  have hB : Both w2 bc bp bm br (List.replicate n (Pl.none (.int .i64 0))) 0 :=
    ⟨(H0.out.fr F1 (fun h => h) (fun h => h) (fun h => h)).fr F2 (fun h => h) (fun h => h) (fun h => h), g, cp, by rw [← hw2, ← hbr, List.length_replicate]; exact heap_alloc_new _ _, hR.fr F2 (fun h => h), hcp⟩
  have F02 := (F0.trans F1 (fun _ _ h => h)).trans F2 (fun _ _ h => h)
  have hbrn : w.heap.size ≤ br := by rw [← hbr]; exact Nat.le_trans F0.size F1.size
  have HB := hid hB
  have HW := hid hw2
  clear hB hR hcp H0 hw2
  go_wp2_with fail
  rw [HW.out]
  clear HW F2 hbr F1 F0
  go_loopw [7] (fun i wr => ∃ (k : Nat) (pl : List Pl) (hand : Nat), k ≤ len ∧ i = .int .i64 k ∧ Both wr bc bp bm br pl hand ∧ pl.length = n ∧ Fr (fun _ => False) w wr) (fun i _ => len - (intOf i).toNat)
  case atStart => exact ⟨0, _, _, Nat.zero_le _, rfl, HB.out, by simp, F02⟩
  case round =>
    obtain ⟨k, pl, hand, hk, rfl, hBo, hpl, hF⟩ := hrel
    have HBo := hid hBo
    have HP := hid hpl
    clear hBo hpl HB
    by_cases hkl : k < len
    · obtain ⟨x, hx⟩ : ∃ x, l[k]? = some x := ⟨_, List.getElem?_eq_getElem (by have := HLL.out; omega)⟩
      obtain ⟨b, off, rfl, hb, q0, q1, q2, -, -, -⟩ := (HL.out.below (hF.below (fun _ _ h => h))).at_ k x hx
      clear hx
      obtain ⟨g, cp, hbr, hR, hcp⟩ := HBo.out.r
      obtain ⟨c00, c01, z0, l0⟩ := cells2 hbr
      have hn' : pl.length ≤ 4096 := by have := HP.out; omega
      have hand_lt := HBo.out.c.hand
      have HR := hid hR
      have hvs := hid HBo.out.c.vs
      have HBR := hid hbr
      have HLT := hid HBo.out.lts
      clear hR hbr
      go_wp2_with fail
      · refine (rget_at (HR.out.fr ((Fr.refl (fun _ => False) _).alloc _) (fun h => h)) hn' hcp hvs.out x.2.1 true).mono ?_
        rintro e w3 ⟨v, rfl, ⟨g', cp', rfl, hR', hcp'⟩, F3⟩
        obtain ⟨y, hy⟩ := got_int hvs.out x.2.1
        rw [hy]
        have HY := hid hy
        clear hy
        have Fx : Fr (fun _ => False) wr w3 := ((Fr.refl (fun _ => False) wr).alloc _).trans F3 (fun _ _ h => h)
        have hx3 := F3.heap (heap_alloc_new wr _) (fun h => h)
        obtain ⟨d00, d01, dz, dl⟩ := cells2 (Fx.heap HBR.out (fun h => h))
        obtain ⟨x0, x1, x2, xz, xl⟩ := cells3 hx3
        have n1 : wr.heap.size ≠ br := by omega
        have n2 : br ≠ w3.heap.size := by omega
        have n3 : br ≠ w3.heap.size + 1 := by omega
        have n4 : wr.heap.size ≠ w3.heap.size := by omega
        have n5 : wr.heap.size ≠ w3.heap.size + 1 := by omega
        generalize hM : rmark true pl x.2.1 = pl3 at *
        have HM := hid hM
        clear hM
        go_wp2_with fail
        obtain ⟨w4, hw4⟩ : ∃ w4, (w3.setCell ⟨br, 0, none⟩ (.slice (some ⟨g', 0, none⟩) pl3.length cp')).setCell ⟨br, 1, none⟩ (.int .i64 hand) = w4 := ⟨_, rfl⟩
        obtain ⟨hMid, F4⟩ := Mid.of HBo.out Fx hR' hcp' hw4
        have hs4 : w4.heap.size = w3.heap.size := by rw [← hw4]; simp
        rw [hw4]
        obtain ⟨w5, hw5⟩ : ∃ w5, w4.alloc (.cells #[.slice (some ⟨g', 0, none⟩) pl3.length cp', .int .i64 hand] 43) = w5 := ⟨_, rfl⟩
        have F5 : Fr (fun _ => False) w4 w5 := by rw [← hw5]; exact (Fr.refl _ _).alloc _
        rw [hw5]
        have hMid5 := hMid.fr F5
        have F35 : Fr (fun b => b = br) w3 w5 := F4.trans F5 (fun _ _ h => h.elim)
        have hx5 := F35.heap hx3 n1
        have l3 := F3.size
        simp at l3
        clear x0 x1 x2 xz xl d00 d01 dz dl hw4 hw5 F4 F5 hMid hR' hx3
        have hMD := hid hMid5
        have HX5 := hid hx5
        clear hMid5 hx5
        obtain ⟨x0, x1, x2, xz, xl⟩ := cells3 HX5.out
        refine (CI.look_at hMD.out.c x.2.1).mono ?_
        rintro e w' ⟨rfl, rfl⟩
        rw [show (((find pl x.2.1).bind fun i => (pl[i]?).map (·.v)).getD (.int .i64 0)) = .int .i64 y from HY.out]
        go_wp2_with fail
        refine (CI.get_at hMD.out.c x.2.1).mono ?_
        rintro e w6 ⟨rfl, hA, F6⟩
        rw [HY.out]
        rw [show CI.markM pl x.2.1 = pl3 from HM.out] at hA
        have hB6 := hid (hMD.out.prog hA F6 (fun _ h => .inr (.inl h)))
        have LT := HLT.out
        have hl6 : pl3.length = n := by
          rw [← HM.out]; exact (markM_len _ _).trans HP.out
        have HL6 := hid hl6
        have F06 : Fr (fun _ => False) w w6 := ((hF.trans Fx (fun _ _ h => h)).trans F35 (fun _ _ h => by omega)).trans F6 (fun _ _ h => by omega)
        clear hA hl6 LT x0 x1 x2 xz xl
        go_wp2_with fail
        obtain ⟨pl2, hpl2⟩ : ∃ pl2, pl3 = pl2 := ⟨_, rfl⟩
        obtain ⟨hand2, hhand2⟩ : ∃ hand2, hand = hand2 := ⟨_, rfl⟩
        rw [hpl2, hhand2] at hB6
        rw [hpl2] at HL6
        obtain ⟨g2, cp2, hbr2, hR2, hcp2⟩ := hB6.out.r
        obtain ⟨c00, c01, z0, l0⟩ := cells2 hbr2
        have hn2 : pl2.length ≤ 4096 := by have := HL6.out; omega
        have hks := Nat.le_trans (keysOf_len pl2.length pl2) hn2
        have hd1 : ((pl2.length : Int) != (n : Int)) = false := by simp [HL6.out]
        have hd2 : ((pl2.countP (fun p => p.full) : Int) != ((keysOf pl2.length pl2).length : Int)) = false := by simp [keysOf_count]
        have HR2 := hid hR2
        have G := hid (Fr.refl (fun _ => False) w6)
        clear hR2 hbr2 hpl2 hhand2
        go_region_held3 (fun W => W.cell? ⟨br, 0, none⟩ = some (.slice (some ⟨g2, 0, none⟩) pl2.length cp2) ∧ W.cell? ⟨br, 1, none⟩ = some (.int .i64 hand2))
          (go_keep)
          (first
            | (go_at_call 17; refine (room_at (hB6.out.c.fr (by first | with_reducible exact G.out.drew | with_reducible exact G.out) (fun h => h) (fun h => h) (fun h => h))).mono ?_; rintro e w7 ⟨rfl, rfl⟩)
            | (go_at_call 23; refine (CI.len_at (hB6.out.c.fr (by first | with_reducible exact G.out.drew | with_reducible exact G.out) (fun h => h) (fun h => h) (fun h => h))).mono ?_; rintro e w7 ⟨rfl, rfl⟩)
            | (go_at_call 24; refine (rkeys_at (HR2.out.fr (by first | with_reducible exact G.out.drew | with_reducible exact G.out) (fun h => h)) hn2 hcp2).mono ?_; rintro e w7 ⟨v7, rfl, ⟨a7, ca7, rfl, hi7⟩, F7⟩; have I24 := hid (show Ints w7 (.slice a7 (keysOf pl2.length pl2).length ca7) (keysOf pl2.length pl2) from ⟨a7, ca7, rfl, hi7⟩); (try (have I26 := hid (Ints.fr I26.out F7 (fun _ _ h => h)))); have G := hid (Fr.trans (by first | with_reducible exact G.out.drew | with_reducible exact G.out) F7 (fun _ _ h => h)); have c00 := (F7.cell (p := ⟨br, 0, none⟩) l0 (fun h => h)).trans c00; have c01 := (F7.cell (p := ⟨br, 1, none⟩) l0 (fun h => h)).trans c01; have l0 := Nat.lt_of_lt_of_le l0 F7.size; clear hi7)
            | (go_at_call 26; refine (keys_at (hB6.out.c.fr (by first | with_reducible exact G.out.drew | with_reducible exact G.out) (fun h => h) (fun h => h) (fun h => h))).mono ?_; rintro e w8 ⟨v8, rfl, ⟨a8, ca8, rfl, hi8⟩, F8⟩; have I26 := hid (show Ints w8 (.slice a8 (keysOf pl2.length pl2).length ca8) (keysOf pl2.length pl2) from ⟨a8, ca8, rfl, hi8⟩); have G := hid (Fr.trans (by first | with_reducible exact G.out.drew | with_reducible exact G.out) F8 (fun _ _ h => h)); have c00 := (F8.cell (p := ⟨br, 0, none⟩) l0 (fun h => h)).trans c00; have c01 := (F8.cell (p := ⟨br, 1, none⟩) l0 (fun h => h)).trans c01; have l0 := Nat.lt_of_lt_of_le l0 F8.size; clear hi8)
            | (go_at_call 25; refine (same_ok I26.out I24.out hks).mono ?_; rintro e w9 ⟨rfl, F9⟩; have G := hid (Fr.trans (by first | with_reducible exact G.out.drew | with_reducible exact G.out) F9 (fun _ _ h => h)); have c00 := (F9.cell (p := ⟨br, 0, none⟩) l0 (fun h => h)).trans c00; have c01 := (F9.cell (p := ⟨br, 1, none⟩) l0 (fun h => h)).trans c01; have l0 := Nat.lt_of_lt_of_le l0 F9.size))
        go_wp2
        go_roundw
        case rel => exact ⟨k + 1, pl2, hand2, by omega, by simp, hB6.out.fr G.out, HL6.out, F06.trans G.out (fun _ _ h => h)⟩
        case measure => simp [intOf]; omega
      · refine (rget_at (HR.out.fr ((Fr.refl (fun _ => False) _).alloc _) (fun h => h)) hn' hcp hvs.out x.2.1 false).mono ?_
        rintro e w3 ⟨v, rfl, ⟨g', cp', rfl, hR', hcp'⟩, F3⟩
        obtain ⟨y, hy⟩ := got_int hvs.out x.2.1
        rw [hy]
        have HY := hid hy
        clear hy
        have Fx : Fr (fun _ => False) wr w3 := ((Fr.refl (fun _ => False) wr).alloc _).trans F3 (fun _ _ h => h)
        have hx3 := F3.heap (heap_alloc_new wr _) (fun h => h)
        obtain ⟨d00, d01, dz, dl⟩ := cells2 (Fx.heap HBR.out (fun h => h))
        obtain ⟨x0, x1, x2, xz, xl⟩ := cells3 hx3
        have n1 : wr.heap.size ≠ br := by omega
        have n2 : br ≠ w3.heap.size := by omega
        have n3 : br ≠ w3.heap.size + 1 := by omega
        have n4 : wr.heap.size ≠ w3.heap.size := by omega
        have n5 : wr.heap.size ≠ w3.heap.size + 1 := by omega
        generalize hM : rmark false pl x.2.1 = pl3 at *
        have HM := hid hM
        clear hM
        go_wp2_with fail
        obtain ⟨w4, hw4⟩ : ∃ w4, (w3.setCell ⟨br, 0, none⟩ (.slice (some ⟨g', 0, none⟩) pl3.length cp')).setCell ⟨br, 1, none⟩ (.int .i64 hand) = w4 := ⟨_, rfl⟩
        obtain ⟨hMid, F4⟩ := Mid.of HBo.out Fx hR' hcp' hw4
        have hs4 : w4.heap.size = w3.heap.size := by rw [← hw4]; simp
        rw [hw4]
        obtain ⟨w5, hw5⟩ : ∃ w5, w4.alloc (.cells #[.slice (some ⟨g', 0, none⟩) pl3.length cp', .int .i64 hand] 43) = w5 := ⟨_, rfl⟩
        have F5 : Fr (fun _ => False) w4 w5 := by rw [← hw5]; exact (Fr.refl _ _).alloc _
        rw [hw5]
        have hMid5 := hMid.fr F5
        have F35 : Fr (fun b => b = br) w3 w5 := F4.trans F5 (fun _ _ h => h.elim)
        have hx5 := F35.heap hx3 n1
        have l3 := F3.size
        simp at l3
        clear x0 x1 x2 xz xl d00 d01 dz dl hw4 hw5 F4 F5 hMid hR' hx3
        have hMD := hid hMid5
        have HX5 := hid hx5
        clear hMid5 hx5
        obtain ⟨x0, x1, x2, xz, xl⟩ := cells3 HX5.out
        refine (CI.look_at hMD.out.c x.2.1).mono ?_
        rintro e w' ⟨rfl, rfl⟩
        rw [show (((find pl x.2.1).bind fun i => (pl[i]?).map (·.v)).getD (.int .i64 0)) = .int .i64 y from HY.out]
        obtain ⟨w6, hw6⟩ : ∃ w6, w5 = w6 := ⟨_, rfl⟩
        have e3 : pl = pl3 := HM.out
        have hA := hMD.out.c
        rw [e3, hw6] at hA
        have F6 : Fr (fun _ => False) w5 w6 := by rw [hw6]; exact Fr.refl _ _
        have hB6 := hid (hMD.out.prog hA F6 (fun _ h => h.elim))
        have LT := HLT.out
        have hl6 : pl3.length = n := by
          rw [← e3]; exact HP.out
        have HL6 := hid hl6
        have F06 : Fr (fun _ => False) w w6 := ((hF.trans Fx (fun _ _ h => h)).trans F35 (fun _ _ h => by omega)).trans F6 (fun _ _ h => by omega)
        have HX6 := hid (F6.heap HX5.out (fun h => h))
        clear hA hl6 LT x0 x1 x2 xz xl
        subst hw6
        obtain ⟨x0, x1, x2, xz, xl⟩ := cells3 HX6.out
        go_wp2_with fail
        obtain ⟨pl2, hpl2⟩ : ∃ pl2, pl3 = pl2 := ⟨_, rfl⟩
        obtain ⟨hand2, hhand2⟩ : ∃ hand2, hand = hand2 := ⟨_, rfl⟩
        rw [hpl2, hhand2] at hB6
        rw [hpl2] at HL6
        obtain ⟨g2, cp2, hbr2, hR2, hcp2⟩ := hB6.out.r
        obtain ⟨c00, c01, z0, l0⟩ := cells2 hbr2
        have hn2 : pl2.length ≤ 4096 := by have := HL6.out; omega
        have hks := Nat.le_trans (keysOf_len pl2.length pl2) hn2
        have hd1 : ((pl2.length : Int) != (n : Int)) = false := by simp [HL6.out]
        have hd2 : ((pl2.countP (fun p => p.full) : Int) != ((keysOf pl2.length pl2).length : Int)) = false := by simp [keysOf_count]
        have HR2 := hid hR2
        have G := hid (Fr.refl (fun _ => False) w5)
        clear hR2 hbr2 hpl2 hhand2
        go_region_held3 (fun W => W.cell? ⟨br, 0, none⟩ = some (.slice (some ⟨g2, 0, none⟩) pl2.length cp2) ∧ W.cell? ⟨br, 1, none⟩ = some (.int .i64 hand2))
          (go_keep)
          (first
            | (go_at_call 17; refine (room_at (hB6.out.c.fr (by first | with_reducible exact G.out.drew | with_reducible exact G.out) (fun h => h) (fun h => h) (fun h => h))).mono ?_; rintro e w7 ⟨rfl, rfl⟩)
            | (go_at_call 23; refine (CI.len_at (hB6.out.c.fr (by first | with_reducible exact G.out.drew | with_reducible exact G.out) (fun h => h) (fun h => h) (fun h => h))).mono ?_; rintro e w7 ⟨rfl, rfl⟩)
            | (go_at_call 24; refine (rkeys_at (HR2.out.fr (by first | with_reducible exact G.out.drew | with_reducible exact G.out) (fun h => h)) hn2 hcp2).mono ?_; rintro e w7 ⟨v7, rfl, ⟨a7, ca7, rfl, hi7⟩, F7⟩; have I24 := hid (show Ints w7 (.slice a7 (keysOf pl2.length pl2).length ca7) (keysOf pl2.length pl2) from ⟨a7, ca7, rfl, hi7⟩); (try (have I26 := hid (Ints.fr I26.out F7 (fun _ _ h => h)))); have G := hid (Fr.trans (by first | with_reducible exact G.out.drew | with_reducible exact G.out) F7 (fun _ _ h => h)); have c00 := (F7.cell (p := ⟨br, 0, none⟩) l0 (fun h => h)).trans c00; have c01 := (F7.cell (p := ⟨br, 1, none⟩) l0 (fun h => h)).trans c01; have l0 := Nat.lt_of_lt_of_le l0 F7.size; clear hi7)
            | (go_at_call 26; refine (keys_at (hB6.out.c.fr (by first | with_reducible exact G.out.drew | with_reducible exact G.out) (fun h => h) (fun h => h) (fun h => h))).mono ?_; rintro e w8 ⟨v8, rfl, ⟨a8, ca8, rfl, hi8⟩, F8⟩; have I26 := hid (show Ints w8 (.slice a8 (keysOf pl2.length pl2).length ca8) (keysOf pl2.length pl2) from ⟨a8, ca8, rfl, hi8⟩); have G := hid (Fr.trans (by first | with_reducible exact G.out.drew | with_reducible exact G.out) F8 (fun _ _ h => h)); have c00 := (F8.cell (p := ⟨br, 0, none⟩) l0 (fun h => h)).trans c00; have c01 := (F8.cell (p := ⟨br, 1, none⟩) l0 (fun h => h)).trans c01; have l0 := Nat.lt_of_lt_of_le l0 F8.size; clear hi8)
            | (go_at_call 25; refine (same_ok I26.out I24.out hks).mono ?_; rintro e w9 ⟨rfl, F9⟩; have G := hid (Fr.trans (by first | with_reducible exact G.out.drew | with_reducible exact G.out) F9 (fun _ _ h => h)); have c00 := (F9.cell (p := ⟨br, 0, none⟩) l0 (fun h => h)).trans c00; have c01 := (F9.cell (p := ⟨br, 1, none⟩) l0 (fun h => h)).trans c01; have l0 := Nat.lt_of_lt_of_le l0 F9.size))
        go_wp2
        go_roundw
        case rel => exact ⟨k + 1, pl2, hand2, by omega, by simp, hB6.out.fr G.out, HL6.out, F06.trans G.out (fun _ _ h => h)⟩
        case measure => simp [intOf]; omega
      · refine (rdrop_at (HR.out.fr ((Fr.refl (fun _ => False) _).alloc _) (fun h => h)) hn' hcp hvs.out x.2.1).mono ?_
        rintro e w3 ⟨v, rfl, ⟨g', cp', rfl, hR', hcp'⟩, F3⟩
        obtain ⟨y, hy⟩ := got_int hvs.out x.2.1
        rw [hy]
        have HY := hid hy
        clear hy
        have Fx : Fr (fun _ => False) wr w3 := ((Fr.refl (fun _ => False) wr).alloc _).trans F3 (fun _ _ h => h)
        have hx3 := F3.heap (heap_alloc_new wr _) (fun h => h)
        obtain ⟨d00, d01, dz, dl⟩ := cells2 (Fx.heap HBR.out (fun h => h))
        obtain ⟨x0, x1, x2, xz, xl⟩ := cells3 hx3
        have n1 : wr.heap.size ≠ br := by omega
        have n2 : br ≠ w3.heap.size := by omega
        have n3 : br ≠ w3.heap.size + 1 := by omega
        have n4 : wr.heap.size ≠ w3.heap.size := by omega
        have n5 : wr.heap.size ≠ w3.heap.size + 1 := by omega
        generalize hM : dropM (.int .i64 0) pl x.2.1 = pl3 at *
        have HM := hid hM
        clear hM
        go_wp2_with fail
        obtain ⟨w4, hw4⟩ : ∃ w4, (w3.setCell ⟨br, 0, none⟩ (.slice (some ⟨g', 0, none⟩) pl3.length cp')).setCell ⟨br, 1, none⟩ (.int .i64 hand) = w4 := ⟨_, rfl⟩
        obtain ⟨hMid, F4⟩ := Mid.of HBo.out Fx hR' hcp' hw4
        have hs4 : w4.heap.size = w3.heap.size := by rw [← hw4]; simp
        rw [hw4]
        obtain ⟨w5, hw5⟩ : ∃ w5, w4.alloc (.cells #[.slice (some ⟨g', 0, none⟩) pl3.length cp', .int .i64 hand] 43) = w5 := ⟨_, rfl⟩
        have F5 : Fr (fun _ => False) w4 w5 := by rw [← hw5]; exact (Fr.refl _ _).alloc _
        rw [hw5]
        have hMid5 := hMid.fr F5
        have F35 : Fr (fun b => b = br) w3 w5 := F4.trans F5 (fun _ _ h => h.elim)
        have hx5 := F35.heap hx3 n1
        have l3 := F3.size
        simp at l3
        clear x0 x1 x2 xz xl d00 d01 dz dl hw4 hw5 F4 F5 hMid hR' hx3
        have hMD := hid hMid5
        have HX5 := hid hx5
        clear hMid5 hx5
        refine (drop_at hMD.out.c x.2.1).mono ?_
        rintro e w6 ⟨rfl, hA, F6⟩
        rw [HY.out]
        rw [HM.out] at hA
        have hB6 := hid (hMD.out.prog hA F6 (fun _ h => .inr h))
        have LT := HLT.out
        have hl6 : pl3.length = n := by
          rw [← HM.out]; exact (dropM_len _ _ _).trans HP.out
        have HL6 := hid hl6
        have F06 : Fr (fun _ => False) w w6 := ((hF.trans Fx (fun _ _ h => h)).trans F35 (fun _ _ h => by omega)).trans F6 (fun _ _ h => by omega)
        clear hA hl6 LT
        go_wp2_with fail
        obtain ⟨pl2, hpl2⟩ : ∃ pl2, pl3 = pl2 := ⟨_, rfl⟩
        obtain ⟨hand2, hhand2⟩ : ∃ hand2, hand = hand2 := ⟨_, rfl⟩
        rw [hpl2, hhand2] at hB6
        rw [hpl2] at HL6
        obtain ⟨g2, cp2, hbr2, hR2, hcp2⟩ := hB6.out.r
        obtain ⟨c00, c01, z0, l0⟩ := cells2 hbr2
        have hn2 : pl2.length ≤ 4096 := by have := HL6.out; omega
        have hks := Nat.le_trans (keysOf_len pl2.length pl2) hn2
        have hd1 : ((pl2.length : Int) != (n : Int)) = false := by simp [HL6.out]
        have hd2 : ((pl2.countP (fun p => p.full) : Int) != ((keysOf pl2.length pl2).length : Int)) = false := by simp [keysOf_count]
        have HR2 := hid hR2
        have G := hid (Fr.refl (fun _ => False) w6)
        clear hR2 hbr2 hpl2 hhand2
        go_region_held3 (fun W => W.cell? ⟨br, 0, none⟩ = some (.slice (some ⟨g2, 0, none⟩) pl2.length cp2) ∧ W.cell? ⟨br, 1, none⟩ = some (.int .i64 hand2))
          (go_keep)
          (first
            | (go_at_call 17; refine (room_at (hB6.out.c.fr (by first | with_reducible exact G.out.drew | with_reducible exact G.out) (fun h => h) (fun h => h) (fun h => h))).mono ?_; rintro e w7 ⟨rfl, rfl⟩)
            | (go_at_call 23; refine (CI.len_at (hB6.out.c.fr (by first | with_reducible exact G.out.drew | with_reducible exact G.out) (fun h => h) (fun h => h) (fun h => h))).mono ?_; rintro e w7 ⟨rfl, rfl⟩)
            | (go_at_call 24; refine (rkeys_at (HR2.out.fr (by first | with_reducible exact G.out.drew | with_reducible exact G.out) (fun h => h)) hn2 hcp2).mono ?_; rintro e w7 ⟨v7, rfl, ⟨a7, ca7, rfl, hi7⟩, F7⟩; have I24 := hid (show Ints w7 (.slice a7 (keysOf pl2.length pl2).length ca7) (keysOf pl2.length pl2) from ⟨a7, ca7, rfl, hi7⟩); (try (have I26 := hid (Ints.fr I26.out F7 (fun _ _ h => h)))); have G := hid (Fr.trans (by first | with_reducible exact G.out.drew | with_reducible exact G.out) F7 (fun _ _ h => h)); have c00 := (F7.cell (p := ⟨br, 0, none⟩) l0 (fun h => h)).trans c00; have c01 := (F7.cell (p := ⟨br, 1, none⟩) l0 (fun h => h)).trans c01; have l0 := Nat.lt_of_lt_of_le l0 F7.size; clear hi7)
            | (go_at_call 26; refine (keys_at (hB6.out.c.fr (by first | with_reducible exact G.out.drew | with_reducible exact G.out) (fun h => h) (fun h => h) (fun h => h))).mono ?_; rintro e w8 ⟨v8, rfl, ⟨a8, ca8, rfl, hi8⟩, F8⟩; have I26 := hid (show Ints w8 (.slice a8 (keysOf pl2.length pl2).length ca8) (keysOf pl2.length pl2) from ⟨a8, ca8, rfl, hi8⟩); have G := hid (Fr.trans (by first | with_reducible exact G.out.drew | with_reducible exact G.out) F8 (fun _ _ h => h)); have c00 := (F8.cell (p := ⟨br, 0, none⟩) l0 (fun h => h)).trans c00; have c01 := (F8.cell (p := ⟨br, 1, none⟩) l0 (fun h => h)).trans c01; have l0 := Nat.lt_of_lt_of_le l0 F8.size; clear hi8)
            | (go_at_call 25; refine (same_ok I26.out I24.out hks).mono ?_; rintro e w9 ⟨rfl, F9⟩; have G := hid (Fr.trans (by first | with_reducible exact G.out.drew | with_reducible exact G.out) F9 (fun _ _ h => h)); have c00 := (F9.cell (p := ⟨br, 0, none⟩) l0 (fun h => h)).trans c00; have c01 := (F9.cell (p := ⟨br, 1, none⟩) l0 (fun h => h)).trans c01; have l0 := Nat.lt_of_lt_of_le l0 F9.size))
        go_wp2
        go_roundw
        case rel => exact ⟨k + 1, pl2, hand2, by omega, by simp, hB6.out.fr G.out, HL6.out, F06.trans G.out (fun _ _ h => h)⟩
        case measure => simp [intOf]; omega
      · refine (rput_at (HR.out.fr ((Fr.refl (fun _ => False) _).alloc _) (fun h => h)) hn' hcp hvs.out hand_lt x.2.1 x.2.2).mono ?_
        rintro e w3 ⟨v, f, m, rfl, ⟨g', cp', rfl, hR', hcp'⟩, F3⟩
        obtain ⟨z, hz⟩ := goneV_int (hand := hand) (key := x.2.1) (v := .int .i64 x.2.2) hvs.out
        have Fx : Fr (fun _ => False) wr w3 := ((Fr.refl (fun _ => False) wr).alloc _).trans F3 (fun _ _ h => h)
        have hx3 := F3.heap (heap_alloc_new wr _) (fun h => h)
        obtain ⟨d00, d01, dz, dl⟩ := cells2 (Fx.heap HBR.out (fun h => h))
        obtain ⟨x0, x1, x2, xz, xl⟩ := cells3 hx3
        have n1 : wr.heap.size ≠ br := by omega
        have n2 : br ≠ w3.heap.size := by omega
        have n3 : br ≠ w3.heap.size + 1 := by omega
        have n4 : wr.heap.size ≠ w3.heap.size := by omega
        have n5 : wr.heap.size ≠ w3.heap.size + 1 := by omega
        generalize hM : putM pl hand x.2.1 (.int .i64 x.2.2) = M at *
        simp only [goneP, hz]
        go_wp2_with fail
        obtain ⟨w4, hw4⟩ : ∃ w4, (w3.setCell ⟨br, 0, none⟩ (.slice (some ⟨g', 0, none⟩) M.pl.length cp')).setCell ⟨br, 1, none⟩ (.int .i64 M.hand) = w4 := ⟨_, rfl⟩
        obtain ⟨hMid, F4⟩ := Mid.of HBo.out Fx hR' hcp' hw4
        have hs4 : w4.heap.size = w3.heap.size := by rw [← hw4]; simp
        rw [hw4]
        obtain ⟨w5, hw5⟩ : ∃ w5, (w4.alloc (.cells #[.slice (some ⟨g', 0, none⟩) M.pl.length cp', .int .i64 M.hand] 43)).alloc (.cells #[.bool f, .bool m, .int .i64 (CI.goneK M.gone), .int .i64 z] 49) = w5 := ⟨_, rfl⟩
        obtain ⟨-, hg5, F5⟩ := heap_two hw5
        rw [hs4] at hg5
        rw [hw5]
        have hMid5 := hMid.fr F5
        have F35 : Fr (fun b => b = br) w3 w5 := F4.trans F5 (fun _ _ h => h.elim)
        have hx5 := F35.heap hx3 n1
        have l3 := F3.size
        simp at l3
        clear x0 x1 x2 xz xl d00 d01 dz dl hw4 hw5 F4 F5 hMid hR' hx3
        have hMD := hid hMid5
        have HX5 := hid hx5
        have HG5 := hid hg5
        clear hMid5 hx5 hg5
        refine (CI.put_at hMD.out.c x.2.1 x.2.2).mono ?_
        rintro e w6 ⟨rfl, hA, F6⟩
        rw [hM] at hA ⊢
        rw [hz]
        have hB6 := hid (hMD.out.prog hA F6 (fun _ h => h))
        have LT := HLT.out
        have hx6 := F6.heap HX5.out (by omega)
        have hg6 := F6.heap HG5.out (by omega)
        obtain ⟨x0, x1, x2, xz, xl⟩ := cells3 hx6
        obtain ⟨y0, y1, y2, y3, yz, yl⟩ := cells4 hg6
        have LT := HLT.out
        have hl6 : M.pl.length = n := by
          rw [← hM]; exact (did HBo.out.c.nd hand_lt x.2.1 (.int .i64 x.2.2)).len.trans HP.out
        have HL6 := hid hl6
        have F06 : Fr (fun _ => False) w w6 := ((hF.trans Fx (fun _ _ h => h)).trans F35 (fun _ _ h => by omega)).trans F6 (fun _ _ h => by omega)
        have HM := hid hM
        clear hA hx6 hg6 hl6 LT hM
        go_wp2_with fail
        obtain ⟨pl2, hpl2⟩ : ∃ pl2, M.pl = pl2 := ⟨_, rfl⟩
        obtain ⟨hand2, hhand2⟩ : ∃ hand2, M.hand = hand2 := ⟨_, rfl⟩
        rw [hpl2, hhand2] at hB6
        rw [hpl2] at HL6
        obtain ⟨g2, cp2, hbr2, hR2, hcp2⟩ := hB6.out.r
        obtain ⟨c00, c01, z0, l0⟩ := cells2 hbr2
        have hn2 : pl2.length ≤ 4096 := by have := HL6.out; omega
        have hks := Nat.le_trans (keysOf_len pl2.length pl2) hn2
        have hd1 : ((pl2.length : Int) != (n : Int)) = false := by simp [HL6.out]
        have hd2 : ((pl2.countP (fun p => p.full) : Int) != ((keysOf pl2.length pl2).length : Int)) = false := by simp [keysOf_count]
        have HR2 := hid hR2
        have G := hid (Fr.refl (fun _ => False) w6)
        clear hR2 hbr2 hpl2 hhand2
        go_region_held3 (fun W => W.cell? ⟨br, 0, none⟩ = some (.slice (some ⟨g2, 0, none⟩) pl2.length cp2) ∧ W.cell? ⟨br, 1, none⟩ = some (.int .i64 hand2))
          (go_keep)
          (first
            | (go_at_call 17; refine (room_at (hB6.out.c.fr (by first | with_reducible exact G.out.drew | with_reducible exact G.out) (fun h => h) (fun h => h) (fun h => h))).mono ?_; rintro e w7 ⟨rfl, rfl⟩)
            | (go_at_call 23; refine (CI.len_at (hB6.out.c.fr (by first | with_reducible exact G.out.drew | with_reducible exact G.out) (fun h => h) (fun h => h) (fun h => h))).mono ?_; rintro e w7 ⟨rfl, rfl⟩)
            | (go_at_call 24; refine (rkeys_at (HR2.out.fr (by first | with_reducible exact G.out.drew | with_reducible exact G.out) (fun h => h)) hn2 hcp2).mono ?_; rintro e w7 ⟨v7, rfl, ⟨a7, ca7, rfl, hi7⟩, F7⟩; have I24 := hid (show Ints w7 (.slice a7 (keysOf pl2.length pl2).length ca7) (keysOf pl2.length pl2) from ⟨a7, ca7, rfl, hi7⟩); (try (have I26 := hid (Ints.fr I26.out F7 (fun _ _ h => h)))); have G := hid (Fr.trans (by first | with_reducible exact G.out.drew | with_reducible exact G.out) F7 (fun _ _ h => h)); have c00 := (F7.cell (p := ⟨br, 0, none⟩) l0 (fun h => h)).trans c00; have c01 := (F7.cell (p := ⟨br, 1, none⟩) l0 (fun h => h)).trans c01; have l0 := Nat.lt_of_lt_of_le l0 F7.size; clear hi7)
            | (go_at_call 26; refine (keys_at (hB6.out.c.fr (by first | with_reducible exact G.out.drew | with_reducible exact G.out) (fun h => h) (fun h => h) (fun h => h))).mono ?_; rintro e w8 ⟨v8, rfl, ⟨a8, ca8, rfl, hi8⟩, F8⟩; have I26 := hid (show Ints w8 (.slice a8 (keysOf pl2.length pl2).length ca8) (keysOf pl2.length pl2) from ⟨a8, ca8, rfl, hi8⟩); have G := hid (Fr.trans (by first | with_reducible exact G.out.drew | with_reducible exact G.out) F8 (fun _ _ h => h)); have c00 := (F8.cell (p := ⟨br, 0, none⟩) l0 (fun h => h)).trans c00; have c01 := (F8.cell (p := ⟨br, 1, none⟩) l0 (fun h => h)).trans c01; have l0 := Nat.lt_of_lt_of_le l0 F8.size; clear hi8)
            | (go_at_call 25; refine (same_ok I26.out I24.out hks).mono ?_; rintro e w9 ⟨rfl, F9⟩; have G := hid (Fr.trans (by first | with_reducible exact G.out.drew | with_reducible exact G.out) F9 (fun _ _ h => h)); have c00 := (F9.cell (p := ⟨br, 0, none⟩) l0 (fun h => h)).trans c00; have c01 := (F9.cell (p := ⟨br, 1, none⟩) l0 (fun h => h)).trans c01; have l0 := Nat.lt_of_lt_of_le l0 F9.size))
        go_wp2
        go_roundw
        case rel => exact ⟨k + 1, pl2, hand2, by omega, by simp, hB6.out.fr G.out, HL6.out, F06.trans G.out (fun _ _ h => h)⟩
        case measure => simp [intOf]; omega
    · obtain rfl : k = len := by omega
      clear HL HLL HBo
      go_wp2_with fail
      refine (awake_ok wr).mono ?_
      rintro e w2 ⟨rfl, F2⟩
      go_wp2
      go_ret
      exact ⟨rfl, hF.trans F2 (fun _ _ h => h)⟩
end Go.Proofs.Ytfeemnhkdjkgpaa
