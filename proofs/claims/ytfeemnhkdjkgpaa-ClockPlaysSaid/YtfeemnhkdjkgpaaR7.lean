/- The reference's clock: what Keys computes; the law's same. Conditions: the places lie in the world as RSl says. -/
import Derived.Test.YtfeemnhkdjkgpaaR6
namespace Go.Sg
open Go.RowKit
theorem fr_grown {S : Nat → Prop} {w wr w' : World} {base e size n : Nat} {v : Value} {xs : List Value} {o : Obj} (F : Fr S w wr) (hb : w.heap.size ≤ base) (hown : wr.ownsRow base e size v n xs) (hg : (wr.alloc o).grownBy w' v.ownBlock) : Fr S w w' := by
  refine F.trans (S' := fun b => base ≤ b) ⟨hg.os, hg.tape, hg.output, Nat.le_trans (by simp) hg.size, fun b hb hn => ?_⟩ (fun b hb' h => by omega)
  rw [hg.block b (Nat.lt_of_lt_of_le hb (by simp)) (fun e => hn (hown.lt b e.symm).1)]
  exact heap_alloc_lt _ _ _ hb
/-- A slice of int that reads as ks. -/
def Ints (w : World) (v : Value) (ks : List Int) : Prop :=
  ∃ a cap, v = .slice a ks.length cap ∧ ∀ (i : Nat) (k : Int), ks[i]? = some k → ∃ g, a = some ⟨g, 0, none⟩ ∧ g < w.heap.size ∧ w.cell? ⟨g, i, none⟩ = some (.int .i64 k)
theorem Ints.fr {S : Nat → Prop} {w w' : World} {v : Value} {ks : List Int} (h : Ints w v ks) (F : Fr S w w') (hS : ∀ b, b < w.heap.size → ¬ S b) : Ints w' v ks := by
  obtain ⟨a, cap, e, h⟩ := h
  refine ⟨a, cap, e, fun i k hk => ?_⟩
  obtain ⟨g, ha, hl, hc⟩ := h i k hk
  exact ⟨g, ha, Nat.lt_of_lt_of_le hl F.size, (F.cell (p := ⟨g, i, none⟩) hl (hS g hl)).trans hc⟩
theorem ints_of_own {w : World} {base e : Nat} {v : Value} {ks : List Int} (h : w.ownsRow base e 1 v ks.length (ks.map (Value.int .i64))) : Ints w v ks := by
  obtain ⟨_, ⟨rfl, h0⟩ | ⟨g, cap, cur, rfl, _, hg, _, _, _, ht⟩⟩ := h
  · refine ⟨none, 0, by rw [h0], fun i k hk => ?_⟩
    have := (List.getElem?_eq_some_iff.1 hk).1
    omega
  · refine ⟨_, cap, rfl, fun i k hk => ⟨g, rfl, lt_of_heap hg, ?_⟩⟩
    have hi := (List.getElem?_eq_some_iff.1 hk).1
    rw [cell_of_heap hg]
    have : (cur.toList.take (ks.length * 1))[i]? = some (.int .i64 k) := by rw [ht, List.getElem?_map, hk]; rfl
    rw [List.getElem?_take, if_pos (by omega)] at this
    simpa using this
end Go.Sg
namespace Go.Proofs.Ytfeemnhkdjkgpaa
open Go.RowKit Go.Sg Go.Sg.Clk

theorem Try.info3 : (Try.prog.info? 3).map (fun i => (i.zero, i.size, i.bytes)) = some (some (.int .i64 0), 1, 8) := by kernel_rfl
def keysOf (k : Nat) (pl : List Pl) : List Int := (fullAt k pl).map (·.2.key)
theorem keysOf_len (k : Nat) (pl : List Pl) : (keysOf k pl).length ≤ k := by rw [keysOf, List.length_map]; exact fullAt_len k pl

set_option maxHeartbeats 2000000 in
theorem rkeys_at {w : World} {b cap hand : Nat} {pl : List Pl} (h : RS w b cap pl) (hn : pl.length ≤ 4096) (hc : pl.length ≤ cap) :
    Calls Try.prog 24 #[.agg #[.slice (some ⟨b, 0, none⟩) pl.length cap, .int .i64 hand]] w fun e w' => ∃ v, e = .returned v ∧ Ints w' v (keysOf pl.length pl) ∧ Fr (fun _ => False) w w' := by
  obtain ⟨i0, hi0, hz0, hz1, hz2⟩ := info_parts Try.info3
  have hb := h.lt
  obtain ⟨w1, hw1⟩ : ∃ w1, w.alloc (.cells #[.slice (some ⟨b, 0, none⟩) pl.length cap, .int .i64 hand] 43) = w1 := ⟨_, rfl⟩
  have b0 : w1.heap[w.heap.size]? = some (.cells #[.slice (some ⟨b, 0, none⟩) pl.length cap, .int .i64 hand] 43) := by rw [← hw1]; exact heap_alloc_new _ _
  have F1 : Fr (fun _ => False) w w1 := by rw [← hw1]; exact (Fr.refl _ _).alloc _
  have HS := hid (h.fr F1 (fun h => h))
  have B0 := hid b0
  clear h b0
  go_enter Try.func24, Try.ntmps24
  go_wp2
  try rw [hw1]
  clear hw1
  go_loopw [3, 4] (fun v i wr => ∃ k : Nat, k ≤ pl.length ∧ i = .int .i64 k ∧ wr.ownsRow w1.heap.size 3 1 v (keysOf k pl).length ((keysOf k pl).map (Value.int .i64)) ∧ Fr (fun _ => False) w1 wr) (fun _ i _ => pl.length - (intOf i).toNat)
  case atStart => exact ⟨0, Nat.zero_le _, rfl, World.ownsRow_nil _ _ _ _, Fr.refl _ _⟩
  case round =>
    obtain ⟨k, hk, rfl, hown, hF⟩ := hrel
    obtain ⟨c00, c01, z0, l0⟩ := cells2 (hF.heap B0.out (fun h => h))
    have hsz := hF.size
    by_cases hlt : k < pl.length
    · obtain ⟨p, hp⟩ : ∃ p, pl[k]? = some p := ⟨_, List.getElem?_eq_getElem hlt⟩
      have k0 := (HS.out.fr hF (fun h => h)).k0 hp
      have k2 := (HS.out.fr hF (fun h => h)).k2 hp
      have hs := fullAt_succ k pl p hp
      have HP := hid hp
      have HO := hid hown
      clear hp hown
      have hkl := keysOf_len k pl
      cases hf : p.full with
      | false =>
        rw [hf] at k0 hs
        have HE : Hid (keysOf (k + 1) pl = keysOf k pl) := hid (by simp [keysOf, hs])
        clear hf hs
        go_wp2
        go_roundw
        case rel => exact ⟨k + 1, by omega, by simp, by rw [HE.out]; exact HO.out, hF⟩
        case measure => simp [intOf]; omega
      | true =>
        rw [hf] at k0 hs
        have HE : Hid (keysOf (k + 1) pl = keysOf k pl ++ [p.key]) := hid (by simp [keysOf, hs])
        clear hf hs
        go_wp2_with (at_builtin; refine wpList_append_own _ rfl (.tmp 18) (.tmp 25) 52 rfl w1.heap.size 3 i0 _ 1 8 Try.underlying52 hi0 hz0 hz1 hz2 rfl (by decide) _ _ _ rfl (HO.out.alloc _) ⟨wr.heap.size, 0, none⟩ 1 1 [.int .i64 p.key] rfl rfl (cell_one_new _ _ _) (by simp [Value.oneCell']) ?c3 ?c4 ?c5 ?_)
        case c3 => simp [maxLen]; omega
        case c4 => omega
        case c5 => simp; omega
        intro v1 w2 hown2 hgrow hnil
        have HO2 := hid hown2
        have HG := hid hgrow
        clear hown2 hgrow hnil
        go_wp2
        go_roundw
        case rel =>
          refine ⟨k + 1, by omega, by simp, ?_, fr_grown hF (Nat.le_refl _) HO.out HG.out⟩
          rw [HE.out]
          simpa using HO2.out
        case measure => simp [intOf]; omega
    · obtain rfl : k = pl.length := by omega
      have HO := hid hown
      clear hown
      go_wp2
      go_ret
      exact ⟨_, rfl, ints_of_own HO.out, F1.trans hF (fun _ _ h => h)⟩
end Go.Proofs.Ytfeemnhkdjkgpaa
