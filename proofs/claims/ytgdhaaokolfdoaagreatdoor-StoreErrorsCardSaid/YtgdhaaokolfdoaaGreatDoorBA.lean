/- The set of bits: All. Conditions: the set lies in the world as BitsAt says, the library's table as its text lays it. -/
import Derived.Test.YtgdhaaokolfdoaaGreatDoorTake
import Derived.Test.YtgdhaaokolfdoaaGreatDoorCP
import Derived.RangeFuncBox
namespace Go.Sg.Bits
open Go.RowKit
/-- The numbers below m that are taken. -/
def tu (t : Nat → Bool) (m : Nat) : List Int := ((List.range m).filter t).map Int.ofNat
theorem tu_len (t : Nat → Bool) (m : Nat) : (tu t m).length ≤ m := by
  simp only [tu, List.length_map]
  exact Nat.le_trans (List.length_filter_le _ _) (by simp)
theorem tu_succ (t : Nat → Bool) (m : Nat) : tu t (m + 1) = if t m then tu t m ++ [(m : Int)] else tu t m := by
  simp only [tu, List.range_succ, List.filter_append, List.map_append]
  cases h : t m <;> simp [h]
theorem tu_skip (t : Nat → Bool) (a : Nat) : ∀ d, (∀ i, a ≤ i → i < a + d → t i = false) → tu t (a + d) = tu t a := by
  intro d
  induction d with
  | zero => intro _; rfl
  | succ d ih =>
    intro h
    rw [← Nat.add_assoc, tu_succ, h (a + d) (by omega) (by omega)]
    simp only [Bool.false_eq_true, if_false]
    exact ih fun i h1 h2 => h i h1 (by omega)
theorem tu_next {t : Nat → Bool} {a b : Nat} (hab : a ≤ b) (h : ∀ i, a ≤ i → i < b → t i = false) (hb : t b = true) : tu t (b + 1) = tu t a ++ [(b : Int)] := by
  obtain ⟨d, rfl⟩ : ∃ d, b = a + d := ⟨b - a, by omega⟩
  rw [tu_succ, if_pos hb, tu_skip t a d h]
theorem tu_prefix (t : Nat → Bool) {a b : Nat} (h : a ≤ b) : tu t a <+: tu t b := by
  induction b with
  | zero => obtain rfl : a = 0 := by omega
            exact List.prefix_rfl
  | succ b ih =>
    by_cases hk : a = b + 1
    · subst hk; exact List.prefix_rfl
    · have := ih (by omega)
      rw [tu_succ]
      split
      · exact this.trans (List.prefix_append _ _)
      · exact this
end Go.Sg.Bits
namespace Go.Proofs.YtgdhaaokolfdoaaGreatDoor
open Go.RowKit Go.Sg Go.Sg.Bits Go.Shelf
attribute [local go_sem] Oper.semAt_some
theorem taken_any (a : Option Addr) (w : World) :
    Calls Tryz.prog 162 #[.pointer a] w fun e w' => e = .returned (.func (.func 224) #[] #[.pointer (some ⟨w.heap.size, 0, none⟩)]) ∧ w.alloc (.cells #[.pointer a] 152) = w' := by
  go_enter Tryz.func162, Tryz.ntmps162
  go_wp2
  go_ret
  exact ⟨rfl, rfl⟩
abbrev encT (x : Int) : Array Value := #[.int .i64 x]
set_option maxRecDepth 100000 in
set_option maxHeartbeats 4000000 in
theorem takenf_stops {w : World} {bs bw n hand bx : Nat} {ws : List Nat} (h : BRaw w bs bw n hand ws) (hT : Tab w) (hx : w.cell? ⟨bx, 0, none⟩ = some (.pointer (some ⟨bs, 0, none⟩))) :
    SeqStopsK Fence.wide 9 Tryz.prog 224 #[.pointer (some ⟨bx, 0, none⟩)] encT (fun W W' => W'.heap[bw]? = W.heap[bw]? ∧ W'.heap[0]? = W.heap[0]?) (fun xs => xs = tu (bit ws) (64 * ws.length)) (fun pre => pre <+: tu (bit ws) (64 * ws.length)) (64 * ws.length) w := fun l J Jx W hW hJ _ hY h0 => by
  have hr := h.room
  have hl := h.len
  have hwf := h.wf
  have hx' := (hW.cell (p := ⟨bx, 0, none⟩) (World.block_lt_of_cell? _ _ hx)).trans hx
  have hc2 := (hW.cell (p := ⟨bs, 2, none⟩) (lt_of_heap h.s)).trans (cell_of_heap h.s 2)
  simp at hc2
  have hp := (hW.block bw (lt_of_heap h.w_)).trans h.w_
  have ht : Tab W := hT.fr (Fr.of_below hW) (S := fun _ => False) (fun h => h)
  have HWF := hid hwf
  have hl2 : ws.length ≤ 1024 := by omega
  have HT := hid ht
  clear hx hW h hT hwf ht hl
  refine callsIn_of_wp Tryz.func224 rfl trivial ?_ rfl
  simp only [Tryz.ntmps224, List.size_toArray, List.length_cons, List.length_nil, Nat.reduceAdd, Nat.reduceSub, Array.replicate_succ, Array.replicate_zero, List.push_toArray, List.append_toArray, List.nil_append, List.cons_append]
  gi_wp2
  gi_loopw [10] (fun i wr => ∃ k : Nat, k ≤ ws.length ∧ i = .int .i64 k ∧ J (tu (bit ws) (64 * k)) wr ∧ wr.heap[bw]? = some (.cells (wcells ws) 29) ∧ wr.heap[0]? = W.heap[0]?) (fun i _ => ws.length - (intOf i).toNat)
  case atStart => exact ⟨0, Nat.zero_le _, rfl, h0, hp, rfl⟩
  case round =>
    obtain ⟨k, hk, rfl, hJs, hps, ht0⟩ := hrel
    by_cases hlt : k < ws.length
    · obtain ⟨x, hx⟩ : ∃ x, ws[k]? = some x := ⟨_, List.getElem?_eq_getElem hlt⟩
      have cw : wr.cell? ⟨bw, k, none⟩ = some (.int .u64 x) := by rw [cell_of_heap hps]; simp [wcells, hx]
      have hxl := HWF.out x (List.mem_of_getElem? hx)
      have hbk : ∀ m, m < 64 → bit ws (64 * k + m) = x.testBit m := fun m hm => by
        rw [bit, show (64 * k + m) / 64 = k by omega, show (64 * k + m) % 64 = m by omega]
        simp [List.getD, hx]
      have HBK := hid hbk
      have HX := hid hx
      have HPS := hid hps
      have HT0 := hid ht0
      clear hbk hx hps ht0
      have hkd : decide (k < ws.length) = true := by simpa using hlt
      have hkd2 : decide ((k : Int) < (ws.length : Int)) = true := by simpa using hlt
      gi_wp2
      gi_loopw [4] (fun v wr => ∃ (lft low : Nat), v = .int .u64 lft ∧ lft < 18446744073709551616 ∧ low ≤ 64 ∧ (∀ m, m < 64 → lft.testBit m = (decide (low ≤ m) && x.testBit m)) ∧ J (tu (bit ws) (64 * k + low)) wr ∧ wr.heap[bw]? = some (.cells (wcells ws) 29) ∧ wr.heap[0]? = W.heap[0]?) (fun v _ => (intOf v).toNat)
      case atStart => exact ⟨x, 0, rfl, hxl, by omega, fun m hm => by simp, hJs, HPS.out, HT0.out⟩
      case round =>

        obtain ⟨lft, low, rfl, hll, hlow, hb, hJ2, hps2, ht2⟩ := hrel
        have HBb := hid hb
        have HPS2 := hid hps2
        have HT2 := hid ht2
        have HJ2 := hid hJ2
        clear hb hps2 ht2 hJ2
        by_cases hz : lft = 0
        · subst hz
          gi_wp2
          go_roundw
          case rel =>
            refine ⟨k + 1, by omega, by simp, ?_, HPS2.out, HT2.out⟩
            have e : tu (bit ws) (64 * (k + 1)) = tu (bit ws) (64 * k + low) := by
              have := tu_skip (bit ws) (64 * k + low) (64 - low) (fun i h1 h2 => by
                have hm := HBb.out (i - 64 * k) (by omega)
                have hb := HBK.out (i - 64 * k) (by omega)
                rw [show 64 * k + (i - 64 * k) = i by omega] at hb
                rw [hb]
                have hd : decide (low ≤ i - 64 * k) = true := by simp; omega
                rw [hd] at hm
                simpa using hm.symm)
              rw [← this]; congr 1; omega
            rw [e]; exact HJ2.out
          case measure => simp [intOf]; omega
        · obtain ⟨hc1, hc2, hc3⟩ := ctz_bit hz hll
          have hd := and_pred hz hll
          have hdl := drop_low hz hll
          have htz := hid (fun W' (h : W'.heap[0]? = W.heap[0]?) => tz_at lft hll W' (fun j hj => (World.cell?_of_block (a := ⟨0, j, none⟩) h).trans (HT.out j hj)))
          have hne : ((lft : Int) != 0) = true := by simp; omega
          have hlt2 : lft &&& (lft - 1) < lft := by
            rcases Nat.lt_or_ge (lft &&& (lft - 1)) lft with h | h
            · exact h
            · have h2 := Nat.and_le_right (n := lft) (m := lft - 1)
              omega
          generalize Lib.ctz 64 lft = m0 at *
          have hx0 : low ≤ m0 ∧ x.testBit m0 = true := by
            have := HBb.out m0 hc1
            rw [hc2] at this
            simpa using this.symm
          have hnx : tu (bit ws) (64 * k + m0 + 1) = tu (bit ws) (64 * k + low) ++ [(k : Int) * 64 + m0] := by
            have := tu_next (t := bit ws) (a := 64 * k + low) (b := 64 * k + m0) (by omega) (fun i h1 h2 => by
              have hm := HBb.out (i - 64 * k) (by omega)
              have hb := HBK.out (i - 64 * k) (by omega)
              rw [show 64 * k + (i - 64 * k) = i by omega] at hb
              rw [hb]
              have hd : decide (low ≤ i - 64 * k) = true := by simp; omega
              rw [hd, hc3 _ (by omega)] at hm
              simpa using hm.symm) (by rw [HBK.out m0 hc1]; exact hx0.2)
            rw [this]
            congr 2
            have : ((64 * k + m0 : Nat) : Int) = (k : Int) * 64 + m0 := by omega
            exact this
          obtain ⟨fn, tmps, assign, body, hy, hR⟩ := hY _ ((k : Int) * 64 + m0) wr HJ2.out (by have := tu_len (bit ws) (64 * k + low); omega)
          dsimp only [encT] at hy
          have HD := hid hd
          have HX0 := hid hx0
          have HNX := hid hnx
          have HC := hid (And.intro hc2 (And.intro hc3 hdl))
          have hlm := hx0.1
          clear hd hx0 hnx hc2 hc3 hdl
          gi_wp2_with (gi_at_call 214; refine (callsIn_wide.2 (htz.out _ HT2.out)).mono ?_; rintro e w' ⟨rfl, rfl⟩)
          refine hR.mono ?_
          rintro e W3 (⟨rfl, hJ3, hk3⟩ | ⟨rfl, hJx3⟩)
          · have HJ3 := hid hJ3
            have HK3 := hid hk3
            clear hJ3 hk3
            gi_wp2
            rw [HD.out]
            go_roundw
            case rel =>
              refine ⟨lft &&& (lft - 1), m0 + 1, rfl, by omega, by omega, fun m hm => ?_, ?_, HK3.out.1.trans HPS2.out, HK3.out.2.trans HT2.out⟩
              · obtain ⟨hc2, hc3, hdl⟩ := HC.out
                rw [hdl]
                by_cases he : m = m0
                · rw [if_pos he]; simp; omega
                · rw [if_neg he, HBb.out m hm]
                  by_cases hlm' : m0 + 1 ≤ m
                  · have : low ≤ m := by omega
                    simp [hlm', this]
                  · have h3 := hc3 m (by omega)
                    rw [HBb.out m hm] at h3
                    simp [hlm']
                    simpa using h3
              · rw [show 64 * k + (m0 + 1) = 64 * k + m0 + 1 by omega, HNX.out]; exact HJ3.out
            case measure => simp [intOf]; omega
          · have HJX := hid hJx3
            clear hJx3
            gi_wp2
            refine bodyPost_ret (results_none rfl _ _ _) rfl ?_
            exact ⟨⟨_, rfl⟩, .inr ⟨_, (by have := tu_prefix (bit ws) (a := 64 * k + m0 + 1) (b := 64 * ws.length) (by omega); rw [HNX.out] at this; exact this), HJX.out⟩⟩
    · obtain rfl : k = ws.length := by omega
      gi_wp2
      go_end0
      exact ⟨⟨_, rfl⟩, .inl ⟨_, rfl, hJs⟩⟩
end Go.Proofs.YtgdhaaokolfdoaaGreatDoor
