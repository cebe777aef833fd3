/- The set of bits: what free computes. Conditions: the set lies in the world as BitsAt says, the library's table as its text lays it. -/
import Derived.Test.YtgdhaaokolfdoaaGreatDoorBits
import Derived.Test.YtgdhaaokolfdoaaGreatDoorTz
namespace Go.Proofs.YtgdhaaokolfdoaaGreatDoor
open Go.RowKit Go.Sg Go.Sg.Bits

/-- All numbers from a on, up to b, are taken. -/
def allTaken (t : Nat → Bool) (n a b : Nat) : Prop := ∀ i, a ≤ i → i < b → i < n → t i = true
/-- The first free number from a on, or none. -/
def FreeIs (t : Nat → Bool) (n a : Nat) (r : Int) : Prop := (r = -1 ∧ allTaken t n a n) ∨ ∃ i : Nat, r = i ∧ a ≤ i ∧ i < n ∧ t i = false ∧ allTaken t n a i

set_option maxHeartbeats 2000000 in
theorem free_at {w : World} {bs bw n hand : Nat} {t : Nat → Bool} (h : BitsAt w bs bw n hand t) (hT : Tab w) (a : Nat) (ha : a ≤ n) :
    Calls Tryz.prog 153 #[.pointer (some ⟨bs, 0, none⟩), .int .i64 a] w fun e w' => ∃ r, FreeIs t n a r ∧ e = .returned (.int .i64 r) ∧ w = w' := by
  obtain ⟨ws, h, ht⟩ := h
  have c0 := cell_of_heap h.s 0
  have c2 := cell_of_heap h.s 2
  simp at c0 c2
  have hl := h.len
  have hr := h.room
  have H := hid h
  have HT := hid ht
  have HTab := hid hT
  clear h ht hT
  go_enter Tryz.func153, Tryz.ntmps153
  go_wp2
  go_step3
  go_wp2
  go_step3
  go_wp2
  go_loop [5] (fun v => ∃ k : Nat, a / 64 ≤ k ∧ k ≤ ws.length ∧ v = .int .i64 k ∧ allTaken t n a (64 * k)) (fun v => ws.length - (intOf v).toNat)
  case atStart => exact ⟨a / 64, Nat.le_refl _, by omega, by simp, fun i h1 h2 h3 => by omega⟩
  case round =>
    obtain ⟨k, hk1, hk2, rfl, hall⟩ := hrel
    by_cases hlt : k < ws.length
    · obtain ⟨x, hx⟩ : ∃ x, ws[k]? = some x := ⟨_, List.getElem?_eq_getElem hlt⟩
      have cw := H.out.word hx
      have hxl := H.out.wf x (List.mem_of_getElem? hx)
      have HX := hid hx
      clear hx
      have hbk : ∀ m, m < 64 → t (64 * k + m) = x.testBit m := fun m hm => by
        rw [← HT.out, bit, show (64 * k + m) / 64 = k by omega, show (64 * k + m) % 64 = m by omega]
        simp [List.getD, HX.out]
      have HBK := hid hbk
      have HALL := hid hall
      clear hbk hall
      go_wp2
      rw [xor_max x hxl]
      go_loopg [6] 64 (fun g v wr => ∃ (lft low : Nat), v = .int .u64 lft ∧ lft < 18446744073709551616 ∧ low ≤ 64 ∧ g = 64 - low ∧ (∀ m, m < 64 → lft.testBit m = (decide (low ≤ m) && !x.testBit m)) ∧ (∀ m, m < low → x.testBit m = true ∨ 64 * k + m < a) ∧ wr = w)
      case atStart => exact ⟨_, 0, rfl, xor_max_lt x hxl, by omega, rfl, fun m hm => by rw [xor_max_bit]; simp [hm], fun m hm => by omega, rfl⟩
      case round =>
        obtain ⟨lft, low, rfl, hll, hlow, hg, hb, hpre, rfl⟩ := hrel
        have HBb := hid hb
        have HPre := hid hpre
        clear hb hpre
        by_cases hz : lft = 0
        · subst hz
          go_wp2
          go_round
          case rel =>
            refine ⟨k + 1, by omega, by omega, by simp, fun i h1 h2 h3 => ?_⟩
            by_cases hik : i < 64 * k
            · exact HALL.out i h1 hik h3
            · have hm : i = 64 * k + (i - 64 * k) := by omega
              have hm2 : i - 64 * k < 64 := by omega
              rw [hm, HBK.out _ hm2]
              generalize i - 64 * k = m at *
              by_cases hlm : low ≤ m
              · have := HBb.out m hm2
                simp [hlm] at this
                exact this
              · rcases HPre.out m (by omega) with h | h
                · exact h
                · omega
          case measure => simp [intOf]; omega
        · obtain ⟨hc1, hc2, hc3⟩ := ctz_bit hz hll
          have hd := and_pred hz hll
          have hdl := drop_low hz hll
          have htz := hid (tz_at lft hll wr HTab.out)
          have hne : ((lft : Int) != 0) = true := by simp; omega
          generalize Lib.ctz 64 lft = m0 at *
          have hx0 : low ≤ m0 ∧ x.testBit m0 = false := by
            have := HBb.out m0 hc1
            rw [hc2] at this
            simpa using this.symm
          have hbelow : ∀ m, m < m0 → x.testBit m = true ∨ 64 * k + m < a := fun m hm => by
            by_cases hlm : low ≤ m
            · have := HBb.out m (by omega)
              rw [hc3 m hm] at this
              simp [hlm] at this
              exact .inl this
            · exact HPre.out m (by omega)
          have hall2 : allTaken t n a (64 * k + m0) := fun i h1 h2 h3 => by
            by_cases hik : i < 64 * k
            · exact HALL.out i h1 hik h3
            · have hm : i = 64 * k + (i - 64 * k) := by omega
              have hm2 : i - 64 * k < 64 := by omega
              rw [hm, HBK.out _ hm2]
              rcases hbelow (i - 64 * k) (by omega) with h | h
              · exact h
              · omega
          have HB2 := hid (And.intro hc2 (And.intro hc3 (And.intro hdl (And.intro hx0.2 (And.intro hbelow hall2)))))
          have hx1 := hx0.1
          have HD := hid hd
          clear hc2 hc3 hdl hx0 hbelow hall2 hd
          rcases (show n ≤ 64 * k + m0 ∨ (64 * k + m0 < n ∧ a ≤ 64 * k + m0) ∨ (64 * k + m0 < n ∧ 64 * k + m0 < a) by omega) with hc | ⟨hc, hc'⟩ | ⟨hc, hc'⟩
          · go_wp2_with (go_at_call 214; refine htz.out.mono ?_; rintro e w' ⟨rfl, rfl⟩)
            rw [Exit.noGoto_ret]
            go_ret
            obtain ⟨hc2, hc3, hdl, hx0, hbelow, hall2⟩ := HB2.out
            exact ⟨-1, .inl ⟨rfl, fun i h1 h2 h3 => hall2 i h1 (by omega) h3⟩, rfl, rfl⟩
          · go_wp2_with (go_at_call 214; refine htz.out.mono ?_; rintro e w' ⟨rfl, rfl⟩)
            rw [Exit.noGoto_ret]
            go_ret
            obtain ⟨hc2, hc3, hdl, hx0, hbelow, hall2⟩ := HB2.out
            exact ⟨(64 * k + m0 : Nat), .inr ⟨64 * k + m0, rfl, hc', hc, by rw [HBK.out m0 hc1]; exact hx0, hall2⟩, by simp [Int.mul_comm], rfl⟩
          · go_wp2_with (go_at_call 214; refine htz.out.mono ?_; rintro e w' ⟨rfl, rfl⟩)
            rw [HD.out]
            obtain ⟨hc2, hc3, hdl, hx0, hbelow, hall2⟩ := HB2.out
            go_roundg (64 - (m0 + 1))
            case measure => omega
            case rel =>
              refine ⟨lft &&& (lft - 1), m0 + 1, rfl, Nat.lt_of_le_of_lt Nat.and_le_left hll, by omega, rfl, fun m hm => ?_, fun m hm => ?_, rfl⟩
              · rw [hdl]
                by_cases he : m = m0
                · rw [if_pos he]; simp; omega
                · rw [if_neg he, HBb.out m hm]
                  by_cases hlm : m0 + 1 ≤ m
                  · have : low ≤ m := by omega
                    simp [hlm, this]
                  · have h3 := hc3 m (by omega)
                    rw [HBb.out m hm] at h3
                    simp [hlm]
                    simpa using h3
              · rcases Nat.lt_or_ge m m0 with h | h
                · exact hbelow m h
                · obtain rfl : m = m0 := by omega
                  exact .inr hc'
    · obtain rfl : k = ws.length := by omega
      go_wp2
      go_ret
      exact ⟨-1, .inl ⟨rfl, fun i h1 h2 h3 => hall i h1 (by omega) h3⟩, rfl, rfl⟩
end Go.Proofs.YtgdhaaokolfdoaaGreatDoor
