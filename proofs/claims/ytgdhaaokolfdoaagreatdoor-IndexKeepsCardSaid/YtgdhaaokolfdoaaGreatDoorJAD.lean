/- A pack of texts: Free, Take, Lf. Conditions: those that each text names. -/
import Derived.Test.YtgdhaaokolfdoaaGreatDoorJAC
set_option linter.unusedVariables false
set_option linter.unusedSimpArgs false
set_option linter.unnecessarySimpa false
namespace Go.Proofs.YtgdhaaokolfdoaaGreatDoor
open Go.RowKit Go.Sg Go.Sg.Bits

def allTaken (t : Nat → Bool) (n a b : Nat) : Prop := ∀ i, a ≤ i → i < b → i < n → t i = true
def FreeIs (t : Nat → Bool) (n a : Nat) (r : Int) : Prop := (r = -1 ∧ allTaken t n a n) ∨ ∃ i : Nat, r = i ∧ a ≤ i ∧ i < n ∧ t i = false ∧ allTaken t n a i

set_option maxHeartbeats 2000000 in
theorem free_at {w : World} {bs bw n hand : Nat} {t : Nat → Bool} (h : BitsAt w bs bw n hand t) (hT : Tab w) (a : Nat) (ha : a ≤ n) :
    Calls Tryz.prog 153 #[.pointer (some ⟨bs, 0, none⟩), .int .i64 a] w fun e w' => ∃ r, FreeIs t n a r ∧ e = .returned (.int .i64 r) ∧ w = w' := by
  obtain ⟨ws, h, ht⟩ := h
  have c0 := cell_of_heap h.s 0
  have c2 := cell_of_heap h.s 2
  simp at c0 c2
  have hl := h.len
  have hr := h.room
  have H := hid h
  have HT := hid ht
  have HTab := hid hT
  clear h ht hT
  go_enter Tryz.func153, Tryz.ntmps153
  go_wp2
  go_step3
  go_wp2
  go_step3
  go_wp2
  go_loop [5] (fun v => ∃ k : Nat, a / 64 ≤ k ∧ k ≤ ws.length ∧ v = .int .i64 k ∧ allTaken t n a (64 * k)) (fun v => ws.length - (intOf v).toNat)
  case atStart => exact ⟨a / 64, Nat.le_refl _, by omega, by simp, fun i h1 h2 h3 => by omega⟩
  case round =>
    obtain ⟨k, hk1, hk2, rfl, hall⟩ := hrel
    by_cases hlt : k < ws.length
    · obtain ⟨x, hx⟩ : ∃ x, ws[k]? = some x := ⟨_, List.getElem?_eq_getElem hlt⟩
      have cw := H.out.word hx
      have hxl := H.out.wf x (List.mem_of_getElem? hx)
      have HX := hid hx
      clear hx
      have hbk : ∀ m, m < 64 → t (64 * k + m) = x.testBit m := fun m hm => by
        rw [← HT.out, bit, show (64 * k + m) / 64 = k by omega, show (64 * k + m) % 64 = m by omega]
        simp [List.getD, HX.out]
      have HBK := hid hbk
      have HALL := hid hall
      clear hbk hall
      go_wp2
      rw [xor_max x hxl]
      go_loopg [6] 64 (fun g v wr => ∃ (lft low : Nat), v = .int .u64 lft ∧ lft < 18446744073709551616 ∧ low ≤ 64 ∧ g = 64 - low ∧ (∀ m, m < 64 → lft.testBit m = (decide (low ≤ m) && !x.testBit m)) ∧ (∀ m, m < low → x.testBit m = true ∨ 64 * k + m < a) ∧ wr = w)
      case atStart => exact ⟨_, 0, rfl, xor_max_lt x hxl, by omega, rfl, fun m hm => by rw [xor_max_bit]; simp [hm], fun m hm => by omega, rfl⟩
      case round =>
        obtain ⟨lft, low, rfl, hll, hlow, hg, hb, hpre, rfl⟩ := hrel
        have HBb := hid hb
        have HPre := hid hpre
        clear hb hpre
        by_cases hz : lft = 0
        · subst hz
          go_wp2
          go_round
          case rel =>
            refine ⟨k + 1, by omega, by omega, by simp, fun i h1 h2 h3 => ?_⟩
            by_cases hik : i < 64 * k
            · exact HALL.out i h1 hik h3
            · have hm : i = 64 * k + (i - 64 * k) := by omega
              have hm2 : i - 64 * k < 64 := by omega
              rw [hm, HBK.out _ hm2]
              generalize i - 64 * k = m at *
              by_cases hlm : low ≤ m
              · have := HBb.out m hm2
                simp [hlm] at this
                exact this
              · rcases HPre.out m (by omega) with h | h
                · exact h
                · omega
          case measure => simp [intOf]; omega
        · obtain ⟨hc1, hc2, hc3⟩ := ctz_bit hz hll
          have hd := and_pred hz hll
          have hdl := drop_low hz hll
          have htz := hid (tz_at lft hll wr HTab.out)
          have hne : ((lft : Int) != 0) = true := by simp; omega
          generalize Lib.ctz 64 lft = m0 at *
          have hx0 : low ≤ m0 ∧ x.testBit m0 = false := by
            have := HBb.out m0 hc1
            rw [hc2] at this
            simpa using this.symm
          have hbelow : ∀ m, m < m0 → x.testBit m = true ∨ 64 * k + m < a := fun m hm => by
            by_cases hlm : low ≤ m
            · have := HBb.out m (by omega)
              rw [hc3 m hm] at this
              simp [hlm] at this
              exact .inl this
            · exact HPre.out m (by omega)
          have hall2 : allTaken t n a (64 * k + m0) := fun i h1 h2 h3 => by
            by_cases hik : i < 64 * k
            · exact HALL.out i h1 hik h3
            · have hm : i = 64 * k + (i - 64 * k) := by omega
              have hm2 : i - 64 * k < 64 := by omega
              rw [hm, HBK.out _ hm2]
              rcases hbelow (i - 64 * k) (by omega) with h | h
              · exact h
              · omega
          have HB2 := hid (And.intro hc2 (And.intro hc3 (And.intro hdl (And.intro hx0.2 (And.intro hbelow hall2)))))
          have hx1 := hx0.1
          have HD := hid hd
          clear hc2 hc3 hdl hx0 hbelow hall2 hd
          rcases (show n ≤ 64 * k + m0 ∨ (64 * k + m0 < n ∧ a ≤ 64 * k + m0) ∨ (64 * k + m0 < n ∧ 64 * k + m0 < a) by omega) with hc | ⟨hc, hc'⟩ | ⟨hc, hc'⟩
          · go_wp2_with (go_at_call 214; refine htz.out.mono ?_; rintro e w' ⟨rfl, rfl⟩)
            rw [Exit.noGoto_ret]
            go_ret
            obtain ⟨hc2, hc3, hdl, hx0, hbelow, hall2⟩ := HB2.out
            exact ⟨-1, .inl ⟨rfl, fun i h1 h2 h3 => hall2 i h1 (by omega) h3⟩, rfl, rfl⟩
          · go_wp2_with (go_at_call 214; refine htz.out.mono ?_; rintro e w' ⟨rfl, rfl⟩)
            rw [Exit.noGoto_ret]
            go_ret
            obtain ⟨hc2, hc3, hdl, hx0, hbelow, hall2⟩ := HB2.out
            exact ⟨(64 * k + m0 : Nat), .inr ⟨64 * k + m0, rfl, hc', hc, by rw [HBK.out m0 hc1]; exact hx0, hall2⟩, by simp [Int.mul_comm], rfl⟩
          · go_wp2_with (go_at_call 214; refine htz.out.mono ?_; rintro e w' ⟨rfl, rfl⟩)
            rw [HD.out]
            obtain ⟨hc2, hc3, hdl, hx0, hbelow, hall2⟩ := HB2.out
            go_roundg (64 - (m0 + 1))
            case measure => omega
            case rel =>
              refine ⟨lft &&& (lft - 1), m0 + 1, rfl, Nat.lt_of_le_of_lt Nat.and_le_left hll, by omega, rfl, fun m hm => ?_, fun m hm => ?_, rfl⟩
              · rw [hdl]
                by_cases he : m = m0
                · rw [if_pos he]; simp; omega
                · rw [if_neg he, HBb.out m hm]
                  by_cases hlm : m0 + 1 ≤ m
                  · have : low ≤ m := by omega
                    simp [hlm, this]
                  · have h3 := hc3 m (by omega)
                    rw [HBb.out m hm] at h3
                    simp [hlm]
                    simpa using h3
              · rcases Nat.lt_or_ge m m0 with h | h
                · exact hbelow m h
                · obtain rfl : m = m0 := by omega
                  exact .inr hc'
    · obtain rfl : k = ws.length := by omega
      go_wp2
      go_ret
      exact ⟨-1, .inl ⟨rfl, fun i h1 h2 h3 => hall i h1 (by omega) h3⟩, rfl, rfl⟩
end Go.Proofs.YtgdhaaokolfdoaaGreatDoor

namespace Go.Sg.Bits
open Go.RowKit
theorem BitsAt.room {w : World} {bs bw n hand : Nat} {t : Nat → Bool} (h : BitsAt w bs bw n hand t) : (1 ≤ n ∧ n ≤ 65536) ∧ hand < n := by
  obtain ⟨ws, h, _⟩ := h; exact ⟨h.room, h.hand⟩
theorem BitsAt.cells {w : World} {bs bw n hand : Nat} {t : Nat → Bool} (h : BitsAt w bs bw n hand t) : ∃ m, w.cell? ⟨bs, 0, none⟩ = some (.int .i64 n) ∧ w.cell? ⟨bs, 1, none⟩ = some (.int .i64 hand) ∧ w.cell? ⟨bs, 2, none⟩ = some (.slice (some ⟨bw, 0, none⟩) m m) ∧ ∀ o, w.frozen? ⟨bs, o, none⟩ = false := by
  obtain ⟨ws, h, _⟩ := h
  obtain ⟨c0, c1, c2, z, _⟩ := cells3 h.s
  exact ⟨_, c0, c1, c2, z⟩
theorem BitsAt.turn {w : World} {bs bw n hand : Nat} {t : Nat → Bool} (h : BitsAt w bs bw n hand t) {k : Nat} (hk : k < n) : BitsAt (w.setCell ⟨bs, 1, none⟩ (.int .i64 k)) bs bw n k t := by
  obtain ⟨ws, h, ht⟩ := h
  have hne : bs ≠ bw := heap_ne h.s h.w_ (by simp)
  refine ⟨ws, ⟨?_, ?_, h.len, h.room, hk, h.wf, h.pad⟩, ht⟩
  · rw [heap_setCell_cells _ _ _ _ h.s]; simp
  · rw [heap_setCell_ne _ _ _ _ hne, h.w_]
theorem BitsAt.lts {w : World} {bs bw n hand : Nat} {t : Nat → Bool} (h : BitsAt w bs bw n hand t) : bs < w.heap.size ∧ bw < w.heap.size ∧ bs ≠ bw := by
  obtain ⟨ws, h, ht⟩ := h
  exact ⟨lt_of_heap h.s, lt_of_heap h.w_, heap_ne h.s h.w_ (by simp)⟩

end Go.Sg.Bits
namespace Go.Proofs.YtgdhaaokolfdoaaGreatDoor
open Go.RowKit Go.Sg Go.Sg.Bits

def TakeIs (t : Nat → Bool) (n hand : Nat) (i : Nat) : Prop :=
  i < n ∧ t i = false ∧ ((hand ≤ i ∧ allTaken t n hand i) ∨ (allTaken t n hand n ∧ allTaken t n 0 i))


def TakePost (t : Nat → Bool) (bs bw n hand : Nat) (w : World) (e : Ending) (w' : World) : Prop :=
  ∃ i, TakeIs t n hand i ∧ e = .returned (.tuple #[.int .i64 i, .bool true]) ∧ BitsAt w' bs bw n ((i + 1) % n) (upd t i true) ∧ Fr (fun b => b = bs ∨ b = bw) w w'

set_option maxHeartbeats 2000000 in
theorem take_some {w : World} {bs bw n hand : Nat} {t : Nat → Bool} (h : BitsAt w bs bw n hand t) (hT : Tab w) {j : Nat} (hj : j < n) (hfree : t j = false) :
    Calls Tryz.prog 81 #[.pointer (some ⟨bs, 0, none⟩)] w (TakePost t bs bw n hand w) := by
  obtain ⟨m, c0, c1, c2, z⟩ := h.cells
  obtain ⟨hr, hh⟩ := h.room
  obtain ⟨l1, l2, l3⟩ := h.lts
  have H := hid h
  have HT := hid hT
  have HJ := hid hfree
  clear h hT hfree
  go_enter Tryz.func81, Tryz.ntmps81
  go_wp2_with fail
  refine (free_at H.out HT.out hand (by omega)).mono ?_
  rintro e w' ⟨r, hf, rfl, rfl⟩
  rcases hf with ⟨rfl, hall⟩ | ⟨i, rfl, hhi, hi, hti, hall⟩
  · have HALL := hid hall
    clear hall
    go_wp2_with fail
    refine (free_at H.out HT.out 0 (by omega)).mono ?_
    rintro e w' ⟨r, hf, rfl, rfl⟩
    rcases hf with ⟨rfl, hall⟩ | ⟨i, rfl, hhi, hi, hti, hall⟩
    · have := hall j (Nat.zero_le _) hj hj
      rw [HJ.out] at this; cases this
    · have HI := hid (show TakeIs t n hand i from ⟨hi, hti, .inr ⟨HALL.out, hall⟩⟩)
      have HTI := hid hti
      clear hall hti
      go_wp2_with fail
      refine (mark_new H.out i hi HTI.out).mono ?_
      rintro e w1 ⟨rfl, hB, F1⟩
      obtain ⟨m', d0, d1, d2, dz⟩ := hB.cells
      have HB := hid hB
      have hmod := Nat.mod_lt (i + 1) (show 0 < n by omega)
      have hc1 : ((i : Int) + 1) % (n : Int) = (((i + 1) % n : Nat) : Int) := by simp
      have HC := hid hc1
      clear hB hc1
      go_wp2
      go_ret2
      exact ⟨i, HI.out, rfl, by rw [HC.out]; exact HB.out.turn hmod, (F1.mono (fun b _ h => .inr h)).setCell (fun _ => .inl rfl) _⟩
  · have HI := hid (show TakeIs t n hand i from ⟨hi, hti, .inl ⟨hhi, hall⟩⟩)
    have HTI := hid hti
    clear hall hti
    go_wp2_with fail
    refine (mark_new H.out i hi HTI.out).mono ?_
    rintro e w1 ⟨rfl, hB, F1⟩
    obtain ⟨m', d0, d1, d2, dz⟩ := hB.cells
    have HB := hid hB
    have hmod := Nat.mod_lt (i + 1) (show 0 < n by omega)
    have hc1 : ((i : Int) + 1) % (n : Int) = (((i + 1) % n : Nat) : Int) := by simp
    have HC := hid hc1
    clear hB hc1
    go_wp2
    go_ret2
    exact ⟨i, HI.out, rfl, by rw [HC.out]; exact HB.out.turn hmod, (F1.mono (fun b _ h => .inr h)).setCell (fun _ => .inl rfl) _⟩

theorem info29 : (Tryz.prog.info? 29).map (fun i => (i.zero, i.size, i.bytes)) = some (some (.int .u64 0), 1, 8) := by kernel_rfl
set_option maxHeartbeats 1000000 in
set_option maxRecDepth 100000 in
theorem newbits_ok (n : Nat) (h1 : 1 ≤ n) (h2 : n ≤ 65536) (w : World) :
    Calls Tryz.prog 95 #[.int .i64 n] w fun e w' => ∃ bs bw, e = .returned (.pointer (some ⟨bs, 0, none⟩)) ∧ BitsAt w' bs bw n 0 (fun _ => false) ∧ w.heap.size ≤ bs ∧ w.heap.size ≤ bw ∧ Fr (fun _ => False) w w' := by
  obtain ⟨i0, hi, hz0, hz1, hz2⟩ := info_parts info29
  have hmk := fun W => run_make_len (P := Tryz.prog) 254 29 i0 _ Tryz.underlying254 hi hz0 ((n + 63) / 64) (by rw [hz2]; omega) (by omega) W
  rw [hz1] at hmk
  have e : (((n + 63) / 64 : Nat) : Int) = ((n : Int) + 64 - 1) / 64 := by omega
  simp only [e] at hmk
  clear hi hz0 hz1 hz2 e
  go_enter Tryz.func95, Tryz.ntmps95
  go_wp2
  go_ret
  have hz : madeCells #[Value.int IntKind.u64 0] ((n + 63) / 64) = wcells (List.replicate ((n + 63) / 64) 0) := by
    apply Array.ext
    · rw [size_madeCells]; simp [wcells]
    · intro i h1 h2
      simp [madeCells, wcells, Nat.mod_one]
  refine ⟨w.heap.size + 1, w.heap.size, by simp, ⟨List.replicate ((n + 63) / 64) 0, ?_, fun i => ?_⟩, by omega, Nat.le_refl _, ((Fr.refl _ _).alloc _).alloc _⟩
  · obtain ⟨g1, g2, _⟩ := heap_two (w := w) (A := .cells (madeCells #[.int .u64 0] ((n + 63) / 64)) 29) (B := .cells #[.int .i64 n, .int .i64 0, .slice (some ⟨w.heap.size, 0, none⟩) ((n + 63) / 64) ((n + 63) / 64)] 256) rfl
    refine ⟨?_, ?_, by simp, ⟨h1, h2⟩, by omega, fun x hx => ?_, fun i _ => ?_⟩
    · rw [List.length_replicate]; exact g2
    · rw [← hz]; exact g1
    · rw [List.eq_of_mem_replicate hx]; decide
    · simp [bit, List.getD, List.getElem?_replicate]; split <;> simp
  · simp [bit, List.getD, List.getElem?_replicate]; split <;> simp
end Go.Proofs.YtgdhaaokolfdoaaGreatDoor

namespace Go.Proofs.YtgdhaaokolfdoaaGreatDoor
open Go.RowKit Go.Sg
set_option maxRecDepth 100000 in
theorem may_yes (s : Int) (h1 : 96 ≤ s) (h2 : s ≤ 512) (w : World) : Calls Tryz.prog 159 #[.int .i64 s] w fun e w' => e = .returned (.bool true) ∧ w = w' := by
  go_enter Tryz.func159, Tryz.ntmps159
  go_wp2
  go_ret
  exact ⟨rfl, rfl⟩
set_option maxRecDepth 100000 in
theorem room_ok (s : Int) (h1 : 96 ≤ s) (h2 : s ≤ 512) (w : World) : Calls Tryz.prog 94 #[.int .i64 s] w fun e w' => e = .returned (.int .i64 (s - 19)) ∧ w = w' := by
  go_enter Tryz.func94, Tryz.ntmps94
  go_wp2_with (go_at_call 159; refine (may_yes s h1 h2 _).mono ?_; rintro e w' ⟨rfl, rfl⟩)
  go_ret
  exact ⟨rfl, rfl⟩
end Go.Proofs.YtgdhaaokolfdoaaGreatDoor
