/- A pack of texts: BA, BB, SC. Conditions: those that each text names. -/
import Derived.Test.YtgdhaaokolfdoaaGreatDoorKAD
import Derived.Test.YtgdhaaokolfdoaaGreatDoorKAA
import Derived.RangeFuncBox
import Derived.Test.YtgdhaaokolfdoaaGreatDoorKAF
import Derived.Test.YtgdhaaokolfdoaaGreatDoorKAP
import Derived.Maps.RangeWalk
set_option linter.unusedVariables false
set_option linter.unusedSimpArgs false
set_option linter.unnecessarySimpa false
/- The set of bits: All. Conditions: the set lies in the world as BitsAt says, the library's table as its text lays it. -/
namespace Go.Sg.Bits
open Go.RowKit
/-- The numbers below m that are taken. -/
def tu (t : Nat → Bool) (m : Nat) : List Int := ((List.range m).filter t).map Int.ofNat
theorem tu_len (t : Nat → Bool) (m : Nat) : (tu t m).length ≤ m := by
  simp only [tu, List.length_map]
  exact Nat.le_trans (List.length_filter_le _ _) (by simp)
theorem tu_succ (t : Nat → Bool) (m : Nat) : tu t (m + 1) = if t m then tu t m ++ [(m : Int)] else tu t m := by
  simp only [tu, List.range_succ, List.filter_append, List.map_append]
  cases h : t m <;> simp [h]
theorem tu_skip (t : Nat → Bool) (a : Nat) : ∀ d, (∀ i, a ≤ i → i < a + d → t i = false) → tu t (a + d) = tu t a := by
  intro d
  induction d with
  | zero => intro _; rfl
  | succ d ih =>
    intro h
    rw [← Nat.add_assoc, tu_succ, h (a + d) (by omega) (by omega)]
    simp only [Bool.false_eq_true, if_false]
    exact ih fun i h1 h2 => h i h1 (by omega)
theorem tu_next {t : Nat → Bool} {a b : Nat} (hab : a ≤ b) (h : ∀ i, a ≤ i → i < b → t i = false) (hb : t b = true) : tu t (b + 1) = tu t a ++ [(b : Int)] := by
  obtain ⟨d, rfl⟩ : ∃ d, b = a + d := ⟨b - a, by omega⟩
  rw [tu_succ, if_pos hb, tu_skip t a d h]
theorem tu_prefix (t : Nat → Bool) {a b : Nat} (h : a ≤ b) : tu t a <+: tu t b := by
  induction b with
  | zero => obtain rfl : a = 0 := by omega
            exact List.prefix_rfl
  | succ b ih =>
    by_cases hk : a = b + 1
    · subst hk; exact List.prefix_rfl
    · have := ih (by omega)
      rw [tu_succ]
      split
      · exact this.trans (List.prefix_append _ _)
      · exact this
end Go.Sg.Bits
namespace Go.Proofs.YtgdhaaokolfdoaaGreatDoor
open Go.RowKit Go.Sg Go.Sg.Bits Go.Shelf
attribute [local go_sem] Oper.semAt_some
theorem taken_any (a : Option Addr) (w : World) :
    Calls Tryz.prog 162 #[.pointer a] w fun e w' => e = .returned (.func (.func 224) #[] #[.pointer (some ⟨w.heap.size, 0, none⟩)]) ∧ w.alloc (.cells #[.pointer a] 152) = w' := by
  go_enter Tryz.func162, Tryz.ntmps162
  go_wp2
  go_ret
  exact ⟨rfl, rfl⟩
abbrev encT (x : Int) : Array Value := #[.int .i64 x]
set_option maxRecDepth 100000 in
set_option maxHeartbeats 4000000 in
theorem takenf_stops {w : World} {bs bw n hand bx : Nat} {ws : List Nat} (h : BRaw w bs bw n hand ws) (hT : Tab w) (hx : w.cell? ⟨bx, 0, none⟩ = some (.pointer (some ⟨bs, 0, none⟩))) :
    SeqStopsK Fence.wide 9 Tryz.prog 224 #[.pointer (some ⟨bx, 0, none⟩)] encT (fun W W' => W'.heap[bw]? = W.heap[bw]? ∧ W'.heap[0]? = W.heap[0]?) (fun xs => xs = tu (bit ws) (64 * ws.length)) (fun pre => pre <+: tu (bit ws) (64 * ws.length)) (64 * ws.length) w := fun l J Jx W hW hJ _ hY h0 => by
  have hr := h.room
  have hl := h.len
  have hwf := h.wf
  have hx' := (hW.cell (p := ⟨bx, 0, none⟩) (World.block_lt_of_cell? _ _ hx)).trans hx
  have hc2 := (hW.cell (p := ⟨bs, 2, none⟩) (lt_of_heap h.s)).trans (cell_of_heap h.s 2)
  simp at hc2
  have hp := (hW.block bw (lt_of_heap h.w_)).trans h.w_
  have ht : Tab W := hT.fr (Fr.of_below hW) (S := fun _ => False) (fun h => h)
  have HWF := hid hwf
  have hl2 : ws.length ≤ 1024 := by omega
  have HT := hid ht
  clear hx hW h hT hwf ht hl
  refine callsIn_of_wp Tryz.func224 rfl trivial ?_ rfl
  simp only [Tryz.ntmps224, List.size_toArray, List.length_cons, List.length_nil, Nat.reduceAdd, Nat.reduceSub, Array.replicate_succ, Array.replicate_zero, List.push_toArray, List.append_toArray, List.nil_append, List.cons_append]
  gi_wp2
  gi_loopw [10] (fun i wr => ∃ k : Nat, k ≤ ws.length ∧ i = .int .i64 k ∧ J (tu (bit ws) (64 * k)) wr ∧ wr.heap[bw]? = some (.cells (wcells ws) 29) ∧ wr.heap[0]? = W.heap[0]?) (fun i _ => ws.length - (intOf i).toNat)
  case atStart => exact ⟨0, Nat.zero_le _, rfl, h0, hp, rfl⟩
  case round =>
    obtain ⟨k, hk, rfl, hJs, hps, ht0⟩ := hrel
    by_cases hlt : k < ws.length
    · obtain ⟨x, hx⟩ : ∃ x, ws[k]? = some x := ⟨_, List.getElem?_eq_getElem hlt⟩
      have cw : wr.cell? ⟨bw, k, none⟩ = some (.int .u64 x) := by rw [cell_of_heap hps]; simp [wcells, hx]
      have hxl := HWF.out x (List.mem_of_getElem? hx)
      have hbk : ∀ m, m < 64 → bit ws (64 * k + m) = x.testBit m := fun m hm => by
        rw [bit, show (64 * k + m) / 64 = k by omega, show (64 * k + m) % 64 = m by omega]
        simp [List.getD, hx]
      have HBK := hid hbk
      have HX := hid hx
      have HPS := hid hps
      have HT0 := hid ht0
      clear hbk hx hps ht0
      have hkd : decide (k < ws.length) = true := by simpa using hlt
      have hkd2 : decide ((k : Int) < (ws.length : Int)) = true := by simpa using hlt
      gi_wp2
      gi_loopw [4] (fun v wr => ∃ (lft low : Nat), v = .int .u64 lft ∧ lft < 18446744073709551616 ∧ low ≤ 64 ∧ (∀ m, m < 64 → lft.testBit m = (decide (low ≤ m) && x.testBit m)) ∧ J (tu (bit ws) (64 * k + low)) wr ∧ wr.heap[bw]? = some (.cells (wcells ws) 29) ∧ wr.heap[0]? = W.heap[0]?) (fun v _ => (intOf v).toNat)
      case atStart => exact ⟨x, 0, rfl, hxl, by omega, fun m hm => by simp, hJs, HPS.out, HT0.out⟩
      case round =>

        obtain ⟨lft, low, rfl, hll, hlow, hb, hJ2, hps2, ht2⟩ := hrel
        have HBb := hid hb
        have HPS2 := hid hps2
        have HT2 := hid ht2
        have HJ2 := hid hJ2
        clear hb hps2 ht2 hJ2
        by_cases hz : lft = 0
        · subst hz
          gi_wp2
          go_roundw
          case rel =>
            refine ⟨k + 1, by omega, by simp, ?_, HPS2.out, HT2.out⟩
            have e : tu (bit ws) (64 * (k + 1)) = tu (bit ws) (64 * k + low) := by
              have := tu_skip (bit ws) (64 * k + low) (64 - low) (fun i h1 h2 => by
                have hm := HBb.out (i - 64 * k) (by omega)
                have hb := HBK.out (i - 64 * k) (by omega)
                rw [show 64 * k + (i - 64 * k) = i by omega] at hb
                rw [hb]
                have hd : decide (low ≤ i - 64 * k) = true := by simp; omega
                rw [hd] at hm
                simpa using hm.symm)
              rw [← this]; congr 1; omega
            rw [e]; exact HJ2.out
          case measure => simp [intOf]; omega
        · obtain ⟨hc1, hc2, hc3⟩ := ctz_bit hz hll
          have hd := and_pred hz hll
          have hdl := drop_low hz hll
          have htz := hid (fun W' (h : W'.heap[0]? = W.heap[0]?) => tz_at lft hll W' (fun j hj => (World.cell?_of_block (a := ⟨0, j, none⟩) h).trans (HT.out j hj)))
          have hne : ((lft : Int) != 0) = true := by simp; omega
          have hlt2 : lft &&& (lft - 1) < lft := by
            rcases Nat.lt_or_ge (lft &&& (lft - 1)) lft with h | h
            · exact h
            · have h2 := Nat.and_le_right (n := lft) (m := lft - 1)
              omega
          generalize Lib.ctz 64 lft = m0 at *
          have hx0 : low ≤ m0 ∧ x.testBit m0 = true := by
            have := HBb.out m0 hc1
            rw [hc2] at this
            simpa using this.symm
          have hnx : tu (bit ws) (64 * k + m0 + 1) = tu (bit ws) (64 * k + low) ++ [(k : Int) * 64 + m0] := by
            have := tu_next (t := bit ws) (a := 64 * k + low) (b := 64 * k + m0) (by omega) (fun i h1 h2 => by
              have hm := HBb.out (i - 64 * k) (by omega)
              have hb := HBK.out (i - 64 * k) (by omega)
              rw [show 64 * k + (i - 64 * k) = i by omega] at hb
              rw [hb]
              have hd : decide (low ≤ i - 64 * k) = true := by simp; omega
              rw [hd, hc3 _ (by omega)] at hm
              simpa using hm.symm) (by rw [HBK.out m0 hc1]; exact hx0.2)
            rw [this]
            congr 2
            have : ((64 * k + m0 : Nat) : Int) = (k : Int) * 64 + m0 := by omega
            exact this
          obtain ⟨fn, tmps, assign, body, hy, hR⟩ := hY _ ((k : Int) * 64 + m0) wr HJ2.out (by have := tu_len (bit ws) (64 * k + low); omega)
          dsimp only [encT] at hy
          have HD := hid hd
          have HX0 := hid hx0
          have HNX := hid hnx
          have HC := hid (And.intro hc2 (And.intro hc3 hdl))
          have hlm := hx0.1
          clear hd hx0 hnx hc2 hc3 hdl
          gi_wp2_with (gi_at_call 214; refine (callsIn_wide.2 (htz.out _ HT2.out)).mono ?_; rintro e w' ⟨rfl, rfl⟩)
          refine hR.mono ?_
          rintro e W3 (⟨rfl, hJ3, hk3⟩ | ⟨rfl, hJx3⟩)
          · have HJ3 := hid hJ3
            have HK3 := hid hk3
            clear hJ3 hk3
            gi_wp2
            rw [HD.out]
            go_roundw
            case rel =>
              refine ⟨lft &&& (lft - 1), m0 + 1, rfl, by omega, by omega, fun m hm => ?_, ?_, HK3.out.1.trans HPS2.out, HK3.out.2.trans HT2.out⟩
              · obtain ⟨hc2, hc3, hdl⟩ := HC.out
                rw [hdl]
                by_cases he : m = m0
                · rw [if_pos he]; simp; omega
                · rw [if_neg he, HBb.out m hm]
                  by_cases hlm' : m0 + 1 ≤ m
                  · have : low ≤ m := by omega
                    simp [hlm', this]
                  · have h3 := hc3 m (by omega)
                    rw [HBb.out m hm] at h3
                    simp [hlm']
                    simpa using h3
              · rw [show 64 * k + (m0 + 1) = 64 * k + m0 + 1 by omega, HNX.out]; exact HJ3.out
            case measure => simp [intOf]; omega
          · have HJX := hid hJx3
            clear hJx3
            gi_wp2
            refine bodyPost_ret (results_none rfl _ _ _) rfl ?_
            exact ⟨⟨_, rfl⟩, .inr ⟨_, (by have := tu_prefix (bit ws) (a := 64 * k + m0 + 1) (b := 64 * ws.length) (by omega); rw [HNX.out] at this; exact this), HJX.out⟩⟩
    · obtain rfl : k = ws.length := by omega
      gi_wp2
      go_end0
      exact ⟨⟨_, rfl⟩, .inl ⟨_, rfl, hJs⟩⟩
end Go.Proofs.YtgdhaaokolfdoaaGreatDoor

/- The set of bits: All, whole. Conditions: the set lies in the world as BitsAt says, the library's table as its text lays it. -/
namespace Go.Proofs.YtgdhaaokolfdoaaGreatDoor
open Go.RowKit Go.Sg Go.Sg.Bits Go.Shelf
attribute [local go_sem] Oper.semAt_some
theorem Tryz.info3 : (Tryz.prog.info? 3).map (fun i => (i.zero, i.size, i.bytes)) = some (some (.int .i64 0), 1, 8) := by kernel_rfl
theorem all_nil (w : World) : Calls Tryz.prog 100 #[.pointer none] w fun e w' => e = .returned (.slice none 0 0) ∧ Fr (fun _ => False) w w' := by
  refine (callsIn_wide (n := 10)).1 ?_
  refine callsIn_of_wp_marks Tryz.func100 rfl trivial ?_ rfl
  simp only [Tryz.ntmps100, List.size_toArray, List.length_cons, List.length_nil, Nat.reduceAdd, Nat.reduceSub, Array.replicate_succ, Array.replicate_zero, List.push_toArray, List.append_toArray, List.nil_append, List.cons_append]
  gi_wp2
  exact nomarks_ret1 rfl ⟨rfl, (Fr.refl _ _).alloc _⟩
def HoldsT (w : World) (pre : List Int) (W : World) : Prop :=
  ∃ v, Boxed W w.heap.size 52 v ∧ W.ownsRow w.heap.size 3 1 v pre.length (pre.map (fun x => Value.int .i64 x)) ∧ True
set_option maxRecDepth 100000 in
set_option maxHeartbeats 2000000 in
theorem all_raw {w : World} {bs bw n hand : Nat} {ws : List Nat} (h : BRaw w bs bw n hand ws) (hT : Tab w) :
    Calls Tryz.prog 100 #[.pointer (some ⟨bs, 0, none⟩)] w fun e w' => ∃ v, e = .returned v ∧ Ints w' v (tu (bit ws) (64 * ws.length)) ∧ Fr (fun _ => False) w w' := by
  obtain ⟨i0, hi0, hz0, hz1, hz2⟩ := info_parts Tryz.info3
  refine (callsIn_wide (n := 10)).1 ?_
  have hr := h.room
  have hl := h.len
  have F := hid (taken_any (some ⟨bs, 0, none⟩) (w.alloc (.cells #[.slice none 0 0] 52)))
  refine callsIn_of_wp_marks Tryz.func100 rfl trivial ?_ rfl
  simp only [Tryz.ntmps100, List.size_toArray, List.length_cons, List.length_nil, Nat.reduceAdd, Nat.reduceSub, Array.replicate_succ, Array.replicate_zero, List.push_toArray, List.append_toArray, List.nil_append, List.cons_append]
  gi_wp2_with (gi_at_call 162; refine (callsIn_wide.2 F.out).mono ?_; rintro e w' ⟨rfl, rfl⟩)
  obtain ⟨W0, hW0⟩ : ∃ W0, (w.alloc (.cells #[.slice none 0 0] 52)).alloc (.cells #[.pointer (some ⟨bs, 0, none⟩)] 152) = W0 := ⟨_, rfl⟩
  have hF0 : Fr (fun _ => False) w W0 := by rw [← hW0]; exact ((Fr.refl _ w).alloc _).alloc _
  have hsz : W0.heap.size = w.heap.size + 1 + 1 := by rw [← hW0]; simp
  have hnx : W0.heap[w.heap.size]? = some (.cells #[.slice none 0 0] 52) := by rw [← hW0]; exact (heap_alloc_lt _ _ _ (by simp)).trans (heap_alloc_new _ _)
  have hbx : W0.cell? ⟨w.heap.size + 1, 0, none⟩ = some (.pointer (some ⟨bs, 0, none⟩)) := by rw [← hW0]; simp [go_sem]
  have h0 := h.fr hF0 (fun h => h) (fun h => h)
  have hT0 := hT.fr hF0 (fun h => h)
  have hbp := lt_of_heap h0.w_
  have hl0 := hT0.lt
  have hlT := hT.lt
  have hlw := lt_of_heap h.w_
  simp only [hW0]
  refine wpIn_rangeFunc_ownG (F := Fence.wide) rfl (by omega) (gf := 224) (lb := #[.pointer (some ⟨w.heap.size + 1, 0, none⟩)]) rfl trivial (enters_of Tryz.func224 (by kernel_rfl) rfl)
    (takenf_stops h0 hT0 hbx) (fun h k => ⟨k.1.trans h.1, k.2.trans h.2⟩) (fun W l o o' hl _ _ _ => ⟨heap_putObj_ne _ _ _ _ (by omega), heap_putObj_ne _ _ _ _ (by omega)⟩) (Below.refl _ _) (fun _ => rfl)
    (fun pre W => HoldsT w pre W ∧ Fr (fun _ => False) w W)
    (fun _ _ _ => False)
    (own_and ((holdsRow_own w.heap.size w.heap.size 52 3 1 (fun pre : List Int => pre.length) (fun pre => pre.map (fun x => Value.int .i64 x)) (fun _ _ => True)).from _) (own_fr (by omega)))
    (fun _ _ _ _ _ h => h.elim)
    ⟨⟨_, hnx, World.ownsRow_nil _ _ _ _, trivial⟩, hF0⟩
    (fun x => { tmps := #[.pointer (some ⟨bs, 0, none⟩), undef, .slice none 0 0, .pointer (some ⟨w.heap.size, 0, none⟩), .int .i64 x, .pointer (some ⟨bs, 0, none⟩), .bool false, .pointer (some ⟨bs, 0, none⟩), .func (.func 224) #[] #[.pointer (some ⟨w.heap.size + 1, 0, none⟩)], .int .i64 x, undef, undef, undef, undef, undef], defers := [] }) ?assign ?body ?done ?stop
  case assign =>
    intro l x W K hK
    gi_wp2
    exact hK
  case body =>
    rintro l pre x W ⟨⟨v, hv, hown, -⟩, hF⟩ hlen
    have e0 := hv.cell
    have e1 := hv.frozen
    have l1 := hv.lt
    have hsW := hF.size
    have HV := hid hv
    have HO := hid hown
    clear hv hown h0 hnx hbx
    gi_wp2_with (gi_at_builtin; refine wpListIn_append_own _ rfl (.tmp 10) (.tmp 12) 52 rfl w.heap.size 3 i0 _ 1 8 Tryz.underlying52 hi0 hz0 hz1 hz2 rfl (by decide) _ _ _ rfl (HO.out.alloc _) ⟨W.heap.size, 0, none⟩ 1 1 [.int .i64 x] rfl rfl (cell_one_new _ _ _) (by simp [Value.oneCell']) ?c3 ?c4 ?c5 ?_)
    case c3 => simp [maxLen]; omega
    case c4 => omega
    case c5 => simp; omega
    intro v1 w2 hown2 hgrow hnil
    obtain ⟨g, cap, rfl⟩ := ownsRow_succ hown2
    obtain ⟨d1, d2, d3, d4, d5⟩ := HV.out.appended (by decide) HO.out hsW (Nat.le_refl _) hown2 hgrow
    have f0 := d1.cell
    have f1 := d1.frozen
    have D2 := hid d2
    have D3 := hid d3
    clear hown2 hgrow hnil d1 d2 d3
    gi_wp2
    refine ⟨d4.from _, ⟨d5.block _ (by omega), d5.block _ (by omega)⟩, ⟨_, D2.out, by simpa using D3.out, trivial⟩, ?_⟩
    exact ⟨d5.os.trans hF.os, d5.tape.trans hF.tape, d5.output.trans hF.output, Nat.le_trans hF.size d5.size, fun b hb hn => (d5.block b hb).trans (hF.block b hb hn)⟩
  case done =>
    rintro D ys W hD rfl ⟨⟨v, hv, hown, -⟩, hF⟩ hK
    have e0 := hv.cell
    have HO := hid hown
    clear hown hv h0 hnx hbx
    gi_wp2
    have hI := ownsRow_putObj HO.out (.deferred none) hK rfl
    refine marks_ret1 (t := 2) rfl hK ⟨v, rfl, ints_of_own (base := w.heap.size) (e := 3) (by simpa [Function.comp_def] using hI), hF.putObj (fun hh => by omega) _⟩
  case stop => exact fun _ _ _ _ _ _ h => h.elim
theorem all_at {w : World} {bs bw n hand : Nat} {t : Nat → Bool} (h : BitsAt w bs bw n hand t) (hT : Tab w) :
    Calls Tryz.prog 100 #[.pointer (some ⟨bs, 0, none⟩)] w fun e w' => ∃ v, e = .returned v ∧ Ints w' v (tu t n) ∧ Fr (fun _ => False) w w' := by
  obtain ⟨ws, h, ht⟩ := h
  have e1 : bit ws = t := funext ht
  have hl := h.len
  have e2 : tu t (64 * ws.length) = tu t n := by
    have := tu_skip t n (64 * ws.length - n) (fun i h1 h2 => by rw [← ht]; exact h.pad i h1)
    rw [← this]; congr 1; omega
  refine (all_raw h hT).mono fun e w' ⟨v, he, hI, hF⟩ => ⟨v, he, ?_, hF⟩
  rw [e1, e2] at hI
  exact hI
end Go.Proofs.YtgdhaaokolfdoaaGreatDoor

/- The store: Commit. Conditions: the store lies in the world as StoreAt says. -/
namespace Go.Proofs.YtgdhaaokolfdoaaGreatDoor
open Go.RowKit Go.Sg Go.Sg.Bits Go.Sg.Clk CP
namespace SF
theorem commit_nil (w : World) : Calls Tryz.prog 37 #[.pointer none] w fun e w' => e = .returned (.tuple #[]) ∧ w = w' := by
  go_enter Tryz.func37, Tryz.ntmps37
  go_wp2
  refine bodyPost_ret (results_none rfl _ _ _) rfl ?_
  exact ⟨rfl, rfl⟩
/-- A store behind a commit. -/
def commitX (x : Sto) : Sto :=
  { x with gen := x.gen + 1, taken := fun i => x.taken i && !x.dead i, mem := fun k => if x.dead k then none else x.mem k, fresh := fun _ => false, dying := fun _ => false, dead := x.dying }
/-- Where a store's blocks lie behind a commit. -/
def Blk.next (B : Blk) (n : Nat) : Blk := { B with de := B.dy, dy := n, fr := n + 1 }
/-- A store while a commit goes through what is dead. -/
def midX (x : Sto) (f : Int → Bool) : Sto := { x with taken := fun i => x.taken i && !f i, mem := fun k => if f k then none else x.mem k }
theorem _root_.Go.Proofs.YtgdhaaokolfdoaaGreatDoor.StoreAt.frK {w w' : World} {B : Blk} {x : Sto} (h : StoreAt w B x) {k : Nat} (F : Fr (fun b => b = k) w w') (h1 : ∀ r, ¬ B.at_ r = k) (hk : ∀ c t, w.heap[k]? ≠ some (.cells c t)) : StoreAt w' B x := by
  have h4 : ∀ (g : Nat) (c' : Array Value) (t' : TypeId), w.heap[g]? = some (.cells c' t') → ¬ g = k := fun g c' t' hg e => by
    rw [e] at hg; exact hk _ _ hg
  refine ⟨F.heap h.s (h1 .s), h.dev.fr F (h1 .d) (h1 .bf) (h1 .bq) fun g c' t' h5 hg => h4 g c' t' hg, h.bits.fr F (h1 .bs) (h1 .bw), h.fr.fr F (h1 .fr), h.dy.fr F (h1 .dy), h.de.fr F (h1 .de), h.mem.fr F (h1 .bc) (h1 .bp) (h1 .bm), fun k p hp => ?_, h.ne, h.ge, h.rg, h.inr⟩
  obtain ⟨bs, hb, hl⟩ := h.load k p hp
  exact ⟨bs, hb.fr F fun b c hc => h4 b c 5 hc, hl⟩
theorem ranges_fr {H : Type} {P : Program} {K : TypeId} {R : Value → Option (DataW H × List MemPlace)} {S : Nat → Prop} {w w' : World} {b r n : Nat} {D : DataW H} {left : Lit → Bool} {cnt : Nat} (h : w.ranges P K R b r n D left cnt) (F : Fr S w w') (h1 : ¬ S b) (h2 : ¬ S r) : w'.ranges P K R b r n D left cnt := by
  obtain ⟨es, clock, since, seen, c0, hb, Ft, hs, hD, hr, rest⟩ := h
  exact ⟨es, clock, since, seen, c0, F.heap hb h1, Ft, hs, hD, F.heap hr h2, rest⟩
theorem plainElem_bool_inv {H : Type} {P : Program} {e : TypeId} (h4 : P.underlying e = some .bool) {v : Value} {y : DataW H × List MemPlace} (h : plainElem (H := H) P e v = some y) : ∃ c, v = .bool c ∧ y.1 = .lit (.bool c) := by
  unfold plainElem at h
  rw [h4] at h
  cases v with
  | bool c =>
    simp only [Option.some.injEq] at h
    exact ⟨c, rfl, by rw [← h]⟩
  | _ => simp at h
theorem setD_at {H : Type} (l : List Ent) (k : Lit) (z : DataW H) : (setD l).atKey k z = z ∨ (setD l).atKey k z = boolD := by
  rw [setD, DataW.atKey]
  split
  · rename_i p hp
    right
    have := List.mem_of_find?_eq_some hp
    obtain ⟨e, _, rfl⟩ := List.mem_map.1 ((foldr_perm _).mem_iff.1 this)
    rfl
  · exact .inl rfl
/-- The step of a range over a set of numbers. -/
theorem wpList_next_set {w : World} {ops : Array Oper} {rest : List Oper} {o : Oper} {a : Act} {Q : Exit → Act → World → Prop} (hg : o.guard = none) (it : Operand) (hop : o.op = Op.next it false) (b r n : Nat) (l : List Ent) (left : Lit → Bool) (cnt : Nat)
    (hit : a.eval it = .pointer (some ⟨r, 0, none⟩)) (h : w.ranges Tryz.prog 3 (plainElem (H := Unit) Tryz.prog 4) b r n (setD l) left cnt)
    (hDone : cnt = 0 → (∀ kl, left kl = false) → wpList Tryz.prog ops Q rest (a.put o.dst (.tuple #[.bool false])) w)
    (hMore : ∀ (x : Int) (w' : World) (cnt' : Nat), left (.int .i64 x) = true → w'.ranges Tryz.prog 3 (plainElem (H := Unit) Tryz.prog 4) b r n (setD l) (fun z => left z && !z.sameKey (.int .i64 x)) cnt' → cnt' < cnt →
      w.grownBy w' (some r) → w'.heap.size = w.heap.size → (Instr.entry (.pointer (some ⟨r, 0, none⟩))).run Tryz.prog w' = .ok (.tuple #[.int .i64 x, .bool true]) w' → wpList Tryz.prog ops Q rest (a.put o.dst (.tuple #[.bool true, .int .i64 x, .bool true])) w') :
    wpList Tryz.prog ops Q (o :: rest) a w := by
  refine wpList_next_ranges w hg it hop 3 (Maps.int_keyed Tryz.underlying3) (plainElem (H := Unit) Tryz.prog 4) (Value.int .i64) Value.bool (fun key kl hkey => by obtain ⟨z, rfl, _⟩ := Maps.keyOf_int_inv Tryz.underlying3 hkey; exact ⟨z, rfl⟩) (fun v y hv => by obtain ⟨c, rfl, _⟩ := plainElem_bool_inv Tryz.underlying4 hv; exact ⟨c, rfl⟩) b r n _ left cnt hit h hDone ?_
  intro x c kl y w' cnt' hkey hlk hv hat hrg hlt hgr hsz hen
  obtain ⟨x', ex, rfl, hwx⟩ := Maps.keyOf_int_inv Tryz.underlying3 hkey
  cases ex
  obtain ⟨c', ec, hy⟩ := plainElem_bool_inv Tryz.underlying4 hv
  cases ec
  have hc : c = true := by
    have h1 := hat .nil
    rw [hy] at h1
    rcases setD_at (H := Unit) l (.int .i64 x) .nil with h2 | h2
    · rw [h2] at h1; cases h1
    · rw [h2] at h1; simp [boolD] at h1; exact h1
  subst hc
  exact hMore x w' cnt' hlk hrg hlt hgr hsz hen
theorem ranges_iter {H : Type} {P : Program} {K : TypeId} {R : Value → Option (DataW H × List MemPlace)} {w : World} {b r n : Nat} {D : DataW H} {left : Lit → Bool} {cnt : Nat} (h : w.ranges P K R b r n D left cnt) (c : Array Value) (t : TypeId) : w.heap[r]? ≠ some (.cells c t) := by
  obtain ⟨es, clock, since, seen, c0, hb, Ft, hs, hD, hr, rest⟩ := h
  rw [hr]; simp
set_option maxHeartbeats 2000000 in
theorem commit_at {w : World} {B : Blk} {x : Sto} (h : StoreAt w B x) (hd : ∀ k, x.dead k = true → x.taken k.toNat = true) (hg : x.gen < 2199023255552) :
    Calls Tryz.prog 37 #[B.ptr] w fun e w' => ∃ n, e = .returned (.tuple #[]) ∧ StoreAt w' (Blk.next B n) (commitX x) ∧ FrB B w w' ∧ w.heap.size ≤ n := by
  have c16 := h.sc.c16
  have ls := h.sc.lt
  obtain ⟨ld, cd, hdm, hds⟩ := h.de.ex
  have hown := set_owns (H := Unit) (P := Tryz.prog) (K := 3) (E := 4) Tryz.underlying3 Tryz.underlying4 hdm hds (fun k hk => by
    have := h.inr.2.2 k hk
    have := h.bits.room
    exact WalkArith.wf_i64 (by omega)) (by
    have := hds.len h.inr.2.2
    have := h.bits.room
    simp [maxLen]; omega)
  have HS := hid hds
  have H := hid h
  have HO := hid hown
  have HM := hid hdm
  clear hds hown hdm h
  go_enter Tryz.func37, Tryz.ntmps37
  go_wp2_with (first | (at_range; refine wpList_range_own _ rfl _ 153 rfl 3 4 (Maps.int_keyed Tryz.underlying3) Tryz.underlying153 _ B.de ld.length (setD ld) rfl HO.out ?_; intro w0 hrg0 hg0 hs0))
  go_frame
  have hlt : ∀ r, B.at_ r < w.heap.size := fun r => (H.out.heaps r).2.2.1
  have HLT := hid hlt
  have HD := hid hd
  have F00 : Fr (fun _ => False) w w0 := ⟨hg0.os, hg0.tape, hg0.output, hg0.size, fun b hb _ => hg0.block b hb (by simp)⟩
  have hS0 : StoreAt w0 B (midX x (fun k => x.dead k && !(Maps.has (setD (H := Unit) ld) (.int .i64 k)))) := by
    have e : midX x (fun k => x.dead k && !(Maps.has (setD (H := Unit) ld) (.int .i64 k))) = x := by
      have e1 : ∀ k, (x.dead k && !(Maps.has (setD (H := Unit) ld) (.int .i64 k))) = false := fun k => by
        rw [setD_has]
        cases hk : x.dead k with
        | false => rfl
        | true =>
          have : k ∈ keys ld := by
            refine Classical.byContradiction fun hn => ?_
            have := (look_none ld k).2 hn
            rw [HS.out.at_, hk] at this
            simp at this
          simp [this]
      simp [midX, e1]
    rw [e]; exact H.out.fr0 F00
  have HF00 := hid F00
  have HS0 := hid hS0
  have HR0 := hid hrg0
  clear F00 hS0 hrg0 hg0 hlt hd c16
  go_loopw [2] (fun _ wr => ∃ (left : Lit → Bool) (cnt : Nat), wr.ranges Tryz.prog 3 (plainElem (H := Unit) Tryz.prog 4) B.de w.heap.size ld.length (setD ld) left cnt ∧ (∀ k, left (.int .i64 k) = true → x.dead k = true) ∧
    StoreAt wr B (midX x (fun k => x.dead k && !left (.int .i64 k))) ∧ FrR B [.bs, .bw, .bp, .bm] w wr) (fun _ wr => wr.rangeLeft B.de w.heap.size)
  case atStart =>
    refine ⟨_, _, HR0.out, fun k hk => ?_, HS0.out, HF00.out.mono (fun _ _ h => h.elim)⟩
    rw [setD_has] at hk
    have hk' : k ∈ keys ld := by simpa using hk
    have : Sg.look ld k ≠ none := fun e => (look_none ld k).1 e hk'
    rw [HS.out.at_] at this
    cases hx : x.dead k with
    | true => rfl
    | false => rw [hx] at this; simp at this
  case round =>
    obtain ⟨left, cnt, hrg, hlf, hS, hF⟩ := hrel
    have HRG := hid hrg
    have HLF := hid hlf
    have HSr := hid hS
    have HFr := hid hF
    clear hrg hlf hS hF
    go_wp2_with (at_next; refine wpList_next_set rfl _ rfl B.de w.heap.size ld.length ld left cnt rfl HRG.out ?_ ?_)
    · intro hc0 hl0
      have hSd : StoreAt wr B (midX x x.dead) := by
        have e : (fun k => x.dead k && !left (.int .i64 k)) = x.dead := by funext k; rw [hl0]; simp
        have := HSr.out
        rw [e] at this
        exact this
      have HSd := hid hSd
      have c15 := hSd.sc.c15
      have c12 : wr.cell? ⟨B.s, 12, none⟩ = some (.int .i64 x.gen) := hSd.sc.c12
      have c14 := hSd.sc.c14
      have c16 := hSd.sc.c16
      have cz := hSd.sc.z
      have lsr := hSd.sc.lt
      have hmm := fun (t : TypeId) (W : World) => run_makeMap (P := Tryz.prog) t W
      clear hc0 hl0 hSd
      go_wp2
      go_end0
      have HF := HFr.out
      have hs := HSd.out.s
      obtain ⟨W, hW⟩ : ∃ W, ((((wr.setCell ⟨B.s, 16, none⟩ (.map (some B.dy))).setCell ⟨B.s, 15, none⟩ (.map (some wr.heap.size))).setCell ⟨B.s, 14, none⟩ (.map (some (wr.heap.size + 1)))).setCell ⟨B.s, 12, none⟩ (.int .i64 (x.gen + 1))) = W := ⟨_, rfl⟩
      have hWs : W.heap.size = wr.heap.size := by rw [← hW]; simp
      have FW : FrR B [.s] wr W := by
        rw [← hW]
        exact ((((Fr.refl _ _).setCell (a := ⟨B.s, 16, none⟩) (fun _ => ⟨.s, by simp, rfl⟩) _).setCell (a := ⟨B.s, 15, none⟩) (fun _ => ⟨.s, by simp, rfl⟩) _).setCell (a := ⟨B.s, 14, none⟩) (fun _ => ⟨.s, by simp, rfl⟩) _).setCell (a := ⟨B.s, 12, none⟩) (fun _ => ⟨.s, by simp, rfl⟩) _
      have hsW := heap_setCell_cells _ B.s 12 (.int .i64 (x.gen + 1)) (heap_setCell_cells _ B.s 14 (.map (some (wr.heap.size + 1))) (heap_setCell_cells _ B.s 15 (.map (some wr.heap.size)) (heap_setCell_cells _ B.s 16 (.map (some B.dy)) hs)))
      rw [hW] at hsW
      simp only [hW]
      have F2 : Fr (fun _ => False) W ((W.alloc (.map #[] 0)).alloc (.map #[] 0)) := ((Fr.refl _ _).alloc _).alloc _
      have hm1 : ((W.alloc (.map #[] 0)).alloc (.map #[] 0)).heap[wr.heap.size]? = some (.map #[] 0) := by
        rw [heap_alloc_lt _ _ _ (by simp; omega), ← hWs]; exact heap_alloc_new _ _
      have hm2 : ((W.alloc (.map #[] 0)).alloc (.map #[] 0)).heap[wr.heap.size + 1]? = some (.map #[] 0) := by
        have := heap_alloc_new (W.alloc (.map #[] 0)) (.map #[] 0)
        rw [World.size_alloc, hWs] at this
        exact this
      have FA : FrR B [.s] wr ((W.alloc (.map #[] 0)).alloc (.map #[] 0)) := Fr.alloc (Fr.alloc FW _) _
      have S := HSd.out.stays FA
      have hlw := HFr.out.size
      have hn := H.out.ne
      have hlt : ∀ r, B.at_ r < wr.heap.size := fun r => Nat.lt_of_lt_of_le (HLT.out r) hlw
      refine ⟨wr.heap.size, trivial, ⟨?_, S.dev (by decide) (by decide) (by decide), S.bits (by decide) (by decide), SetAt.made hm2, SetAt.made hm1, S.dy (by decide), S.mem (by decide) (by decide) (by decide), S.load, ?_, ?_, ?_, ?_⟩, ?_, hlw⟩
      · have := F2.heap hsW (fun h => h)
        simpa [commitX, Blk.next, midX] using this
      · simp only [Blk.maps, List.nodup_cons, List.mem_cons, not_or, List.not_mem_nil, not_false_eq_true, List.nodup_nil, and_true] at hn ⊢
        have e1 := hlt .bf
        have e2 := hlt .bq
        have e3 := hlt .dy
        have e4 := hlt .bm
        simp only [Blk.at_] at e1 e2 e3 e4
        obtain ⟨⟨a1, a2, a3, a4, a5⟩, ⟨b1, b2, b3, b4⟩, ⟨c1, c2, c3⟩, ⟨d1, d2⟩, e1'⟩ := hn
        refine ⟨⟨a1, ?_, ?_, a3, a5⟩, ⟨?_, ?_, b2, b4⟩, ⟨?_, ?_, ?_⟩, ⟨?_, ?_⟩, d2⟩ <;> simp only [Blk.next] <;> omega
      · have := H.out.ge
        have := H.out.dev.ge
        have := hlt .d
        simp only [Blk.at_, Blk.next] at *
        omega
      · have := H.out.rg
        simp only [commitX] at *
        omega
      · exact ⟨(fun k hk => by cases hk), (fun k hk => by cases hk), H.out.inr.2.1⟩
      · exact ((H.out.frB HF).trans (HSd.out.frB FA))
    · intro x' w1 cnt1 hlk hrg1 hlt1 hg1 hs1 hen
      have hdx := HLF.out _ hlk
      obtain ⟨hx0, hx1⟩ := H.out.inr.2.2 _ hdx
      obtain ⟨n, rfl⟩ := Int.eq_ofNat_of_zero_le hx0
      have F1 : Fr (fun b => b = w.heap.size) wr w1 := ⟨hg1.os, hg1.tape, hg1.output, hg1.size, fun b hb hn => hg1.block b hb (fun e => hn (by cases e; rfl))⟩
      have hS1 := HSr.out.frK F1 (fun r => Nat.ne_of_lt (HLT.out r)) (ranges_iter HRG.out)
      have g13 := hS1.sc.c13
      have ht : (midX x (fun k => x.dead k && !left (.int .i64 k))).taken n = true := by
        have := HD.out _ hdx
        simp [midX, hlk] at this ⊢
        exact this
      have HC := hid (clear_there hS1.bits n (by simpa [midX] using hx1) ht)
      have HS1 := hid hS1
      have HF1 := hid F1
      have HRG1 := hid hrg1
      have HLK := hid hlk
      have HDX := hid hdx
      clear hS1 F1 hrg1 hg1 hs1 hlk ht hdx
      go_wp2_with fail
      refine HC.out.mono ?_
      rintro e w2 ⟨rfl, hB2, F2⟩
      have FB2 : FrR B [.bw] w1 w2 := F2.mono (fun b _ h => ⟨.bw, by simp, h⟩)
      have S2 := HS1.out.stays FB2
      have s2 := S2.s (by decide)
      have g17 : w2.cell? ⟨B.s, 17, none⟩ = some (.pointer (some ⟨B.bc, 0, none⟩)) := by simpa using cell_of_heap s2 17
      have HDr := hid (dropmem_at (S2.mem (by decide) (by decide) (by decide)) n)
      have HB2 := hid hB2
      have HF2 := hid F2
      have HFB2 := hid FB2
      clear hB2 F2 FB2 S2 s2
      go_wp2_with fail
      refine HDr.out.mono ?_
      rintro e w3 ⟨rfl, hM3, F3⟩
      have HM3 := hid hM3
      have HF3 := hid F3
      clear hM3 F3
      go_wp2
      go_roundw
      case rel =>
        have nbw : ∀ r, B.at_ r ≠ w.heap.size := fun r => Nat.ne_of_lt (HLT.out r)
        have R2 := ranges_fr HRG1.out HF2.out (fun e => H.out.ner (r := .de) (r' := .bw) (by decide) e) (fun e => nbw .bw e.symm)
        have R3 := ranges_fr R2 HF3.out (fun e => by
          rcases e with e | e
          · exact H.out.ner (r := .de) (r' := .bp) (by decide) e
          · exact H.out.ner (r := .de) (r' := .bm) (by decide) e) (fun e => by
          rcases e with e | e
          · exact nbw .bp e.symm
          · exact nbw .bm e.symm)
        have F13 : FrR B [.bs, .bw, .bp, .bm] w1 w3 := (HFB2.out.mono (fun b _ ⟨r, hr, e⟩ => ⟨r, by simp at hr ⊢; simp [hr], e⟩)).trans HF3.out (fun b _ h => by
          rcases h with h | h
          · exact ⟨.bp, by simp, h⟩
          · exact ⟨.bm, by simp, h⟩)
        refine ⟨_, _, R3, fun k hk => HLF.out k (by simp at hk; exact hk.1), ?_, ?_⟩
        · have S3 := HS1.out.stays F13
          have eb : BitsAt w3 B.bs B.bw x.pages x.hand (upd (midX x (fun k => x.dead k && !left (.int .i64 k))).taken n false) := HB2.out.fr HF3.out (fun h => by
            rcases h with h | h
            · exact H.out.ner (r := .bs) (r' := .bp) (by decide) h
            · exact H.out.ner (r := .bs) (r' := .bm) (by decide) h) (fun h => by
            rcases h with h | h
            · exact H.out.ner (r := .bw) (r' := .bp) (by decide) h
            · exact H.out.ner (r := .bw) (r' := .bm) (by decide) h)
          have ef : ∀ k : Int, (x.dead k && !(left (.int .i64 k) && !(Lit.int .i64 k).sameKey (.int .i64 n))) = if k = n then true else (x.dead k && !left (.int .i64 k)) := fun k => by
            by_cases hk : k = n
            · subst hk; simp [Lit.sameKey, HDX.out]
            · simp [Lit.sameKey, hk]
          have e1 : upd (midX x (fun k => x.dead k && !left (.int .i64 k))).taken n false = (midX x (fun k => x.dead k && !(left (.int .i64 k) && !(Lit.int .i64 k).sameKey (.int .i64 n)))).taken := by
            funext i
            simp only [upd, midX, ef]
            by_cases hi : i = n
            · subst hi; simp
            · have : ¬ (i : Int) = n := by omega
              simp [hi, this]
          have e2 : updM (midX x (fun k => x.dead k && !left (.int .i64 k))).mem n none = (midX x (fun k => x.dead k && !(left (.int .i64 k) && !(Lit.int .i64 k).sameKey (.int .i64 n)))).mem := by
            funext k
            simp only [updM, midX, ef]
            by_cases hk : k = n
            · subst hk; simp
            · simp [hk]
          refine ⟨S3.s (by decide), S3.dev (by decide) (by decide) (by decide), by rw [← e1]; exact eb, S3.fr (by decide), S3.dy (by decide), S3.de (by decide), by rw [← e2]; exact HM3.out, fun k p hp => ?_, H.out.ne, H.out.ge, H.out.rg, H.out.inr⟩
          rw [← e2] at hp
          simp only [updM] at hp
          split at hp
          · cases hp
          · exact S3.load k p hp
        · exact (HFr.out.trans HF1.out (fun b hb h => by omega)).trans F13 (fun b _ h => h)
      case measure =>
        have nbw : ∀ r, B.at_ r ≠ w.heap.size := fun r => Nat.ne_of_lt (HLT.out r)
        have R2 := ranges_fr HRG1.out HF2.out (fun e => H.out.ner (r := .de) (r' := .bw) (by decide) e) (fun e => nbw .bw e.symm)
        have R3 := ranges_fr R2 HF3.out (fun e => by
          rcases e with e | e
          · exact H.out.ner (r := .de) (r' := .bp) (by decide) e
          · exact H.out.ner (r := .de) (r' := .bm) (by decide) e) (fun e => by
          rcases e with e | e
          · exact nbw .bp e.symm
          · exact nbw .bm e.symm)
        rw [R3.left_eq, HRG.out.left_eq]; omega
end SF
end Go.Proofs.YtgdhaaokolfdoaaGreatDoor
