/- wire: the reader. Conditions: the reader lies in the world as RdAt says, its bytes are bytes. -/
import Derived.Test.YtgdhaaokolfdoaaGreatDoorMd
import Derived.Laws.BitsAllLaws
namespace Go.Sg
open Go.RowKit
/-- A reader lies at r with these bytes left. -/
structure RdAt (w : World) (r : Nat) (bs : List Int) (bad : Bool) : Prop where
  ex : ∃ a c, w.heap[r]? = some (.cells #[.slice a bs.length c, .bool bad] 377) ∧ ByV w a bs.length c bs ∧ bs.length ≤ c
  small : bs.length ≤ 65536
theorem addr_add (b off j : Nat) : (⟨b, off, none⟩ : Addr).add j = ⟨b, off + j, none⟩ := by unfold Addr.add; split <;> simp_all
theorem ByV.take {w : World} {a : Option Addr} {n c : Nat} {bs : List Int} (h : ByV w a n c bs) {m : Nat} (hm : m ≤ n) : ByV w a m c (bs.take m) := by
  refine ⟨⟨by rw [List.length_take, h.by_.len]; omega, fun i x hx => ?_⟩, ?_⟩
  · rw [List.getElem?_take] at hx
    split at hx
    · exact h.by_.at_ i x hx
    · cases hx
  · rcases h.at_ with ⟨h0, h1, h2⟩ | h0
    · exact .inl ⟨h0, by omega, h2⟩
    · exact .inr h0
theorem ByV.drop {w : World} {a : Option Addr} {n c : Nat} {bs : List Int} (h : ByV w a n c bs) {m : Nat} (hm : m ≤ n) (hc : n ≤ c) : ByV w (if c = m then a else a.map (·.add m)) (n - m) (c - m) (bs.drop m) := by
  rcases h.at_ with ⟨rfl, h1, h2⟩ | ⟨b, off, cs, rfl, h2⟩
  · have h3 : m = 0 := by omega
    subst h3
    subst h1 h2
    have : bs = [] := List.eq_nil_of_length_eq_zero h.by_.len
    subst this
    exact ByV.nil w
  · by_cases he : c = m
    · rw [if_pos he]
      have hn : n - m = 0 := by omega
      have hd : bs.drop m = [] := List.drop_eq_nil_of_le (by rw [h.by_.len]; omega)
      rw [hn, hd]
      exact ⟨⟨rfl, fun i x hx => by simp at hx⟩, .inr ⟨b, off, cs, rfl, h2⟩⟩
    · rw [if_neg he]
      refine ⟨⟨by rw [List.length_drop, h.by_.len], fun i x hx => ?_⟩, .inr ⟨b, off + m, cs, by simp [addr_add], h2⟩⟩
      rw [List.getElem?_drop] at hx
      obtain ⟨b', off', e, hb, hcell⟩ := h.by_.at_ _ x hx
      cases e
      exact ⟨b, off + m, by simp [addr_add], hb, by rw [Nat.add_assoc]; exact hcell⟩
theorem leV_take_lt {bs : List Int} (hb : ∀ x ∈ bs, 0 ≤ x ∧ x < 256) : ∀ k, leV (bs.take k) < 256 ^ k := by
  intro k
  induction bs generalizing k with
  | nil => simp [leV]; exact Nat.pow_pos (by decide)
  | cons x l ih =>
    cases k with
    | zero => simp [leV]
    | succ k =>
      have h1 := ih (fun y hy => hb y (by simp [hy])) k
      have h2 := hb x (by simp)
      simp only [List.take_succ_cons, leV]
      rw [Nat.pow_succ]
      omega
theorem leV_snoc (l : List Int) (x : Int) : leV (l ++ [x]) = leV l + x.toNat * 256 ^ l.length := by
  induction l with
  | nil => simp [leV]
  | cons y l ih =>
    simp only [List.cons_append, leV, ih, List.length_cons, Nat.pow_succ]
    rw [Nat.mul_add, Nat.add_assoc, Nat.mul_comm 256 (x.toNat * _), Nat.mul_assoc]
theorem leV_next {bs : List Int} (hb : ∀ x ∈ bs, 0 ≤ x ∧ x < 256) {k : Nat} {x : Int} (hx : bs[k]? = some x) : leV (bs.take (k + 1)) = leV (bs.take k) ||| x.toNat * 2 ^ (8 * k) := by
  have hk := (List.getElem?_eq_some_iff.1 hx).1
  have e : bs.take (k + 1) = bs.take k ++ [x] := by rw [List.take_add_one, hx]; rfl
  have hl := leV_take_lt hb k
  have e2 : (256 : Nat) ^ k = 2 ^ (8 * k) := by rw [Nat.pow_mul]
  rw [e, leV_snoc, List.length_take, Nat.min_eq_left (Nat.le_of_lt hk), e2]
  rw [e2] at hl
  rw [Nat.add_comm, Nat.or_comm, ← Nat.shiftLeft_eq, Nat.shiftLeft_add_eq_or_of_lt hl]
theorem byts_of_own' {w : World} {base e n : Nat} {v : Value} {bs : List Int} (h : w.ownsRow base e 1 v n (bs.map (Value.int .u8))) (hne : v ≠ .slice none 0 0) :
    ∃ g cap c, v = .slice (some ⟨g, 0, none⟩) n cap ∧ w.heap[g]? = some (.cells c e) ∧ Byts w (some ⟨g, 0, none⟩) n bs ∧ n ≤ cap := by
  obtain ⟨g, cap, c, rfl, hg, hB⟩ := byts_of_own h hne
  refine ⟨g, cap, c, rfl, hg, hB, ?_⟩
  obtain ⟨_, ⟨h1, _⟩ | ⟨g', cap', cur, h1, _, _, h2, _⟩⟩ := h
  · cases h1
  · cases h1; exact h2
end Go.Sg
namespace Go.Proofs.YtgdhaaokolfdoaaGreatDoor
open Go.RowKit Go.Sg
theorem slice_to (a : Option Addr) (n c m : Nat) (h : m ≤ c) (W : World) : (Instr.slice 22 (.slice a n c) none (some (.int .i64 m)) none).run Tryz.prog W = .ok (.slice a m c) W := by
  rw [run_slice_h W 22 a n c (by kernel_rfl) .i64 m (by omega) (by omega)]
  have hs : (sizeOf (Tryz.prog.elem 22)).run Tryz.prog W = .ok 1 W := by kernel_rfl
  rw [hs]
  simp only [Result.andThen_ok, sliced, Int.toNat_natCast, Nat.zero_mul, Nat.sub_zero]
  cases a with
  | none => simp
  | some a => simp [Addr.add]
theorem slice_from (a : Option Addr) (n c m : Nat) (h : m ≤ n) (W : World) : (Instr.slice 22 (.slice a n c) (some (.int .i64 m)) none none).run Tryz.prog W = .ok (.slice (if c = m then a else a.map (·.add m)) (n - m) (c - m)) W := by
  rw [run_slice_l W 22 a n c (by kernel_rfl) .i64 m (by omega) (by omega)]
  have hs : (sizeOf (Tryz.prog.elem 22)).run Tryz.prog W = .ok 1 W := by kernel_rfl
  rw [hs]
  simp only [Result.andThen_ok, sliced, Int.toNat_natCast, Nat.mul_one]
set_option maxHeartbeats 1000000 in
set_option maxRecDepth 100000 in
theorem clone_c {w : World} {b off n cap : Nat} {bs : List Int} (h : Byts w (some ⟨b, off, none⟩) n bs) (hn : n ≤ 65536) :
    Calls Tryz.prog 83 #[.slice (some ⟨b, off, none⟩) n cap] w fun e w' => ∃ g cap' c, e = .returned (.slice (some ⟨g, 0, none⟩) n cap') ∧ w'.heap[g]? = some (.cells c 5) ∧ (Byts w' (some ⟨g, 0, none⟩) n bs ∧ n ≤ cap') ∧ w.heap.size ≤ g ∧ Fr (fun _ => False) w w' := by
  obtain ⟨i0, hi0, hz0, hz1, hz2⟩ := info_parts Tryz.info5
  have H := hid h
  have hlen := h.len
  have hcell : ∀ (o : Obj) (j : Nat) (u : Value), (bs.map (Value.int .u8))[j]? = some u → (w.alloc o).cell? ((⟨b, off, none⟩ : Addr).add j) = some u := fun o j u hu => by
    rw [List.getElem?_map] at hu
    cases hx : bs[j]? with
    | none => rw [hx] at hu; cases hu
    | some x =>
      rw [hx] at hu
      cases hu
      obtain ⟨b', off', e, hb, hc⟩ := h.at_ j x hx
      cases e
      rw [addr_add]
      exact (((Fr.refl (fun _ => False) w).alloc o).cell (p := ⟨b, off + j, none⟩) hb (fun h => h)).trans hc
  have HC := hid hcell
  clear h hcell
  have q22 : ∀ (w : World) (a : Option Addr) (n c n' c' : Nat), (binOp .eql 22 (.slice a n c) (.slice none n' c')).run Tryz.prog w = .ok (.bool a.isNone) w := fun w a n c n' c' => Lib.run_eql_slice_nil w _ _ a n c n' c' Tryz.underlying22
  go_enter Tryz.func83, Tryz.ntmps83
  go_wp2_with (at_builtin; refine wpList_append_own_at _ rfl (.tmp 5) (.tmp 6) 22 rfl 0 5 i0 _ 1 1 Tryz.underlying22 hi0 hz0 hz1 hz2 rfl (by decide) _ _ _ rfl (own_lit0 _ _ _ _ (by simp [go_sem])) ⟨b, off, none⟩ n cap (bs.map (Value.int .u8)) rfl (by simpa using hlen) ?c1 ?c2 ?c3 ?c4 (Nat.zero_le _) ?_)
  case c1 => exact HC.out _
  case c2 => intro u hu; obtain ⟨x, _, rfl⟩ := List.mem_map.1 hu; rfl
  case c3 => simp [maxLen]; omega
  case c4 => omega
  intro v1 w1 hown hgrow hnil hat
  try simp only [List.nil_append, Nat.zero_add] at hown
  have F1 : Fr (fun _ => False) w w1 := ((Fr.refl (fun _ => False) w).alloc _).trans (S' := fun b => b = w.heap.size) (Fr.of_grownBy hgrow) (fun b hb h => by omega)
  obtain ⟨g, cap', c, rfl, hg, hB, hcp⟩ := byts_of_own' hown hnil
  have hgl : w.heap.size ≤ g := by
    rcases hat with h | h <;> simp [Value.ownBlock] at h <;> omega
  have HG := hid (And.intro hg (And.intro (And.intro hB hcp) (And.intro hgl F1)))
  clear hown hgrow hat hg hB F1 hgl hcp
  go_wp2
  go_ret
  exact ⟨g, cap', c, rfl, HG.out.1, HG.out.2.1, HG.out.2.2.1, HG.out.2.2.2⟩
/-- bytes.Clone, with the capacity told. -/
theorem clone_vc {w : World} {a : Option Addr} {n c : Nat} {bs : List Int} (h : SlB w a n c bs) (hn : n ≤ 65536) :
    Calls Tryz.prog 83 #[.slice a n c] w fun e w' => ∃ a' c', e = .returned (.slice a' n c') ∧ (ByV w' a' n c' bs ∧ n ≤ c') ∧ Fr (fun _ => False) w w' := by
  rcases h.at_ with ⟨rfl, rfl, rfl⟩ | ⟨b, off, rfl⟩
  · refine (clone_nil w).mono fun e w' ⟨he, hw⟩ => ⟨none, 0, he, ⟨?_, Nat.le_refl _⟩, by rw [hw]; exact Fr.refl _ _⟩
    have : bs = [] := List.eq_nil_of_length_eq_zero h.by_.len
    rw [this]; exact ByV.nil w'
  · exact (clone_c h.by_ hn).mono fun e w' ⟨g, c', cs, he, hg, hB, _, hF⟩ => ⟨_, _, he, ⟨⟨hB.1, .inr ⟨g, 0, cs, rfl, hg⟩⟩, hB.2⟩, hF⟩
set_option maxRecDepth 100000 in
theorem newreader_ok {w : World} {a : Option Addr} {n c : Nat} {bs : List Int} (h : SlB w a n c bs) (hn : n ≤ 65536) :
    Calls Tryz.prog 215 #[.slice a n c] w fun e w' => ∃ r, e = .returned (.pointer (some ⟨r, 0, none⟩)) ∧ RdAt w' r bs false ∧ w.heap.size ≤ r ∧ Fr (fun _ => False) w w' := by
  have HC := hid (clone_vc h hn)
  have hl := h.by_.len
  have HL := hid hl
  clear h hl
  go_enter Tryz.func215, Tryz.ntmps215
  go_wp2_with fail
  refine HC.out.mono ?_
  rintro e w1 ⟨a', c', rfl, hb, F1⟩
  have HB := hid (And.intro hb F1)
  clear hb F1
  go_wp2
  go_ret
  have FN : Fr (fun _ => False) w1 (w1.alloc (.cells #[.slice a' n c', .bool false] 377)) := (Fr.refl _ _).alloc _
  refine ⟨w1.heap.size, rfl, ⟨⟨a', c', by rw [HL.out]; exact heap_alloc_new _ _, ?_, by rw [HL.out]; exact HB.out.1.2⟩, by rw [HL.out]; exact hn⟩, HB.out.2.size, HB.out.2.trans FN (fun _ _ h => h)⟩
  rw [HL.out]
  exact HB.out.1.1.fr FN (fun _ _ _ h => h)
set_option maxHeartbeats 1000000 in
set_option maxRecDepth 100000 in
theorem raw_ok {w : World} {r : Nat} {bs : List Int} {bad : Bool} (h : RdAt w r bs bad) (m : Nat) (hm : m ≤ bs.length) :
    Calls Tryz.prog 217 #[.pointer (some ⟨r, 0, none⟩), .int .i64 m] w fun e w' => ∃ a' c', e = .returned (.slice a' m c') ∧ ByV w' a' m c' (bs.take m) ∧ RdAt w' r (bs.drop m) bad ∧ Fr (fun b => b = r) w w' := by
  obtain ⟨⟨a, c, hr, hb, hcap⟩, hsm⟩ := h
  obtain ⟨c0, c1, hz, hl⟩ := cells2 hr
  have st := slice_to a bs.length c m (by omega)
  have sf := slice_from a bs.length c m hm
  have hdr := hb.drop hm hcap
  generalize ha2 : (if c = m then a else a.map (·.add m)) = a2 at sf hdr
  have HD := hid hdr
  have HB := hid hb
  have HR := hid hr
  have HC := hid (clone_v (w := w) (hb.take hm).slb (by omega))
  clear ha2 hdr hb hr
  go_enter Tryz.func217, Tryz.ntmps217
  go_wp2_with fail
  refine HC.out.mono ?_
  rintro e w1 ⟨a', c', rfl, hb1, F1⟩
  have hr1 := F1.heap HR.out (fun h => h)
  obtain ⟨d0, d1, dz, dl⟩ := cells2 hr1
  have H1 := hid (And.intro hb1 (And.intro F1 hr1))
  clear hb1 F1 hr1 c0 c1 hz hl
  go_wp2
  go_ret
  obtain ⟨hb1, F1, hr1⟩ := H1.out
  have FS : Fr (fun b => b = r) w1 (w1.setCell ⟨r, 0, none⟩ (.slice a2 (bs.length - m) (c - m))) := (Fr.refl (fun b => b = r) _).setCell (a := ⟨r, 0, none⟩) (fun _ => rfl) _
  have ne : ∀ b cs, w1.heap[b]? = some (.cells cs 5) → ¬ b = r := fun b cs h e => by rw [e, hr1] at h; cases h
  refine ⟨a', c', rfl, hb1.fr FS ne, ⟨⟨a2, c - m, ?_, ?_, ?_⟩, ?_⟩, (F1.mono (fun _ _ h => h.elim)).trans FS (fun _ _ h => h)⟩
  · rw [heap_setCell_cells _ _ _ _ hr1, List.length_drop]; rfl
  · rw [List.length_drop]; exact (HD.out.fr F1 (fun _ _ _ h => h)).fr FS ne
  · rw [List.length_drop]; omega
  · rw [List.length_drop]; omega
theorem maynum (k : Nat) (hk : k = 1 ∨ k = 2 ∨ k = 4 ∨ k = 8) (w : World) : Calls Tryz.prog 236 #[.int .i64 k] w fun e w' => e = .returned (.bool true) ∧ w = w' := by
  rcases hk with rfl | rfl | rfl | rfl
  all_goals
    go_enter Tryz.func236, Tryz.ntmps236
    go_wp2
    go_ret
    exact ⟨rfl, rfl⟩
set_option maxHeartbeats 1000000 in
set_option maxRecDepth 100000 in
theorem num_ok {w : World} {r : Nat} {bs : List Int} {bad : Bool} (h : RdAt w r bs bad) (hby : ∀ x ∈ bs, 0 ≤ x ∧ x < 256) (k : Nat) (hk : k = 1 ∨ k = 2 ∨ k = 4 ∨ k = 8) (hm : k ≤ bs.length) :
    Calls Tryz.prog 216 #[.pointer (some ⟨r, 0, none⟩), .int .i64 k] w fun e w' => e = .returned (.int .u64 (leV (bs.take k))) ∧ RdAt w' r (bs.drop k) bad ∧ Fr (fun b => b = r) w w' := by
  have HM := hid (fun W => maynum k hk W)
  have HRw := hid (raw_ok h k hm)
  have HBY := hid (fun x (hx : x ∈ bs.take k) => hby x (List.mem_of_mem_take hx))
  have hk8 : k ≤ 8 := by omega
  have hlen : (bs.take k).length = k := by rw [List.length_take]; omega
  generalize bs.take k = l at *
  clear h hby hk
  go_enter Tryz.func216, Tryz.ntmps216
  go_wp2_with (go_at_call 236; refine (HM.out _).mono ?_; rintro e w' ⟨rfl, rfl⟩)
  refine HRw.out.mono ?_
  rintro e w1 ⟨a', c', rfl, hb1, hR, F1⟩
  have HLEN := hid hlen
  have HB1 := hid hb1
  have HR1 := hid (And.intro hR F1)
  clear hlen hb1 hR F1
  go_wp2
  go_loop [5, 15] (fun n i => ∃ j : Nat, j ≤ k ∧ i = .int .i64 j ∧ n = .int .u64 (leV (l.take j))) (fun _ i => k - (intOf i).toNat)
  case atStart => exact ⟨0, Nat.zero_le _, rfl, by simp [leV]⟩
  case round =>
    obtain ⟨j, hj, rfl, rfl⟩ := hrel
    by_cases hlt : j < k
    · obtain ⟨x, hx⟩ : ∃ x, l[j]? = some x := ⟨l[j]'(by rw [HLEN.out]; exact hlt), List.getElem?_eq_getElem _⟩
      obtain ⟨b, off, rfl, hbl, hcell⟩ := HB1.out.by_.at_ j x hx
      have hx0 := HBY.out x (List.mem_of_getElem? hx)
      have hn := leV_next HBY.out hx
      have hlt2 := leV_take_lt HBY.out j
      have HX := hid (And.intro hx hn)
      have HN := hid hlt2
      clear hx hn hlt2
      have hjd : decide (j < k) = true := by simpa using hlt
      go_wp2
      go_round
      case rel =>
        refine ⟨j + 1, by omega, by go_num, ?_⟩
        obtain ⟨y, rfl⟩ := Int.eq_ofNat_of_zero_le hx0.1
        have hp : (2 : Nat) ^ (8 * j) ≤ 2 ^ 56 := Nat.pow_le_pow_right (by decide) (by omega)
        have h256 : (256 : Nat) ^ j = 2 ^ (8 * j) := by rw [Nat.pow_mul]
        have hl1 : leV (l.take j) < 18446744073709551616 := by
          have := HN.out
          rw [h256] at this
          omega
        have hy : y ≤ 255 := by omega
        have hl2 : y * 2 ^ (8 * j) < 18446744073709551616 := by
          have := Nat.mul_le_mul hy hp
          omega
        have hw : IntKind.u64.wrap ((y : Int) * 2 ^ (8 * j)) = ((y * 2 ^ (8 * j) : Nat) : Int) := by
          rw [IntKind.wrap_u64, show (y : Int) * 2 ^ (8 * j) = ((y * 2 ^ (8 * j) : Nat) : Int) by simp]
          omega
        rw [hw, u64_or_nat _ _ hl1 hl2]
        have := HX.out.2
        simp only [Int.ofNat_eq_natCast, Int.toNat_natCast] at this
        rw [this]
      case measure => simp [intOf]; omega
    · obtain rfl : j = k := by omega
      go_wp2
      go_ret
      have e : l.take j = l := List.take_of_length_le (by rw [HLEN.out]; exact Nat.le_refl _)
      rw [e]
      exact ⟨rfl, HR1.out⟩
end Go.Proofs.YtgdhaaokolfdoaaGreatDoor
