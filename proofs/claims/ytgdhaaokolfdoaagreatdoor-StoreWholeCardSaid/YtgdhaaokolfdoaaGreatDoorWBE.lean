/- A pack of texts: HD, LV, GA, GB, GC, DM. Conditions: those that each text names. -/
import Derived.Test.YtgdhaaokolfdoaaGreatDoorWBD
import Derived.Test.YtgdhaaokolfdoaaGreatDoorWAS
import Derived.Test.YtgdhaaokolfdoaaGreatDoorWAR
import Derived.Test.YtgdhaaokolfdoaaGreatDoorWAW
import Derived.Test.YtgdhaaokolfdoaaGreatDoorWAQ
import Derived.Test.YtgdhaaokolfdoaaGreatDoorWAD
set_option linter.unusedVariables false
set_option linter.unusedSimpArgs false
set_option linter.unnecessarySimpa false
/- The document's check and bytes (chapters 1, 3): they end. Conditions: the bytes lie in the world. -/
namespace Go.Proofs.YtgdhaaokolfdoaaGreatDoor
open Go.RowKit Go.Sg Go.Sg.Bits Go.Sg.Clk CP SF
def R64 (z : Int) : Prop := -9223372036854775808 ≤ z ∧ z < 9223372036854775808
theorem wrap64_rng (z : Int) : R64 (wrap64 z) := by unfold R64; simp only [wrap64]; omega
def AnyI (w : World) (e : Ending) (w' : World) : Prop := ∃ z : Int, e = .returned (.int .i64 z) ∧ R64 z ∧ w = w'
theorem tdiv2 (a : Int) : (a.tdiv 2).toNat = a.toNat / 2 := by
  rcases Int.lt_or_le a 0 with h | h
  · have h1 : a.tdiv 2 = -((-a).tdiv 2) := by rw [Int.neg_tdiv]; simp
    have h2 : 0 ≤ (-a).tdiv 2 := Int.tdiv_nonneg (by omega) (by decide)
    omega
  · rw [Int.tdiv_eq_ediv_of_nonneg h]; omega
theorem half_wrap {a : Int} (h : R64 a) : (wrap64 (a.tdiv 2)).toNat = a.toNat / 2 := by
  have e : wrap64 (a.tdiv 2) = a.tdiv 2 := by
    have h1 := tdiv2 a
    unfold R64 at h
    have h2 : -9223372036854775808 ≤ a.tdiv 2 ∧ a.tdiv 2 < 9223372036854775808 := by
      rcases Int.lt_or_le a 0 with h0 | h0
      · have e1 : a.tdiv 2 = -((-a).tdiv 2) := by rw [Int.neg_tdiv]; simp
        have e2 : (-a).tdiv 2 = (-a) / 2 := Int.tdiv_eq_ediv_of_nonneg (by omega)
        omega
      · rw [Int.tdiv_eq_ediv_of_nonneg h0]; omega
    simp only [wrap64]; omega
  rw [e, tdiv2]
set_option maxHeartbeats 2000000 in
theorem apart_any (a b : Int) (ha : R64 a) (hb : R64 b) (w : World) : Calls Tryz.prog 270 #[.int .i64 a, .int .i64 b] w (AnyI w) := by
  go_enter Tryz.func270, Tryz.ntmps270
  go_wp2_with fail
  go_loopw [0, 1, 5, 6] (fun va vb vo vt wr => ∃ a b o t : Int, va = .int .i64 a ∧ vb = .int .i64 b ∧ vo = .int .i64 o ∧ vt = .int .i64 t ∧ (R64 a ∧ R64 b ∧ R64 o) ∧ wr = w) (fun va vb _ _ _ => (intOf va).toNat + (intOf vb).toNat)
  case atStart => exact ⟨a, b, 0, 1, rfl, rfl, rfl, rfl, ⟨ha, hb, by unfold R64; omega⟩, rfl⟩
  case round =>
    obtain ⟨a, b, o, t, rfl, rfl, rfl, rfl, hr, rfl⟩ := hrel
    have HR := hid hr
    by_cases h0 : 0 < a ∨ 0 < b
    · have hm : (wrap64 (a.tdiv 2)).toNat + (wrap64 (b.tdiv 2)).toNat < a.toNat + b.toNat := by rw [half_wrap hr.1, half_wrap hr.2.1]; omega
      clear hr
      by_cases ha : 0 < a
      · have hd : decide ((0 : Int) < a) = true := decide_eq_true ha
        have HM := hid hm
        clear hm h0 ha
        go_wp2_with fail
        all_goals go_roundw
        all_goals first
          | exact ⟨_, _, _, _, rfl, rfl, rfl, rfl, ⟨wrap64_rng _, wrap64_rng _, by first | exact wrap64_rng _ | exact HR.out.2.2⟩, trivial⟩
          | (simp only [intOf]; exact HM.out)
      · have hd : decide ((0 : Int) < a) = false := decide_eq_false ha
        have hb : 0 < b := by omega
        have hd2 : decide ((0 : Int) < b) = true := decide_eq_true hb
        have HM := hid hm
        clear hm h0 ha hb
        go_wp2_with fail
        all_goals go_roundw
        all_goals first
          | exact ⟨_, _, _, _, rfl, rfl, rfl, rfl, ⟨wrap64_rng _, wrap64_rng _, by first | exact wrap64_rng _ | exact HR.out.2.2⟩, trivial⟩
          | (simp only [intOf]; exact HM.out)
    · have hd : decide ((0 : Int) < a) = false := decide_eq_false (by omega)
      have hd2 : decide ((0 : Int) < b) = false := decide_eq_false (by omega)
      clear hr
      go_wp2_with fail
      go_ret
      exact ⟨_, rfl, HR.out.2.2, rfl⟩
set_option maxHeartbeats 2000000 in
theorem place_any (a : Int) (ha : R64 a) (w : World) : Calls Tryz.prog 269 #[.int .i64 a] w (AnyI w) := by
  go_enter Tryz.func269, Tryz.ntmps269
  go_wp2_with fail
  go_loopw [0, 3] (fun va i wr => ∃ (a : Int) (k : Nat), k ≤ 8 ∧ va = .int .i64 a ∧ R64 a ∧ i = .int .i64 k ∧ wr = w) (fun _ i _ => 8 - (intOf i).toNat)
  case atStart => exact ⟨a, 0, by omega, rfl, ha, rfl, rfl⟩
  case round =>
    obtain ⟨a, k, hk, rfl, hr, rfl, rfl⟩ := hrel
    have HR := hid hr
    clear hr
    by_cases hlt : k < 8
    · have hd : decide ((k : Int) < 8) = true := by simp; omega
      have HR2 := hid (show R64 2197175160 by unfold R64; omega)
      go_wp2_with (go_at_call 270; refine (apart_any _ _ (wrap64_rng _) HR2.out _).mono ?_; rintro _ _ ⟨z, rfl, hz, rfl⟩; have HZ := hid hz; clear hz)
      · exact ⟨⟨_, k + 1, by omega, rfl, HZ.out, by go_num, trivial⟩, by simp [intOf]; omega⟩
      · exact ⟨⟨_, k + 1, by omega, rfl, wrap64_rng _, by go_num, trivial⟩, by simp [intOf]; omega⟩
    · obtain rfl : k = 8 := by omega
      have hd : decide ((8 : Int) < 8) = false := by decide
      go_wp2_with fail
      go_ret
      exact ⟨_, rfl, HR.out, rfl⟩
set_option maxHeartbeats 2000000 in
theorem sum_any {w : World} {a : Option Addr} {n c : Nat} {bs : List Int} (h : Byts w a n bs) (hby : ∀ x ∈ bs, 0 ≤ x ∧ x < 256) (hn : n ≤ 65536) : Calls Tryz.prog 233 #[.slice a n c] w (AnyI w) := by
  have H := hid (And.intro h hby)
  have hl := h.len
  clear h hby
  go_enter Tryz.func233, Tryz.ntmps233
  go_wp2_with fail
  go_loopw [3, 4] (fun va i wr => ∃ (a : Int) (k : Nat), k ≤ n ∧ va = .int .i64 a ∧ R64 a ∧ i = .int .i64 k ∧ wr = w) (fun _ i _ => n - (intOf i).toNat)
  case atStart => exact ⟨4294967295, 0, by omega, rfl, by unfold R64; omega, rfl, rfl⟩
  case round =>
    obtain ⟨z, k, hk, rfl, hr, rfl, rfl⟩ := hrel
    have HR := hid hr
    clear hr
    by_cases hlt : k < n
    · have hd : decide ((k : Int) < (n : Int)) = true := by simp; omega
      obtain ⟨x, hx⟩ : ∃ x, bs[k]? = some x := ⟨_, List.getElem?_eq_getElem (by omega)⟩
      obtain ⟨b, off, rfl, hb, hc⟩ := H.out.1.at_ k x hx
      have hx2 := H.out.2 x (List.mem_of_getElem? hx)
      have HX := hid (show R64 x by unfold R64; omega)
      clear hx
      go_wp2_with (go_at_call 270; refine (apart_any _ _ HR.out HX.out _).mono ?_; rintro _ _ ⟨z2, rfl, hz2, rfl⟩; have HZ2 := hid hz2; clear hz2)
      go_wp2_with (go_at_call 269; refine (place_any _ HZ2.out _).mono ?_; rintro _ _ ⟨z3, rfl, hz3, rfl⟩; have HZ3 := hid hz3; clear hz3)
      go_roundw
      case rel => exact ⟨_, k + 1, by omega, rfl, HZ3.out, by go_num, trivial⟩
      case measure => simp [intOf]; omega
    · obtain rfl : k = n := by omega
      have hd : decide ((k : Int) < (k : Int)) = false := by simp
      go_wp2_with fail
      go_ret
      exact ⟨_, rfl, wrap64_rng _, rfl⟩
theorem num_ext {bs : List Int} {m : Nat} (h : bs.length = m ∧ ∀ x ∈ bs, 0 ≤ x ∧ x < 256) (x : Int) (hx : 0 ≤ x ∧ x < 256) : (bs ++ [x]).length = m + 1 ∧ ∀ y ∈ bs ++ [x], 0 ≤ y ∧ y < 256 :=
  ⟨by simp [h.1], fun y hy => by
    rcases List.mem_append.1 hy with h1 | h1
    · exact h.2 y h1
    · rw [List.mem_singleton.1 h1]; exact hx⟩
theorem u8_rng (x : Int) : 0 ≤ IntKind.u8.wrap x ∧ IntKind.u8.wrap x < 256 := by
  have h : IntKind.u8.wrap x = x % 256 := rfl
  rw [h]; omega
/-- What Number does. -/
def NumA (k : Nat) (w : World) (e : Ending) (w' : World) : Prop := ∃ (v : Value) (bs : List Int), e = .returned v ∧ w'.ownsRow w.heap.size 5 1 v k (bs.map (Value.int .u8)) ∧ (bs.length = k ∧ ∀ x ∈ bs, 0 ≤ x ∧ x < 256) ∧ Fr (fun _ => False) w w'
set_option maxHeartbeats 2000000 in
theorem number_any1 (z : Int) (w : World) : Calls Tryz.prog 232 #[.int .u64 z, .int .i64 1] w (NumA 1 w) := by
  obtain ⟨j0, hj0, jz0, jz1, jz2⟩ := info_parts Tryz.info5
  go_enter Tryz.func232, Tryz.ntmps232
  go_wp2_with fail
  go_loopw [0, 5, 6] (fun zv v i wr => ∃ (m : Nat) (z : Int) (bs : List Int), m ≤ 1 ∧ zv = .int .u64 z ∧ i = .int .i64 m ∧ (bs.length = m ∧ ∀ x ∈ bs, 0 ≤ x ∧ x < 256) ∧ wr.ownsRow w.heap.size 5 1 v m (bs.map (Value.int .u8)) ∧ Fr (fun _ => False) w wr) (fun _ _ i _ => 1 - (intOf i).toNat)
  case atStart => exact ⟨0, z, [], by omega, rfl, rfl, ⟨rfl, by simp⟩, World.ownsRow_nil _ _ _ _, Fr.refl _ _⟩
  case round =>
    obtain ⟨m, z, bs, hm, rfl, rfl, hbs, hown, hF⟩ := hrel
    have hs := hF.size
    by_cases hlt : m < 1
    · have hd : decide ((m : Int) < 1) = true := by simp; omega
      have H := hid (And.intro hown hF)
      clear hown hF
      go_wp2_with (at_builtin; refine wpList_append_own_at _ rfl (.tmp 26) (.tmp 30) 22 rfl w.heap.size 5 j0 _ 1 1 Tryz.underlying22 hj0 jz0 jz1 jz2 rfl (by decide) _ _ _ rfl (H.out.1.alloc _) ⟨wr.heap.size, 0, none⟩ 1 1 [_] rfl rfl (cell_one_new _ _ _) (by simp [Value.oneCell']) (by simp [maxLen]; omega) (by omega) (by simp; omega) ?_)
      intro v2 W2 hown2 hgrow2 hnil2 hat2
      have hF2 : Fr (fun _ => False) w W2 := (H.out.2.alloc _).trans (S' := fun b => w.heap.size ≤ b) ⟨hgrow2.os, hgrow2.tape, hgrow2.output, hgrow2.size, fun b hb hn => hgrow2.block b hb (fun e => hn (H.out.1.lt b e.symm).1)⟩ (fun b hb h => by omega)
      have H2 := hid (And.intro hown2 hF2)
      clear hown2 hgrow2 hnil2 hat2 hF2
      go_wp2_with fail
      go_roundw
      case rel => exact ⟨m + 1, _, bs ++ [_], by omega, rfl, by go_num, num_ext hbs _ (u8_rng _), by rw [List.map_append]; exact H2.out.1, H2.out.2⟩
      case measure => simp [intOf]; omega
    · obtain rfl : m = 1 := by omega
      have hd : decide ((1 : Int) < 1) = false := by decide
      have H := hid (And.intro hown hF)
      clear hown hF
      go_wp2_with fail
      go_ret
      exact ⟨_, bs, rfl, H.out.1, hbs, H.out.2⟩
set_option maxHeartbeats 2000000 in
theorem number_any2 (z : Int) (w : World) : Calls Tryz.prog 232 #[.int .u64 z, .int .i64 2] w (NumA 2 w) := by
  obtain ⟨j0, hj0, jz0, jz1, jz2⟩ := info_parts Tryz.info5
  go_enter Tryz.func232, Tryz.ntmps232
  go_wp2_with fail
  go_loopw [0, 5, 6] (fun zv v i wr => ∃ (m : Nat) (z : Int) (bs : List Int), m ≤ 2 ∧ zv = .int .u64 z ∧ i = .int .i64 m ∧ (bs.length = m ∧ ∀ x ∈ bs, 0 ≤ x ∧ x < 256) ∧ wr.ownsRow w.heap.size 5 1 v m (bs.map (Value.int .u8)) ∧ Fr (fun _ => False) w wr) (fun _ _ i _ => 2 - (intOf i).toNat)
  case atStart => exact ⟨0, z, [], by omega, rfl, rfl, ⟨rfl, by simp⟩, World.ownsRow_nil _ _ _ _, Fr.refl _ _⟩
  case round =>
    obtain ⟨m, z, bs, hm, rfl, rfl, hbs, hown, hF⟩ := hrel
    have hs := hF.size
    by_cases hlt : m < 2
    · have hd : decide ((m : Int) < 2) = true := by simp; omega
      have H := hid (And.intro hown hF)
      clear hown hF
      go_wp2_with (at_builtin; refine wpList_append_own_at _ rfl (.tmp 26) (.tmp 30) 22 rfl w.heap.size 5 j0 _ 1 1 Tryz.underlying22 hj0 jz0 jz1 jz2 rfl (by decide) _ _ _ rfl (H.out.1.alloc _) ⟨wr.heap.size, 0, none⟩ 1 1 [_] rfl rfl (cell_one_new _ _ _) (by simp [Value.oneCell']) (by simp [maxLen]; omega) (by omega) (by simp; omega) ?_)
      intro v2 W2 hown2 hgrow2 hnil2 hat2
      have hF2 : Fr (fun _ => False) w W2 := (H.out.2.alloc _).trans (S' := fun b => w.heap.size ≤ b) ⟨hgrow2.os, hgrow2.tape, hgrow2.output, hgrow2.size, fun b hb hn => hgrow2.block b hb (fun e => hn (H.out.1.lt b e.symm).1)⟩ (fun b hb h => by omega)
      have H2 := hid (And.intro hown2 hF2)
      clear hown2 hgrow2 hnil2 hat2 hF2
      go_wp2_with fail
      go_roundw
      case rel => exact ⟨m + 1, _, bs ++ [_], by omega, rfl, by go_num, num_ext hbs _ (u8_rng _), by rw [List.map_append]; exact H2.out.1, H2.out.2⟩
      case measure => simp [intOf]; omega
    · obtain rfl : m = 2 := by omega
      have hd : decide ((2 : Int) < 2) = false := by decide
      have H := hid (And.intro hown hF)
      clear hown hF
      go_wp2_with fail
      go_ret
      exact ⟨_, bs, rfl, H.out.1, hbs, H.out.2⟩
set_option maxHeartbeats 2000000 in
theorem number_any4 (z : Int) (w : World) : Calls Tryz.prog 232 #[.int .u64 z, .int .i64 4] w (NumA 4 w) := by
  obtain ⟨j0, hj0, jz0, jz1, jz2⟩ := info_parts Tryz.info5
  go_enter Tryz.func232, Tryz.ntmps232
  go_wp2_with fail
  go_loopw [0, 5, 6] (fun zv v i wr => ∃ (m : Nat) (z : Int) (bs : List Int), m ≤ 4 ∧ zv = .int .u64 z ∧ i = .int .i64 m ∧ (bs.length = m ∧ ∀ x ∈ bs, 0 ≤ x ∧ x < 256) ∧ wr.ownsRow w.heap.size 5 1 v m (bs.map (Value.int .u8)) ∧ Fr (fun _ => False) w wr) (fun _ _ i _ => 4 - (intOf i).toNat)
  case atStart => exact ⟨0, z, [], by omega, rfl, rfl, ⟨rfl, by simp⟩, World.ownsRow_nil _ _ _ _, Fr.refl _ _⟩
  case round =>
    obtain ⟨m, z, bs, hm, rfl, rfl, hbs, hown, hF⟩ := hrel
    have hs := hF.size
    by_cases hlt : m < 4
    · have hd : decide ((m : Int) < 4) = true := by simp; omega
      have H := hid (And.intro hown hF)
      clear hown hF
      go_wp2_with (at_builtin; refine wpList_append_own_at _ rfl (.tmp 26) (.tmp 30) 22 rfl w.heap.size 5 j0 _ 1 1 Tryz.underlying22 hj0 jz0 jz1 jz2 rfl (by decide) _ _ _ rfl (H.out.1.alloc _) ⟨wr.heap.size, 0, none⟩ 1 1 [_] rfl rfl (cell_one_new _ _ _) (by simp [Value.oneCell']) (by simp [maxLen]; omega) (by omega) (by simp; omega) ?_)
      intro v2 W2 hown2 hgrow2 hnil2 hat2
      have hF2 : Fr (fun _ => False) w W2 := (H.out.2.alloc _).trans (S' := fun b => w.heap.size ≤ b) ⟨hgrow2.os, hgrow2.tape, hgrow2.output, hgrow2.size, fun b hb hn => hgrow2.block b hb (fun e => hn (H.out.1.lt b e.symm).1)⟩ (fun b hb h => by omega)
      have H2 := hid (And.intro hown2 hF2)
      clear hown2 hgrow2 hnil2 hat2 hF2
      go_wp2_with fail
      go_roundw
      case rel => exact ⟨m + 1, _, bs ++ [_], by omega, rfl, by go_num, num_ext hbs _ (u8_rng _), by rw [List.map_append]; exact H2.out.1, H2.out.2⟩
      case measure => simp [intOf]; omega
    · obtain rfl : m = 4 := by omega
      have hd : decide ((4 : Int) < 4) = false := by decide
      have H := hid (And.intro hown hF)
      clear hown hF
      go_wp2_with fail
      go_ret
      exact ⟨_, bs, rfl, H.out.1, hbs, H.out.2⟩
set_option maxHeartbeats 2000000 in
theorem number_any8 (z : Int) (w : World) : Calls Tryz.prog 232 #[.int .u64 z, .int .i64 8] w (NumA 8 w) := by
  obtain ⟨j0, hj0, jz0, jz1, jz2⟩ := info_parts Tryz.info5
  go_enter Tryz.func232, Tryz.ntmps232
  go_wp2_with fail
  go_loopw [0, 5, 6] (fun zv v i wr => ∃ (m : Nat) (z : Int) (bs : List Int), m ≤ 8 ∧ zv = .int .u64 z ∧ i = .int .i64 m ∧ (bs.length = m ∧ ∀ x ∈ bs, 0 ≤ x ∧ x < 256) ∧ wr.ownsRow w.heap.size 5 1 v m (bs.map (Value.int .u8)) ∧ Fr (fun _ => False) w wr) (fun _ _ i _ => 8 - (intOf i).toNat)
  case atStart => exact ⟨0, z, [], by omega, rfl, rfl, ⟨rfl, by simp⟩, World.ownsRow_nil _ _ _ _, Fr.refl _ _⟩
  case round =>
    obtain ⟨m, z, bs, hm, rfl, rfl, hbs, hown, hF⟩ := hrel
    have hs := hF.size
    by_cases hlt : m < 8
    · have hd : decide ((m : Int) < 8) = true := by simp; omega
      have H := hid (And.intro hown hF)
      clear hown hF
      go_wp2_with (at_builtin; refine wpList_append_own_at _ rfl (.tmp 26) (.tmp 30) 22 rfl w.heap.size 5 j0 _ 1 1 Tryz.underlying22 hj0 jz0 jz1 jz2 rfl (by decide) _ _ _ rfl (H.out.1.alloc _) ⟨wr.heap.size, 0, none⟩ 1 1 [_] rfl rfl (cell_one_new _ _ _) (by simp [Value.oneCell']) (by simp [maxLen]; omega) (by omega) (by simp; omega) ?_)
      intro v2 W2 hown2 hgrow2 hnil2 hat2
      have hF2 : Fr (fun _ => False) w W2 := (H.out.2.alloc _).trans (S' := fun b => w.heap.size ≤ b) ⟨hgrow2.os, hgrow2.tape, hgrow2.output, hgrow2.size, fun b hb hn => hgrow2.block b hb (fun e => hn (H.out.1.lt b e.symm).1)⟩ (fun b hb h => by omega)
      have H2 := hid (And.intro hown2 hF2)
      clear hown2 hgrow2 hnil2 hat2 hF2
      go_wp2_with fail
      go_roundw
      case rel => exact ⟨m + 1, _, bs ++ [_], by omega, rfl, by go_num, num_ext hbs _ (u8_rng _), by rw [List.map_append]; exact H2.out.1, H2.out.2⟩
      case measure => simp [intOf]; omega
    · obtain rfl : m = 8 := by omega
      have hd : decide ((8 : Int) < 8) = false := by decide
      have H := hid (And.intro hown hF)
      clear hown hF
      go_wp2_with fail
      go_ret
      exact ⟨_, bs, rfl, H.out.1, hbs, H.out.2⟩
/-- What Of does. -/
def OfP (n : Nat) (w : World) (e : Ending) (w' : World) : Prop := ∃ z : Nat, e = .returned (.int .u64 z) ∧ z < 256 ^ n ∧ w = w'
set_option maxHeartbeats 2000000 in
theorem of_any {w : World} {a : Option Addr} {n c : Nat} {bs : List Int} (h : Byts w a n bs) (hby : ∀ x ∈ bs, 0 ≤ x ∧ x < 256) (hn : n ≤ 8) : Calls Tryz.prog 175 #[.slice a n c] w (OfP n w) := by
  have H := hid (And.intro h hby)
  have hl := h.len
  clear h hby
  go_enter Tryz.func175, Tryz.ntmps175
  go_wp2_with fail
  go_loopw [3, 4] (fun va i wr => ∃ (z k : Nat), k ≤ n ∧ va = .int .u64 z ∧ z < 256 ^ k ∧ i = .int .i64 ((n : Int) - 1 - k) ∧ wr = w) (fun _ i _ => (intOf i + 1).toNat)
  case atStart => exact ⟨0, 0, by omega, rfl, by decide, by simp, rfl⟩
  case round =>
    obtain ⟨z, k, hk, rfl, hz, rfl, rfl⟩ := hrel
    by_cases hlt : k < n
    · obtain ⟨j, hj⟩ : ∃ j : Nat, n = j + 1 + k := ⟨n - 1 - k, by omega⟩
      have ej : (n : Int) - 1 - k = (j : Int) := by omega
      rw [ej]
      obtain ⟨x, hx⟩ : ∃ x, bs[j]? = some x := ⟨_, List.getElem?_eq_getElem (by omega)⟩
      obtain ⟨b, off, rfl, hb, hc⟩ := H.out.1.at_ j x hx
      have hx2 := H.out.2 x (List.mem_of_getElem? hx)
      have hz8 : z < 72057594037927936 := Nat.lt_of_lt_of_le hz (Nat.le_trans (Nat.pow_le_pow_right (by decide) (show k ≤ 7 by omega)) (by decide))
      have HZ := hid (And.intro hz ej)
      clear hx hz ej
      go_wp2_with fail
      go_roundw
      case rel =>
        refine ⟨256 * z + x.toNat, k + 1, by omega, by congr 1; omega, ?_, by congr 1; omega, trivial⟩
        have := HZ.out.1
        rw [Nat.pow_succ]; omega
      case measure => simp [intOf]
    · obtain rfl : k = n := by omega
      have e1 : (k : Int) - 1 - (k : Int) = -1 := by omega
      rw [e1]
      have HZ := hid hz
      clear hz
      go_wp2_with fail
      go_ret
      exact ⟨z, rfl, HZ.out, rfl⟩
end Go.Proofs.YtgdhaaokolfdoaaGreatDoor

/- Which pages of a store count, by its caller's word; a page that is written, whichever way it goes. Conditions: the store lies in the world as StoreC says. -/
namespace Go.Sg
end Go.Sg
namespace Go.Proofs.YtgdhaaokolfdoaaGreatDoor
open Go.RowKit Go.Sg Go.Sg.Bits Go.Sg.Clk CP SF
/-- These pages count, and no others that are neither dying nor dead; of those there are few. -/
structure Live (y : Cs) (own : List Nat) (M : Nat) : Prop where
  nd : own.Nodup
  lt : ∀ k ∈ own, k < y.pages
  tk : ∀ k ∈ own, y.taken k = true ∧ y.dying k = false ∧ y.dead k = false
  all : ∀ k, k < y.pages → y.taken k = true → k ∈ own ∨ y.dying k = true ∨ y.dead k = true
  dy : ∃ L : List Nat, (∀ k : Nat, y.dying k = true → k ∈ L) ∧ L.length + (own.filter (fun k : Nat => !y.fresh k)).length ≤ M
  de : ∃ L : List Nat, (∀ k : Nat, y.dead k = true → k ∈ L) ∧ L.length ≤ M
theorem Live.commit {y : Cs} {own : List Nat} {M : Nat} (h : Live y own M) (hl : own.length ≤ M) : Live y.commit own M := by
  obtain ⟨L, h1, h2⟩ := h.dy
  refine ⟨h.nd, h.lt, fun k hk => ?_, fun k hk ht => ?_, ⟨[], fun k hk => (by cases hk), ?_⟩, ⟨L, h1, by omega⟩⟩
  · obtain ⟨a1, a2, a3⟩ := h.tk k hk
    refine ⟨?_, rfl, a2⟩
    show (y.taken k && !y.dead k) = true
    rw [a1, a3]; rfl
  · have ht' : (y.taken k && !y.dead k) = true := ht
    rw [Bool.and_eq_true] at ht'
    rcases h.all k hk ht'.1 with h | h | h
    · exact .inl h
    · exact .inr (.inr h)
    · rw [h] at ht'; cases ht'.2
  · have e : own.filter (fun k : Nat => !y.commit.fresh k) = own := List.filter_eq_self.2 fun k _ => rfl
    rw [e]; simpa using hl
end Go.Proofs.YtgdhaaokolfdoaaGreatDoor

/- Chapter 15's directory as it lies in a world; right, slots, leaves, in, Depth, Root. Conditions: the directory lies in the world. -/
namespace Go.Proofs.YtgdhaaokolfdoaaGreatDoor
open Go.RowKit Go.Sg CP SF
theorem pow_small {d : Nat} (h : d ≤ 20) : 2 ^ d ≤ 1048576 ∧ 0 < 2 ^ d := ⟨Nat.le_trans (Nat.pow_le_pow_right (by decide) h) (by decide), Nat.pow_pos (by decide)⟩
theorem wrap_pow {d : Nat} (h : d ≤ 20) : wrap64 (2 ^ d) = ((2 ^ d : Nat) : Int) := by
  obtain ⟨h1, h2⟩ := pow_small h
  have e : (2 : Int) ^ d = ((2 ^ d : Nat) : Int) := by simp
  rw [e]
  generalize 2 ^ d = n at *
  simp only [wrap64]; omega
end Go.Proofs.YtgdhaaokolfdoaaGreatDoor

/- Chapter 15's pages of references: load. Conditions: the references lie in the world and are right. -/
namespace Go.Sg
end Go.Sg
namespace Go.Proofs.YtgdhaaokolfdoaaGreatDoor
open Go.RowKit Go.Sg CP SF
end Go.Proofs.YtgdhaaokolfdoaaGreatDoor

/- Chapter 15's pages of references: parse. Conditions: the bytes are those of a page. -/
namespace Go.Sg
def refC (x : Int × Int) : List Value := [.int .i64 x.1, .int .i64 x.2]
end Go.Sg
namespace Go.Proofs.YtgdhaaokolfdoaaGreatDoor
open Go.RowKit Go.Sg CP SF
end Go.Proofs.YtgdhaaokolfdoaaGreatDoor

/- Chapter 15's directory: what its pages hold; slots that are set. The plain side. Conditions: none. -/
namespace Go.Sg
abbrev Rf := Int × Int
end Go.Sg
namespace Go.Proofs.YtgdhaaokolfdoaaGreatDoor
open Go.RowKit Go.Sg Go.Sg.Bits Go.Sg.Clk CP SF
end Go.Proofs.YtgdhaaokolfdoaaGreatDoor
