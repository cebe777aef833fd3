/- A pack of texts: FA, TB. Conditions: those that each text names. -/
import Derived.Test.YtgdhaaokolfdoaaGreatDoorWAC
import Derived.Deep.MidRow
import Derived.Outline
import Derived.Deep.Cut
import Derived.Test.YtgdhaaokolfdoaaGreatDoorWAD
import Derived.Laws.Rows
import Derived.Laws.BitsAllLaws
set_option linter.unusedVariables false
set_option linter.unusedSimpArgs false
set_option linter.unnecessarySimpa false
/- plan: bounds, within. Conditions: none. -/
namespace Go.Sg
open Go.RowKit
theorem Fr.setCells {S : Nat → Prop} {w : World} {b : Nat} (hb : w.heap.size ≤ b) (vs : List Value) : ∀ (o : Nat) (w1 : World), Fr S w w1 → Fr S w (w1.setCells b o vs) := by
  induction vs with
  | nil => intro o w1 h; exact h
  | cons v vs ih => intro o w1 h; exact ih (o + 1) _ (h.setNew hb v)
theorem results_cell_mid {P : Program} {fn : Func} {p : Tmp} {ty : TypeId} (h : fn.results = #[.cell p ty]) (tmps : Array Value) (w : World) (g : Nat) (cs : List Value) (d : TypeDesc)
    (hp : tmps.getD p undef = .pointer (some ⟨g, 0, none⟩)) (hg : w.rangeAt g 0 cs) (hu : P.underlying ty = some d) (hd : d.isRow = true) (hi : (P.info? ty).map (·.size) = some cs.length) :
    (results fn tmps).run P w = .ok (.agg cs.toArray) w := by
  have hp' : tmps[p]?.getD undef = .pointer (some ⟨g, 0, none⟩) := by simpa using hp
  have h1 := run_loadVar_mid w g 0 ty cs d hg hu hd hi
  simp [results, h, hp', asAddr, h1]
end Go.Sg
namespace Go.Proofs.YtgdhaaokolfdoaaGreatDoor
open Go.RowKit Go.Sg
abbrev bndL (p : Plan8) : List Value := [.int .i64 p.size, .int .i64 96, .int .i64 512, .int .i64 p.sectors, .int .i64 1, .int .i64 16384, .int .i64 p.regions, .int .i64 3, .int .i64 64, .int .i64 p.rsectors, .int .i64 1, .int .i64 32, .int .i64 p.log, .int .i64 4, .int .i64 256, .int .i64 p.depth, .int .i64 0, .int .i64 8, .int .i64 p.memory, .int .i64 8, .int .i64 256]
theorem Tryz.size327 : (Tryz.prog.info? 327).map (·.size) = some 21 := by kernel_rfl
abbrev zeros21 : Array Value := #[.int .i64 0, .int .i64 0, .int .i64 0, .int .i64 0, .int .i64 0, .int .i64 0, .int .i64 0, .int .i64 0, .int .i64 0, .int .i64 0, .int .i64 0, .int .i64 0, .int .i64 0, .int .i64 0, .int .i64 0, .int .i64 0, .int .i64 0, .int .i64 0, .int .i64 0, .int .i64 0, .int .i64 0]
set_option maxRecDepth 100000 in
set_option maxHeartbeats 2000000 in
theorem bounds_ok (p : Plan8) (w : World) : Calls Tryz.prog 222 #[p.val] w fun e w' => e = .returned (.agg (bndL p).toArray) ∧ Fr (fun _ => False) w w' := by
  obtain ⟨a, b, c, d, f, g, h, s⟩ := p
  obtain ⟨W, hW⟩ : ∃ W, (w.alloc (.cells #[.int .i64 a, .int .i64 b, .int .i64 c, .int .i64 d, .int .i64 f, .int .i64 g, .int .i64 h, .int .u64 s] 31)).alloc (.cells zeros21 327) = W := ⟨_, rfl⟩
  obtain ⟨b0, b1, F1⟩ := heap_two hW
  have hs1 : w.heap.size + 1 < W.heap.size := lt_of_heap b1
  have ht : W.there (w.heap.size + 1) 0 21 := by
    intro j hj
    refine ⟨?_, frozen_of_heap b1 _⟩
    rw [cell_of_heap b1]
    simp; omega
  have HT := hid ht
  obtain ⟨w9, hw9⟩ : ∃ w9, W.setCells (w.heap.size + 1) 0 (bndL ⟨a, b, c, d, f, g, h, s⟩).toArray.toList = w9 := ⟨_, rfl⟩
  have hr9 : w9.rangeAt (w.heap.size + 1) 0 (bndL ⟨a, b, c, d, f, g, h, s⟩) := by
    rw [← hw9]
    exact World.rangeAt_setCells_same _ _ _ _ ht
  have F9 : Fr (fun _ => False) w w9 := by
    rw [← hw9]
    exact Fr.setCells (by omega) _ _ _ F1
  have c0 := cell_of_heap b0 0
  have c1 := cell_of_heap b0 1
  have c2 := cell_of_heap b0 2
  have c3 := cell_of_heap b0 3
  have c4 := cell_of_heap b0 4
  have c5 := cell_of_heap b0 5
  have c6 := cell_of_heap b0 6
  simp at c0 c1 c2 c3 c4 c5 c6
  have HR := hid hr9
  have HF := hid F9
  have HW := hid hW
  have HW9 := hid hw9
  clear ht hw9 hr9 F9 hs1 hW b0 b1 F1
  go_enter Tryz.func222, Tryz.ntmps222
  go_upto_region 1 with (fail)
  simp only [HW.out]
  iterate 100 (first | (refine wpList_store_mid (by rfl) 327 (.tmp 2) (.tmp 24) (by rfl) (w.heap.size + 1) 0 (bndL ⟨a, b, c, d, f, g, h, s⟩).toArray (by rfl) (by rfl) HT.out (by rw [Tryz.size327]; rfl) (by simp [Value.oneCell']) ?_) | go_step | skip)
  have e9 : W.setCells (w.heap.size + 1) 0 (bndL ⟨a, b, c, d, f, g, h, s⟩) = w9 := HW9.out
  rw [e9]
  exact bodyPost_ret (v := .agg (bndL ⟨a, b, c, d, f, g, h, s⟩).toArray) (results_cell_mid rfl _ _ (w.heap.size + 1) (bndL ⟨a, b, c, d, f, g, h, s⟩) _ rfl HR.out Tryz.underlying327 rfl (by rw [Tryz.size327]; rfl)) rfl ⟨rfl, HF.out⟩
end Go.Proofs.YtgdhaaokolfdoaaGreatDoor

/- crc: Table. Conditions: none. -/
namespace Go.Sg
def crcIt (i : Nat) : Nat → Nat
  | 0 => i
  | m + 1 => crcStep (crcIt i m)
theorem crcTab_it (i : Nat) : crcTab i = crcIt i 8 := rfl
theorem crcStep_lt {n : Nat} (h : n < 4294967296) : crcStep n < 4294967296 := by
  unfold crcStep
  refine Nat.xor_lt_two_pow (n := 32) (by omega) ?_
  split <;> omega
theorem crcIt_lt {i : Nat} (h : i < 4294967296) : ∀ m, crcIt i m < 4294967296 := by
  intro m
  induction m with
  | zero => exact h
  | succ m ih => exact crcStep_lt ih
theorem crcTab_lt {i : Nat} (h : i < 256) : crcTab i < 4294967296 := by rw [crcTab_it]; exact crcIt_lt (by omega) 8
/-- The table's cells when i rounds are over. -/
def tabL (i : Nat) : List Value := (List.range 256).map fun j => .int .u32 ((if j < i then crcTab j else 0 : Nat) : Int)
theorem tabL_len (i : Nat) : (tabL i).length = 256 := by simp [tabL]
theorem tabL_set (i : Nat) (h : i < 256) : (tabL i).set i (.int .u32 (crcTab i : Nat)) = tabL (i + 1) := by
  apply List.ext_getElem?
  intro j
  by_cases hj : j < 256
  · rw [List.getElem?_set]
    by_cases e : i = j
    · subst e
      simp [tabL, hj]
    · rw [if_neg e]
      simp only [tabL, List.getElem?_map, List.getElem?_range hj, Option.map_some]
      congr 2
      by_cases h1 : j < i
      · rw [if_pos h1, if_pos (by omega)]
      · rw [if_neg h1, if_neg (by omega)]
  · rw [List.getElem?_eq_none (by rw [List.length_set, tabL_len]; omega), List.getElem?_eq_none (by rw [tabL_len]; omega)]
end Go.Sg
namespace Go.Proofs.YtgdhaaokolfdoaaGreatDoor
open Go.RowKit Go.Sg
theorem zero396 : Tryz.zeroCells396 = (List.replicate 256 (Value.int .u32 0)).toArray := by kernel_rfl
theorem tabL_nought : tabL 0 = List.replicate 256 (Value.int .u32 0) := by
  rw [tabL, List.map_congr_left (g := fun _ => Value.int .u32 0) (fun j _ => by rw [if_neg (Nat.not_lt_zero j)]; rfl), List.map_const', List.length_range]
theorem tabL_zero : Tryz.zeroCells396 = (tabL 0).toArray := by rw [zero396, tabL_nought]
set_option maxHeartbeats 2000000 in
set_option maxRecDepth 100000 in
theorem table_ok (w : World) :
    Calls Tryz.prog 289 #[] w fun e w' => e = .returned (.agg (tabL 256).toArray) ∧ Fr (fun _ => False) w w' := by
  go_enter Tryz.func289, Tryz.ntmps289
  go_wp2
  rw [tabL_zero]
  go_loopw [5] (fun s wr => ∃ i : Nat, i ≤ 256 ∧ s = .int .i64 i ∧ wr.heap[w.heap.size + 1]? = some (.cells (tabL i).toArray 396) ∧ wr.heap[w.heap.size]? = some (.cells (tabL 0).toArray 396) ∧ Fr (fun _ => False) w wr) (fun s _ => 256 - (intOf s).toNat)
  case atStart =>
    obtain ⟨h0, h1, F⟩ := heap_two (w := w) (A := .cells (tabL 0).toArray 396) (B := .cells (tabL 0).toArray 396) rfl
    exact ⟨0, Nat.zero_le _, rfl, h1, h0, F⟩
  case round =>
    obtain ⟨i, hi, rfl, h1, h0, hF⟩ := hrel
    by_cases hlt : i < 256
    · have cj : wr.cell? ⟨w.heap.size + 1, i, none⟩ = some (.int .u32 0) := by
        rw [cell_of_heap h1]
        simp [tabL, hlt]
      have zj := fun o => frozen_of_heap h1 o
      have hlg := lt_of_heap h1
      have hid1 : decide (i < 256) = true := by simpa using hlt
      have hid2 : decide ((i : Int) < 256) = true := by simp; omega
      have H := hid (And.intro h1 (And.intro h0 hF))
      clear h1 h0 hF
      go_wp2
      obtain ⟨wo, rfl⟩ : ∃ wo : World, wo = wr := ⟨_, rfl⟩
      go_loop [3, 10] (fun n s => ∃ m : Nat, m ≤ 8 ∧ s = .int .i64 m ∧ n = .int .u32 (crcIt i m : Nat)) (fun _ s => 8 - (intOf s).toNat)
      case atStart => exact ⟨0, Nat.zero_le _, rfl, rfl⟩
      case round =>
        obtain ⟨m, hm, rfl, rfl⟩ := hrel
        have hl := crcIt_lt (i := i) (by omega) m
        by_cases hlm : m < 8
        · have hd3 : decide ((m : Int) < 8) = true := by simp; omega
          go_wp2
          go_round
          case rel =>
            refine ⟨m + 1, by omega, by go_num, ?_⟩
            have e1 : bits BinOp.and IntKind.u32 ((crcIt i m : Nat) : Int) 1 = ((crcIt i m % 2 : Nat) : Int) := by
              rw [show (1 : Int) = ((1 : Nat) : Int) from rfl, u32_and_nat _ _ hl (by decide), nat_mask1]
            rw [e1]
            have h2 : crcIt i m % 2 = 0 ∨ crcIt i m % 2 = 1 := by omega
            have e2 : (2197175160 * ((crcIt i m % 2 : Nat) : Int) % 4294967296) = (((if crcIt i m % 2 = 1 then 2197175160 else 0) : Nat) : Int) := by
              rcases h2 with h2 | h2 <;> rw [h2] <;> rfl
            rw [e2, show ((crcIt i m : Nat) : Int) / 2 = ((crcIt i m / 2 : Nat) : Int) by simp, u32_xor_nat _ _ (by omega) (by split <;> omega)]
            rfl
          case measure => simp [intOf]; omega
        · obtain rfl : m = 8 := by omega
          go_wp2
          go_roundw
          case rel =>
            obtain ⟨h1, h0, hF⟩ := H.out
            refine ⟨i + 1, by omega, by go_num, ?_, ?_, hF.setNew (by omega) _⟩
            · rw [heap_setCell_cells _ _ _ _ h1]
              congr 2
              rw [← crcTab_it, ← tabL_set i hlt]
              simp
            · exact (heap_setCell_ne _ _ _ _ (by simp)).trans h0
          case measure => simp [intOf]; omega
    · obtain rfl : i = 256 := by omega
      go_upto_region 13 with (fail)
      have hsz : (Tryz.prog.info? 396).map (·.size) = some (tabL 256).toArray.size := by rw [List.size_toArray, tabL_len]; kernel_rfl
      have hsz2 : (Tryz.prog.info? 396).map (·.size) = some (tabL 256).length := by rw [tabL_len]; kernel_rfl
      have hu : Tryz.prog.underlying 396 = some (.array 256 373) := by kernel_rfl
      have ht : wr.there w.heap.size 0 (tabL 256).toArray.size := by
        intro j hj
        refine ⟨?_, frozen_of_heap h0 _⟩
        rw [cell_of_heap h0]
        rw [List.size_toArray, tabL_len] at hj
        simp [tabL]; omega
      have h1c : (tabL 256).toArray.all (·.oneCell') = true := by simp [tabL, Value.oneCell']
      have hr9 : (wr.setCells w.heap.size 0 (tabL 256)).rangeAt w.heap.size 0 (tabL 256) := World.rangeAt_setCells_same _ _ _ _ (by simpa using ht)
      have F9 : Fr (fun _ => False) w (wr.setCells w.heap.size 0 (tabL 256)) := Fr.setCells (by omega) _ _ _ hF
      iterate 60 (first | (refine wpList_load_row (by rfl) 396 (.tmp 1) (by rfl) (w.heap.size + 1) (by rfl) 396 (tabL 256).toArray (0, 0) (.array 256 373) h1 hu rfl hsz ?_) | (refine wpList_store_mid (by rfl) 396 (.tmp 0) (.tmp 24) (by rfl) w.heap.size 0 (tabL 256).toArray (by rfl) (by rfl) ht hsz h1c ?_) | go_step | skip)
      trace_state
      exact bodyPost_ret (v := .agg (tabL 256).toArray) (results_cell_mid rfl _ _ w.heap.size (tabL 256) _ rfl hr9 hu rfl hsz2) rfl ⟨rfl, F9⟩
end Go.Proofs.YtgdhaaokolfdoaaGreatDoor
