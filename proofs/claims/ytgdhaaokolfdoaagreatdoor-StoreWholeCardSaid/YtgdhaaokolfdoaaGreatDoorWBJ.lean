/- A pack of texts: HF, TH, RN, DB2, GV. Conditions: those that each text names. -/
import Derived.Test.YtgdhaaokolfdoaaGreatDoorWBI
import Derived.Test.YtgdhaaokolfdoaaGreatDoorWBD
import Derived.Test.YtgdhaaokolfdoaaGreatDoorWAA
import Derived.RangeFuncNested
import Derived.RangeFuncRecord
import Derived.Test.YtgdhaaokolfdoaaGreatDoorWAD
set_option linter.unusedVariables false
set_option linter.unusedSimpArgs false
set_option linter.unnecessarySimpa false
/- The document's leaf (chapter 5): Read ends, whatever the sector. Conditions: the sector's bytes lie in the world, 96 to 512 of them. -/
namespace Go.Proofs.YtgdhaaokolfdoaaGreatDoor
open Go.RowKit Go.Sg Go.Sg.Bits Go.Sg.Clk CP SF
theorem slice_midY (b off n c lo hi : Nat) (h1 : lo ≤ hi) (h2 : hi ≤ c) (h3 : lo < c) (W : World) : (Instr.slice 22 (.slice (some ⟨b, off, none⟩) n c) (some (.int .i64 lo)) (some (.int .i64 hi)) none).run Tryz.prog W = .ok (.slice (some ⟨b, off + lo, none⟩) (hi - lo) (c - lo)) W := by
  rw [run_slice_lh W 22 (some ⟨b, off, none⟩) n c (by kernel_rfl) .i64 .i64 lo hi (by omega) (by omega) (by omega)]
  have hs : (sizeOf (Tryz.prog.elem 22)).run Tryz.prog W = .ok 1 W := by kernel_rfl
  rw [hs]
  simp only [Result.andThen_ok, sliced, Int.toNat_natCast, Nat.mul_one]
  rw [if_neg (by omega)]
  simp [addr_add]
theorem byts_midY {w : World} {b off n c : Nat} {bs : List Int} (h : ByV w (some ⟨b, off, none⟩) n c bs) (lo k : Nat) (hk : lo + k ≤ n) : ByV w (some ⟨b, off + lo, none⟩) k (c - lo) ((bs.drop lo).take k) := by
  refine ⟨⟨by rw [List.length_take, List.length_drop, h.by_.len]; omega, fun i x hx => ?_⟩, ?_⟩
  · rw [List.getElem?_take] at hx
    split at hx
    · rw [List.getElem?_drop] at hx
      obtain ⟨b', off', e, hb, hc⟩ := h.by_.at_ _ x hx
      cases e
      exact ⟨b, off + lo, rfl, hb, by rw [Nat.add_assoc]; exact hc⟩
    · cases hx
  · rcases h.at_ with ⟨h0, _, _⟩ | ⟨b', off', cs, e, h2⟩
    · cases h0
    · cases e; exact .inr ⟨b, off + lo, cs, rfl, h2⟩
/-- What Read does. -/
def ReadY (w : World) (e : Ending) (w' : World) : Prop := ∃ (kd pl st k : Int) (s : ByteArray), e = .returned (.tuple #[.agg #[.int .i64 kd, .int .i64 pl, .int .i64 st, .string s], .int .i64 k]) ∧ Fr (fun _ => False) w w'
set_option maxRecDepth 100000 in
set_option maxHeartbeats 4000000 in
theorem read_any {w : World} {b off n c : Nat} {bs : List Int} (h : ByV w (some ⟨b, off, none⟩) n c bs) (hby : ∀ x ∈ bs, 0 ≤ x ∧ x < 256) (hn : 96 ≤ n ∧ n ≤ 512) (hc : n ≤ c) : Calls Tryz.prog 115 #[.slice (some ⟨b, off, none⟩) n c] w (ReadY w) := by
  have HB := hid (And.intro h hby)
  have hm : ∀ (lo k : Nat), ∀ x ∈ (bs.drop lo).take k, 0 ≤ x ∧ x < 256 := fun lo k x hx => hby x (List.mem_of_mem_drop (List.mem_of_mem_take hx))
  have HM := hid hm
  have s1 : ∀ W, (Instr.slice 22 (.slice (some ⟨b, off, none⟩) n c) (some (.int .i64 1)) (some (.int .i64 3)) none).run Tryz.prog W = .ok (.slice (some ⟨b, off + 1, none⟩) 2 (c - 1)) W := fun W => slice_midY b off n c 1 3 (by omega) (by omega) (by omega) W
  have s2 : ∀ W, (Instr.slice 22 (.slice (some ⟨b, off, none⟩) n c) (some (.int .i64 7)) (some (.int .i64 15)) none).run Tryz.prog W = .ok (.slice (some ⟨b, off + 7, none⟩) 8 (c - 7)) W := fun W => slice_midY b off n c 7 15 (by omega) (by omega) (by omega) W
  have s3 : ∀ W, (Instr.slice 22 (.slice (some ⟨b, off, none⟩) n c) (some (.int .i64 3)) (some (.int .i64 7)) none).run Tryz.prog W = .ok (.slice (some ⟨b, off + 3, none⟩) 4 (c - 3)) W := fun W => slice_midY b off n c 3 7 (by omega) (by omega) (by omega) W
  have HF0 := hid ((Fr.refl (fun _ => False) w).alloc (.cells #[.int .i64 0, .int .i64 0, .int .i64 0, .string ⟨#[]⟩] 200))
  have HB0 := hid (h.fr HF0.out (fun _ _ _ h => h))
  have hlt := h.by_.len
  clear h hby hm
  go_enter Tryz.func115, Tryz.ntmps115
  go_wp2_with (go_at_call 175; (with_reducible refine (of_any (byts_midY HB0.out 1 2 (by omega)).by_ (HM.out _ _) (by omega)).mono ?_))
  rintro _ _ ⟨z1, rfl, hz1, rfl⟩
  go_wp2_with (go_at_call 175; (with_reducible refine (of_any (byts_midY HB0.out 7 8 (by omega)).by_ (HM.out _ _) (by omega)).mono ?_))
  rintro _ _ ⟨z2, rfl, hz2, rfl⟩
  have hz1' : z1 < 65536 := hz1
  have hz2' : z2 < 18446744073709551616 := hz2
  clear hz1 hz2 s1 s2
  by_cases hbad : ((n : Int) - 19 < (z1 : Int)) ∨ (9223372036854775807 < (z2 : Int))
  · rcases (show ((n : Int) - 19 < (z1 : Int)) ∨ ((z1 : Int) ≤ (n : Int) - 19 ∧ 9223372036854775807 < (z2 : Int)) from by omega) with h | ⟨h, h'⟩
    all_goals
      go_wp2_with fail
      refine bodyPost_ret (v := .tuple #[.agg #[.int .i64 0, .int .i64 0, .int .i64 0, .string ⟨#[]⟩], .int .i64 5]) (by simp [results, go_sem, *]) rfl ⟨0, 0, 0, 5, _, rfl, ?_⟩
      exact HF0.out
  · have h1 : (z1 : Int) ≤ (n : Int) - 19 := by omega
    have h2 : (z2 : Int) ≤ 9223372036854775807 := by omega
    have s4 : ∀ W, (Instr.slice 22 (.slice (some ⟨b, off, none⟩) n c) (some (.int .i64 15)) (some (.int .i64 (15 + (z1 : Int)))) none).run Tryz.prog W = .ok (.slice (some ⟨b, off + 15, none⟩) z1 (c - 15)) W := fun W => by
      have := slice_midY b off n c 15 (15 + z1) (by omega) (by omega) (by omega) W
      rw [show 15 + z1 - 15 = z1 from by omega] at this
      exact this
    have s5 := conv_byt (byts_midY HB0.out 15 z1 (by omega))
    obtain ⟨x0, hx0⟩ : ∃ x, bs[0]? = some x := ⟨_, List.getElem?_eq_getElem (by omega)⟩
    obtain ⟨b', off', e', hb', hc0⟩ := HB0.out.by_.at_ 0 x0 hx0
    cases e'
    rw [Nat.add_zero] at hc0
    go_upto_region 7 with fail
    obtain ⟨W0, hW0⟩ : ∃ W0, W0 = w.alloc (.cells #[.int .i64 0, .int .i64 0, .int .i64 0, .string ⟨#[]⟩] 200) := ⟨_, rfl⟩
    rw [← hW0] at HF0 HB0 hc0 hb' ⊢
    have HW := hid hW0
    have hn0 : 0 < n := by omega
    have hw15 : IntKind.i64.wrap (15 + (z1 : Int)) = 15 + (z1 : Int) := by rw [IntKind.wrap_i64]; omega
    clear s5 hW0
    have HC := hid (fun V (hV : Fr (fun _ => False) W0 V) => And.intro (show V.cell? ⟨b, off, none⟩ = some (.int .u8 x0) from (hV.cell (p := ⟨b, off, none⟩) hb' (fun h => h)).trans hc0) (conv_byt (byts_midY (HB0.out.fr hV (fun _ _ _ h => h)) 15 z1 (by omega))))
    have FG := (Fr.refl (fun _ => False) W0).drew
    refine wp_region_noPanic ?_
    refine region_plan (fun V => Fr (fun _ => False) W0 V) (.rd 0 (.rd 1 (.rd 2 (.rd 3 (.rd 4 (.rd 5 (.rd 8 (.rd 9 (.rd 10 (.rd 11 (.rd 12 (.rd 13 (.rd 14 (.two 6 16 (.rd 7 (.rd 15 (.op 16 (.op 17 .done)))) (.op 6 (.rd 7 (.rd 15 (.op 17 .done)))))))))))))))))) (by kernel_rfl) (by kernel_rfl) (by kernel_rfl) (fun _ _ _ _ _ h => h) FG ?_
    try simp only [Act.put, List.setIfInBounds_toArray, List.set_cons_zero, List.set_cons_succ]
    refine plan_rd _ ?_ (by simp only [List.getElem?_toArray, List.getElem?_cons_zero, List.getElem?_cons_succ]; rfl) (by rfl) ?_ ?_
    rotate_left
    · intro V hV
      obtain ⟨c0, c1⟩ := HC.out V hV
      go_simp
      try with_reducible rfl
    try simp only [Act.put, List.setIfInBounds_toArray, List.set_cons_zero, List.set_cons_succ]
    refine plan_rd _ ?_ (by simp only [List.getElem?_toArray, List.getElem?_cons_zero, List.getElem?_cons_succ]; rfl) (by rfl) ?_ ?_
    rotate_left
    · intro V hV
      obtain ⟨c0, c1⟩ := HC.out V hV
      go_simp
      try with_reducible rfl
    try simp only [Act.put, List.setIfInBounds_toArray, List.set_cons_zero, List.set_cons_succ]
    refine plan_rd _ ?_ (by simp only [List.getElem?_toArray, List.getElem?_cons_zero, List.getElem?_cons_succ]; rfl) (by rfl) ?_ ?_
    rotate_left
    · intro V hV
      obtain ⟨c0, c1⟩ := HC.out V hV
      go_simp
      try with_reducible rfl
    try simp only [Act.put, List.setIfInBounds_toArray, List.set_cons_zero, List.set_cons_succ]
    refine plan_rd _ ?_ (by simp only [List.getElem?_toArray, List.getElem?_cons_zero, List.getElem?_cons_succ]; rfl) (by rfl) ?_ ?_
    rotate_left
    · intro V hV
      obtain ⟨c0, c1⟩ := HC.out V hV
      go_simp
      try with_reducible rfl
    try simp only [Act.put, List.setIfInBounds_toArray, List.set_cons_zero, List.set_cons_succ]
    refine plan_rd _ ?_ (by simp only [List.getElem?_toArray, List.getElem?_cons_zero, List.getElem?_cons_succ]; rfl) (by rfl) ?_ ?_
    rotate_left
    · intro V hV
      obtain ⟨c0, c1⟩ := HC.out V hV
      go_simp
      try with_reducible rfl
    try simp only [Act.put, List.setIfInBounds_toArray, List.set_cons_zero, List.set_cons_succ]
    refine plan_rd _ ?_ (by simp only [List.getElem?_toArray, List.getElem?_cons_zero, List.getElem?_cons_succ]; rfl) (by rfl) ?_ ?_
    rotate_left
    · intro V hV
      obtain ⟨c0, c1⟩ := HC.out V hV
      go_simp
      try with_reducible rfl
    try simp only [Act.put, List.setIfInBounds_toArray, List.set_cons_zero, List.set_cons_succ]
    refine plan_rd _ ?_ (by simp only [List.getElem?_toArray, List.getElem?_cons_zero, List.getElem?_cons_succ]; rfl) (by rfl) ?_ ?_
    rotate_left
    · intro V hV
      obtain ⟨c0, c1⟩ := HC.out V hV
      go_simp
      try with_reducible rfl
    try simp only [Act.put, List.setIfInBounds_toArray, List.set_cons_zero, List.set_cons_succ]
    refine plan_rd _ ?_ (by simp only [List.getElem?_toArray, List.getElem?_cons_zero, List.getElem?_cons_succ]; rfl) (by rfl) ?_ ?_
    rotate_left
    · intro V hV
      obtain ⟨c0, c1⟩ := HC.out V hV
      go_simp
      try with_reducible rfl
    try simp only [Act.put, List.setIfInBounds_toArray, List.set_cons_zero, List.set_cons_succ]
    refine plan_rd _ ?_ (by simp only [List.getElem?_toArray, List.getElem?_cons_zero, List.getElem?_cons_succ]; rfl) (by rfl) ?_ ?_
    rotate_left
    · intro V hV
      obtain ⟨c0, c1⟩ := HC.out V hV
      go_simp
      try with_reducible rfl
    try simp only [Act.put, List.setIfInBounds_toArray, List.set_cons_zero, List.set_cons_succ]
    refine plan_rd _ ?_ (by simp only [List.getElem?_toArray, List.getElem?_cons_zero, List.getElem?_cons_succ]; rfl) (by rfl) ?_ ?_
    rotate_left
    · intro V hV
      obtain ⟨c0, c1⟩ := HC.out V hV
      go_simp
      try with_reducible rfl
    try simp only [Act.put, List.setIfInBounds_toArray, List.set_cons_zero, List.set_cons_succ]
    refine plan_rd _ ?_ (by simp only [List.getElem?_toArray, List.getElem?_cons_zero, List.getElem?_cons_succ]; rfl) (by rfl) ?_ ?_
    rotate_left
    · intro V hV
      obtain ⟨c0, c1⟩ := HC.out V hV
      go_simp
      try with_reducible rfl
    try simp only [Act.put, List.setIfInBounds_toArray, List.set_cons_zero, List.set_cons_succ]
    refine plan_rd _ ?_ (by simp only [List.getElem?_toArray, List.getElem?_cons_zero, List.getElem?_cons_succ]; rfl) (by rfl) ?_ ?_
    rotate_left
    · intro V hV
      obtain ⟨c0, c1⟩ := HC.out V hV
      go_simp
      try with_reducible rfl
    try simp only [Act.put, List.setIfInBounds_toArray, List.set_cons_zero, List.set_cons_succ]
    refine plan_rd _ ?_ (by simp only [List.getElem?_toArray, List.getElem?_cons_zero, List.getElem?_cons_succ]; rfl) (by rfl) ?_ ?_
    rotate_left
    · intro V hV
      obtain ⟨c0, c1⟩ := HC.out V hV
      go_simp
      try with_reducible rfl
    try simp only [Act.put, List.setIfInBounds_toArray, List.set_cons_zero, List.set_cons_succ]
    refine plan_two ?_ ?_
    focus
      try simp only [Act.put, List.setIfInBounds_toArray, List.set_cons_zero, List.set_cons_succ]
      refine plan_op _ (by simp only [List.getElem?_toArray, List.getElem?_cons_zero, List.getElem?_cons_succ]; rfl) (by rfl) (fun K hK => ?_)
      go_simp
      refine (of_any (byts_midY (HB0.out.fr FG (fun _ _ _ h => h)) 3 4 (by omega)).by_ (HM.out _ _) (by omega)).mono ?_
      rintro _ _ ⟨z3, rfl, hz3, rfl⟩
      have hz3' : z3 < 4294967296 := hz3
      clear hz3
      try go_simp
      refine hK _ _ FG ?_
      clear hK K
      try simp only [Act.put, List.setIfInBounds_toArray, List.set_cons_zero, List.set_cons_succ]
      refine plan_rd _ ?_ (by simp only [List.getElem?_toArray, List.getElem?_cons_zero, List.getElem?_cons_succ]; rfl) (by rfl) ?_ ?_
      rotate_left
      · intro V hV
        obtain ⟨c0, c1⟩ := HC.out V hV
        go_simp
        try with_reducible rfl
      try simp only [Act.put, List.setIfInBounds_toArray, List.set_cons_zero, List.set_cons_succ]
      refine plan_rd _ ?_ (by simp only [List.getElem?_toArray, List.getElem?_cons_zero, List.getElem?_cons_succ]; rfl) (by rfl) ?_ ?_
      rotate_left
      · intro V hV
        obtain ⟨c0, c1⟩ := HC.out V hV
        go_simp
        try with_reducible rfl
      try simp only [Act.put, List.setIfInBounds_toArray, List.set_cons_zero, List.set_cons_succ]
      refine plan_op _ (by simp only [List.getElem?_toArray, List.getElem?_cons_zero, List.getElem?_cons_succ]; rfl) (by rfl) (fun K hK => ?_)
      go_simp
      have FG := ((Fr.refl (fun _ => False) W0).alloc (.cells #[.int .i64 0, .int .i64 0, .int .i64 0, .string ⟨#[]⟩] 200)).drew
      refine hK _ _ FG ?_
      clear hK K
      try simp only [Act.put, List.setIfInBounds_toArray, List.set_cons_zero, List.set_cons_succ]
      refine plan_op _ (by simp only [List.getElem?_toArray, List.getElem?_cons_zero, List.getElem?_cons_succ]; rfl) (by rfl) (fun K hK => ?_)
      go_simp
      have FA2 := ((Fr.refl (fun _ => False) W0).alloc (.cells #[.int .i64 (IntKind.i64.wrap x0), .int .i64 (IntKind.i64.wrap z3), .int .i64 (IntKind.i64.wrap z2), .string (strOfNums ((bs.drop 15).take z1))] 200)).drew
      refine hK _ _ FA2 ?_
      clear hK K
      refine plan_done ?_
      refine NoPanic.normal ?_
      try simp only [Act.put, List.setIfInBounds_toArray, List.set_cons_zero, List.set_cons_succ]
    rotate_left
    focus
      try simp only [Act.put, List.setIfInBounds_toArray, List.set_cons_zero, List.set_cons_succ]
      refine plan_op _ (by simp only [List.getElem?_toArray, List.getElem?_cons_zero, List.getElem?_cons_succ]; rfl) (by rfl) (fun K hK => ?_)
      go_simp
      have FG := ((Fr.refl (fun _ => False) W0).alloc (.cells #[.int .i64 0, .int .i64 0, .int .i64 0, .string ⟨#[]⟩] 200)).drew
      refine hK _ _ FG ?_
      clear hK K
      try simp only [Act.put, List.setIfInBounds_toArray, List.set_cons_zero, List.set_cons_succ]
      refine plan_op _ (by simp only [List.getElem?_toArray, List.getElem?_cons_zero, List.getElem?_cons_succ]; rfl) (by rfl) (fun K hK => ?_)
      go_simp
      refine (of_any (byts_midY (HB0.out.fr FG (fun _ _ _ h => h)) 3 4 (by omega)).by_ (HM.out _ _) (by omega)).mono ?_
      rintro _ _ ⟨z3, rfl, hz3, rfl⟩
      have hz3' : z3 < 4294967296 := hz3
      clear hz3
      try go_simp
      refine hK _ _ FG ?_
      clear hK K
      try simp only [Act.put, List.setIfInBounds_toArray, List.set_cons_zero, List.set_cons_succ]
      refine plan_rd _ ?_ (by simp only [List.getElem?_toArray, List.getElem?_cons_zero, List.getElem?_cons_succ]; rfl) (by rfl) ?_ ?_
      rotate_left
      · intro V hV
        obtain ⟨c0, c1⟩ := HC.out V hV
        go_simp
        try with_reducible rfl
      try simp only [Act.put, List.setIfInBounds_toArray, List.set_cons_zero, List.set_cons_succ]
      refine plan_rd _ ?_ (by simp only [List.getElem?_toArray, List.getElem?_cons_zero, List.getElem?_cons_succ]; rfl) (by rfl) ?_ ?_
      rotate_left
      · intro V hV
        obtain ⟨c0, c1⟩ := HC.out V hV
        go_simp
        try with_reducible rfl
      try simp only [Act.put, List.setIfInBounds_toArray, List.set_cons_zero, List.set_cons_succ]
      refine plan_op _ (by simp only [List.getElem?_toArray, List.getElem?_cons_zero, List.getElem?_cons_succ]; rfl) (by rfl) (fun K hK => ?_)
      go_simp
      have FA2 := ((Fr.refl (fun _ => False) W0).alloc (.cells #[.int .i64 (IntKind.i64.wrap x0), .int .i64 (IntKind.i64.wrap z3), .int .i64 (IntKind.i64.wrap z2), .string (strOfNums ((bs.drop 15).take z1))] 200)).drew
      refine hK _ _ FA2 ?_
      clear hK K
      refine plan_done ?_
      refine NoPanic.normal ?_
      try simp only [Act.put, List.setIfInBounds_toArray, List.set_cons_zero, List.set_cons_succ]
    all_goals
      have hsz : (strOfNums ((bs.drop 15).take z1)).size ≤ n - 19 := by
        have e : (strOfNums ((bs.drop 15).take z1)).size = ((bs.drop 15).take z1).length := by simp [strOfNums, ByteArray.size]
        rw [e, List.length_take]; omega
      have hbx : ((W0.alloc (.cells #[.int .i64 (IntKind.i64.wrap x0), .int .i64 (IntKind.i64.wrap z3), .int .i64 (IntKind.i64.wrap z2), .string (strOfNums ((bs.drop 15).take z1))] 200)).drew).heap[W0.heap.size]? = some (.cells #[.int .i64 (IntKind.i64.wrap x0), .int .i64 (IntKind.i64.wrap z3), .int .i64 (IntKind.i64.wrap z2), .string (strOfNums ((bs.drop 15).take z1))] 200) := heap_alloc_new W0 _
      have hrs : W0.heap[w.heap.size]? = some (.cells #[.int .i64 0, .int .i64 0, .int .i64 0, .string ⟨#[]⟩] 200) := by rw [HW.out]; exact heap_alloc_new w _
      have hrs2 := FA2.heap hrs (fun h => h)
      have hbv2 := HB0.out.fr FA2 (fun _ _ _ h => h)
      have F02 := HF0.out.trans FA2 (fun _ _ h => h)
      have hlt2 : w.heap.size < W0.heap.size := lt_of_heap hrs
      obtain ⟨str, hstr⟩ : ∃ str, strOfNums ((bs.drop 15).take z1) = str := ⟨_, rfl⟩
      obtain ⟨kd, hkd⟩ : ∃ kd, IntKind.i64.wrap x0 = kd := ⟨_, rfl⟩
      obtain ⟨pl, hpl⟩ : ∃ pl, IntKind.i64.wrap (z3 : Int) = pl := ⟨_, rfl⟩
      obtain ⟨st, hst⟩ : ∃ st, IntKind.i64.wrap (z2 : Int) = st := ⟨_, rfl⟩
      rw [hstr] at hsz hbx hrs2 hbv2 F02 ⊢
      rw [hkd, hpl, hst] at hbx hrs2 hbv2 F02 ⊢
      obtain ⟨W1, hW1⟩ : ∃ W1, W1 = (W0.alloc (.cells #[.int .i64 kd, .int .i64 pl, .int .i64 st, .string str] 200)).drew := ⟨_, rfl⟩
      rw [← hW1] at hbx hrs2 hbv2 F02 ⊢
      obtain ⟨q, hq⟩ : ∃ q, W0.heap.size = q := ⟨_, rfl⟩
      rw [hq] at hbx hlt2 ⊢
      have HX := hid (And.intro hbx (And.intro hrs2 (And.intro hbv2 (And.intro F02 hlt2))))
      obtain ⟨c1, c2, c3⟩ := leaf_cells hbx
      have c0 : W1.cell? ⟨q, 0, none⟩ = some (.int .i64 kd) := by simpa using cell_of_heap hbx 0
      clear hbx hrs hrs2 hbv2 F02 hlt2 hstr hkd hpl hst hW1 hq FA2 FG HC hc0 hb' s3 s4
      go_wp2_with (go_at_call 176; (with_reducible refine (build_any n kd pl st str hn hsz _).mono ?_))
      rintro e W2 ⟨v, k, m, rfl, hm, bs2, ⟨hb2, ho2⟩, F2⟩
      obtain ⟨a2, cc2, rfl, hbv⟩ := byv_of_own ho2
      have k1 := conv_byt hbv
      have k2 := conv_byt (HX.out.2.2.1.fr F2 (fun _ _ _ h => h))
      have hbx := F2.heap HX.out.1 (fun h => h)
      have hrs := F2.heap HX.out.2.1 (fun h => h)
      have F := HX.out.2.2.2.1.trans F2 (fun _ _ h => h)
      have HE := hid (And.intro F (And.intro hbx hrs))
      clear c0 c1 c2 c3
      obtain ⟨c1, c2, c3⟩ := leaf_cells hbx
      have c0 : W2.cell? ⟨q, 0, none⟩ = some (.int .i64 kd) := by simpa using cell_of_heap hbx 0
      obtain ⟨r1, r2, r3⟩ := leaf_cells hrs
      have r0 : W2.cell? ⟨w.heap.size, 0, none⟩ = some (.int .i64 0) := by simpa using cell_of_heap hrs 0
      have g0 := frozen_of_heap hrs 0
      have g1 := frozen_of_heap hrs 1
      have g2 := frozen_of_heap hrs 2
      have g3 := frozen_of_heap hrs 3
      clear hbx hrs F ho2 hbv hb2 F2
      go_wp2_with fail
      · refine bodyPost_ret (v := .tuple #[.agg #[.int .i64 0, .int .i64 0, .int .i64 0, .string ⟨#[]⟩], .int .i64 5]) (by simp [results, go_sem, *]) rfl ⟨_, _, _, _, _, rfl, ?_⟩
        exact (((HE.out.1.setCell (a := ⟨w.heap.size, 0, none⟩) (fun h => absurd h (Nat.lt_irrefl _)) _).setCell (a := ⟨w.heap.size, 1, none⟩) (fun h => absurd h (Nat.lt_irrefl _)) _).setCell (a := ⟨w.heap.size, 2, none⟩) (fun h => absurd h (Nat.lt_irrefl _)) _).setCell (a := ⟨w.heap.size, 3, none⟩) (fun h => absurd h (Nat.lt_irrefl _)) _
      · refine bodyPost_ret (v := .tuple #[.agg #[.int .i64 kd, .int .i64 pl, .int .i64 st, .string str], .int .i64 0]) (by simp [results, go_sem, *]) rfl ⟨_, _, _, _, _, rfl, ?_⟩
        exact (((HE.out.1.setCell (a := ⟨w.heap.size, 0, none⟩) (fun h => absurd h (Nat.lt_irrefl _)) _).setCell (a := ⟨w.heap.size, 1, none⟩) (fun h => absurd h (Nat.lt_irrefl _)) _).setCell (a := ⟨w.heap.size, 2, none⟩) (fun h => absurd h (Nat.lt_irrefl _)) _).setCell (a := ⟨w.heap.size, 3, none⟩) (fun h => absurd h (Nat.lt_irrefl _)) _
      · refine bodyPost_ret (v := .tuple #[.agg #[.int .i64 0, .int .i64 0, .int .i64 0, .string ⟨#[]⟩], .int .i64 5]) (by simp [results, go_sem, *]) rfl ⟨_, _, _, _, _, rfl, ?_⟩
        exact (((HE.out.1.setCell (a := ⟨w.heap.size, 0, none⟩) (fun h => absurd h (Nat.lt_irrefl _)) _).setCell (a := ⟨w.heap.size, 1, none⟩) (fun h => absurd h (Nat.lt_irrefl _)) _).setCell (a := ⟨w.heap.size, 2, none⟩) (fun h => absurd h (Nat.lt_irrefl _)) _).setCell (a := ⟨w.heap.size, 3, none⟩) (fun h => absurd h (Nat.lt_irrefl _)) _
end Go.Proofs.YtgdhaaokolfdoaaGreatDoor

/- Chapter 13's there: all that counted is read by a store that is opened. Conditions: the device is fixed and has what counted. -/
namespace Go.Proofs.YtgdhaaokolfdoaaGreatDoor
open Go.RowKit Go.Sg Go.Sg.Bits Go.Sg.Clk CP SF
/-- What there does. -/
def ThereP (base d bf bq : Nat) (D : Dev) (w : World) (e : Ending) (w' : World) : Prop := e = .returned (.bool true) ∧ DevAt w' base d bf bq D ∧ FrT base w w'
/-- A store upon a fixed device, some of its pages marked. -/
abbrev openT (gen : Nat) (D : Dev) (L M : List RPg) : Cs := { openY small13 gen D (contL L) with taken := tkL M }
theorem frT_trans {base : Nat} {w w1 w2 : World} (h : FrT base w w1) (k : FrT base w1 w2) : FrT base w w2 :=
  Fr.trans h k fun b hb hs => ⟨hs.1, fun c t f hc => by
    by_cases hx : base ≤ b ∧ Mut w b
    · exact hx.2 c t f hc
    · exact hs.2 c t f (Fr.heap h hc hx)⟩
theorem pg_at {w : World} {L : List RPg} {k lc m st : Nat} {bs : List Int} {la : Option Addr} (h : PgR w (.slice la L.length lc) L) (hk : k < L.length) (hp : L[k] = ⟨m, st, bs⟩) :
    ∃ g, la = some ⟨g, 0, none⟩ ∧ g < w.heap.size ∧ w.cell? ⟨g, k * 3, none⟩ = some (.int .i64 m) ∧ w.cell? ⟨g, k * 3 + 1, none⟩ = some (.int .i64 st) ∧ w.cell? ⟨g, k * 3 + 2, none⟩ = some (.string (strOfNums bs)) := by
  obtain ⟨g, rfl, hgl, c0⟩ := own_cell h (show (L.flatMap pgCells)[k * 3 + 0]? = some (.int .i64 m) by rw [pgs_get _ _ hk _ (by decide), hp]; simp [pgCells])
  obtain ⟨g', eg', -, c1⟩ := own_cell h (show (L.flatMap pgCells)[k * 3 + 1]? = some (.int .i64 st) by rw [pgs_get _ _ hk _ (by decide), hp]; simp [pgCells])
  obtain rfl : g = g' := by cases eg'; rfl
  obtain ⟨g', eg', -, c2⟩ := own_cell h (show (L.flatMap pgCells)[k * 3 + 2]? = some (.string (strOfNums bs)) by rw [pgs_get _ _ hk _ (by decide), hp]; simp [pgCells])
  obtain rfl : g = g' := by cases eg'; rfl
  exact ⟨g, rfl, hgl, c0, c1, c2⟩
set_option maxRecDepth 100000 in
set_option maxHeartbeats 8000000 in
theorem there_ok {w : World} {base d bf bq n lc gen N : Nat} {D : Dev} {P : Prot} {L : List RPg} {la : Option Addr} (hD : DevAt w base d bf bq D) (hb : base ≤ w.heap.size) (hb0 : 0 < base) (hT : Tab w) (hd : DevOk D P false N) (hdn : D.down = false) (hz : D.sectors = 60 ∧ D.size = 96) (hl : D.loose = []) (hN : N ≤ 90000)
    (hK : Kept P L) (hn : L.length = n) (hn6 : n ≤ 65535) (hR : PgR w (.slice la n lc) L) (hg : gen ≤ 1000000) :
    Calls Tryz.prog 44 #[.pointer (some ⟨d, 0, none⟩), .int .i64 gen, .slice la n lc] w (ThereP base d bf bq D w) := by
  have HO := hid (fun (W : World) (F : Fr (fun _ => False) w W) => (show Calls Tryz.prog 30 #[.pointer (some ⟨d, 0, none⟩), small13.val, .int .i64 gen] W (OpenPost base d bf bq small13 gen D W) from by
    have := open_ok (hD.fr F (fun h => h) (fun h => h) (fun h => h) (fun _ _ _ _ _ h => h)) (Nat.le_trans hb F.size) 3 2 4 2 8 0 gen (by omega) (by rw [hz.1, hz.2]; exact small13_fits)
    rw [hz.1, hz.2] at this
    exact this))
  have HOK := hid (fun (W : World) (B : Blk) (F : Fr (fun _ => False) w W) (hS : StoreAt W B (openX small13 gen D)) (e : B.base = base) => open_k (L := L) hS (hT.fr F (fun h => h)) (by rw [e]; exact hb0) hd hdn hN hz.2 hl hK)
  have HR := hid hR
  have HN := hid hn
  have HK := hid hK
  clear hD hb hT hd hdn hz hl hK hn hR
  go_enter Tryz.func44, Tryz.ntmps44
  go_wp2_with fail
  (with_reducible refine (small13_ok _).mono ?_)
  rintro _ w1 ⟨rfl, F1⟩
  go_wp2_with fail
  (with_reducible refine (HO.out _ F1).mono ?_)
  rintro _ w2 ⟨B, ⟨e1, e2, e3, e4⟩, rfl, hS, F2⟩
  have F12 := F1.trans F2 (fun _ _ h => h)
  have HS := hid (show StoreK w2 B (openT gen D L []) D P N from HOK.out w2 B F12 hS e1)
  have HF2 := hid F12
  have HE := hid (And.intro e1 (And.intro e2 (And.intro e3 e4)))
  clear hS F1 F2 F12 e1 e2 e3 e4 HO HOK
  go_wp2_with fail
  go_loopw [9] (fun i wr => ∃ k : Nat, k ≤ n ∧ i = .int .i64 k ∧ StoreK wr B (openT gen D L (L.take k)) D P N ∧ FrT base w wr) (fun i _ => n - (intOf i).toNat)
  case atStart => exact ⟨0, Nat.zero_le _, rfl, HS.out, HF2.out.mono (fun _ _ h => h.elim)⟩
  case round =>
    obtain ⟨k, hk, rfl, hSk, hF⟩ := hrel
    have HS2 := hid hSk
    have HF := hid hF
    clear hSk hF
    by_cases hlt : k < n
    · have hdk : decide ((k : Int) < (n : Int)) = true := by simp; omega
      have hkw : wrap64 ((k : Int) + 1) = ((k + 1 : Nat) : Int) := by simp only [wrap64]; omega
      have hki : (k : Int) < (n : Int) := by omega
      have hkL : k < L.length := by rw [HN.out]; exact hlt
      obtain ⟨p, hp⟩ : ∃ p, L[k] = p := ⟨_, rfl⟩
      have hpL : p ∈ L := by rw [← hp]; exact List.getElem_mem _
      obtain ⟨m, st, e1, e2, hc, hP⟩ := HK.out.1 p hpL
      obtain ⟨pg, ps, bs⟩ := p
      simp only at e1 e2 hc hP
      subst e1 e2
      have hm := hc.1.2
      have hrow : PgR wr (.slice la L.length lc) L := by rw [HN.out]; exact FrT.own HR.out (by decide) HF.out
      have HPG := hid (fun W (h : PgR W (.slice la L.length lc) L) => pg_at h hkL hp)
      obtain ⟨g, rfl, hgl, c0, c1, c2⟩ := HPG.out _ hrow
      have htk : L.take (k + 1) = L.take k ++ [(⟨m, st, bs⟩ : RPg)] := by rw [List.take_add_one, List.getElem?_eq_getElem hkL, hp]; rfl
      have hnd : ((L.take k ++ [(⟨m, st, bs⟩ : RPg)]).map (·.page)).Nodup := by rw [← htk]; exact List.Nodup.sublist ((List.take_sublist _ _).map _) HK.out.2
      have hfree := tkL_new (m := m) rfl hnd
      have hcont := contL_at HK.out.2 hpL
      have HX := hid (And.intro htk (And.intro hfree hcont))
      clear hp hpL hc hP htk hnd hfree hcont
      go_wp2_with fail
      (with_reducible refine (ref13_p ⟨m, st, bs⟩ _).mono ?_)
      rintro _ W1 ⟨rfl, F1⟩
      have HM := hid (mark_k (HS2.out.fr0 F1) m st (by show m < (layM small13).pages.toNat; have : (layM small13).pages.toNat = 48 := by decide +kernel
                                                       omega) HX.out.2.1)
      have hrow1 := own_none hrow F1
      have FT1 := frT_trans HF.out (F1.mono fun _ _ h => h.elim)
      have H1 := hid (And.intro hrow1 FT1)
      clear hrow hrow1 FT1 F1
      go_wp2_with fail
      refine HM.out.mono ?_
      rintro _ W2 ⟨rfl, hS2, F2⟩
      rw [tkL_snoc (L.take k) ⟨m, st, bs⟩ rfl, ← HX.out.1] at hS2
      have hrow2 := own_frB H1.out.1 (by decide) F2
      have FT2 := frT_trans H1.out.2 (by have := frB_frT F2; rw [HE.out.1] at this; exact this)
      have HS3 := hid (show StoreK W2 B (openT gen D L (L.take (k + 1))) D P N from hS2)
      have H2 := hid (And.intro hrow2 FT2)
      clear hS2 FT2 F2 HM H1 hgl c0 c1 c2
      obtain ⟨g', eg', hgl, c0, c1, c2⟩ := HPG.out _ hrow2
      obtain rfl : g = g' := by cases eg'; rfl
      clear eg' hrow2
      go_wp2_with fail
      (with_reducible refine (ref13_p ⟨m, st, bs⟩ _).mono ?_)
      rintro _ W3 ⟨rfl, F3⟩
      have HRd := hid (read_k (HS3.out.fr0 F3) m st (load := bs) HX.out.2.2)
      have H3 := hid (And.intro (own_none H2.out.1 F3) (frT_trans H2.out.2 (F3.mono fun _ _ h => h.elim)))
      clear F3 H2
      go_wp2_with fail
      refine HRd.out.mono ?_
      rintro _ W4 ⟨ra, rc, rfl, hbv, hS4, F4⟩
      have hrow4 := own_frB H3.out.1 (by decide) F4
      have HS4 := hid hS4
      have FT4 := hid (frT_trans H3.out.2 (by have := frB_frT F4; rw [HE.out.1] at this; exact this))
      clear hS4 F4 HRd H3 hgl c0 c1 c2
      obtain ⟨g', eg', hgl, c0, c1, c2⟩ := HPG.out _ hrow4
      obtain rfl : g = g' := by cases eg'; rfl
      have HC := hid (fun V (F : Fr (fun _ => False) W4 V) => And.intro ((F.cell (p := ⟨g, k * 3 + 2, none⟩) hgl (fun h => h)).trans c2) (conv_byt (hbv.fr F (fun _ _ _ h => h))))
      have FD := (Fr.refl (fun _ => False) W4).drew
      clear eg' hrow4 hbv c0 c1 c2
      go_upto_region 10 with fail
      refine wp_region_noPanic ?_
      refine region_plan (fun V => Fr (fun _ => False) W4 V) (.rd 0 (.rd 1 (.rd 2 (.rd 3 (.rd 4 (.rd 5 (.rd 6 (.rd 7 (.rd 8 (.rd 9 (.rd 10 (.rd 11 .done)))))))))))) (by kernel_rfl) (by kernel_rfl) (by kernel_rfl) (fun _ _ _ _ _ h => h) FD ?_
      iterate 12
        try simp only [Act.put, List.setIfInBounds_toArray, List.set_cons_zero, List.set_cons_succ]
        refine plan_rd _ ?_ (by simp only [List.getElem?_toArray, List.getElem?_cons_zero, List.getElem?_cons_succ]; rfl) (by rfl) ?_ ?_
        rotate_left
        · intro V hV
          obtain ⟨e1, e2⟩ := HC.out V hV
          go_simp
          try with_reducible rfl
      refine plan_done ?_
      refine NoPanic.normal ?_
      try simp only [Act.put, List.setIfInBounds_toArray, List.set_cons_zero, List.set_cons_succ]
      go_wp2_with fail
      go_roundw
      case rel => exact ⟨k + 1, hlt, by go_num, HS4.out.fr0 (Fr.refl _ _).drew, frT_trans FT4.out ((Fr.refl _ _).drew)⟩
      case measure => simp [intOf]; omega
    · obtain rfl : k = n := by omega
      have hdk : decide ((k : Int) < (k : Int)) = false := by simp
      have HPc := parts_c (HS2.out.c ⟨fun k hk => (by cases hk), fun k hk => (by cases hk), fun k hk => (by cases hk), fun k hk => (by cases hk), fun k hk => by cases hk⟩)
      go_wp2_with fail
      refine HPc.mono ?_
      rintro _ W9 ⟨v0, v1, v2, v3, L1, L2, L3, rfl, ⟨u0, x0, rfl, -⟩, ⟨u1, x1, rfl, -⟩, ⟨u2, x2, rfl, -⟩, ⟨u3, x3, rfl, -⟩, -, F9⟩
      have hlen : (tu (openT gen D L (L.take k)).taken (openT gen D L (L.take k)).pages).length = k := by
        have hp : (layM small13).pages.toNat = 48 := by decide +kernel
        show (tu (tkL (L.take k)) (layM small13).pages.toNat).length = k
        rw [hp, List.take_of_length_le (Nat.le_of_eq HN.out), tkL_len HK.out.2 (fun p hp => by
          obtain ⟨m, st, e1, e2, hc, hP⟩ := HK.out.1 p hp
          exact ⟨m, e1, by have := hc.1.2; omega⟩), HN.out]
      rw [hlen]
      have HF9 := hid (frT_trans HF.out (F9.mono fun _ _ h => h.elim))
      have HS9 := hid (HS2.out.fr0 F9)
      clear F9 HPc hlen
      have hfd : ∀ (v0 v1 v2 v3 : Value) W, (Instr.field 54 (.agg #[v0, v1, v2, v3]) 0).run Tryz.prog W = .ok v0 W := fun _ _ _ _ W => by kernel_rfl
      go_wp2_with fail
      go_ret
      have hd9 := HS9.out.devAt
      obtain ⟨e1, e2, e3, e4⟩ := HE.out
      rw [e1, e2, e3, e4] at hd9
      exact ⟨rfl, hd9, HF9.out⟩
end Go.Proofs.YtgdhaaokolfdoaaGreatDoor

/- A range over a function whose body never leaves it, and whose iterator may itself range over another one. Conditions: none. -/
namespace Go.Sg
open Go.RowKit
variable {F : Fence} {n : Nat} {P : Program}
/-- An iterator's contract: R is what its own steps do; T what it tells of what it hands over; Kp what the body keeps. -/
def SeqAll {α : Type} (F : Fence) (n : Nat) (P : Program) (g : Nat) (lb : Array Value) (encs : α → Array Value) (T : α → World → Prop) (R Kp : World → World → Prop) (S : List α → Prop) (N : Nat) (w : World) : Prop :=
  ∀ (l : Nat) (J : List α → World → Prop) (W : World), Below w.heap.size w W → OwnFrom W.heap.size J → (∀ pre A C, J pre A → R A C → J pre C) →
    (∀ pre x W1, J pre W1 → T x W1 → pre.length < N → YieldAt F (n - 1) P l (encs x) W1 fun e W' => e = .returned (.bool true) ∧ J (pre ++ [x]) W' ∧ Kp W1 W') →
    J [] W → CallsIn F n P g (#[.func (.yield l) #[] #[]] ++ lb) W fun e W' => (∃ v, e = .returned v) ∧ ∃ xs, S xs ∧ J xs W'
/-- How a body that never leaves ends. -/
def normEnds {α : Type} (B : Nat) (Kp : World → World → Prop) (I : List α → World → Prop) (xs : List α) (W : World) : Exit → Act → World → Prop
  | .normal, _, W' => KeepsFrom B W W' ∧ Kp W W' ∧ I xs W'
  | _, _, _ => False
theorem round_any {l l' k k' : Nat} {f : FuncId} {tmps : Array Value} {assign body : Code} {w : World} {R : Ending → World → Prop} (h : RoundIn Fence.wide k P l f tmps assign body w R) : RoundIn (Fence.wide.inRound l') k' P l f tmps assign body w R :=
  ⟨trivial, fun c cs _ => h.2 c cs (room_wide _)⟩
/-- The statement, its loop an outermost one. -/
theorem wpIn_range_all {α : Type} {g : Operand} {ps : Array Tmp} {assign body : Code} {Q : Exit → Act → World → Prop} {a : Act} {w : World}
    (hro : F.round = none) (h1 : 1 ≤ n) {gf : Nat} {lb : Array Value} (hg : a.eval g = .func (.func gf) #[] lb) (hFg : F.fn gf) (eg : ∀ args w, (callFunc gf args).run P w = .ok (.enter gf args) w)
    {encs : α → Array Value} {R Kp : World → World → Prop} {S : List α → Prop} {N : Nat} {w0 : World} {T : α → World → Prop} (I : List α → World → Prop) (hseq : SeqAll F (n - 1) P gf lb encs T R Kp S N w0)
    (hIR : ∀ pre A C, I pre A → R A C → I pre C) (hRk : ∀ A C b o, R A C → w.heap.size ≤ b → A.heap[b]? = some o → o.isCells = false → C.heap[b]? = some o)
    (hKt : ∀ {A B C : World}, Kp A B → Kp B C → Kp A C) (hKb : ∀ (W : World) (l : Nat) (o o' : Obj), l = w.heap.size + 1 → W.heap[l]? = some o → o.isCells = false → o.isWalk = false → Kp W (W.putObj l o'))
    (hb0 : Below w0.heap.size w0 w) (hps : ∀ x, (encs x).size = ps.size)
    (hI : OwnFrom w.heap.size I) (h0 : I [] w) (Ax : α → Act → World → Prop) (hAx : ∀ x a', OwnFrom w.heap.size (fun (_ : Unit) W => Ax x a' W))
    (hassign : ∀ (l : Nat) (pre : List α) (x : α) (W : World) (K : Act → World → Prop), I pre W → T x W → (∀ a' W', KeepsFrom w.heap.size W W' → Kp W W' → I pre W' → Ax x a' W' → K a' W') →
      assign.wpIn (F.inRound l) (n - 1 - 1) P (Exit.then K (fun _ _ _ => False)) { tmps := (ps.zip (encs x)).foldl (fun t (p, v) => t.setIfInBounds p v) a.tmps, defers := [] } W)
    (hbody : ∀ (l : Nat) (pre : List α) (x : α) (a' : Act) (W : World), w.heap.size ≤ l → (∃ r, W.heap[l]? = some (.loop r)) → I pre W → Ax x a' W → pre.length < N → body.wpIn (F.inRound l) (n - 1 - 1) P (normEnds w.heap.size Kp I (pre ++ [x]) W) a' W)
    (hdone : ∀ (D : Nat) (xs : List α) (W : World), w.heap.size ≤ D → S xs → I xs W → W.heap[D]? = some (.deferred (some [])) → Q .normal { a with defers := { target := .collected D, args := #[] } :: a.defers } W) :
    (Code.rangeFunc g ps assign body).wpIn F n P Q a w := by
  refine wpIn_rangeFunc fun fn hfn => ?_
  rw [hro]
  -- the loop's record, in whatever state
  let rec_ : LoopState → Option Code → Loop := fun st pe => { state := st, pending := pe, fn, tmps := a.tmps, params := ps, assign, body, defers := w.heap.size }
  obtain ⟨rd, hrd⟩ : ∃ rd, rd = rec_ := ⟨_, rfl⟩
  have rst : ∀ st pe, (rd st pe).state = st := fun st pe => by rw [hrd]
  have rpe : ∀ st pe, (rd st pe).pending = pe := fun st pe => by rw [hrd]
  obtain ⟨L, hL⟩ : ∃ L, L = w.heap.size + 1 := ⟨_, rfl⟩
  obtain ⟨W1, hW1⟩ : ∃ W1, (w.alloc (.deferred (some []))).alloc (.loop (rd .ready none)) = W1 := ⟨_, rfl⟩
  obtain ⟨hD1, hL1, F1⟩ := heap_two hW1
  rw [← hL] at hL1
  have hI1 : I [] W1 := by rw [← hW1]; exact hI.alloc _ (hI.alloc _ h0)
  have hb1 : Below w0.heap.size w0 W1 := by
    refine hb0.trans ((Fr.below (S := fun _ => False) F1 (fun _ _ h => h)).mono hb0.size)
  have hs1 : W1.heap.size = w.heap.size + 2 := by rw [← hW1]; simp
  refine ⟨L, [{ target := .collected w.heap.size, args := #[] }], W1, { target := .fn (.func gf) lb, args := #[.func (.yield L) #[] #[]] }, W1, gf, #[.func (.yield L) #[] #[]] ++ lb, W1, ?_, ?_, ?_, ?_, fun _ => h1, ?_⟩
  · rw [← hW1, hL, hrd]; exact run_enterLoop_outer _ _ _ _ _
  · simp only [resolve, hg]
    simp [go_sem]
  · intro f' hf'; simp [Target.leads] at hf'; subst hf'; exact hFg
  · simp [invoke, go_sem, eg]
  -- what the two blocks of the loop's own hold
  have hwalk : ∀ {A : World} {row : Option Nat}, (∀ r, row = some r → W1.heap.size ≤ r ∧ ∃ o : Obj, A.heap[r]? = some o ∧ o.isCells = false) → (∀ r, row = some r → w.heap.size ≤ r ∧ ∃ o : Obj, A.heap[r]? = some o ∧ o.isCells = false) :=
    fun hr r e => by obtain ⟨hB, h⟩ := hr r e; exact ⟨by omega, h⟩
  have hold : ∀ {A B : World} {row : Option Nat} {b : Nat} {o : Obj}, A.grownBy B row → (∀ r, row = some r → W1.heap.size ≤ r ∧ ∃ o : Obj, A.heap[r]? = some o ∧ o.isCells = false) → b < W1.heap.size → A.heap[b]? = some o → B.heap[b]? = some o :=
    fun hg' hr hb ho => (hg'.block _ (lt_of_heap ho) (fun e => by have := (hr _ e.symm).1; omega)).trans ho
  have hY : ∀ pre x W, (I pre W ∧ W.heap[L]? = some (.loop (rd .ready none)) ∧ W.heap[w.heap.size]? = some (.deferred (some []))) → T x W → pre.length < N →
      YieldAt F (n - 1 - 1) P L (encs x) W fun e W' => e = .returned (.bool true) ∧ (I (pre ++ [x]) W' ∧ W'.heap[L]? = some (.loop (rd .ready none)) ∧ W'.heap[w.heap.size]? = some (.deferred (some []))) ∧ Kp W W' := by
    rintro pre x W ⟨hi, hl, hk⟩ hT hlen
    have hy := run_yield (P := P) (args := encs x) hl (by rw [hrd]; exact hps x)
    rw [hrd] at hy
    refine ⟨fn, _, assign, body, hy, roundIn_of_wpIn hfn (hassign _ pre x W _ hi hT fun a' Wa hka hkp hia hax => ?_)⟩
    have hla := hka.same _ _ (by omega) hl rfl
    have hka' := hka.same _ _ (Nat.le_refl _) hk rfl
    have hlt : L < Wa.heap.size := lt_of_heap hla
    refine ⟨_, run_beginRound hla (rst _ _), ?_⟩
    obtain ⟨busy, hbusy⟩ : ∃ busy : Loop, { rd .ready none with state := .busy } = busy := ⟨_, rfl⟩
    rw [hbusy]
    have hl2 : (Wa.putObj L (.loop busy)).heap[L]? = some (.loop busy) := World.putObj_heap_same hlt
    have hk2 : (Wa.putObj L (.loop busy)).heap[w.heap.size]? = some (.deferred (some [])) := (World.putObj_heap_other (by omega)).trans hka'
    refine wpIn_mono (hbody _ pre x a' _ (by omega) ⟨_, hl2⟩ (hI.putObj _ hia (by omega) hla rfl) ((hAx x a').putObj (s := ()) _ hax (by omega) hla rfl) hlen) ?_
    have fin : ∀ (jump : Option Code) (W3 : World), KeepsFrom w.heap.size (Wa.putObj L (.loop busy)) W3 →
        (Instr.endRound L jump).run P W3 = .ok (.bool jump.isNone) (W3.putObj L (.loop (rd (if jump.isNone then .ready else .done) jump))) ∧ W3.heap[L]? = some (.loop busy) ∧
        (W3.putObj L (.loop (rd (if jump.isNone then .ready else .done) jump))).heap[L]? = some (.loop (rd (if jump.isNone then .ready else .done) jump)) ∧
        (W3.putObj L (.loop (rd (if jump.isNone then .ready else .done) jump))).heap[w.heap.size]? = some (.deferred (some [])) := fun jump W3 hk3 => by
      have hl3 := hk3.same _ _ (by omega) hl2 rfl
      refine ⟨?_, hl3, World.putObj_heap_same (lt_of_heap hl3), (World.putObj_heap_other (by omega)).trans (hk3.same _ _ (Nat.le_refl _) hk2 rfl)⟩
      have := run_endRound (P := P) jump hl3
      rw [← hbusy, hrd] at this
      rw [hrd]
      exact this
    have hw2 : Kp Wa (Wa.putObj L (.loop busy)) := hKb _ _ _ _ (by omega) hla rfl rfl
    rintro e a3 W3 hp
    cases e with
    | normal =>
      obtain ⟨hk3, hkp3, hi3⟩ := hp
      obtain ⟨hr, hl3, hl4, hk4⟩ := fin none W3 hk3
      exact ⟨_, _, hr, rfl, ⟨hI.putObj _ hi3 (by omega) hl3 rfl, hl4, hk4⟩, hKt hkp (hKt (hKt hw2 hkp3) (hKb _ _ _ _ (by omega) hl3 rfl rfl))⟩
    | ret => exact hp.elim
    | exit id => exact hp.elim
    | goto t => exact hp.elim
    | panic ch => exact hp.elim
    | outgrown => exact hp.elim
  have hcall := hseq L (fun pre W => I pre W ∧ W.heap[L]? = some (.loop (rd .ready none)) ∧ W.heap[w.heap.size]? = some (.deferred (some []))) W1 hb1
    (fun s A B row hs hg' hr => ⟨hI s A B row hs.1 hg' (hwalk hr), hold hg' hr (by omega) hs.2.1, hold hg' hr (by omega) hs.2.2⟩)
    (fun pre A C hj hR => ⟨hIR pre A C hj.1 hR, hRk A C _ _ hR (by omega) hj.2.1 rfl, hRk A C _ _ hR (Nat.le_refl _) hj.2.2 rfl⟩)
    hY ⟨hI1, hL1, hD1⟩
  refine hcall.mono ?_
  rintro e W2 ⟨⟨v, rfl⟩, xs, hS, hi, hl, hk⟩
  have hr := run_endLoop (P := P) hl (by rw [rst]; simp)
  rw [rpe] at hr
  exact ⟨none, _, hr, hdone _ xs _ (Nat.le_refl _) hS (hI.putObj _ hi (by omega) hl rfl) ((World.putObj_heap_other (by omega)).trans hk)⟩
theorem marks_end0 {k : Nat} {fn : Func} {R : Ending → World → Prop} {tmps : Array Value} {D : Nat} {W : World} (h : fn.results = #[]) (hK : W.heap[D]? = some (.deferred (some [])))
    (hR : R (.returned (.tuple #[])) (W.putObj D (.deferred none))) : bodyPostM Fence.wide k P fn R .normal { tmps := tmps, defers := [{ target := .collected D, args := #[] }] } W :=
  ⟨by simp, .inl ⟨_, _, rfl, run_takeDeferred hK, _, results_none h _ _ _, hR⟩⟩
end Go.Sg

/- slices.Backward over the rows that a sector was given: the iterator. Conditions: the row lies in the world as ownsRow says. -/
namespace Go.Proofs.YtgdhaaokolfdoaaGreatDoor
open Go.RowKit Go.Sg Go.Shelf
attribute [local go_sem] Oper.semAt_some
/-- A slice. -/
structure Sw where
  la : Option Addr
  ll : Nat
  lc : Nat
abbrev Sw.v (x : Sw) : Value := .slice x.la x.ll x.lc
def bkS (ws : List Sw) (k : Nat) : List (Nat × Sw) := (List.range k).map fun j => (ws.length - 1 - j, ws.getD (ws.length - 1 - j) ⟨none, 0, 0⟩)
theorem bkS_succ (ws : List Sw) (k : Nat) : bkS ws (k + 1) = bkS ws k ++ [(ws.length - 1 - k, ws.getD (ws.length - 1 - k) ⟨none, 0, 0⟩)] := by
  simp [bkS, List.range_succ]
theorem bkS_len (ws : List Sw) (k : Nat) : (bkS ws k).length = k := by simp [bkS]
theorem bkS_prefix (ws : List Sw) {a b : Nat} (h : a ≤ b) : bkS ws a <+: bkS ws b := by
  induction b with
  | zero =>
    obtain rfl : a = 0 := by omega
    exact List.prefix_rfl
  | succ b ih =>
    by_cases hk : a = b + 1
    · subst hk; exact List.prefix_rfl
    · rw [bkS_succ]; exact (ih (by omega)).trans (List.prefix_append _ _)
theorem backS_any (a : Option Addr) (n c : Nat) (w : World) :
    Calls Tryz.prog 235 #[.slice a n c] w fun e w' => e = .returned (.func (.func 271) #[] #[.pointer (some ⟨w.heap.size, 0, none⟩)]) ∧ w.alloc (.cells #[.slice a n c] 203) = w' := by
  go_enter Tryz.func235, Tryz.ntmps235
  go_wp2
  go_ret
  exact ⟨rfl, rfl⟩
/-- A row with its place, of which something is known. -/
abbrev SwOk (ok : Nat → Sw → Prop) := { p : Nat × Sw // ok p.1 p.2 }
abbrev encS {ok : Nat → Sw → Prop} (x : SwOk ok) : Array Value := #[.int .i64 x.1.1, .slice x.1.2.la x.1.2.ll x.1.2.lc]
theorem own_cellS {w : World} {base : Nat} {a : Option Addr} {c : Nat} {ws : List Sw} (h : w.ownsRow base 22 1 (.slice a ws.length c) ws.length (ws.map Sw.v)) {j : Nat} {x : Sw} (hx : ws[j]? = some x) :
    ∃ g cur, a = some ⟨g, 0, none⟩ ∧ w.heap[g]? = some (.cells cur 22) ∧ cur[j]? = some (Value.slice x.la x.ll x.lc) := by
  obtain ⟨hl, ⟨h1, h2⟩ | ⟨g, cap, cur, h1, _, hg, _, _, _, ht⟩⟩ := h
  · have := (List.getElem?_eq_some_iff.1 hx).1; omega
  · cases h1
    have k0 : (ws.map Sw.v)[j]? = some x.v := by rw [List.getElem?_map, hx]; rfl
    have hj := (List.getElem?_eq_some_iff.1 hx).1
    rw [← ht] at k0
    rw [List.getElem?_take, if_pos (by omega)] at k0
    exact ⟨g, cur, rfl, hg, by simpa using k0⟩
set_option maxRecDepth 100000 in
set_option maxHeartbeats 2000000 in
theorem backS_stops {ok : Nat → Sw → Prop} {w : World} {base bx : Nat} {a : Option Addr} {c : Nat} {ws : List Sw} (h : w.ownsRow base 22 1 (.slice a ws.length c) ws.length (ws.map Sw.v)) (hlen : ws.length ≤ 100000) (hok : ∀ i x, ws[i]? = some x → ok i x) (hx : w.heap[bx]? = some (.cells #[.slice a ws.length c] 203)) :
    SeqStopsK Fence.wide 9 Tryz.prog 271 #[.pointer (some ⟨bx, 0, none⟩)] (encS (ok := ok)) (KpB bx a) (fun xs => xs.map (·.1) = bkS ws ws.length) (fun pre => pre.map (·.1) <+: bkS ws ws.length) ws.length w := fun l J Jx W hW hJ _ hY h0 => by
  have hbx := lt_of_heap hx
  have hx' := (hW.block bx hbx).trans hx
  have hcl : ∀ (j : Nat) (x : Sw), ws[j]? = some x → ∃ g cur, a = some ⟨g, 0, none⟩ ∧ W.heap[g]? = some (.cells cur 22) ∧ cur[j]? = some (Value.slice x.la x.ll x.lc) := fun j x hj => by
    obtain ⟨g, cur, e, hg, r⟩ := own_cellS h hj
    exact ⟨g, cur, e, (hW.block g (lt_of_heap hg)).trans hg, r⟩
  have HCL := hid hcl
  have HX := hid hx'
  have cx := cell_of_heap hx' 0
  simp at cx
  clear hx hW h hcl hx'
  refine callsIn_of_wp Tryz.func271 rfl trivial ?_ rfl
  simp only [Tryz.ntmps271, List.size_toArray, List.length_cons, List.length_nil, Nat.reduceAdd, Nat.reduceSub, Array.replicate_succ, Array.replicate_zero, List.push_toArray, List.append_toArray, List.nil_append, List.cons_append]
  gi_wp2
  gi_loopw [3] (fun i wr => ∃ k : Nat, k ≤ ws.length ∧ i = .int .i64 ((ws.length : Int) - 1 - k) ∧ (∃ pre : List (SwOk ok), pre.map (·.1) = bkS ws k ∧ J pre wr) ∧ KpB bx a W wr) (fun i _ => (intOf i + 1).toNat)
  case atStart => exact ⟨0, Nat.zero_le _, by simp, ⟨[], rfl, h0⟩, rfl, fun _ _ => rfl⟩
  case round =>
    obtain ⟨k, hk, rfl, ⟨pre, hpre, hJs⟩, hkp⟩ := hrel
    have HPRE := hid hpre
    have hplen : pre.length = k := by have := congrArg List.length hpre; rw [bkS_len] at this; simpa using this
    have HPL := hid hplen
    clear hpre hplen
    have cb := cell_of_heap (hkp.1.trans HX.out) 0
    simp at cb
    by_cases hlt : k < ws.length
    · obtain ⟨j, hj⟩ : ∃ j : Nat, ws.length = j + 1 + k := ⟨ws.length - 1 - k, by omega⟩
      have ej : (ws.length : Int) - 1 - k = (j : Int) := by omega
      obtain ⟨x, hx⟩ : ∃ x, ws[j]? = some x := ⟨_, List.getElem?_eq_getElem (by omega)⟩
      obtain ⟨g, cur, rfl, hg, h1⟩ := HCL.out j x hx
      have hg' := (hkp.2 g rfl).trans hg
      have c1 : wr.cell? ⟨g, j, none⟩ = some (.slice x.la x.ll x.lc) := (cell_of_heap hg' j).trans h1
      have hs : bkS ws (k + 1) = bkS ws k ++ [(j, x)] := by
        rw [bkS_succ, show ws.length - 1 - k = j by omega]
        simp [List.getD, hx]
      have HS := hid hs
      have HOK := hok j x hx
      have HK := hid hkp
      have HEJ := hid ej
      have HJL := hid hj
      rw [ej]
      obtain ⟨xa, xl, xc⟩ := x
      clear hs hg hg' h1 hx hkp ej hj
      obtain ⟨fn, tmps, assign, body, hy, hR⟩ := hY _ ⟨(j, ⟨xa, xl, xc⟩), HOK⟩ wr hJs (by rw [HPL.out]; exact hlt)
      dsimp only [encS] at hy
      have hj0 : j < ws.length := by have := HJL.out; omega
      gi_wp2
      refine hR.mono ?_
      rintro e W3 (⟨rfl, hJ3, hk3⟩ | ⟨rfl, hJx3⟩)
      · have HJ3 := hid hJ3
        have HK3 := hid hk3
        clear hJ3 hk3
        gi_wp2
        go_roundw
        case rel => exact ⟨k + 1, by omega, by have := HEJ.out; go_num, ⟨_, by rw [HS.out, List.map_append, HPRE.out]; rfl, HJ3.out⟩, HK3.out.1.trans HK.out.1, fun g' e => (HK3.out.2 g' e).trans (HK.out.2 g' e)⟩
        case measure => simp [intOf]
      · have HJX := hid hJx3
        clear hJx3
        gi_wp2
        refine bodyPost_ret (results_none rfl _ _ _) rfl ?_
        exact ⟨⟨_, rfl⟩, .inr ⟨_, (by have := bkS_prefix ws (a := k + 1) (b := ws.length) (by have := HJL.out; omega); rw [HS.out] at this; rw [List.map_append, HPRE.out]; exact this), HJX.out⟩⟩
    · obtain rfl : k = ws.length := by omega
      have e1 : (ws.length : Int) - 1 - (ws.length : Int) = -1 := by omega
      rw [e1]
      gi_wp2
      go_end0
      exact ⟨⟨_, rfl⟩, .inl ⟨_, HPRE.out, hJs⟩⟩
end Go.Proofs.YtgdhaaokolfdoaaGreatDoor

/- flash.given: the function that it gives. Conditions: none. -/
namespace Go.Proofs.YtgdhaaokolfdoaaGreatDoor
open Go.RowKit Go.Sg Go.Shelf
attribute [local go_sem] Oper.semAt_some
theorem given_fn (d : Nat) (at_ : Int) (w : World) :
    Calls Tryz.prog 177 #[.pointer (some ⟨d, 0, none⟩), .int .i64 at_] w fun e w' => e = .returned (.func (.func 234) #[] #[.pointer (some ⟨w.heap.size, 0, none⟩), .pointer (some ⟨w.heap.size + 1, 0, none⟩)]) ∧ (w.alloc (.cells #[.pointer (some ⟨d, 0, none⟩)] 27)).alloc (.cells #[.int .i64 at_] 3) = w' := by
  go_enter Tryz.func177, Tryz.ntmps177
  go_wp2
  go_ret
  exact ⟨by simp, rfl⟩
end Go.Proofs.YtgdhaaokolfdoaaGreatDoor
