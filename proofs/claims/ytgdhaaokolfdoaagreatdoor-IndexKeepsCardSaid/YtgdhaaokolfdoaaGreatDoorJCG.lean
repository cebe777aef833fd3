/- A pack of texts: XOF. Conditions: those that each text names. -/
import Derived.Test.YtgdhaaokolfdoaaGreatDoorJCF
set_option linter.unusedVariables false
set_option linter.unusedSimpArgs false
set_option linter.unnecessarySimpa false
namespace Go.Proofs.YtgdhaaokolfdoaaGreatDoor
open Go.RowKit Go.Sg Go.Sg.Bits Go.Sg.Clk CP SF
def GMid (B : Blk) (bx bd : Nat) (y : Cs) (P : Prot) (a : Bool) (N : Nat) (x : DirD) (tops slots : List Rf) (L : List Bp) (sp : Int) (r : Rf) (p3 s3 err : Int) (V : World) : Prop :=
  (err = 0 ∧ (p3, s3) = r ∧ IdxM V B bx bd y P a N x tops slots L sp) ∨ (err = 4 ∧ a = true ∧ DownC V B y P N)
section
variable {B : Blk} {bx bd : Nat} {y : Cs} {P : Prot} {a : Bool} {N : Nat} {x : DirD} {tops slots : List Rf} {L : List Bp} {sp : Int} {r : Rf} {p3 s3 err : Int} {V V' : World} {k : Nat}
theorem gmid_of (h : IdxM V B bx bd y P a N x tops slots L sp) (hk : slots[k]? = some r) (F : FrB B V V') (hr : (err = 0 ∧ slots[k]? = some (p3, s3) ∧ StoreC V' B y P a (N + 2)) ∨ (err = 4 ∧ a = true ∧ DownC V' B y P (N + 2))) : GMid B bx bd y P a (N + 2) x tops slots L sp r p3 s3 err V' := by
  rcases hr with ⟨rfl, h1, hS⟩ | hr
  · exact .inl ⟨rfl, Option.some.inj (h1.symm.trans hk), h.frB F hS⟩
  · exact .inr hr
theorem GMid.fr0 (h : GMid B bx bd y P a N x tops slots L sp r p3 s3 err V) (F : Fr (fun _ => False) V V') : GMid B bx bd y P a N x tops slots L sp r p3 s3 err V' := by
  rcases h with ⟨rfl, h1, h3⟩ | ⟨rfl, ha, hD⟩
  · exact .inl ⟨rfl, h1, h3.fr0 F⟩
  · exact .inr ⟨rfl, ha, hD.fr0 F⟩
theorem GMid.set (h : GMid B bx bd y P a N x tops slots L sp r p3 s3 err V) {b : Nat} {c : Array Value} (F : Fr (fun k => k = b) V V') (hb : V.heap[b]? = some (.cells c 35)) (h0 : 0 < b) : GMid B bx bd y P a N x tops slots L sp r p3 s3 err V' := by
  rcases h with ⟨rfl, h1, h3⟩ | ⟨rfl, ha, hD⟩
  · exact .inl ⟨rfl, h1, h3.setNew F hb (by decide) h0⟩
  · exact .inr ⟨rfl, ha, hD.frL F hb (by decide)⟩
end
set_option maxHeartbeats 16000000 in
set_option maxRecDepth 100000 in
theorem xof_ok {w : World} {B : Blk} {bx bd : Nat} {y : Cs} {P : Prot} {a : Bool} {N : Nat} {x : DirD} {tops slots : List Rf} {L : List Bp} {sp : Int} (h : IdxM w B bx bd y P a N x tops slots L sp) {hash : Nat} (hh : hash < 18446744073709551616) {r : Rf} {d p : Nat} {es : List Bt} (hs : slots[preM hash x.depth]? = some r) (hq : (r, packM d p es) ∈ L) (hk : BkOk d p es) (hd : d ≤ 8) (hp : p < 2 ^ d) (hN : N + 3 ≤ 90000) :
    Calls Tryz.prog 130 #[xptr bx, .int .u64 hash] w (SlotU B bx bd y P a (N + 3) x tops slots L sp r d p es w) := by
  obtain ⟨w1, hw1⟩ : ∃ w1, w.alloc (.cells #[.int .i64 0, .int .i64 0, .int .i64 0, .int .i64 0, .slice none 0 0] 131) = w1 := ⟨_, rfl⟩
  have b4 : w1.heap[w.heap.size]? = some (.cells #[.int .i64 0, .int .i64 0, .int .i64 0, .int .i64 0, .slice none 0 0] 131) := by rw [← hw1]; exact heap_alloc_new _ _
  have F1 : Fr (fun _ => False) w w1 := by rw [← hw1]; exact (Fr.refl _ _).alloc _
  have hs1 : w1.heap.size = w.heap.size + 1 := by rw [← hw1]; simp
  have hsm := h.small
  have HB := hid (fun W (F : FrB B w1 W) => And.intro (cells5 (idxAt_frB (F1.heap h.idx (fun h => h) : IdxAt w1 bx B.s bd 3 3 sp) F)) (cells5 (FrB.heap F b4 (by decide))))
  have HB4 := hid (fun W (F : FrB B w1 W) => FrB.heap F b4 (by decide))
  have HDp := hid (fun V (F : Fr (fun _ => False) w1 V) => depth_ok (F.heap (F1.heap h.dir (fun h => h)) (fun h => h) : DirAt V bd B.s x))
  obtain ⟨g, hg⟩ : ∃ g, x.depth = g := ⟨_, rfl⟩
  have HPr := hid (fun V => prefix_ok hash g hh (by omega) V)
  have hsl : preM hash x.depth < x.slots := by rw [← h.c.slen]; exact (List.getElem?_eq_some_iff.1 hs).1
  have HGt := hid (fun V (F : Fr (fun _ => False) w1 V) => get_ok ((h.st.fr0 F1).fr0 F) (F.heap (F1.heap h.dir (fun h => h)) (fun h => h) : DirAt V bd B.s x) h.c (preM hash x.depth) hsl (by omega))
  have HQ := hid (And.intro hq (And.intro hk hN))
  obtain ⟨⟨i0, i1, i2, i3, i4, iz, il⟩, -⟩ := HB.out _ (FrB.refl _ _)
  rw [hg] at HDp HGt
  obtain ⟨kk, hkk⟩ : ∃ kk, preM hash g = kk := ⟨_, rfl⟩
  rw [hkk] at HPr HGt
  rw [hg, hkk] at hs
  have H1 := hid (And.intro h (And.intro F1 (And.intro hs1 hs)))
  have HW := hid hw1
  have FG : Fr (fun _ => False) w1 w1.drew := (Fr.refl _ _).drew
  clear h hw1 b4 F1 hs1 hs hq hk hg hsl hkk hsm
  go_enter Tryz.func130, Tryz.ntmps130
  go_upto_region 1 with fail
  rw [HW.out]
  refine wp_region_noPanic ?_
  refine region_plan (fun V => FrB B w1 V) (.rd 0 (.rd 1 (.rd 2 (.rd 3 (.rd 4 (.rd 5 (.rd 6 (.rd 7 (.rd 8 (.two 9 15 (.two 10 15 (.two 11 15 (.rd 12 (.rd 13 (.rd 14 (.op 15 (.op 16 (.rd 17 .done)))))) (.op 11 (.rd 12 (.rd 13 (.rd 14 (.op 16 (.rd 17 .done))))))) (.op 10 (.op 11 (.rd 12 (.rd 13 (.rd 14 (.op 16 (.rd 17 .done)))))))) (.op 9 (.op 10 (.op 11 (.rd 12 (.rd 13 (.rd 14 (.op 16 (.rd 17 .done)))))))))))))))))) (by kernel_rfl) (by kernel_rfl) (by kernel_rfl) (fun _ _ _ _ _ h => h) (FrB.none FG) ?_
  iterate 9
    try simp only [Act.put, List.setIfInBounds_toArray, List.set_cons_zero, List.set_cons_succ]
    refine plan_rd _ ?_ (by simp only [List.getElem?_toArray, List.getElem?_cons_zero, List.getElem?_cons_succ]; rfl) (by rfl) ?_ ?_
    rotate_left
    · intro V hV
      obtain ⟨⟨i0, i1, i2, i3, i4, iz, il⟩, -⟩ := HB.out V hV
      go_simp
      try with_reducible rfl
  try simp only [Act.put, List.setIfInBounds_toArray, List.set_cons_zero, List.set_cons_succ]
  refine plan_two ?_ ?_
  · refine plan_op _ (by simp only [List.getElem?_toArray, List.getElem?_cons_zero, List.getElem?_cons_succ]; rfl) (by rfl) (fun K hK => ?_)
    go_simp
    refine (HDp.out _ FG).mono ?_
    rintro _ _ ⟨rfl, rfl⟩
    try go_simp
    refine hK _ _ (FrB.none FG) ?_
    clear hK K
    try simp only [Act.put, List.setIfInBounds_toArray, List.set_cons_zero, List.set_cons_succ]
    refine plan_two ?_ ?_
    · refine plan_op _ (by simp only [List.getElem?_toArray, List.getElem?_cons_zero, List.getElem?_cons_succ]; rfl) (by rfl) (fun K hK => ?_)
      go_simp
      refine (HPr.out _).mono ?_
      rintro _ _ ⟨rfl, rfl⟩
      try go_simp
      refine hK _ _ (FrB.none FG) ?_
      clear hK K
      try simp only [Act.put, List.setIfInBounds_toArray, List.set_cons_zero, List.set_cons_succ]
      refine plan_two ?_ ?_
      · refine plan_op _ (by simp only [List.getElem?_toArray, List.getElem?_cons_zero, List.getElem?_cons_succ]; rfl) (by rfl) (fun K hK => ?_)
        go_simp
        refine (HGt.out _ FG).mono ?_
        rintro _ V3 ⟨p3, s3, err, rfl, F3, hr⟩
        have FG3 : FrB B w1 V3 := FrB.trans (FrB.none FG) F3
        have H3 := hid (And.intro FG3 hr)
        try go_simp
        refine hK _ _ FG3 ?_
        clear hK K F3 hr FG3
        iterate 3
          try simp only [Act.put, List.setIfInBounds_toArray, List.set_cons_zero, List.set_cons_succ]
          refine plan_rd _ ?_ (by simp only [List.getElem?_toArray, List.getElem?_cons_zero, List.getElem?_cons_succ]; rfl) (by rfl) ?_ ?_
          rotate_left
          · intro V hV
            go_simp
            try with_reducible rfl
        try simp only [Act.put, List.setIfInBounds_toArray, List.set_cons_zero, List.set_cons_succ]
        refine plan_op _ (by simp only [List.getElem?_toArray, List.getElem?_cons_zero, List.getElem?_cons_succ]; rfl) (by rfl) (fun K hK => ?_)
        go_simp
        refine hK _ _ (H3.out.1.alloc _) ?_
        clear hK K
        try simp only [Act.put, List.setIfInBounds_toArray, List.set_cons_zero, List.set_cons_succ]
        refine plan_op _ (by simp only [List.getElem?_toArray, List.getElem?_cons_zero, List.getElem?_cons_succ]; rfl) (by rfl) (fun K hK => ?_)
        go_simp
        obtain ⟨b6, hb6⟩ : ∃ b6, V3.heap.size = b6 := ⟨_, rfl⟩
        obtain ⟨V5, hV5⟩ : ∃ V5, V3.alloc (.cells #[.int .i64 p3, .int .i64 s3] 35) = V5 := ⟨_, rfl⟩
        have F5 : Fr (fun _ => False) V3 V5 := by rw [← hV5]; exact (Fr.refl _ _).alloc _
        have g5 : V5.heap[b6]? = some (.cells #[.int .i64 p3, .int .i64 s3] 35) := by rw [← hV5, ← hb6]; exact heap_alloc_new V3 _
        have FG5 := FrB.trans H3.out.1 (FrB.none F5)
        have H5 := hid (And.intro g5 (And.intro FG5 ((gmid_of (H1.out.1.fr0 H1.out.2.1) H1.out.2.2.2 H3.out.1 H3.out.2).fr0 F5)))
        rw [hb6, hV5]
        refine hK _ _ FG5 ?_
        clear hK K hV5 F5 g5 FG5
        try simp only [Act.put, List.setIfInBounds_toArray, List.set_cons_zero, List.set_cons_succ]
        refine plan_rd _ ?_ (by simp only [List.getElem?_toArray, List.getElem?_cons_zero, List.getElem?_cons_succ]; rfl) (by rfl) ?_ ?_
        rotate_left
        · intro V hV
          go_simp
          try with_reducible rfl
        try simp only [Act.put, List.setIfInBounds_toArray, List.set_cons_zero, List.set_cons_succ]
        refine plan_done ?_
        refine NoPanic.normal ?_
        clear FG
        obtain ⟨y0, y1, yz, yl⟩ := cells2 H5.out.1
        obtain ⟨⟨i0, i1, i2, i3, i4, iz, il⟩, ⟨o0, o1, o2, o3, o4, oz, ol⟩⟩ := HB.out V5 H5.out.2.1
        rcases H5.out.2.2 with ⟨rfl, he, hI⟩ | ⟨rfl, ha, hDn⟩
        · obtain ⟨rfl, rfl⟩ : p3 = r.1 ∧ s3 = r.2 := by rw [← he]; exact ⟨rfl, rfl⟩
          have HRe := hid (xread_ok hI HQ.out.1 HQ.out.2.1 (by omega) hp (by omega))
          clear hI he
          go_wp2_with fail
          refine HRe.out.mono ?_
          rintro e V6 ⟨r6, d6, p6, va, n6, vc, err, rfl, F6, hr6⟩
          have FG6 : FrB B w1 V6 := FrB.trans H5.out.2.1 F6
          have H6 := hid (And.intro FG6 (And.intro F6.size hr6))
          clear y0 y1 yz yl i0 i1 i2 i3 i4 iz il o0 o1 o2 o3 o4 oz ol F6 hr6
          obtain ⟨-, ⟨o0, o1, o2, o3, o4, oz, ol⟩⟩ := HB.out V6 FG6
          clear FG6
          go_wp2_with fail
          have hs1 := H1.out.2.2.1
          have g4 := HB4.out V6 H6.out.1
          have hv5 : w1.heap.size ≤ V5.heap.size := H5.out.2.1.size
          refine bodyPost_ret (v := .tuple #[slotV r6 d6 p6 (.slice va n6 vc), .int .i64 err]) (by simp [results, go_sem, *]) rfl ⟨r6, d6, p6, va, n6, vc, err, rfl, ?_, ?_⟩
          · exact (FrB.trans (FrB.none H1.out.2.1) H6.out.1).trans' (set5_fr V6 w.heap.size _ _ _ _ _) (fun b hb e => by omega)
          · rcases H6.out.2.2 with ⟨rfl, hh, ho, hI⟩ | ⟨rfl, ha, hDn⟩
            · refine .inl ⟨rfl, hh, ?_, ?_⟩
              · exact own_fr1 (own_mono ho (by omega)) (set5_fr V6 w.heap.size _ _ _ _ _) (fun g hg e => by
                  have := (own_blkT ho hg).1
                  omega)
              · exact (hI.mono (by omega) hN).setNew (set5_fr V6 w.heap.size _ _ _ _ _) g4 (by decide) (Nat.lt_of_lt_of_le H1.out.1.st.base H1.out.1.st.base_le)
            · exact .inr ⟨rfl, ha, (hDn.mono (by omega)).frL (set5_fr V6 w.heap.size _ _ _ _ _) g4 (by decide)⟩
        · have HX := hid (And.intro ha hDn)
          clear ha hDn
          go_wp2_with fail
          have hs1 := H1.out.2.2.1
          refine bodyPost_ret (v := .tuple #[slotV (0, 0) 0 0 (.slice none 0 0), .int .i64 4]) (by simp [results, go_sem, *]) rfl ⟨(0, 0), 0, 0, none, 0, 0, 4, rfl, ?_, .inr ⟨rfl, HX.out.1, ?_⟩⟩
          · exact (FrB.trans (FrB.none H1.out.2.1) H5.out.2.1).trans' (set5_fr V5 w.heap.size _ _ _ _ _) (fun b hb e => by omega)
          · exact (HX.out.2.mono (by omega)).frL (set5_fr V5 w.heap.size _ _ _ _ _) (HB4.out V5 H5.out.2.1) (by decide)
      · refine plan_op _ (by simp only [List.getElem?_toArray, List.getElem?_cons_zero, List.getElem?_cons_succ]; rfl) (by rfl) (fun K hK => ?_)
        go_simp
        obtain ⟨b6, hb6⟩ : ∃ b6, w1.heap.size = b6 := ⟨_, rfl⟩
        obtain ⟨V4, hV4⟩ : ∃ V4, (w1.alloc (.cells #[.int .i64 0, .int .i64 0] 35)).drew = V4 := ⟨_, rfl⟩
        have F4 : Fr (fun _ => False) w1 V4 := by rw [← hV4]; exact ((Fr.refl _ _).alloc _).drew
        have g6 : V4.heap[b6]? = some (.cells #[.int .i64 0, .int .i64 0] 35) := by rw [← hV4, ← hb6]; exact heap_alloc_new w1 _
        rw [hb6, hV4]
        refine hK _ _ (FrB.none F4) ?_
        clear hK K hV4
        try simp only [Act.put, List.setIfInBounds_toArray, List.set_cons_zero, List.set_cons_succ]
        refine plan_op _ (by simp only [List.getElem?_toArray, List.getElem?_cons_zero, List.getElem?_cons_succ]; rfl) (by rfl) (fun K hK => ?_)
        go_simp
        refine (HGt.out _ F4).mono ?_
        rintro _ V3 ⟨p3, s3, err, rfl, F3, hr⟩
        have FG3 : FrB B w1 V3 := FrB.trans (FrB.none F4) F3
        have g63 := FrB.heap F3 g6 (by decide)
        have H3 := hid (And.intro FG3 hr)
        try go_simp
        refine hK _ _ FG3 ?_
        clear hK K F3 hr FG3
        iterate 3
          try simp only [Act.put, List.setIfInBounds_toArray, List.set_cons_zero, List.set_cons_succ]
          refine plan_rd _ ?_ (by simp only [List.getElem?_toArray, List.getElem?_cons_zero, List.getElem?_cons_succ]; rfl) (by rfl) ?_ ?_
          rotate_left
          · intro V hV
            go_simp
            try with_reducible rfl
        try simp only [Act.put, List.setIfInBounds_toArray, List.set_cons_zero, List.set_cons_succ]
        refine plan_op _ (by simp only [List.getElem?_toArray, List.getElem?_cons_zero, List.getElem?_cons_succ]; rfl) (by rfl) (fun K hK => ?_)
        obtain ⟨y0, y1, yz, yl⟩ := cells2 g63
        go_simp
        obtain ⟨V5, hV5⟩ : ∃ V5, (V3.setCell ⟨b6, 0, none⟩ (.int .i64 p3)).setCell ⟨b6, 1, none⟩ (.int .i64 s3) = V5 := ⟨_, rfl⟩
        have F5 : Fr (fun k => k = b6) V3 V5 := by rw [← hV5]; exact ((Fr.refl (fun k => k = b6) V3).setCell (a := ⟨b6, _, none⟩) (fun _ => rfl) _).setCell (a := ⟨b6, _, none⟩) (fun _ => rfl) _
        have g5 : V5.heap[b6]? = some (.cells #[.int .i64 p3, .int .i64 s3] 35) := by rw [← hV5, heap_setCell_cells _ _ _ _ (heap_setCell_cells _ _ _ _ g63)]; rfl
        have FG5 : FrB B w1 V5 := FrB.trans' H3.out.1 F5 (fun b hb e => by omega)
        have H5 := hid (And.intro g5 (And.intro FG5 ((gmid_of (H1.out.1.fr0 H1.out.2.1) H1.out.2.2.2 H3.out.1 H3.out.2).set F5 g63 (by rw [← hb6]; exact Nat.lt_of_lt_of_le H1.out.1.st.base (Nat.le_trans H1.out.1.st.base_le H1.out.2.1.size)))))
        rw [hV5]
        refine hK _ _ FG5 ?_
        clear hK K hV5 F5 g5 FG5 y0 y1 yz yl g63 g6
        try simp only [Act.put, List.setIfInBounds_toArray, List.set_cons_zero, List.set_cons_succ]
        refine plan_rd _ ?_ (by simp only [List.getElem?_toArray, List.getElem?_cons_zero, List.getElem?_cons_succ]; rfl) (by rfl) ?_ ?_
        rotate_left
        · intro V hV
          go_simp
          try with_reducible rfl
        try simp only [Act.put, List.setIfInBounds_toArray, List.set_cons_zero, List.set_cons_succ]
        refine plan_done ?_
        refine NoPanic.normal ?_
        clear FG
        obtain ⟨y0, y1, yz, yl⟩ := cells2 H5.out.1
        obtain ⟨⟨i0, i1, i2, i3, i4, iz, il⟩, ⟨o0, o1, o2, o3, o4, oz, ol⟩⟩ := HB.out V5 H5.out.2.1
        rcases H5.out.2.2 with ⟨rfl, he, hI⟩ | ⟨rfl, ha, hDn⟩
        · obtain ⟨rfl, rfl⟩ : p3 = r.1 ∧ s3 = r.2 := by rw [← he]; exact ⟨rfl, rfl⟩
          have HRe := hid (xread_ok hI HQ.out.1 HQ.out.2.1 (by omega) hp (by omega))
          clear hI he
          go_wp2_with fail
          refine HRe.out.mono ?_
          rintro e V6 ⟨r6, d6, p6, va, n6, vc, err, rfl, F6, hr6⟩
          have FG6 : FrB B w1 V6 := FrB.trans H5.out.2.1 F6
          have H6 := hid (And.intro FG6 (And.intro F6.size hr6))
          clear y0 y1 yz yl i0 i1 i2 i3 i4 iz il o0 o1 o2 o3 o4 oz ol F6 hr6
          obtain ⟨-, ⟨o0, o1, o2, o3, o4, oz, ol⟩⟩ := HB.out V6 FG6
          clear FG6
          go_wp2_with fail
          have hs1 := H1.out.2.2.1
          have g4 := HB4.out V6 H6.out.1
          have hv5 : w1.heap.size ≤ V5.heap.size := H5.out.2.1.size
          refine bodyPost_ret (v := .tuple #[slotV r6 d6 p6 (.slice va n6 vc), .int .i64 err]) (by simp [results, go_sem, *]) rfl ⟨r6, d6, p6, va, n6, vc, err, rfl, ?_, ?_⟩
          · exact (FrB.trans (FrB.none H1.out.2.1) H6.out.1).trans' (set5_fr V6 w.heap.size _ _ _ _ _) (fun b hb e => by omega)
          · rcases H6.out.2.2 with ⟨rfl, hh, ho, hI⟩ | ⟨rfl, ha, hDn⟩
            · refine .inl ⟨rfl, hh, ?_, ?_⟩
              · exact own_fr1 (own_mono ho (by omega)) (set5_fr V6 w.heap.size _ _ _ _ _) (fun g hg e => by
                  have := (own_blkT ho hg).1
                  omega)
              · exact (hI.mono (by omega) hN).setNew (set5_fr V6 w.heap.size _ _ _ _ _) g4 (by decide) (Nat.lt_of_lt_of_le H1.out.1.st.base H1.out.1.st.base_le)
            · exact .inr ⟨rfl, ha, (hDn.mono (by omega)).frL (set5_fr V6 w.heap.size _ _ _ _ _) g4 (by decide)⟩
        · have HX := hid (And.intro ha hDn)
          clear ha hDn
          go_wp2_with fail
          have hs1 := H1.out.2.2.1
          refine bodyPost_ret (v := .tuple #[slotV (0, 0) 0 0 (.slice none 0 0), .int .i64 4]) (by simp [results, go_sem, *]) rfl ⟨(0, 0), 0, 0, none, 0, 0, 4, rfl, ?_, .inr ⟨rfl, HX.out.1, ?_⟩⟩
          · exact (FrB.trans (FrB.none H1.out.2.1) H5.out.2.1).trans' (set5_fr V5 w.heap.size _ _ _ _ _) (fun b hb e => by omega)
          · exact (HX.out.2.mono (by omega)).frL (set5_fr V5 w.heap.size _ _ _ _ _) (HB4.out V5 H5.out.2.1) (by decide)
    · refine plan_op _ (by simp only [List.getElem?_toArray, List.getElem?_cons_zero, List.getElem?_cons_succ]; rfl) (by rfl) (fun K hK => ?_)
      go_simp
      obtain ⟨b6, hb6⟩ : ∃ b6, w1.heap.size = b6 := ⟨_, rfl⟩
      obtain ⟨V4, hV4⟩ : ∃ V4, (w1.alloc (.cells #[.int .i64 0, .int .i64 0] 35)).drew = V4 := ⟨_, rfl⟩
      have F4 : Fr (fun _ => False) w1 V4 := by rw [← hV4]; exact ((Fr.refl _ _).alloc _).drew
      have g6 : V4.heap[b6]? = some (.cells #[.int .i64 0, .int .i64 0] 35) := by rw [← hV4, ← hb6]; exact heap_alloc_new w1 _
      rw [hb6, hV4]
      refine hK _ _ (FrB.none F4) ?_
      clear hK K hV4
      try simp only [Act.put, List.setIfInBounds_toArray, List.set_cons_zero, List.set_cons_succ]
      refine plan_op _ (by simp only [List.getElem?_toArray, List.getElem?_cons_zero, List.getElem?_cons_succ]; rfl) (by rfl) (fun K hK => ?_)
      go_simp
      refine (HPr.out _).mono ?_
      rintro _ _ ⟨rfl, rfl⟩
      try go_simp
      refine hK _ _ (FrB.none F4) ?_
      clear hK K
      try simp only [Act.put, List.setIfInBounds_toArray, List.set_cons_zero, List.set_cons_succ]
      refine plan_op _ (by simp only [List.getElem?_toArray, List.getElem?_cons_zero, List.getElem?_cons_succ]; rfl) (by rfl) (fun K hK => ?_)
      go_simp
      refine (HGt.out _ F4).mono ?_
      rintro _ V3 ⟨p3, s3, err, rfl, F3, hr⟩
      have FG3 : FrB B w1 V3 := FrB.trans (FrB.none F4) F3
      have g63 := FrB.heap F3 g6 (by decide)
      have H3 := hid (And.intro FG3 hr)
      try go_simp
      refine hK _ _ FG3 ?_
      clear hK K F3 hr FG3
      iterate 3
        try simp only [Act.put, List.setIfInBounds_toArray, List.set_cons_zero, List.set_cons_succ]
        refine plan_rd _ ?_ (by simp only [List.getElem?_toArray, List.getElem?_cons_zero, List.getElem?_cons_succ]; rfl) (by rfl) ?_ ?_
        rotate_left
        · intro V hV
          go_simp
          try with_reducible rfl
      try simp only [Act.put, List.setIfInBounds_toArray, List.set_cons_zero, List.set_cons_succ]
      refine plan_op _ (by simp only [List.getElem?_toArray, List.getElem?_cons_zero, List.getElem?_cons_succ]; rfl) (by rfl) (fun K hK => ?_)
      obtain ⟨y0, y1, yz, yl⟩ := cells2 g63
      go_simp
      obtain ⟨V5, hV5⟩ : ∃ V5, (V3.setCell ⟨b6, 0, none⟩ (.int .i64 p3)).setCell ⟨b6, 1, none⟩ (.int .i64 s3) = V5 := ⟨_, rfl⟩
      have F5 : Fr (fun k => k = b6) V3 V5 := by rw [← hV5]; exact ((Fr.refl (fun k => k = b6) V3).setCell (a := ⟨b6, _, none⟩) (fun _ => rfl) _).setCell (a := ⟨b6, _, none⟩) (fun _ => rfl) _
      have g5 : V5.heap[b6]? = some (.cells #[.int .i64 p3, .int .i64 s3] 35) := by rw [← hV5, heap_setCell_cells _ _ _ _ (heap_setCell_cells _ _ _ _ g63)]; rfl
      have FG5 : FrB B w1 V5 := FrB.trans' H3.out.1 F5 (fun b hb e => by omega)
      have H5 := hid (And.intro g5 (And.intro FG5 ((gmid_of (H1.out.1.fr0 H1.out.2.1) H1.out.2.2.2 H3.out.1 H3.out.2).set F5 g63 (by rw [← hb6]; exact Nat.lt_of_lt_of_le H1.out.1.st.base (Nat.le_trans H1.out.1.st.base_le H1.out.2.1.size)))))
      rw [hV5]
      refine hK _ _ FG5 ?_
      clear hK K hV5 F5 g5 FG5 y0 y1 yz yl g63 g6
      try simp only [Act.put, List.setIfInBounds_toArray, List.set_cons_zero, List.set_cons_succ]
      refine plan_rd _ ?_ (by simp only [List.getElem?_toArray, List.getElem?_cons_zero, List.getElem?_cons_succ]; rfl) (by rfl) ?_ ?_
      rotate_left
      · intro V hV
        go_simp
        try with_reducible rfl
      try simp only [Act.put, List.setIfInBounds_toArray, List.set_cons_zero, List.set_cons_succ]
      refine plan_done ?_
      refine NoPanic.normal ?_
      clear FG
      obtain ⟨y0, y1, yz, yl⟩ := cells2 H5.out.1
      obtain ⟨⟨i0, i1, i2, i3, i4, iz, il⟩, ⟨o0, o1, o2, o3, o4, oz, ol⟩⟩ := HB.out V5 H5.out.2.1
      rcases H5.out.2.2 with ⟨rfl, he, hI⟩ | ⟨rfl, ha, hDn⟩
      · obtain ⟨rfl, rfl⟩ : p3 = r.1 ∧ s3 = r.2 := by rw [← he]; exact ⟨rfl, rfl⟩
        have HRe := hid (xread_ok hI HQ.out.1 HQ.out.2.1 (by omega) hp (by omega))
        clear hI he
        go_wp2_with fail
        refine HRe.out.mono ?_
        rintro e V6 ⟨r6, d6, p6, va, n6, vc, err, rfl, F6, hr6⟩
        have FG6 : FrB B w1 V6 := FrB.trans H5.out.2.1 F6
        have H6 := hid (And.intro FG6 (And.intro F6.size hr6))
        clear y0 y1 yz yl i0 i1 i2 i3 i4 iz il o0 o1 o2 o3 o4 oz ol F6 hr6
        obtain ⟨-, ⟨o0, o1, o2, o3, o4, oz, ol⟩⟩ := HB.out V6 FG6
        clear FG6
        go_wp2_with fail
        have hs1 := H1.out.2.2.1
        have g4 := HB4.out V6 H6.out.1
        have hv5 : w1.heap.size ≤ V5.heap.size := H5.out.2.1.size
        refine bodyPost_ret (v := .tuple #[slotV r6 d6 p6 (.slice va n6 vc), .int .i64 err]) (by simp [results, go_sem, *]) rfl ⟨r6, d6, p6, va, n6, vc, err, rfl, ?_, ?_⟩
        · exact (FrB.trans (FrB.none H1.out.2.1) H6.out.1).trans' (set5_fr V6 w.heap.size _ _ _ _ _) (fun b hb e => by omega)
        · rcases H6.out.2.2 with ⟨rfl, hh, ho, hI⟩ | ⟨rfl, ha, hDn⟩
          · refine .inl ⟨rfl, hh, ?_, ?_⟩
            · exact own_fr1 (own_mono ho (by omega)) (set5_fr V6 w.heap.size _ _ _ _ _) (fun g hg e => by
                have := (own_blkT ho hg).1
                omega)
            · exact (hI.mono (by omega) hN).setNew (set5_fr V6 w.heap.size _ _ _ _ _) g4 (by decide) (Nat.lt_of_lt_of_le H1.out.1.st.base H1.out.1.st.base_le)
          · exact .inr ⟨rfl, ha, (hDn.mono (by omega)).frL (set5_fr V6 w.heap.size _ _ _ _ _) g4 (by decide)⟩
      · have HX := hid (And.intro ha hDn)
        clear ha hDn
        go_wp2_with fail
        have hs1 := H1.out.2.2.1
        refine bodyPost_ret (v := .tuple #[slotV (0, 0) 0 0 (.slice none 0 0), .int .i64 4]) (by simp [results, go_sem, *]) rfl ⟨(0, 0), 0, 0, none, 0, 0, 4, rfl, ?_, .inr ⟨rfl, HX.out.1, ?_⟩⟩
        · exact (FrB.trans (FrB.none H1.out.2.1) H5.out.2.1).trans' (set5_fr V5 w.heap.size _ _ _ _ _) (fun b hb e => by omega)
        · exact (HX.out.2.mono (by omega)).frL (set5_fr V5 w.heap.size _ _ _ _ _) (HB4.out V5 H5.out.2.1) (by decide)
  · refine plan_op _ (by simp only [List.getElem?_toArray, List.getElem?_cons_zero, List.getElem?_cons_succ]; rfl) (by rfl) (fun K hK => ?_)
    go_simp
    obtain ⟨b6, hb6⟩ : ∃ b6, w1.heap.size = b6 := ⟨_, rfl⟩
    obtain ⟨V4, hV4⟩ : ∃ V4, (w1.alloc (.cells #[.int .i64 0, .int .i64 0] 35)).drew = V4 := ⟨_, rfl⟩
    have F4 : Fr (fun _ => False) w1 V4 := by rw [← hV4]; exact ((Fr.refl _ _).alloc _).drew
    have g6 : V4.heap[b6]? = some (.cells #[.int .i64 0, .int .i64 0] 35) := by rw [← hV4, ← hb6]; exact heap_alloc_new w1 _
    rw [hb6, hV4]
    refine hK _ _ (FrB.none F4) ?_
    clear hK K hV4
    try simp only [Act.put, List.setIfInBounds_toArray, List.set_cons_zero, List.set_cons_succ]
    refine plan_op _ (by simp only [List.getElem?_toArray, List.getElem?_cons_zero, List.getElem?_cons_succ]; rfl) (by rfl) (fun K hK => ?_)
    go_simp
    refine (HDp.out _ F4).mono ?_
    rintro _ _ ⟨rfl, rfl⟩
    try go_simp
    refine hK _ _ (FrB.none F4) ?_
    clear hK K
    try simp only [Act.put, List.setIfInBounds_toArray, List.set_cons_zero, List.set_cons_succ]
    refine plan_op _ (by simp only [List.getElem?_toArray, List.getElem?_cons_zero, List.getElem?_cons_succ]; rfl) (by rfl) (fun K hK => ?_)
    go_simp
    refine (HPr.out _).mono ?_
    rintro _ _ ⟨rfl, rfl⟩
    try go_simp
    refine hK _ _ (FrB.none F4) ?_
    clear hK K
    try simp only [Act.put, List.setIfInBounds_toArray, List.set_cons_zero, List.set_cons_succ]
    refine plan_op _ (by simp only [List.getElem?_toArray, List.getElem?_cons_zero, List.getElem?_cons_succ]; rfl) (by rfl) (fun K hK => ?_)
    go_simp
    refine (HGt.out _ F4).mono ?_
    rintro _ V3 ⟨p3, s3, err, rfl, F3, hr⟩
    have FG3 : FrB B w1 V3 := FrB.trans (FrB.none F4) F3
    have g63 := FrB.heap F3 g6 (by decide)
    have H3 := hid (And.intro FG3 hr)
    try go_simp
    refine hK _ _ FG3 ?_
    clear hK K F3 hr FG3
    iterate 3
      try simp only [Act.put, List.setIfInBounds_toArray, List.set_cons_zero, List.set_cons_succ]
      refine plan_rd _ ?_ (by simp only [List.getElem?_toArray, List.getElem?_cons_zero, List.getElem?_cons_succ]; rfl) (by rfl) ?_ ?_
      rotate_left
      · intro V hV
        go_simp
        try with_reducible rfl
    try simp only [Act.put, List.setIfInBounds_toArray, List.set_cons_zero, List.set_cons_succ]
    refine plan_op _ (by simp only [List.getElem?_toArray, List.getElem?_cons_zero, List.getElem?_cons_succ]; rfl) (by rfl) (fun K hK => ?_)
    obtain ⟨y0, y1, yz, yl⟩ := cells2 g63
    go_simp
    obtain ⟨V5, hV5⟩ : ∃ V5, (V3.setCell ⟨b6, 0, none⟩ (.int .i64 p3)).setCell ⟨b6, 1, none⟩ (.int .i64 s3) = V5 := ⟨_, rfl⟩
    have F5 : Fr (fun k => k = b6) V3 V5 := by rw [← hV5]; exact ((Fr.refl (fun k => k = b6) V3).setCell (a := ⟨b6, _, none⟩) (fun _ => rfl) _).setCell (a := ⟨b6, _, none⟩) (fun _ => rfl) _
    have g5 : V5.heap[b6]? = some (.cells #[.int .i64 p3, .int .i64 s3] 35) := by rw [← hV5, heap_setCell_cells _ _ _ _ (heap_setCell_cells _ _ _ _ g63)]; rfl
    have FG5 : FrB B w1 V5 := FrB.trans' H3.out.1 F5 (fun b hb e => by omega)
    have H5 := hid (And.intro g5 (And.intro FG5 ((gmid_of (H1.out.1.fr0 H1.out.2.1) H1.out.2.2.2 H3.out.1 H3.out.2).set F5 g63 (by rw [← hb6]; exact Nat.lt_of_lt_of_le H1.out.1.st.base (Nat.le_trans H1.out.1.st.base_le H1.out.2.1.size)))))
    rw [hV5]
    refine hK _ _ FG5 ?_
    clear hK K hV5 F5 g5 FG5 y0 y1 yz yl g63 g6
    try simp only [Act.put, List.setIfInBounds_toArray, List.set_cons_zero, List.set_cons_succ]
    refine plan_rd _ ?_ (by simp only [List.getElem?_toArray, List.getElem?_cons_zero, List.getElem?_cons_succ]; rfl) (by rfl) ?_ ?_
    rotate_left
    · intro V hV
      go_simp
      try with_reducible rfl
    try simp only [Act.put, List.setIfInBounds_toArray, List.set_cons_zero, List.set_cons_succ]
    refine plan_done ?_
    refine NoPanic.normal ?_
    clear FG
    obtain ⟨y0, y1, yz, yl⟩ := cells2 H5.out.1
    obtain ⟨⟨i0, i1, i2, i3, i4, iz, il⟩, ⟨o0, o1, o2, o3, o4, oz, ol⟩⟩ := HB.out V5 H5.out.2.1
    rcases H5.out.2.2 with ⟨rfl, he, hI⟩ | ⟨rfl, ha, hDn⟩
    · obtain ⟨rfl, rfl⟩ : p3 = r.1 ∧ s3 = r.2 := by rw [← he]; exact ⟨rfl, rfl⟩
      have HRe := hid (xread_ok hI HQ.out.1 HQ.out.2.1 (by omega) hp (by omega))
      clear hI he
      go_wp2_with fail
      refine HRe.out.mono ?_
      rintro e V6 ⟨r6, d6, p6, va, n6, vc, err, rfl, F6, hr6⟩
      have FG6 : FrB B w1 V6 := FrB.trans H5.out.2.1 F6
      have H6 := hid (And.intro FG6 (And.intro F6.size hr6))
      clear y0 y1 yz yl i0 i1 i2 i3 i4 iz il o0 o1 o2 o3 o4 oz ol F6 hr6
      obtain ⟨-, ⟨o0, o1, o2, o3, o4, oz, ol⟩⟩ := HB.out V6 FG6
      clear FG6
      go_wp2_with fail
      have hs1 := H1.out.2.2.1
      have g4 := HB4.out V6 H6.out.1
      have hv5 : w1.heap.size ≤ V5.heap.size := H5.out.2.1.size
      refine bodyPost_ret (v := .tuple #[slotV r6 d6 p6 (.slice va n6 vc), .int .i64 err]) (by simp [results, go_sem, *]) rfl ⟨r6, d6, p6, va, n6, vc, err, rfl, ?_, ?_⟩
      · exact (FrB.trans (FrB.none H1.out.2.1) H6.out.1).trans' (set5_fr V6 w.heap.size _ _ _ _ _) (fun b hb e => by omega)
      · rcases H6.out.2.2 with ⟨rfl, hh, ho, hI⟩ | ⟨rfl, ha, hDn⟩
        · refine .inl ⟨rfl, hh, ?_, ?_⟩
          · exact own_fr1 (own_mono ho (by omega)) (set5_fr V6 w.heap.size _ _ _ _ _) (fun g hg e => by
              have := (own_blkT ho hg).1
              omega)
          · exact (hI.mono (by omega) hN).setNew (set5_fr V6 w.heap.size _ _ _ _ _) g4 (by decide) (Nat.lt_of_lt_of_le H1.out.1.st.base H1.out.1.st.base_le)
        · exact .inr ⟨rfl, ha, (hDn.mono (by omega)).frL (set5_fr V6 w.heap.size _ _ _ _ _) g4 (by decide)⟩
    · have HX := hid (And.intro ha hDn)
      clear ha hDn
      go_wp2_with fail
      have hs1 := H1.out.2.2.1
      refine bodyPost_ret (v := .tuple #[slotV (0, 0) 0 0 (.slice none 0 0), .int .i64 4]) (by simp [results, go_sem, *]) rfl ⟨(0, 0), 0, 0, none, 0, 0, 4, rfl, ?_, .inr ⟨rfl, HX.out.1, ?_⟩⟩
      · exact (FrB.trans (FrB.none H1.out.2.1) H5.out.2.1).trans' (set5_fr V5 w.heap.size _ _ _ _ _) (fun b hb e => by omega)
      · exact (HX.out.2.mono (by omega)).frL (set5_fr V5 w.heap.size _ _ _ _ _) (HB4.out V5 H5.out.2.1) (by decide)
end Go.Proofs.YtgdhaaokolfdoaaGreatDoor
