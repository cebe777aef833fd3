/- A pack of texts: R14, OX, ST1. Conditions: those that each text names. -/
import Derived.Test.YtgdhaaokolfdoaaGreatDoorJCB
import Derived.Test.YtgdhaaokolfdoaaGreatDoorJCC
import Derived.BigQuiet
import Derived.Test.YtgdhaaokolfdoaaGreatDoorJAF
import Derived.Lib.SmallJoins
import Derived.Test.YtgdhaaokolfdoaaGreatDoorJCA
import Derived.Test.YtgdhaaokolfdoaaGreatDoorJCK
set_option linter.unusedVariables false
set_option linter.unusedSimpArgs false
set_option linter.unnecessarySimpa false
namespace Go.Proofs.YtgdhaaokolfdoaaGreatDoor
open Go.RowKit Go.Sg CP SF
theorem pref0_ok (h : Nat) (w : World) : Calls Tryz.prog 189 #[.int .u64 h, .int .i64 0] w (fun e w' => e = .returned (.int .i64 0) ∧ w = w') := by
  go_enter Tryz.func189, Tryz.ntmps189
  go_wp2_with fail
  exact bodyPost_ret (v := .int .i64 0) (by simp [results, go_sem, *]) rfl ⟨rfl, rfl⟩
set_option maxHeartbeats 8000000 in
set_option maxRecDepth 100000 in
theorem right14_ok {w : World} {g : Nat} {x : Bt} (hg : w.heap[g]? = some (.cells #[.int .u64 x.hash, .int .i64 x.rg, .int .i64 x.at_, .int .i64 x.sz] 110)) :
    Calls Tryz.prog 128 #[bkV 0 0 (.slice (some ⟨g, 0, none⟩) 1 1), .int .i64 1] w (ValP (.bool (rightE x)) w) := by
  obtain ⟨w1, hw1⟩ : ∃ w1, w.alloc (.cells #[.int .i64 0, .int .i64 0, .slice (some ⟨g, 0, none⟩) 1 1] 220) = w1 := ⟨_, rfl⟩
  have b1 : w1.heap[w.heap.size]? = some (.cells #[.int .i64 0, .int .i64 0, .slice (some ⟨g, 0, none⟩) 1 1] 220) := by rw [← hw1]; exact heap_alloc_new _ _
  have F1 : Fr (fun _ => False) w w1 := by rw [← hw1]; exact (Fr.refl _ _).alloc _
  obtain ⟨c0, c1, c2, cz, cl⟩ := cells3 b1
  obtain ⟨e0, e1, e2, e3, ez, el⟩ := cells4b (F1.heap hg (fun h => h))
  have HF1 := hid F1
  have HB1 := hid b1
  have HW := hid hw1
  clear hg hw1 b1 F1
  go_enter Tryz.func128, Tryz.ntmps128
  go_upto_region 1 with fail
  rw [HW.out]
  go_wp2_with fail
  go_loopg [5, 6] 1 (fun n v5 v6 wr => n = 1 ∧ v5 = .int .i64 1 ∧ v6 = .int .i64 0 ∧ wr = w1)
  case atStart => exact ⟨rfl, rfl, rfl, rfl⟩
  case round =>
    obtain ⟨rfl, rfl, rfl, rfl⟩ := hrel
    go_wp2_with fail
    go_loopg [7] 2 (fun n v7 W => (n = 2 ∧ v7 = .int .i64 0 ∧ W = wr) ∨ (n = 1 ∧ v7 = .int .i64 1 ∧ rightE x = true ∧ Fr (fun _ => False) wr W))
    case atStart => exact .inl ⟨rfl, rfl, rfl⟩
    case round =>
      rcases hrel with ⟨rfl, rfl, rfl⟩ | ⟨rfl, rfl, hre, hF2⟩
      rotate_left
      · have HB := hid (And.intro hre hF2)
        obtain ⟨c0, c1, c2, cz, cl⟩ := cells3 (hF2.heap HB1.out (fun h => h))
        clear hF2
        go_wp2_with fail
        exact bodyPost_ret (v := .bool true) (by simp [results, go_sem, *]) rfl ⟨by rw [HB.out.1], HF1.out.trans HB.out.2 (fun _ _ h => h)⟩
      go_upto_region 14 with fail
      obtain ⟨W2, hW2⟩ : ∃ W2, wr.alloc (.cells #[.int .u64 x.hash, .int .i64 x.rg, .int .i64 x.at_, .int .i64 x.sz] 110) = W2 := ⟨_, rfl⟩
      rw [hW2]
      have bW : W2.heap[wr.heap.size]? = some (.cells #[.int .u64 x.hash, .int .i64 x.rg, .int .i64 x.at_, .int .i64 x.sz] 110) := by rw [← hW2]; exact heap_alloc_new _ _
      have FW : Fr (fun _ => False) wr W2 := by rw [← hW2]; exact (Fr.refl _ _).alloc _
      obtain ⟨a0, a1, a2, a3, az, al⟩ := cells4b bW
      obtain ⟨c0, c1, c2, cz, cl⟩ := cells3 (FW.heap HB1.out (fun h => h))
      have HFW := hid FW
      have HFF := hid (HF1.out.trans FW (fun _ _ h => h))
      clear hW2 bW FW e0 e1 e2 e3 ez el
      cases d0 : decide (x.rg < 0) with
      | true =>
        have HR := hid (show rightE x = false by simp only [decide_eq_true_eq] at d0; simp [rightE]; omega)
        go_wp2_with fail
        go_quiet (fail)
        go_wp2_with fail
        exact bodyPost_ret (v := .bool false) (by simp [results, go_sem, *]) rfl ⟨by rw [HR.out], HFF.out.trans ((Fr.refl _ _).drewN _) (fun _ _ h => h)⟩
      | false =>
        cases d1 : decide (1099511627776 < x.rg) with
        | true =>
          have HR := hid (show rightE x = false by simp only [decide_eq_true_eq] at d1; simp [rightE]; omega)
          go_wp2_with fail
          go_quiet (fail)
          go_wp2_with fail
          exact bodyPost_ret (v := .bool false) (by simp [results, go_sem, *]) rfl ⟨by rw [HR.out], HFF.out.trans ((Fr.refl _ _).drewN _) (fun _ _ h => h)⟩
        | false =>
          cases d2 : decide (x.at_ < 0) with
          | true =>
            have HR := hid (show rightE x = false by simp only [decide_eq_true_eq] at d2; simp [rightE]; omega)
            go_wp2_with fail
            go_quiet (fail)
            go_wp2_with fail
            exact bodyPost_ret (v := .bool false) (by simp [results, go_sem, *]) rfl ⟨by rw [HR.out], HFF.out.trans ((Fr.refl _ _).drewN _) (fun _ _ h => h)⟩
          | false =>
            cases d3 : decide (65535 < x.at_) with
            | true =>
              have HR := hid (show rightE x = false by simp only [decide_eq_true_eq] at d3; simp [rightE]; omega)
              go_wp2_with fail
              go_quiet (fail)
              go_wp2_with fail
              exact bodyPost_ret (v := .bool false) (by simp [results, go_sem, *]) rfl ⟨by rw [HR.out], HFF.out.trans ((Fr.refl _ _).drewN _) (fun _ _ h => h)⟩
            | false =>
              cases d4 : decide (x.sz < 0) with
              | true =>
                have HR := hid (show rightE x = false by simp only [decide_eq_true_eq] at d4; simp [rightE]; omega)
                go_wp2_with fail
                go_quiet (fail)
                go_wp2_with fail
                exact bodyPost_ret (v := .bool false) (by simp [results, go_sem, *]) rfl ⟨by rw [HR.out], HFF.out.trans ((Fr.refl _ _).drewN _) (fun _ _ h => h)⟩
              | false =>
                cases d5 : decide (65535 < x.sz) with
                | true =>
                  have HR := hid (show rightE x = false by simp only [decide_eq_true_eq] at d5; simp [rightE]; omega)
                  go_wp2_with fail
                  go_quiet (fail)
                  go_wp2_with fail
                  exact bodyPost_ret (v := .bool false) (by simp [results, go_sem, *]) rfl ⟨by rw [HR.out], HFF.out.trans ((Fr.refl _ _).drewN _) (fun _ _ h => h)⟩
                | false =>
                  have HR := hid (show rightE x = true by simp only [decide_eq_false_iff_not] at d0 d1 d2 d3 d4 d5; simp [rightE]; omega)
                  go_wp2_with fail
                  go_quiet ((go_at_call 189; exact quiet_left (pref0_ok _ _)))
                  go_wp2_with fail
                  go_roundg 1
                  case measure => omega
                  case rel => exact .inr ⟨rfl, by simp, HR.out, HFW.out.trans ((Fr.refl _ _).drewN _) (fun _ _ h => h)⟩
theorem right17 (x : Bt) (w : World) : Calls Tryz.prog 63 #[btV x] w (ValP (.bool (rightE x)) w) :=
  right17_ok x (rightE x) w fun W g hg _ _ => right14_ok hg
end Go.Proofs.YtgdhaaokolfdoaaGreatDoor

namespace Go.Proofs.YtgdhaaokolfdoaaGreatDoor
open Go.ChangeShapes Go.WideShapes Go.RowKit Go.Sg Go.Deep Go.Joins
structure ActX where
  kind : Int
  oldest : Int
  e : Bt
instance : Inhabited ActX := ⟨⟨0, 0, ⟨0, 0, 0, 0⟩⟩⟩
structure ActXOk (x : ActX) : Prop where
  wk : (Lit.int .i64 x.kind).wf = true
  wo : (Lit.int .i64 x.oldest).wf = true
  wh : x.e.hash < 18446744073709551616
  wr : (Lit.int .i64 x.e.rg).wf = true
  wa : (Lit.int .i64 x.e.at_).wf = true
  ws : (Lit.int .i64 x.e.sz).wf = true
structure ActXR (w : World) (a : Option Addr) (l : List ActX) : Prop where
  at_ : ∀ (i : Nat) (x : ActX), l[i]? = some x → ∃ b off, a = some ⟨b, off, none⟩ ∧ b < w.heap.size ∧ (w.cell? ⟨b, off + i * 6, none⟩ = some (.int .i64 x.kind) ∧ w.cell? ⟨b, off + i * 6 + 1, none⟩ = some (.int .i64 x.oldest)) ∧ (w.cell? ⟨b, off + i * 6 + 2, none⟩ = some (.int .u64 x.e.hash) ∧ w.cell? ⟨b, off + i * 6 + 3, none⟩ = some (.int .i64 x.e.rg) ∧ w.cell? ⟨b, off + i * 6 + 4, none⟩ = some (.int .i64 x.e.at_) ∧ w.cell? ⟨b, off + i * 6 + 5, none⟩ = some (.int .i64 x.e.sz)) ∧ ActXOk x
theorem ActXR.fr {w w' : World} {a : Option Addr} {l : List ActX} (h : ActXR w a l) (F : Fr (fun _ => False) w w') : ActXR w' a l :=
  ⟨fun i x hx => by
    obtain ⟨b, off, h1, h2, ⟨h3, h4⟩, ⟨h5, h6, h7, h8⟩, h9⟩ := h.at_ i x hx
    exact ⟨b, off, h1, Nat.lt_of_lt_of_le h2 F.size, ⟨(F.cell (p := ⟨b, _, none⟩) h2 (fun h => h)).trans h3, (F.cell (p := ⟨b, _, none⟩) h2 (fun h => h)).trans h4⟩, ⟨(F.cell (p := ⟨b, _, none⟩) h2 (fun h => h)).trans h5, (F.cell (p := ⟨b, _, none⟩) h2 (fun h => h)).trans h6, (F.cell (p := ⟨b, _, none⟩) h2 (fun h => h)).trans h7, (F.cell (p := ⟨b, _, none⟩) h2 (fun h => h)).trans h8⟩, h9⟩⟩
section
variable {H : Type} {enc : TypeId × Value → H} {W : World}
theorem cells110 : Tryz.prog.cellsOf 110 = 4 := by kernel_rfl
theorem cells112 : Tryz.prog.cellsOf 112 = 6 := by kernel_rfl
theorem ent_fields : ∃ f0 f1 f2 f3 : Field, Tryz.prog.underlying 110 = some (.struct #[f0, f1, f2, f3]) ∧ (f0.offset = 0 ∧ f0.type = 29) ∧ (f1.offset = 1 ∧ f1.type = 3) ∧ (f2.offset = 2 ∧ f2.type = 3) ∧ (f3.offset = 3 ∧ f3.type = 3) := ⟨_, _, _, _, Tryz.underlying110, ⟨rfl, rfl⟩, ⟨rfl, rfl⟩, ⟨rfl, rfl⟩, ⟨rfl, rfl⟩⟩
theorem actx_fields : ∃ f0 f1 f2 : Field, Tryz.prog.underlying 112 = some (.struct #[f0, f1, f2]) ∧ (f0.offset = 0 ∧ f0.type = 3) ∧ (f1.offset = 1 ∧ f1.type = 3) ∧ (f2.offset = 2 ∧ f2.type = 110) := ⟨_, _, _, Tryz.underlying112, ⟨rfl, rfl⟩, ⟨rfl, rfl⟩, ⟨rfl, rfl⟩⟩
set_option maxRecDepth 100000 in
theorem ent_of_trod {fuel : Nat} {cs : List Value} {x : DataW H × List MemPlace} (h : DataW.trod enc Tryz.prog W 0 (fun _ => true) true fuel 110 cs = some x) :
    ∃ (hh : Nat) (r p s : Int), (cs[0]? = some (.int .u64 hh) ∧ cs[1]? = some (.int .i64 r) ∧ cs[2]? = some (.int .i64 p) ∧ cs[3]? = some (.int .i64 s)) ∧ hh < 18446744073709551616 ∧ (Lit.int .i64 r).wf = true ∧ (Lit.int .i64 p).wf = true ∧ (Lit.int .i64 s).wf = true := by
  obtain ⟨f0, f1, f2, f3, he, h0, h1, h2, h3⟩ := ent_fields
  obtain ⟨ys, n', _, _, hl, hyl, hg⟩ := DataW.trod_struct he h
  rw [cells110] at hl
  have one : ∀ (j : Nat) (f : Field), (#[f0, f1, f2, f3] : Array Field)[j]? = some f → f.offset = j → f.type = 3 → j < 4 → ∃ z, cs[j]? = some (.int .i64 z) ∧ (Lit.int .i64 z).wf = true := by
    intro j f hj ho hty hj3
    have h3 := hg j f hj
    have hys : ys[j]? = some (ys[j]'(by rw [hyl]; exact hj3)) := List.getElem?_eq_getElem _
    rw [hys, hty] at h3
    obtain ⟨z, hz, _, hw⟩ := DataW.trod_int Tryz.underlying3 h3
    refine ⟨z, ?_, hw⟩
    have h4 : ((cs.drop f.offset).take (Tryz.prog.cellsOf 3))[0]? = some (.int .i64 z) := by rw [hz]; rfl
    rw [List.getElem?_take] at h4
    split at h4
    · simpa [ho] using h4
    · cases h4
  obtain ⟨hh, e0, w0⟩ : ∃ hh : Nat, cs[0]? = some (.int .u64 hh) ∧ hh < 18446744073709551616 := by
    have h3 := hg 0 f0 rfl
    have hys : ys[0]? = some (ys[0]'(by rw [hyl]; exact (show 0 < 4 by decide))) := List.getElem?_eq_getElem _
    rw [hys, h0.2] at h3
    obtain ⟨z, hz, _, hw⟩ := DataW.trod_int Tryz.underlying29 h3
    have hz0 : 0 ≤ z ∧ z < 18446744073709551616 := by simp [Lit.wf, IntKind.min, IntKind.max, IntKind.signed, IntKind.bits] at hw; omega
    obtain ⟨zn, rfl⟩ := Int.eq_ofNat_of_zero_le hz0.1
    refine ⟨zn, ?_, by omega⟩
    have h4 : ((cs.drop f0.offset).take (Tryz.prog.cellsOf 29))[0]? = some (.int .u64 zn) := by rw [hz]; rfl
    rw [List.getElem?_take] at h4
    split at h4
    · simpa [h0.1] using h4
    · cases h4
  obtain ⟨z1, e1, w1⟩ := one 1 f1 rfl h1.1 h1.2 (by omega)
  obtain ⟨z2, e2, w2⟩ := one 2 f2 rfl h2.1 h2.2 (by omega)
  obtain ⟨z3, e3, w3⟩ := one 3 f3 rfl h3.1 h3.2 (by omega)
  exact ⟨hh, z1, z2, z3, ⟨e0, e1, e2, e3⟩, w0, w1, w2, w3⟩
set_option maxRecDepth 100000 in
theorem open_actx {base : Nat} {v : Value} {d : DataW H} {p : List MemPlace} (hv : Value.okWide Tryz.prog W .any base 104 v) (h : DataW.Trod enc Tryz.prog W 0 (fun _ => true) true 104 v d p) :
    ∃ (a : Option Addr) (n c : Nat) (l : List ActX), v = .slice a n c ∧ l.length = n ∧ ActXR W a l := by
  obtain ⟨a, len, cap, rfl⟩ := okWide_slice Tryz.underlying104 hv
  obtain ⟨f0, f1, f2, he, h0, h1, h2⟩ := actx_fields
  obtain ⟨fuel, hf⟩ := h
  rcases open_slice Tryz.underlying104 hf with ⟨hcs, _⟩ | ⟨a', len', cap', m, n, D, Pl, hcs, _, hl, hm, hmm, _, hx⟩
  · simp [Value.cells] at hcs
    obtain ⟨rfl, rfl, rfl⟩ := hcs
    exact ⟨none, 0, 0, [], rfl, rfl, ⟨fun i x hx => by simp at hx⟩⟩
  · simp [Value.cells] at hcs
    obtain ⟨rfl, rfl, rfl⟩ := hcs
    simp at hmm
    subst hmm
    have key : ∀ i, i < len → ∃ x : ActX, (W.cell? (a'.add (i * 6)) = some (.int .i64 x.kind) ∧ W.cell? ((a'.add (i * 6)).add 1) = some (.int .i64 x.oldest)) ∧ (W.cell? ((a'.add (i * 6)).add 2) = some (.int .u64 x.e.hash) ∧ W.cell? ((a'.add (i * 6)).add 3) = some (.int .i64 x.e.rg) ∧ W.cell? ((a'.add (i * 6)).add 4) = some (.int .i64 x.e.at_) ∧ W.cell? ((a'.add (i * 6)).add 5) = some (.int .i64 x.e.sz)) ∧ ActXOk x := by
      intro i hil
      obtain ⟨cs', hc, ht'⟩ := hx i (by omega)
      rw [cells112] at hc
      obtain ⟨_, hcl, hat⟩ := World.cells?_some hc
      obtain ⟨ys, n', _, _, _, hyl, hg⟩ := DataW.trod_struct he ht'
      have one : ∀ (j : Nat) (f : Field), (#[f0, f1, f2] : Array Field)[j]? = some f → f.offset = j → f.type = 3 → j < 3 → ∃ z, cs'[j]? = some (.int .i64 z) ∧ (Lit.int .i64 z).wf = true := by
        intro j f hj ho hty hj3
        have h3 := hg j f hj
        have hys : ys[j]? = some (ys[j]'(by rw [hyl]; exact hj3)) := List.getElem?_eq_getElem _
        rw [hys, hty] at h3
        obtain ⟨z, hz, _, hw⟩ := DataW.trod_int Tryz.underlying3 h3
        refine ⟨z, ?_, hw⟩
        have h4 : ((cs'.drop f.offset).take (Tryz.prog.cellsOf 3))[0]? = some (.int .i64 z) := by rw [hz]; rfl
        rw [List.getElem?_take] at h4
        split at h4
        · simpa [ho] using h4
        · cases h4
      obtain ⟨z0, e0, w0⟩ := one 0 f0 rfl h0.1 h0.2 (by omega)
      obtain ⟨z1, e1, w1⟩ := one 1 f1 rfl h1.1 h1.2 (by omega)
      obtain ⟨hh, r, p, s, ⟨k0, k1, k2, k3⟩, wh, wr, wp, ws⟩ : ∃ (hh : Nat) (r p s : Int), (cs'[2]? = some (.int .u64 hh) ∧ cs'[3]? = some (.int .i64 r) ∧ cs'[4]? = some (.int .i64 p) ∧ cs'[5]? = some (.int .i64 s)) ∧ hh < 18446744073709551616 ∧ (Lit.int .i64 r).wf = true ∧ (Lit.int .i64 p).wf = true ∧ (Lit.int .i64 s).wf = true := by
        have h3 := hg 2 f2 rfl
        have hys : ys[2]? = some (ys[2]'(by rw [hyl]; exact (show 2 < 3 by decide))) := List.getElem?_eq_getElem _
        rw [hys, h2.2] at h3
        obtain ⟨hh, r, p, s, ⟨k0, k1, k2, k3⟩, ww⟩ := ent_of_trod h3
        refine ⟨hh, r, p, s, ⟨?_, ?_, ?_, ?_⟩, ww⟩
        all_goals
          first
            | (rw [List.getElem?_take, List.getElem?_drop, h2.1] at k0; split at k0 <;> first | exact k0 | cases k0)
            | (rw [List.getElem?_take, List.getElem?_drop, h2.1] at k1; split at k1 <;> first | exact k1 | cases k1)
            | (rw [List.getElem?_take, List.getElem?_drop, h2.1] at k2; split at k2 <;> first | exact k2 | cases k2)
            | (rw [List.getElem?_take, List.getElem?_drop, h2.1] at k3; split at k3 <;> first | exact k3 | cases k3)
      have q0 := (hat 0 (by omega)).trans e0
      have q1 := (hat 1 (by omega)).trans e1
      have q2 := (hat 2 (by omega)).trans k0
      have q3 := (hat 3 (by omega)).trans k1
      have q4 := (hat 4 (by omega)).trans k2
      have q5 := (hat 5 (by omega)).trans k3
      exact ⟨⟨z0, z1, ⟨hh, r, p, s⟩⟩, ⟨by simpa [Addr.add] using q0, q1⟩, ⟨q2, q3, q4, q5⟩, ⟨w0, w1, wh, wr, wp, ws⟩⟩
    obtain ⟨V, hV⟩ := choose_lt (α := ActX) key
    refine ⟨_, len, _, (List.range len).map V, rfl, by simp, ⟨fun i x hx => ?_⟩⟩
    have hil : i < len := by
      have := (List.getElem?_eq_some_iff.1 hx).1
      simpa using this
    simp [hil] at hx
    subst hx
    obtain ⟨⟨k0, k1⟩, ⟨k2, k3, k4, k5⟩, kw⟩ := hV i hil
    have hs0 := (hV 0 (by omega)).1.1
    simp [Addr.add] at hs0
    have hs := spot_none hs0
    obtain ⟨b, off, hab⟩ : ∃ b off, a' = ⟨b, off, none⟩ := ⟨_, _, hs⟩
    subst hab
    have hb := World.block_lt_of_cell? _ _ hs0
    simp only [addr_add0] at k0 k1 k2 k3 k4 k5
    exact ⟨b, off, rfl, hb, ⟨k0, k1⟩, ⟨k2, k3, k4, k5⟩, kw⟩
end
end Go.Proofs.YtgdhaaokolfdoaaGreatDoor

namespace Go.Proofs.YtgdhaaokolfdoaaGreatDoor
open Go.RowKit Go.Sg Go.Sg.Bits Go.Sg.Clk CP SF
theorem good_right {E : Bt} (hh : E.hash < 18446744073709551616) (h : rightE E = true) : goodE E := by
  simp [rightE] at h
  exact ⟨hh, ⟨by omega, by omega⟩, ⟨by omega, by omega⟩, ⟨by omega, by omega⟩⟩
theorem StI.fr {w0 V : World} {base bx k : Nat} {es : List Bt} (h : StI w0 base bx k es V) : Fr (fun _ => False) w0 V := by
  obtain ⟨_, _, _, _, _, _, _, _, _, _, _, h, _⟩ := h; exact h
set_option maxHeartbeats 16000000 in
set_option maxRecDepth 100000 in
theorem indexStale_in {a : Option Addr} {n c : Nat} {l : List ActX} (hn : l.length = n) (w : World) (hT : Tab w) (hA : ActXR w a l) :
    Calls Tryz.prog 13 #[.slice a n c] w fun e w' => e = .returned (.bool true) ∧ Fr (fun _ => False) w w' := by
  have HM := hid (made17_ok w hT)
  have HT := hid hT
  have HA := hid hA
  have HN := hid hn
  clear hT hA hn
  go_enter Tryz.func13, Tryz.ntmps13
  by_cases h100 : (100 : Int) < (n : Int)
  · go_wp2_with fail
    exact bodyPost_ret (v := .bool true) (by simp [results, go_sem, *]) rfl ⟨rfl, Fr.refl _ _⟩
  have hn100 : n ≤ 100 := by omega
  have HN1 := hid hn100
  go_wp2_with fail
  refine HM.out.mono ?_
  rintro e w1 ⟨B, bx, bd, y, x0, r, rfl, F1, ⟨hb1, hb2, hb3⟩, hI, hx0, -⟩
  have HI := hid (show StI w w.heap.size bx 0 [] w1 from ⟨B, bd, y, x0, r, 3, hI, by omega, hx0, by simp, hb1, F1, ⟨rfl, hb2, hb3⟩⟩)
  clear F1 hb1 hb2 hb3 hI hx0 HM
  go_wp2_with fail
  go_loopg [6] (n + 1) (fun m v6 wr => ∃ (i k : Nat) (es : List Bt), v6 = .int .i64 i ∧ m + i = n + 1 ∧ i ≤ n ∧ k ≤ 2 * i ∧ StI w w.heap.size bx k es wr)
  case atStart => exact ⟨0, 0, [], rfl, rfl, by omega, by omega, HI.out⟩
  case round =>
    obtain ⟨i, k, es, rfl, hmi, hin, hk2, hS⟩ := hrel
    have HS := hid hS
    have hFw : Fr (fun _ => False) w wr := by obtain ⟨_, _, _, _, _, _, _, _, _, _, _, h, _⟩ := hS; exact h
    have HFw := hid hFw
    clear hS hFw
    by_cases hlt : i < n
    · have hli : (i : Int) < (n : Int) := by omega
      obtain ⟨x, hx⟩ : ∃ x, l[i]? = some x := ⟨_, List.getElem?_eq_getElem (by rw [HN.out]; exact hlt)⟩
      obtain ⟨b, off, hab, hbw, -, ⟨e0, e1, e2, e3⟩, hok⟩ := HA.out.at_ i x hx
      subst hab
      have HC0 := hid (fun (V : World) (F : Fr (fun _ => False) w V) => And.intro ((F.cell (p := ⟨b, _, none⟩) hbw (fun h => h)).trans e0) (And.intro ((F.cell (p := ⟨b, _, none⟩) hbw (fun h => h)).trans e1) (And.intro ((F.cell (p := ⟨b, _, none⟩) hbw (fun h => h)).trans e2) ((F.cell (p := ⟨b, _, none⟩) hbw (fun h => h)).trans e3))))
      have HX := hid (And.intro hx hok)
      clear hx hok e0 e1 e2 e3
      obtain ⟨m, rfl⟩ : ∃ m, gk = m + 1 := ⟨gk - 1, by omega⟩
      have hrt := right17 x.e wr
      obtain ⟨rb, hrb⟩ : ∃ rb, rightE x.e = rb := ⟨_, rfl⟩
      rw [hrb] at hrt
      have HRt := hid hrt
      have HRb := hid hrb
      obtain ⟨e0, e1, e2, e3⟩ := HC0.out _ HFw.out
      clear hrt hrb
      go_wp2_with fail
      refine HRt.out.mono ?_
      rintro e V2 ⟨rfl, F2⟩
      have HS2 := hid (HS.out.fr0 F2)
      have HF2 := hid (HFw.out.trans F2 (fun _ _ h => h))
      clear F2 e0 e1 e2 e3 HRt
      cases rb with
      | false =>
        go_wp2_with fail
        go_roundg m
        case measure => omega
        case rel => exact ⟨i + 1, k, es, by simp, by omega, by omega, by omega, HS2.out⟩
      | true =>
        obtain ⟨e0, e1, e2, e3⟩ := HC0.out _ HF2.out
        go_wp2_with fail
        refine (entry17_ok x.e _).mono ?_
        rintro e V3 ⟨rfl, F3⟩
        have HS3 := hid (HS2.out.fr0 F3)
        clear F3 e0 e1 e2 e3
        have hgo := good_right HX.out.2.wh HRb.out
        have HPu := hid (stI_put HS3.out x.e hgo (by have := HN1.out; omega))
        have HGo := hid hgo
        clear hgo
        go_wp2_with fail
        refine HPu.out.mono ?_
        rintro e V4 ⟨rfl, hS4⟩
        have HS4 := hid hS4
        have hF4 := hS4.fr
        have HF4 := hid hF4
        clear HPu hS4 hF4
        have HFi := hid (stI_find HS4.out (hash := x.e.hash) HGo.out.1 (by have := HN1.out; omega))
        obtain ⟨e0, e1, e2, e3⟩ := HC0.out _ HF4.out
        go_wp2_with fail
        refine HFi.out.mono ?_
        rintro e V5 ⟨rfl, hS5⟩
        obtain ⟨h1, h2⟩ := stale_at x.e HS3.out.sorted
        rw [h1, h2, show locV (some x.e) = .agg #[.int .i64 x.e.rg, .int .i64 x.e.at_, .int .i64 x.e.sz] from rfl]
        have HS5 := hid hS5
        clear HFi hS5 e0 e1 e2 e3 h1 h2
        obtain ⟨b9, hb9⟩ : ∃ b9, V5.heap.size = b9 := ⟨_, rfl⟩
        go_upto_region 12 with fail
        obtain ⟨V6, hV6⟩ : ∃ V6, V5.alloc (.cells #[.int .i64 x.e.rg, .int .i64 x.e.at_, .int .i64 x.e.sz] 116) = V6 := ⟨_, rfl⟩
        rw [hV6]
        have F6 : Fr (fun _ => False) V5 V6 := by rw [← hV6]; exact (Fr.refl _ _).alloc _
        have b6 : V6.heap[b9]? = some (.cells #[.int .i64 x.e.rg, .int .i64 x.e.at_, .int .i64 x.e.sz] 116) := by rw [← hV6, ← hb9]; exact heap_alloc_new _ _
        have HSt7 := hid (HS5.out.fr0 F6)
        have HFw6 := hid (HSt7.out.fr)
        have HC := hid (fun (V : World) (F : Fr (fun _ => False) V6 V) => And.intro (cells3 (F.heap b6 (fun h => h))) (HC0.out V (HFw6.out.trans F (fun _ _ h => h))))
        have hne : ∀ W, (binOp .neq 116 (.agg #[.int .i64 x.e.rg, .int .i64 x.e.at_, .int .i64 x.e.sz]) (.agg #[.int .i64 x.e.rg, .int .i64 x.e.at_, .int .i64 x.e.sz])).run Tryz.prog W = .ok (.bool false) W := fun W => by rw [neq116]; simp
        have hfd : ∀ W, (Instr.field 118 (.agg #[.int .u64 x.e.hash, .int .i64 x.e.rg, .int .i64 x.e.at_, .int .i64 x.e.sz]) 1).run Tryz.prog W = .ok (.agg #[.int .i64 x.e.rg, .int .i64 x.e.at_, .int .i64 x.e.sz]) W := fun W => by kernel_rfl
        have FG0 : Fr (fun _ => False) V6 V6.drew := (Fr.refl _ _).drew
        clear hV6 hb9 F6 b6
        refine wp_region_noPanic ?_
        refine region_plan (fun V => Fr (fun _ => False) V6 V) (.rd 0 (.rd 1 (.rd 2 (.rd 3 (.rd 4 (.rd 5 (.rd 6 (.rd 7 (.rd 8 (.rd 9 (.rd 10 (.rd 11 (.rd 12 (.rd 13 (.rd 14 (.rd 15 (.rd 16 (.rd 17 (.rd 18 (.rd 19 (.op 20 (.rd 21 (.rd 22 (.rd 23 (.rd 24 (.rd 25 (.op 26 (.rd 27 (.rd 28 (.rd 29 (.rd 30 (.op 31 (.rd 32 (.rd 33 .done)))))))))))))))))))))))))))))))))) (by kernel_rfl) (by kernel_rfl) (by kernel_rfl) (fun _ _ _ _ _ h => h) FG0 ?_
        iterate 20
          try simp only [Act.put, List.setIfInBounds_toArray, List.set_cons_zero, List.set_cons_succ]
          refine plan_rd _ ?_ (by simp only [List.getElem?_toArray, List.getElem?_cons_zero, List.getElem?_cons_succ]; rfl) (by rfl) ?_ ?_
          rotate_left
          · intro V hV
            obtain ⟨⟨g0, g1, g2, gz, gl⟩, ⟨e0, e1, e2, e3⟩⟩ := HC.out V hV
            go_simp
            try with_reducible rfl
        try simp only [Act.put, List.setIfInBounds_toArray, List.set_cons_zero, List.set_cons_succ]
        refine plan_op _ (by simp only [List.getElem?_toArray, List.getElem?_cons_zero, List.getElem?_cons_succ]; rfl) (by rfl) (fun K hK => ?_)
        go_simp
        refine (entry17_ok x.e _).mono ?_
        rintro _ V8 ⟨rfl, G1⟩
        have FG := FG0.trans G1 (fun _ _ h => h)
        try go_simp
        refine hK _ _ FG ?_
        clear hK K
        iterate 5
          try simp only [Act.put, List.setIfInBounds_toArray, List.set_cons_zero, List.set_cons_succ]
          refine plan_rd _ ?_ (by simp only [List.getElem?_toArray, List.getElem?_cons_zero, List.getElem?_cons_succ]; rfl) (by rfl) ?_ ?_
          rotate_left
          · intro V hV
            obtain ⟨⟨g0, g1, g2, gz, gl⟩, ⟨e0, e1, e2, e3⟩⟩ := HC.out V hV
            go_simp
            try with_reducible rfl
        try simp only [Act.put, List.setIfInBounds_toArray, List.set_cons_zero, List.set_cons_succ]
        refine plan_op _ (by simp only [List.getElem?_toArray, List.getElem?_cons_zero, List.getElem?_cons_succ]; rfl) (by rfl) (fun K hK => ?_)
        go_simp
        refine (stI_depth (HSt7.out.fr0 FG)).mono ?_
        rintro _ _ ⟨rfl, rfl⟩
        try go_simp
        refine hK _ _ FG ?_
        clear hK K
        iterate 4
          try simp only [Act.put, List.setIfInBounds_toArray, List.set_cons_zero, List.set_cons_succ]
          refine plan_rd _ ?_ (by simp only [List.getElem?_toArray, List.getElem?_cons_zero, List.getElem?_cons_succ]; rfl) (by rfl) ?_ ?_
          rotate_left
          · intro V hV
            obtain ⟨⟨g0, g1, g2, gz, gl⟩, ⟨e0, e1, e2, e3⟩⟩ := HC.out V hV
            go_simp
            try with_reducible rfl
        try simp only [Act.put, List.setIfInBounds_toArray, List.set_cons_zero, List.set_cons_succ]
        refine plan_op _ (by simp only [List.getElem?_toArray, List.getElem?_cons_zero, List.getElem?_cons_succ]; rfl) (by rfl) (fun K hK => ?_)
        go_simp
        refine (stI_splits (HSt7.out.fr0 FG)).mono ?_
        rintro _ _ ⟨rfl, rfl⟩
        try go_simp
        refine hK _ _ FG ?_
        clear hK K
        iterate 2
          try simp only [Act.put, List.setIfInBounds_toArray, List.set_cons_zero, List.set_cons_succ]
          refine plan_rd _ ?_ (by simp only [List.getElem?_toArray, List.getElem?_cons_zero, List.getElem?_cons_succ]; rfl) (by rfl) ?_ ?_
          rotate_left
          · intro V hV
            obtain ⟨⟨g0, g1, g2, gz, gl⟩, ⟨e0, e1, e2, e3⟩⟩ := HC.out V hV
            go_simp
            try with_reducible rfl
        try simp only [Act.put, List.setIfInBounds_toArray, List.set_cons_zero, List.set_cons_succ]
        refine plan_done ?_
        refine NoPanic.normal ?_
        have HFG := hid FG
        clear FG FG0 G1 hne hfd
        go_wp2_with fail
        go_roundg m
        case measure => omega
        case rel => exact ⟨i + 1, k + 1 + 1, staleE es x.e, by simp, by omega, by omega, by omega, HSt7.out.fr0 HFG.out⟩
    · have hli : ¬ (i : Int) < (n : Int) := by omega
      have HAw := hid (awake17_ok wr (HT.out.fr HFw.out (fun h => h)))
      go_wp2_with fail
      refine HAw.out.mono ?_
      rintro e V2 ⟨rfl, F2⟩
      go_wp2_with fail
      exact bodyPost_ret (v := .bool true) (by simp [results, go_sem, *]) rfl ⟨rfl, HFw.out.trans F2 (fun _ _ h => h)⟩
end Go.Proofs.YtgdhaaokolfdoaaGreatDoor
