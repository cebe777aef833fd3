/- A pack of texts: IT3, XSP, IT4. Conditions: those that each text names. -/
import Derived.Test.YtgdhaaokolfdoaaGreatDoorJCD
import Derived.Test.YtgdhaaokolfdoaaGreatDoorJCH
import Derived.Test.YtgdhaaokolfdoaaGreatDoorJCF
import Derived.Test.YtgdhaaokolfdoaaGreatDoorJCG
set_option linter.unusedVariables false
set_option linter.unusedSimpArgs false
set_option linter.unnecessarySimpa false
namespace Go.Proofs.YtgdhaaokolfdoaaGreatDoor
open Go.RowKit Go.Sg CP SF
theorem bk_filter {d p : Nat} {es : List Bt} (h : BkOk d p es) (f : Bt → Bool) : BkOk d p (es.filter f) :=
  ⟨Nat.le_trans (List.length_filter_le _ _) h.1, List.Pairwise.sublist List.filter_sublist h.2.1, fun x hx => h.2.2 x (List.mem_filter.1 hx).1⟩
theorem bk_erase {d p : Nat} {es : List Bt} (h : BkOk d p es) (i : Nat) : BkOk d p (es.eraseIdx i) :=
  ⟨Nat.le_trans (List.length_eraseIdx_le _ _) h.1, List.Pairwise.sublist (List.eraseIdx_sublist _ _) h.2.1, fun x hx => h.2.2 x (List.mem_of_mem_eraseIdx hx)⟩
theorem sorted_ins {es : List Bt} {x : Bt} (hs : SortedB es) (hn : hasB es x.hash = false) : SortedB (insB es (plI es x.hash) x) := by
  obtain ⟨k, hk⟩ : ∃ k, plI es x.hash = k := ⟨_, rfl⟩
  have h1 : ∀ y ∈ es.take k, y.hash < x.hash := fun y hy => by
    obtain ⟨i, hi⟩ := List.mem_iff_getElem?.1 hy
    rw [List.getElem?_take] at hi
    split at hi
    · exact (plI_lt hs hi).1 (by omega)
    · cases hi
  have h2 : ∀ y ∈ es.drop k, x.hash < y.hash := fun y hy => by
    obtain ⟨i, hi⟩ := List.mem_iff_getElem?.1 hy
    rw [List.getElem?_drop] at hi
    have hn1 : ¬ y.hash < x.hash := fun h => by have := (plI_lt hs hi).2 h; omega
    have hn2 : y.hash ≠ x.hash := fun h => by
      have : hasB es x.hash = true := by
        unfold hasB
        rw [List.any_eq_true]
        exact ⟨y, List.mem_of_getElem? hi, by simp [h]⟩
      rw [hn] at this; cases this
    omega
  rw [hk]
  unfold insB SortedB
  rw [List.pairwise_append]
  refine ⟨List.Pairwise.sublist (List.take_sublist _ _) hs, List.pairwise_cons.2 ⟨h2, List.Pairwise.sublist (List.drop_sublist _ _) hs⟩, fun a ha b hb => ?_⟩
  rcases List.mem_cons.1 hb with rfl | hb
  · exact h1 a ha
  · exact Nat.lt_trans (h1 a ha) (h2 b hb)
theorem sorted_set {es : List Bt} {x y : Bt} {k : Nat} (hs : SortedB es) (hy : es[k]? = some y) (he : y.hash = x.hash) : SortedB (es.set k x) := by
  have hk := (List.getElem?_eq_some_iff.1 hy).1
  refine List.pairwise_iff_getElem.2 fun i j hi hj hij => ?_
  simp only [List.length_set] at hi hj
  have key : ∀ (m : Nat) (hm : m < (es.set k x).length) (hm' : m < es.length), (es.set k x)[m].hash = es[m].hash := fun m hm hm' => by
    rw [List.getElem_set]
    split
    · rename_i e
      subst e
      rw [List.getElem?_eq_getElem hk] at hy
      cases hy
      exact he.symm
    · rfl
  rw [key i (by simpa using hi) hi, key j (by simpa using hj) hj]
  exact List.pairwise_iff_getElem.1 hs i j hi hj hij
theorem bk_put {d p : Nat} {es : List Bt} {x : Bt} (h : BkOk d p es) (hr : roomB es x.hash 3 = true) (hg : goodE x) (hp : preM x.hash d = p) : BkOk d p (putB es x) := by
  unfold putB
  cases hb : hasB es x.hash with
  | true =>
    rw [if_pos rfl]
    obtain ⟨y, hy, he⟩ := (hasB_iff h.2.1).1 hb
    refine ⟨by rw [List.length_set]; exact h.1, sorted_set h.2.1 hy he, fun z hz => ?_⟩
    rcases List.mem_or_eq_of_mem_set hz with hz | rfl
    · exact h.2.2 z hz
    · exact ⟨hg, hp⟩
  | false =>
    rw [if_neg (by decide)]
    have hl : es.length < 3 := by
      unfold roomB at hr
      rw [hb] at hr
      simpa using hr
    refine ⟨by rw [insB_len (plI_le _ _)]; omega, sorted_ins h.2.1 hb, fun z hz => ?_⟩
    unfold insB at hz
    rcases List.mem_append.1 hz with hz | hz
    · exact h.2.2 z (List.mem_of_mem_take hz)
    · rcases List.mem_cons.1 hz with rfl | hz
      · exact ⟨hg, hp⟩
      · exact h.2.2 z (List.mem_of_mem_drop hz)
theorem pre_succ {h d : Nat} (hd : d < 20) (hh : h < 18446744073709551616) : preM h (d + 1) / 2 = preM h d := by
  have := pre_div (h := h) (g := d + 1) (d := d) (by omega) (by omega) hh
  rwa [show d + 1 - d = 1 by omega, Nat.pow_one] at this
theorem bk_halves {d p : Nat} {es : List Bt} (h : BkOk d p es) (hd : d < 20) : BkOk (d + 1) (2 * p) (es.filter fun x => !halfB d x) ∧ BkOk (d + 1) (2 * p + 1) (es.filter (halfB d)) := by
  refine ⟨⟨(bk_filter h _).1, (bk_filter h _).2.1, fun x hx => ?_⟩, ⟨(bk_filter h _).1, (bk_filter h _).2.1, fun x hx => ?_⟩⟩
  · obtain ⟨hx1, hx2⟩ := List.mem_filter.1 hx
    obtain ⟨hg, hp⟩ := h.2.2 x hx1
    have h1 := pre_succ hd hg.1
    simp [halfB] at hx2
    exact ⟨hg, by omega⟩
  · obtain ⟨hx1, hx2⟩ := List.mem_filter.1 hx
    obtain ⟨hg, hp⟩ := h.2.2 x hx1
    have h1 := pre_succ hd hg.1
    simp [halfB] at hx2
    exact ⟨hg, by omega⟩
def bare : Tr → Tr
  | .leaf _ es => .leaf (0, 0) es
  | .node l r => .node (bare l) (bare r)
theorem bare_high : ∀ t : Tr, (bare t).high = t.high
  | .leaf _ _ => rfl
  | .node l r => by simp only [bare, Tr.high, bare_high l, bare_high r]
theorem bare_at : ∀ (t : Tr) (g k d p : Nat), (bare t).at_ g k d p = ((t.at_ g k d p).1, (t.at_ g k d p).2.1, (0, 0), (t.at_ g k d p).2.2.2)
  | .leaf _ _, _, _, _, _ => rfl
  | .node l r, g, k, d, p => by
    simp only [bare, Tr.at_]
    split
    · exact bare_at l _ _ _ _
    · exact bare_at r _ _ _ _
theorem bare_put (f f' : Rf → List Bt → Tr) (hf : ∀ r es, bare (f r es) = f' (0, 0) es) : ∀ (t : Tr) (g k : Nat), bare (t.put g k f) = (bare t).put g k f'
  | .leaf r es, g, k => hf r es
  | .node l r, g, k => by
    simp only [bare, Tr.put]
    split
    · simp only [bare]; rw [bare_put f f' hf l]
    · simp only [bare]; rw [bare_put f f' hf r]
structure PutRes where
  t : Tr
  g : Nat
  sp : Int
  lost : Bool
def freshE (es : List Bt) (h : Nat) (oldest : Int) : List Bt := if roomB es h 3 = true then es else es.filter (freshB oldest)
def leafE (es : List Bt) : Rf → List Bt → Tr := fun _ _ => .leaf (0, 0) es
def nodeE (d : Nat) (es : List Bt) : Rf → List Bt → Tr := fun _ _ => .node (.leaf (0, 0) (es.filter fun x => !halfB d x)) (.leaf (0, 0) (es.filter (halfB d)))
def putS : Nat → Tr → Nat → Int → Bt → Int → PutRes
  | 0, t, g, sp, _, _ => ⟨t, g, sp, false⟩
  | n + 1, t, g, sp, y, oldest =>
    let b := t.at_ g (preM y.hash g) 0 0
    let es := freshE b.2.2.2 y.hash oldest
    if roomB es y.hash 3 = true then ⟨t.put g (preM y.hash g) (leafE (putB es y)), g, sp, false⟩
    else if b.1 < 3 then
      if b.1 = g then putS n (t.put (g + 1) (2 * preM y.hash g) (nodeE b.1 es)) (g + 1) (sp + 1) y oldest
      else putS n (t.put g (preM y.hash g) (nodeE b.1 es)) g (sp + 1) y oldest
    else ⟨t.put g (preM y.hash g) (leafE (putB (es.eraseIdx (bestI es es.length).toNat) y)), g, sp, true⟩
end Go.Proofs.YtgdhaaokolfdoaaGreatDoor

namespace Go.Proofs.YtgdhaaokolfdoaaGreatDoor
open Go.RowKit Go.Sg Go.Sg.Bits Go.Sg.Clk CP SF
theorem frX_mono {B : Blk} {X Y : Nat → Prop} {w w' : World} (F : FrX B X w w') (h : ∀ b, X b → Y b) : FrX B Y w w' := Fr.mono F fun b _ hs => hs.imp id (h b)
theorem frX_own {B : Blk} {X : Nat → Prop} {w w' : World} {b e size n : Nat} {v : Value} {xs : List Value} (h : w.ownsRow b e size v n xs) (he : e ∉ mutT) (F : FrX B X w w') (hX : ∀ g, v.ownBlock = some g → ¬ X g) : w'.ownsRow b e size v n xs := by
  obtain ⟨hl, h0 | ⟨g, cap, cur, hv, hb, hg, r⟩⟩ := h
  · exact ⟨hl, .inl h0⟩
  · exact ⟨hl, .inr ⟨g, cap, cur, hv, hb, frX_heap F hg he (hX g (by rw [hv]; rfl)), r⟩⟩
theorem IdxM.splits {w : World} {B : Blk} {bx bd : Nat} {y : Cs} {P : Prot} {a : Bool} {N : Nat} {x : DirD} {tops slots : List Rf} {L : List Bp} {sp : Int} (h : IdxM w B bx bd y P a N x tops slots L sp) (z : Int) : IdxM (w.setCell ⟨bx, 4, none⟩ (.int .i64 z)) B bx bd y P a N x tops slots L z := by
  have F : Fr (fun k => k = bx) w (w.setCell ⟨bx, 4, none⟩ (.int .i64 z)) := (Fr.refl (fun k => k = bx) w).setCell (a := ⟨bx, _, none⟩) (fun _ => rfl) _
  have h0 : 0 < bx := Nat.lt_of_lt_of_le h.st.base h.base.2
  refine { h with st := h.st.frL F h.idx (by decide) h0, idx := ?_, dir := F.heap h.dir (fun e => h.bd_lt.2.2 e.symm) }
  show (w.setCell ⟨bx, 4, none⟩ (.int .i64 z)).heap[bx]? = _
  rw [heap_setCell_cells _ _ _ _ h.idx]; rfl
theorem half_slots {d p g i : Nat} (hd : d + 1 ≤ g) (hi : i ∈ slN (2 * p * 2 ^ (g - (d + 1))) (2 ^ (g - (d + 1)))) : i ∈ slN (p * 2 ^ (g - d)) (2 ^ (g - d)) ∧ i ∉ slN ((2 * p + 1) * 2 ^ (g - (d + 1))) (2 ^ (g - (d + 1))) := by
  have e : 2 ^ (g - d) = 2 * 2 ^ (g - (d + 1)) := by
    rw [show g - d = g - (d + 1) + 1 by omega, Nat.pow_succ]; omega
  rw [e]
  generalize 2 ^ (g - (d + 1)) = q at *
  have e2 : p * (2 * q) = 2 * p * q := by rw [← Nat.mul_assoc, Nat.mul_comm p 2]
  rw [e2, show (2 * p + 1) * q = 2 * p * q + q by rw [Nat.add_mul, Nat.one_mul]]
  generalize 2 * p * q = z at *
  simp only [mem_slN] at hi ⊢
  omega
def SplitU (B : Blk) (bx bd : Nat) (y : Cs) (P : Prot) (a : Bool) (N : Nat) (g : Nat) (slots : List Rf) (S0 S1 : List Nat) (L : List Bp) (j : Nat) (l0 l1 : List Int) (sp : Int) (w : World) (e : Ending) (w' : World) : Prop :=
  ∃ err, e = .returned (.int .i64 err) ∧ FrX B (fun b => b = bd ∨ b = bx) w w' ∧ ((err = 0 ∧ ∃ (m0 m1 : Nat) (y' : Cs) (x' : DirD) (tops' : List Rf), IdxM w' B bx bd y' P a N x' tops' (setM (setM slots S1 ((m1 : Int), (y.gen : Int))) S0 ((m0 : Int), (y.gen : Int))) ((L ++ [(((m1 : Int), (y.gen : Int)), l1)]).set j (((m0 : Int), (y.gen : Int)), l0)) sp ∧ x'.depth = g ∧ (Like y y' ∧ y'.gen = y.gen ∧ y'.dead = y.dead)) ∨ (err = 4 ∧ a = true ∧ DownC w' B y P N))
set_option maxHeartbeats 16000000 in
set_option maxRecDepth 100000 in
theorem xsplit_ok {w : World} {B : Blk} {bx bd : Nat} {y : Cs} {P : Prot} {a : Bool} {N : Nat} {x : DirD} {tops slots : List Rf} {L : List Bp} {sp : Int} (h : IdxM w B bx bd y P a N x tops slots L sp) {r : Rf} {d p j g : Nat} {v : Value} {es : List Bt} {ld0 : List Int} {sl' : List Rf} (hj : L[j]? = some (r, ld0)) (hE : OwnE w 0 v es) (hk : BkOk d p es) (hd : d ≤ x.depth) (hd3 : d < 3) (hp : p < 2 ^ d) (hL : L.length < 10) (hsp : 0 ≤ sp ∧ sp ≤ 100000)
    (hg : d = x.depth ∧ g = x.depth + 1 ∧ sl' = dblM slots ∨ d ≠ x.depth ∧ g = x.depth ∧ sl' = slots)
    (hsl : ∀ i ∈ slN (p * 2 ^ (g - d)) (2 ^ (g - d)), sl'[i]? = some r) (hN : N + 141 ≤ 90000) :
    Calls Tryz.prog 133 #[xptr bx, slotV r d p v] w (SplitU B bx bd y P a (N + 141) g sl' (slN (2 * p * 2 ^ (g - (d + 1))) (2 ^ (g - (d + 1)))) (slN ((2 * p + 1) * 2 ^ (g - (d + 1))) (2 ^ (g - (d + 1)))) L j (packM (d + 1) (2 * p) (es.filter fun x => !halfB d x)) (packM (d + 1) (2 * p + 1) (es.filter (halfB d))) (sp + 1) w) := by
  obtain ⟨va, vc, rfl, -, -, -, -⟩ := own_slice hE
  obtain ⟨n, hn⟩ : ∃ n, es.length = n := ⟨_, rfl⟩
  have hsm := h.small
  have hp20 : p < 1048576 := Nat.lt_of_lt_of_le hp (Nat.le_trans (Nat.pow_le_pow_right (by decide) (by omega : d ≤ 20)) (by decide))
  have HSW := hid (show wrap64 (sp + 1) = sp + 1 by simp only [wrap64]; omega)
  have hblt := h.bd_lt
  obtain ⟨w1, hw1⟩ : ∃ w1, w.alloc (.cells #[.int .i64 r.1, .int .i64 r.2, .int .i64 d, .int .i64 p, .slice va n vc] 131) = w1 := ⟨_, rfl⟩
  have b3 : w1.heap[w.heap.size]? = some (.cells #[.int .i64 r.1, .int .i64 r.2, .int .i64 d, .int .i64 p, .slice va n vc] 131) := by rw [← hw1]; exact heap_alloc_new _ _
  have F1 : Fr (fun _ => False) w w1 := by rw [← hw1]; exact (Fr.refl _ _).alloc _
  have HB := hid (fun (V : World) (F : FrX B (fun b => b = bd ∨ b = bx) w1 V) => cells5 (frX_heap F b3 (by decide) (fun e => by omega)))
  have HB1 := hid (fun (V : World) (F : Fr (fun _ => False) w1 V) => And.intro (cells5 (F.heap b3 (fun h => h))) (cells5 (F.heap (F1.heap h.idx (fun h => h)) (fun h => h))))
  have HDp := hid (fun V (F : Fr (fun _ => False) w1 V) => depth_ok (F.heap (F1.heap h.dir (fun h => h)) (fun h => h) : DirAt V bd B.s x))
  have hE1 := own_none hE F1
  have hEX : ∀ g', (Value.slice va es.length vc).ownBlock = some g' → ¬ (g' = bd ∨ g' = bx) := fun g' hg' e => by
    obtain ⟨_, ⟨h0, _⟩ | ⟨g2, cap, cur, hv, _, hg2, _⟩⟩ := hE
    · rw [h0] at hg'; cases hg'
    · rw [hv] at hg'
      have e2 : g2 = g' := Option.some.inj hg'
      subst e2
      rcases e with e | e
      · have := h.dir; unfold DirAt at this; rw [← e, hg2] at this; cases this
      · have := h.idx; unfold IdxAt at this; rw [← e, hg2] at this; cases this
  have HE := hid (And.intro (fun V (F : FrX B (fun b => b = bd ∨ b = bx) w1 V) => (show OwnE V 0 (.slice va es.length vc) es from frX_own hE1 (by decide) F hEX)) (And.intro hk hn))
  obtain ⟨gx, hgx⟩ : ∃ gx, x.depth = gx := ⟨_, rfl⟩
  have HD := hid (And.intro hgx (And.intro h (And.intro F1 (And.intro hj (And.intro hsl hL)))))
  rw [hgx] at HDp hd hg
  have HHg := hid hg
  have FG : Fr (fun _ => False) w1 w1.drew := (Fr.refl _ _).drew
  have HW := hid hw1
  obtain ⟨⟨o0, o1, o2, o3, o4, oz, ol⟩, ⟨i0, i1, i2, i3, i4, iz, il⟩⟩ := HB1.out _ (Fr.refl _ _)
  rw [hn]
  clear h hj hE hk hsl hw1 b3 F1 hE1 hEX hn hgx hL hg hsm
  go_enter Tryz.func133, Tryz.ntmps133
  go_upto_region 1 with fail
  rw [HW.out]
  refine wp_region_noPanic ?_
  refine region_plan (fun V => Fr (fun _ => False) w1 V) (.rd 0 (.rd 1 (.rd 2 (.rd 3 (.rd 4 (.rd 5 (.rd 6 (.op 7 (.rd 8 .done))))))))) (by kernel_rfl) (by kernel_rfl) (by kernel_rfl) (fun _ _ _ _ _ h => h) FG ?_
  iterate 7
    try simp only [Act.put, List.setIfInBounds_toArray, List.set_cons_zero, List.set_cons_succ]
    refine plan_rd _ ?_ (by simp only [List.getElem?_toArray, List.getElem?_cons_zero, List.getElem?_cons_succ]; rfl) (by rfl) ?_ ?_
    rotate_left
    · intro V hV
      obtain ⟨⟨o0, o1, o2, o3, o4, oz, ol⟩, ⟨i0, i1, i2, i3, i4, iz, il⟩⟩ := HB1.out V hV
      go_simp
      try with_reducible rfl
  try simp only [Act.put, List.setIfInBounds_toArray, List.set_cons_zero, List.set_cons_succ]
  refine plan_op _ (by simp only [List.getElem?_toArray, List.getElem?_cons_zero, List.getElem?_cons_succ]; rfl) (by rfl) (fun K hK => ?_)
  go_simp
  refine (HDp.out _ FG).mono ?_
  rintro _ _ ⟨rfl, rfl⟩
  try go_simp
  refine hK _ _ FG ?_
  clear hK K
  try simp only [Act.put, List.setIfInBounds_toArray, List.set_cons_zero, List.set_cons_succ]
  refine plan_rd _ ?_ (by simp only [List.getElem?_toArray, List.getElem?_cons_zero, List.getElem?_cons_succ]; rfl) (by rfl) ?_ ?_
  rotate_left
  · intro V hV
    go_simp
    try with_reducible rfl
  try simp only [Act.put, List.setIfInBounds_toArray, List.set_cons_zero, List.set_cons_succ]
  refine plan_done ?_
  refine NoPanic.normal ?_
  clear o0 o1 o2 o3 o4 oz ol i0 i1 i2 i3 i4 iz il
  by_cases hdg : d = gx
  · subst hdg
    have hbq : ((d : Int) == (d : Int)) = true := by simp
    obtain ⟨-, ⟨i0, i1, i2, i3, i4, iz, il⟩⟩ := HB1.out _ FG
    have HDb := hid (show Calls Tryz.prog 49 #[dptr bd] w1.drew _ from (HD.out.2.1.fr0 (HD.out.2.2.1.trans FG (fun _ _ h => h))).double (by rw [HD.out.1]; omega) (by omega))
    go_wp2_with fail
    refine HDb.out.mono ?_
    rintro e V ⟨err, rfl, F2, hr⟩
    have H2 := hid (And.intro F2 hr)
    clear F2 hr i0 i1 i2 i3 i4 iz il
    rcases H2.out.2 with ⟨rfl, y2, x2, t2, hI2, hx2, hL2⟩ | ⟨rfl, ha, hDn⟩
    · have HV := hid (show FrX B (fun b => b = bd ∨ b = bx) w1 V ∧ IdxM V B bx bd y2 P a (N + 100) x2 t2 sl' L sp ∧ x2.depth = g ∧ Like y y2 ∧ y2.gen = y.gen ∧ y2.dead = y.dead from by
        have hs : g = d + 1 ∧ sl' = dblM slots := by
          rcases HHg.out with h | h
          · exact h.2
          · exact absurd rfl h.1
        refine ⟨FrX.trans (FrX.none FG) (frX_mono H2.out.1 (fun b hb => .inl hb)), by rw [hs.2]; exact hI2, ?_, hL2⟩
        rw [hx2, hs.1, HD.out.1])
      clear hI2 hx2 hL2 HDb hbq FG
      obtain ⟨c0, c1, c2, c3, c4, cz, cl⟩ := cells5 HV.out.2.1.idx
      have hspw := HSW.out
      go_upto_region 6 with fail
      clear hspw
      obtain ⟨V5, hV5⟩ : ∃ V5, V.setCell ⟨bx, 4, none⟩ (.int .i64 (sp + 1)) = V5 := ⟨_, rfl⟩
      have hI5 := HV.out.2.1.splits (sp + 1)
      have F5 : FrX B (fun b => b = bd ∨ b = bx) w1 V5 := by rw [← hV5]; exact FrX.trans HV.out.1 (Fr.setCell (FrX.refl _ _ _) (fun _ => .inr (.inr rfl)) _)
      rw [hV5] at hI5
      rw [hV5]
      obtain ⟨o0, o1, o2, o3, o4, oz, ol⟩ := HB.out V5 F5
      have HSp := hid (bsplit_ok (HE.out.1 V5 F5) (by have := HE.out.2.1.1; omega) (fun z hz => (HE.out.2.1.2.2 z hz).1.1) d p (by omega) hp20)
      have H5 := hid (And.intro F5 hI5)
      rw [HE.out.2.2] at HSp
      clear c0 c1 c2 c3 c4 cz cl hV5 hI5 F5
      go_wp2_with fail
      refine HSp.out.mono ?_
      rintro e V6 ⟨a0, k0, a1, k1, rfl, ho0, ho1, F6⟩
      obtain ⟨e0, he0⟩ : ∃ e0, es.filter (fun x => !halfB d x) = e0 := ⟨_, rfl⟩
      obtain ⟨e1, he1⟩ : ∃ e1, es.filter (halfB d) = e1 := ⟨_, rfl⟩
      have hbk := bk_halves HE.out.2.1 (by omega : d < 20)
      rw [he0, he1] at hbk
      rw [he0] at ho0
      rw [he1] at ho1
      rw [he0, he1]
      obtain ⟨dd, hdd⟩ : ∃ dd, d + 1 = dd := ⟨_, rfl⟩
      obtain ⟨p1, hp1⟩ : ∃ p1, 2 * p + 1 = p1 := ⟨_, rfl⟩
      obtain ⟨p0, hp0⟩ : ∃ p0, 2 * p = p0 := ⟨_, rfl⟩
      have hpp : p0 < 2 ^ dd ∧ p1 < 2 ^ dd := by rw [← hdd, Nat.pow_succ]; omega
      rw [hp1, hp0, hdd] at hbk
      rw [hp1, hp0, hdd]
      obtain ⟨n0, hn0⟩ : ∃ n0, e0.length = n0 := ⟨_, rfl⟩
      obtain ⟨n1, hn1⟩ : ∃ n1, e1.length = n1 := ⟨_, rfl⟩
      have HLt := hid (And.intro hdd (And.intro hp0 (And.intro hp1 (And.intro he0 he1))))
      have HPP := hid hpp
      have HBk := hid hbk
      have hn13 : n1 ≤ 3 := by rw [← hn1]; exact hbk.2.1
      have hdd3 : dd ≤ 3 := by omega
      have hpq : p1 < 1048576 := Nat.lt_of_lt_of_le hpp.2 (Nat.le_trans (Nat.pow_le_pow_right (by decide) (by omega : dd ≤ 20)) (by decide))
      rw [hn0, hn1]
      have F56 := H5.out.2.fr0 F6
      have HO := hid (And.intro ho0 (And.intro ho1 (And.intro hn0 (And.intro hn1 F6.size))))
      have FX6 := FrX.trans H5.out.1 (FrX.none F6)
      clear hdd hp0 hp1 he0 he1 hn0 hn1 ho0 ho1 hbk hpp
      go_upto_region 7 with fail
      obtain ⟨V7, hV7⟩ : ∃ V7, V6.alloc (.cells #[.int .i64 dd, .int .i64 p0, .slice a0 n0 k0, .int .i64 dd, .int .i64 p1, .slice a1 n1 k1] 301) = V7 := ⟨_, rfl⟩
      rw [hV7]
      obtain ⟨b6, hb6⟩ : ∃ b6, V6.heap.size = b6 := ⟨_, rfl⟩
      rw [hb6]
      have g6 : V7.heap[b6]? = some (.cells #[.int .i64 dd, .int .i64 p0, .slice a0 n0 k0, .int .i64 dd, .int .i64 p1, .slice a1 n1 k1] 301) := by rw [← hV7, ← hb6]; exact heap_alloc_new V6 _
      have F7 : Fr (fun _ => False) V6 V7 := by rw [← hV7]; exact (Fr.refl _ _).alloc _
      have hI7 := F56.fr0 F7
      have hb6d : b6 ≠ bd ∧ b6 ≠ bx := by
        have h1 := H5.out.2.bd_lt
        have h2 := F6.size
        omega
      have HB7 := hid (fun V (F : Fr (fun _ => False) V7 V) => And.intro (cells6 (F.heap g6 (fun h => h))) (cells5 (F.heap hI7.idx (fun h => h))))
      have HPk := hid (fun V (F : Fr (fun _ => False) V7 V) => pack_ok (own_none (own_none (own_base HO.out.2.1) F7) F) (by rw [HO.out.2.2.2.1]; omega) (fun z hz => (HBk.out.2.2.2 z hz).1) dd p1 3 (by omega) hpq HBk.out.2.1 (by decide) (fun W FW => right_bk (own_none (own_none (own_none (own_base HO.out.2.1) F7) F) FW) HBk.out.2 (by omega) HPP.out.2))
      rw [HO.out.2.2.2.1] at HPk
      have H7 := hid (And.intro hI7 (And.intro (FrX.trans FX6 (FrX.none F7)) (And.intro g6 F7)))
      obtain ⟨⟨q0, q1, q2, q3, q4, q5, qz, ql⟩, ⟨i0, i1, i2, i3, i4, iz, il⟩⟩ := HB7.out _ (Fr.refl _ _)
      have FG7 : Fr (fun _ => False) V7 V7.drew := (Fr.refl _ _).drew
      clear hV7 g6 F7 hI7 FX6 F56 F6 hb6 o0 o1 o2 o3 o4 oz ol
      refine wp_region_noPanic ?_
      refine region_plan (fun V => Fr (fun _ => False) V7 V) (.rd 0 (.rd 1 (.rd 2 (.rd 3 (.rd 4 (.rd 5 (.op 6 (.rd 7 (.rd 8 (.rd 9 (.rd 10 (.rd 11 .done)))))))))))) (by kernel_rfl) (by kernel_rfl) (by kernel_rfl) (fun _ _ _ _ _ h => h) FG7 ?_
      iterate 6
        try simp only [Act.put, List.setIfInBounds_toArray, List.set_cons_zero, List.set_cons_succ]
        refine plan_rd _ ?_ (by simp only [List.getElem?_toArray, List.getElem?_cons_zero, List.getElem?_cons_succ]; rfl) (by rfl) ?_ ?_
        rotate_left
        · intro V hV
          obtain ⟨⟨q0, q1, q2, q3, q4, q5, qz, ql⟩, ⟨i0, i1, i2, i3, i4, iz, il⟩⟩ := HB7.out V hV
          go_simp
          try with_reducible rfl
      try simp only [Act.put, List.setIfInBounds_toArray, List.set_cons_zero, List.set_cons_succ]
      refine plan_op _ (by simp only [List.getElem?_toArray, List.getElem?_cons_zero, List.getElem?_cons_succ]; rfl) (by rfl) (fun K hK => ?_)
      go_simp
      refine (HPk.out _ FG7).mono ?_
      rintro _ V8 ⟨la, lc, rfl, hb8, F8⟩
      have FG8 := FG7.trans F8 (fun _ _ h => h)
      have H8 := hid (And.intro hb8 FG8)
      try go_simp
      refine hK _ _ FG8 ?_
      clear hK K hb8 F8 FG8
      iterate 5
        try simp only [Act.put, List.setIfInBounds_toArray, List.set_cons_zero, List.set_cons_succ]
        refine plan_rd _ ?_ (by simp only [List.getElem?_toArray, List.getElem?_cons_zero, List.getElem?_cons_succ]; rfl) (by rfl) ?_ ?_
        rotate_left
        · intro V hV
          go_simp
          try with_reducible rfl
      try simp only [Act.put, List.setIfInBounds_toArray, List.set_cons_zero, List.set_cons_succ]
      refine plan_done ?_
      refine NoPanic.normal ?_
      clear FG7 q0 q1 q2 q3 q4 q5 qz ql i0 i1 i2 i3 i4 iz il
      rw [HO.out.2.2.2.1] at H8 ⊢
      obtain ⟨⟨q0, q1, q2, q3, q4, q5, qz, ql⟩, ⟨i0, i1, i2, i3, i4, iz, il⟩⟩ := HB7.out _ H8.out.2
      have hI8 := H7.out.1.fr0 H8.out.2
      have HNw := hid (new_u hI8.st (H8.out.1.inp B) (packM_byte dd p1 e1) (by rw [hI8.room]; omega) hI8.free (by omega))
      have HI8 := hid hI8
      clear hI8
      go_wp2_with fail
      refine HNw.out.mono ?_
      rintro e V9 ⟨pp, ss, err, rfl, F9, hr⟩
      have g69 := FrB.heap F9 (H8.out.2.heap H7.out.2.2.1 (fun h => h)) (by decide)
      have FX9 := FrX.trans (FrX.trans H7.out.2.1 (FrX.none H8.out.2)) (FrX.of F9)
      have H9 := hid (And.intro g69 (And.intro FX9 F9))
      clear q0 q1 q2 q3 q4 q5 qz ql i0 i1 i2 i3 i4 iz il g69 FX9 F9
      rcases hr with ⟨rfl, m1, rfl, rfl, ht, hS⟩ | ⟨rfl, ha, hDn⟩
      · have hI9 := HI8.out.after_new ht H9.out.2.2 hS HD.out.2.2.2.2.2
        go_upto_region 11 with fail
        obtain ⟨V10, hV10⟩ : ∃ V10, V9.alloc (.cells #[.int .i64 m1, .int .i64 y2.gen] 35) = V10 := ⟨_, rfl⟩
        rw [hV10]
        have F10 : Fr (fun _ => False) V9 V10 := by rw [← hV10]; exact (Fr.refl _ _).alloc _
        have g9 : V10.heap[V9.heap.size]? = some (.cells #[.int .i64 m1, .int .i64 y2.gen] 35) := by rw [← hV10]; exact heap_alloc_new V9 _
        have hI10 := hI9.fr0 F10
        have hr1 := (hI10.bk _ (List.mem_append_right L (List.mem_singleton.2 rfl))).1
        have HPo := hid (xpoint_ok hI10 (r := ((m1 : Int), (y2.gen : Int))) a1 n1 k1 (by rw [HV.out.2.2.1]; have := HHg.out; have := HLt.out.1; omega) HPP.out.2 hr1 (by omega))
        obtain ⟨q0, q1, q2, q3, q4, q5, qz, ql⟩ := cells6 (F10.heap H9.out.1 (fun h => h))
        obtain ⟨y0, y1, yz, yl⟩ := cells2 g9
        have H10 := hid (And.intro F10 (F10.heap H9.out.1 (fun h => h)))
        clear hI9 hI10 hr1 hV10 g9 F10 ht hS
        go_wp2_with fail
        refine HPo.out.mono ?_
        rintro e V11 ⟨err, rfl, F11, hr⟩
        have FX11 := FrX.trans (FrX.trans H9.out.2.1 (FrX.none H10.out.1)) (frX_mono F11 (fun b hb => .inl hb))
        have g611 := frX_heap F11 H10.out.2 (by decide) hb6d.1
        have H11 := hid (And.intro FX11 (And.intro g611 F11))
        clear q0 q1 q2 q3 q4 q5 qz ql y0 y1 yz yl FX11 g611 F11
        rcases hr with ⟨rfl, y11, x11, t11, hI11, hx11, hL11⟩ | ⟨rfl, ha, hDn⟩
        · obtain ⟨q0, q1, q2, q3, q4, q5, qz, ql⟩ := cells6 H11.out.2.1
          obtain ⟨o0, o1, o2, o3, o4, oz, ol⟩ := HB.out V11 H11.out.1
          have hx11g : x11.depth = g := hx11.trans HV.out.2.2.1
          have hoX : ∀ g', (Value.slice a0 e0.length k0).ownBlock = some g' → ¬ g' = bd := fun g' hg' e => by
            have h1 := (own_blkT HO.out.1 hg').1
            have h2 := H5.out.2.bd_lt
            omega
          have ho11 : OwnE V11 0 (.slice a0 e0.length k0) e0 := frX_own (own_none (own_frB (own_none (own_none (own_base HO.out.1) (H7.out.2.2.2.trans H8.out.2 (fun _ _ h => h))) (Fr.refl _ _)) (by decide) H9.out.2.2) H10.out.1) (by decide) H11.out.2.2 hoX
          have hdg1 : dd ≤ g := by have := HHg.out; have := HLt.out.1; omega
          have HKe := hid (xkeep_ok hI11 (j := j) (r := r) (ld0 := ld0) (d := dd) (p := p0) (by rw [List.getElem?_append_left (List.getElem?_eq_some_iff.1 HD.out.2.2.2.1).1]; exact HD.out.2.2.2.1) ho11 HBk.out.1 (by rw [hx11g]; exact hdg1) HPP.out.1 (by
            rw [hx11g, HV.out.2.2.1]
            intro i hi
            obtain ⟨k1, k2⟩ := half_slots (d := d) (p := p) (g := g) (by have := HLt.out.1; omega) (by rw [HLt.out.2.1, HLt.out.1]; exact hi)
            rw [HLt.out.2.2.1, HLt.out.1] at k2
            rw [setM_get, if_neg k2]
            exact HD.out.2.2.2.2.1 i k1) (by omega))
          rw [hx11g, HO.out.2.2.1] at HKe
          have HI11 := hid (And.intro hx11g hL11)
          clear hI11 hx11 hx11g hL11 hoX ho11
          go_wp2_with fail
          refine HKe.out.mono ?_
          rintro e V12 ⟨err, rfl, F12, hr⟩
          have H12 := hid (And.intro F12 hr)
          clear F12 hr q0 q1 q2 q3 q4 q5 qz ql o0 o1 o2 o3 o4 oz ol
          go_wp2_with fail
          go_ret
          refine ⟨err, rfl, FrX.trans (FrX.none HD.out.2.2.1) (FrX.trans H11.out.1 (frX_mono H12.out.1 (fun b hb => .inl hb))), ?_⟩
          rcases H12.out.2 with ⟨rfl, m0, y12, x12, t12, hI12, hx12, hL12⟩ | ⟨rfl, ha, hDn⟩
          · refine .inl ⟨rfl, m0, m1, y12, x12, t12, ?_, hx12, (HV.out.2.2.2.1.trans ((show Like y2 (y2.new m1 (packM dd p1 e1)) from ⟨rfl, rfl, rfl, rfl, rfl, rfl, rfl⟩).trans HI11.out.2.1)).trans hL12.1, ?_, ?_⟩
            · obtain ⟨l1, l2, l3, l4, l5⟩ := HLt.out
              have hg11 : y11.gen = y.gen := HI11.out.2.2.1.trans HV.out.2.2.2.2.1
              rw [hg11, HV.out.2.2.1, HV.out.2.2.2.2.1] at hI12
              rw [l1, l3, l2, l4, l5]
              exact hI12.mono (by omega) hN
            · exact hL12.2.1.trans (HI11.out.2.2.1.trans HV.out.2.2.2.2.1)
            · exact hL12.2.2.trans (HI11.out.2.2.2.trans HV.out.2.2.2.2.2)
          · exact .inr ⟨rfl, ha, down_like (hDn.mono (by omega)) (HV.out.2.2.2.1.trans ((show Like y2 (y2.new m1 (packM dd p1 e1)) from ⟨rfl, rfl, rfl, rfl, rfl, rfl, rfl⟩).trans HI11.out.2.1))⟩
        · have HX := hid (And.intro ha hDn)
          clear ha hDn
          go_wp2_with fail
          go_ret
          exact ⟨4, rfl, FrX.trans (FrX.none HD.out.2.2.1) (H11.out.1), .inr ⟨rfl, HX.out.1, down_like (HX.out.2.mono (by omega)) (HV.out.2.2.2.1.trans (show Like y2 (y2.new m1 (packM dd p1 e1)) from ⟨rfl, rfl, rfl, rfl, rfl, rfl, rfl⟩))⟩⟩
      · have HX := hid (And.intro ha hDn)
        clear ha hDn
        go_wp2_with fail
        go_ret
        exact ⟨4, rfl, FrX.trans (FrX.none HD.out.2.2.1) (FrX.trans H9.out.2.1 (FrX.none ((Fr.refl _ _).alloc _))), .inr ⟨rfl, HX.out.1, down_like ((HX.out.2.mono (by omega)).fr0 ((Fr.refl _ _).alloc _)) HV.out.2.2.2.1⟩⟩
    · have HX := hid (And.intro ha hDn)
      clear ha hDn
      go_wp2_with fail
      go_ret
      exact ⟨4, rfl, FrX.trans (FrX.none (HD.out.2.2.1.trans FG (fun _ _ h => h))) (frX_mono H2.out.1 (fun b hb => .inl hb)), .inr ⟨rfl, HX.out.1, HX.out.2.mono (by omega)⟩⟩
  · have hbq : ((d : Int) == (gx : Int)) = false := by simp; omega
    have HDG := hid hdg
    clear hdg
    obtain ⟨V, hVd⟩ : ∃ V, w1.drew = V := ⟨_, rfl⟩
    obtain ⟨y2, hy2⟩ : ∃ y2, y = y2 := ⟨_, rfl⟩
    obtain ⟨x2, hx2⟩ : ∃ x2, x = x2 := ⟨_, rfl⟩
    have HV := hid (show FrX B (fun b => b = bd ∨ b = bx) w1 V ∧ IdxM V B bx bd y2 P a (N + 100) x2 tops sl' L sp ∧ x2.depth = g ∧ Like y y2 ∧ y2.gen = y.gen ∧ y2.dead = y.dead from by
      have hs : g = gx ∧ sl' = slots := by
        rcases HHg.out with h | h
        · exact absurd h.1 HDG.out
        · exact h.2
      rw [← hVd, ← hy2, ← hx2]
      exact ⟨FrX.none FG, by rw [hs.2]; exact (HD.out.2.1.fr0 (HD.out.2.2.1.trans FG (fun _ _ h => h))).mono (by omega) (by omega), by rw [hs.1, HD.out.1], Like.refl y, rfl, rfl⟩)
    rw [hVd]
    clear hVd hy2 hx2 FG
    obtain ⟨c0, c1, c2, c3, c4, cz, cl⟩ := cells5 HV.out.2.1.idx
    have hspw := HSW.out
    go_upto_region 6 with fail
    clear hspw
    obtain ⟨V5, hV5⟩ : ∃ V5, V.setCell ⟨bx, 4, none⟩ (.int .i64 (sp + 1)) = V5 := ⟨_, rfl⟩
    have hI5 := HV.out.2.1.splits (sp + 1)
    have F5 : FrX B (fun b => b = bd ∨ b = bx) w1 V5 := by rw [← hV5]; exact FrX.trans HV.out.1 (Fr.setCell (FrX.refl _ _ _) (fun _ => .inr (.inr rfl)) _)
    rw [hV5] at hI5
    rw [hV5]
    obtain ⟨o0, o1, o2, o3, o4, oz, ol⟩ := HB.out V5 F5
    have HSp := hid (bsplit_ok (HE.out.1 V5 F5) (by have := HE.out.2.1.1; omega) (fun z hz => (HE.out.2.1.2.2 z hz).1.1) d p (by omega) hp20)
    have H5 := hid (And.intro F5 hI5)
    rw [HE.out.2.2] at HSp
    clear c0 c1 c2 c3 c4 cz cl hV5 hI5 F5
    go_wp2_with fail
    refine HSp.out.mono ?_
    rintro e V6 ⟨a0, k0, a1, k1, rfl, ho0, ho1, F6⟩
    obtain ⟨e0, he0⟩ : ∃ e0, es.filter (fun x => !halfB d x) = e0 := ⟨_, rfl⟩
    obtain ⟨e1, he1⟩ : ∃ e1, es.filter (halfB d) = e1 := ⟨_, rfl⟩
    have hbk := bk_halves HE.out.2.1 (by omega : d < 20)
    rw [he0, he1] at hbk
    rw [he0] at ho0
    rw [he1] at ho1
    rw [he0, he1]
    obtain ⟨dd, hdd⟩ : ∃ dd, d + 1 = dd := ⟨_, rfl⟩
    obtain ⟨p1, hp1⟩ : ∃ p1, 2 * p + 1 = p1 := ⟨_, rfl⟩
    obtain ⟨p0, hp0⟩ : ∃ p0, 2 * p = p0 := ⟨_, rfl⟩
    have hpp : p0 < 2 ^ dd ∧ p1 < 2 ^ dd := by rw [← hdd, Nat.pow_succ]; omega
    rw [hp1, hp0, hdd] at hbk
    rw [hp1, hp0, hdd]
    obtain ⟨n0, hn0⟩ : ∃ n0, e0.length = n0 := ⟨_, rfl⟩
    obtain ⟨n1, hn1⟩ : ∃ n1, e1.length = n1 := ⟨_, rfl⟩
    have HLt := hid (And.intro hdd (And.intro hp0 (And.intro hp1 (And.intro he0 he1))))
    have HPP := hid hpp
    have HBk := hid hbk
    have hn13 : n1 ≤ 3 := by rw [← hn1]; exact hbk.2.1
    have hdd3 : dd ≤ 3 := by omega
    have hpq : p1 < 1048576 := Nat.lt_of_lt_of_le hpp.2 (Nat.le_trans (Nat.pow_le_pow_right (by decide) (by omega : dd ≤ 20)) (by decide))
    rw [hn0, hn1]
    have F56 := H5.out.2.fr0 F6
    have HO := hid (And.intro ho0 (And.intro ho1 (And.intro hn0 (And.intro hn1 F6.size))))
    have FX6 := FrX.trans H5.out.1 (FrX.none F6)
    clear hdd hp0 hp1 he0 he1 hn0 hn1 ho0 ho1 hbk hpp
    go_upto_region 7 with fail
    obtain ⟨V7, hV7⟩ : ∃ V7, V6.alloc (.cells #[.int .i64 dd, .int .i64 p0, .slice a0 n0 k0, .int .i64 dd, .int .i64 p1, .slice a1 n1 k1] 301) = V7 := ⟨_, rfl⟩
    rw [hV7]
    obtain ⟨b6, hb6⟩ : ∃ b6, V6.heap.size = b6 := ⟨_, rfl⟩
    rw [hb6]
    have g6 : V7.heap[b6]? = some (.cells #[.int .i64 dd, .int .i64 p0, .slice a0 n0 k0, .int .i64 dd, .int .i64 p1, .slice a1 n1 k1] 301) := by rw [← hV7, ← hb6]; exact heap_alloc_new V6 _
    have F7 : Fr (fun _ => False) V6 V7 := by rw [← hV7]; exact (Fr.refl _ _).alloc _
    have hI7 := F56.fr0 F7
    have hb6d : b6 ≠ bd ∧ b6 ≠ bx := by
      have h1 := H5.out.2.bd_lt
      have h2 := F6.size
      omega
    have HB7 := hid (fun V (F : Fr (fun _ => False) V7 V) => And.intro (cells6 (F.heap g6 (fun h => h))) (cells5 (F.heap hI7.idx (fun h => h))))
    have HPk := hid (fun V (F : Fr (fun _ => False) V7 V) => pack_ok (own_none (own_none (own_base HO.out.2.1) F7) F) (by rw [HO.out.2.2.2.1]; omega) (fun z hz => (HBk.out.2.2.2 z hz).1) dd p1 3 (by omega) hpq HBk.out.2.1 (by decide) (fun W FW => right_bk (own_none (own_none (own_none (own_base HO.out.2.1) F7) F) FW) HBk.out.2 (by omega) HPP.out.2))
    rw [HO.out.2.2.2.1] at HPk
    have H7 := hid (And.intro hI7 (And.intro (FrX.trans FX6 (FrX.none F7)) (And.intro g6 F7)))
    obtain ⟨⟨q0, q1, q2, q3, q4, q5, qz, ql⟩, ⟨i0, i1, i2, i3, i4, iz, il⟩⟩ := HB7.out _ (Fr.refl _ _)
    have FG7 : Fr (fun _ => False) V7 V7.drew := (Fr.refl _ _).drew
    clear hV7 g6 F7 hI7 FX6 F56 F6 hb6 o0 o1 o2 o3 o4 oz ol
    refine wp_region_noPanic ?_
    refine region_plan (fun V => Fr (fun _ => False) V7 V) (.rd 0 (.rd 1 (.rd 2 (.rd 3 (.rd 4 (.rd 5 (.op 6 (.rd 7 (.rd 8 (.rd 9 (.rd 10 (.rd 11 .done)))))))))))) (by kernel_rfl) (by kernel_rfl) (by kernel_rfl) (fun _ _ _ _ _ h => h) FG7 ?_
    iterate 6
      try simp only [Act.put, List.setIfInBounds_toArray, List.set_cons_zero, List.set_cons_succ]
      refine plan_rd _ ?_ (by simp only [List.getElem?_toArray, List.getElem?_cons_zero, List.getElem?_cons_succ]; rfl) (by rfl) ?_ ?_
      rotate_left
      · intro V hV
        obtain ⟨⟨q0, q1, q2, q3, q4, q5, qz, ql⟩, ⟨i0, i1, i2, i3, i4, iz, il⟩⟩ := HB7.out V hV
        go_simp
        try with_reducible rfl
    try simp only [Act.put, List.setIfInBounds_toArray, List.set_cons_zero, List.set_cons_succ]
    refine plan_op _ (by simp only [List.getElem?_toArray, List.getElem?_cons_zero, List.getElem?_cons_succ]; rfl) (by rfl) (fun K hK => ?_)
    go_simp
    refine (HPk.out _ FG7).mono ?_
    rintro _ V8 ⟨la, lc, rfl, hb8, F8⟩
    have FG8 := FG7.trans F8 (fun _ _ h => h)
    have H8 := hid (And.intro hb8 FG8)
    try go_simp
    refine hK _ _ FG8 ?_
    clear hK K hb8 F8 FG8
    iterate 5
      try simp only [Act.put, List.setIfInBounds_toArray, List.set_cons_zero, List.set_cons_succ]
      refine plan_rd _ ?_ (by simp only [List.getElem?_toArray, List.getElem?_cons_zero, List.getElem?_cons_succ]; rfl) (by rfl) ?_ ?_
      rotate_left
      · intro V hV
        go_simp
        try with_reducible rfl
    try simp only [Act.put, List.setIfInBounds_toArray, List.set_cons_zero, List.set_cons_succ]
    refine plan_done ?_
    refine NoPanic.normal ?_
    clear FG7 q0 q1 q2 q3 q4 q5 qz ql i0 i1 i2 i3 i4 iz il
    rw [HO.out.2.2.2.1] at H8 ⊢
    obtain ⟨⟨q0, q1, q2, q3, q4, q5, qz, ql⟩, ⟨i0, i1, i2, i3, i4, iz, il⟩⟩ := HB7.out _ H8.out.2
    have hI8 := H7.out.1.fr0 H8.out.2
    have HNw := hid (new_u hI8.st (H8.out.1.inp B) (packM_byte dd p1 e1) (by rw [hI8.room]; omega) hI8.free (by omega))
    have HI8 := hid hI8
    clear hI8
    go_wp2_with fail
    refine HNw.out.mono ?_
    rintro e V9 ⟨pp, ss, err, rfl, F9, hr⟩
    have g69 := FrB.heap F9 (H8.out.2.heap H7.out.2.2.1 (fun h => h)) (by decide)
    have FX9 := FrX.trans (FrX.trans H7.out.2.1 (FrX.none H8.out.2)) (FrX.of F9)
    have H9 := hid (And.intro g69 (And.intro FX9 F9))
    clear q0 q1 q2 q3 q4 q5 qz ql i0 i1 i2 i3 i4 iz il g69 FX9 F9
    rcases hr with ⟨rfl, m1, rfl, rfl, ht, hS⟩ | ⟨rfl, ha, hDn⟩
    · have hI9 := HI8.out.after_new ht H9.out.2.2 hS HD.out.2.2.2.2.2
      go_upto_region 11 with fail
      obtain ⟨V10, hV10⟩ : ∃ V10, V9.alloc (.cells #[.int .i64 m1, .int .i64 y2.gen] 35) = V10 := ⟨_, rfl⟩
      rw [hV10]
      have F10 : Fr (fun _ => False) V9 V10 := by rw [← hV10]; exact (Fr.refl _ _).alloc _
      have g9 : V10.heap[V9.heap.size]? = some (.cells #[.int .i64 m1, .int .i64 y2.gen] 35) := by rw [← hV10]; exact heap_alloc_new V9 _
      have hI10 := hI9.fr0 F10
      have hr1 := (hI10.bk _ (List.mem_append_right L (List.mem_singleton.2 rfl))).1
      have HPo := hid (xpoint_ok hI10 (r := ((m1 : Int), (y2.gen : Int))) a1 n1 k1 (by rw [HV.out.2.2.1]; have := HHg.out; have := HLt.out.1; omega) HPP.out.2 hr1 (by omega))
      obtain ⟨q0, q1, q2, q3, q4, q5, qz, ql⟩ := cells6 (F10.heap H9.out.1 (fun h => h))
      obtain ⟨y0, y1, yz, yl⟩ := cells2 g9
      have H10 := hid (And.intro F10 (F10.heap H9.out.1 (fun h => h)))
      clear hI9 hI10 hr1 hV10 g9 F10 ht hS
      go_wp2_with fail
      refine HPo.out.mono ?_
      rintro e V11 ⟨err, rfl, F11, hr⟩
      have FX11 := FrX.trans (FrX.trans H9.out.2.1 (FrX.none H10.out.1)) (frX_mono F11 (fun b hb => .inl hb))
      have g611 := frX_heap F11 H10.out.2 (by decide) hb6d.1
      have H11 := hid (And.intro FX11 (And.intro g611 F11))
      clear q0 q1 q2 q3 q4 q5 qz ql y0 y1 yz yl FX11 g611 F11
      rcases hr with ⟨rfl, y11, x11, t11, hI11, hx11, hL11⟩ | ⟨rfl, ha, hDn⟩
      · obtain ⟨q0, q1, q2, q3, q4, q5, qz, ql⟩ := cells6 H11.out.2.1
        obtain ⟨o0, o1, o2, o3, o4, oz, ol⟩ := HB.out V11 H11.out.1
        have hx11g : x11.depth = g := hx11.trans HV.out.2.2.1
        have hoX : ∀ g', (Value.slice a0 e0.length k0).ownBlock = some g' → ¬ g' = bd := fun g' hg' e => by
          have h1 := (own_blkT HO.out.1 hg').1
          have h2 := H5.out.2.bd_lt
          omega
        have ho11 : OwnE V11 0 (.slice a0 e0.length k0) e0 := frX_own (own_none (own_frB (own_none (own_none (own_base HO.out.1) (H7.out.2.2.2.trans H8.out.2 (fun _ _ h => h))) (Fr.refl _ _)) (by decide) H9.out.2.2) H10.out.1) (by decide) H11.out.2.2 hoX
        have hdg1 : dd ≤ g := by have := HHg.out; have := HLt.out.1; omega
        have HKe := hid (xkeep_ok hI11 (j := j) (r := r) (ld0 := ld0) (d := dd) (p := p0) (by rw [List.getElem?_append_left (List.getElem?_eq_some_iff.1 HD.out.2.2.2.1).1]; exact HD.out.2.2.2.1) ho11 HBk.out.1 (by rw [hx11g]; exact hdg1) HPP.out.1 (by
          rw [hx11g, HV.out.2.2.1]
          intro i hi
          obtain ⟨k1, k2⟩ := half_slots (d := d) (p := p) (g := g) (by have := HLt.out.1; omega) (by rw [HLt.out.2.1, HLt.out.1]; exact hi)
          rw [HLt.out.2.2.1, HLt.out.1] at k2
          rw [setM_get, if_neg k2]
          exact HD.out.2.2.2.2.1 i k1) (by omega))
        rw [hx11g, HO.out.2.2.1] at HKe
        have HI11 := hid (And.intro hx11g hL11)
        clear hI11 hx11 hx11g hL11 hoX ho11
        go_wp2_with fail
        refine HKe.out.mono ?_
        rintro e V12 ⟨err, rfl, F12, hr⟩
        have H12 := hid (And.intro F12 hr)
        clear F12 hr q0 q1 q2 q3 q4 q5 qz ql o0 o1 o2 o3 o4 oz ol
        go_wp2_with fail
        go_ret
        refine ⟨err, rfl, FrX.trans (FrX.none HD.out.2.2.1) (FrX.trans H11.out.1 (frX_mono H12.out.1 (fun b hb => .inl hb))), ?_⟩
        rcases H12.out.2 with ⟨rfl, m0, y12, x12, t12, hI12, hx12, hL12⟩ | ⟨rfl, ha, hDn⟩
        · refine .inl ⟨rfl, m0, m1, y12, x12, t12, ?_, hx12, (HV.out.2.2.2.1.trans ((show Like y2 (y2.new m1 (packM dd p1 e1)) from ⟨rfl, rfl, rfl, rfl, rfl, rfl, rfl⟩).trans HI11.out.2.1)).trans hL12.1, ?_, ?_⟩
          · obtain ⟨l1, l2, l3, l4, l5⟩ := HLt.out
            have hg11 : y11.gen = y.gen := HI11.out.2.2.1.trans HV.out.2.2.2.2.1
            rw [hg11, HV.out.2.2.1, HV.out.2.2.2.2.1] at hI12
            rw [l1, l3, l2, l4, l5]
            exact hI12.mono (by omega) hN
          · exact hL12.2.1.trans (HI11.out.2.2.1.trans HV.out.2.2.2.2.1)
          · exact hL12.2.2.trans (HI11.out.2.2.2.trans HV.out.2.2.2.2.2)
        · exact .inr ⟨rfl, ha, down_like (hDn.mono (by omega)) (HV.out.2.2.2.1.trans ((show Like y2 (y2.new m1 (packM dd p1 e1)) from ⟨rfl, rfl, rfl, rfl, rfl, rfl, rfl⟩).trans HI11.out.2.1))⟩
      · have HX := hid (And.intro ha hDn)
        clear ha hDn
        go_wp2_with fail
        go_ret
        exact ⟨4, rfl, FrX.trans (FrX.none HD.out.2.2.1) (H11.out.1), .inr ⟨rfl, HX.out.1, down_like (HX.out.2.mono (by omega)) (HV.out.2.2.2.1.trans (show Like y2 (y2.new m1 (packM dd p1 e1)) from ⟨rfl, rfl, rfl, rfl, rfl, rfl, rfl⟩))⟩⟩
    · have HX := hid (And.intro ha hDn)
      clear ha hDn
      go_wp2_with fail
      go_ret
      exact ⟨4, rfl, FrX.trans (FrX.none HD.out.2.2.1) (FrX.trans H9.out.2.1 (FrX.none ((Fr.refl _ _).alloc _))), .inr ⟨rfl, HX.out.1, down_like ((HX.out.2.mono (by omega)).fr0 ((Fr.refl _ _).alloc _)) HV.out.2.2.2.1⟩⟩
end Go.Proofs.YtgdhaaokolfdoaaGreatDoor

namespace Go.Proofs.YtgdhaaokolfdoaaGreatDoor
open Go.RowKit Go.Sg CP SF
structure BktAt (t : Tr) (g : Nat) (L : List Bp) (k d p : Nat) (r : Rf) (es : List Bt) : Prop where
  at_ : t.at_ g k 0 0 = (d, p, r, es)
  kl : k < 2 ^ g
  dg : d ≤ g
  pl : p < 2 ^ d
  ok : BkOk d p es
  slot : (t.slots g)[k]? = some r
  mem : (r, packM d p es) ∈ L
  lo : t.lo g k = p * 2 ^ (g - d)
  wd : t.wd g k = g - d
theorem bkt_at {t : Tr} {g : Nat} {L : List Bp} {k : Nat} (hk : k < 2 ^ g) (hh : t.high ≤ g) (hok : okT t 0 0) (hP : L.Perm (lds t 0 0)) : ∃ d p r es, BktAt t g L k d p r es := by
  obtain ⟨⟨d, p, r, es⟩, hz⟩ : ∃ z, t.at_ g k 0 0 = z := ⟨_, rfl⟩
  have h1 := Tr.at_depth t g k 0 0
  have h2 := Tr.wd_depth t g k 0 0 hh
  have h3 := Tr.lo_pre t g k 0 0 hh
  have h4 := Tr.at_pre t g k 0 0 hh hk
  have h5 := ok_at t g k 0 0 hok
  have h6 := Tr.slots_at t g k 0 0 hh hk
  obtain ⟨A, C, hA⟩ := lds_at t g k 0 0
  have h7 := hA Tr.leaf
  rw [put_same] at h7
  rw [hz] at h1 h2 h3 h4 h5 h6 h7
  simp only at h1 h2 h3 h4 h5 h6 h7
  have hwd : t.wd g k = g - d := by omega
  refine ⟨d, p, r, es, hz, hk, by omega, ?_, h5, h6, ?_, ?_, hwd⟩
  · rw [h4, Nat.zero_mul, Nat.zero_add, Nat.zero_add]
    refine Nat.div_lt_of_lt_mul ?_
    rw [← Nat.pow_add, show g - d + d = g by omega]
    exact hk
  · rw [hP.mem_iff, h7]
    simp [lds]
  · rw [← hwd, ← h3]; simp
theorem idxT_leaf {V : World} {B : Blk} {bx bd : Nat} {y' : Cs} {P : Prot} {a : Bool} {N : Nat} {x' : DirD} {tops' : List Rf} {t : Tr} {g : Nat} {L : List Bp} {k d p j : Nat} {r r' : Rf} {es es' : List Bt} {sp : Int} (hb : BktAt t g L k d p r es) (hh : t.high = g) (hok : okT t 0 0) (hP : L.Perm (lds t 0 0)) (hj : L[j]? = some (r, packM d p es)) (hk' : BkOk d p es') (hx : x'.depth = g)
    (hI : IdxM V B bx bd y' P a N x' tops' (setM (t.slots g) (slN (p * 2 ^ (g - d)) (2 ^ (g - d))) r') (L.set j (r', packM d p es')) sp) : IdxT V B bx bd y' P a N x' (t.put g k (fun _ _ => .leaf r' es')) sp := by
  have hs := slots_leaf (t := t) (g := g) (k := k) (by omega) hb.kl r' (fun _ _ => .leaf r' es') (fun _ _ => ⟨es', rfl⟩)
  rw [hb.lo, hb.wd] at hs
  obtain ⟨A, C, hA⟩ := lds_at t g k 0 0
  have h7 := hA Tr.leaf
  rw [put_same] at h7
  have h8 := hA (fun _ _ => .leaf r' es')
  rw [hb.at_] at h7 h8
  simp only [lds, List.singleton_append] at h7 h8
  rw [hs] at hI
  refine ⟨⟨tops', _, by rw [hx]; exact hI, ?_⟩, by rw [high_leaf _ (fun _ _ => rfl), hh, hx], ok_put _ t g k 0 0 hok ?_⟩
  · rw [h8]
    rw [h7] at hP
    exact set_perm hP hj
  · rw [hb.at_]; exact hk'
theorem append_set {α : Type} {L M : List α} {j : Nat} {q : α} (h : j < L.length) : (L ++ M).set j q = L.set j q ++ M := List.set_append_left _ _ h
theorem idxT_node {V : World} {B : Blk} {bx bd : Nat} {y' : Cs} {P : Prot} {a : Bool} {N : Nat} {x' : DirD} {tops' : List Rf} {t : Tr} {g : Nat} {L : List Bp} {k d p j : Nat} {r r0 r1 : Rf} {es e0 e1 : List Bt} {sp : Int} (hb : BktAt t g L k d p r es) (hd : d < g) (hh : max t.high (d + 1) = g) (hok : okT t 0 0) (hP : L.Perm (lds t 0 0)) (hj : L[j]? = some (r, packM d p es)) (hk0 : BkOk (d + 1) (2 * p) e0) (hk1 : BkOk (d + 1) (2 * p + 1) e1) (hx : x'.depth = g)
    (hI : IdxM V B bx bd y' P a N x' tops' (setM (setM (t.slots g) (slN ((2 * p + 1) * 2 ^ (g - (d + 1))) (2 ^ (g - (d + 1)))) r1) (slN (2 * p * 2 ^ (g - (d + 1))) (2 ^ (g - (d + 1)))) r0) ((L ++ [(r1, packM (d + 1) (2 * p + 1) e1)]).set j (r0, packM (d + 1) (2 * p) e0)) sp) : IdxT V B bx bd y' P a N x' (t.put g k (fun _ _ => .node (.leaf r0 e0) (.leaf r1 e1))) sp := by
  have hs := slots_node (t := t) (g := g) (k := k) (by omega) hb.kl (by rw [hb.wd]; omega) r0 r1 (fun _ _ => .node (.leaf r0 e0) (.leaf r1 e1)) (fun _ _ => ⟨e0, e1, rfl⟩)
  rw [hb.lo, hb.wd] at hs
  have e1' : g - d - 1 = g - (d + 1) := by omega
  have e2 : 2 ^ (g - d) = 2 * 2 ^ (g - (d + 1)) := by rw [show g - d = g - (d + 1) + 1 by omega, Nat.pow_succ]; omega
  have e3 : p * 2 ^ (g - d) = 2 * p * 2 ^ (g - (d + 1)) := by rw [e2, ← Nat.mul_assoc, Nat.mul_comm p 2]
  rw [e1', e3, ← show (2 * p + 1) * 2 ^ (g - (d + 1)) = 2 * p * 2 ^ (g - (d + 1)) + 2 ^ (g - (d + 1)) by rw [Nat.add_mul, Nat.one_mul]] at hs
  obtain ⟨A, C, hA⟩ := lds_at t g k 0 0
  have h7 := hA Tr.leaf
  rw [put_same] at h7
  have h8 := hA (fun _ _ => .node (.leaf r0 e0) (.leaf r1 e1))
  have h9 := high_node (fun _ _ => .node (.leaf r0 e0) (.leaf r1 e1)) (fun _ _ => rfl) t g k 0 0
  rw [hb.at_] at h7 h8 h9
  simp only [lds, List.singleton_append, List.cons_append, List.nil_append] at h7 h8
  simp only [Nat.sub_zero] at h9
  have hjl := (List.getElem?_eq_some_iff.1 hj).1
  rw [hs] at hI
  refine ⟨⟨tops', _, by rw [hx]; exact hI, ?_⟩, by rw [h9, hh, hx], ok_put _ t g k 0 0 hok ?_⟩
  · rw [h8, append_set hjl]
    rw [h7] at hP
    have hs := set_perm (q' := (r0, packM (d + 1) (2 * p) e0)) hP hj
    refine (List.Perm.append_right _ hs).trans ?_
    rw [List.append_assoc]
    refine List.Perm.append_left A ?_
    rw [List.cons_append]
    exact (List.Perm.cons _ List.perm_append_comm)
  · rw [hb.at_]; exact ⟨hk0, hk1⟩
theorem bkt_dbl {t : Tr} {g : Nat} {L : List Bp} {k d p : Nat} {r : Rf} {es : List Bt} (hb : BktAt t g L k d p r es) (hh : t.high ≤ g) (hok : okT t 0 0) (hP : L.Perm (lds t 0 0)) : BktAt t (g + 1) L (2 * k) d p r es := by
  have hk : 2 * k < 2 ^ (g + 1) := by have := hb.kl; rw [Nat.pow_succ]; omega
  obtain ⟨d', p', r', es', h⟩ := bkt_at hk (by omega : t.high ≤ g + 1) hok hP
  have h1 := h.at_
  rw [at_dbl t g k 0 0 hh, hb.at_] at h1
  cases h1
  exact h
theorem slots_dblM (t : Tr) (g : Nat) (hh : t.high ≤ g) : dblM (t.slots g) = t.slots (g + 1) := (Tr.slots_dbl t g hh).symm
theorem bkt_own {t : Tr} {g : Nat} {L : List Bp} {k d p : Nat} {r : Rf} {es : List Bt} (hb : BktAt t g L k d p r es) (hh : t.high ≤ g) : ∀ i ∈ slN (p * 2 ^ (g - d)) (2 ^ (g - d)), (t.slots g)[i]? = some r := by
  intro i hi
  rw [mem_slN] at hi
  obtain ⟨h1, h2, h3⟩ := Tr.lo_le t g k hh hb.kl
  simp only [hb.lo, hb.wd] at h1 h2 h3
  have h4 := Tr.slots_own t g k i hh hb.kl (by rw [hb.lo]; exact hi.1) (by rw [hb.lo, hb.wd]; exact hi.2)
  rw [Tr.slots_at t g i 0 0 hh (by omega), h4, hb.at_]
end Go.Proofs.YtgdhaaokolfdoaaGreatDoor
