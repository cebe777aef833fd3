/- A pack of texts: RWS, BKC, BKD0, BKD1, BKD2, BKD, BKE. Conditions: those that each text names. -/
import Derived.Test.YtgdhaaokolfdoaaGreatDoorJBO
import Derived.Test.YtgdhaaokolfdoaaGreatDoorJCA
import Derived.Laws.CopyRow
import Derived.Lib.AppendZerosOnto
import Derived.Lib.Overlaps
import Derived.Test.YtgdhaaokolfdoaaGreatDoorJBJ
set_option linter.unusedVariables false
set_option linter.unusedSimpArgs false
set_option linter.unnecessarySimpa false
namespace Go.Sg
open Go.RowKit
section
variable {P : Program}
theorem run_copy_rows (w : World) (dT sT ty elem : TypeId) (size m : Nat) (g o dLen dCap : Nat) (a : Addr) (sLen sCap : Nat) (cur : Array Value) (t : TypeId) (cs : List Value)
    (hu : P.underlying dT = some (.slice elem)) (hs : (P.info? elem).map (·.size) = some size)
    (hg : w.heap[g]? = some (.cells cur t (0, 0))) (hm : Nat.min sLen dLen = m) (hn : cs.length = m * size)
    (hsrc : ∀ j v, cs[j]? = some v → w.cell? (a.add j) = some v) (hfit : o + cs.length ≤ cur.size) (h1 : ∀ v ∈ cs, v.oneCell' = true) :
    (Builtin.copy_ #[dT, sT] ty #[.slice (some ⟨g, o, none⟩) dLen dCap, .slice (some a) sLen sCap]).run P w =
      .ok (goInt m) (w.setRow g (cur.toList.take o ++ cs ++ cur.toList.drop (o + cs.length)).toArray) := by
  have hl := run_loadCells_list (P := P) w a cs hsrc
  have hst := run_storeCells_at P g o t cs 0 cur w hg (by simpa using hfit) h1
  cases hq : P.info? elem with
  | none => simp [hq] at hs
  | some i =>
    have hi : i.size = size := by simpa [hq] using hs
    simp [Builtin.copy_, run_underlying hu, Builtin.lenOf, Builtin.firstCells, sizeOf, typeInfo, hq, hi, hm, ← hn, hl, hst]
theorem run_clear_rows (w : World) (t e ty : TypeId) (z : Value) (size : Nat) (ht : P.underlying t = some (.slice e)) (hv : ∀ w, (zeroValue e).run P w = .ok z w) (hz : z.cells.size = size) (h0 : 0 < size) (h1 : ∀ v ∈ z.cells.toList, v.oneCell' = true)
    (g o n c : Nat) (hn : 0 < n) (cur : Array Value) (te : TypeId) (hg : w.heap[g]? = some (.cells cur te (0, 0))) (hfit : o + n * size ≤ cur.size) :
    ∃ zs : List Value, zs.length = n * size ∧ (Builtin.clear_ #[t] ty #[.slice (some ⟨g, o, none⟩) n c]).run P w = .ok (.tuple #[]) (w.setRow g (cur.toList.take o ++ zs ++ cur.toList.drop (o + zs.length)).toArray) := by
  have hl : (Builtin.zeroCells z.cells n).toList.length = n * size := by rw [Array.length_toList, size_zeroCells, hz]
  refine ⟨(Builtin.zeroCells z.cells n).toList, hl, ?_⟩
  have hst := run_storeCells_at P g o te (Builtin.zeroCells z.cells n).toList 0 cur w hg (by rw [hl]; omega) (by
    intro v hv
    simp only [Builtin.zeroCells, Array.toList_map, List.mem_map] at hv
    obtain ⟨i, _, rfl⟩ := hv
    have hi : i % z.cells.size < z.cells.size := Nat.mod_lt _ (by omega)
    rw [getElem!_pos z.cells _ hi]
    exact h1 _ (by simp))
  obtain ⟨m, rfl⟩ : ∃ m, n = m + 1 := ⟨n - 1, by omega⟩
  simp [Builtin.clear_, run_underlying ht, hv, hst]
theorem wp_app_run {w : World} {o : Oper} {a : Act} {K : Act → World → Prop} {Q : Exit → Act → World → Prop} (s x : Operand) (t t' : TypeId)
    (ho : o.op = .call { callee := .builtin .append, args := #[s, x], argTypes := #[t, t'] }) (v u : Value) (hs : a.eval s = v) (hx : a.eval x = u) {v' : Value} {w' : World}
    (hr : (Builtin.append_ #[t, t'] o.type #[v, u]).run P w = .ok v' w') (h : K (a.put o.dst v') w') : o.wp P a w K Q := by
  unfold Oper.wp execOp
  simp only [ho, resolve, invoke, builtin, Sem.run_bind, Sem.run_pure, Result.andThen_ok, List.map_toArray, List.map_cons, List.map_nil, hs, hx, hr]
  exact h
theorem wpList_app_run {w : World} {ops : Array Oper} {rest : List Oper} {o : Oper} {a : Act} {Q : Exit → Act → World → Prop} (hgd : o.guard = none) (s x : Operand) (t t' : TypeId)
    (ho : o.op = .call { callee := .builtin .append, args := #[s, x], argTypes := #[t, t'] }) (v u : Value) (hs : a.eval s = v) (hx : a.eval x = u) {v' : Value} {w' : World}
    (hr : (Builtin.append_ #[t, t'] o.type #[v, u]).run P w = .ok v' w') (h : wpList P ops Q rest (a.put o.dst v') w') : wpList P ops Q (o :: rest) a w :=
  wpList_plain hgd fun _ hK => wp_app_run s x t t' ho v u hs hx hr (hK _ _ h)
theorem step_app_run {ops : Array Oper} {w : World} {o : Oper} {a : Act} {K : Act → World → Prop} {Q : Exit → Act → World → Prop} {E : Prop} (hgd : o.guard = none) (s x : Operand) (t t' : TypeId)
    (ho : o.op = .call { callee := .builtin .append, args := #[s, x], argTypes := #[t, t'] }) (v u : Value) (hs : a.eval s = v) (hx : a.eval x = u) {v' : Value} {w' : World}
    (hr : (Builtin.append_ #[t, t'] o.type #[v, u]).run P w = .ok v' w') (h : K (a.put o.dst v') w') : if Region.wanted o (yielded ops a.tmps) = true then Oper.wp P o a w K Q else E := by
  have hw : Region.wanted o (yielded ops a.tmps) = true := by simp [Region.wanted, hgd]
  rw [if_pos hw]
  exact wp_app_run s x t t' ho v u hs hx hr h
theorem wp_copy_run {w : World} {o : Oper} {a : Act} {K : Act → World → Prop} {Q : Exit → Act → World → Prop} (s x : Operand) (t t' : TypeId)
    (ho : o.op = .call { callee := .builtin .copy, args := #[s, x], argTypes := #[t, t'] }) (v u : Value) (hs : a.eval s = v) (hx : a.eval x = u) {v' : Value} {w' : World}
    (hr : (Builtin.copy_ #[t, t'] o.type #[v, u]).run P w = .ok v' w') (h : K (a.put o.dst v') w') : o.wp P a w K Q := by
  unfold Oper.wp execOp
  simp only [ho, resolve, invoke, builtin, Sem.run_bind, Sem.run_pure, Result.andThen_ok, List.map_toArray, List.map_cons, List.map_nil, hs, hx, hr]
  exact h
theorem step_copy_run {ops : Array Oper} {w : World} {o : Oper} {a : Act} {K : Act → World → Prop} {Q : Exit → Act → World → Prop} {E : Prop} (hgd : o.guard = none) (s x : Operand) (t t' : TypeId)
    (ho : o.op = .call { callee := .builtin .copy, args := #[s, x], argTypes := #[t, t'] }) (v u : Value) (hs : a.eval s = v) (hx : a.eval x = u) {v' : Value} {w' : World}
    (hr : (Builtin.copy_ #[t, t'] o.type #[v, u]).run P w = .ok v' w') (h : K (a.put o.dst v') w') : if Region.wanted o (yielded ops a.tmps) = true then Oper.wp P o a w K Q else E := by
  have hw : Region.wanted o (yielded ops a.tmps) = true := by simp [Region.wanted, hgd]
  rw [if_pos hw]
  exact wp_copy_run s x t t' ho v u hs hx hr h
end
theorem setRow_fr (w : World) (g : Nat) (cs : Array Value) : Fr (fun b => b = g) w (w.setRow g cs) :=
  ⟨rfl, rfl, rfl, by simp, fun b _ hn => setRow_other w g b cs hn⟩
end Go.Sg
namespace Go.Proofs.YtgdhaaokolfdoaaGreatDoor
open Go.RowKit Go.Sg CP SF
theorem to127 (a : Option Addr) (n c m : Nat) (h : m ≤ c) (W : World) : (Instr.slice 127 (.slice a n c) none (some (.int .i64 m)) none).run Tryz.prog W = .ok (.slice a m c) W := slice_toG 127 4 (by kernel_rfl) (fun W => by kernel_rfl) a n c m h W
theorem from127 (g n c m : Nat) (h : m ≤ n) (hc : m < c) (W : World) : (Instr.slice 127 (.slice (some ⟨g, 0, none⟩) n c) (some (.int .i64 m)) none none).run Tryz.prog W = .ok (.slice (some ⟨g, m * 4, none⟩) (n - m) (c - m)) W := by
  rw [slice_fromG 127 4 (by kernel_rfl) (fun W => by kernel_rfl) _ n c m h W, if_neg (by omega)]
  simp [addr_add0]
theorem mid127 (g n c l h : Nat) (h1 : l ≤ h) (h2 : h ≤ c) (hc : l < c) (W : World) : (Instr.slice 127 (.slice (some ⟨g, 0, none⟩) n c) (some (.int .i64 l)) (some (.int .i64 h)) none).run Tryz.prog W = .ok (.slice (some ⟨g, l * 4, none⟩) (h - l) (c - l)) W := by
  rw [run_slice_lh W 127 _ n c (by kernel_rfl) .i64 .i64 l h (by omega) (by omega) (by omega)]
  rw [show ((sizeOf (Tryz.prog.elem 127)).run Tryz.prog W) = .ok 4 W by kernel_rfl]
  simp only [Result.andThen_ok, sliced, Int.toNat_natCast]
  rw [if_neg (by omega)]
  simp [addr_add0]
theorem max127 (g n c l h m : Nat) (h1 : l ≤ h) (h2 : h ≤ m) (h3 : m ≤ c) (W : World) : ∃ v, ∀ W, (Instr.slice 127 (.slice (some ⟨g, 0, none⟩) n c) (some (.int .i64 l)) (some (.int .i64 h)) (some (.int .i64 m))).run Tryz.prog W = .ok v W := by
  refine ⟨sliced (some ⟨g, 0, none⟩) l h m 4, fun W => ?_⟩
  rw [run_slice_lhm W 127 _ n c (by kernel_rfl) .i64 .i64 .i64 l h m (by omega) (by omega) (by omega) (by omega)]
  rw [show ((sizeOf (Tryz.prog.elem 127)).run Tryz.prog W) = .ok 4 W by kernel_rfl]
  simp only [Result.andThen_ok, Int.toNat_natCast]
theorem Tryz.zero118 (w : World) : (zeroValue 118).run Tryz.prog w = .ok (.agg #[.int .u64 0, .int .i64 0, .int .i64 0, .int .i64 0]) w := by kernel_rfl
theorem bt_one (es : List Bt) : ∀ u ∈ es.flatMap btC, u.oneCell' = true := by
  intro u hu
  obtain ⟨x, _, hx⟩ := List.mem_flatMap.1 hu
  simp [btC] at hx
  rcases hx with rfl | rfl | rfl | rfl <;> rfl
theorem ownE_open {w : World} {base : Nat} {v : Value} {es : List Bt} (h : OwnE w base v es) (hn : 0 < es.length) : ∃ g c cur, v = .slice (some ⟨g, 0, none⟩) es.length c ∧ base ≤ g ∧ w.heap[g]? = some (.cells cur 118) ∧ es.length ≤ c ∧ c ≤ maxLen ∧ cur.size = c * 4 ∧ cur.toList.take (es.length * 4) = es.flatMap btC := by
  obtain ⟨hl, ⟨h0, h1⟩ | ⟨g, c, cur, r⟩⟩ := h
  · omega
  · exact ⟨g, c, cur, r⟩
theorem ownE_shut {w : World} {base g c : Nat} {cur : Array Value} {es : List Bt} (hb : base ≤ g) (hg : w.heap[g]? = some (.cells cur 118)) (hc : es.length ≤ c) (hm : c ≤ maxLen) (hs : cur.size = c * 4) (ht : cur.toList.take (es.length * 4) = es.flatMap btC) : OwnE w base (.slice (some ⟨g, 0, none⟩) es.length c) es :=
  ⟨btC_len es, .inr ⟨g, c, cur, rfl, hb, hg, hc, hm, hs, ht⟩⟩
theorem bt_take (es : List Bt) : ∀ k : Nat, (es.flatMap btC).take (k * 4) = (es.take k).flatMap btC := by
  induction es with
  | nil => intro k; simp
  | cons x es ih =>
    intro k
    cases k with
    | zero => simp
    | succ k =>
      rw [List.flatMap_cons, List.take_succ_cons, List.flatMap_cons, ← ih k, show (k + 1) * 4 = 4 + k * 4 by omega]
      simp [btC, show 4 + k * 4 = k * 4 + 1 + 1 + 1 + 1 by omega]
theorem bt_drop (es : List Bt) : ∀ k : Nat, (es.flatMap btC).drop (k * 4) = (es.drop k).flatMap btC := by
  induction es with
  | nil => intro k; simp
  | cons x es ih =>
    intro k
    cases k with
    | zero => simp
    | succ k =>
      rw [List.flatMap_cons, List.drop_succ_cons, ← ih k, show (k + 1) * 4 = 4 + k * 4 by omega]
      simp [btC, show 4 + k * 4 = k * 4 + 1 + 1 + 1 + 1 by omega]
theorem cur_take {cur : List Value} {es : List Bt} (h : cur.take (es.length * 4) = es.flatMap btC) {k : Nat} (hk : k ≤ es.length) : cur.take (k * 4) = (es.take k).flatMap btC := by
  rw [← bt_take, ← h, List.take_take]
  congr 1; omega
end Go.Proofs.YtgdhaaokolfdoaaGreatDoor

namespace Go.Proofs.YtgdhaaokolfdoaaGreatDoor
open Go.RowKit Go.Sg CP SF
def TurnE (base : Nat) (v : Value) (out : List Bt) (w : World) (e : Ending) (w' : World) : Prop := ∃ v', e = .returned v' ∧ OwnE w' base v' out ∧ Fr (fun b => v.ownBlock = some b) w w'
set_option maxHeartbeats 4000000 in
set_option maxRecDepth 100000 in
theorem delete_e_ok {w : World} {base : Nat} {v : Value} {es : List Bt} (hE : OwnE w base v es) (hl : es.length ≤ 255) (i j : Nat) (hi : i < es.length) (hj : j = i + 1) :
    Calls Tryz.prog 135 #[v, .int .i64 i, .int .i64 j] w (TurnE base v (es.eraseIdx i) w) := by
  obtain ⟨i0, hi0, hz0, hz1, hz2⟩ := info_parts Tryz.info118
  obtain ⟨g, c, cur, rfl, hb, hg, hc, hm, hs, ht⟩ := ownE_open hE (by omega)
  obtain ⟨n, hn⟩ : ∃ n, es.length = n := ⟨_, rfl⟩
  rw [hn] at hi hl hc ht ⊢
  obtain ⟨m1, hm1⟩ : ∃ m1, i + (n - j) = m1 := ⟨_, rfl⟩
  have hm1n : m1 + 1 = n := by omega
  have hc63 : c ≤ 9223372036854775807 := by simpa [maxLen] using hm
  obtain ⟨v0, hS0⟩ := max127 g n c i j n (by omega) (by omega) hc w
  have hS1 := fun W => to127 (some ⟨g, 0, none⟩) n c i (by omega) W
  have hij : ((i : Int) == (j : Int)) = false := by simp; omega
  -- the entries that are moved to the left
  obtain ⟨news, hnews⟩ : ∃ news, news = (es.drop j).flatMap btC := ⟨_, rfl⟩
  have hnl : news.length = (n - j) * i0.size := by rw [hnews, btC_len, List.length_drop, hn, hz1]
  obtain ⟨A, hA, hsrc⟩ : ∃ A : Addr, (∀ W, (Instr.slice 127 (.slice (some ⟨g, 0, none⟩) n c) (some (.int .i64 j)) none none).run Tryz.prog W = .ok (.slice (some A) (n - j) (c - j)) W) ∧ ∀ t u, news[t]? = some u → w.drew.cell? (A.add t) = some u := by
    by_cases hjc : j < c
    · refine ⟨⟨g, j * 4, none⟩, fun W => from127 g n c j (by omega) hjc W, fun t u hu => ?_⟩
      rw [addr_add0]
      show w.cell? _ = _
      rw [cell_of_heap hg]
      rw [hnews, ← bt_drop, List.getElem?_drop, ← ht, List.getElem?_take] at hu
      split at hu
      · simpa using hu
      · cases hu
    · refine ⟨⟨g, 0, none⟩, fun W => ?_, fun t u hu => ?_⟩
      · rw [slice_fromG 127 4 (by kernel_rfl) (fun W => by kernel_rfl) _ n c j (by omega) W, if_pos (by omega)]
      · have : news = [] := List.eq_nil_of_length_eq_zero (by rw [hnl]; have : n - j = 0 := by omega
                                                              rw [this, Nat.zero_mul])
        rw [this] at hu; simp at hu
  obtain ⟨cur1, hcur1⟩ : ∃ cur1, cur1 = (cur.toList.take (i * i0.size) ++ news ++ cur.toList.drop (i * i0.size + news.length)).toArray := ⟨_, rfl⟩
  have hfit : i * i0.size + news.length ≤ cur.size := by rw [hnl, hs, hz1, ← Nat.add_mul]; exact Nat.mul_le_mul_right _ (by omega)
  have hap : ∀ ty, (Builtin.append_ #[127, 127] ty #[.slice (some ⟨g, 0, none⟩) i c, .slice (some A) (n - j) (c - j)]).run Tryz.prog w.drew = .ok (.slice (some ⟨g, 0, none⟩) m1 c) (w.drew.setRow g cur1) := fun ty => by
    have := run_append_room (P := Tryz.prog) w.drew 127 ty 118 i0 Tryz.underlying127 hi0 g i c cur hg A (n - j) (c - j) news hnl hsrc (by rw [hnews]; exact bt_one _) (by omega) hfit
    rw [hm1, ← hcur1] at this
    exact this
  have hs1 : cur1.size = c * 4 := by
    rw [hcur1]
    simp only [List.size_toArray, List.length_append, List.length_take, List.length_drop, Array.length_toList]
    omega
  obtain ⟨W1, hW1⟩ : ∃ W1, w.drew.setRow g cur1 = W1 := ⟨_, rfl⟩
  have hg1 : W1.heap[g]? = some (.cells cur1 118) := by rw [← hW1]; exact setRow_heap _ g cur cur1 118 _ hg
  have hS2 := fun W => mid127 g m1 c m1 n (by omega) hc (by omega) W
  rw [show n - m1 = 1 by omega] at hS2
  obtain ⟨zs, hzl, hcl⟩ := run_clear_rows (P := Tryz.prog) W1 127 118 (0 : Nat) _ 4 Tryz.underlying127 Tryz.zero118 rfl (by decide) (by simp [Value.cells, Value.oneCell']) g (m1 * 4) 1 (c - m1) (by decide) cur1 118 hg1 (by rw [hs1]; omega)
  have hcl' : ∀ ty, (Builtin.clear_ #[127] ty #[.slice (some ⟨g, m1 * 4, none⟩) 1 (c - m1)]).run Tryz.prog W1 = .ok (.tuple #[]) (W1.setRow g (cur1.toList.take (m1 * 4) ++ zs ++ cur1.toList.drop (m1 * 4 + zs.length)).toArray) := fun _ => hcl
  clear hcl
  obtain ⟨of4, ho4⟩ : ∃ of4, m1 * 4 = of4 := ⟨_, rfl⟩
  obtain ⟨cur2, hcur2⟩ : ∃ cur2, cur2 = (cur1.toList.take (m1 * 4) ++ zs ++ cur1.toList.drop (m1 * 4 + zs.length)).toArray := ⟨_, rfl⟩
  rw [← hcur2] at hcl'
  -- what stands there in the end
  have hend : OwnE (W1.setRow g cur2) base (.slice (some ⟨g, 0, none⟩) m1 c) (es.eraseIdx i) := by
    have hlen : (es.eraseIdx i).length = m1 := by rw [List.length_eraseIdx_of_lt (by omega)]; omega
    have hg2 := setRow_heap W1 g cur1 cur2 118 _ hg1
    have := ownE_shut (es := es.eraseIdx i) (c := c) hb hg2 (by omega) hm (by
      rw [hcur2]
      simp only [List.size_toArray, List.length_append, List.length_take, List.length_drop, Array.length_toList]
      omega) (by
      rw [hlen, hcur2]
      simp only [List.append_assoc]
      rw [List.take_append_of_le_length (by rw [List.length_take, Array.length_toList]; omega), List.take_take, Nat.min_self, hcur1]
      have h4 : (cur.toList.take (i * i0.size)) = (es.take i).flatMap btC := by
        rw [hz1]
        exact cur_take (by rw [hn]; exact ht) (by omega)
      rw [h4, hnews, List.eraseIdx_eq_take_drop_succ, List.flatMap_append, hj]
      exact List.take_left' (by
        simp only [List.length_append, btC_len, List.length_take, List.length_drop]
        omega))
    rw [hlen] at this
    exact this
  have hfr : Fr (fun b => b = g) w (W1.setRow g cur2) := by
    rw [← hW1]
    exact ((Fr.refl (fun b => b = g) _).drew.trans (setRow_fr _ g cur1) (fun _ _ h => h)).trans (setRow_fr _ g cur2) (fun _ _ h => h)
  rw [ho4] at hcl' hS2
  rw [hW1] at hap
  have HEnd := hid (And.intro hend hfr)
  have HAp := hid hap
  clear hE hb hg hs ht hm hnews hnl hsrc hcur1 hfit hap hs1 hW1 hg1 hzl ho4 hcur2 hend hfr hz0 hz1 hz2 hi0 hn hj
  go_enter Tryz.func135, Tryz.ntmps135
  go_wp2_with fail
  go_region_law (refine step_app_run rfl (.tmp 22) (.tmp 25) 127 127 rfl _ _ (by simp [Act.eval, Act.put]) (by simp [Act.eval, Act.put]) (HAp.out _) ?_)
  go_wp2_with fail
  go_ret
  refine ⟨_, rfl, HEnd.out.1, HEnd.out.2.mono fun b _ h => by subst h; rfl⟩
end Go.Proofs.YtgdhaaokolfdoaaGreatDoor

namespace Go.Proofs.YtgdhaaokolfdoaaGreatDoor
open Go.RowKit Go.Sg CP SF
theorem wrap_add1 {i j : Nat} (h : i + 1 = j) (hj : j ≤ 1048576) : wrap64 ((i : Int) + 1) = (j : Int) := by simp only [wrap64]; omega
theorem iwrap_add1 {i j : Nat} (h : i + 1 = j) (hj : j ≤ 1048576) : IntKind.i64.wrap ((i : Int) + 1) = (j : Int) := by rw [IntKind.wrap_i64]; omega
theorem wrap_subN {a b k : Nat} (h : a - b = k) (hb : b ≤ a) (ha : a ≤ 1048576) : wrap64 ((a : Int) - (b : Int)) = (k : Int) := by simp only [wrap64]; omega
def insB (es : List Bt) (i : Nat) (x : Bt) : List Bt := es.take i ++ x :: es.drop i
theorem insB_len {es : List Bt} {i : Nat} (h : i ≤ es.length) (x : Bt) : (insB es i x).length = es.length + 1 := by
  simp [insB, List.length_take, List.length_drop]; omega
theorem insB_cells (es : List Bt) (i : Nat) (x : Bt) : (insB es i x).flatMap btC = (es.take i).flatMap btC ++ (btC x ++ (es.drop i).flatMap btC) := by
  simp [insB, List.flatMap_append, List.flatMap_cons]
theorem Tryz.size118 : (Tryz.prog.info? 118).map (·.size) = some 4 := by kernel_rfl
theorem overlaps_apart {w : World} {q g : Nat} {c d : Array Value} (hq : w.heap[q]? = some (.cells c 118)) (hg : w.heap[g]? = some (.cells d 118)) (hne : q ≠ g) (hd : d.size ≠ 0) (o m cm lb cb : Nat) :
    (callFunc 253 #[.slice (some ⟨q, 0, none⟩) m cm, .slice (some ⟨g, o, none⟩) lb cb]).run Tryz.prog w = .ok (.value (.bool false)) w := by
  rw [run_callFunc_extern Tryz.func253 (by kernel_rfl) (by kernel_rfl) (by kernel_rfl) (e := Extern.SlicesOverlaps.overlaps #[127, 127] #[4]) (by kernel_rfl),
    Lib.run_overlaps_apart w 127 4 118 Tryz.underlying127 4 (fun W => by kernel_rfl) ⟨q, 0, none⟩ ⟨g, o, none⟩ m cm lb cb hne 118 118 c.size d.size (by simp [World.shape?, hq]) (by simp [World.shape?, hg]) hd (frozen_of_heap hq 0) (frozen_of_heap hq c.size)]
  rfl
set_option maxHeartbeats 1000000 in
set_option maxRecDepth 100000 in
theorem insert_end {w : World} {base : Nat} {v : Value} {es : List Bt} (hE : OwnE w base v es) (hl : es.length ≤ 254) (hbase : base ≤ w.heap.size) (i : Nat) (hi : i = es.length) (x : Bt) {q : Nat} (hq : w.heap[q]? = some (.cells #[.int .u64 x.hash, .int .i64 x.rg, .int .i64 x.at_, .int .i64 x.sz] 118)) :
    Calls Tryz.prog 201 #[v, .int .i64 i, .slice (some ⟨q, 0, none⟩) 1 1] w (TurnE base v (insB es i x) w) := by
  obtain ⟨i0, hi0, hz0, hz1, hz2⟩ := info_parts Tryz.info118
  obtain ⟨va, vc, rfl, hnc, -, -, -⟩ := own_slice hE
  have hw : insB es i x = es ++ [x] := by unfold insB; rw [hi, List.take_length, List.drop_length]
  rw [hw]
  have HE := hid (And.intro hE hl)
  obtain ⟨n, hn⟩ : ∃ n, es.length = n := ⟨_, rfl⟩
  rw [hn] at hi hl hnc hE ⊢
  subst hi
  obtain ⟨v0, hS0⟩ : ∃ v0, ∀ W, (Instr.slice 127 (.slice va i vc) (some (.int .i64 i)) none none).run Tryz.prog W = .ok v0 W := ⟨_, fun W => slice_fromG 127 4 (by kernel_rfl) (fun W => by kernel_rfl) va i vc i (Nat.le_refl _) W⟩
  have HN := hid hn
  have HB := hid hbase
  have HS := hid (show SrcV w (.slice (some ⟨q, 0, none⟩) 1 1) 1 (btC x) from ⟨_, 1, rfl, .inr ⟨_, rfl, fun j u hj => by rw [addr_add0, Nat.zero_add, cell_of_heap hq]; simpa using hj⟩⟩)
  have HO := hid hE
  clear hE hl hbase hq hn hnc hw
  go_enter Tryz.func201, Tryz.ntmps201
  go_wp2_with (at_builtin; refine wpList_append_src rfl (.tmp 23) (.tmp 24) 127 rfl base 118 i0 _ 4 32 Tryz.underlying127 hi0 hz0 hz1 hz2 rfl (by decide) _ _ _ rfl HO.out _ 1 (btC x) rfl HS.out (by simp [btC]) (by intro u hu; simp [btC] at hu; rcases hu with rfl | rfl | rfl | rfl <;> rfl) (by have := HE.out.2; have := HN.out; simp [maxLen]; omega) (by have := HE.out.2; have := HN.out; omega) HB.out ?_)
  intro v3 W3 hown3 hg3 hne3
  have F3 : Fr (fun b => (Value.slice va i vc).ownBlock = some b) w W3 := ⟨hg3.os, hg3.tape, hg3.output, hg3.size, fun b hb hn => hg3.block b hb (fun e => hn e.symm)⟩
  have H3 := hid (And.intro (show OwnE W3 base v3 (es ++ [x]) by
    show W3.ownsRow base 118 4 v3 (es ++ [x]).length ((es ++ [x]).flatMap btC)
    rw [List.length_append, List.flatMap_append]
    simpa using hown3) F3)
  clear hown3 hg3 hne3 F3
  go_wp2_with fail
  go_ret
  exact ⟨_, rfl, H3.out.1, H3.out.2⟩
end Go.Proofs.YtgdhaaokolfdoaaGreatDoor

namespace Go.Proofs.YtgdhaaokolfdoaaGreatDoor
open Go.RowKit Go.Sg CP SF
set_option maxHeartbeats 1000000 in
set_option maxRecDepth 100000 in
theorem insert_room {w : World} {base : Nat} {es : List Bt} {g c : Nat} {cur : Array Value} (hb : base ≤ g) (hg : w.heap[g]? = some (.cells cur 118)) (hc : es.length ≤ c) (hm : c ≤ maxLen) (hs : cur.size = c * 4) (ht : cur.toList.take (es.length * 4) = es.flatMap btC) (hl : es.length ≤ 254) (i : Nat) (hi : i < es.length) (hroom : es.length + 1 ≤ c)
    (x : Bt) {q : Nat} (hq : w.heap[q]? = some (.cells #[.int .u64 x.hash, .int .i64 x.rg, .int .i64 x.at_, .int .i64 x.sz] 118)) (hne : q ≠ g) :
    Calls Tryz.prog 201 #[.slice (some ⟨g, 0, none⟩) es.length c, .int .i64 i, .slice (some ⟨q, 0, none⟩) 1 1] w (TurnE base (.slice (some ⟨g, 0, none⟩) es.length c) (insB es i x) w) := by
  have hlen := insB_len (Nat.le_of_lt hi) x
  have hdl : (es.drop i).length = es.length - i := List.length_drop
  obtain ⟨n, hn⟩ : ∃ n, es.length = n := ⟨_, rfl⟩
  rw [hn] at hi hl hc ht hroom hlen hdl ⊢
  obtain ⟨n1, hn1⟩ : ∃ n1, n + 1 = n1 := ⟨_, rfl⟩
  obtain ⟨j, hj⟩ : ∃ j, i + 1 = j := ⟨_, rfl⟩
  rw [hn1] at hroom hlen
  have hc63 : c ≤ 9223372036854775807 := by simpa [maxLen] using hm
  have hS0 := fun W => from127 g n c i (by omega) (by omega) W
  have hd0 : ((i : Int) == (n : Int)) = false := by simp; omega
  have HW1 := hid (show wrap64 ((n : Int) + 1) = (n1 : Int) from wrap_add1 hn1 (by omega))
  have HW2 := hid (show wrap64 ((i : Int) + 1) = (j : Int) from wrap_add1 hj (by omega))
  have HW3 := hid (show IntKind.i64.wrap ((i : Int) + 1) = (j : Int) from iwrap_add1 hj (by omega))
  have hd1 : decide (c < n1) = false := by simp; omega
  have hd2 : decide ((c : Int) < (n1 : Int)) = false := by simp; omega
  have hS1 := fun W => to127 (some ⟨g, 0, none⟩) n c n1 hroom W
  have hS2 := fun W => from127 g n1 c j (by omega) (by omega) W
  have hS3 := fun W => from127 g n1 c i (by omega) (by omega) W
  have hov := fun lb cb => overlaps_apart hq hg hne (by rw [hs]; omega) (j * 4) 1 1 lb cb
  -- the entries that go right
  obtain ⟨cs, hcs⟩ : ∃ cs, cs = (es.drop i).flatMap btC := ⟨_, rfl⟩
  have hcl : cs.length = (n1 - j) * 4 := by rw [hcs, btC_len, hdl]; congr 1; omega
  obtain ⟨cur1, hcur1⟩ : ∃ cur1, cur1 = (cur.toList.take (j * 4) ++ cs ++ cur.toList.drop (j * 4 + cs.length)).toArray := ⟨_, rfl⟩
  have hs1 : cur1.size = c * 4 := by
    rw [hcur1]
    simp only [List.size_toArray, List.length_append, List.length_take, List.length_drop, Array.length_toList]
    omega
  have hcp1 : ∀ ty, (Builtin.copy_ #[127, 127] ty #[.slice (some ⟨g, j * 4, none⟩) (n1 - j) (c - j), .slice (some ⟨g, i * 4, none⟩) (n1 - i) (c - i)]).run Tryz.prog w.drew = .ok (goInt ((n1 - j : Nat) : Int)) (w.drew.setRow g cur1) := fun ty => by
    rw [hcur1]
    exact run_copy_rows w.drew 127 127 ty 118 4 (n1 - j) g (j * 4) (n1 - j) (c - j) ⟨g, i * 4, none⟩ (n1 - i) (c - i) cur 118 cs Tryz.underlying127 Tryz.size118 hg (by simp only [Nat.min_def]; split <;> omega) hcl (fun t u hu => by
      rw [addr_add0]
      show w.cell? _ = _
      rw [cell_of_heap hg]
      rw [hcs, ← bt_drop, List.getElem?_drop, ← ht, List.getElem?_take] at hu
      split at hu
      · simpa using hu
      · cases hu) (by rw [hcl, hs]; omega) (by rw [hcs]; exact bt_one _)
  obtain ⟨W1, hW1⟩ : ∃ W1, w.drew.setRow g cur1 = W1 := ⟨_, rfl⟩
  have hg1 : W1.heap[g]? = some (.cells cur1 118) := by rw [← hW1]; exact setRow_heap _ g cur cur1 118 _ hg
  have hq1 : W1.heap[q]? = some (.cells #[.int .u64 x.hash, .int .i64 x.rg, .int .i64 x.at_, .int .i64 x.sz] 118) := by rw [← hW1, setRow_other _ g q _ hne]; exact hq
  obtain ⟨cur2, hcur2⟩ : ∃ cur2, cur2 = (cur1.toList.take (i * 4) ++ btC x ++ cur1.toList.drop (i * 4 + (btC x).length)).toArray := ⟨_, rfl⟩
  have hcp2 : ∀ ty, (Builtin.copy_ #[127, 127] ty #[.slice (some ⟨g, i * 4, none⟩) (n1 - i) (c - i), .slice (some ⟨q, 0, none⟩) 1 1]).run Tryz.prog W1 = .ok (goInt 1) (W1.setRow g cur2) := fun ty => by
    rw [hcur2]
    exact run_copy_rows W1 127 127 ty 118 4 1 g (i * 4) (n1 - i) (c - i) ⟨q, 0, none⟩ 1 1 cur1 118 (btC x) Tryz.underlying127 Tryz.size118 hg1 (by simp only [Nat.min_def]; split <;> omega) (by simp [btC]) (fun t u hu => by
      rw [addr_add0, Nat.zero_add, cell_of_heap hq1]; simpa using hu) (by rw [hs1]; simp [btC]; omega) (by intro u hu; simp [btC] at hu; rcases hu with rfl | rfl | rfl | rfl <;> rfl)
  have hend : OwnE (W1.setRow g cur2) base (.slice (some ⟨g, 0, none⟩) n1 c) (insB es i x) := by
    have hg2 := setRow_heap W1 g cur1 cur2 118 _ hg1
    have := ownE_shut (es := insB es i x) (c := c) hb hg2 (by omega) hm (by
      rw [hcur2]
      simp only [List.size_toArray, List.length_append, List.length_take, List.length_drop, Array.length_toList, show (btC x).length = 4 from rfl]
      omega) (by
      rw [hlen, insB_cells, hcur2]
      have e1 : cur1.toList.take (i * 4) = (es.take i).flatMap btC := by
        rw [hcur1]
        simp only [List.append_assoc]
        rw [List.take_append_of_le_length (by rw [List.length_take, Array.length_toList]; omega), List.take_take, show min (i * 4) (j * 4) = i * 4 by omega]
        exact cur_take (by rw [hn]; exact ht) (by omega)
      have e2 : cur1.toList.drop (i * 4 + (btC x).length) = cs ++ cur.toList.drop (j * 4 + cs.length) := by
        rw [hcur1, show i * 4 + (btC x).length = j * 4 by simp [btC]; omega]
        simp only [List.append_assoc]
        exact List.drop_left' (by rw [List.length_take, Array.length_toList]; omega)
      rw [e1, e2, ← hcs]
      simp only [List.append_assoc]
      rw [← List.append_assoc (btC x), ← List.append_assoc]
      exact List.take_left' (by
        simp only [List.length_append, btC_len, List.length_take, hn, hcl, show (btC x).length = 4 from rfl]
        omega))
    rw [hlen] at this
    exact this
  have hfr : Fr (fun b => b = g) w (W1.setRow g cur2) := by
    rw [← hW1]
    exact ((Fr.refl (fun b => b = g) _).drew.trans (setRow_fr _ g cur1) (fun _ _ h => h)).trans (setRow_fr _ g cur2) (fun _ _ h => h)
  rw [hW1] at hcp1
  obtain ⟨oj, hoj⟩ : ∃ oj, j * 4 = oj := ⟨_, rfl⟩
  obtain ⟨oi, hoi⟩ : ∃ oi, i * 4 = oi := ⟨_, rfl⟩
  obtain ⟨lj, hlj⟩ : ∃ lj, n1 - j = lj := ⟨_, rfl⟩
  obtain ⟨li, hli⟩ : ∃ li, n1 - i = li := ⟨_, rfl⟩
  rw [hoj, hoi, hlj, hli] at hcp1
  rw [hoi, hli] at hcp2
  rw [hoi] at hS0
  rw [hoi, hli] at hS3
  rw [hoj, hlj] at hS2
  rw [hoj] at hov
  have HEnd := hid (And.intro hend hfr)
  have HC1 := hid hcp1
  have HC2 := hid hcp2
  clear hb hg hs ht hm hcs hcl hcur1 hcp1 hs1 hW1 hg1 hq hq1 hcur2 hcp2 hend hfr hn hoj hoi hlj hli hlen hdl
  subst hn1
  subst hj
  simp only [Int.natCast_add, Int.natCast_one] at hS1 hS2 hd2
  have hw3 : IntKind.i64.wrap ((i : Int) + 1) = (i : Int) + 1 := by have := HW3.out; simpa using this
  have hcp2 := HC2.out
  go_enter Tryz.func201, Tryz.ntmps201
  go_wp2_with (simp only [hov])
  go_region_law (refine step_copy_run rfl (.tmp 73) (.tmp 76) 127 127 rfl _ _ (by simp [Act.eval, Act.put]) (by simp [Act.eval, Act.put]) (HC1.out _) ?_)
  go_wp2_with fail
  go_ret
  exact ⟨_, rfl, HEnd.out.1, HEnd.out.2.mono fun b _ h => by subst h; rfl⟩
end Go.Proofs.YtgdhaaokolfdoaaGreatDoor

namespace Go.Proofs.YtgdhaaokolfdoaaGreatDoor
open Go.RowKit Go.Sg CP SF
set_option maxHeartbeats 4000000 in
set_option maxRecDepth 100000 in
theorem insert_grow {w : World} {base : Nat} {es : List Bt} {g c : Nat} {cur : Array Value} (hg : w.heap[g]? = some (.cells cur 118)) (hc : es.length ≤ c) (hm : c ≤ maxLen) (ht : cur.toList.take (es.length * 4) = es.flatMap btC) (hl : es.length ≤ 254) (hbase : base ≤ w.heap.size) (i : Nat) (hi : i < es.length) (hroom : ¬ es.length + 1 ≤ c)
    (x : Bt) {q : Nat} (hq : w.heap[q]? = some (.cells #[.int .u64 x.hash, .int .i64 x.rg, .int .i64 x.at_, .int .i64 x.sz] 118)) :
    Calls Tryz.prog 201 #[.slice (some ⟨g, 0, none⟩) es.length c, .int .i64 i, .slice (some ⟨q, 0, none⟩) 1 1] w (TurnE base (.slice (some ⟨g, 0, none⟩) es.length c) (insB es i x) w) := by
  obtain ⟨i0, hi0, hz0, hz1, hz2⟩ := info_parts Tryz.info118
  have hlen := insB_len (Nat.le_of_lt hi) x
  have hdl : (es.drop i).length = es.length - i := List.length_drop
  have htl : (es.take i).length = i := by rw [List.length_take]; omega
  obtain ⟨n, hn⟩ : ∃ n, es.length = n := ⟨_, rfl⟩
  rw [hn] at hi hl hc ht hroom hlen hdl ⊢
  obtain ⟨n1, hn1⟩ : ∃ n1, n + 1 = n1 := ⟨_, rfl⟩
  obtain ⟨j, hj⟩ : ∃ j, i + 1 = j := ⟨_, rfl⟩
  obtain ⟨k, hk⟩ : ∃ k, n1 - i = k := ⟨_, rfl⟩
  obtain ⟨N, hN⟩ : ∃ N, w.heap.size = N := ⟨_, rfl⟩
  rw [hn1] at hroom hlen
  have hc63 : c ≤ 9223372036854775807 := by simpa [maxLen] using hm
  have hgN : g < N := by rw [← hN]; exact lt_of_heap hg
  have hqN : q < N := by rw [← hN]; exact lt_of_heap hq
  have hd0 : ((i : Int) == (n : Int)) = false := by simp; omega
  have HW1 := hid (show wrap64 ((n : Int) + 1) = (n1 : Int) from wrap_add1 hn1 (by omega))
  have HW2 := hid (show wrap64 ((i : Int) + 1) = (j : Int) from wrap_add1 hj (by omega))
  have HW3 := hid (show IntKind.i64.wrap ((i : Int) + 1) = (j : Int) from iwrap_add1 hj (by omega))
  have HW4 := hid (show wrap64 ((n1 : Int) - (i : Int)) = (k : Int) from wrap_subN hk (by omega) (by omega))
  have hd1 : decide (c < n1) = true := by simp; omega
  have hd2 : decide ((c : Int) < (n1 : Int)) = true := by simp; omega
  have hS0 := fun W => from127 g n c i (by omega) (by omega) W
  have hS1 := fun W => to127 (some ⟨g, 0, none⟩) n c i (by omega) W
  obtain ⟨olds, holds⟩ : ∃ olds, olds = (es.take i).flatMap btC := ⟨_, rfl⟩
  have hol : olds.length = i * 4 := by rw [holds, btC_len, htl]
  have hcell : ∀ (k : Nat) (u : Value), ((es.drop i).flatMap btC)[k]? = some u → w.cell? ⟨g, i * 4 + k, none⟩ = some u := fun k u hu => by
    rw [cell_of_heap hg]
    rw [← bt_drop, List.getElem?_drop, ← ht, List.getElem?_take] at hu
    split at hu
    · simpa using hu
    · cases hu
  have hold : (Builtin.firstCells i0.size i (.slice (some ⟨g, 0, none⟩) i c)).run Tryz.prog w.drew = .ok olds.toArray w.drew :=
    run_firstCells_some w.drew i0.size i ⟨g, 0, none⟩ i c olds (by rw [hol, hz1]) (fun t u hu => by
      rw [addr_add0, Nat.zero_add]
      show w.cell? _ = _
      rw [cell_of_heap hg]
      rw [holds, ← bt_take, ← ht, List.getElem?_take] at hu
      split at hu
      · rw [List.getElem?_take] at hu
        split at hu
        · simpa using hu
        · cases hu
      · cases hu)
  obtain ⟨G, hG⟩ : ∃ G, G = grownCap w (i + k) c 118 := ⟨_, rfl⟩
  have hik : i + k = n1 := by omega
  have hGn : n1 ≤ G := by rw [hG, ← hik]; exact grownCap_ge w _ _ _
  have hGm : G ≤ maxLen := by rw [hG]; exact grownCap_le_maxLen w _ _ _ (by simp only [maxLen]; omega)
  obtain ⟨Z1, hZ1⟩ : ∃ Z1, Z1 = Builtin.zeroCells (Value.agg #[.int .u64 0, .int .i64 0, .int .i64 0, .int .i64 0]).cells k := ⟨_, rfl⟩
  obtain ⟨Z2, hZ2⟩ : ∃ Z2, Z2 = Builtin.zeroCells (Value.agg #[.int .u64 0, .int .i64 0, .int .i64 0, .int .i64 0]).cells (G - n1) := ⟨_, rfl⟩
  have hz1l : Z1.size = k * 4 := by rw [hZ1, size_zeroCells]; rfl
  have hz2l : Z2.size = (G - n1) * 4 := by rw [hZ2, size_zeroCells]; rfl
  obtain ⟨ROW, hROW⟩ : ∃ ROW : Array Value, ROW = olds.toArray ++ Z1 ++ Z2 := ⟨_, rfl⟩
  have hRs : ROW.size = G * 4 := by
    rw [hROW]
    simp only [Array.size_append, List.size_toArray, hol, hz1l, hz2l]
    omega
  have hRt : ROW.toList.take (i * 4) = olds := by
    rw [hROW]
    simp only [Array.toList_append, List.append_assoc]
    exact List.take_left' hol
  obtain ⟨W1, hW1⟩ : ∃ W1, w.drew.alloc (.cells ROW 118) = W1 := ⟨_, rfl⟩
  have hrz : ∀ ty, (Builtin.append_ #[127, 3] ty #[.slice (some ⟨g, 0, none⟩) i c, .int .i64 k]).run Tryz.prog w = .ok (.slice (some ⟨N, 0, none⟩) n1 G) W1 := fun ty => by
    have h := Lib.run_append_grow_zeros w 127 3 ty 118 i0 _ .i64 .i64 Tryz.underlying127 Tryz.underlying3 hi0 hz0 (some ⟨g, 0, none⟩) i c olds hold k (by omega) (by omega) (by omega) (by omega) (by rw [hz2]; omega) (by rw [hz2]; exact growslice_fits (by omega) (by omega))
    rw [← hG, hik, ← hZ1, ← hZ2, ← hROW, hW1, hN] at h
    exact h
  have hg1 : W1.heap[N]? = some (.cells ROW 118) := by rw [← hW1, ← hN]; exact heap_alloc_new w.drew _
  have F1 : Fr (fun _ => False) w W1 := by rw [← hW1]; exact (Fr.refl _ _).drew.alloc _
  have hS2 := fun W => from127 N n1 G i (by omega) (by omega) W
  obtain ⟨cur1, hcur1⟩ : ∃ cur1, cur1 = (ROW.toList.take (i * 4) ++ btC x ++ ROW.toList.drop (i * 4 + (btC x).length)).toArray := ⟨_, rfl⟩
  have hs1 : cur1.size = G * 4 := by
    rw [hcur1]
    simp only [List.size_toArray, List.length_append, List.length_take, List.length_drop, Array.length_toList, show (btC x).length = 4 from rfl]
    omega
  have hcp1 : ∀ ty, (Builtin.copy_ #[127, 127] ty #[.slice (some ⟨N, i * 4, none⟩) (n1 - i) (G - i), .slice (some ⟨q, 0, none⟩) 1 1]).run Tryz.prog W1 = .ok (goInt 1) (W1.setRow N cur1) := fun ty => by
    rw [hcur1]
    exact run_copy_rows W1 127 127 ty 118 4 1 N (i * 4) (n1 - i) (G - i) ⟨q, 0, none⟩ 1 1 ROW 118 (btC x) Tryz.underlying127 Tryz.size118 hg1 (by simp only [Nat.min_def]; split <;> omega) (by simp [btC]) (fun t u hu => by
      rw [addr_add0, Nat.zero_add, cell_of_heap (F1.heap hq (fun h => h))]; simpa using hu) (by rw [hRs]; simp [btC]; omega) (by intro u hu; simp [btC] at hu; rcases hu with rfl | rfl | rfl | rfl <;> rfl)
  obtain ⟨W2, hW2⟩ : ∃ W2, W1.setRow N cur1 = W2 := ⟨_, rfl⟩
  have hg2 : W2.heap[N]? = some (.cells cur1 118) := by rw [← hW2]; exact setRow_heap _ N ROW cur1 118 _ hg1
  have F2 : Fr (fun _ => False) w W2 := by
    rw [← hW2]
    exact F1.trans (setRow_fr _ N cur1) (fun b hb h => by omega)
  have hS3 := fun W => from127 N n1 G j (by omega) (by omega) W
  obtain ⟨cs, hcs⟩ : ∃ cs, cs = (es.drop i).flatMap btC := ⟨_, rfl⟩
  have hcl : cs.length = (n1 - j) * 4 := by rw [hcs, btC_len, hdl]; congr 1; omega
  obtain ⟨cur2, hcur2⟩ : ∃ cur2, cur2 = (cur1.toList.take (j * 4) ++ cs ++ cur1.toList.drop (j * 4 + cs.length)).toArray := ⟨_, rfl⟩
  have hcp2 : ∀ ty, (Builtin.copy_ #[127, 127] ty #[.slice (some ⟨N, j * 4, none⟩) (n1 - j) (G - j), .slice (some ⟨g, i * 4, none⟩) (n - i) (c - i)]).run Tryz.prog W2.drew = .ok (goInt ((n1 - j : Nat) : Int)) (W2.drew.setRow N cur2) := fun ty => by
    rw [hcur2]
    exact run_copy_rows W2.drew 127 127 ty 118 4 (n1 - j) N (j * 4) (n1 - j) (G - j) ⟨g, i * 4, none⟩ (n - i) (c - i) cur1 118 cs Tryz.underlying127 Tryz.size118 hg2 (by simp only [Nat.min_def]; split <;> omega) hcl (fun t u hu => by
      rw [addr_add0]
      show W2.cell? _ = _
      rw [hcs] at hu
      exact (F2.cell (p := ⟨g, i * 4 + t, none⟩) (lt_of_heap hg) (fun h => h)).trans (hcell t u hu)) (by rw [hcl, hs1]; omega) (by rw [hcs]; exact bt_one _)
  have hend : OwnE (W2.drew.setRow N cur2) base (.slice (some ⟨N, 0, none⟩) n1 G) (insB es i x) := by
    have hg3 := setRow_heap W2.drew N cur1 cur2 118 _ hg2
    have := ownE_shut (es := insB es i x) (c := G) (by rw [← hN]; exact hbase) hg3 (by omega) hGm (by
      rw [hcur2]
      simp only [List.size_toArray, List.length_append, List.length_take, List.length_drop, Array.length_toList]
      omega) (by
      rw [hlen, insB_cells, hcur2]
      have e1 : cur1.toList.take (j * 4) = (es.take i).flatMap btC ++ btC x := by
        have ec : cur1.toList = (es.take i).flatMap btC ++ (btC x ++ ROW.toList.drop (i * 4 + (btC x).length)) := by
          rw [hcur1, ← holds, ← hRt]; simp
        rw [ec, ← List.append_assoc]
        exact List.take_left' (by
          simp only [List.length_append, btC_len, htl, show (btC x).length = 4 from rfl]
          omega)
      rw [e1, ← hcs]
      simp only [List.append_assoc]
      rw [← List.append_assoc (btC x), ← List.append_assoc]
      exact List.take_left' (by
        simp only [List.length_append, btC_len, List.length_take, hn, hcl, show (btC x).length = 4 from rfl]
        omega))
    rw [hlen] at this
    exact this
  have hfr : Fr (fun _ => False) w (W2.drew.setRow N cur2) := F2.drew.trans (setRow_fr _ N cur2) (fun b hb h => by omega)
  obtain ⟨oj, hoj⟩ : ∃ oj, j * 4 = oj := ⟨_, rfl⟩
  obtain ⟨oi, hoi⟩ : ∃ oi, i * 4 = oi := ⟨_, rfl⟩
  obtain ⟨lj, hlj⟩ : ∃ lj, n1 - j = lj := ⟨_, rfl⟩
  obtain ⟨ni, hni⟩ : ∃ ni, n - i = ni := ⟨_, rfl⟩
  rw [hoj, hoi, hlj, hni] at hcp2
  rw [hoi, hk, hW2] at hcp1
  rw [hoi, hni] at hS0
  rw [hoi, hk] at hS2
  rw [hoj, hlj] at hS3
  have HEnd := hid (And.intro hend hfr)
  have HC1 := hid hcp1
  have HC2 := hid hcp2
  clear hg ht hm hcs hcl hcur1 hcp1 hs1 hW1 hg1 hq hcur2 hcp2 hend hfr hn hN hoj hoi hlj hni hlen hdl hROW hRs hRt hZ1 hZ2 hz1l hz2l hG hold holds hol hcell hW2 hg2 F1 F2 htl hi0 hz0 hz1 hz2 hik hgN hqN
  have hke : (k : Int) = (n : Int) + 1 - (i : Int) := by omega
  rw [hke] at hrz
  have HRZ := hid hrz
  subst hn1
  subst hj
  clear hrz hke hk
  simp only [Int.natCast_add, Int.natCast_one] at hS3 hd2
  have hw3 : IntKind.i64.wrap ((i : Int) + 1) = (i : Int) + 1 := by have := HW3.out; simpa using this
  have hcp1 := HC1.out
  go_enter Tryz.func201, Tryz.ntmps201
  go_wp2_with (at_builtin; refine wpList_app_run rfl _ _ 127 3 rfl _ _ rfl rfl (HRZ.out _) ?_)
  go_region_law (refine step_copy_run rfl (.tmp 50) (.tmp 53) 127 127 rfl _ _ (by simp [Act.eval, Act.put]) (by simp [Act.eval, Act.put]) (HC2.out _) ?_)
  go_wp2_with fail
  go_ret
  exact ⟨_, rfl, HEnd.out.1, HEnd.out.2.mono fun b _ h => h.elim⟩
end Go.Proofs.YtgdhaaokolfdoaaGreatDoor

namespace Go.Proofs.YtgdhaaokolfdoaaGreatDoor
open Go.RowKit Go.Sg CP SF
theorem insert_e_ok {w : World} {base : Nat} {v : Value} {es : List Bt} (hE : OwnE w base v es) (hl : es.length ≤ 254) (hbase : base ≤ w.heap.size) (i : Nat) (hi : i ≤ es.length) (x : Bt) {q : Nat} (hq : w.heap[q]? = some (.cells #[.int .u64 x.hash, .int .i64 x.rg, .int .i64 x.at_, .int .i64 x.sz] 118)) (hv : v.ownBlock ≠ some q) :
    Calls Tryz.prog 201 #[v, .int .i64 i, .slice (some ⟨q, 0, none⟩) 1 1] w (TurnE base v (insB es i x) w) := by
  by_cases h : i = es.length
  · exact insert_end hE hl hbase i h x hq
  · obtain ⟨g, c, cur, rfl, hb, hg, hc, hm, hs, ht⟩ := ownE_open hE (by omega)
    by_cases hr : es.length + 1 ≤ c
    · exact insert_room hb hg hc hm hs ht hl i (by omega) hr x hq (fun e => hv (by rw [e]; rfl))
    · exact insert_grow hg hc hm ht hl hbase i (by omega) hr x hq
end Go.Proofs.YtgdhaaokolfdoaaGreatDoor

namespace Go.Proofs.YtgdhaaokolfdoaaGreatDoor
open Go.RowKit Go.Sg CP SF
def putB (es : List Bt) (x : Bt) : List Bt := if hasB es x.hash = true then es.set (plI es x.hash) x else insB es (plI es x.hash) x
theorem bt_set (l : List Bt) : ∀ (k : Nat) (x : Bt), k < l.length → (l.set k x).flatMap btC = ((((l.flatMap btC).set (k * 4) (.int .u64 x.hash)).set (k * 4 + 1) (.int .i64 x.rg)).set (k * 4 + 2) (.int .i64 x.at_)).set (k * 4 + 3) (.int .i64 x.sz) := by
  induction l with
  | nil => intro k x h; simp at h
  | cons y l ih =>
    intro k x h
    cases k with
    | zero => simp [btC]
    | succ k =>
      have e : (k + 1) * 4 = k * 4 + 1 + 1 + 1 + 1 := by omega
      have h' : k < l.length := by simpa using h
      rw [e]
      simp only [List.set_cons_succ, List.flatMap_cons, btC, List.cons_append, List.nil_append]
      rw [ih k x h']
theorem own_setE {w : World} {base c g : Nat} {l : List Bt} (h : OwnE w base (.slice (some ⟨g, 0, none⟩) l.length c) l) {k : Nat} (hk : k < l.length) (x : Bt) :
    OwnE ((((w.setCell ⟨g, k * 4, none⟩ (.int .u64 x.hash)).setCell ⟨g, k * 4 + 1, none⟩ (.int .i64 x.rg)).setCell ⟨g, k * 4 + 2, none⟩ (.int .i64 x.at_)).setCell ⟨g, k * 4 + 3, none⟩ (.int .i64 x.sz)) base (.slice (some ⟨g, 0, none⟩) (l.set k x).length c) (l.set k x) := by
  obtain ⟨hl, ⟨h0, h1⟩ | ⟨g', cap, cur, hv, hb, hg, hc, hm, hs, ht⟩⟩ := h
  · cases h0
  · cases hv
    refine ⟨by rw [btC_len], .inr ⟨g, c, (((cur.setIfInBounds (k * 4) (.int .u64 x.hash)).setIfInBounds (k * 4 + 1) (.int .i64 x.rg)).setIfInBounds (k * 4 + 2) (.int .i64 x.at_)).setIfInBounds (k * 4 + 3) (.int .i64 x.sz), by rw [List.length_set], hb, ?_, by rw [List.length_set]; exact hc, hm, by simpa using hs, ?_⟩⟩
    · rw [heap_setCell_cells _ _ _ _ (heap_setCell_cells _ _ _ _ (heap_setCell_cells _ _ _ _ (heap_setCell_cells _ _ _ _ hg)))]
    · rw [bt_set l k x hk, List.length_set, ← ht]
      simp only [Array.toList_setIfInBounds, List.take_set]
set_option maxHeartbeats 8000000 in
set_option maxRecDepth 100000 in
theorem bput_ok {w : World} {v : Value} {es : List Bt} (hE : OwnE w 0 v es) (hs : SortedB es) (hl : es.length ≤ 254) (d p : Int) (x : Bt) :
    Calls Tryz.prog 136 #[bkV d p v, btV x] w (BkP d p (putB es x) w) := by
  obtain ⟨va, vc, rfl, -, -, -, -⟩ := own_slice hE
  obtain ⟨n, hn⟩ : ∃ n, es.length = n := ⟨_, rfl⟩
  obtain ⟨w1, hw1⟩ : ∃ w1, ((w.alloc (.cells #[.int .i64 d, .int .i64 p, .slice va n vc] 129)).alloc (.cells #[.int .u64 x.hash, .int .i64 x.rg, .int .i64 x.at_, .int .i64 x.sz] 118)).alloc (.cells #[.int .i64 0, .int .i64 0, .slice none 0 0] 129) = w1 := ⟨_, rfl⟩
  obtain ⟨b0, b1, b2, F1⟩ := heap_three hw1
  have HB := hid (fun W (F : Fr (fun b => b = w.heap.size + 2) w1 W) => And.intro (cells3 (F.heap b0 (fun h => by omega))) (cells4b (F.heap b1 (fun h => by omega))))
  have HY := hid (fun W (F : Fr (fun _ => False) w1 W) => cells3 (F.heap b2 (fun h => h)))
  have hE1 := own_none hE F1
  have HPl := hid (place_ok hE1 hs (by omega) d p x.hash)
  have HCl := hid (fun W (F : Fr (fun _ => False) w1 W) => clone_e_ok (own_none hE1 F) (by omega))
  have HF1 := hid F1
  have HN := hid hn
  have HL := hid hl
  have HSo := hid hs
  have hsz : w1.heap.size = w.heap.size + 3 := by rw [← hw1]; simp
  have HSz := hid hsz
  obtain ⟨⟨x0, x1, x2, xz, xl⟩, ⟨t0, t1, t2, t3, tz, tl⟩⟩ := HB.out _ (Fr.refl _ _)
  have HW := hid hw1
  rw [hn] at HPl HCl ⊢
  clear hw1 b0 b1 b2 F1 hE hs hl hn hsz hE1
  obtain ⟨q, hq⟩ : ∃ q, plI es x.hash = q := ⟨_, rfl⟩
  have HQ := hid (And.intro hq (show q ≤ es.length by rw [← hq]; exact plI_le _ _))
  obtain ⟨hb, hhb⟩ : ∃ b, hasB es x.hash = b := ⟨_, rfl⟩
  have HPl' := hid (show Calls Tryz.prog 199 #[bkV d p (.slice va n vc), .int .u64 x.hash] w1 (fun e w' => e = .returned (.tuple #[.int .i64 q, .bool hb]) ∧ Fr (fun _ => False) w1 w') from HPl.out.mono fun e w' hp => ⟨by rw [← hq, ← hhb]; exact hp.1, hp.2⟩)
  clear HPl hq
  go_enter Tryz.func136, Tryz.ntmps136
  go_upto_region 1 with fail
  rw [HW.out]
  go_wp2_with fail
  refine HPl'.out.mono ?_
  rintro e W2 ⟨rfl, F2⟩
  have HF2 := hid (And.intro F2 (show w1.heap.size ≤ W2.heap.size from F2.size))
  clear x0 x1 x2 xz xl t0 t1 t2 t3 tz tl
  obtain ⟨⟨x0, x1, x2, xz, xl⟩, ⟨t0, t1, t2, t3, tz, tl⟩⟩ := HB.out _ (F2.mono fun _ _ h => h.elim)
  clear F2
  go_wp2_with fail
  refine (HCl.out _ HF2.out.1).mono ?_
  rintro e W3 ⟨v3, rfl, hown3, F3⟩
  obtain ⟨a3, c3, rfl, -, -, -, -⟩ := own_slice hown3
  have H3 := hid (And.intro hown3 (HF2.out.1.trans F3 (fun _ _ h => h)))
  have hs23 := F3.size
  have HSz2 := hid (show w.heap.size ≤ W2.heap.size by have := HSz.out; have := HF2.out.2; omega)
  clear hown3 F3 x0 x1 x2 xz xl t0 t1 t2 t3 tz tl
  obtain ⟨⟨x0, x1, x2, xz, xl⟩, ⟨t0, t1, t2, t3, tz, tl⟩⟩ := HB.out _ (H3.out.2.mono fun _ _ h => h.elim)
  rw [HN.out]
  cases hb with
  | true =>
    have hP : putB es x = es.set q x := by unfold putB; rw [hhb, if_pos rfl, HQ.out.1]
    obtain ⟨y, hy, -⟩ := (hasB_iff HSo.out).1 hhb
    rw [HQ.out.1] at hy
    have hqn : q < n := by rw [← HN.out]; exact (List.getElem?_eq_some_iff.1 hy).1
    obtain ⟨g, rfl, hg, u0, u1, u2, u3⟩ := ownE_at H3.out.1 hy
    have hgb : W2.heap.size ≤ g := by
      have := (own_blkT (g := g) H3.out.1 rfl).1
      exact this
    have hgz : ∀ o, W3.frozen? ⟨g, o, none⟩ = false := by
      obtain ⟨g', c', cur, e, -, hg', -⟩ := ownE_open H3.out.1 (by rw [HN.out]; omega)
      cases e
      exact fun o => frozen_of_heap hg' o
    have hqi : (q : Int) < (n : Int) := by omega
    have hg0 : g ≠ w.heap.size := by have := HSz.out; have := HF2.out.2; omega
    have hg1 : g ≠ w.heap.size + 1 := by have := HSz.out; have := HF2.out.2; omega
    have hg2 : g ≠ w.heap.size + 2 := by have := HSz.out; have := HF2.out.2; omega
    have HP := hid hP
    have HGB := hid hgb
    have HSet := hid (own_setE H3.out.1 (by rw [HN.out]; exact hqn) x)
    clear hP hy hgb
    go_upto_region 5 with fail
    obtain ⟨W5, hW5⟩ : ∃ W5, (((W3.setCell ⟨g, q * 4, none⟩ (.int .u64 x.hash)).setCell ⟨g, q * 4 + 1, none⟩ (.int .i64 x.rg)).setCell ⟨g, q * 4 + 2, none⟩ (.int .i64 x.at_)).setCell ⟨g, q * 4 + 3, none⟩ (.int .i64 x.sz) = W5 := ⟨_, rfl⟩
    rw [hW5] at HSet ⊢
    have F5 : Fr (fun b => b = g) W3 W5 := by
      rw [← hW5]
      exact ((((Fr.refl (fun b => b = g) W3).setCell (a := ⟨g, _, none⟩) (fun _ => rfl) _).setCell (a := ⟨g, _, none⟩) (fun _ => rfl) _).setCell (a := ⟨g, _, none⟩) (fun _ => rfl) _).setCell (a := ⟨g, _, none⟩) (fun _ => rfl) _
    have F15 : Fr (fun _ => False) w1 W5 := H3.out.2.trans F5 (fun b hb e => by have := HGB.out; have := HF2.out.2; omega)
    have H5 := hid F15
    clear F5 hW5 u0 u1 u2 u3 hgz x0 x1 x2 xz xl t0 t1 t2 t3 tz tl
    obtain ⟨⟨x0, x1, x2, xz, xl⟩, ⟨t0, t1, t2, t3, tz, tl⟩⟩ := HB.out _ (F15.mono fun _ _ h => h.elim)
    clear F15
    go_wp2_with fail
    refine (with_ok d p va n vc (some ⟨g, 0, none⟩) n c3 _).mono ?_
    rintro e W6 ⟨rfl, F6⟩
    have H6 := hid (And.intro F6 (H5.out.trans F6 (fun _ _ h => h)))
    clear F6 x0 x1 x2 xz xl t0 t1 t2 t3 tz tl
    obtain ⟨y0, y1, y2, yz, yl⟩ := HY.out _ H6.out.2
    go_wp2_with fail
    have FS : ∀ (W : World) (o : Nat) (u : Value), Fr (fun b => b = w.heap.size + 2) W (W.setCell ⟨w.heap.size + 2, o, none⟩ u) := fun W o u => (Fr.refl (fun b => b = w.heap.size + 2) _).setCell (a := ⟨w.heap.size + 2, o, none⟩) (fun _ => rfl) u
    refine bodyPost_ret (v := bkV d p (.slice (some ⟨g, 0, none⟩) n c3)) (by simp [results, go_sem, *]) rfl ⟨some ⟨g, 0, none⟩, c3, by rw [HP.out, List.length_set, HN.out], ?_, ?_⟩
    · rw [HP.out]
      exact own_fr1 (own_mono (own_none HSet.out H6.out.1) HSz2.out) (((FS _ _ _).trans (FS _ _ _) (fun _ _ h => h)).trans (FS _ _ _) (fun _ _ h => h)) (fun g' hg' e => by
        have e1 : g = g' := Option.some.inj hg'
        omega)
    · have hs := HSz.out
      exact (((HF1.out.trans H6.out.2 (fun _ _ h => h)).setNew (by omega) _).setNew (by omega) _).setNew (by omega) _
  | false =>
    have hP : putB es x = insB es q x := by unfold putB; rw [hhb, if_neg (by decide), HQ.out.1]
    clear x0 x1 x2 xz xl t0 t1 t2 t3 tz tl
    go_wp2_with fail
    refine wp_region_noPanic ?_
    refine region_plan (fun V => Fr (fun b => b = w.heap.size + 2) w1 V) (.rd 0 (.rd 1 (.rd 2 (.rd 3 (.op 4 (.op 5 (.op 6 (.op 7 .done)))))))) (by kernel_rfl) (by kernel_rfl) (by kernel_rfl) (fun _ _ _ _ _ h => h) (H3.out.2.drew.mono fun _ _ h => h.elim) ?_
    iterate 4
      try simp only [Act.put, List.setIfInBounds_toArray, List.set_cons_zero, List.set_cons_succ]
      refine plan_rd _ ?_ (by simp only [List.getElem?_toArray, List.getElem?_cons_zero, List.getElem?_cons_succ]; rfl) (by rfl) ?_ ?_
      rotate_left
      · intro V hV
        obtain ⟨⟨x0, x1, x2, xz, xl⟩, ⟨t0, t1, t2, t3, tz, tl⟩⟩ := HB.out V hV
        go_simp
        try with_reducible rfl
    try simp only [Act.put, List.setIfInBounds_toArray, List.set_cons_zero, List.set_cons_succ]
    refine plan_op _ (by simp only [List.getElem?_toArray, List.getElem?_cons_zero, List.getElem?_cons_succ]; rfl) (by rfl) (fun K hK => ?_)
    go_simp
    have hq3 : ((W3.alloc (.cells #[.int .u64 x.hash, .int .i64 x.rg, .int .i64 x.at_, .int .i64 x.sz] 118)).drew).heap[W3.heap.size]? = some (.cells #[.int .u64 x.hash, .int .i64 x.rg, .int .i64 x.at_, .int .i64 x.sz] 118) := heap_alloc_new W3 _
    have FA : Fr (fun _ => False) W3 ((W3.alloc (.cells #[.int .u64 x.hash, .int .i64 x.rg, .int .i64 x.at_, .int .i64 x.sz] 118)).drew) := ((Fr.refl _ _).alloc _).drew
    have HIn := hid (insert_e_ok (own_none H3.out.1 FA) HL.out (Nat.le_trans hs23 FA.size) q HQ.out.2 x hq3 (fun e => by have := (own_blkT H3.out.1 e).2; simp at this))
    obtain ⟨V1, hV1⟩ : ∃ V1, (W3.alloc (.cells #[.int .u64 x.hash, .int .i64 x.rg, .int .i64 x.at_, .int .i64 x.sz] 118)).drew = V1 := ⟨_, rfl⟩
    rw [hV1] at HIn FA
    have FG := H3.out.2.trans FA (fun _ _ h => h)
    have FGS : Fr (fun b => b = w.heap.size + 2) w1 V1 := FG.mono fun _ _ h => h.elim
    try rw [hV1]
    refine hK _ _ FGS ?_
    clear hK K hq3
    try simp only [Act.put, List.setIfInBounds_toArray, List.set_cons_zero, List.set_cons_succ]
    refine plan_op _ (by simp only [List.getElem?_toArray, List.getElem?_cons_zero, List.getElem?_cons_succ]; rfl) (by rfl) (fun K hK => ?_)
    go_simp
    rw [HN.out] at HIn
    refine HIn.out.mono ?_
    rintro _ V2 ⟨v4, rfl, hown4, F4⟩
    have FG4 : Fr (fun _ => False) w1 V2 := FG.trans F4 (fun b hb e => by have := (own_blkT H3.out.1 (show (Value.slice a3 es.length c3).ownBlock = some b by rw [HN.out]; exact e)).1; have := HF2.out.1.size; omega)
    have FGS : Fr (fun b => b = w.heap.size + 2) w1 V2 := FG4.mono fun _ _ h => h.elim
    obtain ⟨a4, c4, rfl, -, -, -, -⟩ := own_slice hown4
    have H4 := hid (And.intro hown4 FG4)
    obtain ⟨n4, hn4⟩ : ∃ n4, (insB es q x).length = n4 := ⟨_, rfl⟩
    have HN4 := hid hn4
    rw [hn4]
    try go_simp
    refine hK _ _ FGS ?_
    clear hK K hown4 F4 hn4 FG4
    try simp only [Act.put, List.setIfInBounds_toArray, List.set_cons_zero, List.set_cons_succ]
    refine plan_op _ (by simp only [List.getElem?_toArray, List.getElem?_cons_zero, List.getElem?_cons_succ]; rfl) (by rfl) (fun K hK => ?_)
    go_simp
    refine (with_ok d p va n vc a4 n4 c4 _).mono ?_
    rintro _ V3 ⟨rfl, F5⟩
    have FG5 : Fr (fun _ => False) w1 V3 := H4.out.2.trans F5 (fun _ _ h => h)
    have FGS : Fr (fun b => b = w.heap.size + 2) w1 V3 := FG5.mono fun _ _ h => h.elim
    have H5 := hid (And.intro (own_none H4.out.1 F5) FG5)
    try go_simp
    refine hK _ _ FGS ?_
    clear hK K F5 FG5
    try simp only [Act.put, List.setIfInBounds_toArray, List.set_cons_zero, List.set_cons_succ]
    refine plan_op _ (by simp only [List.getElem?_toArray, List.getElem?_cons_zero, List.getElem?_cons_succ]; rfl) (by rfl) (fun K hK => ?_)
    obtain ⟨y0, y1, y2, yz, yl⟩ := HY.out _ H5.out.2
    go_simp
    refine hK _ _ (((FGS.setCell (fun _ => rfl) _).setCell (fun _ => rfl) _).setCell (fun _ => rfl) _) ?_
    clear hK K
    try simp only [Act.put, List.setIfInBounds_toArray, List.set_cons_zero, List.set_cons_succ]
    refine plan_done ?_
    refine NoPanic.normal ?_
    go_wp2_with fail
    have FS : ∀ (W : World) (o : Nat) (u : Value), Fr (fun b => b = w.heap.size + 2) W (W.setCell ⟨w.heap.size + 2, o, none⟩ u) := fun W o u => (Fr.refl (fun b => b = w.heap.size + 2) _).setCell (a := ⟨w.heap.size + 2, o, none⟩) (fun _ => rfl) u
    refine bodyPost_ret (v := bkV d p (.slice a4 n4 c4)) (by simp [results, go_sem, *]) rfl ⟨a4, c4, by rw [← HN4.out, hP], ?_, ?_⟩
    · rw [hP]
      exact own_fr1 (own_mono H5.out.1 HSz2.out) (((FS _ _ _).trans (FS _ _ _) (fun _ _ h => h)).trans (FS _ _ _) (fun _ _ h => h)) (fun g hg e => by
        have := (own_blkT H5.out.1 hg).1
        have := HF2.out.1.size
        have := HSz.out
        omega)
    · have hs := HSz.out
      exact (((HF1.out.trans H5.out.2 (fun _ _ h => h)).setNew (by omega) _).setNew (by omega) _).setNew (by omega) _
end Go.Proofs.YtgdhaaokolfdoaaGreatDoor
