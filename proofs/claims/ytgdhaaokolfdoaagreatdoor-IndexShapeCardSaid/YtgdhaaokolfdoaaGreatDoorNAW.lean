/- A pack of texts: RWS, BKC, BKD0, BKD1, BKD2, BKD, BKE. Conditions: those that each text names. -/
import Derived.Test.YtgdhaaokolfdoaaGreatDoorNAS
import Derived.Laws.CopyRow
import Derived.Lib.AppendZerosOnto
import Derived.Lib.Overlaps
import Derived.Test.YtgdhaaokolfdoaaGreatDoorNAR
import Derived.Test.YtgdhaaokolfdoaaGreatDoorNAU
import Derived.Test.YtgdhaaokolfdoaaGreatDoorNAV
set_option maxHeartbeats 16000000
set_option maxRecDepth 100000
set_option linter.all false
namespace Go.Sg
open Go.RowKit
section
variable {P : Program}
theorem run_copy_rows (w : World) (dT sT ty elem : TypeId) (size m : Nat) (g o dLen dCap : Nat) (a : Addr) (sLen sCap : Nat) (cur : Array Value) (t : TypeId) (cs : List Value)
  (hu : P.underlying dT = some (.slice elem)) (hs : (P.info? elem).map (·.size) = some size)
  (hg : w.heap[g]? = some (.cells cur t (0, 0))) (hm : Nat.min sLen dLen = m) (hn : cs.length = m * size)
  (hsrc : ∀ j v, cs[j]? = some v -> w.cell? (a.add j) = some v) (hfit : o + cs.length <= cur.size) (h1 : ∀ v ∈ cs, v.oneCell' = true) :
  (Builtin.copy_ #[dT, sT] ty #[.slice (some ⟨g, o, none⟩) dLen dCap, .slice (some a) sLen sCap]).run P w =
   .ok (goInt m) (w.setRow g (cur.toList.take o ++ cs ++ cur.toList.drop (o + cs.length)).toArray) := by
 have hl := run_loadCells_list (P := P) w a cs hsrc;have hst := run_storeCells_at P g o t cs 0 cur w hg (by simpa using hfit) h1;cases hq : P.info? elem with
 | none => simp [hq] at hs
 | some i =>
  have hi : i.size = size := by simpa [hq] using hs
  simp [Builtin.copy_, run_underlying hu, Builtin.lenOf, Builtin.firstCells, sizeOf, typeInfo, hq, hi, hm, <- hn, hl, hst]
theorem run_clear_rows (w : World) (t e ty : TypeId) (z : Value) (size : Nat) (ht : P.underlying t = some (.slice e)) (hv : ∀ w, (zeroValue e).run P w = .ok z w) (hz : z.cells.size = size) (h0 : 0 < size) (h1 : ∀ v ∈ z.cells.toList, v.oneCell' = true)
  (g o n c : Nat) (hn : 0 < n) (cur : Array Value) (te : TypeId) (hg : w.heap[g]? = some (.cells cur te (0, 0))) (hfit : o + n * size <= cur.size) :
  ∃ zs : List Value, zs.length = n * size /\ (Builtin.clear_ #[t] ty #[.slice (some ⟨g, o, none⟩) n c]).run P w = .ok (.tuple #[]) (w.setRow g (cur.toList.take o ++ zs ++ cur.toList.drop (o + zs.length)).toArray) := by
 have hl : (Builtin.zeroCells z.cells n).toList.length = n * size := by rw [Array.length_toList, size_zeroCells, hz]
 refine ⟨(Builtin.zeroCells z.cells n).toList, hl, ?_⟩;have hst := run_storeCells_at P g o te (Builtin.zeroCells z.cells n).toList 0 cur w hg (by rw [hl]; omega) (by
  intro v hv;simp only [Builtin.zeroCells, Array.toList_map, List.mem_map] at hv;obtain ⟨i, _, rfl⟩ := hv;have hi : i % z.cells.size < z.cells.size := Nat.mod_lt _ (by omega);rw [getElem!_pos z.cells _ hi];exact h1 _ (by simp))
 obtain ⟨m, rfl⟩ : ∃ m, n = m + 1 := ⟨n - 1, by omega⟩
 simp [Builtin.clear_, run_underlying ht, hv, hst]
variable {w w' : World} {o : Oper} {a : Act} {K : Act -> World -> Prop} {Q : Exit -> Act -> World -> Prop} {v' : Value} {ops : Array Oper} {E : Prop}
theorem wp_app_run (s x : Operand) (t t' : TypeId)
  (ho : o.op = .call { callee := .builtin .append, args := #[s, x], argTypes := #[t, t'] }) (v u : Value) (hs : a.eval s = v) (hx : a.eval x = u)
  (hr : (Builtin.append_ #[t, t'] o.type #[v, u]).run P w = .ok v' w') (h : K (a.put o.dst v') w') : o.wp P a w K Q := by
 unfold Oper.wp execOp;simp only [ho, resolve, invoke, builtin, Sem.run_bind, Sem.run_pure, Result.andThen_ok, List.map_toArray, List.map_cons, List.map_nil, hs, hx, hr];exact h
theorem wpList_app_run {rest : List Oper} (hgd : o.guard = none) (s x : Operand) (t t' : TypeId)
  (ho : o.op = .call { callee := .builtin .append, args := #[s, x], argTypes := #[t, t'] }) (v u : Value) (hs : a.eval s = v) (hx : a.eval x = u)
  (hr : (Builtin.append_ #[t, t'] o.type #[v, u]).run P w = .ok v' w') (h : wpList P ops Q rest (a.put o.dst v') w') : wpList P ops Q (o :: rest) a w :=
 wpList_plain hgd fun _ hK => wp_app_run s x t t' ho v u hs hx hr (hK _ _ h)
theorem step_app_run (hgd : o.guard = none) (s x : Operand) (t t' : TypeId)
  (ho : o.op = .call { callee := .builtin .append, args := #[s, x], argTypes := #[t, t'] }) (v u : Value) (hs : a.eval s = v) (hx : a.eval x = u)
  (hr : (Builtin.append_ #[t, t'] o.type #[v, u]).run P w = .ok v' w') (h : K (a.put o.dst v') w') : if Region.wanted o (yielded ops a.tmps) = true then Oper.wp P o a w K Q else E := by
 have hw : Region.wanted o (yielded ops a.tmps) = true := by simp [Region.wanted, hgd]
 rw [if_pos hw];exact wp_app_run s x t t' ho v u hs hx hr h
theorem wp_copy_run (s x : Operand) (t t' : TypeId)
  (ho : o.op = .call { callee := .builtin .copy, args := #[s, x], argTypes := #[t, t'] }) (v u : Value) (hs : a.eval s = v) (hx : a.eval x = u)
  (hr : (Builtin.copy_ #[t, t'] o.type #[v, u]).run P w = .ok v' w') (h : K (a.put o.dst v') w') : o.wp P a w K Q := by
 unfold Oper.wp execOp;simp only [ho, resolve, invoke, builtin, Sem.run_bind, Sem.run_pure, Result.andThen_ok, List.map_toArray, List.map_cons, List.map_nil, hs, hx, hr];exact h
theorem step_copy_run (hgd : o.guard = none) (s x : Operand) (t t' : TypeId)
  (ho : o.op = .call { callee := .builtin .copy, args := #[s, x], argTypes := #[t, t'] }) (v u : Value) (hs : a.eval s = v) (hx : a.eval x = u)
  (hr : (Builtin.copy_ #[t, t'] o.type #[v, u]).run P w = .ok v' w') (h : K (a.put o.dst v') w') : if Region.wanted o (yielded ops a.tmps) = true then Oper.wp P o a w K Q else E := by
 have hw : Region.wanted o (yielded ops a.tmps) = true := by simp [Region.wanted, hgd]
 rw [if_pos hw];exact wp_copy_run s x t t' ho v u hs hx hr h
end
theorem setRow_fr (w : World) (g : Nat) (cs : Array Value) : Fr (fun b => b = g) w (w.setRow g cs) :=
 ⟨rfl, rfl, rfl, by simp, fun b _ hn => setRow_other w g b cs hn⟩
end Go.Sg
namespace Go.Proofs.YtgdhaaokolfdoaaGreatDoor
section
open Go.RowKit Go.Sg CP SF
theorem to127 (a : Option Addr) (n c m : Nat) (h : m <= c) (W : World) : (Instr.slice 127 (.slice a n c) none (some (.int .i64 m)) none).run Tryz.prog W = .ok (.slice a m c) W := slice_toG 127 4 (by kernel_rfl) (fun W => by kernel_rfl) a n c m h W
theorem from127 (g n c m : Nat) (h : m <= n) (hc : m < c) (W : World) : (Instr.slice 127 (.slice (some ⟨g, 0, none⟩) n c) (some (.int .i64 m)) none none).run Tryz.prog W = .ok (.slice (some ⟨g, m * 4, none⟩) (n - m) (c - m)) W := by
 rw [slice_fromG 127 4 (by kernel_rfl) (fun W => by kernel_rfl) _ n c m h W, if_neg (by omega)];simp [addr_add0]
theorem mid127 (g n c l h : Nat) (h1 : l <= h) (h2 : h <= c) (hc : l < c) (W : World) : (Instr.slice 127 (.slice (some ⟨g, 0, none⟩) n c) (some (.int .i64 l)) (some (.int .i64 h)) none).run Tryz.prog W = .ok (.slice (some ⟨g, l * 4, none⟩) (h - l) (c - l)) W := by
 rw [run_slice_lh W 127 _ n c (by kernel_rfl) .i64 .i64 l h (by omega) (by omega) (by omega)];rw [show ((sizeOf (Tryz.prog.elem 127)).run Tryz.prog W) = .ok 4 W by kernel_rfl];simp only [Result.andThen_ok, sliced, Int.toNat_natCast];rw [if_neg (by omega)];simp [addr_add0]
theorem max127 (g n c l h m : Nat) (h1 : l <= h) (h2 : h <= m) (h3 : m <= c) (W : World) : ∃ v, ∀ W, (Instr.slice 127 (.slice (some ⟨g, 0, none⟩) n c) (some (.int .i64 l)) (some (.int .i64 h)) (some (.int .i64 m))).run Tryz.prog W = .ok v W := by
 refine ⟨sliced (some ⟨g, 0, none⟩) l h m 4, fun W => ?_⟩;rw [run_slice_lhm W 127 _ n c (by kernel_rfl) .i64 .i64 .i64 l h m (by omega) (by omega) (by omega) (by omega)];rw [show ((sizeOf (Tryz.prog.elem 127)).run Tryz.prog W) = .ok 4 W by kernel_rfl];simp only [Result.andThen_ok, Int.toNat_natCast]
theorem Tryz.zero118 (w : World) : (zeroValue 118).run Tryz.prog w = .ok (.agg #[.int .u64 0, .int .i64 0, .int .i64 0, .int .i64 0]) w := by kernel_rfl
theorem bt_one (es : List Bt) : ∀ u ∈ es.flatMap btC, u.oneCell' = true := by
 intro u hu;obtain ⟨x, _, hx⟩ := List.mem_flatMap.1 hu;simp [btC] at hx;rcases hx with rfl | rfl | rfl | rfl <;> rfl
variable {w : World} {base c d g i j k p q : Nat} {v : Value} {es : List Bt} {cur : Array Value}
theorem ownE_open (h : OwnE w base v es) (hn : 0 < es.length) : ∃ g c cur, v = .slice (some ⟨g, 0, none⟩) es.length c /\ base <= g /\ w.heap[g]? = some (.cells cur 118) /\ es.length <= c /\ c <= maxLen /\ cur.size = c * 4 /\ cur.toList.take (es.length * 4) = es.flatMap btC := by
 obtain ⟨hl, ⟨h0, h1⟩ | ⟨g, c, cur, r⟩⟩ := h
 ·omega
 ·exact ⟨g, c, cur, r⟩
theorem ownE_shut (hb : base <= g) (hg : w.heap[g]? = some (.cells cur 118)) (hc : es.length <= c) (hm : c <= maxLen) (hs : cur.size = c * 4) (ht : cur.toList.take (es.length * 4) = es.flatMap btC) : OwnE w base (.slice (some ⟨g, 0, none⟩) es.length c) es :=
 ⟨btC_len es, .inr ⟨g, c, cur, rfl, hb, hg, hc, hm, hs, ht⟩⟩
theorem bt_take (es : List Bt) : ∀ k : Nat, (es.flatMap btC).take (k * 4) = (es.take k).flatMap btC := by
 induction es with
 | nil => intro k; simp
 | cons x es ih =>
  intro k;cases k with
  | zero => simp
  | succ k =>
   rw [List.flatMap_cons, List.take_succ_cons, List.flatMap_cons, <- ih k, show (k + 1) * 4 = 4 + k * 4 by omega];simp [btC, show 4 + k * 4 = k * 4 + 1 + 1 + 1 + 1 by omega]
theorem bt_drop (es : List Bt) : ∀ k : Nat, (es.flatMap btC).drop (k * 4) = (es.drop k).flatMap btC := by
 induction es with
 | nil => intro k; simp
 | cons x es ih =>
  intro k;cases k with
  | zero => simp
  | succ k =>
   rw [List.flatMap_cons, List.drop_succ_cons, <- ih k, show (k + 1) * 4 = 4 + k * 4 by omega];simp [btC, show 4 + k * 4 = k * 4 + 1 + 1 + 1 + 1 by omega]
theorem cur_take {cur : List Value} (h : cur.take (es.length * 4) = es.flatMap btC) (hk : k <= es.length) : cur.take (k * 4) = (es.take k).flatMap btC := by
 rw [<- bt_take, <- h, List.take_take];congr 1; omega
def TurnE (base : Nat) (v : Value) (out : List Bt) (w : World) (e : Ending) (w' : World) : Prop := ∃ v', e = .returned v' /\ OwnE w' base v' out /\ Fr (fun b => v.ownBlock = some b) w w'
theorem delete_e_ok (hE : OwnE w base v es) (hl : es.length <= 255) (i j : Nat) (hi : i < es.length) (hj : j = i + 1) :
    Calls Tryz.prog 135 #[v, .int .i64 i, .int .i64 j] w (TurnE base v (es.eraseIdx i) w) := by
  obtain ⟨i0, hi0, hz0, hz1, hz2⟩ := info_parts Tryz.info118;obtain ⟨g, c, cur, rfl, hb, hg, hc, hm, hs, ht⟩ := ownE_open hE (by omega);obtain ⟨n, hn⟩ : ∃ n, es.length = n := ⟨_, rfl⟩
  rw [hn] at hi hl hc ht ⊢;obtain ⟨m1, hm1⟩ : ∃ m1, i + (n - j) = m1 := ⟨_, rfl⟩
  have hm1n : m1 + 1 = n := by omega
  have hc63 : c <= 9223372036854775807 := by simpa [maxLen] using hm
  obtain ⟨v0, hS0⟩ := max127 g n c i j n (by omega) (by omega) hc w;have hS1 := fun W => to127 (some ⟨g, 0, none⟩) n c i (by omega) W
  have hij : ((i : Int) == (j : Int)) = false := by simp; omega
  -- the entries that are moved to the left
  obtain ⟨news, hnews⟩ : ∃ news, news = (es.drop j).flatMap btC := ⟨_, rfl⟩
  have hnl : news.length = (n - j) * i0.size := by rw [hnews, btC_len, List.length_drop, hn, hz1]
  obtain ⟨A, hA, hsrc⟩ : ∃ A : Addr, (∀ W, (Instr.slice 127 (.slice (some ⟨g, 0, none⟩) n c) (some (.int .i64 j)) none none).run Tryz.prog W = .ok (.slice (some A) (n - j) (c - j)) W) /\ ∀ t u, news[t]? = some u -> w.drew.cell? (A.add t) = some u := by
    by_cases hjc : j < c
    · refine ⟨⟨g, j * 4, none⟩, fun W => from127 g n c j (by omega) hjc W, fun t u hu => ?_⟩;rw [addr_add0];show w.cell? _ = _;rw [coh hg];rw [hnews, <- bt_drop, List.getElem?_drop, <- ht, gT] at hu;split at hu
      · simpa using hu
      · cases hu
    · refine ⟨⟨g, 0, none⟩, fun W => ?_, fun t u hu => ?_⟩
      · rw [slice_fromG 127 4 (by kernel_rfl) (fun W => by kernel_rfl) _ n c j (by omega) W, if_pos (by omega)]
      · have : news = [] := List.eq_nil_of_length_eq_zero (by rw [hnl]; have : n - j = 0 := by omega
                                                              rw [this, Nat.zero_mul])
        rw [this] at hu; simp at hu
  obtain ⟨cur1, hcur1⟩ : ∃ cur1, cur1 = (cur.toList.take (i * i0.size) ++ news ++ cur.toList.drop (i * i0.size + news.length)).toArray := ⟨_, rfl⟩
  have hfit : i * i0.size + news.length <= cur.size := by rw [hnl, hs, hz1, <- Nat.add_mul]; exact Nat.mul_le_mul_right _ (by omega)
  have hap : ∀ ty, (Builtin.append_ #[127, 127] ty #[.slice (some ⟨g, 0, none⟩) i c, .slice (some A) (n - j) (c - j)]).run Tryz.prog w.drew = .ok (.slice (some ⟨g, 0, none⟩) m1 c) (w.drew.setRow g cur1) := fun ty => by
    have := run_append_room (P := Tryz.prog) w.drew 127 ty 118 i0 Tryz.underlying127 hi0 g i c cur hg A (n - j) (c - j) news hnl hsrc (by rw [hnews]; exact bt_one _) (by omega) hfit;rw [hm1, <- hcur1] at this;exact this
  have hs1 : cur1.size = c * 4 := by
    rw [hcur1];simp only [zA, lA, lT, List.length_drop, Array.length_toList];omega
  obtain ⟨W1, hW1⟩ : ∃ W1, w.drew.setRow g cur1 = W1 := ⟨_, rfl⟩
  have hg1 : W1.heap[g]? = some (.cells cur1 118) := by rw [<- hW1]; exact setRow_heap _ g cur cur1 118 _ hg
  have hS2 := fun W => mid127 g m1 c m1 n (by omega) hc (by omega) W
  rw [show n - m1 = 1 by omega] at hS2;obtain ⟨zs, hzl, hcl⟩ := run_clear_rows (P := Tryz.prog) W1 127 118 (0 : Nat) _ 4 Tryz.underlying127 Tryz.zero118 rfl (by decide) (by simp [Value.cells, Value.oneCell']) g (m1 * 4) 1 (c - m1) (by decide) cur1 118 hg1 (by rw [hs1]; omega);have hcl' : ∀ ty, (Builtin.clear_ #[127] ty #[.slice (some ⟨g, m1 * 4, none⟩) 1 (c - m1)]).run Tryz.prog W1 = .ok (.tuple #[]) (W1.setRow g (cur1.toList.take (m1 * 4) ++ zs ++ cur1.toList.drop (m1 * 4 + zs.length)).toArray) := fun _ => hcl
  clear hcl;obtain ⟨of4, ho4⟩ : ∃ of4, m1 * 4 = of4 := ⟨_, rfl⟩
  obtain ⟨cur2, hcur2⟩ : ∃ cur2, cur2 = (cur1.toList.take (m1 * 4) ++ zs ++ cur1.toList.drop (m1 * 4 + zs.length)).toArray := ⟨_, rfl⟩
  rw [<- hcur2] at hcl';-- what stands there in the end
  have hend : OwnE (W1.setRow g cur2) base (.slice (some ⟨g, 0, none⟩) m1 c) (es.eraseIdx i) := by
    have hlen : (es.eraseIdx i).length = m1 := (by rw [List.length_eraseIdx_of_lt (by omega)]; omega);have hg2 := setRow_heap W1 g cur1 cur2 118 _ hg1;have := ownE_shut (es := es.eraseIdx i) (c := c) hb hg2 (by omega) hm (by
      rw [hcur2];simp only [zA, lA, lT, List.length_drop, Array.length_toList];omega) (by
      rw [hlen, hcur2];simp only [List.append_assoc];rw [List.take_append_of_le_length (by rw [lT, Array.length_toList]; omega), List.take_take, Nat.min_self, hcur1];have h4 : (cur.toList.take (i * i0.size)) = (es.take i).flatMap btC := by
        rw [hz1];exact cur_take (by rw [hn]; exact ht) (by omega)
      rw [h4, hnews, List.eraseIdx_eq_take_drop_succ, List.flatMap_append, hj];exact List.take_left' (by
        simp only [lA, btC_len, lT, List.length_drop];omega))
    rw [hlen] at this;exact this
  have hfr : Fr (fun b => b = g) w (W1.setRow g cur2) := by
    rw [<- hW1];exact ((Fr.refl (fun b => b = g) _).drew.trans (setRow_fr _ g cur1) (fun _ _ h => h)).trans (setRow_fr _ g cur2) (fun _ _ h => h)
  rw [ho4] at hcl' hS2;rw [hW1] at hap;have HEnd := hi2 hend hfr;have HAp := hid hap;clear hE hb hg hs ht hm hnews hnl hsrc hcur1 hfit hap hs1 hW1 hg1 hzl ho4 hcur2 hend hfr hz0 hz1 hz2 hi0 hn hj;go_enter Tryz.func135, Tryz.ntmps135;go_wp2_with fail
  go_region_law (refine step_app_run rfl (.tmp 22) (.tmp 25) 127 127 rfl _ _ (by simp [Act.eval, Act.put]) (by simp [Act.eval, Act.put]) (HAp.out _) ?_)
  go_wp2_with fail
  go_ret;refine ⟨_, rfl, HEnd.out.1, HEnd.out.2.mono fun b _ h => by subst h; rfl⟩
theorem wrap_add1 (h : i + 1 = j) (hj : j <= 1048576) : wrap64 ((i : Int) + 1) = (j : Int) := by simp only [wrap64]; omega
theorem iwrap_add1 (h : i + 1 = j) (hj : j <= 1048576) : IntKind.i64.wrap ((i : Int) + 1) = (j : Int) := by rw [IntKind.wrap_i64]; omega
theorem wrap_subN {a b : Nat} (h : a - b = k) (hb : b <= a) (ha : a <= 1048576) : wrap64 ((a : Int) - (b : Int)) = (k : Int) := by simp only [wrap64]; omega
def insB (es : List Bt) (i : Nat) (x : Bt) : List Bt := es.take i ++ x :: es.drop i
theorem insB_len (h : i <= es.length) (x : Bt) : (insB es i x).length = es.length + 1 := by
 simp [insB, lT, List.length_drop]; omega
theorem insB_cells (es : List Bt) (i : Nat) (x : Bt) : (insB es i x).flatMap btC = (es.take i).flatMap btC ++ (btC x ++ (es.drop i).flatMap btC) := by
 simp [insB, List.flatMap_append, List.flatMap_cons]
theorem Tryz.size118 : (Tryz.prog.info? 118).map (·.size) = some 4 := by kernel_rfl
theorem overlaps_apart {c d : Array Value} (hq : w.heap[q]? = some (.cells c 118)) (hg : w.heap[g]? = some (.cells d 118)) (hne : q ≠ g) (hd : d.size ≠ 0) (o m cm lb cb : Nat) :
  (callFunc 253 #[.slice (some ⟨q, 0, none⟩) m cm, .slice (some ⟨g, o, none⟩) lb cb]).run Tryz.prog w = .ok (.value (.bool false)) w := by
 rw [run_callFunc_extern Tryz.func253 (by kernel_rfl) (by kernel_rfl) (by kernel_rfl) (e := Extern.SlicesOverlaps.overlaps #[127, 127] #[4]) (by kernel_rfl),
  Lib.run_overlaps_apart w 127 4 118 Tryz.underlying127 4 (fun W => by kernel_rfl) ⟨q, 0, none⟩ ⟨g, o, none⟩ m cm lb cb hne 118 118 c.size d.size (by simp [World.shape?, hq]) (by simp [World.shape?, hg]) hd (foh hq 0) (foh hq c.size)]
 rfl
theorem insert_end (hE : OwnE w base v es) (hl : es.length <= 254) (hbase : base <= w.heap.size) (i : Nat) (hi : i = es.length) (x : Bt) (hq : w.heap[q]? = some (.cells #[.int .u64 x.hash, .int .i64 x.rg, .int .i64 x.at_, .int .i64 x.sz] 118)) :
  Calls Tryz.prog 201 #[v, .int .i64 i, .slice (some ⟨q, 0, none⟩) 1 1] w (TurnE base v (insB es i x) w) := by
 obtain ⟨i0, hi0, hz0, hz1, hz2⟩ := info_parts Tryz.info118;obtain ⟨va, vc, rfl, hnc, -, -, -⟩ := oSl hE;have hw : insB es i x = es ++ [x] := by unfold insB; rw [hi, List.take_length, List.drop_length]
 rw [hw];have HE := hi2 hE hl;obtain ⟨n, hn⟩ : ∃ n, es.length = n := ⟨_, rfl⟩
 rw [hn] at hi hl hnc hE ⊢;subst hi;obtain ⟨v0, hS0⟩ : ∃ v0, ∀ W, (Instr.slice 127 (.slice va i vc) (some (.int .i64 i)) none none).run Tryz.prog W = .ok v0 W := ⟨_, fun W => slice_fromG 127 4 (by kernel_rfl) (fun W => by kernel_rfl) va i vc i (nR _) W⟩
 have HN := hid hn;have HB := hid hbase;have HS := hid (show SrcV w (.slice (some ⟨q, 0, none⟩) 1 1) 1 (btC x) from ⟨_, 1, rfl, .inr ⟨_, rfl, fun j u hj => by rw [addr_add0, Nat.zero_add, coh hq]; simpa using hj⟩⟩);have HO := hid hE;clear hE hl hbase hq hn hnc hw;go_enter Tryz.func201, Tryz.ntmps201;go_wp2_with (at_builtin; refine wpList_append_src rfl (.tmp 23) (.tmp 24) 127 rfl base 118 i0 _ 4 32 Tryz.underlying127 hi0 hz0 hz1 hz2 rfl (by decide) _ _ _ rfl HO.out _ 1 (btC x) rfl HS.out (by simp [btC]) (by intro u hu; simp [btC] at hu; rcases hu with rfl | rfl | rfl | rfl <;> rfl) (by have := HE.out.2; have := HN.out; simp [maxLen]; omega) (by have := HE.out.2; have := HN.out; omega) HB.out ?_)
 intro v3 W3 hown3 hg3 hne3;have F3 : Fr (fun b => (Value.slice va i vc).ownBlock = some b) w W3 := ⟨hg3.os, hg3.tape, hg3.output, hg3.size, fun b hb hn => hg3.block b hb (fun e => hn e.symm)⟩;have H3 := hi2 (show OwnE W3 base v3 (es ++ [x]) by
  show W3.ownsRow base 118 4 v3 (es ++ [x]).length ((es ++ [x]).flatMap btC);rw [lA, List.flatMap_append];simpa using hown3) F3
 clear hown3 hg3 hne3 F3;go_wp2_with fail
 go_ret;exact ⟨_, rfl, H3.out.1, H3.out.2⟩
theorem insert_room (hb : base <= g) (hg : w.heap[g]? = some (.cells cur 118)) (hc : es.length <= c) (hm : c <= maxLen) (hs : cur.size = c * 4) (ht : cur.toList.take (es.length * 4) = es.flatMap btC) (hl : es.length <= 254) (i : Nat) (hi : i < es.length) (hroom : es.length + 1 <= c)
  (x : Bt) (hq : w.heap[q]? = some (.cells #[.int .u64 x.hash, .int .i64 x.rg, .int .i64 x.at_, .int .i64 x.sz] 118)) (hne : q ≠ g) :
  Calls Tryz.prog 201 #[.slice (some ⟨g, 0, none⟩) es.length c, .int .i64 i, .slice (some ⟨q, 0, none⟩) 1 1] w (TurnE base (.slice (some ⟨g, 0, none⟩) es.length c) (insB es i x) w) := by
 have hlen := insB_len (Nat.le_of_lt hi) x;have hdl : (es.drop i).length = es.length - i := List.length_drop;obtain ⟨n, hn⟩ : ∃ n, es.length = n := ⟨_, rfl⟩
 rw [hn] at hi hl hc ht hroom hlen hdl ⊢;obtain ⟨n1, hn1⟩ : ∃ n1, n + 1 = n1 := ⟨_, rfl⟩
 obtain ⟨j, hj⟩ : ∃ j, i + 1 = j := ⟨_, rfl⟩
 rw [hn1] at hroom hlen;have hc63 : c <= 9223372036854775807 := by simpa [maxLen] using hm
 have hS0 := fun W => from127 g n c i (by omega) (by omega) W
 have hd0 : ((i : Int) == (n : Int)) = false := by simp; omega
 have HW1 := hid (show wrap64 ((n : Int) + 1) = (n1 : Int) from wrap_add1 hn1 (by omega));have HW2 := hid (show wrap64 ((i : Int) + 1) = (j : Int) from wrap_add1 hj (by omega));have HW3 := hid (show IntKind.i64.wrap ((i : Int) + 1) = (j : Int) from iwrap_add1 hj (by omega));have hd1 : decide (c < n1) = false := by simp; omega
 have hd2 : decide ((c : Int) < (n1 : Int)) = false := by simp; omega
 have hS1 := fun W => to127 (some ⟨g, 0, none⟩) n c n1 hroom W
 have hS2 := fun W => from127 g n1 c j (by omega) (by omega) W
 have hS3 := fun W => from127 g n1 c i (by omega) (by omega) W
 have hov := fun lb cb => overlaps_apart hq hg hne (by rw [hs]; omega) (j * 4) 1 1 lb cb
 -- the entries that go right
 obtain ⟨cs, hcs⟩ : ∃ cs, cs = (es.drop i).flatMap btC := ⟨_, rfl⟩
 have hcl : cs.length = (n1 - j) * 4 := by rw [hcs, btC_len, hdl]; congr 1; omega
 obtain ⟨cur1, hcur1⟩ : ∃ cur1, cur1 = (cur.toList.take (j * 4) ++ cs ++ cur.toList.drop (j * 4 + cs.length)).toArray := ⟨_, rfl⟩
 have hs1 : cur1.size = c * 4 := by
  rw [hcur1];simp only [zA, lA, lT, List.length_drop, Array.length_toList];omega
 have hcp1 : ∀ ty, (Builtin.copy_ #[127, 127] ty #[.slice (some ⟨g, j * 4, none⟩) (n1 - j) (c - j), .slice (some ⟨g, i * 4, none⟩) (n1 - i) (c - i)]).run Tryz.prog w.drew = .ok (goInt ((n1 - j : Nat) : Int)) (w.drew.setRow g cur1) := fun ty => by
  rw [hcur1];exact run_copy_rows w.drew 127 127 ty 118 4 (n1 - j) g (j * 4) (n1 - j) (c - j) ⟨g, i * 4, none⟩ (n1 - i) (c - i) cur 118 cs Tryz.underlying127 Tryz.size118 hg (by simp only [Nat.min_def]; split <;> omega) hcl (fun t u hu => by
   rw [addr_add0];show w.cell? _ = _;rw [coh hg];rw [hcs, <- bt_drop, List.getElem?_drop, <- ht, gT] at hu;split at hu
   ·simpa using hu
   ·cases hu) (by rw [hcl, hs]; omega) (by rw [hcs]; exact bt_one _)
 obtain ⟨W1, hW1⟩ : ∃ W1, w.drew.setRow g cur1 = W1 := ⟨_, rfl⟩
 have hg1 : W1.heap[g]? = some (.cells cur1 118) := by rw [<- hW1]; exact setRow_heap _ g cur cur1 118 _ hg
 have hq1 : W1.heap[q]? = some (.cells #[.int .u64 x.hash, .int .i64 x.rg, .int .i64 x.at_, .int .i64 x.sz] 118) := by rw [<- hW1, setRow_other _ g q _ hne]; exact hq
 obtain ⟨cur2, hcur2⟩ : ∃ cur2, cur2 = (cur1.toList.take (i * 4) ++ btC x ++ cur1.toList.drop (i * 4 + (btC x).length)).toArray := ⟨_, rfl⟩
 have hcp2 : ∀ ty, (Builtin.copy_ #[127, 127] ty #[.slice (some ⟨g, i * 4, none⟩) (n1 - i) (c - i), .slice (some ⟨q, 0, none⟩) 1 1]).run Tryz.prog W1 = .ok (goInt 1) (W1.setRow g cur2) := fun ty => by
  rw [hcur2];exact run_copy_rows W1 127 127 ty 118 4 1 g (i * 4) (n1 - i) (c - i) ⟨q, 0, none⟩ 1 1 cur1 118 (btC x) Tryz.underlying127 Tryz.size118 hg1 (by simp only [Nat.min_def]; split <;> omega) (by simp [btC]) (fun t u hu => by
   rw [addr_add0, Nat.zero_add, coh hq1]; simpa using hu) (by rw [hs1]; simp [btC]; omega) (by intro u hu; simp [btC] at hu; rcases hu with rfl | rfl | rfl | rfl <;> rfl)
 have hend : OwnE (W1.setRow g cur2) base (.slice (some ⟨g, 0, none⟩) n1 c) (insB es i x) := by
  have hg2 := setRow_heap W1 g cur1 cur2 118 _ hg1;have := ownE_shut (es := insB es i x) (c := c) hb hg2 (by omega) hm (by
   rw [hcur2];simp only [zA, lA, lT, List.length_drop, Array.length_toList, show (btC x).length = 4 from rfl];omega) (by
   rw [hlen, insB_cells, hcur2];have e1 : cur1.toList.take (i * 4) = (es.take i).flatMap btC := by
    rw [hcur1];simp only [List.append_assoc];rw [List.take_append_of_le_length (by rw [lT, Array.length_toList]; omega), List.take_take, show min (i * 4) (j * 4) = i * 4 by omega];exact cur_take (by rw [hn]; exact ht) (by omega)
   have e2 : cur1.toList.drop (i * 4 + (btC x).length) = cs ++ cur.toList.drop (j * 4 + cs.length) := by
    rw [hcur1, show i * 4 + (btC x).length = j * 4 by simp [btC]; omega];simp only [List.append_assoc];exact List.drop_left' (by rw [lT, Array.length_toList]; omega)
   rw [e1, e2, <- hcs];simp only [List.append_assoc];rw [<- List.append_assoc (btC x), <- List.append_assoc];exact List.take_left' (by
    simp only [lA, btC_len, lT, hn, hcl, show (btC x).length = 4 from rfl];omega))
  rw [hlen] at this;exact this
 have hfr : Fr (fun b => b = g) w (W1.setRow g cur2) := by
  rw [<- hW1];exact ((Fr.refl (fun b => b = g) _).drew.trans (setRow_fr _ g cur1) (fun _ _ h => h)).trans (setRow_fr _ g cur2) (fun _ _ h => h)
 rw [hW1] at hcp1;obtain ⟨oj, hoj⟩ : ∃ oj, j * 4 = oj := ⟨_, rfl⟩
 obtain ⟨oi, hoi⟩ : ∃ oi, i * 4 = oi := ⟨_, rfl⟩
 obtain ⟨lj, hlj⟩ : ∃ lj, n1 - j = lj := ⟨_, rfl⟩
 obtain ⟨li, hli⟩ : ∃ li, n1 - i = li := ⟨_, rfl⟩
 rw [hoj, hoi, hlj, hli] at hcp1;rw [hoi, hli] at hcp2;rw [hoi] at hS0;rw [hoi, hli] at hS3;rw [hoj, hlj] at hS2;rw [hoj] at hov;have HEnd := hi2 hend hfr;have HC1 := hid hcp1;have HC2 := hid hcp2;clear hb hg hs ht hm hcs hcl hcur1 hcp1 hs1 hW1 hg1 hq hq1 hcur2 hcp2 hend hfr hn hoj hoi hlj hli hlen hdl;subst hn1;subst hj;simp only [Int.natCast_add, Int.natCast_one] at hS1 hS2 hd2;have hw3 : IntKind.i64.wrap ((i : Int) + 1) = (i : Int) + 1 := by have := HW3.out; simpa using this
 have hcp2 := HC2.out;go_enter Tryz.func201, Tryz.ntmps201;go_wp2_with (simp only [hov])
 go_region_law (refine step_copy_run rfl (.tmp 73) (.tmp 76) 127 127 rfl _ _ (by simp [Act.eval, Act.put]) (by simp [Act.eval, Act.put]) (HC1.out _) ?_)
 go_wp2_with fail
 go_ret;exact ⟨_, rfl, HEnd.out.1, HEnd.out.2.mono fun b _ h => by subst h; rfl⟩
theorem insert_grow (hg : w.heap[g]? = some (.cells cur 118)) (hc : es.length <= c) (hm : c <= maxLen) (ht : cur.toList.take (es.length * 4) = es.flatMap btC) (hl : es.length <= 254) (hbase : base <= w.heap.size) (i : Nat) (hi : i < es.length) (hroom : ¬ es.length + 1 <= c)
  (x : Bt) (hq : w.heap[q]? = some (.cells #[.int .u64 x.hash, .int .i64 x.rg, .int .i64 x.at_, .int .i64 x.sz] 118)) :
  Calls Tryz.prog 201 #[.slice (some ⟨g, 0, none⟩) es.length c, .int .i64 i, .slice (some ⟨q, 0, none⟩) 1 1] w (TurnE base (.slice (some ⟨g, 0, none⟩) es.length c) (insB es i x) w) := by
 obtain ⟨i0, hi0, hz0, hz1, hz2⟩ := info_parts Tryz.info118;have hlen := insB_len (Nat.le_of_lt hi) x;have hdl : (es.drop i).length = es.length - i := List.length_drop;have htl : (es.take i).length = i := by rw [lT]; omega
 obtain ⟨n, hn⟩ : ∃ n, es.length = n := ⟨_, rfl⟩
 rw [hn] at hi hl hc ht hroom hlen hdl ⊢;obtain ⟨n1, hn1⟩ : ∃ n1, n + 1 = n1 := ⟨_, rfl⟩
 obtain ⟨j, hj⟩ : ∃ j, i + 1 = j := ⟨_, rfl⟩
 obtain ⟨k, hk⟩ : ∃ k, n1 - i = k := ⟨_, rfl⟩
 obtain ⟨N, hN⟩ : ∃ N, w.heap.size = N := ⟨_, rfl⟩
 rw [hn1] at hroom hlen;have hc63 : c <= 9223372036854775807 := by simpa [maxLen] using hm
 have hgN : g < N := by rw [<- hN]; exact loh hg
 have hqN : q < N := by rw [<- hN]; exact loh hq
 have hd0 : ((i : Int) == (n : Int)) = false := by simp; omega
 have HW1 := hid (show wrap64 ((n : Int) + 1) = (n1 : Int) from wrap_add1 hn1 (by omega));have HW2 := hid (show wrap64 ((i : Int) + 1) = (j : Int) from wrap_add1 hj (by omega));have HW3 := hid (show IntKind.i64.wrap ((i : Int) + 1) = (j : Int) from iwrap_add1 hj (by omega));have HW4 := hid (show wrap64 ((n1 : Int) - (i : Int)) = (k : Int) from wrap_subN hk (by omega) (by omega));have hd1 : decide (c < n1) = true := by simp; omega
 have hd2 : decide ((c : Int) < (n1 : Int)) = true := by simp; omega
 have hS0 := fun W => from127 g n c i (by omega) (by omega) W
 have hS1 := fun W => to127 (some ⟨g, 0, none⟩) n c i (by omega) W
 obtain ⟨olds, holds⟩ : ∃ olds, olds = (es.take i).flatMap btC := ⟨_, rfl⟩
 have hol : olds.length = i * 4 := by rw [holds, btC_len, htl]
 have hcell : ∀ (k : Nat) (u : Value), ((es.drop i).flatMap btC)[k]? = some u -> w.cell? ⟨g, i * 4 + k, none⟩ = some u := fun k u hu => by
  rw [coh hg];rw [<- bt_drop, List.getElem?_drop, <- ht, gT] at hu;split at hu
  ·simpa using hu
  ·cases hu
 have hold : (Builtin.firstCells i0.size i (.slice (some ⟨g, 0, none⟩) i c)).run Tryz.prog w.drew = .ok olds.toArray w.drew :=
  run_firstCells_some w.drew i0.size i ⟨g, 0, none⟩ i c olds (by rw [hol, hz1]) (fun t u hu => by
   rw [addr_add0, Nat.zero_add];show w.cell? _ = _;rw [coh hg];rw [holds, <- bt_take, <- ht, gT] at hu;split at hu
   ·rw [gT] at hu;split at hu
    ·simpa using hu
    ·cases hu
   ·cases hu)
 obtain ⟨G, hG⟩ : ∃ G, G = grownCap w (i + k) c 118 := ⟨_, rfl⟩
 have hik : i + k = n1 := by omega
 have hGn : n1 <= G := by rw [hG, <- hik]; exact grownCap_ge w _ _ _
 have hGm : G <= maxLen := by rw [hG]; exact grownCap_le_maxLen w _ _ _ (by simp only [maxLen]; omega)
 obtain ⟨Z1, hZ1⟩ : ∃ Z1, Z1 = Builtin.zeroCells (Value.agg #[.int .u64 0, .int .i64 0, .int .i64 0, .int .i64 0]).cells k := ⟨_, rfl⟩
 obtain ⟨Z2, hZ2⟩ : ∃ Z2, Z2 = Builtin.zeroCells (Value.agg #[.int .u64 0, .int .i64 0, .int .i64 0, .int .i64 0]).cells (G - n1) := ⟨_, rfl⟩
 have hz1l : Z1.size = k * 4 := by rw [hZ1, size_zeroCells]; rfl
 have hz2l : Z2.size = (G - n1) * 4 := by rw [hZ2, size_zeroCells]; rfl
 obtain ⟨ROW, hROW⟩ : ∃ ROW : Array Value, ROW = olds.toArray ++ Z1 ++ Z2 := ⟨_, rfl⟩
 have hRs : ROW.size = G * 4 := by
  rw [hROW];simp only [Array.size_append, zA, hol, hz1l, hz2l];omega
 have hRt : ROW.toList.take (i * 4) = olds := by
  rw [hROW];simp only [Array.toList_append, List.append_assoc];exact List.take_left' hol
 obtain ⟨W1, hW1⟩ : ∃ W1, w.drew.alloc (.cells ROW 118) = W1 := ⟨_, rfl⟩
 have hrz : ∀ ty, (Builtin.append_ #[127, 3] ty #[.slice (some ⟨g, 0, none⟩) i c, .int .i64 k]).run Tryz.prog w = .ok (.slice (some ⟨N, 0, none⟩) n1 G) W1 := fun ty => by
  have h := Lib.run_append_grow_zeros w 127 3 ty 118 i0 _ .i64 .i64 Tryz.underlying127 Tryz.underlying3 hi0 hz0 (some ⟨g, 0, none⟩) i c olds hold k (by omega) (by omega) (by omega) (by omega) (by rw [hz2]; omega) (by rw [hz2]; exact growslice_fits (by omega) (by omega));rw [<- hG, hik, <- hZ1, <- hZ2, <- hROW, hW1, hN] at h;exact h
 have hg1 : W1.heap[N]? = some (.cells ROW 118) := by rw [<- hW1, <- hN]; exact han w.drew _
 have F1 : Fq w W1 := by rw [<- hW1]; exact (Fr.refl _ _).drew.alloc _
 have hS2 := fun W => from127 N n1 G i (by omega) (by omega) W
 obtain ⟨cur1, hcur1⟩ : ∃ cur1, cur1 = (ROW.toList.take (i * 4) ++ btC x ++ ROW.toList.drop (i * 4 + (btC x).length)).toArray := ⟨_, rfl⟩
 have hs1 : cur1.size = G * 4 := by
  rw [hcur1];simp only [zA, lA, lT, List.length_drop, Array.length_toList, show (btC x).length = 4 from rfl];omega
 have hcp1 : ∀ ty, (Builtin.copy_ #[127, 127] ty #[.slice (some ⟨N, i * 4, none⟩) (n1 - i) (G - i), .slice (some ⟨q, 0, none⟩) 1 1]).run Tryz.prog W1 = .ok (goInt 1) (W1.setRow N cur1) := fun ty => by
  rw [hcur1];exact run_copy_rows W1 127 127 ty 118 4 1 N (i * 4) (n1 - i) (G - i) ⟨q, 0, none⟩ 1 1 ROW 118 (btC x) Tryz.underlying127 Tryz.size118 hg1 (by simp only [Nat.min_def]; split <;> omega) (by simp [btC]) (fun t u hu => by
   rw [addr_add0, Nat.zero_add, coh (F1.heap hq (fun h => h))]; simpa using hu) (by rw [hRs]; simp [btC]; omega) (by intro u hu; simp [btC] at hu; rcases hu with rfl | rfl | rfl | rfl <;> rfl)
 obtain ⟨W2, hW2⟩ : ∃ W2, W1.setRow N cur1 = W2 := ⟨_, rfl⟩
 have hg2 : W2.heap[N]? = some (.cells cur1 118) := by rw [<- hW2]; exact setRow_heap _ N ROW cur1 118 _ hg1
 have F2 : Fq w W2 := by
  rw [<- hW2];exact F1.trans (setRow_fr _ N cur1) (fun b hb h => by omega)
 have hS3 := fun W => from127 N n1 G j (by omega) (by omega) W
 obtain ⟨cs, hcs⟩ : ∃ cs, cs = (es.drop i).flatMap btC := ⟨_, rfl⟩
 have hcl : cs.length = (n1 - j) * 4 := by rw [hcs, btC_len, hdl]; congr 1; omega
 obtain ⟨cur2, hcur2⟩ : ∃ cur2, cur2 = (cur1.toList.take (j * 4) ++ cs ++ cur1.toList.drop (j * 4 + cs.length)).toArray := ⟨_, rfl⟩
 have hcp2 : ∀ ty, (Builtin.copy_ #[127, 127] ty #[.slice (some ⟨N, j * 4, none⟩) (n1 - j) (G - j), .slice (some ⟨g, i * 4, none⟩) (n - i) (c - i)]).run Tryz.prog W2.drew = .ok (goInt ((n1 - j : Nat) : Int)) (W2.drew.setRow N cur2) := fun ty => by
  rw [hcur2];exact run_copy_rows W2.drew 127 127 ty 118 4 (n1 - j) N (j * 4) (n1 - j) (G - j) ⟨g, i * 4, none⟩ (n - i) (c - i) cur1 118 cs Tryz.underlying127 Tryz.size118 hg2 (by simp only [Nat.min_def]; split <;> omega) hcl (fun t u hu => by
   rw [addr_add0];show W2.cell? _ = _;rw [hcs] at hu;exact (F2.cell (p := ⟨g, i * 4 + t, none⟩) (loh hg) (fun h => h)).trans (hcell t u hu)) (by rw [hcl, hs1]; omega) (by rw [hcs]; exact bt_one _)
 have hend : OwnE (W2.drew.setRow N cur2) base (.slice (some ⟨N, 0, none⟩) n1 G) (insB es i x) := by
  have hg3 := setRow_heap W2.drew N cur1 cur2 118 _ hg2;have := ownE_shut (es := insB es i x) (c := G) (by rw [<- hN]; exact hbase) hg3 (by omega) hGm (by
   rw [hcur2];simp only [zA, lA, lT, List.length_drop, Array.length_toList];omega) (by
   rw [hlen, insB_cells, hcur2];have e1 : cur1.toList.take (j * 4) = (es.take i).flatMap btC ++ btC x := by
    have ec : cur1.toList = (es.take i).flatMap btC ++ (btC x ++ ROW.toList.drop (i * 4 + (btC x).length)) := by
     rw [hcur1, <- holds, <- hRt]; simp
    rw [ec, <- List.append_assoc];exact List.take_left' (by
     simp only [lA, btC_len, htl, show (btC x).length = 4 from rfl];omega)
   rw [e1, <- hcs];simp only [List.append_assoc];rw [<- List.append_assoc (btC x), <- List.append_assoc];exact List.take_left' (by
    simp only [lA, btC_len, lT, hn, hcl, show (btC x).length = 4 from rfl];omega))
  rw [hlen] at this;exact this
 have hfr : Fq w (W2.drew.setRow N cur2) := F2.drew.trans (setRow_fr _ N cur2) (fun b hb h => by omega);obtain ⟨oj, hoj⟩ : ∃ oj, j * 4 = oj := ⟨_, rfl⟩
 obtain ⟨oi, hoi⟩ : ∃ oi, i * 4 = oi := ⟨_, rfl⟩
 obtain ⟨lj, hlj⟩ : ∃ lj, n1 - j = lj := ⟨_, rfl⟩
 obtain ⟨ni, hni⟩ : ∃ ni, n - i = ni := ⟨_, rfl⟩
 rw [hoj, hoi, hlj, hni] at hcp2;rw [hoi, hk, hW2] at hcp1;rw [hoi, hni] at hS0;rw [hoi, hk] at hS2;rw [hoj, hlj] at hS3;have HEnd := hi2 hend hfr;have HC1 := hid hcp1;have HC2 := hid hcp2;clear hg ht hm hcs hcl hcur1 hcp1 hs1 hW1 hg1 hq hcur2 hcp2 hend hfr hn hN hoj hoi hlj hni hlen hdl hROW hRs hRt hZ1 hZ2 hz1l hz2l hG hold holds hol hcell hW2 hg2 F1 F2 htl hi0 hz0 hz1 hz2 hik hgN hqN;have hke : (k : Int) = (n : Int) + 1 - (i : Int) := by omega
 rw [hke] at hrz;have HRZ := hid hrz;subst hn1;subst hj;clear hrz hke hk;simp only [Int.natCast_add, Int.natCast_one] at hS3 hd2;have hw3 : IntKind.i64.wrap ((i : Int) + 1) = (i : Int) + 1 := by have := HW3.out; simpa using this
 have hcp1 := HC1.out;go_enter Tryz.func201, Tryz.ntmps201;go_wp2_with (at_builtin; refine wpList_app_run rfl _ _ 127 3 rfl _ _ rfl rfl (HRZ.out _) ?_)
 go_region_law (refine step_copy_run rfl (.tmp 50) (.tmp 53) 127 127 rfl _ _ (by simp [Act.eval, Act.put]) (by simp [Act.eval, Act.put]) (HC2.out _) ?_)
 go_wp2_with fail
 go_ret;exact ⟨_, rfl, HEnd.out.1, HEnd.out.2.mono fun b _ h => h.elim⟩
theorem insert_e_ok (hE : OwnE w base v es) (hl : es.length <= 254) (hbase : base <= w.heap.size) (i : Nat) (hi : i <= es.length) (x : Bt) (hq : w.heap[q]? = some (.cells #[.int .u64 x.hash, .int .i64 x.rg, .int .i64 x.at_, .int .i64 x.sz] 118)) (hv : v.ownBlock ≠ some q) :
  Calls Tryz.prog 201 #[v, .int .i64 i, .slice (some ⟨q, 0, none⟩) 1 1] w (TurnE base v (insB es i x) w) := by
 by_cases h : i = es.length
 ·exact insert_end hE hl hbase i h x hq
 ·obtain ⟨g, c, cur, rfl, hb, hg, hc, hm, hs, ht⟩ := ownE_open hE (by omega);by_cases hr : es.length + 1 <= c
  ·exact insert_room hb hg hc hm hs ht hl i (by omega) hr x hq (fun e => hv (by rw [e]; rfl))
  ·exact insert_grow hg hc hm ht hl hbase i (by omega) hr x hq
def putB (es : List Bt) (x : Bt) : List Bt := if hasB es x.hash = true then es.set (plI es x.hash) x else insB es (plI es x.hash) x
theorem bt_set (l : List Bt) : ∀ (k : Nat) (x : Bt), k < l.length -> (l.set k x).flatMap btC = ((((l.flatMap btC).set (k * 4) (.int .u64 x.hash)).set (k * 4 + 1) (.int .i64 x.rg)).set (k * 4 + 2) (.int .i64 x.at_)).set (k * 4 + 3) (.int .i64 x.sz) := by
 induction l with
 | nil => intro k x h; simp at h
 | cons y l ih =>
  intro k x h;cases k with
  | zero => simp [btC]
  | succ k =>
   have e : (k + 1) * 4 = k * 4 + 1 + 1 + 1 + 1 := by omega
   have h' : k < l.length := by simpa using h
   rw [e];simp only [sS, List.flatMap_cons, btC, List.cons_append, List.nil_append];rw [ih k x h']
theorem own_setE {l : List Bt} (h : OwnE w base (.slice (some ⟨g, 0, none⟩) l.length c) l) (hk : k < l.length) (x : Bt) :
  OwnE ((((w.setCell ⟨g, k * 4, none⟩ (.int .u64 x.hash)).setCell ⟨g, k * 4 + 1, none⟩ (.int .i64 x.rg)).setCell ⟨g, k * 4 + 2, none⟩ (.int .i64 x.at_)).setCell ⟨g, k * 4 + 3, none⟩ (.int .i64 x.sz)) base (.slice (some ⟨g, 0, none⟩) (l.set k x).length c) (l.set k x) := by
 obtain ⟨hl, ⟨h0, h1⟩ | ⟨g', cap, cur, hv, hb, hg, hc, hm, hs, ht⟩⟩ := h
 ·cases h0
 ·cases hv;refine ⟨by rw [btC_len], .inr ⟨g, c, (((cur.setIfInBounds (k * 4) (.int .u64 x.hash)).setIfInBounds (k * 4 + 1) (.int .i64 x.rg)).setIfInBounds (k * 4 + 2) (.int .i64 x.at_)).setIfInBounds (k * 4 + 3) (.int .i64 x.sz), by rw [List.length_set], hb, ?_, by rw [List.length_set]; exact hc, hm, by simpa using hs, ?_⟩⟩
  ·rw [hsc _ _ _ _ (hsc _ _ _ _ (hsc _ _ _ _ (hsc _ _ _ _ hg)))]
  ·rw [bt_set l k x hk, List.length_set, <- ht];simp only [Array.toList_setIfInBounds, List.take_set]
theorem bput_ok (hE : OwnE w 0 v es) (hs : SortedB es) (hl : es.length <= 254) (d p : Int) (x : Bt) :
  Calls Tryz.prog 136 #[bkV d p v, btV x] w (BkP d p (putB es x) w) := by
 obtain ⟨va, vc, rfl, -, -, -, -⟩ := oSl hE;obtain ⟨n, hn⟩ : ∃ n, es.length = n := ⟨_, rfl⟩
 obtain ⟨w1, hw1⟩ : ∃ w1, ((w.alloc (.cells #[.int .i64 d, .int .i64 p, .slice va n vc] 129)).alloc (.cells #[.int .u64 x.hash, .int .i64 x.rg, .int .i64 x.at_, .int .i64 x.sz] 118)).alloc (.cells #[.int .i64 0, .int .i64 0, .slice none 0 0] 129) = w1 := ⟨_, rfl⟩
 obtain ⟨b0, b1, b2, F1⟩ := heap_three hw1;have HB := hid (fun W (F : Fr (fun b => b = w.heap.size + 2) w1 W) => aI (cells3 (F.heap b0 (fun h => by omega))) (cells4b (F.heap b1 (fun h => by omega))));have HY := hid (fun W (F : Fq w1 W) => cells3 (F.heap b2 (fun h => h)));have hE1 := oN hE F1;have HPl := hid (place_ok hE1 hs (by omega) d p x.hash);have HCl := hid (fun W (F : Fq w1 W) => clone_e_ok (oN hE1 F) (by omega));have HF1 := hid F1;have HN := hid hn;have HL := hid hl;have HSo := hid hs;have hsz : w1.heap.size = w.heap.size + 3 := by rw [<- hw1]; simp
 have HSz := hid hsz;obtain ⟨⟨x0, x1, x2, xz, xl⟩, ⟨t0, t1, t2, t3, tz, tl⟩⟩ := HB.out _ (Fr.refl _ _);have HW := hid hw1;rw [hn] at HPl HCl ⊢;clear hw1 b0 b1 b2 F1 hE hs hl hn hsz hE1;obtain ⟨q, hq⟩ : ∃ q, plI es x.hash = q := ⟨_, rfl⟩
 have HQ := hi2 hq (show q <= es.length by rw [<- hq]; exact plI_le _ _);obtain ⟨hb, hhb⟩ : ∃ b, hasB es x.hash = b := ⟨_, rfl⟩
 have HPl' := hid (show Calls Tryz.prog 199 #[bkV d p (.slice va n vc), .int .u64 x.hash] w1 (fun e w' => e = .returned (.tuple #[.int .i64 q, .bool hb]) /\ Fq w1 w') from HPl.out.mono fun e w' hp => ⟨by rw [<- hq, <- hhb]; exact hp.1, hp.2⟩);clear HPl hq;go_enter Tryz.func136, Tryz.ntmps136;go_upto_region 1 with fail
 rw [HW.out];go_wp2_with fail
 refine HPl'.out.mono ?_;rintro e W2 ⟨rfl, F2⟩;have HF2 := hi2 F2 (show w1.heap.size <= W2.heap.size from F2.size);clear x0 x1 x2 xz xl t0 t1 t2 t3 tz tl;obtain ⟨⟨x0, x1, x2, xz, xl⟩, ⟨t0, t1, t2, t3, tz, tl⟩⟩ := HB.out _ (F2.mono fun _ _ h => h.elim);clear F2;go_wp2_with fail
 refine (HCl.out _ HF2.out.1).mono ?_;rintro e W3 ⟨v3, rfl, hown3, F3⟩;obtain ⟨a3, c3, rfl, -, -, -, -⟩ := oSl hown3;have H3 := hi2 hown3 (HF2.out.1.trans F3 (fun _ _ h => h));have hs23 := F3.size;have HSz2 := hid (show w.heap.size <= W2.heap.size by have := HSz.out; have := HF2.out.2; omega);clear hown3 F3 x0 x1 x2 xz xl t0 t1 t2 t3 tz tl;obtain ⟨⟨x0, x1, x2, xz, xl⟩, ⟨t0, t1, t2, t3, tz, tl⟩⟩ := HB.out _ (H3.out.2.mono fun _ _ h => h.elim);rw [HN.out];cases hb with
 | true =>
  have hP : putB es x = es.set q x := by unfold putB; rw [hhb, if_pos rfl, HQ.out.1]
  obtain ⟨y, hy, -⟩ := (hasB_iff HSo.out).1 hhb;rw [HQ.out.1] at hy;have hqn : q < n := by rw [<- HN.out]; exact (gI.1 hy).1
  obtain ⟨g, rfl, hg, u0, u1, u2, u3⟩ := ownE_at H3.out.1 hy;have hgb : W2.heap.size <= g := by
   have := (own_blkT (g := g) H3.out.1 rfl).1;exact this
  have hgz : ∀ o, W3.frozen? ⟨g, o, none⟩ = false := by
   obtain ⟨g', c', cur, e, -, hg', -⟩ := ownE_open H3.out.1 (by rw [HN.out]; omega);cases e;exact fun o => foh hg' o
  have hqi : (q : Int) < (n : Int) := by omega
  have hg0 : g ≠ w.heap.size := by have := HSz.out; have := HF2.out.2; omega
  have hg1 : g ≠ w.heap.size + 1 := by have := HSz.out; have := HF2.out.2; omega
  have hg2 : g ≠ w.heap.size + 2 := by have := HSz.out; have := HF2.out.2; omega
  have HP := hid hP;have HGB := hid hgb;have HSet := hid (own_setE H3.out.1 (by rw [HN.out]; exact hqn) x);clear hP hy hgb;go_upto_region 5 with fail
  obtain ⟨W5, hW5⟩ : ∃ W5, (((W3.setCell ⟨g, q * 4, none⟩ (.int .u64 x.hash)).setCell ⟨g, q * 4 + 1, none⟩ (.int .i64 x.rg)).setCell ⟨g, q * 4 + 2, none⟩ (.int .i64 x.at_)).setCell ⟨g, q * 4 + 3, none⟩ (.int .i64 x.sz) = W5 := ⟨_, rfl⟩
  rw [hW5] at HSet ⊢;have F5 : Fr (fun b => b = g) W3 W5 := by
   rw [<- hW5];exact ((((Fr.refl (fun b => b = g) W3).setCell (a := ⟨g, _, none⟩) (fun _ => rfl) _).setCell (a := ⟨g, _, none⟩) (fun _ => rfl) _).setCell (a := ⟨g, _, none⟩) (fun _ => rfl) _).setCell (a := ⟨g, _, none⟩) (fun _ => rfl) _
  have F15 : Fq w1 W5 := H3.out.2.trans F5 (fun b hb e => by have := HGB.out; have := HF2.out.2; omega);have H5 := hid F15;clear F5 hW5 u0 u1 u2 u3 hgz x0 x1 x2 xz xl t0 t1 t2 t3 tz tl;obtain ⟨⟨x0, x1, x2, xz, xl⟩, ⟨t0, t1, t2, t3, tz, tl⟩⟩ := HB.out _ (F15.mono fun _ _ h => h.elim);clear F15;go_wp2_with fail
  refine (with_ok d p va n vc (some ⟨g, 0, none⟩) n c3 _).mono ?_;rintro e W6 ⟨rfl, F6⟩;have H6 := hi2 F6 (H5.out.trans F6 (fun _ _ h => h));clear F6 x0 x1 x2 xz xl t0 t1 t2 t3 tz tl;obtain ⟨y0, y1, y2, yz, yl⟩ := HY.out _ H6.out.2;go_wp2_with fail
  have FS : ∀ (W : World) (o : Nat) (u : Value), Fr (fun b => b = w.heap.size + 2) W (W.setCell ⟨w.heap.size + 2, o, none⟩ u) := fun W o u => (Fr.refl (fun b => b = w.heap.size + 2) _).setCell (a := ⟨w.heap.size + 2, o, none⟩) (fun _ => rfl) u
  refine bodyPost_ret (v := bkV d p (.slice (some ⟨g, 0, none⟩) n c3)) (by simp [results, go_sem, *]) rfl ⟨some ⟨g, 0, none⟩, c3, by rw [HP.out, List.length_set, HN.out], ?_, ?_⟩
  ·rw [HP.out];exact own_fr1 (own_mono (oN HSet.out H6.out.1) HSz2.out) (((FS _ _ _).trans (FS _ _ _) (fun _ _ h => h)).trans (FS _ _ _) (fun _ _ h => h)) (fun g' hg' e => by
    have e1 : g = g' := Option.some.inj hg';omega)
  ·have hs := HSz.out;exact (((HF1.out.trans H6.out.2 (fun _ _ h => h)).setNew (by omega) _).setNew (by omega) _).setNew (by omega) _
 | false =>
  have hP : putB es x = insB es q x := by unfold putB; rw [hhb, if_neg (by decide), HQ.out.1]
  clear x0 x1 x2 xz xl t0 t1 t2 t3 tz tl;go_wp2_with fail
  refine wp_region_noPanic ?_;refine region_plan (fun V => Fr (fun b => b = w.heap.size + 2) w1 V) (.rd 0 (.rd 1 (.rd 2 (.rd 3 (.op 4 (.op 5 (.op 6 (.op 7 .done)))))))) (by kernel_rfl) (by kernel_rfl) (by kernel_rfl) (fun _ _ _ _ _ h => h) (H3.out.2.drew.mono fun _ _ h => h.elim) ?_;iterate 4
   try simp only [Act.put, sI, sZ, sS]
   refine plan_rd _ ?_ (by simp only [gA, gZ, gS]; rfl) (by rfl) ?_ ?_;rotate_left
   ·intro V hV;obtain ⟨⟨x0, x1, x2, xz, xl⟩, ⟨t0, t1, t2, t3, tz, tl⟩⟩ := HB.out V hV;go_simp;try with_reducible rfl
  try simp only [Act.put, sI, sZ, sS]
  refine plan_op _ (by simp only [gA, gZ, gS]; rfl) (by rfl) (fun K hK => ?_);go_simp;have hq3 : ((W3.alloc (.cells #[.int .u64 x.hash, .int .i64 x.rg, .int .i64 x.at_, .int .i64 x.sz] 118)).drew).heap[W3.heap.size]? = some (.cells #[.int .u64 x.hash, .int .i64 x.rg, .int .i64 x.at_, .int .i64 x.sz] 118) := han W3 _;have FA : Fq W3 ((W3.alloc (.cells #[.int .u64 x.hash, .int .i64 x.rg, .int .i64 x.at_, .int .i64 x.sz] 118)).drew) := ((Fr.refl _ _).alloc _).drew;have HIn := hid (insert_e_ok (oN H3.out.1 FA) HL.out (nT hs23 FA.size) q HQ.out.2 x hq3 (fun e => by have := (own_blkT H3.out.1 e).2; simp at this));obtain ⟨V1, hV1⟩ : ∃ V1, (W3.alloc (.cells #[.int .u64 x.hash, .int .i64 x.rg, .int .i64 x.at_, .int .i64 x.sz] 118)).drew = V1 := ⟨_, rfl⟩
  rw [hV1] at HIn FA;have FG := H3.out.2.trans FA (fun _ _ h => h);have FGS : Fr (fun b => b = w.heap.size + 2) w1 V1 := FG.mono fun _ _ h => h.elim
  try rw [hV1]
  refine hK _ _ FGS ?_;clear hK K hq3;try simp only [Act.put, sI, sZ, sS]
  refine plan_op _ (by simp only [gA, gZ, gS]; rfl) (by rfl) (fun K hK => ?_);go_simp;rw [HN.out] at HIn;refine HIn.out.mono ?_;rintro _ V2 ⟨v4, rfl, hown4, F4⟩;have FG4 : Fq w1 V2 := FG.trans F4 (fun b hb e => by have := (own_blkT H3.out.1 (show (Value.slice a3 es.length c3).ownBlock = some b by rw [HN.out]; exact e)).1; have := HF2.out.1.size; omega);have FGS : Fr (fun b => b = w.heap.size + 2) w1 V2 := FG4.mono fun _ _ h => h.elim
  obtain ⟨a4, c4, rfl, -, -, -, -⟩ := oSl hown4;have H4 := hi2 hown4 FG4;obtain ⟨n4, hn4⟩ : ∃ n4, (insB es q x).length = n4 := ⟨_, rfl⟩
  have HN4 := hid hn4;rw [hn4];try go_simp
  refine hK _ _ FGS ?_;clear hK K hown4 F4 hn4 FG4;try simp only [Act.put, sI, sZ, sS]
  refine plan_op _ (by simp only [gA, gZ, gS]; rfl) (by rfl) (fun K hK => ?_);go_simp;refine (with_ok d p va n vc a4 n4 c4 _).mono ?_;rintro _ V3 ⟨rfl, F5⟩;have FG5 : Fq w1 V3 := H4.out.2.trans F5 (fun _ _ h => h);have FGS : Fr (fun b => b = w.heap.size + 2) w1 V3 := FG5.mono fun _ _ h => h.elim
  have H5 := hi2 (oN H4.out.1 F5) FG5;try go_simp
  refine hK _ _ FGS ?_;clear hK K F5 FG5;try simp only [Act.put, sI, sZ, sS]
  refine plan_op _ (by simp only [gA, gZ, gS]; rfl) (by rfl) (fun K hK => ?_);obtain ⟨y0, y1, y2, yz, yl⟩ := HY.out _ H5.out.2;go_simp;refine hK _ _ (((FGS.setCell (fun _ => rfl) _).setCell (fun _ => rfl) _).setCell (fun _ => rfl) _) ?_;clear hK K;try simp only [Act.put, sI, sZ, sS]
  refine plan_done ?_;refine NoPanic.normal ?_;go_wp2_with fail
  have FS : ∀ (W : World) (o : Nat) (u : Value), Fr (fun b => b = w.heap.size + 2) W (W.setCell ⟨w.heap.size + 2, o, none⟩ u) := fun W o u => (Fr.refl (fun b => b = w.heap.size + 2) _).setCell (a := ⟨w.heap.size + 2, o, none⟩) (fun _ => rfl) u
  refine bodyPost_ret (v := bkV d p (.slice a4 n4 c4)) (by simp [results, go_sem, *]) rfl ⟨a4, c4, by rw [<- HN4.out, hP], ?_, ?_⟩
  ·rw [hP];exact own_fr1 (own_mono H5.out.1 HSz2.out) (((FS _ _ _).trans (FS _ _ _) (fun _ _ h => h)).trans (FS _ _ _) (fun _ _ h => h)) (fun g hg e => by
    have := (own_blkT H5.out.1 hg).1;have := HF2.out.1.size;have := HSz.out;omega)
  ·have hs := HSz.out;exact (((HF1.out.trans H5.out.2 (fun _ _ h => h)).setNew (by omega) _).setNew (by omega) _).setNew (by omega) _
theorem bk_filter (h : BkOk d p es) (f : Bt -> Bool) : BkOk d p (es.filter f) :=
 ⟨nT (List.length_filter_le _ _) h.1, List.Pairwise.sublist List.filter_sublist h.2.1, fun x hx => h.2.2 x (List.mem_filter.1 hx).1⟩
theorem bk_erase (h : BkOk d p es) (i : Nat) : BkOk d p (es.eraseIdx i) :=
 ⟨nT (List.length_eraseIdx_le _ _) h.1, List.Pairwise.sublist (List.eraseIdx_sublist _ _) h.2.1, fun x hx => h.2.2 x (List.mem_of_mem_eraseIdx hx)⟩
variable {x : Bt}
theorem sorted_ins (hs : SortedB es) (hn : hasB es x.hash = false) : SortedB (insB es (plI es x.hash) x) := by
 obtain ⟨k, hk⟩ : ∃ k, plI es x.hash = k := ⟨_, rfl⟩
 have h1 : ∀ y ∈ es.take k, y.hash < x.hash := fun y hy => by
  obtain ⟨i, hi⟩ := List.mem_iff_getElem?.1 hy;rw [gT] at hi;split at hi
  ·exact (plI_lt hs hi).1 (by omega)
  ·cases hi
 have h2 : ∀ y ∈ es.drop k, x.hash < y.hash := fun y hy => by
  obtain ⟨i, hi⟩ := List.mem_iff_getElem?.1 hy;rw [List.getElem?_drop] at hi;have hn1 : ¬ y.hash < x.hash := fun h => by have := (plI_lt hs hi).2 h; omega
  have hn2 : y.hash ≠ x.hash := fun h => by
   have : hasB es x.hash = true := by
    unfold hasB;rw [List.any_eq_true];exact ⟨y, gM hi, by simp [h]⟩
   rw [hn] at this; cases this
  omega
 rw [hk];unfold insB SortedB;rw [List.pairwise_append];refine ⟨List.Pairwise.sublist (List.take_sublist _ _) hs, List.pairwise_cons.2 ⟨h2, List.Pairwise.sublist (List.drop_sublist _ _) hs⟩, fun a ha b hb => ?_⟩;rcases List.mem_cons.1 hb with rfl | hb
 ·exact h1 a ha
 ·exact Nat.lt_trans (h1 a ha) (h2 b hb)
theorem sorted_set {y : Bt} (hs : SortedB es) (hy : es[k]? = some y) (he : y.hash = x.hash) : SortedB (es.set k x) := by
 have hk := (gI.1 hy).1;refine List.pairwise_iff_getElem.2 fun i j hi hj hij => ?_
 simp only [List.length_set] at hi hj;have key : ∀ (m : Nat) (hm : m < (es.set k x).length) (hm' : m < es.length), (es.set k x)[m].hash = es[m].hash := fun m hm hm' => by
  rw [List.getElem_set];split
  ·rename_i e;subst e;rw [gE hk] at hy;cases hy;exact he.symm
  ·rfl
 rw [key i (by simpa using hi) hi, key j (by simpa using hj) hj];exact List.pairwise_iff_getElem.1 hs i j hi hj hij
theorem bk_put (h : BkOk d p es) (hr : roomB es x.hash 3 = true) (hg : goodE x) (hp : preM x.hash d = p) : BkOk d p (putB es x) := by
 unfold putB;cases hb : hasB es x.hash with
 | true =>
  rw [if_pos rfl];obtain ⟨y, hy, he⟩ := (hasB_iff h.2.1).1 hb;refine ⟨by rw [List.length_set]; exact h.1, sorted_set h.2.1 hy he, fun z hz => ?_⟩;rcases List.mem_or_eq_of_mem_set hz with hz | rfl
  ·exact h.2.2 z hz
  ·exact ⟨hg, hp⟩
 | false =>
  rw [if_neg (by decide)];have hl : es.length < 3 := by
   unfold roomB at hr;rw [hb] at hr;simpa using hr
  refine ⟨by rw [insB_len (plI_le _ _)]; omega, sorted_ins h.2.1 hb, fun z hz => ?_⟩;unfold insB at hz;rcases List.mem_append.1 hz with hz | hz
  ·exact h.2.2 z (List.mem_of_mem_take hz)
  ·rcases List.mem_cons.1 hz with rfl | hz
   ·exact ⟨hg, hp⟩
   ·exact h.2.2 z (List.mem_of_mem_drop hz)
theorem pre_succ {h : Nat} (hd : d < 20) (hh : h < 18446744073709551616) : preM h (d + 1) / 2 = preM h d := by
 have := pre_div (h := h) (g := d + 1) (d := d) (by omega) (by omega) hh;rwa [show d + 1 - d = 1 by omega, Nat.pow_one] at this
theorem bk_halves (h : BkOk d p es) (hd : d < 20) : BkOk (d + 1) (2 * p) (es.filter fun x => !halfB d x) /\ BkOk (d + 1) (2 * p + 1) (es.filter (halfB d)) := by
 refine ⟨⟨(bk_filter h _).1, (bk_filter h _).2.1, fun x hx => ?_⟩, ⟨(bk_filter h _).1, (bk_filter h _).2.1, fun x hx => ?_⟩⟩
 ·obtain ⟨hx1, hx2⟩ := List.mem_filter.1 hx;obtain ⟨hg, hp⟩ := h.2.2 x hx1;have h1 := pre_succ hd hg.1;simp [halfB] at hx2;exact ⟨hg, by omega⟩
 ·obtain ⟨hx1, hx2⟩ := List.mem_filter.1 hx;obtain ⟨hg, hp⟩ := h.2.2 x hx1;have h1 := pre_succ hd hg.1;simp [halfB] at hx2;exact ⟨hg, by omega⟩
def bare : Tr -> Tr
 | .leaf _ es => .leaf (0, 0) es
 | .node l r => .node (bare l) (bare r)
theorem bare_high : ∀ t : Tr, (bare t).high = t.high
 | .leaf _ _ => rfl
 | .node l r => by simp only [bare, Tr.high, bare_high l, bare_high r]
theorem bare_at : ∀ (t : Tr) (g k d p : Nat), (bare t).at_ g k d p = ((t.at_ g k d p).1, (t.at_ g k d p).2.1, (0, 0), (t.at_ g k d p).2.2.2)
 | .leaf _ _, _, _, _, _ => rfl
 | .node l r, g, k, d, p => by
  simp only [bare, Tr.at_];split
  ·exact bare_at l _ _ _ _
  ·exact bare_at r _ _ _ _
theorem bare_put (f f' : Rf -> List Bt -> Tr) (hf : ∀ r es, bare (f r es) = f' (0, 0) es) : ∀ (t : Tr) (g k : Nat), bare (t.put g k f) = (bare t).put g k f'
 | .leaf r es, g, k => hf r es
 | .node l r, g, k => by
  simp only [bare, Tr.put];split
  ·simp only [bare]; rw [bare_put f f' hf l]
  ·simp only [bare]; rw [bare_put f f' hf r]
structure PutRes where
 t : Tr
 g : Nat
 sp : Int
 lost : Bool
def freshE (es : List Bt) (h : Nat) (oldest : Int) : List Bt := if roomB es h 3 = true then es else es.filter (freshB oldest)
def leafE (es : List Bt) : Rf -> List Bt -> Tr := fun _ _ => .leaf (0, 0) es
def nodeE (d : Nat) (es : List Bt) : Rf -> List Bt -> Tr := fun _ _ => .node (.leaf (0, 0) (es.filter fun x => !halfB d x)) (.leaf (0, 0) (es.filter (halfB d)))
def putS : Nat -> Tr -> Nat -> Int -> Bt -> Int -> PutRes
 | 0, t, g, sp, _, _ => ⟨t, g, sp, false⟩
 | n + 1, t, g, sp, y, oldest =>
  let b := t.at_ g (preM y.hash g) 0 0
  let es := freshE b.2.2.2 y.hash oldest
  if roomB es y.hash 3 = true then ⟨t.put g (preM y.hash g) (leafE (putB es y)), g, sp, false⟩
  else if b.1 < 3 then
   if b.1 = g then putS n (t.put (g + 1) (2 * preM y.hash g) (nodeE b.1 es)) (g + 1) (sp + 1) y oldest
   else putS n (t.put g (preM y.hash g) (nodeE b.1 es)) g (sp + 1) y oldest
  else ⟨t.put g (preM y.hash g) (leafE (putB (es.eraseIdx (bestI es es.length).toNat) y)), g, sp, true⟩
end
section
open Go.RowKit Go.Sg Go.Sg.Bits Go.Sg.Clk CP SF
variable {B : Blk} {X : Nat -> Prop} {w w' : World} {v : Value} {N bd bx d g p : Nat} {a : Bool} {sp : Int}
theorem frX_mono {Y : Nat -> Prop} (F : FrX B X w w') (h : ∀ b, X b -> Y b) : FrX B Y w w' := Fr.mono F fun b _ hs => hs.imp id (h b)
theorem frX_own {b e size n : Nat} {xs : List Value} (h : w.ownsRow b e size v n xs) (he : e ∉ mutT) (F : FrX B X w w') (hX : ∀ g, v.ownBlock = some g -> ¬ X g) : w'.ownsRow b e size v n xs := by
 obtain ⟨hl, h0 | ⟨g, cap, cur, hv, hb, hg, r⟩⟩ := h
 ·exact ⟨hl, .inl h0⟩
 ·exact ⟨hl, .inr ⟨g, cap, cur, hv, hb, frX_heap F hg he (hX g (by rw [hv]; rfl)), r⟩⟩
variable {y : Cs} {P : Prot} {x : DirD} {slots tops : List Rf} {L : List Bp}
theorem IdxM.splits (h : IdxM w B bx bd y P a N x tops slots L sp) (z : Int) : IdxM (w.setCell ⟨bx, 4, none⟩ (.int .i64 z)) B bx bd y P a N x tops slots L z := by
 have F : Fr (fun k => k = bx) w (w.setCell ⟨bx, 4, none⟩ (.int .i64 z)) := (Fr.refl (fun k => k = bx) w).setCell (a := ⟨bx, _, none⟩) (fun _ => rfl) _;have h0 : 0 < bx := nLL h.st.base h.base.2;refine { h with st := h.st.frL F h.idx (by decide) h0, idx := ?_, dir := F.heap h.dir (fun e => h.bd_lt.2.2 e.symm) };show (w.setCell ⟨bx, 4, none⟩ (.int .i64 z)).heap[bx]? = _;rw [hsc _ _ _ _ h.idx]; rfl
theorem half_slots {i : Nat} (hd : d + 1 <= g) (hi : i ∈ slN (2 * p * 2 ^ (g - (d + 1))) (2 ^ (g - (d + 1)))) : i ∈ slN (p * 2 ^ (g - d)) (2 ^ (g - d)) /\ i ∉ slN ((2 * p + 1) * 2 ^ (g - (d + 1))) (2 ^ (g - (d + 1))) := by
 have e : 2 ^ (g - d) = 2 * 2 ^ (g - (d + 1)) := by
  rw [show g - d = g - (d + 1) + 1 by omega, Nat.pow_succ]; omega
 rw [e];generalize 2 ^ (g - (d + 1)) = q at *
 have e2 : p * (2 * q) = 2 * p * q := by rw [<- Nat.mul_assoc, Nat.mul_comm p 2]
 rw [e2, show (2 * p + 1) * q = 2 * p * q + q by rw [Nat.add_mul, Nat.one_mul]];generalize 2 * p * q = z at *
 simp only [mem_slN] at hi ⊢;omega
def SplitU (B : Blk) (bx bd : Nat) (y : Cs) (P : Prot) (a : Bool) (N : Nat) (g : Nat) (slots : List Rf) (S0 S1 : List Nat) (L : List Bp) (j : Nat) (l0 l1 : List Int) (sp : Int) (w : World) (e : Ending) (w' : World) : Prop :=
 ∃ err, e = .returned (.int .i64 err) /\ FrX B (fun b => b = bd \/ b = bx) w w' /\ ((err = 0 /\ ∃ (m0 m1 : Nat) (y' : Cs) (x' : DirD) (tops' : List Rf), IdxM w' B bx bd y' P a N x' tops' (setM (setM slots S1 ((m1 : Int), (y.gen : Int))) S0 ((m0 : Int), (y.gen : Int))) ((L ++ [(((m1 : Int), (y.gen : Int)), l1)]).set j (((m0 : Int), (y.gen : Int)), l0)) sp /\ x'.depth = g /\ (Like y y' /\ y'.gen = y.gen /\ y'.dead = y.dead)) \/ (err = 4 /\ a = true /\ DownC w' B y P N))
theorem xsplit_ok (h : IdxM w B bx bd y P a N x tops slots L sp) {r : Rf} {j : Nat} {es : List Bt} {ld0 : List Int} {sl' : List Rf} (hj : L[j]? = some (r, ld0)) (hE : OwnE w 0 v es) (hk : BkOk d p es) (hd : d <= x.depth) (hd3 : d < 3) (hp : p < 2 ^ d) (hL : L.length < 10) (hsp : 0 <= sp /\ sp <= 100000)
  (hg : d = x.depth /\ g = x.depth + 1 /\ sl' = dblM slots \/ d ≠ x.depth /\ g = x.depth /\ sl' = slots)
  (hsl : ∀ i ∈ slN (p * 2 ^ (g - d)) (2 ^ (g - d)), sl'[i]? = some r) (hN : N + 141 <= 90000) :
  Calls Tryz.prog 133 #[xptr bx, slotV r d p v] w (SplitU B bx bd y P a (N + 141) g sl' (slN (2 * p * 2 ^ (g - (d + 1))) (2 ^ (g - (d + 1)))) (slN ((2 * p + 1) * 2 ^ (g - (d + 1))) (2 ^ (g - (d + 1)))) L j (packM (d + 1) (2 * p) (es.filter fun x => !halfB d x)) (packM (d + 1) (2 * p + 1) (es.filter (halfB d))) (sp + 1) w) := by
 obtain ⟨va, vc, rfl, -, -, -, -⟩ := oSl hE;obtain ⟨n, hn⟩ : ∃ n, es.length = n := ⟨_, rfl⟩
 have hsm := h.small;have hp20 : p < 1048576 := nLL hp (nT (Nat.pow_le_pow_right (by decide) (by omega : d <= 20)) (by decide));have HSW := hid (show wrap64 (sp + 1) = sp + 1 by simp only [wrap64]; omega);have hblt := h.bd_lt;obtain ⟨w1, hw1⟩ : ∃ w1, w.alloc (.cells #[.int .i64 r.1, .int .i64 r.2, .int .i64 d, .int .i64 p, .slice va n vc] 131) = w1 := ⟨_, rfl⟩
 have b3 : w1.heap[w.heap.size]? = some (.cells #[.int .i64 r.1, .int .i64 r.2, .int .i64 d, .int .i64 p, .slice va n vc] 131) := by rw [<- hw1]; exact han _ _
 have F1 : Fq w w1 := by rw [<- hw1]; exact (Fr.refl _ _).alloc _
 have HB := hid (fun (V : World) (F : FrX B (fun b => b = bd \/ b = bx) w1 V) => cells5 (frX_heap F b3 (by decide) (fun e => by omega)));have HB1 := hid (fun (V : World) (F : Fq w1 V) => aI (cells5 (F.heap b3 (fun h => h))) (cells5 (F.heap (F1.heap h.idx (fun h => h)) (fun h => h))));have HDp := hid (fun V (F : Fq w1 V) => depth_ok (F.heap (F1.heap h.dir (fun h => h)) (fun h => h) : DirAt V bd B.s x));have hE1 := oN hE F1;have hEX : ∀ g', (Value.slice va es.length vc).ownBlock = some g' -> ¬ (g' = bd \/ g' = bx) := fun g' hg' e => by
  obtain ⟨_, ⟨h0, _⟩ | ⟨g2, cap, cur, hv, _, hg2, _⟩⟩ := hE
  ·rw [h0] at hg'; cases hg'
  ·rw [hv] at hg';have e2 : g2 = g' := Option.some.inj hg';subst e2;rcases e with e | e
   ·have := h.dir; unfold DirAt at this; rw [<- e, hg2] at this; cases this
   ·have := h.idx; unfold IdxAt at this; rw [<- e, hg2] at this; cases this
 have HE := hi2 (fun V (F : FrX B (fun b => b = bd \/ b = bx) w1 V) => (show OwnE V 0 (.slice va es.length vc) es from frX_own hE1 (by decide) F hEX)) (aI hk hn);obtain ⟨gx, hgx⟩ : ∃ gx, x.depth = gx := ⟨_, rfl⟩
 have HD := hi2 hgx (aI h (aI F1 (aI hj (aI hsl hL))));rw [hgx] at HDp hd hg;have HHg := hid hg;have FG : Fq w1 w1.drew := (Fr.refl _ _).drew;have HW := hid hw1;obtain ⟨⟨o0, o1, o2, o3, o4, oz, ol⟩, ⟨i0, i1, i2, i3, i4, iz, il⟩⟩ := HB1.out _ (Fr.refl _ _);rw [hn];clear h hj hE hk hsl hw1 b3 F1 hE1 hEX hn hgx hL hg hsm;go_enter Tryz.func133, Tryz.ntmps133;go_upto_region 1 with fail
 rw [HW.out];refine wp_region_noPanic ?_;refine region_plan (fun V => Fq w1 V) (.rd 0 (.rd 1 (.rd 2 (.rd 3 (.rd 4 (.rd 5 (.rd 6 (.op 7 (.rd 8 .done))))))))) (by kernel_rfl) (by kernel_rfl) (by kernel_rfl) (fun _ _ _ _ _ h => h) FG ?_;iterate 7
  try simp only [Act.put, sI, sZ, sS]
  refine plan_rd _ ?_ (by simp only [gA, gZ, gS]; rfl) (by rfl) ?_ ?_;rotate_left
  ·intro V hV;obtain ⟨⟨o0, o1, o2, o3, o4, oz, ol⟩, ⟨i0, i1, i2, i3, i4, iz, il⟩⟩ := HB1.out V hV;go_simp;try with_reducible rfl
 try simp only [Act.put, sI, sZ, sS]
 refine plan_op _ (by simp only [gA, gZ, gS]; rfl) (by rfl) (fun K hK => ?_);go_simp;refine (HDp.out _ FG).mono ?_;rintro _ _ ⟨rfl, rfl⟩;try go_simp
 refine hK _ _ FG ?_;clear hK K;try simp only [Act.put, sI, sZ, sS]
 refine plan_rd _ ?_ (by simp only [gA, gZ, gS]; rfl) (by rfl) ?_ ?_;rotate_left
 ·intro V hV;go_simp;try with_reducible rfl
 try simp only [Act.put, sI, sZ, sS]
 refine plan_done ?_;refine NoPanic.normal ?_;clear o0 o1 o2 o3 o4 oz ol i0 i1 i2 i3 i4 iz il;by_cases hdg : d = gx
 ·subst hdg;have hbq : ((d : Int) == (d : Int)) = true := by simp
  obtain ⟨-, ⟨i0, i1, i2, i3, i4, iz, il⟩⟩ := HB1.out _ FG;have HDb := hid (show Calls Tryz.prog 49 #[dptr bd] w1.drew _ from (HD.out.2.1.fr0 (HD.out.2.2.1.trans FG (fun _ _ h => h))).double (by rw [HD.out.1]; omega) (by omega));go_wp2_with fail
  refine HDb.out.mono ?_;rintro e V ⟨err, rfl, F2, hr⟩;have H2 := hi2 F2 hr;clear F2 hr i0 i1 i2 i3 i4 iz il;rcases H2.out.2 with ⟨rfl, y2, x2, t2, hI2, hx2, hL2⟩ | ⟨rfl, ha, hDn⟩
  ·have HV := hid (show FrX B (fun b => b = bd \/ b = bx) w1 V /\ IdxM V B bx bd y2 P a (N + 100) x2 t2 sl' L sp /\ x2.depth = g /\ Like y y2 /\ y2.gen = y.gen /\ y2.dead = y.dead from by
    have hs : g = d + 1 /\ sl' = dblM slots := by
     rcases HHg.out with h | h
     ·exact h.2
     ·exact absurd rfl h.1
    refine ⟨FrX.trans (FrX.none FG) (frX_mono H2.out.1 (fun b hb => .inl hb)), by rw [hs.2]; exact hI2, ?_, hL2⟩;rw [hx2, hs.1, HD.out.1])
   clear hI2 hx2 hL2 HDb hbq FG;obtain ⟨c0, c1, c2, c3, c4, cz, cl⟩ := cells5 HV.out.2.1.idx;have hspw := HSW.out;go_upto_region 6 with fail
   clear hspw;obtain ⟨V5, hV5⟩ : ∃ V5, V.setCell ⟨bx, 4, none⟩ (.int .i64 (sp + 1)) = V5 := ⟨_, rfl⟩
   have hI5 := HV.out.2.1.splits (sp + 1);have F5 : FrX B (fun b => b = bd \/ b = bx) w1 V5 := by rw [<- hV5]; exact FrX.trans HV.out.1 (Fr.setCell (FrX.refl _ _ _) (fun _ => .inr (.inr rfl)) _)
   rw [hV5] at hI5;rw [hV5];obtain ⟨o0, o1, o2, o3, o4, oz, ol⟩ := HB.out V5 F5;have HSp := hid (bsplit_ok (HE.out.1 V5 F5) (by have := HE.out.2.1.1; omega) (fun z hz => (HE.out.2.1.2.2 z hz).1.1) d p (by omega) hp20);have H5 := hi2 F5 hI5;rw [HE.out.2.2] at HSp;clear c0 c1 c2 c3 c4 cz cl hV5 hI5 F5;go_wp2_with fail
   refine HSp.out.mono ?_;rintro e V6 ⟨a0, k0, a1, k1, rfl, ho0, ho1, F6⟩;obtain ⟨e0, he0⟩ : ∃ e0, es.filter (fun x => !halfB d x) = e0 := ⟨_, rfl⟩
   obtain ⟨e1, he1⟩ : ∃ e1, es.filter (halfB d) = e1 := ⟨_, rfl⟩
   have hbk := bk_halves HE.out.2.1 (by omega : d < 20);rw [he0, he1] at hbk;rw [he0] at ho0;rw [he1] at ho1;rw [he0, he1];obtain ⟨dd, hdd⟩ : ∃ dd, d + 1 = dd := ⟨_, rfl⟩
   obtain ⟨p1, hp1⟩ : ∃ p1, 2 * p + 1 = p1 := ⟨_, rfl⟩
   obtain ⟨p0, hp0⟩ : ∃ p0, 2 * p = p0 := ⟨_, rfl⟩
   have hpp : p0 < 2 ^ dd /\ p1 < 2 ^ dd := by rw [<- hdd, Nat.pow_succ]; omega
   rw [hp1, hp0, hdd] at hbk;rw [hp1, hp0, hdd];obtain ⟨n0, hn0⟩ : ∃ n0, e0.length = n0 := ⟨_, rfl⟩
   obtain ⟨n1, hn1⟩ : ∃ n1, e1.length = n1 := ⟨_, rfl⟩
   have HLt := hi2 hdd (aI hp0 (aI hp1 (aI he0 he1)));have HPP := hid hpp;have HBk := hid hbk;have hn13 : n1 <= 3 := by rw [<- hn1]; exact hbk.2.1
   have hdd3 : dd <= 3 := by omega
   have hpq : p1 < 1048576 := nLL hpp.2 (nT (Nat.pow_le_pow_right (by decide) (by omega : dd <= 20)) (by decide));rw [hn0, hn1];have F56 := H5.out.2.fr0 F6;have HO := hi2 ho0 (aI ho1 (aI hn0 (aI hn1 F6.size)));have FX6 := FrX.trans H5.out.1 (FrX.none F6);clear hdd hp0 hp1 he0 he1 hn0 hn1 ho0 ho1 hbk hpp;go_upto_region 7 with fail
   obtain ⟨V7, hV7⟩ : ∃ V7, V6.alloc (.cells #[.int .i64 dd, .int .i64 p0, .slice a0 n0 k0, .int .i64 dd, .int .i64 p1, .slice a1 n1 k1] 301) = V7 := ⟨_, rfl⟩
   rw [hV7];obtain ⟨b6, hb6⟩ : ∃ b6, V6.heap.size = b6 := ⟨_, rfl⟩
   rw [hb6];have g6 : V7.heap[b6]? = some (.cells #[.int .i64 dd, .int .i64 p0, .slice a0 n0 k0, .int .i64 dd, .int .i64 p1, .slice a1 n1 k1] 301) := by rw [<- hV7, <- hb6]; exact han V6 _
   have F7 : Fq V6 V7 := by rw [<- hV7]; exact (Fr.refl _ _).alloc _
   have hI7 := F56.fr0 F7;have hb6d : b6 ≠ bd /\ b6 ≠ bx := by
    have h1 := H5.out.2.bd_lt;have h2 := F6.size;omega
   have HB7 := hid (fun V (F : Fq V7 V) => aI (cells6 (F.heap g6 (fun h => h))) (cells5 (F.heap hI7.idx (fun h => h))));have HPk := hid (fun V (F : Fq V7 V) => pack_ok (oN (oN (own_base HO.out.2.1) F7) F) (by rw [HO.out.2.2.2.1]; omega) (fun z hz => (HBk.out.2.2.2 z hz).1) dd p1 3 (by omega) hpq HBk.out.2.1 (by decide) (fun W FW => right_bk (oN (oN (oN (own_base HO.out.2.1) F7) F) FW) HBk.out.2 (by omega) HPP.out.2));rw [HO.out.2.2.2.1] at HPk;have H7 := hi2 hI7 (aI (FrX.trans FX6 (FrX.none F7)) (aI g6 F7));obtain ⟨⟨q0, q1, q2, q3, q4, q5, qz, ql⟩, ⟨i0, i1, i2, i3, i4, iz, il⟩⟩ := HB7.out _ (Fr.refl _ _);have FG7 : Fq V7 V7.drew := (Fr.refl _ _).drew;clear hV7 g6 F7 hI7 FX6 F56 F6 hb6 o0 o1 o2 o3 o4 oz ol;refine wp_region_noPanic ?_;refine region_plan (fun V => Fq V7 V) (.rd 0 (.rd 1 (.rd 2 (.rd 3 (.rd 4 (.rd 5 (.op 6 (.rd 7 (.rd 8 (.rd 9 (.rd 10 (.rd 11 .done)))))))))))) (by kernel_rfl) (by kernel_rfl) (by kernel_rfl) (fun _ _ _ _ _ h => h) FG7 ?_;iterate 6
    try simp only [Act.put, sI, sZ, sS]
    refine plan_rd _ ?_ (by simp only [gA, gZ, gS]; rfl) (by rfl) ?_ ?_;rotate_left
    ·intro V hV;obtain ⟨⟨q0, q1, q2, q3, q4, q5, qz, ql⟩, ⟨i0, i1, i2, i3, i4, iz, il⟩⟩ := HB7.out V hV;go_simp;try with_reducible rfl
   try simp only [Act.put, sI, sZ, sS]
   refine plan_op _ (by simp only [gA, gZ, gS]; rfl) (by rfl) (fun K hK => ?_);go_simp;refine (HPk.out _ FG7).mono ?_;rintro _ V8 ⟨la, lc, rfl, hb8, F8⟩;have FG8 := FG7.trans F8 (fun _ _ h => h);have H8 := hi2 hb8 FG8;try go_simp
   refine hK _ _ FG8 ?_;clear hK K hb8 F8 FG8;iterate 5
    try simp only [Act.put, sI, sZ, sS]
    refine plan_rd _ ?_ (by simp only [gA, gZ, gS]; rfl) (by rfl) ?_ ?_;rotate_left
    ·intro V hV;go_simp;try with_reducible rfl
   try simp only [Act.put, sI, sZ, sS]
   refine plan_done ?_;refine NoPanic.normal ?_;clear FG7 q0 q1 q2 q3 q4 q5 qz ql i0 i1 i2 i3 i4 iz il;rw [HO.out.2.2.2.1] at H8 ⊢;obtain ⟨⟨q0, q1, q2, q3, q4, q5, qz, ql⟩, ⟨i0, i1, i2, i3, i4, iz, il⟩⟩ := HB7.out _ H8.out.2;have hI8 := H7.out.1.fr0 H8.out.2;have HNw := hid (new_u hI8.st (H8.out.1.inp B) (packM_byte dd p1 e1) (by rw [hI8.room]; omega) hI8.free (by omega));have HI8 := hid hI8;clear hI8;go_wp2_with fail
   refine HNw.out.mono ?_;rintro e V9 ⟨pp, ss, err, rfl, F9, hr⟩;have g69 := FrB.heap F9 (H8.out.2.heap H7.out.2.2.1 (fun h => h)) (by decide);have FX9 := FrX.trans (FrX.trans H7.out.2.1 (FrX.none H8.out.2)) (FrX.of F9);have H9 := hi2 g69 (aI FX9 F9);clear q0 q1 q2 q3 q4 q5 qz ql i0 i1 i2 i3 i4 iz il g69 FX9 F9;rcases hr with ⟨rfl, m1, rfl, rfl, ht, hS⟩ | ⟨rfl, ha, hDn⟩
   ·have hI9 := HI8.out.after_new ht H9.out.2.2 hS HD.out.2.2.2.2.2;go_upto_region 11 with fail
    obtain ⟨V10, hV10⟩ : ∃ V10, V9.alloc (.cells #[.int .i64 m1, .int .i64 y2.gen] 35) = V10 := ⟨_, rfl⟩
    rw [hV10];have F10 : Fq V9 V10 := (by rw [<- hV10]; exact (Fr.refl _ _).alloc _);have g9 : V10.heap[V9.heap.size]? = some (.cells #[.int .i64 m1, .int .i64 y2.gen] 35) := (by rw [<- hV10]; exact han V9 _);have hI10 := hI9.fr0 F10;have hr1 := (hI10.bk _ (List.mem_append_right L (List.mem_singleton.2 rfl))).1;have HPo := hid (xpoint_ok hI10 (r := ((m1 : Int), (y2.gen : Int))) a1 n1 k1 (by rw [HV.out.2.2.1]; have := HHg.out; have := HLt.out.1; omega) HPP.out.2 hr1 (by omega));obtain ⟨q0, q1, q2, q3, q4, q5, qz, ql⟩ := cells6 (F10.heap H9.out.1 (fun h => h));obtain ⟨y0, y1, yz, yl⟩ := cells2 g9;have H10 := hi2 F10 (F10.heap H9.out.1 (fun h => h));clear hI9 hI10 hr1 hV10 g9 F10 ht hS;go_wp2_with fail
    refine HPo.out.mono ?_;rintro e V11 ⟨err, rfl, F11, hr⟩;have FX11 := FrX.trans (FrX.trans H9.out.2.1 (FrX.none H10.out.1)) (frX_mono F11 (fun b hb => .inl hb));have g611 := frX_heap F11 H10.out.2 (by decide) hb6d.1;have H11 := hi2 FX11 (aI g611 F11);clear q0 q1 q2 q3 q4 q5 qz ql y0 y1 yz yl FX11 g611 F11;rcases hr with ⟨rfl, y11, x11, t11, hI11, hx11, hL11⟩ | ⟨rfl, ha, hDn⟩
    ·obtain ⟨q0, q1, q2, q3, q4, q5, qz, ql⟩ := cells6 H11.out.2.1;obtain ⟨o0, o1, o2, o3, o4, oz, ol⟩ := HB.out V11 H11.out.1;have hx11g : x11.depth = g := hx11.trans HV.out.2.2.1;have hoX : ∀ g', (Value.slice a0 e0.length k0).ownBlock = some g' -> ¬ g' = bd := fun g' hg' e => by
      have h1 := (own_blkT HO.out.1 hg').1;have h2 := H5.out.2.bd_lt;omega
     have ho11 : OwnE V11 0 (.slice a0 e0.length k0) e0 := frX_own (oN (own_frB (oN (oN (own_base HO.out.1) (H7.out.2.2.2.trans H8.out.2 (fun _ _ h => h))) (Fr.refl _ _)) (by decide) H9.out.2.2) H10.out.1) (by decide) H11.out.2.2 hoX;have hdg1 : dd <= g := (by have := HHg.out; have := HLt.out.1; omega);have HKe := hid (xkeep_ok hI11 (j := j) (r := r) (ld0 := ld0) (d := dd) (p := p0) (by rw [List.getElem?_append_left (gI.1 HD.out.2.2.2.1).1]; exact HD.out.2.2.2.1) ho11 HBk.out.1 (by rw [hx11g]; exact hdg1) HPP.out.1 (by
      rw [hx11g, HV.out.2.2.1];intro i hi;obtain ⟨k1, k2⟩ := half_slots (d := d) (p := p) (g := g) (by have := HLt.out.1; omega) (by rw [HLt.out.2.1, HLt.out.1]; exact hi);rw [HLt.out.2.2.1, HLt.out.1] at k2;rw [setM_get, if_neg k2];exact HD.out.2.2.2.2.1 i k1) (by omega))
     rw [hx11g, HO.out.2.2.1] at HKe;have HI11 := hi2 hx11g hL11;clear hI11 hx11 hx11g hL11 hoX ho11;go_wp2_with fail
     refine HKe.out.mono ?_;rintro e V12 ⟨err, rfl, F12, hr⟩;have H12 := hi2 F12 hr;clear F12 hr q0 q1 q2 q3 q4 q5 qz ql o0 o1 o2 o3 o4 oz ol;go_wp2_with fail
     go_ret;refine ⟨err, rfl, FrX.trans (FrX.none HD.out.2.2.1) (FrX.trans H11.out.1 (frX_mono H12.out.1 (fun b hb => .inl hb))), ?_⟩;rcases H12.out.2 with ⟨rfl, m0, y12, x12, t12, hI12, hx12, hL12⟩ | ⟨rfl, ha, hDn⟩
     ·refine .inl ⟨rfl, m0, m1, y12, x12, t12, ?_, hx12, (HV.out.2.2.2.1.trans ((show Like y2 (y2.new m1 (packM dd p1 e1)) from ⟨rfl, rfl, rfl, rfl, rfl, rfl, rfl⟩).trans HI11.out.2.1)).trans hL12.1, ?_, ?_⟩
      ·obtain ⟨l1, l2, l3, l4, l5⟩ := HLt.out;have hg11 : y11.gen = y.gen := HI11.out.2.2.1.trans HV.out.2.2.2.2.1;rw [hg11, HV.out.2.2.1, HV.out.2.2.2.2.1] at hI12;rw [l1, l3, l2, l4, l5];exact hI12.mono (by omega) hN
      ·exact hL12.2.1.trans (HI11.out.2.2.1.trans HV.out.2.2.2.2.1)
      ·exact hL12.2.2.trans (HI11.out.2.2.2.trans HV.out.2.2.2.2.2)
     ·exact .inr ⟨rfl, ha, down_like (hDn.mono (by omega)) (HV.out.2.2.2.1.trans ((show Like y2 (y2.new m1 (packM dd p1 e1)) from ⟨rfl, rfl, rfl, rfl, rfl, rfl, rfl⟩).trans HI11.out.2.1))⟩
    ·have HX := hi2 ha hDn;clear ha hDn;go_wp2_with fail
     go_ret;exact ⟨4, rfl, FrX.trans (FrX.none HD.out.2.2.1) (H11.out.1), .inr ⟨rfl, HX.out.1, down_like (HX.out.2.mono (by omega)) (HV.out.2.2.2.1.trans (show Like y2 (y2.new m1 (packM dd p1 e1)) from ⟨rfl, rfl, rfl, rfl, rfl, rfl, rfl⟩))⟩⟩
   ·have HX := hi2 ha hDn;clear ha hDn;go_wp2_with fail
    go_ret;exact ⟨4, rfl, FrX.trans (FrX.none HD.out.2.2.1) (FrX.trans H9.out.2.1 (FrX.none ((Fr.refl _ _).alloc _))), .inr ⟨rfl, HX.out.1, down_like ((HX.out.2.mono (by omega)).fr0 ((Fr.refl _ _).alloc _)) HV.out.2.2.2.1⟩⟩
  ·have HX := hi2 ha hDn;clear ha hDn;go_wp2_with fail
   go_ret;exact ⟨4, rfl, FrX.trans (FrX.none (HD.out.2.2.1.trans FG (fun _ _ h => h))) (frX_mono H2.out.1 (fun b hb => .inl hb)), .inr ⟨rfl, HX.out.1, HX.out.2.mono (by omega)⟩⟩
 ·have hbq : ((d : Int) == (gx : Int)) = false := by simp; omega
  have HDG := hid hdg;clear hdg;obtain ⟨V, hVd⟩ : ∃ V, w1.drew = V := ⟨_, rfl⟩
  obtain ⟨y2, hy2⟩ : ∃ y2, y = y2 := ⟨_, rfl⟩
  obtain ⟨x2, hx2⟩ : ∃ x2, x = x2 := ⟨_, rfl⟩
  have HV := hid (show FrX B (fun b => b = bd \/ b = bx) w1 V /\ IdxM V B bx bd y2 P a (N + 100) x2 tops sl' L sp /\ x2.depth = g /\ Like y y2 /\ y2.gen = y.gen /\ y2.dead = y.dead from by
   have hs : g = gx /\ sl' = slots := by
    rcases HHg.out with h | h
    ·exact absurd h.1 HDG.out
    ·exact h.2
   rw [<- hVd, <- hy2, <- hx2];exact ⟨FrX.none FG, by rw [hs.2]; exact (HD.out.2.1.fr0 (HD.out.2.2.1.trans FG (fun _ _ h => h))).mono (by omega) (by omega), by rw [hs.1, HD.out.1], Like.refl y, rfl, rfl⟩)
  rw [hVd];clear hVd hy2 hx2 FG;obtain ⟨c0, c1, c2, c3, c4, cz, cl⟩ := cells5 HV.out.2.1.idx;have hspw := HSW.out;go_upto_region 6 with fail
  clear hspw;obtain ⟨V5, hV5⟩ : ∃ V5, V.setCell ⟨bx, 4, none⟩ (.int .i64 (sp + 1)) = V5 := ⟨_, rfl⟩
  have hI5 := HV.out.2.1.splits (sp + 1);have F5 : FrX B (fun b => b = bd \/ b = bx) w1 V5 := by rw [<- hV5]; exact FrX.trans HV.out.1 (Fr.setCell (FrX.refl _ _ _) (fun _ => .inr (.inr rfl)) _)
  rw [hV5] at hI5;rw [hV5];obtain ⟨o0, o1, o2, o3, o4, oz, ol⟩ := HB.out V5 F5;have HSp := hid (bsplit_ok (HE.out.1 V5 F5) (by have := HE.out.2.1.1; omega) (fun z hz => (HE.out.2.1.2.2 z hz).1.1) d p (by omega) hp20);have H5 := hi2 F5 hI5;rw [HE.out.2.2] at HSp;clear c0 c1 c2 c3 c4 cz cl hV5 hI5 F5;go_wp2_with fail
  refine HSp.out.mono ?_;rintro e V6 ⟨a0, k0, a1, k1, rfl, ho0, ho1, F6⟩;obtain ⟨e0, he0⟩ : ∃ e0, es.filter (fun x => !halfB d x) = e0 := ⟨_, rfl⟩
  obtain ⟨e1, he1⟩ : ∃ e1, es.filter (halfB d) = e1 := ⟨_, rfl⟩
  have hbk := bk_halves HE.out.2.1 (by omega : d < 20);rw [he0, he1] at hbk;rw [he0] at ho0;rw [he1] at ho1;rw [he0, he1];obtain ⟨dd, hdd⟩ : ∃ dd, d + 1 = dd := ⟨_, rfl⟩
  obtain ⟨p1, hp1⟩ : ∃ p1, 2 * p + 1 = p1 := ⟨_, rfl⟩
  obtain ⟨p0, hp0⟩ : ∃ p0, 2 * p = p0 := ⟨_, rfl⟩
  have hpp : p0 < 2 ^ dd /\ p1 < 2 ^ dd := by rw [<- hdd, Nat.pow_succ]; omega
  rw [hp1, hp0, hdd] at hbk;rw [hp1, hp0, hdd];obtain ⟨n0, hn0⟩ : ∃ n0, e0.length = n0 := ⟨_, rfl⟩
  obtain ⟨n1, hn1⟩ : ∃ n1, e1.length = n1 := ⟨_, rfl⟩
  have HLt := hi2 hdd (aI hp0 (aI hp1 (aI he0 he1)));have HPP := hid hpp;have HBk := hid hbk;have hn13 : n1 <= 3 := by rw [<- hn1]; exact hbk.2.1
  have hdd3 : dd <= 3 := by omega
  have hpq : p1 < 1048576 := nLL hpp.2 (nT (Nat.pow_le_pow_right (by decide) (by omega : dd <= 20)) (by decide));rw [hn0, hn1];have F56 := H5.out.2.fr0 F6;have HO := hi2 ho0 (aI ho1 (aI hn0 (aI hn1 F6.size)));have FX6 := FrX.trans H5.out.1 (FrX.none F6);clear hdd hp0 hp1 he0 he1 hn0 hn1 ho0 ho1 hbk hpp;go_upto_region 7 with fail
  obtain ⟨V7, hV7⟩ : ∃ V7, V6.alloc (.cells #[.int .i64 dd, .int .i64 p0, .slice a0 n0 k0, .int .i64 dd, .int .i64 p1, .slice a1 n1 k1] 301) = V7 := ⟨_, rfl⟩
  rw [hV7];obtain ⟨b6, hb6⟩ : ∃ b6, V6.heap.size = b6 := ⟨_, rfl⟩
  rw [hb6];have g6 : V7.heap[b6]? = some (.cells #[.int .i64 dd, .int .i64 p0, .slice a0 n0 k0, .int .i64 dd, .int .i64 p1, .slice a1 n1 k1] 301) := by rw [<- hV7, <- hb6]; exact han V6 _
  have F7 : Fq V6 V7 := by rw [<- hV7]; exact (Fr.refl _ _).alloc _
  have hI7 := F56.fr0 F7;have hb6d : b6 ≠ bd /\ b6 ≠ bx := by
   have h1 := H5.out.2.bd_lt;have h2 := F6.size;omega
  have HB7 := hid (fun V (F : Fq V7 V) => aI (cells6 (F.heap g6 (fun h => h))) (cells5 (F.heap hI7.idx (fun h => h))));have HPk := hid (fun V (F : Fq V7 V) => pack_ok (oN (oN (own_base HO.out.2.1) F7) F) (by rw [HO.out.2.2.2.1]; omega) (fun z hz => (HBk.out.2.2.2 z hz).1) dd p1 3 (by omega) hpq HBk.out.2.1 (by decide) (fun W FW => right_bk (oN (oN (oN (own_base HO.out.2.1) F7) F) FW) HBk.out.2 (by omega) HPP.out.2));rw [HO.out.2.2.2.1] at HPk;have H7 := hi2 hI7 (aI (FrX.trans FX6 (FrX.none F7)) (aI g6 F7));obtain ⟨⟨q0, q1, q2, q3, q4, q5, qz, ql⟩, ⟨i0, i1, i2, i3, i4, iz, il⟩⟩ := HB7.out _ (Fr.refl _ _);have FG7 : Fq V7 V7.drew := (Fr.refl _ _).drew;clear hV7 g6 F7 hI7 FX6 F56 F6 hb6 o0 o1 o2 o3 o4 oz ol;refine wp_region_noPanic ?_;refine region_plan (fun V => Fq V7 V) (.rd 0 (.rd 1 (.rd 2 (.rd 3 (.rd 4 (.rd 5 (.op 6 (.rd 7 (.rd 8 (.rd 9 (.rd 10 (.rd 11 .done)))))))))))) (by kernel_rfl) (by kernel_rfl) (by kernel_rfl) (fun _ _ _ _ _ h => h) FG7 ?_;iterate 6
   try simp only [Act.put, sI, sZ, sS]
   refine plan_rd _ ?_ (by simp only [gA, gZ, gS]; rfl) (by rfl) ?_ ?_;rotate_left
   ·intro V hV;obtain ⟨⟨q0, q1, q2, q3, q4, q5, qz, ql⟩, ⟨i0, i1, i2, i3, i4, iz, il⟩⟩ := HB7.out V hV;go_simp;try with_reducible rfl
  try simp only [Act.put, sI, sZ, sS]
  refine plan_op _ (by simp only [gA, gZ, gS]; rfl) (by rfl) (fun K hK => ?_);go_simp;refine (HPk.out _ FG7).mono ?_;rintro _ V8 ⟨la, lc, rfl, hb8, F8⟩;have FG8 := FG7.trans F8 (fun _ _ h => h);have H8 := hi2 hb8 FG8;try go_simp
  refine hK _ _ FG8 ?_;clear hK K hb8 F8 FG8;iterate 5
   try simp only [Act.put, sI, sZ, sS]
   refine plan_rd _ ?_ (by simp only [gA, gZ, gS]; rfl) (by rfl) ?_ ?_;rotate_left
   ·intro V hV;go_simp;try with_reducible rfl
  try simp only [Act.put, sI, sZ, sS]
  refine plan_done ?_;refine NoPanic.normal ?_;clear FG7 q0 q1 q2 q3 q4 q5 qz ql i0 i1 i2 i3 i4 iz il;rw [HO.out.2.2.2.1] at H8 ⊢;obtain ⟨⟨q0, q1, q2, q3, q4, q5, qz, ql⟩, ⟨i0, i1, i2, i3, i4, iz, il⟩⟩ := HB7.out _ H8.out.2;have hI8 := H7.out.1.fr0 H8.out.2;have HNw := hid (new_u hI8.st (H8.out.1.inp B) (packM_byte dd p1 e1) (by rw [hI8.room]; omega) hI8.free (by omega));have HI8 := hid hI8;clear hI8;go_wp2_with fail
  refine HNw.out.mono ?_;rintro e V9 ⟨pp, ss, err, rfl, F9, hr⟩;have g69 := FrB.heap F9 (H8.out.2.heap H7.out.2.2.1 (fun h => h)) (by decide);have FX9 := FrX.trans (FrX.trans H7.out.2.1 (FrX.none H8.out.2)) (FrX.of F9);have H9 := hi2 g69 (aI FX9 F9);clear q0 q1 q2 q3 q4 q5 qz ql i0 i1 i2 i3 i4 iz il g69 FX9 F9;rcases hr with ⟨rfl, m1, rfl, rfl, ht, hS⟩ | ⟨rfl, ha, hDn⟩
  ·have hI9 := HI8.out.after_new ht H9.out.2.2 hS HD.out.2.2.2.2.2;go_upto_region 11 with fail
   obtain ⟨V10, hV10⟩ : ∃ V10, V9.alloc (.cells #[.int .i64 m1, .int .i64 y2.gen] 35) = V10 := ⟨_, rfl⟩
   rw [hV10];have F10 : Fq V9 V10 := by rw [<- hV10]; exact (Fr.refl _ _).alloc _
   have g9 : V10.heap[V9.heap.size]? = some (.cells #[.int .i64 m1, .int .i64 y2.gen] 35) := by rw [<- hV10]; exact han V9 _
   have hI10 := hI9.fr0 F10;have hr1 := (hI10.bk _ (List.mem_append_right L (List.mem_singleton.2 rfl))).1;have HPo := hid (xpoint_ok hI10 (r := ((m1 : Int), (y2.gen : Int))) a1 n1 k1 (by rw [HV.out.2.2.1]; have := HHg.out; have := HLt.out.1; omega) HPP.out.2 hr1 (by omega));obtain ⟨q0, q1, q2, q3, q4, q5, qz, ql⟩ := cells6 (F10.heap H9.out.1 (fun h => h));obtain ⟨y0, y1, yz, yl⟩ := cells2 g9;have H10 := hi2 F10 (F10.heap H9.out.1 (fun h => h));clear hI9 hI10 hr1 hV10 g9 F10 ht hS;go_wp2_with fail
   refine HPo.out.mono ?_;rintro e V11 ⟨err, rfl, F11, hr⟩;have FX11 := FrX.trans (FrX.trans H9.out.2.1 (FrX.none H10.out.1)) (frX_mono F11 (fun b hb => .inl hb));have g611 := frX_heap F11 H10.out.2 (by decide) hb6d.1;have H11 := hi2 FX11 (aI g611 F11);clear q0 q1 q2 q3 q4 q5 qz ql y0 y1 yz yl FX11 g611 F11;rcases hr with ⟨rfl, y11, x11, t11, hI11, hx11, hL11⟩ | ⟨rfl, ha, hDn⟩
   ·obtain ⟨q0, q1, q2, q3, q4, q5, qz, ql⟩ := cells6 H11.out.2.1;obtain ⟨o0, o1, o2, o3, o4, oz, ol⟩ := HB.out V11 H11.out.1;have hx11g : x11.depth = g := hx11.trans HV.out.2.2.1;have hoX : ∀ g', (Value.slice a0 e0.length k0).ownBlock = some g' -> ¬ g' = bd := fun g' hg' e => by
     have h1 := (own_blkT HO.out.1 hg').1;have h2 := H5.out.2.bd_lt;omega
    have ho11 : OwnE V11 0 (.slice a0 e0.length k0) e0 := frX_own (oN (own_frB (oN (oN (own_base HO.out.1) (H7.out.2.2.2.trans H8.out.2 (fun _ _ h => h))) (Fr.refl _ _)) (by decide) H9.out.2.2) H10.out.1) (by decide) H11.out.2.2 hoX;have hdg1 : dd <= g := (by have := HHg.out; have := HLt.out.1; omega);have HKe := hid (xkeep_ok hI11 (j := j) (r := r) (ld0 := ld0) (d := dd) (p := p0) (by rw [List.getElem?_append_left (gI.1 HD.out.2.2.2.1).1]; exact HD.out.2.2.2.1) ho11 HBk.out.1 (by rw [hx11g]; exact hdg1) HPP.out.1 (by
     rw [hx11g, HV.out.2.2.1];intro i hi;obtain ⟨k1, k2⟩ := half_slots (d := d) (p := p) (g := g) (by have := HLt.out.1; omega) (by rw [HLt.out.2.1, HLt.out.1]; exact hi);rw [HLt.out.2.2.1, HLt.out.1] at k2;rw [setM_get, if_neg k2];exact HD.out.2.2.2.2.1 i k1) (by omega))
    rw [hx11g, HO.out.2.2.1] at HKe;have HI11 := hi2 hx11g hL11;clear hI11 hx11 hx11g hL11 hoX ho11;go_wp2_with fail
    refine HKe.out.mono ?_;rintro e V12 ⟨err, rfl, F12, hr⟩;have H12 := hi2 F12 hr;clear F12 hr q0 q1 q2 q3 q4 q5 qz ql o0 o1 o2 o3 o4 oz ol;go_wp2_with fail
    go_ret;refine ⟨err, rfl, FrX.trans (FrX.none HD.out.2.2.1) (FrX.trans H11.out.1 (frX_mono H12.out.1 (fun b hb => .inl hb))), ?_⟩;rcases H12.out.2 with ⟨rfl, m0, y12, x12, t12, hI12, hx12, hL12⟩ | ⟨rfl, ha, hDn⟩
    ·refine .inl ⟨rfl, m0, m1, y12, x12, t12, ?_, hx12, (HV.out.2.2.2.1.trans ((show Like y2 (y2.new m1 (packM dd p1 e1)) from ⟨rfl, rfl, rfl, rfl, rfl, rfl, rfl⟩).trans HI11.out.2.1)).trans hL12.1, ?_, ?_⟩
     ·obtain ⟨l1, l2, l3, l4, l5⟩ := HLt.out;have hg11 : y11.gen = y.gen := HI11.out.2.2.1.trans HV.out.2.2.2.2.1;rw [hg11, HV.out.2.2.1, HV.out.2.2.2.2.1] at hI12;rw [l1, l3, l2, l4, l5];exact hI12.mono (by omega) hN
     ·exact hL12.2.1.trans (HI11.out.2.2.1.trans HV.out.2.2.2.2.1)
     ·exact hL12.2.2.trans (HI11.out.2.2.2.trans HV.out.2.2.2.2.2)
    ·exact .inr ⟨rfl, ha, down_like (hDn.mono (by omega)) (HV.out.2.2.2.1.trans ((show Like y2 (y2.new m1 (packM dd p1 e1)) from ⟨rfl, rfl, rfl, rfl, rfl, rfl, rfl⟩).trans HI11.out.2.1))⟩
   ·have HX := hi2 ha hDn;clear ha hDn;go_wp2_with fail
    go_ret;exact ⟨4, rfl, FrX.trans (FrX.none HD.out.2.2.1) (H11.out.1), .inr ⟨rfl, HX.out.1, down_like (HX.out.2.mono (by omega)) (HV.out.2.2.2.1.trans (show Like y2 (y2.new m1 (packM dd p1 e1)) from ⟨rfl, rfl, rfl, rfl, rfl, rfl, rfl⟩))⟩⟩
  ·have HX := hi2 ha hDn;clear ha hDn;go_wp2_with fail
   go_ret;exact ⟨4, rfl, FrX.trans (FrX.none HD.out.2.2.1) (FrX.trans H9.out.2.1 (FrX.none ((Fr.refl _ _).alloc _))), .inr ⟨rfl, HX.out.1, down_like ((HX.out.2.mono (by omega)).fr0 ((Fr.refl _ _).alloc _)) HV.out.2.2.2.1⟩⟩
end
section
open Go.RowKit Go.Sg CP SF
structure BktAt (t : Tr) (g : Nat) (L : List Bp) (k d p : Nat) (r : Rf) (es : List Bt) : Prop where
 at_ : t.at_ g k 0 0 = (d, p, r, es)
 kl : k < 2 ^ g
 dg : d <= g
 pl : p < 2 ^ d
 ok : BkOk d p es
 slot : (t.slots g)[k]? = some r
 mem : (r, packM d p es) ∈ L
 lo : t.lo g k = p * 2 ^ (g - d)
 wd : t.wd g k = g - d
variable {t : Tr} {N bd bx d g j k p : Nat} {L : List Bp} {V : World} {a : Bool} {sp : Int}
theorem bkt_at (hk : k < 2 ^ g) (hh : t.high <= g) (hok : okT t 0 0) (hP : L.Perm (lds t 0 0)) : ∃ d p r es, BktAt t g L k d p r es := by
 obtain ⟨⟨d, p, r, es⟩, hz⟩ : ∃ z, t.at_ g k 0 0 = z := ⟨_, rfl⟩
 have h1 := Tr.at_depth t g k 0 0;have h2 := Tr.wd_depth t g k 0 0 hh;have h3 := Tr.lo_pre t g k 0 0 hh;have h4 := Tr.at_pre t g k 0 0 hh hk;have h5 := ok_at t g k 0 0 hok;have h6 := Tr.slots_at t g k 0 0 hh hk;obtain ⟨A, C, hA⟩ := lds_at t g k 0 0;have h7 := hA Tr.leaf;rw [put_same] at h7;rw [hz] at h1 h2 h3 h4 h5 h6 h7;simp only at h1 h2 h3 h4 h5 h6 h7;have hwd : t.wd g k = g - d := by omega
 refine ⟨d, p, r, es, hz, hk, by omega, ?_, h5, h6, ?_, ?_, hwd⟩
 ·rw [h4, Nat.zero_mul, Nat.zero_add, Nat.zero_add];refine Nat.div_lt_of_lt_mul ?_;rw [<- Nat.pow_add, show g - d + d = g by omega];exact hk
 ·rw [hP.mem_iff, h7];simp [lds]
 ·rw [<- hwd, <- h3]; simp
variable {B : Blk} {y' : Cs} {P : Prot} {x' : DirD} {tops' : List Rf} {r : Rf} {es : List Bt}
theorem idxT_leaf {r' : Rf} {es' : List Bt} (hb : BktAt t g L k d p r es) (hh : t.high = g) (hok : okT t 0 0) (hP : L.Perm (lds t 0 0)) (hj : L[j]? = some (r, packM d p es)) (hk' : BkOk d p es') (hx : x'.depth = g)
  (hI : IdxM V B bx bd y' P a N x' tops' (setM (t.slots g) (slN (p * 2 ^ (g - d)) (2 ^ (g - d))) r') (L.set j (r', packM d p es')) sp) : IdxT V B bx bd y' P a N x' (t.put g k (fun _ _ => .leaf r' es')) sp := by
 have hs := slots_leaf (t := t) (g := g) (k := k) (by omega) hb.kl r' (fun _ _ => .leaf r' es') (fun _ _ => ⟨es', rfl⟩);rw [hb.lo, hb.wd] at hs;obtain ⟨A, C, hA⟩ := lds_at t g k 0 0;have h7 := hA Tr.leaf;rw [put_same] at h7;have h8 := hA (fun _ _ => .leaf r' es');rw [hb.at_] at h7 h8;simp only [lds, List.singleton_append] at h7 h8;rw [hs] at hI;refine ⟨⟨tops', _, by rw [hx]; exact hI, ?_⟩, by rw [high_leaf _ (fun _ _ => rfl), hh, hx], ok_put _ t g k 0 0 hok ?_⟩
 ·rw [h8];rw [h7] at hP;exact set_perm hP hj
 ·rw [hb.at_]; exact hk'
theorem append_set {α : Type} {L M : List α} {j : Nat} {q : α} (h : j < L.length) : (L ++ M).set j q = L.set j q ++ M := List.set_append_left _ _ h
theorem idxT_node {r0 r1 : Rf} {e0 e1 : List Bt} (hb : BktAt t g L k d p r es) (hd : d < g) (hh : max t.high (d + 1) = g) (hok : okT t 0 0) (hP : L.Perm (lds t 0 0)) (hj : L[j]? = some (r, packM d p es)) (hk0 : BkOk (d + 1) (2 * p) e0) (hk1 : BkOk (d + 1) (2 * p + 1) e1) (hx : x'.depth = g)
  (hI : IdxM V B bx bd y' P a N x' tops' (setM (setM (t.slots g) (slN ((2 * p + 1) * 2 ^ (g - (d + 1))) (2 ^ (g - (d + 1)))) r1) (slN (2 * p * 2 ^ (g - (d + 1))) (2 ^ (g - (d + 1)))) r0) ((L ++ [(r1, packM (d + 1) (2 * p + 1) e1)]).set j (r0, packM (d + 1) (2 * p) e0)) sp) : IdxT V B bx bd y' P a N x' (t.put g k (fun _ _ => .node (.leaf r0 e0) (.leaf r1 e1))) sp := by
 have hs := slots_node (t := t) (g := g) (k := k) (by omega) hb.kl (by rw [hb.wd]; omega) r0 r1 (fun _ _ => .node (.leaf r0 e0) (.leaf r1 e1)) (fun _ _ => ⟨e0, e1, rfl⟩);rw [hb.lo, hb.wd] at hs;have e1' : g - d - 1 = g - (d + 1) := by omega
 have e2 : 2 ^ (g - d) = 2 * 2 ^ (g - (d + 1)) := by rw [show g - d = g - (d + 1) + 1 by omega, Nat.pow_succ]; omega
 have e3 : p * 2 ^ (g - d) = 2 * p * 2 ^ (g - (d + 1)) := by rw [e2, <- Nat.mul_assoc, Nat.mul_comm p 2]
 rw [e1', e3, <- show (2 * p + 1) * 2 ^ (g - (d + 1)) = 2 * p * 2 ^ (g - (d + 1)) + 2 ^ (g - (d + 1)) by rw [Nat.add_mul, Nat.one_mul]] at hs;obtain ⟨A, C, hA⟩ := lds_at t g k 0 0;have h7 := hA Tr.leaf;rw [put_same] at h7;have h8 := hA (fun _ _ => .node (.leaf r0 e0) (.leaf r1 e1));have h9 := high_node (fun _ _ => .node (.leaf r0 e0) (.leaf r1 e1)) (fun _ _ => rfl) t g k 0 0;rw [hb.at_] at h7 h8 h9;simp only [lds, List.singleton_append, List.cons_append, List.nil_append] at h7 h8;simp only [Nat.sub_zero] at h9;have hjl := (gI.1 hj).1;rw [hs] at hI;refine ⟨⟨tops', _, by rw [hx]; exact hI, ?_⟩, by rw [h9, hh, hx], ok_put _ t g k 0 0 hok ?_⟩
 ·rw [h8, append_set hjl];rw [h7] at hP;have hs := set_perm (q' := (r0, packM (d + 1) (2 * p) e0)) hP hj;refine (List.Perm.append_right _ hs).trans ?_;rw [List.append_assoc];refine List.Perm.append_left A ?_;rw [List.cons_append];exact (List.Perm.cons _ List.perm_append_comm)
 ·rw [hb.at_]; exact ⟨hk0, hk1⟩
theorem bkt_dbl (hb : BktAt t g L k d p r es) (hh : t.high <= g) (hok : okT t 0 0) (hP : L.Perm (lds t 0 0)) : BktAt t (g + 1) L (2 * k) d p r es := by
 have hk : 2 * k < 2 ^ (g + 1) := by have := hb.kl; rw [Nat.pow_succ]; omega
 obtain ⟨d', p', r', es', h⟩ := bkt_at hk (by omega : t.high <= g + 1) hok hP;have h1 := h.at_;rw [at_dbl t g k 0 0 hh, hb.at_] at h1;cases h1;exact h
theorem slots_dblM (t : Tr) (g : Nat) (hh : t.high <= g) : dblM (t.slots g) = t.slots (g + 1) := (Tr.slots_dbl t g hh).symm
theorem bkt_own (hb : BktAt t g L k d p r es) (hh : t.high <= g) : ∀ i ∈ slN (p * 2 ^ (g - d)) (2 ^ (g - d)), (t.slots g)[i]? = some r := by
 intro i hi;rw [mem_slN] at hi;obtain ⟨h1, h2, h3⟩ := Tr.lo_le t g k hh hb.kl;simp only [hb.lo, hb.wd] at h1 h2 h3;have h4 := Tr.slots_own t g k i hh hb.kl (by rw [hb.lo]; exact hi.1) (by rw [hb.lo, hb.wd]; exact hi.2);rw [Tr.slots_at t g i 0 0 hh (by omega), h4, hb.at_]
end
end Go.Proofs.YtgdhaaokolfdoaaGreatDoor
