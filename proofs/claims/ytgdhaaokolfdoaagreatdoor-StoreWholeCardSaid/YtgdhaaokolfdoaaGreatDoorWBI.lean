/- A pack of texts: DO, DP, APX, HE. Conditions: those that each text names. -/
import Derived.Test.YtgdhaaokolfdoaaGreatDoorWBH
import Derived.Lib.OwnBridge
import Derived.Test.YtgdhaaokolfdoaaGreatDoorWAS
import Derived.Deep.RegionLaw
import Derived.Test.YtgdhaaokolfdoaaGreatDoorWBE
import Derived.Lib.ConvBytes
set_option linter.unusedVariables false
set_option linter.unusedSimpArgs false
set_option linter.unnecessarySimpa false
/- Chapter 15's directory: Double. Conditions: the store and the directory lie in the world, and go together; pages are left. -/
namespace Go.Proofs.YtgdhaaokolfdoaaGreatDoor
open Go.RowKit Go.Sg Go.Sg.Bits Go.Sg.Clk CP SF
end Go.Proofs.YtgdhaaokolfdoaaGreatDoor

/- Slices of numbers that came in: Clone, Sort, ContainsFunc over a directory's slots. Conditions: the numbers lie in the world. -/
namespace Go.Proofs.YtgdhaaokolfdoaaGreatDoor
open Go.Proofs Go.RowKit Go.Sg CP SF
/-- A slice of numbers, whoever made it. -/
structure SlI (w : World) (a : Option Addr) (n c : Nat) (l : List Int) : Prop where
  len : l.length = n
  at_ : ∀ (i : Nat) (k : Int), l[i]? = some k → ∃ b off, a = some ⟨b, off, none⟩ ∧ b < w.heap.size ∧ w.cell? ⟨b, off + i, none⟩ = some (.int .i64 k)
  nil : a = none → n = 0 ∧ c = 0
theorem SlI.fr {S : Nat → Prop} {w w' : World} {a : Option Addr} {n c : Nat} {l : List Int} (h : SlI w a n c l) (F : Fr S w w') (hS : ∀ b off, a = some ⟨b, off, none⟩ → b < w.heap.size → l ≠ [] → ¬ S b) : SlI w' a n c l :=
  ⟨h.len, fun i k hk => by
    obtain ⟨b, off, e, hb, h1⟩ := h.at_ i k hk
    have hn : l ≠ [] := by rintro rfl; simp at hk
    exact ⟨b, off, e, Nat.lt_of_lt_of_le hb F.size, (F.cell (p := ⟨b, off + i, none⟩) hb (hS b off e hb hn)).trans h1⟩, h.nil⟩
end Go.Proofs.YtgdhaaokolfdoaaGreatDoor

/- Appends within a region that draws its order, for chapters 4 and 15: the law of append as one step; slices of numbers. Conditions: none. -/
namespace Go.Proofs.YtgdhaaokolfdoaaGreatDoor
open Go.RowKit Go.Sg
theorem step_app_src {P : Program} {ops : Array Oper} {o : Oper} {a : Act} {w : World} {K : Act → World → Prop} {Q : Exit → Act → World → Prop} {E : Prop} (hgd : o.guard = none) (s x : Operand) (t : TypeId)
    (ho : o.op = .call { callee := .builtin .append, args := #[s, x], argTypes := #[t, t] }) (base : Nat) (e : TypeId) (i : TypeInfo) (z : Value) (size bytes : Nat) (ht : P.underlying t = some (.slice e)) (hi : P.info? e = some i) (hz : i.zero = some z)
    (hsize : i.size = size) (hby : i.bytes = bytes) (hzs : z.cells.size = size) (hsz : 0 < size) (v : Value) (n : Nat) (xs : List Value) (hs : a.eval s = v) (hown : w.ownsRow base e size v n xs)
    (vx : Value) (m : Nat) (news : List Value) (hx : a.eval x = vx) (hsrc : SrcV w vx m news) (hl : news.length = m * size) (h1 : ∀ u ∈ news, u.oneCell' = true) (h63 : n + m ≤ maxLen) (hbytes : (n + m) * bytes ≤ 140737488355328) (hbase : base ≤ w.heap.size)
    (h : ∀ v' w', w'.ownsRow base e size v' (n + m) (xs ++ news) → w.grownBy w' v.ownBlock → K (a.put o.dst v') w') :
    if Region.wanted o (yielded ops a.tmps) = true then Oper.wp P o a w K Q else E := by
  have hw : Region.wanted o (yielded ops a.tmps) = true := by simp [Region.wanted, hgd]
  rw [if_pos hw]
  obtain ⟨a', c, rfl, ⟨rfl, rfl, rfl, rfl⟩ | ⟨ad, rfl, hc⟩⟩ := hsrc
  · have hrun := run_append_owned_none (P := P) (w := w) base t o.type e i size ht hi v n xs hown
    unfold Oper.wp
    simp [execOp, ho, resolve, invoke, builtin, hs, hx, hrun, Result.andThen]
    exact h v w (by simpa using hown) ⟨rfl, rfl, rfl, Nat.le_refl _, fun _ _ _ => rfl⟩
  · obtain ⟨v', w', hr, h2, h3, h4, h5⟩ := run_append_own_at (P := P) w base t o.type e i z size bytes ht hi hz hsize hby hzs hsz v n xs hown ad m c news hl hc h1 h63 hbytes hbase
    unfold Oper.wp execOp
    simp only [ho, resolve, invoke, builtin, Sem.run_bind, Sem.run_pure, Result.andThen_ok, List.map_toArray, List.map_cons, List.map_nil, hs, hx, hr]
    exact h v' w' h2 h3
theorem wp_app_src {P : Program} {o : Oper} {a : Act} {w : World} {K : Act → World → Prop} {Q : Exit → Act → World → Prop} (hgd : o.guard = none) (s x : Operand) (t : TypeId)
    (ho : o.op = .call { callee := .builtin .append, args := #[s, x], argTypes := #[t, t] }) (base : Nat) (e : TypeId) (i : TypeInfo) (z : Value) (size bytes : Nat) (ht : P.underlying t = some (.slice e)) (hi : P.info? e = some i) (hz : i.zero = some z)
    (hsize : i.size = size) (hby : i.bytes = bytes) (hzs : z.cells.size = size) (hsz : 0 < size) (v : Value) (n : Nat) (xs : List Value) (hs : a.eval s = v) (hown : w.ownsRow base e size v n xs)
    (vx : Value) (m : Nat) (news : List Value) (hx : a.eval x = vx) (hsrc : SrcV w vx m news) (hl : news.length = m * size) (h1 : ∀ u ∈ news, u.oneCell' = true) (h63 : n + m ≤ maxLen) (hbytes : (n + m) * bytes ≤ 140737488355328) (hbase : base ≤ w.heap.size)
    (h : ∀ v' w', w'.ownsRow base e size v' (n + m) (xs ++ news) → w.grownBy w' v.ownBlock → K (a.put o.dst v') w') : Oper.wp P o a w K Q := by
  have hw : Region.wanted o (yielded #[] a.tmps) = true := by simp [Region.wanted, hgd]
  have := step_app_src (ops := #[]) (E := True) hgd s x t ho base e i z size bytes ht hi hz hsize hby hzs hsz v n xs hs hown vx m news hx hsrc hl h1 h63 hbytes hbase (K := K) (Q := Q) h
  rwa [if_pos hw] at this
theorem own_mono {w : World} {b b' e size n : Nat} {v : Value} {xs : List Value} (h : w.ownsRow b e size v n xs) (hb : b' ≤ b) : w.ownsRow b' e size v n xs := by
  obtain ⟨hl, h0 | ⟨g, cap, cur, hv, hg, r⟩⟩ := h
  · exact ⟨hl, .inl h0⟩
  · exact ⟨hl, .inr ⟨g, cap, cur, hv, Nat.le_trans hb hg, r⟩⟩
theorem own_blk {w : World} {b e size n n' cap g : Nat} {xs : List Value} (h : w.ownsRow b e size (.slice (some ⟨g, 0, none⟩) n' cap) n xs) : b ≤ g := by
  obtain ⟨_, ⟨h0, _⟩ | ⟨g', cap', cur', hv, hb, hg', _⟩⟩ := h
  · cases h0
  · cases hv; exact hb
theorem app_fr {w V W : World} {g n cap : Nat} (F : Fr (fun _ => False) w V) (h : V.grownBy W (Value.slice (some ⟨g, 0, none⟩) n cap).ownBlock) (hg : w.heap.size ≤ g) : Fr (fun _ => False) w W :=
  (F.trans (Fr.of_grownBy h) (fun b hb e => by
    have e' : b = g := e
    omega))
end Go.Proofs.YtgdhaaokolfdoaaGreatDoor

/- The document's leaf (chapter 5): Build ends, whatever the leaf. Conditions: the size lies in 96 .. 512, the load is at most the size less 19. -/
namespace Go.Proofs.YtgdhaaokolfdoaaGreatDoor
open Go.RowKit Go.Sg Go.Sg.Bits Go.Sg.Clk CP SF
/-- A row of bytes of one's own, behind a frame. -/
def YS (w W : World) (v : Value) (m : Nat) : Prop := ∃ bs : List Int, ((bs.length = m ∧ ∀ x ∈ bs, 0 ≤ x ∧ x < 256) ∧ W.ownsRow w.heap.size 5 1 v m (bs.map (Value.int .u8))) ∧ Fr (fun _ => False) w W
theorem YS.nil {w W : World} (F : Fr (fun _ => False) w W) : YS w W (.slice none 0 0) 0 := ⟨[], ⟨⟨rfl, by simp⟩, World.ownsRow_nil _ _ _ _⟩, F⟩
theorem ys_grown {w W W' : World} {v : Value} {m : Nat} {bs : List Int} (ho : W.ownsRow w.heap.size 5 1 v m (bs.map (Value.int .u8))) (F : Fr (fun _ => False) w W) (hg : W.grownBy W' v.ownBlock) : Fr (fun _ => False) w W' :=
  F.trans (S' := fun b => w.heap.size ≤ b) ⟨hg.os, hg.tape, hg.output, hg.size, fun b hb hn => hg.block b hb (fun e => hn (ho.lt b e.symm).1)⟩ (fun b hb h => by omega)
theorem ys_app {w W W' : World} {v v' : Value} {m k : Nat} {bs ys : List Int} (hb : bs.length = m ∧ ∀ x ∈ bs, 0 ≤ x ∧ x < 256) (ho : W.ownsRow w.heap.size 5 1 v m (bs.map (Value.int .u8))) (F : Fr (fun _ => False) w W) (hy : ys.length = k ∧ ∀ x ∈ ys, 0 ≤ x ∧ x < 256)
    (hown : W'.ownsRow w.heap.size 5 1 v' (m + k) (bs.map (Value.int .u8) ++ ys.map (Value.int .u8))) (hg : W.grownBy W' v.ownBlock) : YS w W' v' (m + k) :=
  ⟨bs ++ ys, ⟨⟨by simp [hb.1, hy.1], fun x hx => (List.mem_append.1 hx).elim (hb.2 x) (hy.2 x)⟩, by rw [List.map_append]; exact hown⟩, ys_grown ho F hg⟩
theorem u8_oneY (l : List Int) : ∀ u ∈ l.map (Value.int .u8), u.oneCell' = true := by
  intro u hu; obtain ⟨x, _, rfl⟩ := List.mem_map.1 hu; rfl
theorem fr_bytesW (w : World) (s : ByteArray) : Fr (fun _ => False) w (Go.Lib.bytesWorld w 5 s) :=
  ⟨rfl, rfl, rfl, by rw [Go.Lib.bytesWorld_size]; omega, fun b hb _ => Go.Lib.bytesWorld_at_old w 5 s b hb⟩
def strY (s : ByteArray) : List Int := s.data.toList.map fun b => (b.toNat : Int)
theorem strY_ok (s : ByteArray) : (strY s).length = s.size ∧ ∀ x ∈ strY s, 0 ≤ x ∧ x < 256 :=
  ⟨by rw [strY, List.length_map]; exact Array.length_toList, fun x hx => by obtain ⟨b, _, rfl⟩ := List.mem_map.1 hx; have := b.toNat_lt; omega⟩
theorem src_bytesW (W : World) (s : ByteArray) (c : Nat) : SrcV (Go.Lib.bytesWorld W 5 s) (.slice (some ⟨W.heap.size, 0, none⟩) s.size c) s.size ((strY s).map (Value.int .u8)) :=
  ⟨_, c, rfl, .inr ⟨_, rfl, fun j u hj => by
    have hjl : j < s.size := by have := (List.getElem?_eq_some_iff.1 hj).1; rw [List.length_map, (strY_ok s).1] at this; exact this
    rw [addr_add0, Nat.zero_add, Go.Lib.bytesWorld_cell W 5 s j hjl]
    rw [← hj]
    have hjd : j < s.data.toList.length := by rw [Array.length_toList]; exact hjl
    simp [strY, List.getD, List.getElem?_eq_getElem hjd]⟩⟩
def lenV (v : Value) : Nat := match v with | .slice _ m _ => m | _ => 0
/-- What Build does. -/
def BuildY (w : World) (e : Ending) (w' : World) : Prop := ∃ (v : Value) (k : Int) (m : Nat), e = .returned (.tuple #[v, .int .i64 k]) ∧ m ≤ 600 ∧ YS w w' v m
theorem own_ne {W : World} {B b t m : Nat} {v : Value} {xs : List Value} {c : Array Value} {f : Nat × Nat} (h : W.ownsRow B 5 1 v m xs) (hb : W.heap[b]? = some (.cells c t f)) (ht : t ≠ 5) (e : some b = v.ownBlock) : False := by
  obtain ⟨_, ⟨h0, _⟩ | ⟨g, cap, cur, h1, _, hg, _⟩⟩ := h
  · rw [h0] at e; cases e
  · rw [h1] at e
    have e' : b = g := Option.some.inj e
    subst e'
    rw [hg] at hb
    cases hb
    exact ht rfl
theorem leaf_cells {W : World} {b : Nat} {kd pl st : Int} {s : ByteArray} (h : W.heap[b]? = some (.cells #[.int .i64 kd, .int .i64 pl, .int .i64 st, .string s] 200)) : W.cell? ⟨b, 1, none⟩ = some (.int .i64 pl) ∧ W.cell? ⟨b, 2, none⟩ = some (.int .i64 st) ∧ W.cell? ⟨b, 3, none⟩ = some (.string s) :=
  ⟨by simpa using cell_of_heap h 1, by simpa using cell_of_heap h 2, by simpa using cell_of_heap h 3⟩
set_option maxRecDepth 100000 in
set_option maxHeartbeats 4000000 in
theorem build_any (n : Nat) (kd pl st : Int) (s : ByteArray) (hn : 96 ≤ n ∧ n ≤ 512) (hs : s.size ≤ n - 19) (w : World) : Calls Tryz.prog 176 #[.int .i64 n, .agg #[.int .i64 kd, .int .i64 pl, .int .i64 st, .string s]] w (BuildY w) := by
  obtain ⟨j0, hj0, jz0, jz1, jz2⟩ := info_parts Tryz.info5
  have hs1 : (s.size : Int) ≤ (n : Int) - 19 := by omega
  have hcv := fun W => Go.Lib.run_convert_string_bytes (P := Tryz.prog) W 9 22 5 s Tryz.underlying9 Tryz.underlying22 Tryz.underlying5
  have HSn := hid hn
  rcases (show kd < 1 ∨ (1 ≤ kd ∧ 4 < kd) ∨ ((1 ≤ kd ∧ kd ≤ 4) ∧ pl < 0) ∨ ((1 ≤ kd ∧ kd ≤ 4) ∧ 0 ≤ pl ∧ 2147483647 < pl) ∨ ((1 ≤ kd ∧ kd ≤ 4) ∧ (0 ≤ pl ∧ pl ≤ 2147483647) ∧ st < 0) ∨ ((1 ≤ kd ∧ kd ≤ 4) ∧ (0 ≤ pl ∧ pl ≤ 2147483647) ∧ 0 ≤ st) from by omega) with h | ⟨h1, h⟩ | ⟨⟨h1, h2⟩, h⟩ | ⟨⟨h1, h2⟩, h3, h⟩ | ⟨⟨h1, h2⟩, ⟨h3, h4⟩, h⟩ | ⟨⟨h1, h2⟩, ⟨h3, h4⟩, h⟩
  iterate 5
    · go_enter Tryz.func176, Tryz.ntmps176
      go_wp2_with fail
      go_ret2
      exact ⟨_, _, 0, rfl, by omega, YS.nil ((Fr.refl _ _).alloc _)⟩
  go_enter Tryz.func176, Tryz.ntmps176
  go_wp2_with (go_at_call 232; (with_reducible refine (number_any1 _ _).mono ?_))
  rintro e w1 ⟨v1, b1, rfl, ho1, hb1, F1⟩
  have F1' : Fr (fun _ => False) w w1 := ((Fr.refl _ w).alloc _).trans F1 (fun _ _ h => h)
  have hbox1 : w1.heap[w.heap.size]? = some (.cells #[.int .i64 kd, .int .i64 pl, .int .i64 st, .string s] 200) := F1.heap (heap_alloc_new _ _) (fun h => h)
  have H1 := hid (And.intro hb1 (And.intro (own_mono ho1 (b' := w.heap.size) (by simp)) F1'))
  have HX1 := hid hbox1
  obtain ⟨c1, c2, c3⟩ := leaf_cells hbox1
  clear hb1 ho1 F1 F1' hbox1
  have H1 := hid (show YS w w1 v1 1 from ⟨b1, ⟨H1.out.1, H1.out.2.1⟩, H1.out.2.2⟩)
  go_wp2_with (go_at_call 232; (with_reducible refine (number_any2 _ _).mono ?_))
  rintro e w1' ⟨u1, y1, rfl, hu1, hy1, G1⟩
  clear c1 c2 c3
  obtain ⟨bs, ⟨hbs, hos⟩, hFs⟩ := H1.out
  have HU1 := hid (And.intro hy1 (own_src hu1))
  have HB1 := hid (And.intro hbs (And.intro (ownsRow_fr hos G1 (fun _ _ _ h => h)) (hFs.trans G1 (fun _ _ h => h))))
  have HY1 := hid (G1.heap HX1.out (fun h => h))
  clear hu1 hy1 G1 hbs hos hFs
  go_wp2_with (at_builtin; refine wpList_append_src rfl (.tmp 47) (.tmp 52) 22 rfl w.heap.size 5 j0 _ 1 1 Tryz.underlying22 hj0 jz0 jz1 jz2 rfl (by decide) _ _ _ rfl HB1.out.2.1 _ _ _ rfl HU1.out.2 (by simp [HU1.out.1.1]) (u8_oneY _) (by simp [maxLen]) (by omega) HB1.out.2.2.size ?_)
  intro v2 w2 hown hgr hne
  have H2 := hid (ys_app HB1.out.1 HB1.out.2.1 HB1.out.2.2 HU1.out.1 hown hgr)
  have HX2 := hid (show w2.heap[w.heap.size]? = some (.cells #[.int .i64 kd, .int .i64 pl, .int .i64 st, .string s] 200) from (hgr.block _ (lt_of_heap HY1.out) (fun e => own_ne HB1.out.2.1 HY1.out (by decide) e)).trans HY1.out)
  clear hown hgr hne HX1 HY1 HB1 HU1 H1
  obtain ⟨c1, c2, c3⟩ := leaf_cells HX2.out
  go_wp2_with (go_at_call 232; (with_reducible refine (number_any4 _ _).mono ?_))
  rintro e w2' ⟨u2, y2, rfl, hu2, hy2, G2⟩
  clear c1 c2 c3
  obtain ⟨bs, ⟨hbs, hos⟩, hFs⟩ := H2.out
  have HU2 := hid (And.intro hy2 (own_src hu2))
  have HB2 := hid (And.intro hbs (And.intro (ownsRow_fr hos G2 (fun _ _ _ h => h)) (hFs.trans G2 (fun _ _ h => h))))
  have HY2 := hid (G2.heap HX2.out (fun h => h))
  clear hu2 hy2 G2 hbs hos hFs
  go_wp2_with (at_builtin; refine wpList_append_src rfl (.tmp 54) (.tmp 58) 22 rfl w.heap.size 5 j0 _ 1 1 Tryz.underlying22 hj0 jz0 jz1 jz2 rfl (by decide) _ _ _ rfl HB2.out.2.1 _ _ _ rfl HU2.out.2 (by simp [HU2.out.1.1]) (u8_oneY _) (by simp [maxLen]) (by omega) HB2.out.2.2.size ?_)
  intro v3 w3 hown hgr hne
  have H3 := hid (ys_app HB2.out.1 HB2.out.2.1 HB2.out.2.2 HU2.out.1 hown hgr)
  have HX3 := hid (show w3.heap[w.heap.size]? = some (.cells #[.int .i64 kd, .int .i64 pl, .int .i64 st, .string s] 200) from (hgr.block _ (lt_of_heap HY2.out) (fun e => own_ne HB2.out.2.1 HY2.out (by decide) e)).trans HY2.out)
  clear hown hgr hne HX2 HY2 HB2 HU2 H2
  obtain ⟨c1, c2, c3⟩ := leaf_cells HX3.out
  go_wp2_with (go_at_call 232; (with_reducible refine (number_any8 _ _).mono ?_))
  rintro e w3' ⟨u3, y3, rfl, hu3, hy3, G3⟩
  clear c1 c2 c3
  obtain ⟨bs, ⟨hbs, hos⟩, hFs⟩ := H3.out
  have HU3 := hid (And.intro hy3 (own_src hu3))
  have HB3 := hid (And.intro hbs (And.intro (ownsRow_fr hos G3 (fun _ _ _ h => h)) (hFs.trans G3 (fun _ _ h => h))))
  have HY3 := hid (G3.heap HX3.out (fun h => h))
  clear hu3 hy3 G3 hbs hos hFs
  go_wp2_with (at_builtin; refine wpList_append_src rfl (.tmp 60) (.tmp 64) 22 rfl w.heap.size 5 j0 _ 1 1 Tryz.underlying22 hj0 jz0 jz1 jz2 rfl (by decide) _ _ _ rfl HB3.out.2.1 _ _ _ rfl HU3.out.2 (by simp [HU3.out.1.1]) (u8_oneY _) (by simp [maxLen]) (by omega) HB3.out.2.2.size ?_)
  intro v4 w4 hown hgr hne
  have H4 := hid (ys_app HB3.out.1 HB3.out.2.1 HB3.out.2.2 HU3.out.1 hown hgr)
  have HX4 := hid (show w4.heap[w.heap.size]? = some (.cells #[.int .i64 kd, .int .i64 pl, .int .i64 st, .string s] 200) from (hgr.block _ (lt_of_heap HY3.out) (fun e => own_ne HB3.out.2.1 HY3.out (by decide) e)).trans HY3.out)
  clear hown hgr hne HX3 HY3 HB3 HU3 H3
  obtain ⟨c1, c2, c3⟩ := leaf_cells HX4.out
  obtain ⟨bs, ⟨hbs, hos⟩, hFs⟩ := H4.out
  have HB4 := hid (And.intro hbs (And.intro (ownsRow_fr hos (fr_bytesW w4 s) (fun _ _ _ h => h)) (hFs.trans (fr_bytesW w4 s) (fun _ _ h => h))))
  clear hbs hos hFs H4
  have HSz := hid hs
  go_wp2_with (at_builtin; refine wpList_append_src rfl (.tmp 66) (.tmp 69) 22 rfl w.heap.size 5 j0 _ 1 1 Tryz.underlying22 hj0 jz0 jz1 jz2 rfl (by decide) _ _ _ rfl HB4.out.2.1 _ _ _ rfl (src_bytesW _ _ _) (by simp [(strY_ok s).1]) (u8_oneY _) (by have := HSz.out; have := HSn.out; simp [maxLen]; omega) (by have := HSz.out; have := HSn.out; omega) HB4.out.2.2.size ?_)
  intro v5 w5 hown hgr hne
  have H5 := hid (ys_app HB4.out.1 HB4.out.2.1 HB4.out.2.2 (strY_ok s) hown hgr)
  clear hown hgr hne HB4 HX4 c1 c2 c3
  go_wp2_with fail
  go_loopw [6] (fun v wr => ∃ (a : Option Addr) (m c : Nat), v = .slice a m c ∧ m ≤ n - 4 ∧ YS w wr (.slice a m c) m) (fun v _ => n - lenV v)
  case atStart =>
    obtain ⟨bs, ⟨hbs, hos⟩, hFs⟩ := H5.out
    obtain ⟨a, c, rfl, _⟩ := own_slice hos
    exact ⟨a, _, c, rfl, by omega, H5.out⟩
  case round =>
    obtain ⟨a, m, c, rfl, hm, hY⟩ := hrel
    obtain ⟨bs, ⟨hbs, hos⟩, hFs⟩ := hY
    by_cases hlt : m < n - 4
    · have hd : decide ((m : Int) < (n : Int) - 4) = true := decide_eq_true (by omega)
      have HR := hid (And.intro hbs (And.intro hos hFs))
      have hsz := hFs.size
      clear hbs hos hFs
      go_wp2_with (at_builtin; refine wpList_append_own_at _ rfl (.tmp 76) (.tmp 77) 22 rfl w.heap.size 5 j0 _ 1 1 Tryz.underlying22 hj0 jz0 jz1 jz2 rfl (by decide) _ _ _ rfl (HR.out.2.1.alloc _) ⟨wr.heap.size, 0, none⟩ 1 1 [_] rfl rfl (cell_one_new _ _ _) (by intro u hu; rw [List.mem_singleton.1 hu]; rfl) (by simp [maxLen]; omega) (by omega) (by simp; omega) ?_)
      intro v2 W2 hown2 hgrow2 hnil2 hat2
      have H2 := hid (ys_app (ys := [0]) (k := 1) HR.out.1 (HR.out.2.1.alloc _) (HR.out.2.2.alloc _) ⟨rfl, by simp⟩ hown2 hgrow2)
      clear hown2 hgrow2 hnil2 hat2 HR
      obtain ⟨bs2, ⟨hbs2, hos2⟩, hFs2⟩ := H2.out
      obtain ⟨a2, c2, rfl, _⟩ := own_slice hos2
      clear hos2 hbs2 hFs2
      go_wp2_with fail
      go_roundw
      case rel => exact ⟨a2, m + 1, c2, rfl, by omega, H2.out⟩
      case measure => simp [lenV]; omega
    · obtain ⟨q, hq⟩ : ∃ q, n - 4 = q := ⟨_, rfl⟩
      obtain rfl : m = q := by omega
      have hd : decide ((m : Int) < (n : Int) - 4) = false := decide_eq_false (by omega)
      obtain ⟨a', c', e', hbv⟩ := byv_of_own hos
      cases e'
      have HR := hid (And.intro hbs (And.intro hos (And.intro hFs hbv)))
      clear hbs hos hFs hbv
      go_wp2_with (go_at_call 233; (with_reducible refine (sum_any HR.out.2.2.2.by_ HR.out.1.2 (by omega)).mono ?_))
      rintro _ _ ⟨z, rfl, hz, rfl⟩
      go_wp2_with (go_at_call 232; (with_reducible refine (number_any4 _ _).mono ?_))
      rintro e w6 ⟨u6, y6, rfl, hu6, hy6, G6⟩
      have HU6 := hid (And.intro hy6 (own_src hu6))
      have HB6 := hid (And.intro HR.out.1 (And.intro (ownsRow_fr HR.out.2.1 G6 (fun _ _ _ h => h)) (HR.out.2.2.1.trans G6 (fun _ _ h => h))))
      clear hu6 hy6 G6 HR
      go_wp2_with (at_builtin; refine wpList_append_src rfl (.tmp 81) (.tmp 84) 22 rfl w.heap.size 5 j0 _ 1 1 Tryz.underlying22 hj0 jz0 jz1 jz2 rfl (by decide) _ _ _ rfl HB6.out.2.1 _ _ _ rfl HU6.out.2 (by simp [HU6.out.1.1]) (u8_oneY _) (by simp [maxLen]; omega) (by omega) HB6.out.2.2.size ?_)
      intro v7 w7 hown hgr hne
      have H7 := hid (ys_app HB6.out.1 HB6.out.2.1 HB6.out.2.2 HU6.out.1 hown hgr)
      clear hown hgr hne HB6 HU6
      go_wp2_with fail
      go_ret2
      exact ⟨v7, 0, _, rfl, by omega, H7.out⟩
end Go.Proofs.YtgdhaaokolfdoaaGreatDoor
