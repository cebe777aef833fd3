/- Chapter 17's index: Slots. Conditions: the index lies in the world as IdxT says. -/
import Derived.Test.YtgdhaaokolfdoaaGreatDoorLZB
import Derived.Test.YtgdhaaokolfdoaaGreatDoorLAR
import Derived.Test.YtgdhaaokolfdoaaGreatDoorLAW
import Derived.Test.YtgdhaaokolfdoaaGreatDoorLZA
import Derived.Test.YtgdhaaokolfdoaaGreatDoorLAY
set_option linter.unusedVariables false
set_option linter.unusedSimpArgs false
set_option linter.unnecessarySimpa false
namespace Go.Proofs.YtgdhaaokolfdoaaGreatDoor
open Go.Proofs Go.RowKit Go.Sg Go.Shelf CP SF
attribute [local go_sem] Oper.semAt_some
abbrev slotC (z : Slt) : List Value := [.int .i64 z.s.2.2.1.1, .int .i64 z.s.2.2.1.2, .int .i64 z.s.1, .int .i64 z.s.2.1, .slice z.va z.s.2.2.2.length z.vc]
def SlotsU (B : Blk) (bx bd : Nat) (y : Cs) (N : Nat) (x : DirD) (t : Tr) (sp : Int) (w : World) (e : Ending) (w' : World) : Prop :=
  ∃ (v : Value) (zs : List Slt), e = .returned (.tuple #[v, .int .i64 0]) ∧ FrB B w w' ∧ w'.ownsRow w.heap.size 131 5 v zs.length (zs.flatMap slotC) ∧ zs.map (·.s) = slotsD t x.depth 0 0 ∧ (∀ z ∈ zs, BkT z w') ∧ IdxT w' B bx bd y noP false N x t sp
structure SlI2 (w : World) (B : Blk) (m be bo : Nat) (pre : List Slt) (W : World) : Prop where
  ex : ∃ (v : Value) (zs : List Slt), W.heap[bo]? = some (.cells #[v] 124) ∧ W.ownsRow m 131 5 v zs.length (zs.flatMap slotC) ∧ zs.map (·.s) = pre.map (·.s) ∧ ∀ z ∈ zs, BkT z W
  er : W.heap[be]? = some (.cells #[.int .i64 0] 24)
  fr : FrB B w W
theorem bkT_fr {S : Nat → Prop} {W W' : World} {z : Slt} (h : BkT z W) (F : Fr S W W') (hS : ∀ g c, W.heap[g]? = some (.cells c 118) → ¬ S g) : BkT z W' := ⟨ownsRow_fr h.1 F hS, h.2⟩
theorem sli2_own {w : World} {B : Blk} {m be bo : Nat} (hm : w.heap.size ≤ m) : OwnFrom m (SlI2 w B m be bo) :=
  own_of (fun pre W W' h F => by
    obtain ⟨v, zs, h1, h2, h3, h4⟩ := h.ex
    exact ⟨⟨v, zs, F.heap h1 (fun h => h), ownsRow_fr h2 F (fun _ _ _ h => h), h3, fun z hz => bkT_fr (h4 z hz) F (fun _ _ _ h => h)⟩, F.heap h.er (fun h => h), h.fr.trans (FrB.none F)⟩)
   (fun pre W W' k h F hk hc => by
    have n1 : ∀ b cs t f, W.heap[b]? = some (.cells cs t f) → ¬ b = k := fun b cs t f hb e => by rw [e] at hb; exact hc _ _ _ hb
    obtain ⟨v, zs, h1, h2, h3, h4⟩ := h.ex
    exact ⟨⟨v, zs, F.heap h1 (n1 _ _ _ _ h1), ownsRow_fr h2 F (fun g c hg e => n1 _ _ _ _ hg e), h3, fun z hz => bkT_fr (h4 z hz) F (fun g c hg e => n1 _ _ _ _ hg e)⟩, F.heap h.er (n1 _ _ _ _ h.er), fr_k h.fr F (by omega)⟩)
theorem sli2_step {w : World} {B : Blk} {m be bo : Nat} (hm : w.heap.size ≤ m) (pre : List Slt) (A C : World) (h : SlI2 w B m be bo pre A) (hR : RSt B m bo A C) : SlI2 w B m be bo pre C := by
  obtain ⟨v, zs, h1, h2, h3, h4⟩ := h.ex
  rcases hR with F | F
  · exact ⟨⟨v, zs, F.heap h1 (by decide), own_frB h2 (by decide) F, h3, fun z hz => bkT_fr (h4 z hz) F (fun g c hg hs => absurd (hs.2.1 c 118 _ hg) (by decide))⟩, F.heap h.er (by decide), h.fr.trans F⟩
  · refine ⟨⟨v, zs, F.heap h1 (fun hs => ?_), own_fr1 h2 F (fun g hg hs => hs.2.2 ⟨v, h1, hg⟩), h3, fun z hz => bkT_fr (h4 z hz) F (fun g c hg hs => ?_)⟩, F.heap h.er (fun hs => ?_), Fr.trans h.fr F fun b hb hs => by omega⟩
    · obtain ⟨-, ⟨c, e⟩, -⟩ := hs; rw [h1] at e; cases e
    · obtain ⟨-, ⟨c', e⟩, -⟩ := hs; rw [hg] at e; cases e
    · obtain ⟨-, ⟨c', e⟩, -⟩ := hs; rw [h.er] at e; cases e
theorem RSt.keep {B : Blk} {m bo : Nat} (hlt : ∀ r, B.at_ r < m) (A C : World) (b : Nat) (o : Obj) (hR : RSt B m bo A C) (hb : m ≤ b) (ho : A.heap[b]? = some o) (hc : o.isCells = false) : C.heap[b]? = some o := by
  rcases hR with F | F
  · exact (FrB.keeps F hlt).same _ _ hb ho hc
  · exact F.heap ho fun hs => by obtain ⟨-, ⟨c, e⟩, -⟩ := hs; rw [ho] at e; cases e; cases hc
theorem kpO_putObj {m bo : Nat} {W : World} {l : Nat} {o o' : Obj} (hb : bo < m) (hl : m ≤ l) (ho : W.heap[l]? = some o) (hc : o.isCells = false) : KpO m bo W (W.putObj l o') := by
  refine ⟨rfl, rfl, rfl, by rw [size_putObj]; exact Nat.le_refl _, fun b o1 h1 _ _ h2 => ?_, fun g ⟨v, hv, hg⟩ => ?_, fun ⟨v, hv⟩ => ⟨v, ?_⟩⟩
  · have hne : l ≠ b := fun e => by
      subst e
      rcases h2 with h2 | h2
      · omega
      · rw [ho] at h1; cases h1; rw [hc] at h2; cases h2
    rw [heap_putObj_ne _ _ _ _ hne]
    exact h1
  · rw [heap_putObj_ne _ _ _ _ (by omega)] at hv
    exact .inr ⟨v, hv, hg⟩
  · rw [heap_putObj_ne _ _ _ _ (by omega)]; exact hv
theorem kpO_alloc {m bo : Nat} {W : World} (h : BoxO bo W) (o : Obj) : KpO m bo W (W.alloc o) := by
  obtain ⟨v, hv⟩ := h
  have F : Fr (fun _ => False) W (W.alloc o) := (Fr.refl _ _).alloc o
  have hv' := F.heap hv (fun h => h)
  refine ⟨F.os, F.tape, F.output, F.size, fun b o1 h1 _ _ _ => F.heap h1 (fun h => h), fun g ⟨u, hu, hg⟩ => ?_, fun _ => ⟨v, hv'⟩⟩
  rw [hv'] at hu; cases hu
  exact .inr ⟨v, hv, hg⟩
theorem slots_ret {n : Nat} {R : Ending → World → Prop} {tmps : Array Value} {DD : Nat} {W : World} {v : Value} (hK : W.heap[DD]? = some (.deferred (some []))) (hR : R (.returned (.tuple #[v, .int .i64 0])) (W.putObj DD (.deferred none))) (t2 : tmps.getD 2 undef = v) (t3 : tmps.getD 3 undef = .int .i64 0) :
    bodyPostM Fence.wide n Tryz.prog Tryz.f71 R .ret { tmps := tmps, defers := [{ target := .collected DD, args := #[] }] } W := by
  refine ⟨by simp, .inl ⟨_, _, rfl, run_takeDeferred hK, _, ?_, hR⟩⟩
  rw [Array.getD_eq_getD_getElem?] at t2 t3
  simp [results, Tryz.results71, go_sem, t2, t3]
theorem fresh_all {d p : Nat} {es : List Bt} (h : BkOk d p es) : es.filter (freshB 0) = es := by
  rw [List.filter_eq_self]
  intro x hx
  have := (h.2.2 x hx).1.2.1.1
  simpa [freshB] using this
theorem set1_fr' (W : World) (b j : Nat) (v : Value) : Fr (fun k => k = b) W (W.setCell ⟨b, j, none⟩ v) := (Fr.refl (fun k => k = b) W).setCell (a := ⟨b, _, none⟩) (fun _ => rfl) _
theorem fr_grown {w w' : World} {row : Option Nat} (h : w.grownBy w' row) : Fr (fun b => row = some b) w w' := ⟨h.os, h.tape, h.output, h.size, fun b hb hn => h.block b hb (fun e => hn e.symm)⟩
theorem keeps_of {S : Nat → Prop} {W W' : World} {m : Nat} (F : Fr S W W') (h : ∀ b o, W.heap[b]? = some o → o.isCells = false → ¬ S b) : KeepsFrom m W W' := ⟨F.size, fun k o _ ho hc => F.heap ho (h k o ho hc)⟩
theorem ownsRow_nil' (W : World) (b e s : Nat) : W.ownsRow b e s (.slice none 0 0) 0 [] := ⟨by simp, .inl ⟨rfl, rfl⟩⟩
theorem Tryz.info131 : (Tryz.prog.info? 131).map (fun i => (i.zero, i.size, i.bytes)) = some (some (.agg #[.int .i64 0, .int .i64 0, .int .i64 0, .int .i64 0, .slice none 0 0]), 5, 56) := by kernel_rfl
theorem kpO_step {m bo : Nat} {W V : World} {v v' : Value} (hm : bo < m) (hv : W.heap[bo]? = some (.cells #[v] 124)) (hv' : V.heap[bo]? = some (.cells #[v'] 124)) (F : Fr (fun b => b = bo ∨ OutB bo W b) W V) (hp : ∀ g, v'.ownBlock = some g → W.heap.size ≤ g ∨ v.ownBlock = some g) : KpO m bo W V :=
  ⟨F.os, F.tape, F.output, F.size, fun b o hb hne hno _ => F.heap hb (fun hs => hs.elim hne hno), fun g ⟨u, hu, hg⟩ => by
    rw [hv'] at hu; cases hu
    exact (hp g hg).imp id fun h => ⟨v, hv, h⟩, fun _ => ⟨v', hv'⟩⟩
theorem wp_app_at {P : Program} {o : Oper} {a : Act} {w : World} {K : Act → World → Prop} {Q : Exit → Act → World → Prop} (hgd : o.guard = none) (s x : Operand) (t : TypeId)
    (ho : o.op = .call { callee := .builtin .append, args := #[s, x], argTypes := #[t, t] }) (base : Nat) (e : TypeId) (i : TypeInfo) (z : Value) (size bytes : Nat) (ht : P.underlying t = some (.slice e)) (hi : P.info? e = some i) (hz : i.zero = some z)
    (hsize : i.size = size) (hby : i.bytes = bytes) (hzs : z.cells.size = size) (hsz : 0 < size) (v : Value) (n : Nat) (xs : List Value) (hs : a.eval s = v) (hown : w.ownsRow base e size v n xs)
    (ad : Addr) (m c : Nat) (news : List Value) (hx : a.eval x = .slice (some ad) m c) (hc : ∀ j u, news[j]? = some u → w.cell? (ad.add j) = some u) (hl : news.length = m * size) (h1 : ∀ u ∈ news, u.oneCell' = true) (h63 : n + m ≤ maxLen) (hbytes : (n + m) * bytes ≤ 140737488355328) (hbase : base ≤ w.heap.size)
    (h : ∀ v' w', w'.ownsRow base e size v' (n + m) (xs ++ news) → w.grownBy w' v.ownBlock → (v'.ownBlock = v.ownBlock ∨ v'.ownBlock = some w.heap.size) → K (a.put o.dst v') w') : Oper.wp P o a w K Q := by
  obtain ⟨v', w', hr, h2, h3, h4, h5⟩ := run_append_own_at (P := P) w base t o.type e i z size bytes ht hi hz hsize hby hzs hsz v n xs hown ad m c news hl hc h1 h63 hbytes hbase
  unfold Oper.wp execOp
  simp only [ho, resolve, invoke, builtin, Sem.run_bind, Sem.run_pure, Result.andThen_ok, List.map_toArray, List.map_cons, List.map_nil, hs, hx, hr]
  exact h v' w' h2 h3 h5

set_option maxHeartbeats 16000000 in
set_option maxRecDepth 100000 in
theorem xslots_ok {w : World} {B : Blk} {bx bd : Nat} {y : Cs} {N : Nat} {x : DirD} {t : Tr} {sp : Int} (h : IdxT w B bx bd y noP false N x t sp) (hN : N + 12 ≤ 90000) :
    Calls Tryz.prog 71 #[xptr bx] w (SlotsU B bx bd y (N + 12) x t sp w) := by
  refine (callsIn_wide (n := 10)).1 ?_
  obtain ⟨tops, L, hM, hP⟩ := h.ex
  have hsm := hM.small
  have hleaf := leaves8 hM.per hM.c.z.most.1
  have HAll := hid (show Calls Tryz.prog 48 #[dptr bd] w (RowU B y noP false (N + 4) (t.slots x.depth) w) from (all_ok hM.st hM.dir hM.c (by omega)).mono (by
    rintro e w' ⟨v, err, he, F, ⟨h0, ho, hS⟩ | ⟨_, ha, _⟩⟩
    · exact ⟨v, err, he, F, .inl ⟨h0, ho, hS.mono (by omega) (by omega)⟩⟩
    · cases ha))
  obtain ⟨n, hn⟩ : ∃ n, 2 ^ x.depth = n := ⟨_, rfl⟩
  have hsl : (t.slots x.depth).length = n := by rw [Tr.slots_len t _ (Nat.le_of_eq h.high), hn]
  have HT := hid (And.intro h (And.intro hM (And.intro hP (And.intro hn hsl))))
  have HLt := hid (fun r => hM.st.roles r)
  obtain ⟨i0, i1, i2, i3, i4, iz, il⟩ := cells5 (show IdxAt w bx B.s bd 3 3 sp from hM.idx)
  have h0 : 0 < w.heap.size := by have := hM.bd_lt; omega
  obtain ⟨jt0, hjt, jz0, jz1, jz2⟩ := info_parts Tryz.info131
  have HInf := hid (And.intro hjt (And.intro jz0 (And.intro jz1 jz2)))
  clear h hM hP hsm hleaf hn hsl hjt jz0 jz1 jz2
  refine callsIn_of_wp_marks Tryz.func71 rfl trivial ?_ rfl
  simp only [Tryz.ntmps71, List.size_toArray, List.length_cons, List.length_nil, Nat.reduceAdd, Nat.reduceSub, Array.replicate_succ, Array.replicate_zero, List.push_toArray, List.append_toArray, List.nil_append, List.cons_append]
  gi_wp2_with (fail)
  refine (callsIn_wide.2 HAll.out).mono ?_
  rintro e w1 ⟨v1, err, rfl, F1, ⟨rfl, hown, hS1⟩ | ⟨_, ha, _⟩⟩
  rotate_left
  · cases ha
  obtain ⟨la, lc, rfl, hrow⟩ := rowT_of_own hown
  rw [HT.out.2.2.2.2]
  have hM1 : IdxM w1 B bx bd y noP false (N + 4) x tops (t.slots x.depth) L sp := HT.out.2.1.frB F1 hS1
  have HM1 := hid (And.intro hM1 (And.intro hrow F1))
  have hsz1 := F1.size
  clear hown hS1 hrow hM1 i0 i1 i2 i3 i4 iz il F1 HAll
  obtain ⟨be, hbe⟩ : ∃ be, w1.heap.size = be := ⟨_, rfl⟩
  obtain ⟨w2, hw2⟩ : ∃ w2, (w1.alloc (.cells #[.int .i64 0] 24)).alloc (.cells #[.slice none 0 0] 124) = w2 := ⟨_, rfl⟩
  have H2 := hid (And.intro hw2 trivial)
  have HBe := hid hbe
  clear hw2
  gi_wp2_with (fail)
  clear hbe
  rw [H2.out.1]
  refine (callsIn_wide.2 (buckets_ok bx la n lc be w2)).mono ?_
  rintro e W0 ⟨rfl, hW0⟩
  obtain ⟨pxb, plb, peb, F0⟩ := heap_three hW0
  obtain ⟨pbe, pbo, F2⟩ := heap_two H2.out.1
  have hs2 : w2.heap.size = be + 2 := by rw [← H2.out.1]; simp [HBe.out]
  have hs0 : W0.heap.size = be + 5 := by rw [← hW0]; simp [hs2]
  have F02 := F2.trans F0 (fun _ _ h => h)
  have F00 : FrB B w W0 := FrB.trans HM1.out.2.2 (FrB.none F02)
  rw [HBe.out] at pbe pbo
  have pbe0 := F0.heap pbe (fun h => h)
  have pbo0 := F0.heap pbo (fun h => h)
  have hI0 := HM1.out.1.fr0 F02
  have hlt : ∀ r, B.at_ r < W0.heap.size := fun r => by have := HLt.out r; have := HM1.out.2.2.size; have := HBe.out; omega
  have hwW : w.heap.size ≤ W0.heap.size := F00.size
  have hwbe : w.heap.size ≤ be := by have := HM1.out.2.2.size; have := HBe.out; omega
  have h00 : 0 < W0.heap.size := by omega
  obtain ⟨m, hm⟩ : ∃ m, W0.heap.size = m := ⟨_, rfl⟩
  have HW0 := hid hm
  have HSz := hid (And.intro hs2 hs0)
  clear hW0 hs2 hs0 hm
  gi_wp2_with (fail)
  obtain ⟨hs2, hs0⟩ := HSz.out
  refine wpIn_range_run (F := Fence.wide) rfl (by omega) (gf := 202) (lb := #[.pointer (some ⟨w2.heap.size + 1, 0, none⟩), .pointer (some ⟨w2.heap.size, 0, none⟩), .pointer (some ⟨w2.heap.size + 2, 0, none⟩)]) rfl trivial (enters_of Tryz.func202 (by kernel_rfl) rfl)
    (SlI2 w B W0.heap.size be (be + 1))
    (bkts_run (w := W0) (beb := w2.heap.size + 2) hI0 HT.out.2.2.1 HT.out.1.ok (Nat.le_of_eq HT.out.1.high) HT.out.1.depth HT.out.2.2.2.1 pxb plb (HM1.out.2.1.fr0 F02) pbo0 (by omega) (by omega))
    (fun pre A C h hR => sli2_step hwW pre A C h hR) (fun A C b o hR hb ho hc => RSt.keep hlt A C b o hR hb ho hc)
    (fun W l o o' hl ho hc _ hE => hE.putL hl hlt h00 ho hc)
    (fun h k => h.trans k) (fun W l o o' hl ho hc _ => kpO_putObj (by omega) hl ho hc) (Below.refl _ _) (fun _ => rfl)
    (fun _ _ _ => False) (sli2_own hwW) (fun _ _ _ _ _ h _ _ => h.elim) ⟨⟨.slice none 0 0, [], pbo0, ownsRow_nil' _ _ _ _, rfl, by simp⟩, pbe0, F00⟩
    (fun z a' W => (∃ b7 : Nat, W.heap[b7]? = some (.cells (lastC z.s z.va z.vc) 131) ∧ (∃ v : Value, W.heap[be + 1]? = some (.cells #[v] 124) ∧ v.ownBlock ≠ some b7) ∧ BkT z W ∧ a' = { tmps := #[xptr bx, undef, .slice none 0 0, .int .i64 0, .slice la n lc, .pointer (some ⟨be, 0, none⟩), .pointer (some ⟨be + 1, 0, none⟩), .pointer (some ⟨b7, 0, none⟩), xptr bx, .bool false, .tuple #[.slice la n lc, .int .i64 0], xptr bx, .pointer (some ⟨bx, 0, none⟩), .pointer (some ⟨bx, 1, none⟩), .pointer (some ⟨bd, 0, none⟩), .tuple #[.slice la n lc, .int .i64 0], .slice la n lc, .int .i64 0, .int .i64 0, .bool false, undef, xptr bx, .slice la n lc, .func (.func 202) #[] #[.pointer (some ⟨w2.heap.size + 1, 0, none⟩), .pointer (some ⟨w2.heap.size, 0, none⟩), .pointer (some ⟨w2.heap.size + 2, 0, none⟩)], slotV z.s.2.2.1 z.s.1 z.s.2.1 (.slice z.va z.s.2.2.2.length z.vc), undef, undef, undef, undef, undef, undef, undef, undef, undef, undef, undef, undef, undef], defers := [] }))
    (fun z a' => own_of (fun _ W W' h F => by
        obtain ⟨b7, g1, ⟨v, g2, g3⟩, g4, g5⟩ := h
        exact ⟨b7, F.heap g1 (fun h => h), ⟨v, F.heap g2 (fun h => h), g3⟩, bkT_fr g4 F (fun _ _ _ h => h), g5⟩)
      (fun _ W W' k h F hk hc => by
        obtain ⟨b7, g1, ⟨v, g2, g3⟩, g4, g5⟩ := h
        have n1 : ∀ b cs t f, W.heap[b]? = some (.cells cs t f) → ¬ b = k := fun b cs t f hb e => by rw [e] at hb; exact hc _ _ _ hb
        exact ⟨b7, F.heap g1 (n1 _ _ _ _ g1), ⟨v, F.heap g2 (n1 _ _ _ _ g2), g3⟩, bkT_fr g4 F (fun g c hg e => n1 _ _ _ _ hg e), g5⟩))
    ?assign ?body ?done ?stop
  case assign =>
    rintro lp pre ⟨s, va, vc⟩ W K' hI hT hK
    have HI := hid (And.intro hI hT)
    have HK := hid hK
    clear hI hT hK hs2 hs0 pxb plb peb pbe pbo pbe0 pbo0
    gi_wp2
    obtain ⟨hI, hT⟩ := HI.out
    obtain ⟨v, zs, h1, h2, h3, h4⟩ := hI.ex
    have FA : Fr (fun _ => False) W (W.alloc (.cells (lastC s va vc) 131)) := (Fr.refl _ _).alloc _
    refine HK.out _ _ ((KeepsOthers.alloc _ _).from _) (kpO_alloc ⟨v, h1⟩ _) ((sli2_own hwW).alloc _ hI) ⟨W.heap.size, heap_alloc_new _ _, ⟨v, FA.heap h1 (fun h => h), fun e => ?_⟩, bkT_fr hT FA (fun _ _ _ h => h), rfl⟩
    have := (own_blkT h2 e).2; omega
  case body =>
    rintro lp pre ⟨s, va, vc⟩ a' W hl ⟨rr, hrr⟩ hI ⟨b7, hb7W, ⟨v0, hv0, hb7o⟩, hT, rfl⟩ hlen
    obtain ⟨v, zs, h1, h2, h3, h4⟩ := hI.ex
    obtain rfl : v0 = v := by rw [h1] at hv0; cases hv0; rfl
    have her := hI.er
    have hfr := hI.fr
    have hbom : be + 1 < W0.heap.size := by omega
    have hb7bo : ¬ b7 = be + 1 := fun e => by rw [e, h1] at hb7W; cases hb7W
    have hboo : ¬ v0.ownBlock = some (be + 1) := fun e => by
      obtain ⟨-, c, hc⟩ := own_blockT h2 e.symm
      rw [h1] at hc; cases hc
    have hn8 : n ≤ 8 := by rw [← HT.out.2.2.2.1]; exact Nat.le_trans (Nat.pow_le_pow_right (by decide) HT.out.1.depth) (by decide)
    have hzl : zs.length ≤ 8 := by have := congrArg List.length h3; simp only [List.length_map] at this; omega
    have hFr := fun V (F : Fr (fun _ => False) W V) => bfresh_ok (own_none hT.1 F) (by have := hT.2.1; omega) s.1 s.2.1 0
    rw [fresh_all hT.2] at hFr
    have HFr := hid hFr
    obtain ⟨hjt, jz0, jz1, jz2⟩ := HInf.out
    have hWm : W0.heap.size ≤ W.heap.size := by have := lt_of_heap hrr; omega
    clear hI hv0 hrr hFr hs2 hs0 pxb plb peb pbe pbo pbe0 pbo0
    gi_wp2
    refine region_round_plan (fun V => V.heap[b7]? = some (.cells (lastC s va vc) 131)) (.rd 1 (.rd 2 (.rd 3 (.rd 4 (.two 0 5 (.op 5 (.rd 6 (.op 7 (.op 8 (.op 9 .done))))) (.rd 6 (.two 0 7 (.op 7 (.op 8 (.op 9 .done))) (.op 0 (.op 8 (.op 9 .done)))))))))) (by kernel_rfl) (by kernel_rfl) (by kernel_rfl) (by kernel_rfl) (fun h => by obtain ⟨_, _, h⟩ := h; exact h) (fun _ _ _ _ _ h => h) hb7W ?_
    iterate 4
      try simp only [Act.put, List.setIfInBounds_toArray, List.set_cons_zero, List.set_cons_succ]
      refine plan_rd _ ?_ (by simp only [List.getElem?_toArray, List.getElem?_cons_zero, List.getElem?_cons_succ]; rfl) (by rfl) ?_ ?_
      rotate_left
      · intro V hV
        obtain ⟨d0, d1, d2, d3, d4, dz, dl⟩ := cells5 hV
        go_simp
        try with_reducible rfl
    refine plan_two ?_ ?_
    · try simp only [Act.put, List.setIfInBounds_toArray, List.set_cons_zero, List.set_cons_succ]
      refine plan_op _ (by simp only [List.getElem?_toArray, List.getElem?_cons_zero, List.getElem?_cons_succ]; rfl) (by rfl) (fun K hK => ?_)
      have c0 := cell_of_heap (((Fr.refl (fun _ => False) W).drew).heap h1 (fun h => h)) 0
      simp at c0
      go_simp
      refine hK _ _ (((Fr.refl (fun _ => False) W).drew).heap hb7W (fun h => h)) ?_
      clear hK K c0
      try simp only [Act.put, List.setIfInBounds_toArray, List.set_cons_zero, List.set_cons_succ]
      refine plan_op _ (by simp only [List.getElem?_toArray, List.getElem?_cons_zero, List.getElem?_cons_succ]; rfl) (by rfl) (fun K hK => ?_)
      go_simp
      refine (HFr.out _ ((Fr.refl (fun _ => False) W).drew)).mono ?_
      rintro _ V1 ⟨va1, vc1, rfl, hown1, G1⟩
      have F1 : Fr (fun _ => False) W V1 := Fr.trans (((Fr.refl (fun _ => False) W).drew)) G1 (fun _ _ h => h)
      have hown1 := own_mono hown1 (Fr.size (((Fr.refl (fun _ => False) W).drew)))
      try go_simp
      refine hK _ _ (F1.heap hb7W (fun h => h)) ?_
      clear hK K
      try simp only [Act.put, List.setIfInBounds_toArray, List.set_cons_zero, List.set_cons_succ]
      refine plan_rd _ ?_ (by simp only [List.getElem?_toArray, List.getElem?_cons_zero, List.getElem?_cons_succ]; rfl) (by rfl) ?_ ?_
      rotate_left
      · intro V hV
        go_simp
        try with_reducible rfl
      try simp only [Act.put, List.setIfInBounds_toArray, List.set_cons_zero, List.set_cons_succ]
      refine plan_op _ (by simp only [List.getElem?_toArray, List.getElem?_cons_zero, List.getElem?_cons_succ]; rfl) (by rfl) (fun K hK => ?_)
      go_simp
      have hn5 : (V1.alloc (.cells #[.int .i64 s.2.2.1.1, .int .i64 s.2.2.1.2, .int .i64 s.1, .int .i64 s.2.1, .slice va1 s.2.2.2.length vc1] 131)).heap[V1.heap.size]? = some (.cells #[.int .i64 s.2.2.1.1, .int .i64 s.2.2.1.2, .int .i64 s.1, .int .i64 s.2.1, .slice va1 s.2.2.2.length vc1] 131) := heap_alloc_new _ _
      obtain ⟨V2, hV2⟩ : ∃ V2, V1.alloc (.cells #[.int .i64 s.2.2.1.1, .int .i64 s.2.2.1.2, .int .i64 s.1, .int .i64 s.2.1, .slice va1 s.2.2.2.length vc1] 131) = V2 := ⟨_, rfl⟩
      have F2 : Fr (fun _ => False) W V2 := by rw [← hV2]; exact F1.alloc _
      have F12 : Fr (fun _ => False) V1 V2 := by rw [← hV2]; exact (Fr.refl _ _).alloc _
      rw [hV2] at hn5 ⊢
      refine hK _ _ (F2.heap hb7W (fun h => h)) ?_
      clear hK K
      try simp only [Act.put, List.setIfInBounds_toArray, List.set_cons_zero, List.set_cons_succ]
      refine plan_op _ (by simp only [List.getElem?_toArray, List.getElem?_cons_zero, List.getElem?_cons_succ]; rfl) (by rfl) (fun K hK => ?_)
      refine wp_app_at rfl (.tmp 25) (.tmp 32) 124 rfl W0.heap.size 131 jt0 _ 5 56 Tryz.underlying124 hjt jz0 jz1 jz2 rfl (by decide) v0 zs.length _ rfl (own_none h2 F2) ⟨V1.heap.size, 0, none⟩ 1 1 (slotC ⟨s, va1, vc1⟩) rfl (World.news_of_block hn5) rfl (by simp [Value.oneCell']) (by simp [maxLen]; omega) (by omega) (by have := F2.size; omega) ?_
      intro v3 V3 hown3 hg3 hv3
      obtain ⟨a3, c3, rfl, -, -, -, -⟩ := own_slice hown3
      have FV3 : Fr (fun b => v0.ownBlock = some b) W V3 := (F2.mono (fun _ _ h => h.elim)).trans (fr_grown hg3) (fun _ _ h => h)
      have hb73 := FV3.heap hb7W hb7o
      refine hK _ _ hb73 ?_
      clear hK K
      try simp only [Act.put, List.setIfInBounds_toArray, List.set_cons_zero, List.set_cons_succ]
      refine plan_op _ (by simp only [List.getElem?_toArray, List.getElem?_cons_zero, List.getElem?_cons_succ]; rfl) (by rfl) (fun K hK => ?_)
      have hbo3 := FV3.heap h1 hboo
      have c0 := cell_of_heap hbo3 0
      have cz := frozen_of_heap hbo3 0
      have cl := lt_of_heap hbo3
      simp at c0
      go_simp
      obtain ⟨V4, hV4⟩ : ∃ V4, V3.setCell ⟨(be + 1), 0, none⟩ (.slice a3 (zs.length + 1) c3) = V4 := ⟨_, rfl⟩
      rw [hV4]
      have F34 : Fr (fun b => b = (be + 1)) V3 V4 := by rw [← hV4]; exact set1_fr' _ _ _ _
      refine hK _ _ (F34.heap hb73 hb7bo) ?_
      clear hK K
      try simp only [Act.put, List.setIfInBounds_toArray, List.set_cons_zero, List.set_cons_succ]
      refine plan_done ?_
      refine NoPanic.normal ?_
      gi_wp2
      have hbo4 : V4.heap[(be + 1)]? = some (.cells #[(.slice a3 (zs.length + 1) c3)] 124) := by rw [← hV4, heap_setCell_cells _ _ _ _ hbo3]; rfl
      have F4 : Fr (fun b => b = (be + 1) ∨ v0.ownBlock = some b) W V4 := (FV3.mono (fun _ _ h => .inr h)).trans F34 (fun _ _ h => .inl h)
      have hgo : ∀ g, v0.ownBlock = some g → W0.heap.size ≤ g ∧ ∃ c, W.heap[g]? = some (.cells c 131) := fun g hg => own_blockT h2 hg.symm
      have K4 : KpO W0.heap.size (be + 1) W V4 := kpO_step hbom h1 hbo4 (F4.mono fun b _ hs => hs.imp id fun hg => ⟨⟨v0, h1, hg⟩, by obtain ⟨-, c, hc⟩ := hgo b hg; exact ⟨c, _, hc⟩⟩) (fun g hg => by
        rcases hv3 with e | e
        · exact .inr (e ▸ hg)
        · rw [e] at hg; cases hg
          exact .inl F2.size)
      have hown4 : V4.ownsRow W0.heap.size 131 5 (.slice a3 (zs.length + 1) c3) (zs.length + 1) (zs.flatMap slotC ++ slotC ⟨s, va1, vc1⟩) := own_fr1 hown3 F34 (fun g hg e => by
        subst e
        obtain ⟨-, c, hc⟩ := own_blockT hown3 hg.symm
        rw [hbo3] at hc; cases hc)
      refine ⟨keeps_of F4 (fun b o ho hc hs => ?_), K4, ⟨(.slice a3 (zs.length + 1) c3), zs ++ [⟨s, va1, vc1⟩], hbo4, ?_, ?_, fun z hz => ?_⟩, K4.keep be _ her (fun e => by rw [e, h1] at her; cases her) (fun ⟨_, c, f, hc⟩ => by rw [her] at hc; cases hc) (.inr rfl), ?_⟩
      · rcases hs with e | hg
        · rw [e, h1] at ho; cases ho; cases hc
        · obtain ⟨-, c, hcc⟩ := hgo b hg; rw [hcc] at ho; cases ho; cases hc
      · rw [List.length_append, List.flatMap_append, List.length_singleton, List.flatMap_singleton]; exact hown4
      · rw [List.map_append, List.map_append, h3]; rfl
      · rcases List.mem_append.1 hz with hz | hz
        · exact ⟨K4.own (h4 z hz).1 (by decide) ⟨_, h1⟩, (h4 z hz).2⟩
        · rw [List.mem_singleton] at hz
          subst hz
          refine ⟨own_fr1 (own_fr1 (own_none (own_base hown1) F12) (fr_grown hg3) (fun g hg hs => ?_)) F34 (fun g hg e => ?_), hT.2⟩
          · have h5 := (own_blkT hown1 hg).1
            obtain ⟨-, c, hcc⟩ := hgo g hs
            have := lt_of_heap hcc
            omega
          · have h5 := (own_blkT hown1 hg).1
            have := lt_of_heap h1
            omega
      · exact Fr.trans hfr (F4.mono (S' := fun b => W0.heap.size ≤ b ∨ b = (be + 1)) fun b _ hs => hs.elim .inr fun hg => .inl (hgo b hg).1) (fun b hb hs => by
          exfalso
          rcases hs with hs | hs <;> omega)
    · try simp only [Act.put, List.setIfInBounds_toArray, List.set_cons_zero, List.set_cons_succ]
      refine plan_op _ (by simp only [List.getElem?_toArray, List.getElem?_cons_zero, List.getElem?_cons_succ]; rfl) (by rfl) (fun K hK => ?_)
      go_simp
      refine (HFr.out _ ((Fr.refl (fun _ => False) W).drew)).mono ?_
      rintro _ V1 ⟨va1, vc1, rfl, hown1, G1⟩
      have F1 : Fr (fun _ => False) W V1 := Fr.trans (((Fr.refl (fun _ => False) W).drew)) G1 (fun _ _ h => h)
      have hown1 := own_mono hown1 (Fr.size (((Fr.refl (fun _ => False) W).drew)))
      try go_simp
      refine hK _ _ (F1.heap hb7W (fun h => h)) ?_
      clear hK K
      try simp only [Act.put, List.setIfInBounds_toArray, List.set_cons_zero, List.set_cons_succ]
      refine plan_rd _ ?_ (by simp only [List.getElem?_toArray, List.getElem?_cons_zero, List.getElem?_cons_succ]; rfl) (by rfl) ?_ ?_
      rotate_left
      · intro V hV
        go_simp
        try with_reducible rfl
      refine plan_two ?_ ?_
      · try simp only [Act.put, List.setIfInBounds_toArray, List.set_cons_zero, List.set_cons_succ]
        refine plan_op _ (by simp only [List.getElem?_toArray, List.getElem?_cons_zero, List.getElem?_cons_succ]; rfl) (by rfl) (fun K hK => ?_)
        have c0 := cell_of_heap (F1.heap h1 (fun h => h)) 0
        simp at c0
        go_simp
        refine hK _ _ (F1.heap hb7W (fun h => h)) ?_
        clear hK K c0
        try simp only [Act.put, List.setIfInBounds_toArray, List.set_cons_zero, List.set_cons_succ]
        refine plan_op _ (by simp only [List.getElem?_toArray, List.getElem?_cons_zero, List.getElem?_cons_succ]; rfl) (by rfl) (fun K hK => ?_)
        go_simp
        have hn5 : (V1.alloc (.cells #[.int .i64 s.2.2.1.1, .int .i64 s.2.2.1.2, .int .i64 s.1, .int .i64 s.2.1, .slice va1 s.2.2.2.length vc1] 131)).heap[V1.heap.size]? = some (.cells #[.int .i64 s.2.2.1.1, .int .i64 s.2.2.1.2, .int .i64 s.1, .int .i64 s.2.1, .slice va1 s.2.2.2.length vc1] 131) := heap_alloc_new _ _
        obtain ⟨V2, hV2⟩ : ∃ V2, V1.alloc (.cells #[.int .i64 s.2.2.1.1, .int .i64 s.2.2.1.2, .int .i64 s.1, .int .i64 s.2.1, .slice va1 s.2.2.2.length vc1] 131) = V2 := ⟨_, rfl⟩
        have F2 : Fr (fun _ => False) W V2 := by rw [← hV2]; exact F1.alloc _
        have F12 : Fr (fun _ => False) V1 V2 := by rw [← hV2]; exact (Fr.refl _ _).alloc _
        rw [hV2] at hn5 ⊢
        refine hK _ _ (F2.heap hb7W (fun h => h)) ?_
        clear hK K
        try simp only [Act.put, List.setIfInBounds_toArray, List.set_cons_zero, List.set_cons_succ]
        refine plan_op _ (by simp only [List.getElem?_toArray, List.getElem?_cons_zero, List.getElem?_cons_succ]; rfl) (by rfl) (fun K hK => ?_)
        refine wp_app_at rfl (.tmp 25) (.tmp 32) 124 rfl W0.heap.size 131 jt0 _ 5 56 Tryz.underlying124 hjt jz0 jz1 jz2 rfl (by decide) v0 zs.length _ rfl (own_none h2 F2) ⟨V1.heap.size, 0, none⟩ 1 1 (slotC ⟨s, va1, vc1⟩) rfl (World.news_of_block hn5) rfl (by simp [Value.oneCell']) (by simp [maxLen]; omega) (by omega) (by have := F2.size; omega) ?_
        intro v3 V3 hown3 hg3 hv3
        obtain ⟨a3, c3, rfl, -, -, -, -⟩ := own_slice hown3
        have FV3 : Fr (fun b => v0.ownBlock = some b) W V3 := (F2.mono (fun _ _ h => h.elim)).trans (fr_grown hg3) (fun _ _ h => h)
        have hb73 := FV3.heap hb7W hb7o
        refine hK _ _ hb73 ?_
        clear hK K
        try simp only [Act.put, List.setIfInBounds_toArray, List.set_cons_zero, List.set_cons_succ]
        refine plan_op _ (by simp only [List.getElem?_toArray, List.getElem?_cons_zero, List.getElem?_cons_succ]; rfl) (by rfl) (fun K hK => ?_)
        have hbo3 := FV3.heap h1 hboo
        have c0 := cell_of_heap hbo3 0
        have cz := frozen_of_heap hbo3 0
        have cl := lt_of_heap hbo3
        simp at c0
        go_simp
        obtain ⟨V4, hV4⟩ : ∃ V4, V3.setCell ⟨(be + 1), 0, none⟩ (.slice a3 (zs.length + 1) c3) = V4 := ⟨_, rfl⟩
        rw [hV4]
        have F34 : Fr (fun b => b = (be + 1)) V3 V4 := by rw [← hV4]; exact set1_fr' _ _ _ _
        refine hK _ _ (F34.heap hb73 hb7bo) ?_
        clear hK K
        try simp only [Act.put, List.setIfInBounds_toArray, List.set_cons_zero, List.set_cons_succ]
        refine plan_done ?_
        refine NoPanic.normal ?_
        gi_wp2
        have hbo4 : V4.heap[(be + 1)]? = some (.cells #[(.slice a3 (zs.length + 1) c3)] 124) := by rw [← hV4, heap_setCell_cells _ _ _ _ hbo3]; rfl
        have F4 : Fr (fun b => b = (be + 1) ∨ v0.ownBlock = some b) W V4 := (FV3.mono (fun _ _ h => .inr h)).trans F34 (fun _ _ h => .inl h)
        have hgo : ∀ g, v0.ownBlock = some g → W0.heap.size ≤ g ∧ ∃ c, W.heap[g]? = some (.cells c 131) := fun g hg => own_blockT h2 hg.symm
        have K4 : KpO W0.heap.size (be + 1) W V4 := kpO_step hbom h1 hbo4 (F4.mono fun b _ hs => hs.imp id fun hg => ⟨⟨v0, h1, hg⟩, by obtain ⟨-, c, hc⟩ := hgo b hg; exact ⟨c, _, hc⟩⟩) (fun g hg => by
          rcases hv3 with e | e
          · exact .inr (e ▸ hg)
          · rw [e] at hg; cases hg
            exact .inl F2.size)
        have hown4 : V4.ownsRow W0.heap.size 131 5 (.slice a3 (zs.length + 1) c3) (zs.length + 1) (zs.flatMap slotC ++ slotC ⟨s, va1, vc1⟩) := own_fr1 hown3 F34 (fun g hg e => by
          subst e
          obtain ⟨-, c, hc⟩ := own_blockT hown3 hg.symm
          rw [hbo3] at hc; cases hc)
        refine ⟨keeps_of F4 (fun b o ho hc hs => ?_), K4, ⟨(.slice a3 (zs.length + 1) c3), zs ++ [⟨s, va1, vc1⟩], hbo4, ?_, ?_, fun z hz => ?_⟩, K4.keep be _ her (fun e => by rw [e, h1] at her; cases her) (fun ⟨_, c, f, hc⟩ => by rw [her] at hc; cases hc) (.inr rfl), ?_⟩
        · rcases hs with e | hg
          · rw [e, h1] at ho; cases ho; cases hc
          · obtain ⟨-, c, hcc⟩ := hgo b hg; rw [hcc] at ho; cases ho; cases hc
        · rw [List.length_append, List.flatMap_append, List.length_singleton, List.flatMap_singleton]; exact hown4
        · rw [List.map_append, List.map_append, h3]; rfl
        · rcases List.mem_append.1 hz with hz | hz
          · exact ⟨K4.own (h4 z hz).1 (by decide) ⟨_, h1⟩, (h4 z hz).2⟩
          · rw [List.mem_singleton] at hz
            subst hz
            refine ⟨own_fr1 (own_fr1 (own_none (own_base hown1) F12) (fr_grown hg3) (fun g hg hs => ?_)) F34 (fun g hg e => ?_), hT.2⟩
            · have h5 := (own_blkT hown1 hg).1
              obtain ⟨-, c, hcc⟩ := hgo g hs
              have := lt_of_heap hcc
              omega
            · have h5 := (own_blkT hown1 hg).1
              have := lt_of_heap h1
              omega
        · exact Fr.trans hfr (F4.mono (S' := fun b => W0.heap.size ≤ b ∨ b = (be + 1)) fun b _ hs => hs.elim .inr fun hg => .inl (hgo b hg).1) (fun b hb hs => by
            exfalso
            rcases hs with hs | hs <;> omega)
      · try simp only [Act.put, List.setIfInBounds_toArray, List.set_cons_zero, List.set_cons_succ]
        refine plan_op _ (by simp only [List.getElem?_toArray, List.getElem?_cons_zero, List.getElem?_cons_succ]; rfl) (by rfl) (fun K hK => ?_)
        go_simp
        have hn5 : (V1.alloc (.cells #[.int .i64 s.2.2.1.1, .int .i64 s.2.2.1.2, .int .i64 s.1, .int .i64 s.2.1, .slice va1 s.2.2.2.length vc1] 131)).heap[V1.heap.size]? = some (.cells #[.int .i64 s.2.2.1.1, .int .i64 s.2.2.1.2, .int .i64 s.1, .int .i64 s.2.1, .slice va1 s.2.2.2.length vc1] 131) := heap_alloc_new _ _
        obtain ⟨V2, hV2⟩ : ∃ V2, V1.alloc (.cells #[.int .i64 s.2.2.1.1, .int .i64 s.2.2.1.2, .int .i64 s.1, .int .i64 s.2.1, .slice va1 s.2.2.2.length vc1] 131) = V2 := ⟨_, rfl⟩
        have F2 : Fr (fun _ => False) W V2 := by rw [← hV2]; exact F1.alloc _
        have F12 : Fr (fun _ => False) V1 V2 := by rw [← hV2]; exact (Fr.refl _ _).alloc _
        rw [hV2] at hn5 ⊢
        refine hK _ _ (F2.heap hb7W (fun h => h)) ?_
        clear hK K
        try simp only [Act.put, List.setIfInBounds_toArray, List.set_cons_zero, List.set_cons_succ]
        refine plan_op _ (by simp only [List.getElem?_toArray, List.getElem?_cons_zero, List.getElem?_cons_succ]; rfl) (by rfl) (fun K hK => ?_)
        have c0 := cell_of_heap (F2.heap h1 (fun h => h)) 0
        simp at c0
        go_simp
        refine hK _ _ (F2.heap hb7W (fun h => h)) ?_
        clear hK K c0
        try simp only [Act.put, List.setIfInBounds_toArray, List.set_cons_zero, List.set_cons_succ]
        refine plan_op _ (by simp only [List.getElem?_toArray, List.getElem?_cons_zero, List.getElem?_cons_succ]; rfl) (by rfl) (fun K hK => ?_)
        refine wp_app_at rfl (.tmp 25) (.tmp 32) 124 rfl W0.heap.size 131 jt0 _ 5 56 Tryz.underlying124 hjt jz0 jz1 jz2 rfl (by decide) v0 zs.length _ rfl (own_none h2 F2) ⟨V1.heap.size, 0, none⟩ 1 1 (slotC ⟨s, va1, vc1⟩) rfl (World.news_of_block hn5) rfl (by simp [Value.oneCell']) (by simp [maxLen]; omega) (by omega) (by have := F2.size; omega) ?_
        intro v3 V3 hown3 hg3 hv3
        obtain ⟨a3, c3, rfl, -, -, -, -⟩ := own_slice hown3
        have FV3 : Fr (fun b => v0.ownBlock = some b) W V3 := (F2.mono (fun _ _ h => h.elim)).trans (fr_grown hg3) (fun _ _ h => h)
        have hb73 := FV3.heap hb7W hb7o
        refine hK _ _ hb73 ?_
        clear hK K
        try simp only [Act.put, List.setIfInBounds_toArray, List.set_cons_zero, List.set_cons_succ]
        refine plan_op _ (by simp only [List.getElem?_toArray, List.getElem?_cons_zero, List.getElem?_cons_succ]; rfl) (by rfl) (fun K hK => ?_)
        have hbo3 := FV3.heap h1 hboo
        have c0 := cell_of_heap hbo3 0
        have cz := frozen_of_heap hbo3 0
        have cl := lt_of_heap hbo3
        simp at c0
        go_simp
        obtain ⟨V4, hV4⟩ : ∃ V4, V3.setCell ⟨(be + 1), 0, none⟩ (.slice a3 (zs.length + 1) c3) = V4 := ⟨_, rfl⟩
        rw [hV4]
        have F34 : Fr (fun b => b = (be + 1)) V3 V4 := by rw [← hV4]; exact set1_fr' _ _ _ _
        refine hK _ _ (F34.heap hb73 hb7bo) ?_
        clear hK K
        try simp only [Act.put, List.setIfInBounds_toArray, List.set_cons_zero, List.set_cons_succ]
        refine plan_done ?_
        refine NoPanic.normal ?_
        gi_wp2
        have hbo4 : V4.heap[(be + 1)]? = some (.cells #[(.slice a3 (zs.length + 1) c3)] 124) := by rw [← hV4, heap_setCell_cells _ _ _ _ hbo3]; rfl
        have F4 : Fr (fun b => b = (be + 1) ∨ v0.ownBlock = some b) W V4 := (FV3.mono (fun _ _ h => .inr h)).trans F34 (fun _ _ h => .inl h)
        have hgo : ∀ g, v0.ownBlock = some g → W0.heap.size ≤ g ∧ ∃ c, W.heap[g]? = some (.cells c 131) := fun g hg => own_blockT h2 hg.symm
        have K4 : KpO W0.heap.size (be + 1) W V4 := kpO_step hbom h1 hbo4 (F4.mono fun b _ hs => hs.imp id fun hg => ⟨⟨v0, h1, hg⟩, by obtain ⟨-, c, hc⟩ := hgo b hg; exact ⟨c, _, hc⟩⟩) (fun g hg => by
          rcases hv3 with e | e
          · exact .inr (e ▸ hg)
          · rw [e] at hg; cases hg
            exact .inl F2.size)
        have hown4 : V4.ownsRow W0.heap.size 131 5 (.slice a3 (zs.length + 1) c3) (zs.length + 1) (zs.flatMap slotC ++ slotC ⟨s, va1, vc1⟩) := own_fr1 hown3 F34 (fun g hg e => by
          subst e
          obtain ⟨-, c, hc⟩ := own_blockT hown3 hg.symm
          rw [hbo3] at hc; cases hc)
        refine ⟨keeps_of F4 (fun b o ho hc hs => ?_), K4, ⟨(.slice a3 (zs.length + 1) c3), zs ++ [⟨s, va1, vc1⟩], hbo4, ?_, ?_, fun z hz => ?_⟩, K4.keep be _ her (fun e => by rw [e, h1] at her; cases her) (fun ⟨_, c, f, hc⟩ => by rw [her] at hc; cases hc) (.inr rfl), ?_⟩
        · rcases hs with e | hg
          · rw [e, h1] at ho; cases ho; cases hc
          · obtain ⟨-, c, hcc⟩ := hgo b hg; rw [hcc] at ho; cases ho; cases hc
        · rw [List.length_append, List.flatMap_append, List.length_singleton, List.flatMap_singleton]; exact hown4
        · rw [List.map_append, List.map_append, h3]; rfl
        · rcases List.mem_append.1 hz with hz | hz
          · exact ⟨K4.own (h4 z hz).1 (by decide) ⟨_, h1⟩, (h4 z hz).2⟩
          · rw [List.mem_singleton] at hz
            subst hz
            refine ⟨own_fr1 (own_fr1 (own_none (own_base hown1) F12) (fr_grown hg3) (fun g hg hs => ?_)) F34 (fun g hg e => ?_), hT.2⟩
            · have h5 := (own_blkT hown1 hg).1
              obtain ⟨-, c, hcc⟩ := hgo g hs
              have := lt_of_heap hcc
              omega
            · have h5 := (own_blkT hown1 hg).1
              have := lt_of_heap h1
              omega
        · exact Fr.trans hfr (F4.mono (S' := fun b => W0.heap.size ≤ b ∨ b = (be + 1)) fun b _ hs => hs.elim .inr fun hg => .inl (hgo b hg).1) (fun b hb hs => by
            exfalso
            rcases hs with hs | hs <;> omega)
  case done =>
    rintro D xs W hDD hxs hI hE hK
    obtain ⟨v, zs, h1, h2, h3, h4⟩ := hI.ex
    have d0 := cell_of_heap hI.er 0
    have d1 := cell_of_heap h1 0
    simp at d0 d1
    have dl := lt_of_heap hI.er
    have dl1 := lt_of_heap h1
    have HI := hid (And.intro hI.fr (And.intro h2 (And.intro h3 (And.intro h4 (And.intro hE (And.intro hK hxs))))))
    clear hI h1 h2 h3 h4 hE hK hs2 hs0 pxb plb peb pbe pbo pbe0 pbo0 hxs
    gi_wp2
    obtain ⟨hfr, h2, h3, h4, hE, hK, hxs⟩ := HI.out
    have FP : Fr (fun b => b = D) W (W.putObj D (.deferred none)) := (Fr.refl (fun b => b = D) _).putObj (fun _ => rfl) _
    have nc : ∀ b c t f, W.heap[b]? = some (.cells c t f) → ¬ b = D := fun b c t f hb e => by rw [e, hK] at hb; cases hb
    refine slots_ret (v := v) hK ⟨v, zs, rfl, fr_k hfr FP (by omega), ?_, h3.trans hxs, fun z hz => bkT_fr (h4 z hz) FP (fun g c hg e => nc _ _ _ _ hg e), ⟨⟨tops, L, (hE.putL hDD hlt h00 hK rfl).mono (by omega) hN, HT.out.2.2.1⟩, HT.out.1.high, HT.out.1.ok⟩⟩ rfl rfl
    exact ownsRow_fr (own_mono h2 hwW) FP (fun g c hg e => nc _ _ _ _ hg e)
  case stop => exact fun _ _ _ _ _ _ h => h.elim
end Go.Proofs.YtgdhaaokolfdoaaGreatDoor
namespace Go.Proofs.YtgdhaaokolfdoaaGreatDoor
open Go.RowKit Go.Sg Go.Sg.Bits Go.Sg.Clk CP SF
theorem slotC_at (l : List Slt) : ∀ (i : Nat) (x : Slt), l[i]? = some x → (l.flatMap slotC)[i * 5]? = some (.int .i64 x.s.2.2.1.1) ∧ (l.flatMap slotC)[i * 5 + 1]? = some (.int .i64 x.s.2.2.1.2) ∧ (l.flatMap slotC)[i * 5 + 2]? = some (.int .i64 x.s.1) ∧ (l.flatMap slotC)[i * 5 + 3]? = some (.int .i64 x.s.2.1) ∧ (l.flatMap slotC)[i * 5 + 4]? = some (.slice x.va x.s.2.2.2.length x.vc) := by
  induction l with
  | nil => intro i x h; simp at h
  | cons y l ih =>
    intro i x h
    cases i with
    | zero =>
      simp at h; subst h
      simp [slotC]
    | succ i =>
      have e : ∀ j, (i + 1) * 5 + j = i * 5 + j + 1 + 1 + 1 + 1 + 1 := fun j => by omega
      have e0 : (i + 1) * 5 = i * 5 + 1 + 1 + 1 + 1 + 1 := by omega
      have h' : l[i]? = some x := by simpa using h
      obtain ⟨h0, h1, h2, h3, h4⟩ := ih i x h'
      simp only [e, e0, List.flatMap_cons, slotC, List.cons_append, List.nil_append, List.getElem?_cons_succ]
      exact ⟨h0, h1, h2, h3, h4⟩
theorem max_run (a b : Nat) (W : World) : (Builtin.max_ #[3, 3] 3 #[.int .i64 (a : Int), .int .i64 (b : Int)]).run Tryz.prog W = .ok (.int .i64 ((max a b : Nat) : Int)) W := by
  have h : (if (b : Int) > (a : Int) then (b : Int) else (a : Int)) = ((max a b : Nat) : Int) := by split <;> omega
  show (pure (Value.int .i64 (if (b : Int) > (a : Int) then (b : Int) else (a : Int))) : Sem Value).run Tryz.prog W = _
  rw [h]; rfl
section
variable {w0 V V' : World} {base bx k : Nat} {t : Tr}
theorem kp_slots (h : KqI w0 base bx k t V) (hk : k ≤ 400) : Calls Tryz.prog 71 #[xptr bx] V (fun e w' => ∃ (v : Value) (zs : List Slt) (t' : Tr), e = .returned (.tuple #[v, .int .i64 0]) ∧ w'.ownsRow V.heap.size 131 5 v zs.length (zs.flatMap slotC) ∧ zs.map (·.s) = slotsD t' t.high 0 0 ∧ (bare t' = t ∧ t'.refs.Nodup ∧ t'.high = t.high ∧ okT t' 0 0) ∧ (∀ z ∈ zs, BkT z w') ∧ KqI w0 base bx (k + 1) t w' ∧ FrI base V w') := by
  have h8 := refs8 h.high
  obtain ⟨B, bd, y, x, t', N, sp, hT, ⟨hN, hsp⟩, rfl, hB, hF, hbs⟩ := h
  obtain ⟨tops, L, hM, hP⟩ := hT.ex
  rw [refs_bare] at h8
  rw [bare_high, hT.high]
  refine (xslots_ok hT (by omega)).mono ?_
  rintro e w' ⟨v, zs, rfl, F, ho, hm, hz, hI⟩
  have FI : FrI base V w' := by rw [← hB]; exact frB_frI F
  exact ⟨v, zs, t', rfl, ho, hm, ⟨rfl, refs_nodup (List.Nodup.sublist (List.sublist_append_right _ _) hM.live.nd) hP, hT.high, hT.ok⟩, hz, ⟨B, bd, y, x, t', N + 12, sp, hI, ⟨by omega, hsp⟩, rfl, hB, FI.fr0 (by omega) hF, hbs⟩, FI⟩
theorem kp_any (h : KqI w0 base bx k t V) (E : Bt) (o : Int) (hh : E.hash < 18446744073709551616) (hk : k ≤ 400) : Calls Tryz.prog 64 #[xptr bx, btV E, .int .i64 o] V (fun e w' => ∃ (v : Value) (t2 : Tr), e = .returned v ∧ KqI w0 base bx (k + 1) t2 w' ∧ FrI base V w') := by
  cases hr : rightE E with
  | true =>
    refine (kp_put h E o (good_right hh hr) hk rfl).mono ?_
    rintro e w' ⟨rfl, h2, F⟩
    exact ⟨_, _, rfl, h2, F⟩
  | false =>
    refine (xput_bad hh hr bx o V).mono ?_
    rintro e w' ⟨rfl, F⟩
    exact ⟨_, _, rfl, (h.fr0 F).mono (by omega), FrI.none F⟩
end
set_option maxHeartbeats 16000000 in
set_option maxRecDepth 100000 in
theorem indexDeep_in {a : Option Addr} {n c : Nat} {l : List ActX} (hn : l.length = n) (w : World) (hT : Tab w) (hA : ActXR w a l) :
    Calls Tryz.prog 15 #[.slice a n c] w fun e w' => e = .returned (.bool true) ∧ Fr (fun _ => False) w w' := by
  have HM := hid (made17_ok w hT)
  have HT := hid hT
  have HA := hid hA
  have HN := hid hn
  clear hT hA hn
  go_enter Tryz.func15, Tryz.ntmps15
  by_cases h100 : (100 : Int) < (n : Int)
  · go_wp2_with fail
    exact bodyPost_ret (v := .bool true) (by simp [results, go_sem, *]) rfl ⟨rfl, Fr.refl _ _⟩
  have hn100 : n ≤ 100 := by omega
  have HN1 := hid hn100
  go_wp2_with fail
  refine HM.out.mono ?_
  rintro e w1 ⟨B, bx, bd, y, x0, r, rfl, F1, ⟨hb1, hb2, hb3⟩, hI, hx0, -⟩
  have hK0 : KqI w w.heap.size bx 0 (.leaf (0, 0) []) w1 := ⟨B, bd, y, x0, .leaf r [], 3, 0, hI, ⟨by simp [Tr.refs], rfl⟩, rfl, hb1, F1, ⟨rfl, hb2, hb3⟩⟩
  have HK0 := hid hK0
  clear F1 hb1 hb2 hb3 hI hx0 HM hK0
  go_wp2_with fail
  go_loopw [6] (fun v wr => ∃ (i : Nat) (t : Tr) (k : Nat), i ≤ n ∧ v = .int .i64 i ∧ KqI w w.heap.size bx k t wr ∧ k ≤ 2 * i) (fun v _ => n - (intOf v).toNat)
  case atStart => exact ⟨0, _, 0, Nat.zero_le _, rfl, HK0.out, Nat.le_refl _⟩
  case round =>
    obtain ⟨i, t, k, hin, rfl, hKp, hki⟩ := hrel
    have HKp := hid hKp
    clear hKp
    by_cases hlt : i < n
    · have hli : (i : Int) < (n : Int) := by omega
      have hiw : wrap64 ((i : Int) + 1) = ((i + 1 : Nat) : Int) := by simp only [wrap64]; omega
      obtain ⟨x, hx⟩ : ∃ x, l[i]? = some x := ⟨_, List.getElem?_eq_getElem (by rw [HN.out]; exact hlt)⟩
      obtain ⟨b, off, hab, hbw, -, -, hok⟩ := HA.out.at_ i x hx
      subst hab
      have HCell := hid (fun (V : World) (F : Fr (fun _ => False) w V) => show V.cell? ⟨b, off + i * 6, none⟩ = some (.int .i64 x.kind) ∧ V.cell? ⟨b, off + i * 6 + 1, none⟩ = some (.int .i64 x.oldest) ∧ V.cell? ⟨b, off + i * 6 + 2, none⟩ = some (.int .u64 x.e.hash) ∧ V.cell? ⟨b, off + i * 6 + 3, none⟩ = some (.int .i64 x.e.rg) ∧ V.cell? ⟨b, off + i * 6 + 4, none⟩ = some (.int .i64 x.e.at_) ∧ V.cell? ⟨b, off + i * 6 + 5, none⟩ = some (.int .i64 x.e.sz) by
        obtain ⟨b', off', e, -, ⟨h0, h1⟩, ⟨h2, h3, h4, h5⟩, -⟩ := (HA.out.fr F).at_ i x hx
        cases e
        exact ⟨h0, h1, h2, h3, h4, h5⟩)
      have HX := hid hok
      clear hx hok hbw
      obtain ⟨e0, e1, e2, e3, e4, e5⟩ := HCell.out _ HKp.out.fr
      obtain ⟨w0k, hw0k⟩ : ∃ z, (wrap64 (x.kind.tmod 8 + 8)).tmod 8 = z := ⟨_, rfl⟩
      go_upto_if 36 with fail
      go_cut [] from 36 to 57 (fun wx => ∃ t2, KqI w w.heap.size bx (k + 1) t2 wx)
      case first =>
        by_cases h4 : w0k = 4
        · have hd4 : (w0k == 4) = true := by simp [h4]
          clear h4
          have HDr := hid (kp_drop HKp.out HX.out.wh (by have := HN1.out; omega))
          go_wp2_with fail
          refine HDr.out.mono ?_
          rintro e V2 ⟨rfl, hK2, F2⟩
          have HK2 := hid hK2
          clear hK2 F2 HDr e0 e1 e2 e3 e4 e5
          go_wp2_with fail
          go_meet
          exact ⟨_, HK2.out⟩
        · have hd4 : (w0k == 4) = false := by simp [h4]
          clear h4
          have HPu := hid (fun V (F : Fr (fun _ => False) wr V) => kp_any (HKp.out.fr0 F) x.e x.oldest HX.out.wh (by have := HN1.out; omega))
          have HC := hid (fun (V : World) (F : FrI w.heap.size wr V) => HCell.out V (F.fr0 (Nat.le_refl _) HKp.out.fr))
          have FG0 : Fr (fun _ => False) wr wr.drew := (Fr.refl _ _).drew
          go_wp2_with fail
          refine wp_region_noPanic ?_
          refine region_plan (fun V => FrI w.heap.size wr V) (.rd 0 (.rd 1 (.rd 2 (.rd 3 (.rd 4 (.rd 5 (.rd 7 (.rd 8 (.rd 9 (.rd 10 (.rd 11 (.op 6 (.op 12 .done))))))))))))) (by kernel_rfl) (by kernel_rfl) (by kernel_rfl) (fun _ _ _ _ _ h => h) (FrI.none FG0) ?_
          iterate 11
            try simp only [Act.put, List.setIfInBounds_toArray, List.set_cons_zero, List.set_cons_succ]
            refine plan_rd _ ?_ (by simp only [List.getElem?_toArray, List.getElem?_cons_zero, List.getElem?_cons_succ]; rfl) (by rfl) ?_ ?_
            rotate_left
            · intro V hV
              obtain ⟨e0, e1, e2, e3, e4, e5⟩ := HC.out V hV
              go_simp
              try with_reducible rfl
          try simp only [Act.put, List.setIfInBounds_toArray, List.set_cons_zero, List.set_cons_succ]
          refine plan_op _ (by simp only [List.getElem?_toArray, List.getElem?_cons_zero, List.getElem?_cons_succ]; rfl) (by rfl) (fun K hK => ?_)
          go_simp
          refine (entry17_ok x.e _).mono ?_
          rintro _ V8 ⟨rfl, G1⟩
          have FG := FG0.trans G1 (fun _ _ h => h)
          have HPv := HPu.out V8 FG
          try go_simp
          refine hK _ _ (FrI.none FG) ?_
          clear hK K
          try simp only [Act.put, List.setIfInBounds_toArray, List.set_cons_zero, List.set_cons_succ]
          refine plan_op _ (by simp only [List.getElem?_toArray, List.getElem?_cons_zero, List.getElem?_cons_succ]; rfl) (by rfl) (fun K hK => ?_)
          go_simp
          refine HPv.mono ?_
          rintro _ V9 ⟨v9, t2, rfl, hK3, G2⟩
          have FG9 : FrI w.heap.size wr V9 := FrI.trans (FrI.none FG) G2
          have HK3 := hid hK3
          try go_simp
          refine hK _ _ FG9 ?_
          clear hK K hK3
          try simp only [Act.put, List.setIfInBounds_toArray, List.set_cons_zero, List.set_cons_succ]
          refine plan_done ?_
          refine NoPanic.normal ?_
          go_wp2_with fail
          go_meet
          exact ⟨_, HK3.out⟩
      case rest =>
        obtain ⟨t2, hK2⟩ := hcut
        have HK2 := hid hK2
        have HSl := hid (kp_slots hK2 (by have := HN1.out; omega))
        clear hK2 e0 e1 e2 e3 e4 e5
        go_wp2_with fail
        refine HSl.out.mono ?_
        rintro e V2 ⟨v, zs, t', rfl, hown, hmap, ⟨hbare, hnd, hhi, -⟩, -, hK3, -⟩
        obtain ⟨sa, sc, rfl, -, -, -, -⟩ := own_slice hown
        obtain ⟨m, hm⟩ : ∃ m, zs.length = m := ⟨_, rfl⟩
        obtain ⟨S, hS⟩ : ∃ S, slotsD t' t2.high 0 0 = S := ⟨_, rfl⟩
        have hSl : S.length = m := by rw [← hS, ← hmap, List.length_map, hm]
        have hm8 : m ≤ 8 := by
          rw [← hSl, ← hS, slotsD_len _ _ _ _ (Nat.le_of_eq hhi)]
          exact Nat.le_trans (Nat.pow_le_pow_right (by decide) hK3.high) (by decide)
        rw [hm]
        have HMx := hid (show mxD S = t2.high by rw [← hS, mxD_slots _ _ _ _ (Nat.le_of_eq hhi), Nat.zero_add, hhi])
        have HCn := hid (show cnt none S = t2.refs.length by rw [← hS, cnt_slots _ _ _ _ _ (Nat.le_of_eq hhi) hnd (fun _ _ e => by cases e), ← hbare, refs_bare])
        have HCe := hid (fun (q : Nat) (hq : q < m) => show ∃ (g : Nat) (s : Sd), sa = some ⟨g, 0, none⟩ ∧ S[q]? = some s ∧ ∀ V, Fr (fun _ => False) V2 V → g < V.heap.size ∧ V.cell? ⟨g, q * 5, none⟩ = some (.int .i64 s.2.2.1.1) ∧ V.cell? ⟨g, q * 5 + 1, none⟩ = some (.int .i64 s.2.2.1.2) ∧ V.cell? ⟨g, q * 5 + 2, none⟩ = some (.int .i64 s.1) by
          obtain ⟨z, hz⟩ : ∃ z, zs[q]? = some z := ⟨_, List.getElem?_eq_getElem (by omega)⟩
          have hs : S[q]? = some z.s := by rw [← hS, ← hmap, List.getElem?_map, hz]; rfl
          obtain ⟨c0, c1, c2, -, -⟩ := slotC_at zs q z hz
          obtain ⟨g, rfl, hg, k0⟩ := own_cell hown c0
          obtain ⟨g', e', -, k1⟩ := own_cell hown c1
          cases e'
          obtain ⟨g', e', -, k2⟩ := own_cell hown c2
          cases e'
          exact ⟨g, z.s, rfl, hs, fun V F => ⟨Nat.lt_of_lt_of_le hg F.size, (F.cell (p := ⟨g, _, none⟩) hg (fun h => h)).trans k0, (F.cell (p := ⟨g, _, none⟩) hg (fun h => h)).trans k1, (F.cell (p := ⟨g, _, none⟩) hg (fun h => h)).trans k2⟩⟩)
        have HK3 := hid hK3
        have HSl2 := hid hSl
        clear hown hmap hbare hnd hhi hK3 hm hS hSl HSl
        go_wp2_with fail
        go_loopw [9, 10, 11] (fun dv mv iv wz => ∃ (q dq mq : Nat), q ≤ m ∧ dv = .int .i64 dq ∧ mv = .int .i64 mq ∧ iv = .int .i64 q ∧ (mxD (S.take q) = dq ∧ cnt none (S.take q) = mq ∧ mq ≤ q) ∧ Fr (fun _ => False) V2 wz) (fun _ _ iv _ => m - (intOf iv).toNat)
        case atStart => exact ⟨0, 0, 0, Nat.zero_le _, rfl, rfl, rfl, ⟨rfl, rfl, Nat.le_refl _⟩, Fr.refl _ _⟩
        case round =>
          obtain ⟨wz, rfl⟩ : ∃ wz : World, wz = wr := ⟨_, rfl⟩
          obtain ⟨q, dq, mq, hqm, rfl, rfl, rfl, ⟨hd, hc, hmq⟩, hFz⟩ := hrel
          have HFz := hid hFz
          have HD := hid (And.intro hd hc)
          clear hd hc hFz
          by_cases hlt2 : q < m
          · have hqi : (q : Int) < (m : Int) := by omega
            have hqw : wrap64 ((q : Int) + 1) = ((q + 1 : Nat) : Int) := by simp only [wrap64]; omega
            obtain ⟨g, s, rfl, hs, hsc⟩ := HCe.out q hlt2
            obtain ⟨hg, k0, k1, k2⟩ := hsc _ HFz.out
            have hst := mxD_step hs
            have hcs := cnt_step hs
            rw [HD.out.1] at hst
            rw [HD.out.2] at hcs
            have HSt := hid hst
            have HS := hid hs
            clear hs hsc hst
            have hmx : ∀ W, (Builtin.max_ #[3, 3] 3 #[.int .i64 (dq : Int), .int .i64 (s.1 : Int)]).run Tryz.prog W = .ok (.int .i64 ((max dq s.1 : Nat) : Int)) W := fun W => max_run dq s.1 W
            obtain ⟨dq2, hdq2⟩ : ∃ d, max dq s.1 = d := ⟨_, rfl⟩
            rw [hdq2] at hmx
            have HDq := hid hdq2
            clear hdq2
            by_cases hq0 : q = 0
            · subst hq0
              have hlr : lastR none (S.take 0) = none := rfl
              rw [hlr, if_neg (by simp)] at hcs
              have HCs := hid hcs
              clear hcs hlr
              go_wp2_with fail
              go_quiet (fail)
              go_wp2_with fail
              go_roundw
              case rel => exact ⟨1, dq2, mq + 1, hlt2, rfl, by go_num, by simp, ⟨by rw [HSt.out, HDq.out], HCs.out, by omega⟩, HFz.out.drewN _⟩
              case measure => simp [intOf]; omega
            · obtain ⟨p, hp⟩ : ∃ p, p + 1 = q := ⟨q - 1, by omega⟩
              have hqb : ((q : Int) == 0) = false := by simp; omega
              have hpw : wrap64 ((q : Int) - 1) = (p : Int) := by simp only [wrap64]; omega
              have hpw2 : IntKind.i64.wrap ((q : Int) - 1) = (p : Int) := by rw [IntKind.wrap_i64]; omega
              have hpi : (p : Int) < (m : Int) := by omega
              obtain ⟨g', s', e', hs', hsc'⟩ := HCe.out p (by omega)
              cases e'
              obtain ⟨-, j0, j1, -⟩ := hsc' _ HFz.out
              have hlr := lastR_take hs'
              rw [hp] at hlr
              rw [hlr] at hcs
              have h35 := neq35x
              have HPq := hid hp
              clear hlr hs' hsc' hp hq0
              by_cases hr : s'.2.2.1 = s.2.2.1
              · rw [if_pos (by rw [hr])] at hcs
                have HCs := hid hcs
                rw [hr] at j0 j1
                have hne : (!(decide (s.2.2.1.1 = s.2.2.1.1) && decide (s.2.2.1.2 = s.2.2.1.2))) = false := by simp
                clear hcs hr
                go_wp2_with fail
                go_quiet (fail)
                clear hpw hpw2 hqb hpi j0 j1 h35 hne
                go_wp2_with fail
                go_roundw
                case rel => exact ⟨q + 1, dq2, mq, hlt2, rfl, rfl, by go_num, ⟨by rw [HSt.out, HDq.out], by rw [HCs.out, Nat.add_zero], by omega⟩, HFz.out.drewN _⟩
                case measure => simp [intOf]; omega
              · rw [if_neg (fun e => hr (Option.some.inj e))] at hcs
                have HCs := hid hcs
                have hne : (!(decide (s.2.2.1.1 = s'.2.2.1.1) && decide (s.2.2.1.2 = s'.2.2.1.2))) = true := by
                  by_cases h1 : s.2.2.1.1 = s'.2.2.1.1
                  · by_cases h2 : s.2.2.1.2 = s'.2.2.1.2
                    · exact absurd (Prod.ext h1 h2).symm hr
                    · simp [h2]
                  · simp [h1]
                clear hcs hr
                go_wp2_with fail
                go_quiet (fail)
                clear hpw hpw2 hqb hpi j0 j1 h35 hne
                go_wp2_with fail
                go_roundw
                case rel => exact ⟨q + 1, dq2, mq + 1, hlt2, rfl, by go_num, by go_num, ⟨by rw [HSt.out, HDq.out], HCs.out, by omega⟩, HFz.out.drewN _⟩
                case measure => simp [intOf]; omega
          · obtain rfl : q = m := by omega
            have hqi : ¬ (q : Int) < (q : Int) := by omega
            have hdq : dq = t2.high := by rw [← HD.out.1, List.take_of_length_le (Nat.le_of_eq HSl2.out)]; exact HMx.out
            have hmq2 : mq = t2.refs.length := by rw [← HD.out.2, List.take_of_length_le (Nat.le_of_eq HSl2.out)]; exact HCn.out
            subst hdq
            obtain ⟨rl, hrl⟩ : ∃ rl, t2.refs.length = rl := ⟨_, rfl⟩
            obtain ⟨hi, hhi⟩ : ∃ h, t2.high = h := ⟨_, rfl⟩
            have hDp := kp_depth (HK3.out.fr0 HFz.out)
            have hSp := kp_splits (HK3.out.fr0 HFz.out)
            rw [hrl] at hmq2 hSp
            rw [hhi] at hDp ⊢
            subst hmq2
            have HDp := hid hDp
            have HSp := hid hSp
            have hw1 : wrap64 ((mq : Int) - 1 + 1) = (mq : Int) := by simp only [wrap64]; omega
            clear hDp hSp hrl hhi
            go_wp2_with fail
            refine HDp.out.mono ?_
            rintro _ _ ⟨rfl, rfl⟩
            go_wp2_with fail
            refine HSp.out.mono ?_
            rintro _ _ ⟨rfl, rfl⟩
            go_wp2_with fail
            go_roundw
            case rel => exact ⟨i + 1, t2, k + 1 + 1, hlt, by go_num, HK3.out.fr0 HFz.out, by omega⟩
            case measure => simp [intOf]; omega
    · obtain rfl : i = n := by omega
      have hli : ¬ (i : Int) < (i : Int) := by omega
      have HAw := hid (awake17_ok wr (HT.out.fr HKp.out.fr (fun h => h)))
      go_wp2_with fail
      refine HAw.out.mono ?_
      rintro e V5 ⟨rfl, F5⟩
      go_wp2_with fail
      exact bodyPost_ret (v := .bool true) (by simp [results, go_sem, *]) rfl ⟨rfl, HKp.out.fr.trans F5 (fun _ _ h => h)⟩
end Go.Proofs.YtgdhaaokolfdoaaGreatDoor
