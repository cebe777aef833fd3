/- Chapter 17's index: Slots. Conditions: the index lies in the world as IdxT says. -/
import Derived.Test.YtgdhaaokolfdoaaGreatDoorNZB
import Derived.Test.YtgdhaaokolfdoaaGreatDoorNAR
import Derived.Test.YtgdhaaokolfdoaaGreatDoorNAW
import Derived.Test.YtgdhaaokolfdoaaGreatDoorNZA
import Derived.Test.YtgdhaaokolfdoaaGreatDoorNAP
import Derived.Test.YtgdhaaokolfdoaaGreatDoorNAQ
import Derived.Test.YtgdhaaokolfdoaaGreatDoorNAS
set_option maxHeartbeats 16000000
set_option maxRecDepth 100000
set_option linter.all false
namespace Go.Proofs.YtgdhaaokolfdoaaGreatDoor
section
open Go.Proofs Go.RowKit Go.Sg Go.Shelf CP SF
attribute [local go_sem] Oper.semAt_some
abbrev slotC (z : Slt) : List Value := [.int .i64 z.s.2.2.1.1, .int .i64 z.s.2.2.1.2, .int .i64 z.s.1, .int .i64 z.s.2.1, .slice z.va z.s.2.2.2.length z.vc]
def SlotsU (B : Blk) (bx bd : Nat) (y : Cs) (N : Nat) (x : DirD) (t : Tr) (sp : Int) (w : World) (e : Ending) (w' : World) : Prop :=
 ∃ (v : Value) (zs : List Slt), e = .returned (.tuple #[v, .int .i64 0]) /\ FrB B w w' /\ w'.ownsRow w.heap.size 131 5 v zs.length (zs.flatMap slotC) /\ zs.map (·.s) = slotsD t x.depth 0 0 /\ (∀ z ∈ zs, BkT z w') /\ IdxT w' B bx bd y noP false N x t sp
structure SlI2 (w : World) (B : Blk) (m be bo : Nat) (pre : List Slt) (W : World) : Prop where
 ex : ∃ (v : Value) (zs : List Slt), W.heap[bo]? = some (.cells #[v] 124) /\ W.ownsRow m 131 5 v zs.length (zs.flatMap slotC) /\ zs.map (·.s) = pre.map (·.s) /\ ∀ z ∈ zs, BkT z W
 er : W.heap[be]? = some (.cells #[.int .i64 0] 24)
 fr : FrB B w W
variable {S : Nat -> Prop} {W W' w : World} {be bo m : Nat} {v : Value}
theorem bkT_fr {z : Slt} (h : BkT z W) (F : Fr S W W') (hS : ∀ g c, W.heap[g]? = some (.cells c 118) -> ¬ S g) : BkT z W' := ⟨oRf h.1 F hS, h.2⟩
variable {B : Blk}
theorem sli2_own (hm : w.heap.size <= m) : OwnFrom m (SlI2 w B m be bo) :=
 own_of (fun pre W W' h F => by
   obtain ⟨v, zs, h1, h2, h3, h4⟩ := h.ex;exact ⟨⟨v, zs, F.heap h1 (fun h => h), oRf h2 F (fun _ _ _ h => h), h3, fun z hz => bkT_fr (h4 z hz) F (fun _ _ _ h => h)⟩, F.heap h.er (fun h => h), h.fr.trans (FrB.none F)⟩)
  (fun pre W W' k h F hk hc => by
   have n1 : ∀ b cs t f, W.heap[b]? = some (.cells cs t f) -> ¬ b = k := fun b cs t f hb e => by rw [e] at hb; exact hc _ _ _ hb
   obtain ⟨v, zs, h1, h2, h3, h4⟩ := h.ex;exact ⟨⟨v, zs, F.heap h1 (n1 _ _ _ _ h1), oRf h2 F (fun g c hg e => n1 _ _ _ _ hg e), h3, fun z hz => bkT_fr (h4 z hz) F (fun g c hg e => n1 _ _ _ _ hg e)⟩, F.heap h.er (n1 _ _ _ _ h.er), fr_k h.fr F (by omega)⟩)
theorem sli2_step (hm : w.heap.size <= m) (pre : List Slt) (A C : World) (h : SlI2 w B m be bo pre A) (hR : RSt B m bo A C) : SlI2 w B m be bo pre C := by
 obtain ⟨v, zs, h1, h2, h3, h4⟩ := h.ex;rcases hR with F | F
 ·exact ⟨⟨v, zs, F.heap h1 (by decide), own_frB h2 (by decide) F, h3, fun z hz => bkT_fr (h4 z hz) F (fun g c hg hs => absurd (hs.2.1 c 118 _ hg) (by decide))⟩, F.heap h.er (by decide), h.fr.trans F⟩
 ·refine ⟨⟨v, zs, F.heap h1 (fun hs => ?_), own_fr1 h2 F (fun g hg hs => hs.2.2 ⟨v, h1, hg⟩), h3, fun z hz => bkT_fr (h4 z hz) F (fun g c hg hs => ?_)⟩, F.heap h.er (fun hs => ?_), Fr.trans h.fr F fun b hb hs => by omega⟩
  ·obtain ⟨-, ⟨c, e⟩, -⟩ := hs; rw [h1] at e; cases e
  ·obtain ⟨-, ⟨c', e⟩, -⟩ := hs; rw [hg] at e; cases e
  ·obtain ⟨-, ⟨c', e⟩, -⟩ := hs; rw [h.er] at e; cases e
theorem RSt.keep (hlt : ∀ r, B.at_ r < m) (A C : World) (b : Nat) (o : Obj) (hR : RSt B m bo A C) (hb : m <= b) (ho : A.heap[b]? = some o) (hc : o.isCells = false) : C.heap[b]? = some o := by
 rcases hR with F | F
 ·exact (FrB.keeps F hlt).same _ _ hb ho hc
 ·exact F.heap ho fun hs => by obtain ⟨-, ⟨c, e⟩, -⟩ := hs; rw [ho] at e; cases e; cases hc
theorem kpO_putObj {l : Nat} {o o' : Obj} (hb : bo < m) (hl : m <= l) (ho : W.heap[l]? = some o) (hc : o.isCells = false) : KpO m bo W (W.putObj l o') := by
 refine ⟨rfl, rfl, rfl, by rw [size_putObj]; exact nR _, fun b o1 h1 _ _ h2 => ?_, fun g ⟨v, hv, hg⟩ => ?_, fun ⟨v, hv⟩ => ⟨v, ?_⟩⟩
 ·have hne : l ≠ b := fun e => by
   subst e;rcases h2 with h2 | h2
   ·omega
   ·rw [ho] at h1; cases h1; rw [hc] at h2; cases h2
  rw [hpj _ _ _ _ hne];exact h1
 ·rw [hpj _ _ _ _ (by omega)] at hv;exact .inr ⟨v, hv, hg⟩
 ·rw [hpj _ _ _ _ (by omega)]; exact hv
theorem kpO_alloc (h : BoxO bo W) (o : Obj) : KpO m bo W (W.alloc o) := by
 obtain ⟨v, hv⟩ := h;have F : Fq W (W.alloc o) := (Fr.refl _ _).alloc o;have hv' := F.heap hv (fun h => h);refine ⟨F.os, F.tape, F.output, F.size, fun b o1 h1 _ _ _ => F.heap h1 (fun h => h), fun g ⟨u, hu, hg⟩ => ?_, fun _ => ⟨v, hv'⟩⟩;rw [hv'] at hu; cases hu;exact .inr ⟨v, hv, hg⟩
theorem slots_ret {n : Nat} {R : Ending -> World -> Prop} {tmps : Array Value} {DD : Nat} (hK : W.heap[DD]? = some (.deferred (some []))) (hR : R (.returned (.tuple #[v, .int .i64 0])) (W.putObj DD (.deferred none))) (t2 : tmps.getD 2 undef = v) (t3 : tmps.getD 3 undef = .int .i64 0) :
  bodyPostM Fence.wide n Tryz.prog Tryz.f71 R .ret { tmps := tmps, defers := [{ target := .collected DD, args := #[] }] } W := by
 refine ⟨by simp, .inl ⟨_, _, rfl, run_takeDeferred hK, _, ?_, hR⟩⟩;rw [Array.getD_eq_getD_getElem?] at t2 t3;simp [results, Tryz.results71, go_sem, t2, t3]
theorem fresh_all {d p : Nat} {es : List Bt} (h : BkOk d p es) : es.filter (freshB 0) = es := by
 rw [List.filter_eq_self];intro x hx;have := (h.2.2 x hx).1.2.1.1;simpa [freshB] using this
theorem set1_fr' (W : World) (b j : Nat) (v : Value) : Fr (fun k => k = b) W (W.setCell ⟨b, j, none⟩ v) := (Fr.refl (fun k => k = b) W).setCell (a := ⟨b, _, none⟩) (fun _ => rfl) _
theorem fr_grown {w' : World} {row : Option Nat} (h : w.grownBy w' row) : Fr (fun b => row = some b) w w' := ⟨h.os, h.tape, h.output, h.size, fun b hb hn => h.block b hb (fun e => hn e.symm)⟩
theorem keeps_of (F : Fr S W W') (h : ∀ b o, W.heap[b]? = some o -> o.isCells = false -> ¬ S b) : KeepsFrom m W W' := ⟨F.size, fun k o _ ho hc => F.heap ho (h k o ho hc)⟩
theorem ownsRow_nil' (W : World) (b e s : Nat) : W.ownsRow b e s (.slice none 0 0) 0 [] := ⟨by simp, .inl ⟨rfl, rfl⟩⟩
theorem Tryz.info131 : (Tryz.prog.info? 131).map (fun i => (i.zero, i.size, i.bytes)) = some (some (.agg #[.int .i64 0, .int .i64 0, .int .i64 0, .int .i64 0, .slice none 0 0]), 5, 56) := by kernel_rfl
theorem kpO_step {V : World} {v' : Value} (hm : bo < m) (hv : W.heap[bo]? = some (.cells #[v] 124)) (hv' : V.heap[bo]? = some (.cells #[v'] 124)) (F : Fr (fun b => b = bo \/ OutB bo W b) W V) (hp : ∀ g, v'.ownBlock = some g -> W.heap.size <= g \/ v.ownBlock = some g) : KpO m bo W V :=
 ⟨F.os, F.tape, F.output, F.size, fun b o hb hne hno _ => F.heap hb (fun hs => hs.elim hne hno), fun g ⟨u, hu, hg⟩ => by
  rw [hv'] at hu; cases hu;exact (hp g hg).imp id fun h => ⟨v, hv, h⟩, fun _ => ⟨v', hv'⟩⟩
theorem wp_app_at {P : Program} {o : Oper} {a : Act} {K : Act -> World -> Prop} {Q : Exit -> Act -> World -> Prop} (hgd : o.guard = none) (s x : Operand) (t : TypeId)
  (ho : o.op = .call { callee := .builtin .append, args := #[s, x], argTypes := #[t, t] }) (base : Nat) (e : TypeId) (i : TypeInfo) (z : Value) (size bytes : Nat) (ht : P.underlying t = some (.slice e)) (hi : P.info? e = some i) (hz : i.zero = some z)
  (hsize : i.size = size) (hby : i.bytes = bytes) (hzs : z.cells.size = size) (hsz : 0 < size) (v : Value) (n : Nat) (xs : List Value) (hs : a.eval s = v) (hown : w.ownsRow base e size v n xs)
  (ad : Addr) (m c : Nat) (news : List Value) (hx : a.eval x = .slice (some ad) m c) (hc : ∀ j u, news[j]? = some u -> w.cell? (ad.add j) = some u) (hl : news.length = m * size) (h1 : ∀ u ∈ news, u.oneCell' = true) (h63 : n + m <= maxLen) (hbytes : (n + m) * bytes <= 140737488355328) (hbase : base <= w.heap.size)
  (h : ∀ v' w', w'.ownsRow base e size v' (n + m) (xs ++ news) -> w.grownBy w' v.ownBlock -> (v'.ownBlock = v.ownBlock \/ v'.ownBlock = some w.heap.size) -> K (a.put o.dst v') w') : Oper.wp P o a w K Q := by
 obtain ⟨v', w', hr, h2, h3, h4, h5⟩ := run_append_own_at (P := P) w base t o.type e i z size bytes ht hi hz hsize hby hzs hsz v n xs hown ad m c news hl hc h1 h63 hbytes hbase;unfold Oper.wp execOp;simp only [ho, resolve, invoke, builtin, Sem.run_bind, Sem.run_pure, Result.andThen_ok, List.map_toArray, List.map_cons, List.map_nil, hs, hx, hr];exact h v' w' h2 h3 h5
theorem xslots_ok {bx bd : Nat} {y : Cs} {N : Nat} {x : DirD} {t : Tr} {sp : Int} (h : IdxT w B bx bd y noP false N x t sp) (hN : N + 12 <= 90000) :
  Calls Tryz.prog 71 #[xptr bx] w (SlotsU B bx bd y (N + 12) x t sp w) := by
 refine (callsIn_wide (n := 10)).1 ?_;obtain ⟨tops, L, hM, hP⟩ := h.ex;have hsm := hM.small;have hleaf := leaves8 hM.per hM.c.z.most.1;have HAll := hid (show Calls Tryz.prog 48 #[dptr bd] w (RowU B y noP false (N + 4) (t.slots x.depth) w) from (all_ok hM.st hM.dir hM.c (by omega)).mono (by
  rintro e w' ⟨v, err, he, F, ⟨h0, ho, hS⟩ | ⟨_, ha, _⟩⟩
  ·exact ⟨v, err, he, F, .inl ⟨h0, ho, hS.mono (by omega) (by omega)⟩⟩
  ·cases ha))
 obtain ⟨n, hn⟩ : ∃ n, 2 ^ x.depth = n := ⟨_, rfl⟩
 have hsl : (t.slots x.depth).length = n := by rw [Tr.slots_len t _ (Nat.le_of_eq h.high), hn]
 have HT := hi2 h (aI hM (aI hP (aI hn hsl)));have HLt := hid (fun r => hM.st.roles r);obtain ⟨i0, i1, i2, i3, i4, iz, il⟩ := cells5 (show IdxAt w bx B.s bd 3 3 sp from hM.idx);have h0 : 0 < w.heap.size := by have := hM.bd_lt; omega
 obtain ⟨jt0, hjt, jz0, jz1, jz2⟩ := info_parts Tryz.info131;have HInf := hi2 hjt (aI jz0 (aI jz1 jz2));clear h hM hP hsm hleaf hn hsl hjt jz0 jz1 jz2;refine callsIn_of_wp_marks Tryz.func71 rfl trivial ?_ rfl;simp only [Tryz.ntmps71, zA, lC, List.length_nil, Nat.reduceAdd, Nat.reduceSub, Array.replicate_succ, Array.replicate_zero, List.push_toArray, List.append_toArray, List.nil_append, List.cons_append];gi_wp2_with (fail)
 refine (callsIn_wide.2 HAll.out).mono ?_;rintro e w1 ⟨v1, err, rfl, F1, ⟨rfl, hown, hS1⟩ | ⟨_, ha, _⟩⟩;rotate_left
 ·cases ha
 obtain ⟨la, lc, rfl, hrow⟩ := rowT_of_own hown;rw [HT.out.2.2.2.2];have hM1 : IdxM w1 B bx bd y noP false (N + 4) x tops (t.slots x.depth) L sp := HT.out.2.1.frB F1 hS1;have HM1 := hi2 hM1 (aI hrow F1);have hsz1 := F1.size;clear hown hS1 hrow hM1 i0 i1 i2 i3 i4 iz il F1 HAll;obtain ⟨be, hbe⟩ : ∃ be, w1.heap.size = be := ⟨_, rfl⟩
 obtain ⟨w2, hw2⟩ : ∃ w2, (w1.alloc (.cells #[.int .i64 0] 24)).alloc (.cells #[.slice none 0 0] 124) = w2 := ⟨_, rfl⟩
 have H2 := hi2 hw2 trivial;have HBe := hid hbe;clear hw2;gi_wp2_with (fail)
 clear hbe;rw [H2.out.1];refine (callsIn_wide.2 (buckets_ok bx la n lc be w2)).mono ?_;rintro e W0 ⟨rfl, hW0⟩;obtain ⟨pxb, plb, peb, F0⟩ := heap_three hW0;obtain ⟨pbe, pbo, F2⟩ := heap_two H2.out.1;have hs2 : w2.heap.size = be + 2 := by rw [<- H2.out.1]; simp [HBe.out]
 have hs0 : W0.heap.size = be + 5 := by rw [<- hW0]; simp [hs2]
 have F02 := F2.trans F0 (fun _ _ h => h);have F00 : FrB B w W0 := FrB.trans HM1.out.2.2 (FrB.none F02);rw [HBe.out] at pbe pbo;have pbe0 := F0.heap pbe (fun h => h);have pbo0 := F0.heap pbo (fun h => h);have hI0 := HM1.out.1.fr0 F02;have hlt : ∀ r, B.at_ r < W0.heap.size := fun r => by have := HLt.out r; have := HM1.out.2.2.size; have := HBe.out; omega
 have hwW : w.heap.size <= W0.heap.size := F00.size;have hwbe : w.heap.size <= be := by have := HM1.out.2.2.size; have := HBe.out; omega
 have h00 : 0 < W0.heap.size := by omega
 obtain ⟨m, hm⟩ : ∃ m, W0.heap.size = m := ⟨_, rfl⟩
 have HW0 := hid hm;have HSz := hi2 hs2 hs0;clear hW0 hs2 hs0 hm;gi_wp2_with (fail)
 obtain ⟨hs2, hs0⟩ := HSz.out;refine wpIn_range_run (F := Fence.wide) rfl (by omega) (gf := 202) (lb := #[.pointer (some ⟨w2.heap.size + 1, 0, none⟩), .pointer (some ⟨w2.heap.size, 0, none⟩), .pointer (some ⟨w2.heap.size + 2, 0, none⟩)]) rfl trivial (enters_of Tryz.func202 (by kernel_rfl) rfl)
  (SlI2 w B W0.heap.size be (be + 1))
  (bkts_run (w := W0) (beb := w2.heap.size + 2) hI0 HT.out.2.2.1 HT.out.1.ok (Nat.le_of_eq HT.out.1.high) HT.out.1.depth HT.out.2.2.2.1 pxb plb (HM1.out.2.1.fr0 F02) pbo0 (by omega) (by omega))
  (fun pre A C h hR => sli2_step hwW pre A C h hR) (fun A C b o hR hb ho hc => RSt.keep hlt A C b o hR hb ho hc)
  (fun W l o o' hl ho hc _ hE => hE.putL hl hlt h00 ho hc)
  (fun h k => h.trans k) (fun W l o o' hl ho hc _ => kpO_putObj (by omega) hl ho hc) (Below.refl _ _) (fun _ => rfl)
  (fun _ _ _ => False) (sli2_own hwW) (fun _ _ _ _ _ h _ _ => h.elim) ⟨⟨.slice none 0 0, [], pbo0, ownsRow_nil' _ _ _ _, rfl, by simp⟩, pbe0, F00⟩
  (fun z a' W => (∃ b7 : Nat, W.heap[b7]? = some (.cells (lastC z.s z.va z.vc) 131) /\ (∃ v : Value, W.heap[be + 1]? = some (.cells #[v] 124) /\ v.ownBlock ≠ some b7) /\ BkT z W /\ a' = { tmps := #[xptr bx, undef, .slice none 0 0, .int .i64 0, .slice la n lc, .pointer (some ⟨be, 0, none⟩), .pointer (some ⟨be + 1, 0, none⟩), .pointer (some ⟨b7, 0, none⟩), xptr bx, .bool false, .tuple #[.slice la n lc, .int .i64 0], xptr bx, .pointer (some ⟨bx, 0, none⟩), .pointer (some ⟨bx, 1, none⟩), .pointer (some ⟨bd, 0, none⟩), .tuple #[.slice la n lc, .int .i64 0], .slice la n lc, .int .i64 0, .int .i64 0, .bool false, undef, xptr bx, .slice la n lc, .func (.func 202) #[] #[.pointer (some ⟨w2.heap.size + 1, 0, none⟩), .pointer (some ⟨w2.heap.size, 0, none⟩), .pointer (some ⟨w2.heap.size + 2, 0, none⟩)], slotV z.s.2.2.1 z.s.1 z.s.2.1 (.slice z.va z.s.2.2.2.length z.vc), undef, undef, undef, undef, undef, undef, undef, undef, undef, undef, undef, undef, undef], defers := [] }))
  (fun z a' => own_of (fun _ W W' h F => by
    obtain ⟨b7, g1, ⟨v, g2, g3⟩, g4, g5⟩ := h;exact ⟨b7, F.heap g1 (fun h => h), ⟨v, F.heap g2 (fun h => h), g3⟩, bkT_fr g4 F (fun _ _ _ h => h), g5⟩)
   (fun _ W W' k h F hk hc => by
    obtain ⟨b7, g1, ⟨v, g2, g3⟩, g4, g5⟩ := h;have n1 : ∀ b cs t f, W.heap[b]? = some (.cells cs t f) -> ¬ b = k := fun b cs t f hb e => by rw [e] at hb; exact hc _ _ _ hb
    exact ⟨b7, F.heap g1 (n1 _ _ _ _ g1), ⟨v, F.heap g2 (n1 _ _ _ _ g2), g3⟩, bkT_fr g4 F (fun g c hg e => n1 _ _ _ _ hg e), g5⟩))
  ?assign ?body ?done ?stop
 case assign =>
  rintro lp pre ⟨s, va, vc⟩ W K' hI hT hK;have HI := hi2 hI hT;have HK := hid hK;clear hI hT hK hs2 hs0 pxb plb peb pbe pbo pbe0 pbo0;gi_wp2
  obtain ⟨hI, hT⟩ := HI.out;obtain ⟨v, zs, h1, h2, h3, h4⟩ := hI.ex;have FA : Fq W (W.alloc (.cells (lastC s va vc) 131)) := (Fr.refl _ _).alloc _;refine HK.out _ _ ((KeepsOthers.alloc _ _).from _) (kpO_alloc ⟨v, h1⟩ _) ((sli2_own hwW).alloc _ hI) ⟨W.heap.size, han _ _, ⟨v, FA.heap h1 (fun h => h), fun e => ?_⟩, bkT_fr hT FA (fun _ _ _ h => h), rfl⟩;have := (own_blkT h2 e).2; omega
 case body =>
  rintro lp pre ⟨s, va, vc⟩ a' W hl ⟨rr, hrr⟩ hI ⟨b7, hb7W, ⟨v0, hv0, hb7o⟩, hT, rfl⟩ hlen;obtain ⟨v, zs, h1, h2, h3, h4⟩ := hI.ex;obtain rfl : v0 = v := by rw [h1] at hv0; cases hv0; rfl
  have her := hI.er;have hfr := hI.fr;have hbom : be + 1 < W0.heap.size := by omega
  have hb7bo : ¬ b7 = be + 1 := fun e => by rw [e, h1] at hb7W; cases hb7W
  have hboo : ¬ v0.ownBlock = some (be + 1) := fun e => by
   obtain ⟨-, c, hc⟩ := oBT h2 e.symm;rw [h1] at hc; cases hc
  have hn8 : n <= 8 := by rw [<- HT.out.2.2.2.1]; exact nT (Nat.pow_le_pow_right (by decide) HT.out.1.depth) (by decide)
  have hzl : zs.length <= 8 := by have := congrArg List.length h3; simp only [List.length_map] at this; omega
  have hFr := fun V (F : Fq W V) => bfresh_ok (oN hT.1 F) (by have := hT.2.1; omega) s.1 s.2.1 0
  rw [fresh_all hT.2] at hFr;have HFr := hid hFr;obtain ⟨hjt, jz0, jz1, jz2⟩ := HInf.out;have hWm : W0.heap.size <= W.heap.size := by have := loh hrr; omega
  clear hI hv0 hrr hFr hs2 hs0 pxb plb peb pbe pbo pbe0 pbo0;gi_wp2
  refine region_round_plan (fun V => V.heap[b7]? = some (.cells (lastC s va vc) 131)) (.rd 1 (.rd 2 (.rd 3 (.rd 4 (.two 0 5 (.op 5 (.rd 6 (.op 7 (.op 8 (.op 9 .done))))) (.rd 6 (.two 0 7 (.op 7 (.op 8 (.op 9 .done))) (.op 0 (.op 8 (.op 9 .done)))))))))) (by kernel_rfl) (by kernel_rfl) (by kernel_rfl) (by kernel_rfl) (fun h => by obtain ⟨_, _, h⟩ := h; exact h) (fun _ _ _ _ _ h => h) hb7W ?_;iterate 4
   try simp only [Act.put, sI, sZ, sS]
   refine plan_rd _ ?_ (by simp only [gA, gZ, gS]; rfl) (by rfl) ?_ ?_;rotate_left
   ·intro V hV;obtain ⟨d0, d1, d2, d3, d4, dz, dl⟩ := cells5 hV;go_simp;try with_reducible rfl
  refine plan_two ?_ ?_
  ·try simp only [Act.put, sI, sZ, sS]
   refine plan_op _ (by simp only [gA, gZ, gS]; rfl) (by rfl) (fun K hK => ?_);have c0 := coh (((Fr.refl (fun _ => False) W).drew).heap h1 (fun h => h)) 0;simp at c0;go_simp;refine hK _ _ (((Fr.refl (fun _ => False) W).drew).heap hb7W (fun h => h)) ?_;clear hK K c0;try simp only [Act.put, sI, sZ, sS]
   refine plan_op _ (by simp only [gA, gZ, gS]; rfl) (by rfl) (fun K hK => ?_);go_simp;refine (HFr.out _ ((Fr.refl (fun _ => False) W).drew)).mono ?_;rintro _ V1 ⟨va1, vc1, rfl, hown1, G1⟩;have F1 : Fq W V1 := Fr.trans (((Fr.refl (fun _ => False) W).drew)) G1 (fun _ _ h => h);have hown1 := own_mono hown1 (Fr.size (((Fr.refl (fun _ => False) W).drew)));try go_simp
   refine hK _ _ (F1.heap hb7W (fun h => h)) ?_;clear hK K;try simp only [Act.put, sI, sZ, sS]
   refine plan_rd _ ?_ (by simp only [gA, gZ, gS]; rfl) (by rfl) ?_ ?_;rotate_left
   ·intro V hV;go_simp;try with_reducible rfl
   try simp only [Act.put, sI, sZ, sS]
   refine plan_op _ (by simp only [gA, gZ, gS]; rfl) (by rfl) (fun K hK => ?_);go_simp;have hn5 : (V1.alloc (.cells #[.int .i64 s.2.2.1.1, .int .i64 s.2.2.1.2, .int .i64 s.1, .int .i64 s.2.1, .slice va1 s.2.2.2.length vc1] 131)).heap[V1.heap.size]? = some (.cells #[.int .i64 s.2.2.1.1, .int .i64 s.2.2.1.2, .int .i64 s.1, .int .i64 s.2.1, .slice va1 s.2.2.2.length vc1] 131) := han _ _;obtain ⟨V2, hV2⟩ : ∃ V2, V1.alloc (.cells #[.int .i64 s.2.2.1.1, .int .i64 s.2.2.1.2, .int .i64 s.1, .int .i64 s.2.1, .slice va1 s.2.2.2.length vc1] 131) = V2 := ⟨_, rfl⟩
   have F2 : Fq W V2 := by rw [<- hV2]; exact F1.alloc _
   have F12 : Fq V1 V2 := by rw [<- hV2]; exact (Fr.refl _ _).alloc _
   rw [hV2] at hn5 ⊢;refine hK _ _ (F2.heap hb7W (fun h => h)) ?_;clear hK K;try simp only [Act.put, sI, sZ, sS]
   refine plan_op _ (by simp only [gA, gZ, gS]; rfl) (by rfl) (fun K hK => ?_);refine wp_app_at rfl (.tmp 25) (.tmp 32) 124 rfl W0.heap.size 131 jt0 _ 5 56 Tryz.underlying124 hjt jz0 jz1 jz2 rfl (by decide) v0 zs.length _ rfl (oN h2 F2) ⟨V1.heap.size, 0, none⟩ 1 1 (slotC ⟨s, va1, vc1⟩) rfl (World.news_of_block hn5) rfl (by simp [Value.oneCell']) (by simp [maxLen]; omega) (by omega) (by have := F2.size; omega) ?_;intro v3 V3 hown3 hg3 hv3;obtain ⟨a3, c3, rfl, -, -, -, -⟩ := oSl hown3;have FV3 : Fr (fun b => v0.ownBlock = some b) W V3 := (F2.mono (fun _ _ h => h.elim)).trans (fr_grown hg3) (fun _ _ h => h);have hb73 := FV3.heap hb7W hb7o;refine hK _ _ hb73 ?_;clear hK K;try simp only [Act.put, sI, sZ, sS]
   refine plan_op _ (by simp only [gA, gZ, gS]; rfl) (by rfl) (fun K hK => ?_);have hbo3 := FV3.heap h1 hboo;have c0 := coh hbo3 0;have cz := foh hbo3 0;have cl := loh hbo3;simp at c0;go_simp;obtain ⟨V4, hV4⟩ : ∃ V4, V3.setCell ⟨(be + 1), 0, none⟩ (.slice a3 (zs.length + 1) c3) = V4 := ⟨_, rfl⟩
   rw [hV4];have F34 : Fr (fun b => b = (be + 1)) V3 V4 := by rw [<- hV4]; exact set1_fr' _ _ _ _
   refine hK _ _ (F34.heap hb73 hb7bo) ?_;clear hK K;try simp only [Act.put, sI, sZ, sS]
   refine plan_done ?_;refine NoPanic.normal ?_;gi_wp2
   have hbo4 : V4.heap[(be + 1)]? = some (.cells #[(.slice a3 (zs.length + 1) c3)] 124) := by rw [<- hV4, hsc _ _ _ _ hbo3]; rfl
   have F4 : Fr (fun b => b = (be + 1) \/ v0.ownBlock = some b) W V4 := (FV3.mono (fun _ _ h => .inr h)).trans F34 (fun _ _ h => .inl h);have hgo : ∀ g, v0.ownBlock = some g -> W0.heap.size <= g /\ ∃ c, W.heap[g]? = some (.cells c 131) := fun g hg => oBT h2 hg.symm
   have K4 : KpO W0.heap.size (be + 1) W V4 := kpO_step hbom h1 hbo4 (F4.mono fun b _ hs => hs.imp id fun hg => ⟨⟨v0, h1, hg⟩, by obtain ⟨-, c, hc⟩ := hgo b hg; exact ⟨c, _, hc⟩⟩) (fun g hg => by
    rcases hv3 with e | e
    ·exact .inr (e ▸ hg)
    ·rw [e] at hg; cases hg;exact .inl F2.size)
   have hown4 : V4.ownsRow W0.heap.size 131 5 (.slice a3 (zs.length + 1) c3) (zs.length + 1) (zs.flatMap slotC ++ slotC ⟨s, va1, vc1⟩) := own_fr1 hown3 F34 (fun g hg e => by
    subst e;obtain ⟨-, c, hc⟩ := oBT hown3 hg.symm;rw [hbo3] at hc; cases hc)
   refine ⟨keeps_of F4 (fun b o ho hc hs => ?_), K4, ⟨(.slice a3 (zs.length + 1) c3), zs ++ [⟨s, va1, vc1⟩], hbo4, ?_, ?_, fun z hz => ?_⟩, K4.keep be _ her (fun e => by rw [e, h1] at her; cases her) (fun ⟨_, c, f, hc⟩ => by rw [her] at hc; cases hc) (.inr rfl), ?_⟩
   ·rcases hs with e | hg
    ·rw [e, h1] at ho; cases ho; cases hc
    ·obtain ⟨-, c, hcc⟩ := hgo b hg; rw [hcc] at ho; cases ho; cases hc
   ·rw [lA, List.flatMap_append, List.length_singleton, List.flatMap_singleton]; exact hown4
   ·rw [List.map_append, List.map_append, h3]; rfl
   ·rcases List.mem_append.1 hz with hz | hz
    ·exact ⟨K4.own (h4 z hz).1 (by decide) ⟨_, h1⟩, (h4 z hz).2⟩
    ·rw [List.mem_singleton] at hz;subst hz;refine ⟨own_fr1 (own_fr1 (oN (own_base hown1) F12) (fr_grown hg3) (fun g hg hs => ?_)) F34 (fun g hg e => ?_), hT.2⟩
     ·have h5 := (own_blkT hown1 hg).1;obtain ⟨-, c, hcc⟩ := hgo g hs;have := loh hcc;omega
     ·have h5 := (own_blkT hown1 hg).1;have := loh h1;omega
   ·exact Fr.trans hfr (F4.mono (S' := fun b => W0.heap.size <= b \/ b = (be + 1)) fun b _ hs => hs.elim .inr fun hg => .inl (hgo b hg).1) (fun b hb hs => by
     exfalso;rcases hs with hs | hs <;> omega)
  ·try simp only [Act.put, sI, sZ, sS]
   refine plan_op _ (by simp only [gA, gZ, gS]; rfl) (by rfl) (fun K hK => ?_);go_simp;refine (HFr.out _ ((Fr.refl (fun _ => False) W).drew)).mono ?_;rintro _ V1 ⟨va1, vc1, rfl, hown1, G1⟩;have F1 : Fq W V1 := Fr.trans (((Fr.refl (fun _ => False) W).drew)) G1 (fun _ _ h => h);have hown1 := own_mono hown1 (Fr.size (((Fr.refl (fun _ => False) W).drew)));try go_simp
   refine hK _ _ (F1.heap hb7W (fun h => h)) ?_;clear hK K;try simp only [Act.put, sI, sZ, sS]
   refine plan_rd _ ?_ (by simp only [gA, gZ, gS]; rfl) (by rfl) ?_ ?_;rotate_left
   ·intro V hV;go_simp;try with_reducible rfl
   refine plan_two ?_ ?_
   ·try simp only [Act.put, sI, sZ, sS]
    refine plan_op _ (by simp only [gA, gZ, gS]; rfl) (by rfl) (fun K hK => ?_);have c0 := coh (F1.heap h1 (fun h => h)) 0;simp at c0;go_simp;refine hK _ _ (F1.heap hb7W (fun h => h)) ?_;clear hK K c0;try simp only [Act.put, sI, sZ, sS]
    refine plan_op _ (by simp only [gA, gZ, gS]; rfl) (by rfl) (fun K hK => ?_);go_simp;have hn5 : (V1.alloc (.cells #[.int .i64 s.2.2.1.1, .int .i64 s.2.2.1.2, .int .i64 s.1, .int .i64 s.2.1, .slice va1 s.2.2.2.length vc1] 131)).heap[V1.heap.size]? = some (.cells #[.int .i64 s.2.2.1.1, .int .i64 s.2.2.1.2, .int .i64 s.1, .int .i64 s.2.1, .slice va1 s.2.2.2.length vc1] 131) := han _ _;obtain ⟨V2, hV2⟩ : ∃ V2, V1.alloc (.cells #[.int .i64 s.2.2.1.1, .int .i64 s.2.2.1.2, .int .i64 s.1, .int .i64 s.2.1, .slice va1 s.2.2.2.length vc1] 131) = V2 := ⟨_, rfl⟩
    have F2 : Fq W V2 := (by rw [<- hV2]; exact F1.alloc _);have F12 : Fq V1 V2 := (by rw [<- hV2]; exact (Fr.refl _ _).alloc _);rw [hV2] at hn5 ⊢;refine hK _ _ (F2.heap hb7W (fun h => h)) ?_;clear hK K;try simp only [Act.put, sI, sZ, sS]
    refine plan_op _ (by simp only [gA, gZ, gS]; rfl) (by rfl) (fun K hK => ?_);refine wp_app_at rfl (.tmp 25) (.tmp 32) 124 rfl W0.heap.size 131 jt0 _ 5 56 Tryz.underlying124 hjt jz0 jz1 jz2 rfl (by decide) v0 zs.length _ rfl (oN h2 F2) ⟨V1.heap.size, 0, none⟩ 1 1 (slotC ⟨s, va1, vc1⟩) rfl (World.news_of_block hn5) rfl (by simp [Value.oneCell']) (by simp [maxLen]; omega) (by omega) (by have := F2.size; omega) ?_;intro v3 V3 hown3 hg3 hv3;obtain ⟨a3, c3, rfl, -, -, -, -⟩ := oSl hown3;have FV3 : Fr (fun b => v0.ownBlock = some b) W V3 := (F2.mono (fun _ _ h => h.elim)).trans (fr_grown hg3) (fun _ _ h => h);have hb73 := FV3.heap hb7W hb7o;refine hK _ _ hb73 ?_;clear hK K;try simp only [Act.put, sI, sZ, sS]
    refine plan_op _ (by simp only [gA, gZ, gS]; rfl) (by rfl) (fun K hK => ?_);have hbo3 := FV3.heap h1 hboo;have c0 := coh hbo3 0;have cz := foh hbo3 0;have cl := loh hbo3;simp at c0;go_simp;obtain ⟨V4, hV4⟩ : ∃ V4, V3.setCell ⟨(be + 1), 0, none⟩ (.slice a3 (zs.length + 1) c3) = V4 := ⟨_, rfl⟩
    rw [hV4];have F34 : Fr (fun b => b = (be + 1)) V3 V4 := (by rw [<- hV4]; exact set1_fr' _ _ _ _);refine hK _ _ (F34.heap hb73 hb7bo) ?_;clear hK K;try simp only [Act.put, sI, sZ, sS]
    refine plan_done ?_;refine NoPanic.normal ?_;gi_wp2
    have hbo4 : V4.heap[(be + 1)]? = some (.cells #[(.slice a3 (zs.length + 1) c3)] 124) := (by rw [<- hV4, hsc _ _ _ _ hbo3]; rfl);have F4 : Fr (fun b => b = (be + 1) \/ v0.ownBlock = some b) W V4 := (FV3.mono (fun _ _ h => .inr h)).trans F34 (fun _ _ h => .inl h);have hgo : ∀ g, v0.ownBlock = some g -> W0.heap.size <= g /\ ∃ c, W.heap[g]? = some (.cells c 131) := fun g hg => oBT h2 hg.symm
    have K4 : KpO W0.heap.size (be + 1) W V4 := kpO_step hbom h1 hbo4 (F4.mono fun b _ hs => hs.imp id fun hg => ⟨⟨v0, h1, hg⟩, by obtain ⟨-, c, hc⟩ := hgo b hg; exact ⟨c, _, hc⟩⟩) (fun g hg => by
     rcases hv3 with e | e
     ·exact .inr (e ▸ hg)
     ·rw [e] at hg; cases hg;exact .inl F2.size)
    have hown4 : V4.ownsRow W0.heap.size 131 5 (.slice a3 (zs.length + 1) c3) (zs.length + 1) (zs.flatMap slotC ++ slotC ⟨s, va1, vc1⟩) := own_fr1 hown3 F34 (fun g hg e => by
     subst e;obtain ⟨-, c, hc⟩ := oBT hown3 hg.symm;rw [hbo3] at hc; cases hc)
    refine ⟨keeps_of F4 (fun b o ho hc hs => ?_), K4, ⟨(.slice a3 (zs.length + 1) c3), zs ++ [⟨s, va1, vc1⟩], hbo4, ?_, ?_, fun z hz => ?_⟩, K4.keep be _ her (fun e => by rw [e, h1] at her; cases her) (fun ⟨_, c, f, hc⟩ => by rw [her] at hc; cases hc) (.inr rfl), ?_⟩
    ·rcases hs with e | hg
     ·rw [e, h1] at ho; cases ho; cases hc
     ·obtain ⟨-, c, hcc⟩ := hgo b hg; rw [hcc] at ho; cases ho; cases hc
    ·rw [lA, List.flatMap_append, List.length_singleton, List.flatMap_singleton]; exact hown4
    ·rw [List.map_append, List.map_append, h3]; rfl
    ·rcases List.mem_append.1 hz with hz | hz
     ·exact ⟨K4.own (h4 z hz).1 (by decide) ⟨_, h1⟩, (h4 z hz).2⟩
     ·rw [List.mem_singleton] at hz;subst hz;refine ⟨own_fr1 (own_fr1 (oN (own_base hown1) F12) (fr_grown hg3) (fun g hg hs => ?_)) F34 (fun g hg e => ?_), hT.2⟩
      ·have h5 := (own_blkT hown1 hg).1;obtain ⟨-, c, hcc⟩ := hgo g hs;have := loh hcc;omega
      ·have h5 := (own_blkT hown1 hg).1;have := loh h1;omega
    ·exact Fr.trans hfr (F4.mono (S' := fun b => W0.heap.size <= b \/ b = (be + 1)) fun b _ hs => hs.elim .inr fun hg => .inl (hgo b hg).1) (fun b hb hs => by
      exfalso;rcases hs with hs | hs <;> omega)
   ·try simp only [Act.put, sI, sZ, sS]
    refine plan_op _ (by simp only [gA, gZ, gS]; rfl) (by rfl) (fun K hK => ?_);go_simp;have hn5 : (V1.alloc (.cells #[.int .i64 s.2.2.1.1, .int .i64 s.2.2.1.2, .int .i64 s.1, .int .i64 s.2.1, .slice va1 s.2.2.2.length vc1] 131)).heap[V1.heap.size]? = some (.cells #[.int .i64 s.2.2.1.1, .int .i64 s.2.2.1.2, .int .i64 s.1, .int .i64 s.2.1, .slice va1 s.2.2.2.length vc1] 131) := han _ _;obtain ⟨V2, hV2⟩ : ∃ V2, V1.alloc (.cells #[.int .i64 s.2.2.1.1, .int .i64 s.2.2.1.2, .int .i64 s.1, .int .i64 s.2.1, .slice va1 s.2.2.2.length vc1] 131) = V2 := ⟨_, rfl⟩
    have F2 : Fq W V2 := (by rw [<- hV2]; exact F1.alloc _);have F12 : Fq V1 V2 := (by rw [<- hV2]; exact (Fr.refl _ _).alloc _);rw [hV2] at hn5 ⊢;refine hK _ _ (F2.heap hb7W (fun h => h)) ?_;clear hK K;try simp only [Act.put, sI, sZ, sS]
    refine plan_op _ (by simp only [gA, gZ, gS]; rfl) (by rfl) (fun K hK => ?_);have c0 := coh (F2.heap h1 (fun h => h)) 0;simp at c0;go_simp;refine hK _ _ (F2.heap hb7W (fun h => h)) ?_;clear hK K c0;try simp only [Act.put, sI, sZ, sS]
    refine plan_op _ (by simp only [gA, gZ, gS]; rfl) (by rfl) (fun K hK => ?_);refine wp_app_at rfl (.tmp 25) (.tmp 32) 124 rfl W0.heap.size 131 jt0 _ 5 56 Tryz.underlying124 hjt jz0 jz1 jz2 rfl (by decide) v0 zs.length _ rfl (oN h2 F2) ⟨V1.heap.size, 0, none⟩ 1 1 (slotC ⟨s, va1, vc1⟩) rfl (World.news_of_block hn5) rfl (by simp [Value.oneCell']) (by simp [maxLen]; omega) (by omega) (by have := F2.size; omega) ?_;intro v3 V3 hown3 hg3 hv3;obtain ⟨a3, c3, rfl, -, -, -, -⟩ := oSl hown3;have FV3 : Fr (fun b => v0.ownBlock = some b) W V3 := (F2.mono (fun _ _ h => h.elim)).trans (fr_grown hg3) (fun _ _ h => h);have hb73 := FV3.heap hb7W hb7o;refine hK _ _ hb73 ?_;clear hK K;try simp only [Act.put, sI, sZ, sS]
    refine plan_op _ (by simp only [gA, gZ, gS]; rfl) (by rfl) (fun K hK => ?_);have hbo3 := FV3.heap h1 hboo;have c0 := coh hbo3 0;have cz := foh hbo3 0;have cl := loh hbo3;simp at c0;go_simp;obtain ⟨V4, hV4⟩ : ∃ V4, V3.setCell ⟨(be + 1), 0, none⟩ (.slice a3 (zs.length + 1) c3) = V4 := ⟨_, rfl⟩
    rw [hV4];have F34 : Fr (fun b => b = (be + 1)) V3 V4 := (by rw [<- hV4]; exact set1_fr' _ _ _ _);refine hK _ _ (F34.heap hb73 hb7bo) ?_;clear hK K;try simp only [Act.put, sI, sZ, sS]
    refine plan_done ?_;refine NoPanic.normal ?_;gi_wp2
    have hbo4 : V4.heap[(be + 1)]? = some (.cells #[(.slice a3 (zs.length + 1) c3)] 124) := (by rw [<- hV4, hsc _ _ _ _ hbo3]; rfl);have F4 : Fr (fun b => b = (be + 1) \/ v0.ownBlock = some b) W V4 := (FV3.mono (fun _ _ h => .inr h)).trans F34 (fun _ _ h => .inl h);have hgo : ∀ g, v0.ownBlock = some g -> W0.heap.size <= g /\ ∃ c, W.heap[g]? = some (.cells c 131) := fun g hg => oBT h2 hg.symm
    have K4 : KpO W0.heap.size (be + 1) W V4 := kpO_step hbom h1 hbo4 (F4.mono fun b _ hs => hs.imp id fun hg => ⟨⟨v0, h1, hg⟩, by obtain ⟨-, c, hc⟩ := hgo b hg; exact ⟨c, _, hc⟩⟩) (fun g hg => by
     rcases hv3 with e | e
     ·exact .inr (e ▸ hg)
     ·rw [e] at hg; cases hg;exact .inl F2.size)
    have hown4 : V4.ownsRow W0.heap.size 131 5 (.slice a3 (zs.length + 1) c3) (zs.length + 1) (zs.flatMap slotC ++ slotC ⟨s, va1, vc1⟩) := own_fr1 hown3 F34 (fun g hg e => by
     subst e;obtain ⟨-, c, hc⟩ := oBT hown3 hg.symm;rw [hbo3] at hc; cases hc)
    refine ⟨keeps_of F4 (fun b o ho hc hs => ?_), K4, ⟨(.slice a3 (zs.length + 1) c3), zs ++ [⟨s, va1, vc1⟩], hbo4, ?_, ?_, fun z hz => ?_⟩, K4.keep be _ her (fun e => by rw [e, h1] at her; cases her) (fun ⟨_, c, f, hc⟩ => by rw [her] at hc; cases hc) (.inr rfl), ?_⟩
    ·rcases hs with e | hg
     ·rw [e, h1] at ho; cases ho; cases hc
     ·obtain ⟨-, c, hcc⟩ := hgo b hg; rw [hcc] at ho; cases ho; cases hc
    ·rw [lA, List.flatMap_append, List.length_singleton, List.flatMap_singleton]; exact hown4
    ·rw [List.map_append, List.map_append, h3]; rfl
    ·rcases List.mem_append.1 hz with hz | hz
     ·exact ⟨K4.own (h4 z hz).1 (by decide) ⟨_, h1⟩, (h4 z hz).2⟩
     ·rw [List.mem_singleton] at hz;subst hz;refine ⟨own_fr1 (own_fr1 (oN (own_base hown1) F12) (fr_grown hg3) (fun g hg hs => ?_)) F34 (fun g hg e => ?_), hT.2⟩
      ·have h5 := (own_blkT hown1 hg).1;obtain ⟨-, c, hcc⟩ := hgo g hs;have := loh hcc;omega
      ·have h5 := (own_blkT hown1 hg).1;have := loh h1;omega
    ·exact Fr.trans hfr (F4.mono (S' := fun b => W0.heap.size <= b \/ b = (be + 1)) fun b _ hs => hs.elim .inr fun hg => .inl (hgo b hg).1) (fun b hb hs => by
      exfalso;rcases hs with hs | hs <;> omega)
 case done =>
  rintro D xs W hDD hxs hI hE hK;obtain ⟨v, zs, h1, h2, h3, h4⟩ := hI.ex;have d0 := coh hI.er 0;have d1 := coh h1 0;simp at d0 d1;have dl := loh hI.er;have dl1 := loh h1;have HI := hi2 hI.fr (aI h2 (aI h3 (aI h4 (aI hE (aI hK hxs)))));clear hI h1 h2 h3 h4 hE hK hs2 hs0 pxb plb peb pbe pbo pbe0 pbo0 hxs;gi_wp2
  obtain ⟨hfr, h2, h3, h4, hE, hK, hxs⟩ := HI.out;have FP : Fr (fun b => b = D) W (W.putObj D (.deferred none)) := (Fr.refl (fun b => b = D) _).putObj (fun _ => rfl) _;have nc : ∀ b c t f, W.heap[b]? = some (.cells c t f) -> ¬ b = D := fun b c t f hb e => by rw [e, hK] at hb; cases hb
  refine slots_ret (v := v) hK ⟨v, zs, rfl, fr_k hfr FP (by omega), ?_, h3.trans hxs, fun z hz => bkT_fr (h4 z hz) FP (fun g c hg e => nc _ _ _ _ hg e), ⟨⟨tops, L, (hE.putL hDD hlt h00 hK rfl).mono (by omega) hN, HT.out.2.2.1⟩, HT.out.1.high, HT.out.1.ok⟩⟩ rfl rfl;exact oRf (own_mono h2 hwW) FP (fun g c hg e => nc _ _ _ _ hg e)
 case stop => exact fun _ _ _ _ _ _ h => h.elim
end
section
open Go.RowKit Go.Sg Go.Sg.Bits Go.Sg.Clk CP SF
theorem refs_one (l : List Rf) : ∀ u ∈ l.flatMap refC, u.oneCell' = true := by
 intro u hu;obtain ⟨r, _, hr⟩ := List.mem_flatMap.1 hu;simp only [refC, List.mem_cons, List.not_mem_nil, or_false] at hr;rcases hr with rfl | rfl <;> rfl
def PagesU (B : Blk) (bx bd : Nat) (y : Cs) (N : Nat) (x : DirD) (tops slots : List Rf) (L : List Bp) (sp : Int) (w : World) (e : Ending) (w' : World) : Prop :=
 ∃ (a : Option Addr) (n c : Nat), e = .returned (.tuple #[.slice a n c, .int .i64 0]) /\ FrB B w w' /\ (∃ ps, ps = ddT none (sortI ((((x.rp, x.rs) :: tops) ++ slots).map (·.1))) /\ n = ps.length /\ w'.ownsRow w.heap.size 3 1 (.slice a n c) n (ps.map (Value.int .i64))) /\ IdxM w' B bx bd y noP false N x tops slots L sp
variable {y : Cs} {x : DirD} {slots tops : List Rf} {L : List Bp}
theorem xpages_ok {w : World} {B : Blk} {bx bd : Nat} {N : Nat} {sp : Int} (h : IdxM w B bx bd y noP false N x tops slots L sp) (hN : N + 10 <= 90000) :
  Calls Tryz.prog 72 #[xptr bx] w (PagesU B bx bd y (N + 10) x tops slots L sp w) := by
 have hsm := h.small;have HPg := hid (pages_ok h.st h.dir h.c (by omega));obtain ⟨i0, i1, i2, i3, i4, iz, il⟩ := cells5 (show IdxAt w bx B.s bd 3 3 sp from h.idx);have htl := h.c.tlen;have hsl := h.c.slen;have HM := hid h;have HSm := hid hsm;clear h hsm;go_enter Tryz.func72, Tryz.ntmps72;go_wp2_with fail
 refine HPg.out.mono ?_;rintro e w1 ⟨v1, err, rfl, F1, ⟨rfl, hown1, hS1⟩ | ⟨_, ha, _⟩⟩;rotate_left
 ·cases ha
 have hM1 := HM.out.frB F1 hS1;have HAll := hid (all_ok hM1.st hM1.dir hM1.c (by have := HSm.out; omega));have HM1 := hi2 hM1 (aI hown1 F1);clear hown1 hS1 F1 HPg i0 i1 i2 i3 i4 iz il hM1;obtain ⟨i0, i1, i2, i3, i4, iz, il⟩ := cells5 (show IdxAt w1 bx B.s bd 3 3 sp from HM1.out.1.idx);go_wp2_with fail
 refine HAll.out.mono ?_;rintro e w2 ⟨v2, err, rfl, F2, ⟨rfl, hown2, hS2⟩ | ⟨_, ha, _⟩⟩;rotate_left
 ·cases ha
 have hM2 := HM1.out.1.frB F2 hS2;have hown1 := own_frB HM1.out.2.1 (by decide) F2;obtain ⟨i35, hi, hz0, hz1, hz2⟩ := info_parts Tryz.info35;obtain ⟨j3, hj, jz0, jz1, jz2⟩ := info_parts Tryz.info3;have hwb := HM1.out.2.2.size;have hnn := aI hown1 hown2;obtain ⟨a1, c1, rfl, -, -, -, -⟩ := oSl hown1;obtain ⟨a2, c2, rfl, hn2c, hc2m, -, hsome⟩ := oSl hown2;have hl1 : ((x.rp, x.rs) :: tops).length <= 3 := by simp only [lC]; have := HSm.out; omega
 have hl2 : slots.length <= 8 := by have := HSm.out; omega
 have hl20 : 0 < slots.length := by rw [hsl]; unfold DirD.slots; exact Nat.pow_pos (by decide)
 obtain ⟨g2, cap2, cur2, e2, hb2, hg2, -, -, hs2, ht2⟩ : ∃ g cap cur, Value.slice a2 slots.length c2 = .slice (some ⟨g, 0, none⟩) slots.length cap /\ w1.heap.size <= g /\ w2.heap[g]? = some (.cells cur 35) /\ slots.length <= cap /\ cap <= maxLen /\ cur.size = cap * 2 /\ cur.toList.take (slots.length * 2) = slots.flatMap refC := by
  obtain ⟨_, ⟨h0, h1⟩ | ⟨g, cap, cur, r⟩⟩ := hown2
  ·omega
  ·exact ⟨g, cap, cur, r⟩
 cases e2;have hsrc : ∀ j u, (slots.flatMap refC)[j]? = some u -> w2.cell? ((⟨g2, 0, none⟩ : Addr).add j) = some u := fun j u hj => by
  rw [addr_add, Nat.zero_add, coh hg2];rw [<- ht2, gT] at hj;split at hj
  ·simpa using hj
  ·cases hj
 obtain ⟨n1, hn1⟩ : ∃ n1, ((x.rp, x.rs) :: tops).length = n1 := ⟨_, rfl⟩
 obtain ⟨n2, hn2⟩ : ∃ n2, slots.length = n2 := ⟨_, rfl⟩
 obtain ⟨pl, hpl⟩ : ∃ pl, ((x.rp, x.rs) :: tops) ++ slots = pl := ⟨_, rfl⟩
 have hpll : pl.length = n1 + n2 := by rw [<- hpl, lA, hn1, hn2]
 have HPl := hi2 hpl hpll;have hown1' : w2.ownsRow w.heap.size 35 2 (.slice a1 n1 c1) n1 (((x.rp, x.rs) :: tops).flatMap refC) := by rw [<- hn1]; exact hown1
 have HO := hi2 hM2 (aI hown1' F2);rw [hn1, hn2];rw [hn1] at hl1;rw [hn2] at hl2 hl20;have hnl : (slots.flatMap refC).length = n2 * 2 := by rw [refsC_len, hn2]
 clear hown1 hown2 hS2 F2 hnn hsome hg2 hs2 ht2 hn1 hn2 hpl hpll hown1' hM2 HAll hsl htl i0 i1 i2 i3 i4 iz il;go_wp2_with (at_builtin; go_loud (refine wpList_append_own_at _ rfl (.tmp 34) (.tmp 35) 33 rfl w.heap.size 35 i35 _ 2 16 Tryz.underlying33 hi hz0 hz1 hz2 rfl (by decide) _ _ _ rfl HO.out.2.1 ⟨g2, 0, none⟩ n2 c2 (slots.flatMap refC) rfl hnl hsrc (refs_one _) (by simp [maxLen]; omega) (by omega) (by have := HO.out.2.2.size; omega) ?_))
 rintro v3 w3 hown3 hg3 - -;obtain ⟨a3, c3, rfl, -, -, -, -⟩ := oSl hown3;obtain ⟨n, hn⟩ : ∃ n, n1 + n2 = n := ⟨_, rfl⟩
 rw [hn] at hown3 ⊢;have hn11 : n <= 11 := by omega
 have hown3' : w3.ownsRow w.heap.size 35 2 (.slice a3 n c3) n (pl.flatMap refC) := by
  rw [<- HPl.out.1, List.flatMap_append]; exact hown3
 have FB3 : FrB B w w3 := Fr.trans (FrB.trans HM1.out.2.2 HO.out.2.2) (fr_grown hg3) (fun b hb e => by have := (own_blkT HO.out.2.1 e).1; omega);have hM3 : IdxM w3 B bx bd y noP false (N + 1 + 1 + x.leaves) x tops slots L sp := by
  refine HO.out.1.frG (fr_grown hg3) (fun r e => ?_) (fun g c t ht hg e => ?_) (fun e => ?_)
  ·obtain ⟨-, c, hc⟩ := oBT HO.out.2.1 e.symm;exact absurd (HO.out.1.st.role_kd r hc) (by decide)
  ·obtain ⟨-, c', hc⟩ := oBT HO.out.2.1 e.symm;rw [hg] at hc; cases hc; exact absurd ht (by decide)
  ·have h1 := (own_blkT HO.out.2.1 e).1;have := HM.out.bd_lt; omega
 have H3 := hi2 hM3 (aI hown3' (aI FB3 (show pl.length = n by rw [HPl.out.2, hn])));clear hown3 hg3 hown3' FB3 hM3 hn hsrc hb2 hn2c hc2m hnl hl1 hl20 hl2;go_wp2_with fail
 go_loopw [7, 38] (fun uv iv wr => ∃ q : Nat, q <= n /\ iv = .int .i64 q /\ wr.ownsRow w3.heap.size 3 1 uv q (((pl.take q).map (·.1)).map (Value.int .i64)) /\ Fq w3 wr) (fun _ iv _ => n - (intOf iv).toNat)
 case atStart => exact ⟨0, Nat.zero_le _, rfl, ownsRow_nil' _ _ _ _, Fr.refl _ _⟩
 case round =>
  obtain ⟨q, hqn, rfl, hown, hFr⟩ := hrel;obtain ⟨ua, uc, rfl, -, -, -, -⟩ := oSl hown;have HOw := hi2 hown hFr;clear hown hFr;by_cases hlt : q < n
  ·have hqi : (q : Int) < (n : Int) := by omega
   have hqw : wrap64 ((q : Int) + 1) = ((q + 1 : Nat) : Int) := by simp only [wrap64]; omega
   obtain ⟨r, hr⟩ : ∃ r, pl[q]? = some r := ⟨_, gE (by rw [H3.out.2.2.2]; exact hlt)⟩
   obtain ⟨g, rfl, hgl, c0, c1'⟩ := ownR_at (show wr.ownsRow w.heap.size 35 2 (.slice a3 pl.length c3) pl.length (pl.flatMap refC) by rw [H3.out.2.2.2]; exact oN H3.out.2.1 HOw.out.2) hr;have HR := hid hr;clear hr;go_upto_region 13 with fail
   obtain ⟨b9, hb9⟩ : ∃ b, wr.heap.size = b := ⟨_, rfl⟩
   obtain ⟨wv, hwv⟩ : ∃ wv, wr.alloc (.cells #[.int .i64 r.1, .int .i64 r.2] 35) = wv := ⟨_, rfl⟩
   have Fv : Fq wr wv := by rw [<- hwv]; exact (Fr.refl _ _).alloc _
   have g9 : wv.heap[b9]? = some (.cells #[.int .i64 r.1, .int .i64 r.2] 35) := by rw [<- hwv, <- hb9]; exact han _ _
   rw [hwv, hb9];obtain ⟨d0, d1, dz, dl⟩ := cells2 g9;have HV := hi2 (oN HOw.out.1 Fv) (HOw.out.2.trans Fv (fun _ _ h => h));clear hwv hb9 Fv g9 c0 c1' hgl;go_wp2_with (at_builtin; refine wpList_append_own_at _ rfl (.tmp 42) (.tmp 45) 52 rfl w3.heap.size 3 j3 _ 1 8 Tryz.underlying52 hj jz0 jz1 jz2 rfl (by decide) _ _ _ rfl (oN HV.out.1 ((Fr.refl _ _).alloc _)) ⟨wv.heap.size, 0, none⟩ 1 1 [.int .i64 r.1] rfl rfl (World.news_of_block (cs := #[.int .i64 r.1]) (t := 3) (fr := (0, 0)) (han _ _)) (by simp [Value.oneCell']) (by simp [maxLen]; omega) (by omega) (by have := HV.out.2.size; simp; omega) ?_)
   rintro v4 w4 hown4 hg4 - -;have hF4 : Fq w3 w4 := ((HV.out.2).alloc _).trans (fr_grown hg4) (fun b hb e => by have := (own_blkT HV.out.1 e).1; omega);have hown5 : w4.ownsRow w3.heap.size 3 1 v4 (q + 1) (((pl.take (q + 1)).map (·.1)).map (Value.int .i64)) := by
    have e : (((pl.take (q + 1)).map (·.1)).map (Value.int .i64)) = List.take q (List.map (Value.int .i64 ∘ fun x => x.1) pl) ++ [.int .i64 r.1] := (by rw [List.take_add_one, HR.out]; simp [List.map_take]);rw [e]; exact hown4
   have H4 := hi2 hown5 hF4;clear hown4 hg4 hown5 hF4 d0 d1 dz dl;go_wp2_with fail
   go_roundw;case rel => exact ⟨q + 1, hlt, by go_num, H4.out.1, H4.out.2⟩
   case measure => simp [intOf]; omega
  ·obtain rfl : q = n := by omega
   have hqi : ¬ (q : Int) < (q : Int) := by omega
   obtain ⟨ps, hps⟩ : ∃ ps, pl.map (·.1) = ps := ⟨_, rfl⟩
   have hpl : ps.length = q := by rw [<- hps, List.length_map, H3.out.2.2.2]
   have hown : OwnI wr w3.heap.size (.slice ua q uc) ps := by
    have := HOw.out.1;rw [tL (Nat.le_of_eq H3.out.2.2.2), hps] at this;show wr.ownsRow _ _ _ _ ps.length _;rw [hpl]; exact this
   have HSo := hid (sorti_ok hown (by omega));have HOn := hid hown;have HPs := hi2 hps hpl;clear hown hps hpl;go_wp2_with fail
   refine HSo.out.mono ?_;rintro e w4 ⟨rfl, hown4, F4⟩;have hF4 : Fq w3 w4 := HOw.out.2.trans F4 (fun b hb e => by have := (oBT HOn.out e).1; omega);have hsl : (sortI ps).length = q := by rw [List.length_mergeSort]; exact HPs.out.2
   have HCo := hid (compact_ok hown4 (nT (Nat.le_of_eq (show _ = q by rw [List.length_mergeSort]; exact HPs.out.2)) (by omega)));have H4 := hi2 hown4 hF4;clear hown4 F4 hF4 hsl HSo;go_wp2_with fail
   refine HCo.out.mono ?_;rintro e w5 ⟨a5, c5, rfl, hown5, F5⟩;have hF5 : Fq w3 w5 := H4.out.2.trans F5 (fun b hb e => by have := (oBT H4.out.1 e.symm).1; omega);have H5 := hi2 hown5 hF5;clear hown5 F5 hF5 HCo;go_wp2_with fail
   go_ret2;refine ⟨a5, _, c5, rfl, FrB.trans H3.out.2.2.1 (FrB.none H5.out.2), ⟨ddT none (sortI ps), by rw [<- HPs.out.1, <- HPl.out.1], rfl, own_mono H5.out.1 H3.out.2.2.1.size⟩, (H3.out.1.mono (by have := HSm.out; omega) hN).fr0 H5.out.2⟩
theorem commit_contx {k : Nat} (h : y.dead k = false) : y.commit.cont k = y.cont k := by
 show (if y.dead k then none else y.cont k) = y.cont k;rw [h]; rfl
theorem DirC.commitx (h : DirC y x tops slots) (hL : ∀ k ∈ pgs x.rp tops, y.dead k = false) : DirC y.commit x tops slots := by
 have hz := h.z;refine ⟨⟨hz.most, hz.per, hz.fits, hz.room⟩, h.slen, h.tlen, ⟨h.leaf.sr, h.leaf.tr, fun i r hi => ?_⟩, h.rr, ?_⟩
 ·have hr := (h.leaf.tr r (gM hi)).1;obtain ⟨m, hm⟩ := iZ hr;rw [hm, commit_contx (hL m (by simp only [pgs, List.mem_cons, List.mem_map]; exact .inr ⟨r, gM hi, by omega⟩)), <- hm];exact h.leaf.at_ i r hi
 ·obtain ⟨m, hm⟩ := iZ h.rr.1;rw [hm, commit_contx (hL m (by simp only [pgs, List.mem_cons]; exact .inl (by omega))), <- hm];exact h.root
section
variable {w w' : World} {B : Blk} {bx bd : Nat} {y : Cs} {N : Nat} {x : DirD} {tops slots : List Rf} {L : List Bp} {sp : Int}
theorem IdxM.flush (h : IdxM w B bx bd y noP false N x tops slots L sp) (hN : N + 8 <= 90000) :
  Calls Tryz.prog 39 #[B.ptr] w (fun e w' => e = .returned (.int .i64 0) /\ FrB B w w' /\ IdxM w' B bx bd y noP false (N + 8) x tops slots L sp /\ StoreL 1 w' B y noP false (N + 8)) := by
 have hp := h.places;refine (flush_c h.st (by rw [hp]; exact hN)).mono ?_;rintro e w' ⟨err, rfl, F, ⟨rfl, hL⟩ | ⟨_, ha, _⟩⟩
 ·rw [hp] at hL;exact ⟨rfl, F, h.frB F hL.c, hL⟩
 ·cases ha
theorem IdxM.sync (h : IdxM w B bx bd y noP false N x tops slots L sp) (hl : StoreL 1 w B y noP false N) (hN : N + 1 <= 90000) :
  Calls Tryz.prog 41 #[.pointer (some ⟨B.d, 0, none⟩)] w (fun e w' => e = .returned (.int .i64 0) /\ FrB B w w' /\ IdxM w' B bx bd y noP false (N + 1) x tops slots L sp) := by
 refine (sync_c hl hN).mono ?_;rintro e w' ⟨F, ⟨rfl, hL⟩ | ⟨_, ha, _⟩⟩
 ·exact ⟨rfl, F, h.frB F hL.c⟩
 ·cases ha
theorem IdxM.commit (h : IdxM w B bx bd y noP false N x tops slots L sp) (h8 : L.length <= 8) (hg : y.gen < 2199023255552) :
  Calls Tryz.prog 37 #[B.ptr] w (fun e w' => ∃ n, e = .returned (.tuple #[]) /\ FrB B w w' /\ IdxM w' (Blk.next B n) bx bd y.commit noP false N x tops slots L sp) := by
 refine (commit_c h.st hg noP (fun s v hv => by cases hv) (fun k _ _ => rfl)).mono ?_;rintro e w' ⟨n, rfl, hS, F, hn⟩;have hs := h.small;have hl := h.live;have htl := h.c.tlen;refine ⟨n, rfl, F, ⟨hS, idxAt_frB h.idx F, h.dir.frB F, h.c.commitx (fun k hk => (hl.tk k (List.mem_append_left _ hk)).2.2), hl.commit ?_, fun q hq => ⟨(h.bk q hq).1, ?_⟩, h.len, h.plan, h.pages, h.room, h.places, h.per, h.base⟩⟩
 ·simp only [pgs, lA, lC, List.length_map]; omega
 ·obtain ⟨h1, h2⟩ := h.bk q hq;obtain ⟨m, hm⟩ := iZ h1.1;have hk := (hl.tk q.1.1.toNat (List.mem_append_right _ (List.mem_map.2 ⟨q, hq, rfl⟩))).2.2;rw [show ((q.1.1.toNat : Nat) : Int) = (q.1.1.toNat : Int) from rfl] at hk;rw [hm] at hk h2 ⊢;rw [commit_contx (by simpa using hk)];exact h2
end
def KpJ (w0 : World) (base bs bv bx k : Nat) (t : Tr) (V : World) : Prop :=
 ∃ (B : Blk) (bd : Nat) (y : Cs) (x : DirD) (t' : Tr) (N : Nat) (sp : Int), IdxT V B bx bd y noP false N x t' sp /\ (N + 150 <= 153 + 60 * k + 150 * t'.refs.length /\ sp + 1 = t'.refs.length) /\ bare t' = t /\ (B.base = base /\ B.s = bs /\ B.d = bv) /\ Fq w0 V /\ (base = w0.heap.size /\ base <= bx /\ base <= bd) /\ y.gen <= k + 1
section
variable {w0 V V' : World} {base bs bv bx k : Nat} {t : Tr}
theorem KpJ.fr (h : KpJ w0 base bs bv bx k t V) : Fq w0 V := by
 obtain ⟨_, _, _, _, _, _, _, _, _, _, _, h, _⟩ := h; exact h
theorem KpJ.fr0 (h : KpJ w0 base bs bv bx k t V) (F : Fq V V') : KpJ w0 base bs bv bx k t V' := by
 obtain ⟨B, bd, y, x, t', N, sp, hT, h2, h3, h4, h5, h6⟩ := h;exact ⟨B, bd, y, x, t', N, sp, hT.fr0 F, h2, h3, h4, h5.trans F (fun _ _ h => h), h6⟩
theorem KpJ.mono (h : KpJ w0 base bs bv bx k t V) {k' : Nat} (hk : k <= k') : KpJ w0 base bs bv bx k' t V := by
 obtain ⟨B, bd, y, x, t', N, sp, hT, h2, h3, h4, h5, h6⟩ := h;exact ⟨B, bd, y, x, t', N, sp, hT, ⟨by omega, h2.2⟩, h3, h4, h5, h6.1, by have := h6.2; omega⟩
theorem KpJ.high (h : KpJ w0 base bs bv bx k t V) : t.high <= 3 := by
 obtain ⟨B, bd, y, x, t', N, sp, hT, h2, rfl, h4⟩ := h;rw [bare_high, hT.high]; exact hT.depth
theorem kj_put (h : KpJ w0 base bs bv bx k t V) (E : Bt) (o : Int) (hE : goodE E) (hk : k <= 900) {R : PutRes} (hR : putS 8 t t.high ((t.refs.length : Int) - 1) E o = R) : Calls Tryz.prog 64 #[xptr bx, btV E, .int .i64 o] V (fun e w' => e = .returned (.tuple #[.bool R.lost, .int .i64 0]) /\ KpJ w0 base bs bv bx (k + 1) R.t w' /\ FrI base V w') := by
 have h8 := refs8 h.high;obtain ⟨B, bd, y, x, t', N, sp, hT, ⟨hN, hsp⟩, rfl, hB, hF, hbs, hg⟩ := h;obtain ⟨tops, L, hM, -⟩ := hT.ex;have hr1 := refs_pos t';rw [refs_bare] at h8 hR;rw [bare_high, hT.high, show ((t'.refs.length : Int) - 1) = sp by omega] at hR;have hp := xput_ok hT E o hE (by omega) (by omega);rw [hR] at hp;refine hp.mono ?_;rintro e w' ⟨lost, err, rfl, F, ⟨rfl, rfl, y', x', t2, N', hT', hN', hb', hx', -, hg', -⟩ | ⟨_, ha, _⟩⟩
 ·have hsr : R.sp + 1 = R.t.refs.length := by
   rw [<- hR]; exact putS_refs 8 _ _ _ (by rw [refs_bare]; exact hsp)
  have FI : FrI base V w' := by rw [<- hB.1]; exact frX2_frI F hM.dir hM.idx (by omega)
  exact ⟨rfl, ⟨B, bd, y', x', t2, N', R.sp, hT', ⟨by omega, by rw [hsr, <- hb', refs_bare]⟩, hb', hB, FI.fr0 (by omega) hF, hbs, by omega⟩, FI⟩
 ·cases ha
theorem kj_drop (h : KpJ w0 base bs bv bx k t V) {hash : Nat} (hh : hash < 18446744073709551616) (hk : k <= 900) : Calls Tryz.prog 70 #[xptr bx, .int .u64 hash] V (fun e w' => e = .returned (.tuple #[.bool (dropS t t.high hash).2, .int .i64 0]) /\ KpJ w0 base bs bv bx (k + 1) (dropS t t.high hash).1 w' /\ FrI base V w') := by
 have h8 := refs8 h.high;obtain ⟨B, bd, y, x, t', N, sp, hT, ⟨hN, hsp⟩, rfl, hB, hF, hbs, hg⟩ := h;obtain ⟨tops, L, hM, -⟩ := hT.ex;rw [refs_bare] at h8;have hp := xdrop_ok hT hh (by omega);rw [bare_high, hT.high];refine hp.mono ?_;rintro e w' ⟨was, err, rfl, F, ⟨rfl, rfl, y', x', t2, hT', ⟨hb', hrl⟩, hx', -, hg', -⟩ | ⟨_, ha, _⟩⟩
 ·have FI : FrI base V w' := by rw [<- hB.1]; exact frX2_frI F hM.dir hM.idx (by omega)
  exact ⟨rfl, ⟨B, bd, y', x', t2, N + 23, sp, hT', ⟨by omega, by omega⟩, hb', hB, FI.fr0 (by omega) hF, hbs, by omega⟩, FI⟩
 ·cases ha
theorem kj_slots (h : KpJ w0 base bs bv bx k t V) (hk : k <= 900) : Calls Tryz.prog 71 #[xptr bx] V (fun e w' => ∃ (v : Value) (zs : List Slt) (t' : Tr), e = .returned (.tuple #[v, .int .i64 0]) /\ w'.ownsRow V.heap.size 131 5 v zs.length (zs.flatMap slotC) /\ zs.map (·.s) = slotsD t' t.high 0 0 /\ (bare t' = t /\ t'.refs.Nodup /\ t'.high = t.high /\ okT t' 0 0) /\ (∀ z ∈ zs, BkT z w') /\ KpJ w0 base bs bv bx (k + 1) t w' /\ FrI base V w') := by
 have h8 := refs8 h.high;obtain ⟨B, bd, y, x, t', N, sp, hT, ⟨hN, hsp⟩, rfl, hB, hF, hbs, hg⟩ := h;obtain ⟨tops, L, hM, hP⟩ := hT.ex;rw [refs_bare] at h8;rw [bare_high, hT.high];refine (xslots_ok hT (by omega)).mono ?_;rintro e w' ⟨v, zs, rfl, F, ho, hm, hz, hI⟩;have FI : FrI base V w' := by rw [<- hB.1]; exact frB_frI F
 exact ⟨v, zs, t', rfl, ho, hm, ⟨rfl, refs_nodup (List.Nodup.sublist (List.sublist_append_right _ _) hM.live.nd) hP, hT.high, hT.ok⟩, hz, ⟨B, bd, y, x, t', N + 12, sp, hI, ⟨by omega, hsp⟩, rfl, hB, FI.fr0 (by omega) hF, hbs, by omega⟩, FI⟩
theorem kj_any (h : KpJ w0 base bs bv bx k t V) (E : Bt) (o : Int) (hh : E.hash < 18446744073709551616) (hk : k <= 900) : Calls Tryz.prog 64 #[xptr bx, btV E, .int .i64 o] V (fun e w' => ∃ (v : Value) (t2 : Tr), e = .returned v /\ KpJ w0 base bs bv bx (k + 1) t2 w' /\ FrI base V w') := by
 cases hr : rightE E with
 | true =>
  refine (kj_put h E o (good_right hh hr) hk rfl).mono ?_;rintro e w' ⟨rfl, h2, F⟩;exact ⟨_, _, rfl, h2, F⟩
 | false =>
  refine (xput_bad hh hr bx o V).mono ?_;rintro e w' ⟨rfl, F⟩;exact ⟨_, _, rfl, (h.fr0 F).mono (by omega), FrI.none F⟩
theorem kj_depth (h : KpJ w0 base bs bv bx k t V) : Calls Tryz.prog 67 #[xptr bx] V (IntP t.high V) := by
 obtain ⟨B, bd, y, x, t', N, sp, hT, -, rfl, -⟩ := h;obtain ⟨tops, L, hM, -⟩ := hT.ex;have := xdepth_ok hM.idx hM.dir;rw [bare_high, hT.high];exact this
def KpF (w0 : World) (base bs bv bx k : Nat) (t : Tr) (V : World) : Prop :=
 ∃ (B : Blk) (bd : Nat) (y : Cs) (x : DirD) (t' : Tr) (N : Nat) (sp : Int), IdxT V B bx bd y noP false N x t' sp /\ (N + 150 <= 153 + 60 * k + 150 * t'.refs.length /\ sp + 1 = t'.refs.length) /\ bare t' = t /\ (B.base = base /\ B.s = bs /\ B.d = bv) /\ Fq w0 V /\ (base = w0.heap.size /\ base <= bx /\ base <= bd) /\ y.gen <= k + 1 /\ StoreL 1 V B y noP false N
theorem kj_flush (h : KpJ w0 base bs bv bx k t V) (hk : k <= 900) : Calls Tryz.prog 39 #[.pointer (some ⟨bs, 0, none⟩)] V (fun e w' => e = .returned (.int .i64 0) /\ KpF w0 base bs bv bx (k + 1) t w' /\ FrI base V w') := by
 have h8 := refs8 h.high;obtain ⟨B, bd, y, x, t', N, sp, hT, ⟨hN, hsp⟩, rfl, ⟨hB, rfl, rfl⟩, hF, hbs, hg⟩ := h;obtain ⟨tops, L, hM, hP⟩ := hT.ex;rw [refs_bare] at h8;refine (hM.flush (by omega)).mono ?_;rintro e w' ⟨rfl, F, hM', hL⟩;have FI : FrI base V w' := by rw [<- hB]; exact frB_frI F
 exact ⟨rfl, ⟨B, bd, y, x, t', N + 8, sp, ⟨⟨tops, L, hM', hP⟩, hT.high, hT.ok⟩, ⟨by omega, hsp⟩, rfl, ⟨hB, rfl, rfl⟩, FI.fr0 (by omega) hF, hbs, by omega, hL⟩, FI⟩
theorem kj_sync (h : KpF w0 base bs bv bx k t V) (hk : k <= 900) : Calls Tryz.prog 41 #[.pointer (some ⟨bv, 0, none⟩)] V (fun e w' => e = .returned (.int .i64 0) /\ KpJ w0 base bs bv bx (k + 1) t w' /\ FrI base V w') := by
 obtain ⟨B, bd, y, x, t', N, sp, hT, ⟨hN, hsp⟩, rfl, ⟨hB, rfl, rfl⟩, hF, hbs, hg, hl⟩ := h;obtain ⟨tops, L, hM, hP⟩ := hT.ex;have h8 := refs8 (show t'.high <= 3 by rw [hT.high]; exact hT.depth);refine (hM.sync hl (by omega)).mono ?_;rintro e w' ⟨rfl, F, hM'⟩;have FI : FrI base V w' := by rw [<- hB]; exact frB_frI F
 exact ⟨rfl, ⟨B, bd, y, x, t', N + 1, sp, ⟨⟨tops, L, hM', hP⟩, hT.high, hT.ok⟩, ⟨by omega, hsp⟩, rfl, ⟨hB, rfl, rfl⟩, FI.fr0 (by omega) hF, hbs, by omega⟩, FI⟩
theorem kj_commit (h : KpJ w0 base bs bv bx k t V) (hk : k <= 900) : Calls Tryz.prog 37 #[.pointer (some ⟨bs, 0, none⟩)] V (fun e w' => e = .returned (.tuple #[]) /\ KpJ w0 base bs bv bx (k + 1) t w' /\ FrI base V w') := by
 have h8 := refs8 h.high;obtain ⟨B, bd, y, x, t', N, sp, hT, ⟨hN, hsp⟩, rfl, ⟨hB, rfl, rfl⟩, hF, hbs, hg⟩ := h;obtain ⟨tops, L, hM, hP⟩ := hT.ex;rw [refs_bare] at h8;refine (hM.commit (by rw [hP.length_eq, lds_len]; exact h8) (by omega)).mono ?_;rintro e w' ⟨n, rfl, F, hM'⟩;have FI : FrI base V w' := by rw [<- hB]; exact frB_frI F
 exact ⟨rfl, ⟨Blk.next B n, bd, y.commit, x, t', N, sp, ⟨⟨tops, L, hM', hP⟩, hT.high, hT.ok⟩, ⟨by omega, hsp⟩, rfl, ⟨hB, rfl, rfl⟩, FI.fr0 (by omega) hF, hbs, by show y.gen + 1 <= _; omega⟩, FI⟩
end
theorem mem_tuX {t : Nat -> Bool} {m : Nat} {x : Int} : x ∈ tu t m ↔ ∃ n : Nat, x = n /\ n < m /\ t n = true := by
 simp only [tu, List.mem_map, List.mem_filter, List.mem_range];constructor
 ·rintro ⟨n, ⟨h1, h2⟩, rfl⟩; exact ⟨n, rfl, h1, h2⟩
 ·rintro ⟨n, rfl, h1, h2⟩; exact ⟨n, ⟨h1, h2⟩, rfl⟩
theorem tu_nodupX (t : Nat -> Bool) (m : Nat) : (tu t m).Nodup := by
 unfold tu;rw [List.Nodup, List.pairwise_map];exact (List.nodup_range.filter _).imp (fun h e => h (Int.ofNat.inj e))
theorem sortI_pw (l : List Int) : (sortI l).Pairwise (· <= ·) := by
 have := List.pairwise_mergeSort (le := fun x y : Int => decide (x <= y)) (fun a b c h1 h2 => by simp at *; omega) (fun a b => by simp; omega) l;exact this.imp (fun h => by simpa using h)
theorem castN_nodup {l : List Nat} (h : l.Nodup) : (l.map fun (k : Nat) => (k : Int)).Nodup := by
 rw [List.Nodup, List.pairwise_map];exact h.imp (fun h e => h (Int.ofNat.inj e))
theorem refs_in_slots : ∀ (t : Tr) (g : Nat) (r : Rf), t.high <= g -> (r ∈ t.slots g ↔ r ∈ t.refs)
 | .leaf q es, g, r, _ => by
  have := Nat.pow_pos (n := g) (show 0 < 2 by decide);simp only [Tr.slots, Tr.refs, List.mem_replicate, List.mem_singleton];constructor
  ·exact fun h => h.2
  ·exact fun h => ⟨by omega, h⟩
 | .node l r', g, r, h => by
  simp only [Tr.high] at h;simp only [Tr.slots, Tr.refs, List.mem_append];rw [refs_in_slots l (g - 1) r (by omega), refs_in_slots r' (g - 1) r (by omega)]
theorem slots_mem {t : Tr} {g : Nat} (h : t.high <= g) (hP : L.Perm (lds t 0 0)) (r : Rf) : r ∈ t.slots g ↔ ∃ q ∈ L, q.1 = r := by
 rw [refs_in_slots t g r h, <- lvs_refs t 0 0, List.mem_map];constructor
 ·rintro ⟨s, hs, rfl⟩;exact ⟨_, lvs_in hP hs, rfl⟩
 ·rintro ⟨q, hq, rfl⟩;rw [hP.mem_iff, lds_lvs, List.mem_map] at hq;obtain ⟨s, hs, rfl⟩ := hq;exact ⟨s, hs, rfl⟩
section
variable {w w' : World} {B : Blk} {bx bd : Nat} {y : Cs} {P : Prot} {a : Bool} {N : Nat} {x : DirD} {tops slots : List Rf} {L : List Bp} {sp : Int}
theorem IdxM.pagesN (h : IdxM w B bx bd y P a N x tops slots L sp) (hsl : ∀ r, r ∈ slots ↔ ∃ q ∈ L, q.1 = r) :
  (ddT none (sortI ((((x.rp, x.rs) :: tops) ++ slots).map (·.1)))).Perm ((pgs x.rp tops ++ bpg L).map fun (k : Nat) => (k : Int)) := by
 obtain ⟨hs, -⟩ := ddT_sorted _ none (sortI_pw ((((x.rp, x.rs) :: tops) ++ slots).map (·.1))) (fun z hz => by cases hz);refine (List.perm_ext_iff_of_nodup (hs.imp (fun h => by omega)) (castN_nodup h.live.nd)).2 fun z => ?_
 have hm : z ∈ ddT none (sortI ((((x.rp, x.rs) :: tops) ++ slots).map (·.1))) ↔ z ∈ (((x.rp, x.rs) :: tops) ++ slots).map (·.1) := by
  constructor
  ·exact fun hz => (List.mergeSort_perm _ _).mem_iff.1 (mem_of_ddT _ _ _ hz)
  ·exact fun hz => (ddT_mem _ none z ((List.mergeSort_perm _ _).mem_iff.2 hz)).elim id (fun e => by cases e)
 rw [hm];have h0 := h.c.rr.1;have ht : ∀ r ∈ tops, 0 <= r.1 := fun r hr => (h.c.leaf.tr r hr).1
 have hl : ∀ q ∈ L, 0 <= q.1.1 := fun q hq => (h.bk q hq).1.1
 simp only [List.map_append, List.map_cons, List.mem_append, List.mem_cons, List.mem_map, pgs];constructor
 ·rintro ((rfl | ⟨r, hr, rfl⟩) | ⟨r, hr, rfl⟩)
  ·exact .inl (.inl (by omega))
  ·exact .inl (.inr ⟨r.1.toNat, ⟨r, hr, rfl⟩, by have := ht r hr; omega⟩)
  ·obtain ⟨q, hq, rfl⟩ := (hsl r).1 hr;exact .inr ⟨q.1.1.toNat, ⟨q, hq, rfl⟩, by have := hl q hq; omega⟩
 ·rintro ((h1 | ⟨k, ⟨r, hr, rfl⟩, rfl⟩) | ⟨k, ⟨q, hq, rfl⟩, rfl⟩)
  ·exact .inl (.inl (by omega))
  ·exact .inl (.inr ⟨r, hr, by have := ht r hr; omega⟩)
  ·exact .inr ⟨q.1, (hsl _).2 ⟨q, hq, rfl⟩, by have := hl q hq; omega⟩
theorem IdxM.partsN (h : IdxM w B bx bd y P a N x tops slots L sp) {L2 L3 : List Int} (h2 : RowOf y.dying L2) (h3 : RowOf y.dead L3) :
  (tu y.taken y.pages).length = (pgs x.rp tops ++ bpg L).length + L2.length + L3.length := by
 have hap := h.st.apart;have hin : (∀ k, y.dying k = true -> 0 <= k /\ k < y.pages) /\ (∀ k, y.dead k = true -> 0 <= k /\ k < y.pages) := by
  obtain ⟨⟨x', c, hS, rfl, hi⟩, -, -⟩ := h.st;exact ⟨hS.inr.2.1, hS.inr.2.2⟩
 have hp : (tu y.taken y.pages).Perm (((pgs x.rp tops ++ bpg L).map fun (k : Nat) => (k : Int)) ++ L2 ++ L3) := by
  refine (List.perm_ext_iff_of_nodup (tu_nodupX _ _) ?_).2 fun z => ?_
  ·rw [List.nodup_append, List.nodup_append];refine ⟨⟨castN_nodup h.live.nd, h2.2.imp (fun h => by omega), fun z hz u hu e => ?_⟩, h3.2.imp (fun h => by omega), fun z hz u hu e => ?_⟩
   ·subst e;obtain ⟨k, hk, rfl⟩ := List.mem_map.1 hz;have := (h.live.tk k hk).2.1;rw [(h2.1 _).1 hu] at this; cases this
   ·subst e;rcases List.mem_append.1 hz with hz | hz
    ·obtain ⟨k, hk, rfl⟩ := List.mem_map.1 hz;have := (h.live.tk k hk).2.2;rw [(h3.1 _).1 hu] at this; cases this
    ·have := hap.ye _ ((h2.1 _).1 hz);rw [(h3.1 _).1 hu] at this; cases this
  ·rw [mem_tuX, List.mem_append, List.mem_append, List.mem_map, h2.1, h3.1];constructor
   ·rintro ⟨n, rfl, h1, h2⟩;rcases h.live.all n h1 h2 with h3 | h3 | h3
    ·exact .inl (.inl ⟨n, h3, rfl⟩)
    ·exact .inl (.inr h3)
    ·exact .inr h3
   ·rintro ((⟨n, hn, rfl⟩ | hz) | hz)
    ·exact ⟨n, rfl, h.live.lt n hn, (h.live.tk n hn).1⟩
    ·obtain ⟨h1, h2⟩ := hin.1 z hz;obtain ⟨n, rfl⟩ := iZ h1;exact ⟨n, rfl, by omega, hap.yt n hz⟩
    ·obtain ⟨h1, h2⟩ := hin.2 z hz;obtain ⟨n, rfl⟩ := iZ h1;exact ⟨n, rfl, by omega, hap.et n hz⟩
 rw [hp.length_eq, lA, lA, List.length_map]
end
def ownN (t : Tr) : Nat := 1 + (2 ^ t.high + 6 - 1) / 6 + t.refs.length
section
variable {w0 V V' : World} {base bs bv bx k : Nat} {t : Tr}
theorem own_cnt {w : World} {B : Blk} {bx bd : Nat} {y : Cs} {P : Prot} {a : Bool} {N : Nat} {x : DirD} {tops : List Rf} {t : Tr} {L : List Bp} {sp : Int} (h : IdxM w B bx bd y P a N x tops (t.slots x.depth) L sp) (hP : L.Perm (lds t 0 0)) (hh : t.high = x.depth) : (pgs x.rp tops ++ bpg L).length = ownN t := by
 have h1 := h.c.tlen;have h2 := hP.length_eq;rw [lds_len] at h2;unfold ownN;rw [lA, List.length_map, h2, hh];simp only [pgs, lC, List.length_map];have h3 : x.leaves = (2 ^ x.depth + 6 - 1) / 6 := by unfold DirD.leaves DirD.slots; rw [h.per.1]
 rw [h1, h3];generalize (2 ^ x.depth + 6 - 1) / 6 = z;omega
theorem kj_pages (h : KpJ w0 base bs bv bx k t V) (hk : k <= 900) : Calls Tryz.prog 72 #[xptr bx] V (fun e w' => ∃ (a : Option Addr) (c : Nat), e = .returned (.tuple #[.slice a (ownN t) c, .int .i64 0]) /\ KpJ w0 base bs bv bx (k + 1) t w' /\ FrI base V w') := by
 have h8 := refs8 h.high;obtain ⟨B, bd, y, x, t', N, sp, hT, ⟨hN, hsp⟩, rfl, hB, hF, hbs, hg⟩ := h;obtain ⟨tops, L, hM, hP⟩ := hT.ex;rw [refs_bare] at h8;have ho : ownN (bare t') = ownN t' := by unfold ownN; rw [bare_high, refs_bare]
 rw [ho];refine (xpages_ok hM (by omega)).mono ?_;rintro e w' ⟨a, n, c, rfl, F, ⟨ps, hps, rfl, -⟩, hM'⟩;have FI : FrI base V w' := by rw [<- hB.1]; exact frB_frI F
 have hl : ps.length = ownN t' := by
  rw [hps, (hM.pagesN (slots_mem (Nat.le_of_eq hT.high) hP)).length_eq, List.length_map, own_cnt hM hP hT.high]
 rw [hl];exact ⟨a, c, rfl, ⟨B, bd, y, x, t', N + 10, sp, ⟨⟨tops, L, hM', hP⟩, hT.high, hT.ok⟩, ⟨by omega, hsp⟩, rfl, hB, FI.fr0 (by omega) hF, hbs, by omega⟩, FI⟩
theorem kj_parts (h : KpJ w0 base bs bv bx k t V) : Calls Tryz.prog 32 #[.pointer (some ⟨bs, 0, none⟩)] V (fun e w' => ∃ (a0 a1 a2 a3 : Option Addr) (n0 n1 n2 n3 c0 c1 c2 c3 : Nat), e = .returned (.agg #[.slice a0 n0 c0, .slice a1 n1 c1, .slice a2 n2 c2, .slice a3 n3 c3]) /\ (n0 = ownN t + n2 + n3 /\ n0 <= 200) /\ Fq V w') := by
 obtain ⟨B, bd, y, x, t', N, sp, hT, ⟨hN, hsp⟩, rfl, ⟨hB, rfl, rfl⟩, hF, hbs, hg⟩ := h;obtain ⟨tops, L, hM, hP⟩ := hT.ex;refine (parts_c hM.st).mono ?_;rintro e w' ⟨v0, v1, v2, v3, L1, L2, L3, rfl, i0, i1, i2, i3, ⟨-, h2, h3⟩, F⟩;obtain ⟨u0, x0, rfl, -⟩ := i0;obtain ⟨u1, x1, rfl, -⟩ := i1;obtain ⟨u2, x2, rfl, -⟩ := i2;obtain ⟨u3, x3, rfl, -⟩ := i3;refine ⟨_, _, _, _, _, _, _, _, _, _, _, _, rfl, ⟨?_, ?_⟩, F⟩
 ·rw [hM.partsN h2 h3, own_cnt hM hP hT.high];unfold ownN; rw [bare_high, refs_bare]
 ·have : (tu y.taken y.pages).length <= y.pages := by
   unfold tu;rw [List.length_map];exact nT (List.length_filter_le _ _) (by rw [List.length_range]; exact nR _)
  rw [hM.pages] at this ⊢; omega
end
end
end Go.Proofs.YtgdhaaokolfdoaaGreatDoor
