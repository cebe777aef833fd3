/- A pack of texts: DQ, DT, DU. Conditions: those that each text names. -/
import Derived.Test.YtgdhaaokolfdoaaGreatDoorNAQ
import Derived.OrdersIn
import Derived.OrdersHeld
import Derived.StillTail
import Derived.RangeFuncCalls
import Derived.StillTailTactics
import Derived.Shelf.RegionOpen
import Derived.Test.YtgdhaaokolfdoaaGreatDoorNAN
set_option maxHeartbeats 16000000
set_option maxRecDepth 100000
set_option linter.all false
namespace Go.Proofs.YtgdhaaokolfdoaaGreatDoor
section
open Go.Proofs Go.RowKit Go.Sg Go.Shelf CP SF
attribute [local go_sem] Oper.semAt_some
theorem groups_any (bd : Nat) (a : Option Addr) (n c : Nat) (w : World) :
  Calls Tryz.prog 126 #[dptr bd, .slice a n c] w fun e w' => e = .returned (.func (.func 186) #[] #[.pointer (some ⟨w.heap.size + 1, 0, none⟩), .pointer (some ⟨w.heap.size, 0, none⟩)]) /\ (w.alloc (.cells #[dptr bd] 83)).alloc (.cells #[.slice a n c] 52) = w' := by
 go_enter Tryz.func126, Tryz.ntmps126;go_wp2_with fail
 go_ret;exact ⟨rfl, rfl⟩
structure Grp where
 page : Nat
 a : Option Addr
 n : Nat
 c : Nat
 part : List Int
abbrev encG (x : Grp) : Array Value := #[.int .i64 x.page, .slice x.a x.n x.c]
def GrpT (per : Nat) (L : List Int) (x : Grp) (W : World) : Prop := SlI W x.a x.n x.c x.part /\ (∀ z ∈ x.part, z ∈ L /\ ∃ k : Nat, z = k /\ k / per = x.page) /\ (0 < x.n /\ x.n <= 100000) /\ ∃ g off c, x.a = some ⟨g, off, none⟩ /\ W.heap[g]? = some (.cells c 3)
def KpG (bs bdir bd : Nat) (A C : World) : Prop := (∀ (g : Nat) (c : Array Value) (f : Nat × Nat), A.heap[g]? = some (.cells c 3 f) -> C.heap[g]? = some (.cells c 3 f)) /\ C.heap[bs]? = A.heap[bs]? /\ C.heap[bdir]? = A.heap[bdir]? /\ (∀ i, C.cell? ⟨bd, 1, none⟩ = some i ↔ A.cell? ⟨bd, 1, none⟩ = some i)
variable {bd bdir bs n : Nat} {A C : World}
theorem KpG.trans {D : World} (h : KpG bs bdir bd A C) (k : KpG bs bdir bd C D) : KpG bs bdir bd A D :=
 ⟨fun g c f hg => k.1 g c f (h.1 g c f hg), k.2.1.trans h.2.1, k.2.2.1.trans h.2.2.1, fun i => (k.2.2.2 i).trans (h.2.2.2 i)⟩
theorem owns_fr {β : Type} {Bn : Nat} {J : β -> World -> Prop} (hJ : OwnFrom Bn J) {s : β} {W W' : World} (h : J s W) (F : Fq W W') : J s W' :=
 hJ s W W' none h ⟨F.os, F.tape, F.output, F.size, fun b hb _ => F.block b hb (fun h => h)⟩ (fun r e => by cases e)
theorem KpG.drewN (bs bdir bd : Nat) (W : World) (m : Nat) : KpG bs bdir bd W (W.drewN m) := ⟨fun _ _ _ h => h, rfl, rfl, fun _ => Iff.rfl⟩
theorem ownI_kp {b : Nat} {v : Value} {ks : List Value} (h : A.ownsRow b 3 1 v n ks) (K : KpG bs bdir bd A C) : C.ownsRow b 3 1 v n ks := by
 obtain ⟨hl, h0 | ⟨g, cap, cur, hv, hb, hg, r⟩⟩ := h
 ·exact ⟨hl, .inl h0⟩
 ·exact ⟨hl, .inr ⟨g, cap, cur, hv, hb, K.1 g cur _ hg, r⟩⟩
def sliceLen : Value -> Nat
 | .slice _ m _ => m
 | _ => 0
abbrev sortI (l : List Int) : List Int := l.mergeSort (fun x y => decide (x <= y))
theorem groupsf_tell {w : World} {s : Nat} {x : DirD} {a : Option Addr} {c : Nat} {l : List Int} (hs : w.heap[bs]? = some (.cells #[.slice a n c] 52)) (hdb : w.heap[bdir]? = some (.cells #[dptr bd] 83)) (hD : DirAt w bd s x) (hl : SlI w a n c l) (hn : n <= 100000) (hper : 0 < x.per /\ x.per <= 41) (hin : ∀ z ∈ l, 0 <= z /\ z < 1048577) :
  SeqTell Fence.wide 9 Tryz.prog 186 #[.pointer (some ⟨bs, 0, none⟩), .pointer (some ⟨bdir, 0, none⟩)] encG (GrpT x.per l) (KpG bs bdir bd) (fun xs => xs.flatMap (·.part) = sortI l) (fun _ => True) n w := fun lp J Jx W hW hJ hJx hY h0 => by
 have FW : Fq w W := Fr.of_below hW;have hs' := FW.heap hs (fun h => h);have hdb' := FW.heap hdb (fun h => h);have hD' : DirAt W bd s x := FW.heap hD (fun h => h);have HCl := hid (clonei_ok (hl.fr0 FW) hn);have cs := coh hs' 0;simp at cs;have HX := hi2 hs' (aI hdb' (aI hD' (aI hl.len (aI hin h0))));clear hs hdb hD hl hin hs' hdb' hD' hW FW h0;refine callsIn_of_wp Tryz.func186 rfl trivial ?_ rfl;simp only [Tryz.ntmps186, zA, lC, List.length_nil, Nat.reduceAdd, Nat.reduceSub, Array.replicate_succ, Array.replicate_zero, List.push_toArray, List.append_toArray, List.nil_append, List.cons_append];gi_wp2_with (fail)
 refine (callsIn_wide.2 HCl.out).mono ?_;rintro e W1 ⟨v, rfl, hown, F1⟩;have HSo := hid (sorti_ok hown (by rw [HX.out.2.2.2.1]; exact hn));have H1 := hi2 hown F1;clear hown F1 cs HCl;gi_wp2_with (fail)
 refine (callsIn_wide.2 HSo.out).mono ?_;rintro e W2 ⟨rfl, hown2, F2⟩;have F02 : Fq W W2 := H1.out.2.trans F2 (fun b hb e => by have := (oBT H1.out.1 e).1; omega);have hlen : (sortI l).length = n := by rw [List.length_mergeSort]; exact HX.out.2.2.2.1
 obtain ⟨va, vc, rfl, hvc, -, -, -⟩ := oSl hown2;have hb2 := F02.heap HX.out.1 (fun h => h);have hd2 := F02.heap HX.out.2.1 (fun h => h);have hD2 := F02.heap HX.out.2.2.1 (fun h => h);have hown2' : W2.ownsRow W.heap.size 3 1 (.slice va n vc) n ((sortI l).map (Value.int .i64)) := by rw [<- hlen]; exact hown2
 have H2 := hi2 hown2' (aI hb2 (aI hd2 (aI hD2 (aI (owns_fr hJ HX.out.2.2.2.2.2 F02) hlen))));have hmem : ∀ z ∈ sortI l, z ∈ l := fun z hz => (List.mergeSort_perm l _).mem_iff.1 hz
 have HM := hid hmem;rw [hlen] at hvc ⊢;clear hown2 hown2' F2 F02 hb2 hd2 hD2 hlen hmem HSo H1;gi_wp2
 gi_loopw [4] (fun tv wr => ∃ (q : Nat) (pre : List Grp) (ad : Option Addr) (cq : Nat), q <= n /\ tv = .slice ad (n - q) cq /\ (q < n -> (∃ g, va = some ⟨g, 0, none⟩ /\ ad = some ⟨g, q, none⟩) /\ n - q <= cq) /\ J pre wr /\ pre.flatMap (·.part) = (sortI l).take q /\ pre.length <= q /\ KpG bs bdir bd W2 wr) (fun tv _ => sliceLen tv)
 case atStart =>
  refine ⟨0, [], va, vc, Nat.zero_le _, rfl, fun h => ⟨?_, hvc⟩, H2.out.2.2.2.2.1, rfl, nR _, KpG.drewN bs bdir bd W2 0⟩;obtain ⟨z, hz⟩ : ∃ z, (sortI l)[0]? = some z := ⟨_, gE (by rw [H2.out.2.2.2.2.2]; exact h)⟩
  obtain ⟨-, ⟨h1, h2⟩ | ⟨g, cap, cur, hv, _⟩⟩ := H2.out.1
  ·omega
  ·cases hv; exact ⟨g, rfl, rfl⟩
 case round =>
  obtain ⟨q, pre, ad, cq, hq, rfl, hsub, hJp, hpre, hplen, hkp⟩ := hrel;by_cases hlt : q < n
  ·obtain ⟨⟨g, rfl, rfl⟩, hcq⟩ := hsub hlt;have hd : decide ((0 : Int) < ((n - q : Nat) : Int)) = true := by simp; omega
   have hd0 : (0 : Int) < ((n - q : Nat) : Int) := by omega
   have hownr : wr.ownsRow W.heap.size 3 1 (.slice (some ⟨g, 0, none⟩) n vc) n ((sortI l).map (Value.int .i64)) := ownI_kp H2.out.1 hkp;have hcell : ∀ (i : Nat) z, (sortI l)[i]? = some z -> wr.cell? ⟨g, i, none⟩ = some (.int .i64 z) := fun i z hz => by
    obtain ⟨g', e', _, hc⟩ := own_cell hownr (show ((sortI l).map (Value.int .i64))[i]? = some (.int .i64 z) by rw [gP, hz]; rfl);cases e';exact hc
   have hnat : ∀ (i : Nat), i < n -> ∃ k : Nat, (sortI l)[i]? = some (k : Int) /\ k < 1048577 := fun i hi => by
    have h1 := gE (l := sortI l) (i := i) (by rw [H2.out.2.2.2.2.2]; exact hi);have h2 := HX.out.2.2.2.2.1 _ (HM.out _ (gM h1));obtain ⟨k, hk⟩ := iZ h2.1;exact ⟨k, by rw [h1, hk], by omega⟩
   obtain ⟨k0, hk0, hk0b⟩ := hnat q hlt;have c0 := hcell q _ hk0;have cb := coh (hkp.2.2.1.trans H2.out.2.2.1) 0;have cp := (hkp.2.2.2 _).2 (cells6 (show DirAt W2 bd s x from H2.out.2.2.2.1)).2.1;simp at cb;have hquo : ∀ k : Nat, k < 1048577 -> wrap64 ((k : Int) / (x.per : Int)) = ((k / x.per : Nat) : Int) := fun k hk => by
    have h1 : (k : Int) / (x.per : Int) = ((k / x.per : Nat) : Int) := (by simp);have h2 := Nat.div_le_self k x.per;rw [h1]; generalize k / x.per = qq at *; simp only [wrap64]; omega
   have hq0 := hquo k0 hk0b;have HC := hi2 hcell (aI hnat (aI hquo (aI hk0 (aI hJp (aI hpre hkp)))));have hp0 := hper.1;clear hownr hcell hnat hquo hk0 hJp hpre hkp hsub;gi_wp2
   gi_big_quiet_th (fail)
   gi_wp2
   rw [hq0];obtain ⟨pg, hpg⟩ : ∃ pg, k0 / x.per = pg := ⟨_, rfl⟩
   rw [hpg];have HP := hid hpg;obtain ⟨r, hr⟩ : ∃ r, n - q = r := ⟨_, rfl⟩
   have HRr := hid hr;rw [hr] at hcq hd hd0 ⊢;have hr0 : 0 < r := by omega
   have hrn : q + r = n := by omega
   clear hpg hr hq0 c0;gi_loopw [6] (fun jv wr2 => ∃ (j m : Nat), 1 <= j /\ j <= r /\ jv = .int .i64 j /\ wr2 = wr.drewN m /\ ∀ (i : Nat) z, i < j -> (sortI l)[q + i]? = some z -> ∃ kk : Nat, z = kk /\ kk / x.per = pg) (fun jv _ => r - (intOf jv).toNat)
   case atStart =>
    refine ⟨1, nq, nR _, hr0, rfl, rfl, fun i z hi hz => ?_⟩;obtain rfl : i = 0 := by omega
    rw [Nat.add_zero, HC.out.2.2.2.1] at hz;cases hz;exact ⟨k0, rfl, HP.out⟩
   case round =>
    obtain ⟨j, m, hj1, hjr, rfl, rfl, hall⟩ := hrel;have HA := hid hall;clear hall;have hto := to52 (some ⟨g, q, none⟩) r cq j (by omega);have hfrom := from52 (some ⟨g, q, none⟩) r cq j hjr;by_cases hgo : j < r /\ ∃ kk : Nat, (sortI l)[q + j]? = some (kk : Int) /\ kk / x.per = pg
    ·obtain ⟨hlt2, kk, hkk, hkp⟩ := hgo;have hdj : decide ((j : Int) < (r : Int)) = true := (by simp; omega);have hji : (j : Int) < (r : Int) := (by omega);have cj : wr.cell? ⟨g, q + j, none⟩ = some (.int .i64 kk) := HC.out.1 _ _ hkk;have hkb : kk < 1048577 := by
      obtain ⟨k', h1, h2⟩ := HC.out.2.1 (q + j) (by omega);rw [hkk] at h1;have := Option.some.inj h1;omega
     have hqj := HC.out.2.2.1 kk hkb;rw [hkp] at hqj;have heq : ((pg : Int) == (pg : Int)) = true := (by simp);have HK := hid hkk;have HKP := hid hkp;clear hkk hkp;gi_wp2
     gi_big_quiet_th (fail)
     gi_wp2
     go_roundw;case rel =>
      refine ⟨j + 1, m + nq, by omega, hlt2, by go_num, by simp [World.drewN, Nat.add_assoc], fun i z hi hz => ?_⟩;by_cases hij : i = j
      ·subst hij;rw [HK.out] at hz; cases hz;exact ⟨kk, rfl, HKP.out⟩
      ·exact HA.out i z (by omega) hz
     case measure => simp [intOf]; omega
    ·have hpl : (((sortI l).drop q).take j).length = j := (by rw [lT, List.length_drop, H2.out.2.2.2.2.2]; omega);have hpg : ∀ i z, (((sortI l).drop q).take j)[i]? = some z -> i < j /\ (sortI l)[q + i]? = some z := fun i z hz => by
      have hi := (gI.1 hz).1;rw [hpl] at hi;rw [gT, if_pos hi, List.getElem?_drop] at hz;exact ⟨hi, hz⟩
     have hG : ∀ mm, GrpT x.per l ⟨pg, some ⟨g, q, none⟩, j, cq, ((sortI l).drop q).take j⟩ (wr.drewN mm) := fun mm => by
      have hownr : wr.ownsRow W.heap.size 3 1 (.slice (some ⟨g, 0, none⟩) n vc) n ((sortI l).map (Value.int .i64)) := ownI_kp H2.out.1 HC.out.2.2.2.2.2.2;obtain ⟨-, cg, hcg⟩ := oBT hownr (g := g) rfl;refine ⟨⟨hpl, fun i z hz => ?_, fun e => by cases e⟩, fun z hz => ?_, ⟨by show 0 < j; omega, by show j <= 100000; omega⟩, ⟨g, q, cg, rfl, hcg⟩⟩
      ·obtain ⟨hi, hz'⟩ := hpg i z hz;exact ⟨g, q, rfl, loh hcg, HC.out.1 _ _ hz'⟩
      ·obtain ⟨i, hi⟩ := List.mem_iff_getElem?.1 hz;obtain ⟨hi', hz'⟩ := hpg i z hi;exact ⟨HM.out z (gM hz'), HA.out i z hi' hz'⟩
     have hfl : ∀ (xs : List Grp), xs = pre ++ [⟨pg, some ⟨g, q, none⟩, j, cq, ((sortI l).drop q).take j⟩] -> xs.flatMap (·.part) = (sortI l).take (q + j) := fun xs e => by
      rw [e, List.flatMap_append, HC.out.2.2.2.2.2.1, List.take_add];simp
     have HG := hi2 hG hfl;have hjn : j <= n - q := (by omega);clear hpl hpg hG hfl;by_cases hlt2 : j < r
     ·have hdj : decide ((j : Int) < (r : Int)) = true := (by simp; omega);have hji : (j : Int) < (r : Int) := (by omega);obtain ⟨kk, hkk, hkb⟩ := HC.out.2.1 (q + j) (by omega);have hne : kk / x.per ≠ pg := fun e => hgo ⟨hlt2, kk, hkk, e⟩
      have cj : wr.cell? ⟨g, q + j, none⟩ = some (.int .i64 kk) := HC.out.1 _ _ hkk;have hqj := HC.out.2.2.1 kk hkb;generalize kk / x.per = pk at *
      have heq : ((pk : Int) == (pg : Int)) = false := (by simp; omega);clear hgo hkk hne;gi_wp2
      gi_big_quiet_th (fail)
      have hGm := HG.out.1 (m + nq);obtain ⟨fn, tmps, assign, body, hy, hRR⟩ := hY pre _ _ (owns_fr hJ HC.out.2.2.2.2.1 ((Fr.refl _ _).drewN (m + nq))) hGm (by omega);dsimp only [encG] at hy;have hdr : (wr.drewN m).drewN nq = wr.drewN (m + nq) := (by simp [World.drewN, Nat.add_assoc]);rw [hdr];clear hdr hGm;gi_wp2
      refine hRR.mono ?_;rintro e W3 (⟨rfl, hJ3, hk3⟩ | ⟨rfl, hJx3⟩)
      ·have H3 := hi2 hJ3 (KpG.trans (KpG.trans HC.out.2.2.2.2.2.2 (KpG.drewN bs bdir bd wr (m + nq))) hk3);clear hJ3 hk3;gi_wp2
       go_roundw;case rel =>
        refine ⟨q + j, pre ++ [⟨pg, some ⟨g, q, none⟩, j, cq, ((sortI l).drop q).take j⟩], some ⟨g, q + j, none⟩, cq - j, by omega, ?_, fun hq' => ⟨⟨g, rfl, rfl⟩, by omega⟩, H3.out.1, HG.out.2 _ rfl, by simp; omega, H3.out.2⟩;rw [show n - (q + j) = r - j by omega]
       case measure => simp [sliceLen]; omega
      ·have HJX := hid hJx3;clear hJx3;gi_wp2
       refine bodyPost_ret (results_none rfl _ _ _) rfl ?_;exact ⟨⟨_, rfl⟩, .inr ⟨_, trivial, HJX.out⟩⟩
     ·have hdj : decide ((j : Int) < (r : Int)) = false := (by simp; omega);clear hgo;gi_wp2
      gi_big_quiet_th (fail)
      have hGm := HG.out.1 (m + nq);obtain ⟨fn, tmps, assign, body, hy, hRR⟩ := hY pre _ _ (owns_fr hJ HC.out.2.2.2.2.1 ((Fr.refl _ _).drewN (m + nq))) hGm (by omega);dsimp only [encG] at hy;have hdr : (wr.drewN m).drewN nq = wr.drewN (m + nq) := (by simp [World.drewN, Nat.add_assoc]);rw [hdr];clear hdr hGm;gi_wp2
      refine hRR.mono ?_;rintro e W3 (⟨rfl, hJ3, hk3⟩ | ⟨rfl, hJx3⟩)
      ·have H3 := hi2 hJ3 (KpG.trans (KpG.trans HC.out.2.2.2.2.2.2 (KpG.drewN bs bdir bd wr (m + nq))) hk3);clear hJ3 hk3;gi_wp2
       go_roundw;case rel =>
        refine ⟨q + j, pre ++ [⟨pg, some ⟨g, q, none⟩, j, cq, ((sortI l).drop q).take j⟩], if cq = j then some ⟨g, q, none⟩ else some ⟨g, q + j, none⟩, cq - j, by omega, ?_, fun hq' => absurd hq' (by omega), H3.out.1, HG.out.2 _ rfl, by simp; omega, H3.out.2⟩;rw [show n - (q + j) = r - j by omega]
       case measure => simp [sliceLen]; omega
      ·have HJX := hid hJx3;clear hJx3;gi_wp2
       refine bodyPost_ret (results_none rfl _ _ _) rfl ?_;exact ⟨⟨_, rfl⟩, .inr ⟨_, trivial, HJX.out⟩⟩
  ·obtain rfl : q = n := by omega
   have e0 : q - q = 0 := Nat.sub_self q;rw [e0];have HC := hi2 hJp hpre;clear hJp hpre hkp hsub;gi_wp2
   go_end0
   exact ⟨⟨_, rfl⟩, .inl ⟨pre, by rw [HC.out.2, tL (by rw [H2.out.2.2.2.2.2]; exact nR _)], HC.out.1⟩⟩
end
section
open Go.RowKit Go.Sg Go.Sg.Bits Go.Sg.Clk CP SF
abbrev SetT (y : Cs) (rp : Int) (tops : List Rf) (rest : List Nat) (M : Nat) (K : Prop) (c0 : Cont) (per : Nat) (sl : List Rf) : Prop := Tops y rp tops rest M K c0 (fun j => some (loadM (chunk sl per j)))
variable {y : Cs} {sl tops : List Rf} {rest : List Nat} {M m : Nat} {K : Prop} {c0 : Cont}
theorem set_step {rp : Int} {per : Nat} (h : SetT y rp tops rest M K c0 per sl) (ap : Apart y.taken y.fresh y.dying y.dead) (hper : 0 < per) {i : Nat} {q : Rf} (hi : tops[i]? = some q) (hm : PutIs y q.1.toNat m) (hpg : y.pages <= 2147483647) (hg : y.gen < 9223372036854775808) {L : List Nat} (hL : ∀ n ∈ L, n / per = i) (r : Rf) :
  SetT (y.put q.1.toNat m (loadM (setM (chunk sl per i) (L.map (· % per)) r))) rp (tops.set i ((m : Int), (y.gen : Int))) rest M K c0 per (setM sl L r) := by
 have ht := put_tops h ap hi hm hpg hg (loadM (setM (chunk sl per i) (L.map (· % per)) r));have e : (fun j => if j = i then some (loadM (setM (chunk sl per i) (L.map (· % per)) r)) else some (loadM (chunk sl per j))) = fun j => some (loadM (chunk (setM sl L r) per j)) := by
  funext j
  by_cases hj : j = i
  ·subst hj; rw [if_pos rfl, chunk_set hL hper]
  ·rw [if_neg hj, chunk_other hL hj]
 rw [e] at ht;exact ht
theorem set_end {y' : Cs} {x : DirD} (h : SetT y x.rp tops rest M K c0 x.per sl) (ap : Apart y.taken y.fresh y.dying y.dead) (hz : DirZ y x) (hsl : sl.length = x.slots) (htl : tops.length = x.leaves) (hsr : ∀ r ∈ sl, rightR r) (hm : PutIs y x.rp.toNat m) (he : y' = y.put x.rp.toNat m (loadM tops)) :
  DirC y' { x with rp := m, rs := y.gen } tops sl /\ Live y' (pgs m tops ++ rest) M /\ (K -> AllFresh y' (pgs m tops ++ rest)) /\ (∀ k ∈ rest, y'.cont k = c0 k) /\ (Like y y' /\ y'.gen = y.gen /\ y'.dead = y.dead) := by
 subst he;obtain ⟨ht, hc⟩ := root_put h ap hm (loadM tops);obtain ⟨l1, l2, l3⟩ := put_like y x.rp.toNat m (loadM tops);refine ⟨⟨⟨hz.most, ⟨hz.per.1, by rw [l1.room]; exact hz.per.2⟩, fun d hd => by rw [l1.room]; exact hz.fits d hd, by rw [l1.room]; exact hz.room⟩, hsl, htl, ⟨hsr, ht.right, fun i r hi => ht.cont i r _ hi rfl⟩, ⟨by simp, by simp⟩, by simpa using hc⟩, ht.live, ht.calm, ht.keep, l1, l2, l3⟩
theorem setM_sorted {l : List Int} {r : Rf} : setM sl ((sortI l).map Int.toNat) r = setM sl (l.map Int.toNat) r :=
 setM_perm fun n => by
  rw [List.mem_map, List.mem_map];constructor
  ·rintro ⟨z, hz, e⟩; exact ⟨z, (List.mergeSort_perm l _).mem_iff.1 hz, e⟩
  ·rintro ⟨z, hz, e⟩; exact ⟨z, (List.mergeSort_perm l _).mem_iff.2 hz, e⟩
end
section
open Go.RowKit Go.Sg Go.Sg.Bits Go.Sg.Clk Go.Shelf CP SF
variable {W W6 w w' : World} {B : Blk} {y y0 : Cs} {P : Prot} {a : Bool} {B0 D M N N1 b6 bd bdir bs k k7 m nt tc : Nat} {rest : List Nat} {K : Prop} {sv : Value}
theorem StoreC.lt (h : StoreC w B y P a N) (r : Role) : B.at_ r < w.heap.size := by
 obtain ⟨x, c, hS, rfl, hi⟩ := h.ex;exact (hS.heaps r).2.2.1
theorem StoreC.frK (h : StoreC w B y P a N) (F : Fr (fun b => b = k) w w') (h1 : ∀ r, ¬ B.at_ r = k) (h0 : 0 < k) (hk : ∀ cs t f, w.heap[k]? ≠ some (.cells cs t f)) : StoreC w' B y P a N := by
 obtain ⟨⟨x, c, hS, hy, hi⟩, ht, hb⟩ := h;exact ⟨⟨x, c, hS.frK F h1 (fun cs t => hk cs t _), hy, { hi with holds := hi.holds.frK F hk }⟩, ht.fr F (fun e => by omega), hb⟩
theorem DownC.frK (h : DownC w B y P N) (F : Fr (fun b => b = k) w w') (hd : B.d ≠ k /\ B.bf ≠ k /\ B.bq ≠ k) (hk : ∀ cs t f, w.heap[k]? ≠ some (.cells cs t f)) : DownC w' B y P N := by
 obtain ⟨D, h1, h2⟩ := h.ex;exact ⟨D, h1.fr F hd.1 hd.2.1 hd.2.2 (fun g c t _ hg e => by rw [e] at hg; exact hk _ _ _ hg), h2⟩
structure SetI (w W : World) (B : Blk) (bd : Nat) (x : DirD) (y0 : Cs) (P : Prot) (a : Bool) (N : Nat) (rest : List Nat) (M : Nat) (K : Prop) (c0 : Cont) (slots : List Rf) (r : Rf) (ta : Option Addr) (nt tc k7 bs bdir : Nat) (sv : Value) (Ls : List Int) (k : Nat) : Prop where
 b3 : W.heap[w.heap.size]? = some (.cells #[dptr bd] 83)
 b5 : W.heap[w.heap.size + 1]? = some (.cells #[.int .i64 r.1, .int .i64 r.2] 35)
 b6 : W.heap[w.heap.size + 2]? = some (.cells #[.int .i64 0] 24)
 b7 : W.heap[k7]? = some (.cells #[.slice ta nt tc] 33)
 bs_ : W.heap[bs]? = some (.cells #[sv] 52)
 bdir_ : W.heap[bdir]? = some (.cells #[dptr bd] 83)
 dir : DirAt W bd B.s x
 ex : ∃ (y : Cs) (tk : List Rf), tk.length = nt /\ StoreC W B y P a (N + k) /\ SetT y x.rp tk rest M K c0 x.per (setM slots (Ls.map Int.toNat) r) /\ W.ownsRow (w.heap.size + 3) 35 2 (.slice ta nt tc) nt (tk.flatMap refC) /\ (Like y0 y /\ y.gen = y0.gen /\ y.dead = y0.dead)
 fr : FrB B w W
structure SetX (w W : World) (B : Blk) (y0 : Cs) (P : Prot) (a : Bool) (N k : Nat) : Prop where
 b6 : W.heap[w.heap.size + 2]? = some (.cells #[.int .i64 4] 24)
 ex : DownC W B y0 P (N + k)
 fr : FrB B w W
 arm : a = true
theorem fr_k {W' : World} (h : FrB B w W) (F : Fr (fun b => b = k) W W') (hk : w.heap.size <= k) : FrB B w W' :=
 Fr.trans h F fun b hb e => by omega
variable {x : DirD} {c0 : Cont} {sl slots tk : List Rf} {r : Rf}
theorem seti_own {ta : Option Addr} (hw : w.heap.size <= B0) (hlt : ∀ r, B.at_ r < w.heap.size) (h0 : 0 < w.heap.size) :
   OwnFrom B0 (fun (pre : List Grp) W => SetI w W B bd x y0 P a N rest M K c0 slots r ta nt tc k7 bs bdir sv (pre.flatMap (·.part)) (2 * pre.length)) :=
 own_of (fun pre W W' h F => by
   obtain ⟨y, tk, e1, e2, e3, e4, e5⟩ := h.ex;exact ⟨F.heap h.b3 (fun h => h), F.heap h.b5 (fun h => h), F.heap h.b6 (fun h => h), F.heap h.b7 (fun h => h), F.heap h.bs_ (fun h => h), F.heap h.bdir_ (fun h => h), F.heap h.dir (fun h => h), ⟨y, tk, e1, e2.fr0 F, e3, oRf e4 F (fun _ _ _ h => h), e5⟩, h.fr.trans (FrB.none F)⟩)
  (fun pre W W' k h F hk hc => by
   have n1 : ∀ b cs t f, W.heap[b]? = some (.cells cs t f) -> ¬ b = k := fun b cs t f hb e => by rw [e] at hb; exact hc _ _ _ hb
   obtain ⟨y, tk, e1, e2, e3, e4, e5⟩ := h.ex;exact ⟨F.heap h.b3 (n1 _ _ _ _ h.b3), F.heap h.b5 (n1 _ _ _ _ h.b5), F.heap h.b6 (n1 _ _ _ _ h.b6), F.heap h.b7 (n1 _ _ _ _ h.b7), F.heap h.bs_ (n1 _ _ _ _ h.bs_), F.heap h.bdir_ (n1 _ _ _ _ h.bdir_), F.heap h.dir (n1 _ _ _ _ h.dir),
    ⟨y, tk, e1, e2.frK F (fun r e => by have := hlt r; omega) (by omega) hc, e3, oRf e4 F (fun g c hg e => n1 _ _ _ _ hg e), e5⟩, fr_k h.fr F (by omega)⟩)
theorem setx_own (hw : w.heap.size <= B0) (hlt : ∀ r, B.at_ r < w.heap.size) :
   OwnFrom B0 (fun (pre : List Grp) W => SetX w W B y0 P a N (2 * pre.length)) :=
 own_of (fun pre W W' h F => ⟨F.heap h.b6 (fun h => h), h.ex.fr0 F, h.fr.trans (FrB.none F), h.arm⟩)
  (fun pre W W' k h F hk hc => by
   have n1 : ∀ b cs t f, W.heap[b]? = some (.cells cs t f) -> ¬ b = k := fun b cs t f hb e => by rw [e] at hb; exact hc _ _ _ hb
   have l1 := hlt .d;have l2 := hlt .bf;have l3 := hlt .bq;simp only [Blk.at_] at l1 l2 l3;exact ⟨F.heap h.b6 (n1 _ _ _ _ h.b6), h.ex.frK F ⟨by omega, by omega, by omega⟩ hc, fr_k h.fr F (by omega), h.arm⟩)
theorem set_ret {n : Nat} {R : Ending -> World -> Prop} {tmps : Array Value} {DD br : Nat} {v : Int} (q : W.heap[br]? = some (.cells #[.int .i64 v] 24))
  (hK : W.heap[DD]? = some (.deferred (some []))) (hD : br < DD) (hR : R (.returned (.int .i64 v)) (W.putObj DD (.deferred none))) (t6 : tmps.getD 6 undef = .pointer (some ⟨br, 0, none⟩)) :
  bodyPostM Fence.wide n Tryz.prog Tryz.f50 R .ret { tmps := tmps, defers := [{ target := .collected DD, args := #[] }] } W := by
 have e1 : (W.putObj DD (.deferred none)).cell? ⟨br, 0, none⟩ = some (.int .i64 v) := by
  have := coh ((hpj W DD (.deferred none) br (by omega)).trans q) 0;simpa using this
 refine ⟨by simp, .inl ⟨_, _, rfl, run_takeDeferred hK, _, ?_, hR⟩⟩;rw [Array.getD_eq_getD_getElem?] at t6;simp [results, Tryz.results50, go_sem, t6, e1]
theorem seti_step {g : Nat} {Ls : List Int}
  (hI : SetI w W B bd x y0 P a N rest M K c0 slots r (some ⟨g, 0, none⟩) nt tc k7 bs bdir sv Ls k) (htk : tk.length = nt) (hSt : StoreC W B y P a (N + k)) (hSet : SetT y x.rp tk rest M K c0 x.per (setM slots (Ls.map Int.toNat) r))
  (hown : W.ownsRow (w.heap.size + 3) 35 2 (.slice (some ⟨g, 0, none⟩) nt tc) nt (tk.flatMap refC)) (hlike : Like y0 y /\ y.gen = y0.gen /\ y.dead = y0.dead) (hper : 0 < x.per) (hpg : y0.pages <= 2147483647) {i : Nat} {q : Rf} (hi : tk[i]? = some q) (hm : PutIs y q.1.toNat m)
  {part : List Int} (hL : ∀ z ∈ part, ∃ k : Nat, z = k /\ k / x.per = i) (F : FrB B W W6) (hS : StoreC W6 B (y.put q.1.toNat m (loadM (setM (chunk (setM slots (Ls.map Int.toNat) r) x.per i) ((part.map Int.toNat).map (· % x.per)) r))) P a (N + k + 2)) :
  SetI w ((W6.setCell ⟨g, i * 2, none⟩ (.int .i64 m)).setCell ⟨g, i * 2 + 1, none⟩ (.int .i64 y.gen)) B bd x y0 P a N rest M K c0 slots r (some ⟨g, 0, none⟩) nt tc k7 bs bdir sv (Ls ++ part) (k + 2) := by
 subst htk;have hk := (gI.1 hi).1;have hown6 : OwnR W6 (w.heap.size + 3) (.slice (some ⟨g, 0, none⟩) tk.length tc) tk := oRf hown F (fun g' c' hg' hs => absurd (hs.2.1 c' 35 _ hg') (by decide));obtain ⟨hg1, cg, hgc⟩ := oBT hown6 (g := g) rfl;have hgen : y.gen < 9223372036854775808 := gen_small hSt;obtain ⟨l1, l2, l3⟩ := put_like y q.1.toNat m (loadM (setM (chunk (setM slots (Ls.map Int.toNat) r) x.per i) ((part.map Int.toNat).map (· % x.per)) r));have hset := own_set hown6 hk (m : Int) (y.gen : Int);have hF2 : Fr (fun b => b = g) W6 ((W6.setCell ⟨g, i * 2, none⟩ (.int .i64 m)).setCell ⟨g, i * 2 + 1, none⟩ (.int .i64 y.gen)) := set2_f _ _;have kp : ∀ (b : Nat) cs t, W.heap[b]? = some (.cells cs t) -> t ∉ mutT -> (t ≠ 35 \/ b < w.heap.size + 3) -> ((W6.setCell ⟨g, i * 2, none⟩ (.int .i64 m)).setCell ⟨g, i * 2 + 1, none⟩ (.int .i64 y.gen)).heap[b]? = some (.cells cs t) := fun b cs t hb ht ho => by
  have h6 := F.heap hb ht;refine hF2.heap h6 fun e => ?_
  subst e;rw [hgc] at h6;cases h6;rcases ho with h | h
  ·exact h rfl
  ·omega
 refine ⟨kp _ _ _ hI.b3 (by decide) (.inl (by decide)), kp _ _ _ hI.b5 (by decide) (.inr (by omega)), kp _ _ _ hI.b6 (by decide) (.inl (by decide)), kp _ _ _ hI.b7 (by decide) (.inl (by decide)), kp _ _ _ hI.bs_ (by decide) (.inl (by decide)), kp _ _ _ hI.bdir_ (by decide) (.inl (by decide)),
  kp _ _ _ hI.dir (by decide) (.inl (by decide)), ⟨_, tk.set i ((m : Int), (y.gen : Int)), by rw [List.length_set], set2_st hS hgc (by omega) _ _, ?_, ?_, ⟨hlike.1.trans l1, l2.trans hlike.2.1, l3.trans hlike.2.2⟩⟩, ?_⟩
 ·have ht := set_step hSet hSt.apart hper hi hm (by rw [hlike.1.pages]; exact hpg) hgen (L := part.map Int.toNat) (fun n hn => by
   obtain ⟨z, hz, rfl⟩ := List.mem_map.1 hn;obtain ⟨k, rfl, hk⟩ := hL z hz;simpa using hk) r
  rw [List.map_append, setM_append];exact ht
 ·rw [List.length_set] at hset; exact hset
 ·have hgw : w.heap.size <= g := by omega
  refine Fr.setCell ?_ (fun h => absurd h (Nat.not_lt.2 hgw)) _;refine Fr.setCell ?_ (fun h => absurd h (Nat.not_lt.2 hgw)) _;exact FrB.trans hI.fr F
theorem kpg_step {W W6 : World} {B : Blk} {bs bdir bd g i m n : Nat} {sv : Value} {dv : Value} {x : DirD} {s : Nat} {cg : Array Value} (F : FrB B W W6) (hgc : W6.heap[g]? = some (.cells cg 35)) (hbs : W.heap[bs]? = some (.cells #[sv] 52)) (hbdir : W.heap[bdir]? = some (.cells #[dv] 83)) (hD : DirAt W bd s x) (u v : Value) :
  KpG bs bdir bd W ((W6.setCell ⟨g, m, none⟩ u).setCell ⟨g, n, none⟩ v) := by
 have hF2 : Fr (fun b => b = g) W6 ((W6.setCell ⟨g, m, none⟩ u).setCell ⟨g, n, none⟩ v) := set2_f _ _;have kp : ∀ (b : Nat) cs t f, W.heap[b]? = some (.cells cs t f) -> t ∉ mutT -> t ≠ 35 -> ((W6.setCell ⟨g, m, none⟩ u).setCell ⟨g, n, none⟩ v).heap[b]? = some (.cells cs t f) := fun b cs t f hb ht ho => by
  have h6 := F.heap hb ht;refine hF2.heap h6 fun e => ?_
  subst e;rw [hgc] at h6;cases h6;exact ho rfl
 have h1 := kp _ _ _ _ hbs (by decide) (by decide);have h2 := kp _ _ _ _ hbdir (by decide) (by decide);have h3 := kp _ _ _ _ hD (by decide) (by decide);exact ⟨fun g' c f hg => kp _ _ _ _ hg (by decide) (by decide), h1.trans hbs.symm, h2.trans hbdir.symm, fun i => by rw [coh h3, coh hD]⟩
theorem fin_world {s : Nat} {u v e : Value} (hF : FrB B w W6) (hD6 : DirAt W6 bd s x) (hb6 : W6.heap[b6]? = some (.cells #[.int .i64 0] 24)) (hK : W6.heap[D]? = some (.deferred (some []))) (hb : w.heap.size <= b6) (hDw : w.heap.size <= D) (hbd : bd < w.heap.size) :
  (((W6.setCell ⟨bd, 4, none⟩ u).setCell ⟨bd, 5, none⟩ v).setCell ⟨b6, 0, none⟩ e).heap[b6]? = some (.cells #[e] 24) /\ (((W6.setCell ⟨bd, 4, none⟩ u).setCell ⟨bd, 5, none⟩ v).setCell ⟨b6, 0, none⟩ e).heap[D]? = some (.deferred (some [])) /\
  FrX B (fun b => b = bd) w ((((W6.setCell ⟨bd, 4, none⟩ u).setCell ⟨bd, 5, none⟩ v).setCell ⟨b6, 0, none⟩ e).putObj D (.deferred none)) /\ Fr (fun b => b = b6) ((W6.setCell ⟨bd, 4, none⟩ u).setCell ⟨bd, 5, none⟩ v) (((W6.setCell ⟨bd, 4, none⟩ u).setCell ⟨bd, 5, none⟩ v).setCell ⟨b6, 0, none⟩ e) /\
  ((W6.setCell ⟨bd, 4, none⟩ u).setCell ⟨bd, 5, none⟩ v).heap[b6]? = some (.cells #[.int .i64 0] 24) := by
 have n6 : ¬ b6 = bd := by omega
 have nD : ¬ D = bd := by omega
 have n6D : ¬ D = b6 := fun h => by rw [h, hb6] at hK; cases hK
 have F1 := dirset_f (W := W6) (k := bd) u v;have h6 := F1.heap hb6 n6;have hd := F1.heap hK nD;have F2 : Fr (fun b => b = b6) ((W6.setCell ⟨bd, 4, none⟩ u).setCell ⟨bd, 5, none⟩ v) (((W6.setCell ⟨bd, 4, none⟩ u).setCell ⟨bd, 5, none⟩ v).setCell ⟨b6, 0, none⟩ e) := Fr.setCell (S := fun b => b = b6) (Fr.refl _ _) (fun _ => rfl) _;refine ⟨by rw [hsc _ _ _ _ h6]; rfl, F2.heap hd n6D, ?_, F2, h6⟩;refine Fr.putObj ?_ (fun h => absurd h (Nat.not_lt.2 hDw)) _;refine Fr.setCell ?_ (fun h => absurd h (Nat.not_lt.2 hb)) _;refine Fr.setCell ?_ (fun _ => .inr rfl) _;refine Fr.setCell ?_ (fun _ => .inr rfl) _;exact FrX.of hF
theorem set_fin {y' y'' : Cs} (hF : FrB B w W6) (hD6 : DirAt W6 bd B.s x) (hb6 : W6.heap[b6]? = some (.cells #[.int .i64 0] 24)) (hK : W6.heap[D]? = some (.deferred (some []))) (hb : w.heap.size <= b6) (hDw : w.heap.size <= D) (hbd : bd < w.heap.size) (h0 : 0 < bd) (hlt : ∀ r, B.at_ r < w.heap.size)
  (hS : StoreC W6 B y'' P a N1) (hN : N1 <= N) (h9 : N <= 90000) (hg : y'.gen = y.gen) (hE : DirC y'' { x with rp := m, rs := y'.gen } tk sl /\ Live y'' (pgs m tk ++ rest) M /\ (K -> AllFresh y'' (pgs m tk ++ rest)) /\ (∀ k ∈ rest, y''.cont k = c0 k) /\ (Like y y'' /\ y''.gen = y.gen /\ y''.dead = y.dead)) :
  DirU B bd x y P a N rest M K c0 sl w (.returned (.int .i64 0)) ((((W6.setCell ⟨bd, 4, none⟩ (.int .i64 m)).setCell ⟨bd, 5, none⟩ (.int .i64 y'.gen)).setCell ⟨b6, 0, none⟩ (.int .i64 0)).putObj D (.deferred none)) := by
 obtain ⟨f1, f2, f3, f4, f5⟩ := fin_world (u := .int .i64 m) (v := .int .i64 y'.gen) (e := .int .i64 0) hF hD6 hb6 hK hb hDw hbd;have FP : Fr (fun b => b = D) (((W6.setCell ⟨bd, 4, none⟩ (.int .i64 m)).setCell ⟨bd, 5, none⟩ (.int .i64 y'.gen)).setCell ⟨b6, 0, none⟩ (.int .i64 0)) ((((W6.setCell ⟨bd, 4, none⟩ (.int .i64 m)).setCell ⟨bd, 5, none⟩ (.int .i64 y'.gen)).setCell ⟨b6, 0, none⟩ (.int .i64 0)).putObj D (.deferred none)) := (Fr.refl (fun b => b = D) _).putObj (fun _ => rfl) _;rw [hg] at hE;rw [hg] at f1 f2 f3 f4 f5 FP ⊢;have hd := dir_set hD6 (m : Int) (y.gen : Int);have s9 := dirset_st hS hD6 h0 (.int .i64 m) (.int .i64 y.gen);have s10 := s9.frL f4 f5 (by decide) (by omega);have s11 := s10.frK FP (fun r e => by have := hlt r; omega) (by omega) (fun cs t f e => by rw [f2] at e; cases e);have hd11 : DirAt ((((W6.setCell ⟨bd, 4, none⟩ (.int .i64 m)).setCell ⟨bd, 5, none⟩ (.int .i64 y.gen)).setCell ⟨b6, 0, none⟩ (.int .i64 0)).putObj D (.deferred none)) bd B.s { x with rp := m, rs := y.gen } :=
  FP.heap (f4.heap hd (by omega)) (by omega)
 exact ⟨0, rfl, f3, .inl ⟨rfl, y'', tk, m, hd11, s11.mono hN h9, hE⟩⟩
theorem set_fin_down {p s : Int} (hF : FrB B w W6) (hD6 : DirAt W6 bd B.s x) (hb6 : W6.heap[b6]? = some (.cells #[.int .i64 0] 24)) (hK : W6.heap[D]? = some (.deferred (some []))) (hb : w.heap.size <= b6) (hDw : w.heap.size <= D) (hbd : bd < w.heap.size) (hlt : ∀ r, B.at_ r < w.heap.size)
  (hS : DownC W6 B y P N1) (hN : N1 <= N) (ha : a = true) :
  DirU B bd x y P a N rest M K c0 sl w (.returned (.int .i64 4)) ((((W6.setCell ⟨bd, 4, none⟩ (.int .i64 p)).setCell ⟨bd, 5, none⟩ (.int .i64 s)).setCell ⟨b6, 0, none⟩ (.int .i64 4)).putObj D (.deferred none)) := by
 obtain ⟨f1, f2, f3, f4, f5⟩ := fin_world (u := .int .i64 p) (v := .int .i64 s) (e := .int .i64 4) hF hD6 hb6 hK hb hDw hbd;have FP : Fr (fun b => b = D) (((W6.setCell ⟨bd, 4, none⟩ (.int .i64 p)).setCell ⟨bd, 5, none⟩ (.int .i64 s)).setCell ⟨b6, 0, none⟩ (.int .i64 4)) ((((W6.setCell ⟨bd, 4, none⟩ (.int .i64 p)).setCell ⟨bd, 5, none⟩ (.int .i64 s)).setCell ⟨b6, 0, none⟩ (.int .i64 4)).putObj D (.deferred none)) := (Fr.refl (fun b => b = D) _).putObj (fun _ => rfl) _;have l1 := hlt .d;have l2 := hlt .bf;have l3 := hlt .bq;simp only [Blk.at_] at l1 l2 l3;have s9 := dirset_down hS hD6 (.int .i64 p) (.int .i64 s);have s10 := s9.frL f4 f5 (by decide);have s11 := s10.frK FP ⟨by omega, by omega, by omega⟩ (fun cs t f e => by rw [f2] at e; cases e);exact ⟨4, rfl, f3, .inr ⟨rfl, ha, s11.mono hN⟩⟩
end
end Go.Proofs.YtgdhaaokolfdoaaGreatDoor
namespace Go.Sg
open Go.RowKit
section
variable {n : Nat} {P : Program} {ops : Array Oper} {Q : Exit -> Act -> World -> Prop} {lp : Nat}
def noDeferB (ops : Array Oper) : Bool := ops.toList.all fun o => match o.op with
 | .defer _ => false
 | _ => true
theorem noDefer_of (h : noDeferB ops = true) (i : Nat) (o : Oper) (hi : ops[i]? = some o) (c : Call) : o.op ≠ .defer c := by
 intro e;have h1 := List.all_eq_true.1 h o (by
  have := gM (l := ops.toList) (i := i) (a := o) (by simpa using hi);exact this)
 rw [e] at h1;cases h1
variable {w : World} {a : Act} {K : Act -> World -> Prop} {i id : Nat}
theorem rows_round {row : String} {args : Array Value} {R : Value -> World -> Prop} (h : Rows P row args w R) : RowsIn (Fence.wide.inRound lp) n P row args w R := fun c cs _ => by
 obtain ⟨v, w', r, s⟩ := h c cs;exact ⟨v, w', r, stepsIn_wide.2 s⟩
theorem wide_fn' (f : FuncId) : (Fence.wide.inRound lp).fn f := trivial
theorem oper_round {o : Oper} (hd : ∀ c, o.op ≠ .defer c) {K' : Act -> World -> Prop} (hK : ∀ a w, K a w -> K' a w) (h : o.wp P a w K Q) : o.wpIn (Fence.wide.inRound lp) n P a w K' Q := by
 unfold Oper.wp at h;unfold Oper.wpIn;refine ⟨fun f _ => wide_fn' f, ?_⟩;rw [Oper.semAt_eq _ _ _ hd];generalize (execOp a.eval o).run P w = r at *
 cases r with
 | ok x w' =>
  cases x <;> simp only [Oper.upon] at h <;> simp only [Oper.uponIn]
  case value u => exact hK _ _ h
  case skip => exact hK _ _ h
  case defer d => exact hK _ _ h
  case enter f args =>
   refine ⟨fun h => (by cases h), CallsIn.inRound lp (callsIn_wide.2 (h.mono fun e w'' he => ?_))⟩;cases e with
   | returned v => exact hK _ _ he
   | panicked c => exact he
   | outgrown => exact he
  case row row args => exact ⟨fun h => (by cases h), (rows_round h).mono fun v w'' he => hK _ _ he⟩
 | halt x w' => cases x <;> simp only [Oper.upon] at h <;> simp only [Oper.uponIn] <;> exact h
theorem ops_round (hd : noDeferB ops = true) (hl : ¬ LetsOut Q) : ∀ (l : List Nat) (a : Act) (w : World), wpOps P ops Q l a w -> wpOpsIn (Fence.wide.inRound lp) n P ops Q l a w
 | [], _, _, h => h
 | i :: rest, a, w, h => by
  simp only [wpOps] at h;simp only [wpOpsIn];cases ho : ops[i]? with
  | none => simp only [ho] at h ⊢; exact ops_round hd hl rest a w h
  | some o =>
   simp only [ho] at h ⊢;by_cases hw : Region.wanted o (yielded ops a.tmps) = true
   ·simp only [hw, if_true] at h ⊢;rcases h with h | ⟨_, h⟩
    ·exact oper_round (noDefer_of hd i o ho) (fun a w h => ops_round hd hl rest a w h) h
    ·exact absurd h hl
   ·simp only [hw] at h ⊢;exact ⟨fun f _ => wide_fn' f, ops_round hd hl rest _ _ h⟩
theorem region_round (hm : P.follows .mixedOrders = true) (hd : noDeferB ops = true) (hl : ¬ LetsOut Q)
  (h : wpAny P .any ops Q ops.size (Array.replicate ops.size false) a { w with drawn := w.drawn + 1 }) : (Code.region id ops true).wpIn (Fence.wide.inRound lp) n P Q a w :=
 wpIn_region_draw fun t => by
  simp only [Region.schedule, hm, Bool.true_or, if_true];exact ops_round hd hl _ _ _ (wpAny_sound ops.size t _ a _ h)
theorem region_round_tail {l : List Oper} (n' : Nat) (hm : P.follows .mixedOrders = true) (hd : noDeferB l.toArray = true) (hl : ¬ LetsOut Q) (hB : Region.lexTailB .any l.toArray n' = true)
  (h : wpStill P l.toArray w.drew (fun a' => wpList P l.toArray Q (l.drop n') a' w.drew) (l.take n') a) : (Code.region id l.toArray true).wpIn (Fence.wide.inRound lp) n P Q a w := by
 simp only [Region.lexTailB, Bool.and_eq_true, decide_eq_true_eq] at hB;obtain ⟨⟨⟨⟨hsel, hn⟩, hs⟩, hc⟩, hlex⟩ := hB;have hn' : n' < l.length := by simpa using hn
 have htl : (l.take n').length = n' := by simp; omega
 have hdl : (l.drop n').length = l.toArray.size - n' := by simp
 have inv0 : HeadInv .any l.toArray n' (Array.replicate l.toArray.size false) :=
  ⟨by simp, fun j oj _ hl => (by rw [getD_replicate_false] at hl; cases hl), fun t _ ht => getD_in (by simpa using ht) (getD_replicate_false _ _)⟩
 have H := wpAnyL_lex (md := .any) (g := l.toArray.size - n') hsel hs hc hn (l.take n') 0 _ a (fun j hj => by
  have hj' : j < n' := by rw [htl] at hj; exact hj
  simp [hj']) (by simpa using htl) inv0 (by rw [htl]; exact hlex) h
 refine region_round hm hd hl ?_;have := wpAny_of_head (Q' := Q) (g := l.toArray.size - n') (fun listed a' hL => by
  have := wpAny_of_seq (md := .any) (Q' := Q) (l.drop n') n' listed a' { w with drawn := w.drawn + 1 } (fun j => by simp [List.getElem?_drop]) (by rw [hdl]; exact hL.1) hL.2;rwa [hdl] at this) _ _ _ H
 rw [htl, show n' + (l.toArray.size - n') = l.toArray.size by omega] at this;exact this
variable {md : Region.Mode} {S : World -> Prop}
inductive Pl where
 | done
 | rd (i : Nat) (p : Pl)
 | op (i : Nat) (p : Pl)
 | two (i j : Nat) (p q : Pl)
def wpPlan (P : Program) (md : Region.Mode) (ops : Array Oper) (Q : Exit -> Act -> World -> Prop) (S : World -> Prop) : Pl -> Act -> World -> Prop
 | .done, a, w => Q .normal a w
 | .rd i p, a, w => ∃ v o, ops[i]? = some o /\ YieldsIf P ops S o v a /\ wpPlan P md ops Q S p (a.put o.dst v) w
 | .op i p, a, w => wpOp P ops Q i (fun a' w' => S w' /\ wpPlan P md ops Q S p a' w') a w
 | .two i j p q, a, w => wpOp P ops Q i (fun a' w' => S w' /\ wpPlan P md ops Q S p a' w') a w /\ wpOp P ops Q j (fun a' w' => S w' /\ wpPlan P md ops Q S q a' w') a w
def planB (md : Region.Mode) (ops : Array Oper) : Nat -> Pl -> Array Bool -> Bool
 | _, .done, listed => (Region.ready md ops listed).isEmpty
 | n + 1, .rd i p, listed => Region.free md ops listed i && (Region.ready md ops listed).contains i && planB md ops n p (listed.setIfInBounds i true)
 | n + 1, .op i p, listed => decide (Region.ready md ops listed = [i]) && planB md ops n p (listed.setIfInBounds i true)
 | n + 1, .two i j p q, listed => decide (Region.ready md ops listed = [i, j]) && planB md ops n p (listed.setIfInBounds i true) && planB md ops n q (listed.setIfInBounds j true)
 | 0, _, _ => false
theorem held_of_plan (hs : Region.noSelect ops = true) (hQ : ∀ c a d v w, Q (.panic c) (Act.put a d v) w -> Q (.panic c) a w) : ∀ (n : Nat) (l : Pl) (listed : Array Bool) (a : Act) (w : World), planB md ops n l listed = true -> S w -> wpPlan P md ops Q S l a w -> wpAnyH P md ops Q S n listed a w
 | _, .done, listed, a, w, hB, _, h => wpAnyH_done (by simpa [planB] using hB) h _
 | 0, .rd _ _, _, _, _, hB, _, _ => by simp [planB] at hB
 | 0, .op _ _, _, _, _, hB, _, _ => by simp [planB] at hB
 | 0, .two _ _ _ _, _, _, _, hB, _, _ => by simp [planB] at hB
 | n + 1, .rd i p, listed, a, w, hB, hS, h => by
  simp only [planB, Bool.and_eq_true] at hB;obtain ⟨v, o, ho, hy, hr⟩ := h;exact wpAnyH_take ho hs hB.1.1 hB.1.2 (fun c a w => hQ c a _ _ w) hy hS (held_of_plan hs hQ n p _ _ _ hB.2 hS hr)
 | n + 1, .op i p, listed, a, w, hB, hS, h => by
  simp only [planB, Bool.and_eq_true, decide_eq_true_eq] at hB;refine wpAnyH_all (rs := [i]) hB.1 (by simp) fun j hj => ?_
  have e : j = i := by simpa using hj
  subst e;exact wpOp_mono (fun a' w' h' => ⟨h'.1, held_of_plan hs hQ n p _ _ _ hB.2 h'.1 h'.2⟩) h
 | n + 1, .two i j p q, listed, a, w, hB, hS, h => by
  simp only [planB, Bool.and_eq_true, decide_eq_true_eq] at hB;refine wpAnyH_all (rs := [i, j]) hB.1.1 (by simp) fun k hk => ?_
  have e : k = i \/ k = j := by simpa using hk
  rcases e with rfl | rfl
  ·exact wpOp_mono (fun a' w' h' => ⟨h'.1, held_of_plan hs hQ n p _ _ _ hB.1.2 h'.1 h'.2⟩) h.1
  ·exact wpOp_mono (fun a' w' h' => ⟨h'.1, held_of_plan hs hQ n q _ _ _ hB.2 h'.1 h'.2⟩) h.2
theorem region_round_plan (S : World -> Prop) (l : Pl) (hm : P.follows .mixedOrders = true) (hd : noDeferB ops = true) (hs : Region.noSelect ops = true) (hB : planB .any ops ops.size l (Array.replicate ops.size false) = true)
  (hl : ¬ LetsOut Q) (hQ : ∀ c a d v w, Q (.panic c) (Act.put a d v) w -> Q (.panic c) a w) (hS : S w.drew) (h : wpPlan P .any ops Q S l a w.drew) : (Code.region id ops true).wpIn (Fence.wide.inRound lp) n P Q a w :=
 region_round hm hd hl (wpAny_of_held (S := S) _ _ _ _ (held_of_plan hs hQ _ l _ _ _ hB hS h))
theorem region_plan (S : World -> Prop) (l : Pl) (hm : P.follows .mixedOrders = true) (hs : Region.noSelect ops = true) (hB : planB .any ops ops.size l (Array.replicate ops.size false) = true)
  (hQ : ∀ c a d v w, Q (.panic c) (Act.put a d v) w -> Q (.panic c) a w) (hS : S w.drew) (h : wpPlan P .any ops Q S l a w.drew) : (Code.region id ops true).wp P Q a w :=
 wp_region_any hm (wpAny_of_held (S := S) _ _ _ _ (held_of_plan hs hQ _ l _ _ _ hB hS h))
theorem plan_done (h : Q .normal a w) : wpPlan P md ops Q S .done a w := h
variable {p : Pl}
theorem plan_rd (o : Oper) (v : Value) (ho : ops[i]? = some o) (hw : Region.wanted o (yielded ops a.tmps) = true) (hr : ∀ w, S w -> (execOp a.eval o).run P w = .ok (.value v) w) (h : wpPlan P md ops Q S p (a.put o.dst v) w) : wpPlan P md ops Q S (.rd i p) a w :=
 ⟨v, o, ho, .inl ⟨hw, hr⟩, h⟩
theorem op_step (o : Oper) (ho : ops[i]? = some o) (hw : Region.wanted o (yielded ops a.tmps) = true)
  (h : ∀ K' : Act -> World -> Prop, (∀ a' w', K a' w' -> K' a' w') -> Oper.wp P o a w K' Q) : wpOp P ops Q i K a w := by
 unfold wpOp;simp only [ho, hw, if_true];exact .inl (h _ fun a' w' h1 => h1)
theorem plan_op (o : Oper) (ho : ops[i]? = some o) (hw : Region.wanted o (yielded ops a.tmps) = true)
  (h : ∀ K : Act -> World -> Prop, (∀ a' w', S w' -> wpPlan P md ops Q S p a' w' -> K a' w') -> Oper.wp P o a w K Q) : wpPlan P md ops Q S (.op i p) a w :=
 op_step o ho hw fun K hK => h K fun a' w' h1 h2 => hK a' w' ⟨h1, h2⟩
theorem plan_two {j : Nat} {q : Pl} (h1 : wpPlan P md ops Q S (.op i p) a w) (h2 : wpPlan P md ops Q S (.op j q) a w) : wpPlan P md ops Q S (.two i j p q) a w := ⟨h1, h2⟩
end
end Go.Sg
namespace Go.Proofs.YtgdhaaokolfdoaaGreatDoor
section
open Go.RowKit Go.Sg Go.Sg.Bits Go.Sg.Clk Go.Shelf CP SF
def TopS (B : Blk) (y : Cs) (P : Prot) (a : Bool) (N : Nat) (l : List Rf) (w : World) (e : Ending) (w' : World) : Prop :=
 ∃ va vn vc err, e = .returned (.tuple #[.slice va vn vc, .int .i64 err]) /\ FrB B w w' /\ ((err = 0 /\ OwnR w' w.heap.size (.slice va vn vc) l /\ StoreC w' B y P a (N + 1)) \/ (err = 4 /\ a = true /\ DownC w' B y P (N + 1)))
variable {w : World} {B : Blk} {y : Cs} {P : Prot} {a : Bool} {N bd c n : Nat} {x : DirD} {slots tops : List Rf}
theorem top_s (h : StoreC w B y P a N) (hD : DirAt w bd B.s x) (hC : DirC y x tops slots) (hN : N + 1 <= 90000) :
  Calls Tryz.prog 120 #[dptr bd] w (TopS B y P a N tops w) := by
 have HRD := hid (fun W (F : Fq w W) => read_u (h.fr0 F) x.rp x.rs hC.rr.1 hC.rr.2 hC.root hN);have HD := hid hD;have HC := hid hC;obtain ⟨c0, c1, c2, c3, c4, c5, cz, cl⟩ := cells6 hD;clear h hD hC;go_enter Tryz.func120, Tryz.ntmps120;go_wp2_with fail
 go_region_held3 (fun W => W.cell? ⟨bd, 0, none⟩ = some (.pointer (some ⟨B.s, 0, none⟩)) /\ W.cell? ⟨bd, 4, none⟩ = some (.int .i64 x.rp) /\ W.cell? ⟨bd, 5, none⟩ = some (.int .i64 x.rs)) (go_keep)
  (first
   | (go_at_call 24; refine (HRD.out _ (by first | exact Fr.refl _ _ | exact (Fr.refl _ _).drew)).mono ?_; rintro e W2 ⟨la, ll, lc, err, rfl, F2, hr⟩; replace F2 : FrB B w W2 := FrB.trans (FrB.none (by first | exact Fr.refl _ _ | exact (Fr.refl _ _).drew)) F2; obtain ⟨c0, c1, c2, c3, c4, c5, cz, cl⟩ := cells6 (HD.out.frB F2); have H2 := hi2 F2 hr; clear F2 hr))
 rcases H2.out.2 with ⟨rfl, rfl, hb, hS⟩ | ⟨rfl, ha, hDn⟩
 ·have hll : (loadM tops).length = 12 * x.leaves := by rw [loadM_len, HC.out.tlen]
  rw [hll] at hb;have HPs := hid (fun W (F : Fq W2 W) => parse_ok (hb.fr F (fun _ _ _ h => h)).slb HC.out.leaf.tr HC.out.tlen (by have := HC.out.z.le41; omega));have HS := hi2 hS H2.out.1;have HLv := hid (leaves_ok (HD.out.frB H2.out.1) (by have := HC.out.z.most; omega) HC.out.z.per.1 (by have := HC.out.z.le41; omega));clear hb hS;rw [hll];go_wp2_with (go_at_call 182; refine HLv.out.mono ?_)
  rintro e W3 ⟨rfl, m, rfl⟩;go_wp2_with (go_at_call 181; refine (HPs.out _ ((Fr.refl _ _).drewN _)).mono ?_)
  rintro e W4 ⟨v, rfl, hown, F4⟩;have H4 := hi2 hown F4;clear hown F4;go_wp2_with fail
  go_ret2;have F24 : Fq W2 W4 := ((Fr.refl _ _).drewN m).trans H4.out.2 (fun _ _ h => h);have ho := own_down H4.out.1 (nT HS.out.2.size (by simp));obtain ⟨va, vc, rfl, -⟩ := oSl ho;exact ⟨va, _, vc, 0, rfl, FrB.trans HS.out.2 (FrB.none F24), .inl ⟨rfl, ho, HS.out.1.fr0 F24⟩⟩
 ·have HX := hi2 ha (aI hDn H2.out.1);clear hDn ha;go_wp2_with fail
  go_ret2;exact ⟨_, _, _, 4, rfl, HX.out.2.2, .inr ⟨rfl, HX.out.1, HX.out.2.1⟩⟩
attribute [local go_sem] Oper.semAt_some
theorem kpg_putObj {W : World} {lp bs bdir : Nat} {o o' : Obj} (ho : W.heap[lp]? = some o) (hc : o.isCells = false) (h1 : lp ≠ bs) (h2 : lp ≠ bdir) (h3 : lp ≠ bd) : KpG bs bdir bd W (W.putObj lp o') := by
 refine ⟨fun g c f hg => ?_, hpj _ _ _ _ h1, hpj _ _ _ _ h2, fun i => by rw [cell_putObj _ _ _ _ _ h3]⟩;rw [hpj _ _ _ _ (by rintro rfl; rw [hg] at ho; cases ho; cases hc)]; exact hg
theorem grpt_own (B0 per : Nat) (l : List Int) (z : Grp) : OwnFrom B0 (fun (_ : Unit) W => GrpT per l z W) :=
 own_of (fun _ W W' h F => by
   obtain ⟨h1, h2, h3, g, off, c, e, hg⟩ := h;exact ⟨h1.fr0 F, h2, h3, g, off, c, e, F.heap hg (fun h => h)⟩)
  (fun _ W W' k h F hk hc => by
   obtain ⟨h1, h2, h3, g, off, c, e, hg⟩ := h;have hne : ¬ g = k := fun e => by rw [e] at hg; exact hc _ _ _ hg
   exact ⟨h1.fr F (fun b off' e' _ _ => by rw [e] at e'; cases e'; exact hne), h2, h3, g, off, c, e, F.heap hg hne⟩)
theorem own_len {b e m size : Nat} {a : Option Addr} {xs : List Value} (h : w.ownsRow b e size (.slice a n c) m xs) : n = m := by
 obtain ⟨_, ⟨h0, h1⟩ | ⟨g, cap, cur, hv, _⟩⟩ := h
 ·cases h0; exact h1.symm
 ·cases hv; rfl
theorem set_ok {M : Nat} {rest : List Nat} {K : Prop} {c0 : Cont} {sa : Option Addr} {l : List Int} {r : Rf} (h : StoreC w B y P a N) (hD : DirAt w bd B.s x) (hC : DirC y x tops slots) (hpg : y.pages <= 2147483647) (hL : Live y (pgs x.rp tops ++ rest) M) (hK : K -> AllFresh y (pgs x.rp tops ++ rest)) (hc : ∀ k ∈ rest, y.cont k = c0 k)
  (hM : 1 + x.leaves + rest.length + 2 * M < y.pages) (hl : SlI w sa n c l) (hlF : ∀ W, FrB B w W -> SlI W sa n c l) (hn : n <= 100000) (hany : l.any (outB x.slots) = false) (hr : rightR r) (hN : N + 2 * n + 3 <= 90000) :
  Calls Tryz.prog 50 #[dptr bd, .slice sa n c, ref2 r.1 r.2] w (DirU B bd x y P a (N + 2 * n + 3) rest M K c0 (setM slots (l.map Int.toNat) r) w) := by
 refine (callsIn_wide (n := 10)).1 ?_;have hlt := fun r => h.lt r
 have hbdp := bd_pos h hD;obtain ⟨w1, hw1⟩ : ∃ w1, ((w.alloc (.cells #[dptr bd] 83)).alloc (.cells #[.int .i64 r.1, .int .i64 r.2] 35)).alloc (.cells #[.int .i64 0] 24) = w1 := ⟨_, rfl⟩
 obtain ⟨b0, b1, b2, F1⟩ := heap_three hw1;have s1 : w1.heap.size = w.heap.size + 3 := by rw [<- hw1]; simp
 have x0 := coh b0 0;simp at x0;obtain ⟨e0, e1, ez, el⟩ := cells2 b1;have hrt := right_dir_ok r.1 r.2 w1;unfold RightP at hrt;rw [show rightM r.1 r.2 = true by obtain ⟨h1, h2, h3, h4⟩ := hr; simp [rightM]; omega] at hrt;have HRT := hid hrt;have HW1 := hid hw1;have H1 := hi2 b2 (aI F1 (aI b0 b1));have h0 : 0 < w.heap.size := by have := h.base; have := h.base_le; omega
 have H := hi2 h (aI hD (aI hC (aI hL (aI hK (aI hc (aI hlF hr))))));have HCo := hid (fun W (F : Fq w1 W) => show Calls Tryz.prog 123 #[.slice sa n c, .func (.func 124) #[] #[.pointer (some ⟨w.heap.size, 0, none⟩)]] W (QuietP (.bool false) W) by
  have := contains_ok (F.heap (F1.heap hD (fun h => h)) (fun h => h) : DirAt W bd B.s x) (F.heap b0 (fun h => h)) (by have := hC.z.most; omega) ((hl.fr0 F1).fr0 F) hn;rw [hany] at this; exact this)
 have HLT := hid hlt;have hp41 := hC.z.le41;have HANY := hid hany;clear hw1 b0 b1 b2 F1 hrt h hD hC hL hK hc hl hlF hany hr hlt;refine callsIn_of_wp_marks Tryz.func50 rfl trivial ?_ rfl;simp only [Tryz.ntmps50, zA, lC, List.length_nil, Nat.reduceAdd, Nat.reduceSub, Array.replicate_succ, Array.replicate_zero, List.push_toArray, List.append_toArray, List.nil_append, List.cons_append];gi_wp2_with (fail)
 rw [HW1.out];refine (callsIn_wide.2 HRT.out).mono ?_;rintro e W2 ⟨rfl, F2⟩;have hx2 := coh (F2.heap H1.out.2.2.1 (fun h => h)) 0;simp at hx2;have HC2 := hid (HCo.out _ F2);have HF2 := hid F2;clear F2 HCo HRT x0 e0 e1 ez el;gi_wp2_with (fail)
 refine (callsIn_wide.2 HC2.out).mono ?_;rintro e W3 ⟨rfl, m, rfl⟩;have hx3 : (W2.drewN m).cell? ⟨w.heap.size, 0, none⟩ = some (dptr bd) := hx2;have FW : Fq w (W2.drewN m) := (H1.out.2.1.trans HF2.out (fun _ _ h => h)).drewN m;have HTop := hid (top_s (H.out.1.fr0 FW) (FW.heap H.out.2.1 (fun h => h) : DirAt _ bd B.s x) H.out.2.2.1 (by omega));have HF3 := hid FW;clear FW HC2 hx2;gi_wp2_with (fail)
 refine (callsIn_wide.2 HTop.out).mono ?_;rintro e W4 ⟨ta, nt, tc, err, rfl, F4, ⟨rfl, hown, hS⟩ | ⟨rfl, ha, hDn⟩⟩
 ·have hnt : tops.length = nt := (own_len hown).symm;have F04 : FrB B w W4 := FrB.trans (FrB.none HF3.out) F4;have hg : ∀ (b : Nat) cs t, w1.heap[b]? = some (.cells cs t) -> t ∉ mutT -> W4.heap[b]? = some (.cells cs t) := fun b cs t hb ht => F4.heap ((HF2.out.drewN m).heap hb (fun h => h)) ht
  have q3 := hg _ _ _ H1.out.2.2.1 (by decide);have q5 := hg _ _ _ H1.out.2.2.2 (by decide);have q6 := hg _ _ _ H1.out.1 (by decide);have hx4 := coh q3 0;simp at hx4;have hl4 := loh q3;have hb1 : w.heap.size + 3 <= (W2.drewN m).heap.size := by have := HF2.out.size; simp; omega
  have H4 := hi2 hS (aI (own_down hown hb1) (aI F04 (aI q3 (aI q5 (aI q6 (aI hnt (nT hb1 F4.size)))))));clear hown hS F4 F04 hg q3 q5 q6 hnt hb1 hx3;gi_wp2_with (fail)
  refine (callsIn_wide.2 (groups_any bd sa n c _)).mono ?_;rintro e w' ⟨rfl, rfl⟩;gi_wp2_with (fail)
  obtain ⟨W0, hW0⟩ : ∃ W0, ((W4.alloc (.cells #[.slice ta nt tc] 33)).alloc (.cells #[dptr bd] 83)).alloc (.cells #[.slice sa n c] 52) = W0 := ⟨_, rfl⟩
  obtain ⟨p7, pdir, pbs, F0⟩ := heap_three hW0;have hsz : W0.heap.size = W4.heap.size + 3 := by rw [<- hW0]; simp
  rw [hW0];obtain ⟨hS4, hown4, F04, q3, q5, q6, hnt, hsz4⟩ := H4.out;have hD0 : DirAt W0 bd B.s x := F0.heap (H.out.2.1.frB F04) (fun h => h);have FB0 : FrB B w W0 := FrB.trans F04 (FrB.none F0);have hin : ∀ z ∈ l, 0 <= z /\ z < 1048577 := fun z hz => by
   have h1 := List.any_eq_false.1 HANY.out z hz;have h2 := (slots_small (x := x) (by have := H.out.2.2.1.z.most; omega)).1;simp [outB] at h1;omega
  have hI0 : SetI w W0 B bd x y P a (N + 1) rest M K c0 slots r ta nt tc W4.heap.size (W4.heap.size + 2) (W4.heap.size + 1) (.slice sa n c) [] 0 :=
   ⟨F0.heap q3 (fun h => h), F0.heap q5 (fun h => h), F0.heap q6 (fun h => h), p7, pbs, pdir, hD0, ⟨y, tops, hnt, hS4.fr0 F0, H.out.2.2.1.tops H.out.2.2.2.1 H.out.2.2.2.2.1 H.out.2.2.2.2.2.1, by have := oRf hown4 F0 (fun _ _ _ h => h); rw [hnt] at this; exact this, Like.refl y, rfl, rfl⟩, FB0⟩
  have hlt := HLT.out;have hwW : w.heap.size <= W0.heap.size := FB0.size;refine wpIn_range_tell (F := Fence.wide) rfl (by omega) (gf := 186) (lb := #[.pointer (some ⟨W4.heap.size + 2, 0, none⟩), .pointer (some ⟨W4.heap.size + 1, 0, none⟩)]) rfl trivial (enters_of Tryz.func186 (by kernel_rfl) rfl)
   (fun pre W => SetI w W B bd x y P a (N + 1) rest M K c0 slots r ta nt tc W4.heap.size (W4.heap.size + 2) (W4.heap.size + 1) (.slice sa n c) (pre.flatMap (·.part)) (2 * pre.length) /\ pre.length <= n)
   (groupsf_tell (w := W0) pbs pdir hD0 (H.out.2.2.2.2.2.2.1 W0 FB0) hn ⟨H.out.2.2.1.z.per.1, hp41.2⟩ hin)
   (fun h k => h.trans k) (fun W lp o o' hl ho hc _ => kpg_putObj ho hc (by omega) (by omega) (by have := loh hD0; omega)) (Below.refl _ _) (fun _ => rfl)
   (fun cc pre W => (cc = .ret /\ pre.length <= n) /\ SetX w W B y P a (N + 1) (2 * pre.length))
   (own_and (seti_own hwW hlt h0) (own_pure _ _)) (fun cc => own_and (own_pure _ _) (setx_own hwW hlt)) ⟨hI0, Nat.zero_le _⟩
   (fun z a' W => GrpT x.per l z W /\ a' = { tmps := #[dptr bd, .slice sa n c, ref2 r.1 r.2, .pointer (some ⟨w.heap.size, 0, none⟩), undef, .pointer (some ⟨w.heap.size + 1, 0, none⟩), .pointer (some ⟨w.heap.size + 1 + 1, 0, none⟩), .pointer (some ⟨W4.heap.size, 0, none⟩), .int .i64 0, .int .i64 z.page, .slice z.a z.n z.c, undef, undef, undef, undef, dptr bd, .bool false, .bool false, .agg #[.int .i64 r.1, .int .i64 r.2], .bool true, .bool false, .bool false, .slice sa n c, .func (.func 124) #[] #[.pointer (some ⟨w.heap.size, 0, none⟩)], .bool false, .tuple #[.slice ta nt tc, .int .i64 0], dptr bd, .tuple #[.slice ta nt tc, .int .i64 0], .slice ta nt tc, .int .i64 0, .int .i64 0, .bool false, undef, dptr bd, .slice sa n c, .func (.func 186) #[] #[.pointer (some ⟨W4.heap.size + 1 + 1, 0, none⟩), .pointer (some ⟨W4.heap.size + 1, 0, none⟩)], .int .i64 z.page, .slice z.a z.n z.c, undef, undef, undef, undef, undef, undef, undef, undef, undef, undef, undef, undef, undef, undef, undef, undef, undef, undef, undef, undef, undef, undef, undef, undef, undef, undef, undef, undef, undef, undef, undef, undef, undef, undef, undef, undef, undef, undef, undef, undef, undef, undef, undef, undef, undef, undef, undef, undef, undef, undef, undef, undef, undef, undef, undef, undef, undef, undef, undef, undef, undef, undef, undef, undef], defers := [] })
   (fun z a' => own_and (grpt_own _ _ _ _) (own_pure _ _))
   ?assign ?body ?done ?stop
  case assign =>
   rintro lp pre z W K' hI hT hK;have HI := hi2 hI (aI hT hK);clear hI hT hK hI0 p7 pdir pbs;gi_wp2
   exact HI.out.2.2 _ _ ((KeepsOthers.refl _).from _) (KpG.drewN _ _ _ _ 0) HI.out.1 ⟨HI.out.2.1, rfl⟩
  case body =>
   rintro lp pre ⟨zp, za, zn, zc, zpart⟩ a' W hl ⟨rr, hrr⟩ ⟨hI, -⟩ ⟨hT, rfl⟩ hlen;obtain ⟨z, hz⟩ : ∃ z : Grp, (⟨zp, za, zn, zc, zpart⟩ : Grp) = z := ⟨_, rfl⟩
   have HZ := hid hz;rw [hz];obtain ⟨y', tk, htk, hS, hSet, hown, hlike⟩ := hI.ex;obtain ⟨hsl, hpart, ⟨hz0, hz1⟩, g, off, cg, hga, hgc⟩ := hT;simp only at hsl hpart hz0 hz1 hga;rw [<- hz];simp only;subst hga;have hga : (some ⟨g, off, none⟩ : Option Addr) = some ⟨g, off, none⟩ := rfl;have htl : tops.length = x.leaves := H.out.2.2.1.tlen;have hz' : DirZ y' x := ⟨H.out.2.2.1.z.most, ⟨hp41.1 |> fun _ => H.out.2.2.1.z.per.1, by rw [hlike.1.room]; exact H.out.2.2.1.z.per.2⟩, fun d hd => by rw [hlike.1.room]; exact H.out.2.2.1.z.fits d hd, by rw [hlike.1.room]; exact H.out.2.2.1.z.room⟩;obtain ⟨L, hLd⟩ : ∃ L, (pre.flatMap (·.part)).map Int.toNat = L := ⟨_, rfl⟩
   rw [hLd] at hSet;have hslen : (setM slots L r).length = x.slots := by rw [setM_len]; exact H.out.2.2.1.slen
   have hsr : ∀ q ∈ setM slots L r, rightR q := setM_right H.out.2.2.1.leaf.sr H.out.2.2.2.2.2.2.2
   have hleaf : LeafC y'.cont x.per tk (setM slots L r) := ⟨hsr, hSet.right, fun i q hi => hSet.cont i q _ hi rfl⟩;have htl' : tk.length = x.leaves := by rw [htk, <- hnt, htl]
   have hpgl : zp < nt := by
    obtain ⟨q, hq⟩ : ∃ q, zpart[0]? = some q := ⟨_, gE (by rw [hsl.len]; exact hz0)⟩
    obtain ⟨hql, kk, hkk, hkp⟩ := hpart q (gM hq);have h1 := List.any_eq_false.1 HANY.out q hql;simp [outB] at h1;have h2 : kk < x.slots := (by omega);rw [<- htk, htl', <- hkp];refine (leaves_iff H.out.2.2.1.z.per.1 _).2 ?_;have := Nat.div_mul_le_self kk x.per;omega
   have hRT : RowT W ta tk := by
    have ho : OwnR W (w.heap.size + 3) (.slice ta tk.length tc) tk := (by rw [<- htk] at hown; exact hown);obtain ⟨a2, c2, e, hr2⟩ := rowT_of_own ho;cases e; exact hr2
   have HPg := hid (page_ok hS hI.dir hz' hleaf hslen htl' (tc := tc) htk hRT hpgl (by omega));have u3 := coh hI.b3 0;have u7 := coh hI.b7 0;simp at u3 u7;have HI := hi2 hI (aI hS (aI hSet (aI hown (aI hlike (aI hsl (aI hpart (aI hga (aI hgc (aI htk (aI hslen (aI hsr (aI hz' hLd))))))))))));clear hI hS hSet hown hlike hsl hpart hga hgc htk hslen hsr hleaf htl' hRT hz' hLd htl hI0 p7 pdir pbs hrr;gi_wp2_with (fail)
   refine (CallsIn.inRound lp (callsIn_wide.2 HPg.out)).mono ?_;rintro e W5 ⟨v5, err, rfl, F5, ⟨rfl, hown5, hS5⟩ | ⟨rfl, ha, hDn⟩⟩
   ·obtain ⟨va, vc, rfl, hvc, -, -, -⟩ := oSl hown5;obtain ⟨vn, hvn⟩ : ∃ vn, (chunk (setM slots L r) x.per zp).length = vn := ⟨_, rfl⟩
    rw [hvn];rw [hvn] at hvc;have hvl : vn <= 41 := (by rw [<- hvn, chunk_len]; omega);have H5 := hi2 (show W5.ownsRow W.heap.size 35 2 (.slice va vn vc) vn ((chunk (setM slots L r) x.per zp).flatMap refC) by rw [<- hvn]; exact hown5) (aI hS5 (aI F5 hvn));have hWs : w.heap.size <= W.heap.size := HI.out.1.fr.size;have hW3 : w.heap.size + 3 <= W.heap.size := (by have := loh HI.out.1.b6; omega);have hp0 := H.out.2.2.1.z.per.1;have hp0' : (x.per : Int) ≠ 0 := (by omega);clear hown5 hS5 F5 hvn u3 u7;gi_wp2
    gi_loopw [50] (fun iv wr => ∃ k : Nat, k <= zn /\ iv = .int .i64 k /\ wr.ownsRow W.heap.size 35 2 (.slice va vn vc) vn ((setM (chunk (setM slots L r) x.per zp) (((zpart.take k).map Int.toNat).map (· % x.per)) r).flatMap refC) /\ Fr (fun b => va = some ⟨b, 0, none⟩) W5 wr) (fun iv _ => zn - (intOf iv).toNat)
    case atStart => exact ⟨0, Nat.zero_le _, rfl, H5.out.1, Fr.refl _ _⟩
    case round =>
     obtain ⟨k, hk, rfl, howr, hFr⟩ := hrel;have hX35 : ∀ b, va = some ⟨b, 0, none⟩ -> W.heap.size <= b /\ ∃ c, W5.heap[b]? = some (.cells c 35) := fun b e => by
      have := oBT H5.out.1 (g := b) (by rw [e]; rfl);exact this
     have hkeep : ∀ (b : Nat) cs t, W5.heap[b]? = some (.cells cs t) -> (t ≠ 35 \/ b < W.heap.size) -> wr.heap[b]? = some (.cells cs t) := fun b cs t hb ht => hFr.heap hb fun e => by
      obtain ⟨h1, c, hc⟩ := hX35 b e;rw [hb] at hc;cases hc;rcases ht with h | h
      ·exact h rfl
      ·omega
     by_cases hlt2 : k < zn
     ·have hd : decide ((k : Int) < (zn : Int)) = true := (by simp; omega);have hki : (k : Int) < (zn : Int) := (by omega);obtain ⟨-, -, -, -, -, hsl, hpart, -, hgc, -, -, -, -, -⟩ := HI.out;obtain ⟨q, hq⟩ : ∃ q, zpart[k]? = some q := ⟨_, gE (by rw [hsl.len]; exact hlt2)⟩
      obtain ⟨hql, kk, rfl, hkp⟩ := hpart q (gM hq);have hgr := hkeep g _ _ (H5.out.2.2.1.heap hgc (by decide)) (.inl (by decide));obtain ⟨bq, oq, eq, -, hcq⟩ := hsl.at_ k _ hq;cases eq;have cq : wr.cell? ⟨g, off + k, none⟩ = some (.int .i64 kk) := by
       rw [coh hgr, <- coh hgc]; exact hcq
      have h3 := hkeep _ _ _ (H5.out.2.2.1.heap HI.out.1.b3 (by decide)) (.inl (by decide));have h5' := hkeep _ _ _ (H5.out.2.2.1.heap HI.out.1.b5 (by decide)) (.inr (by omega));have hdr : DirAt wr bd B.s x := hkeep _ _ _ (HI.out.1.dir.frB H5.out.2.2.1) (.inl (by decide));have u3 := coh h3 0;simp at u3;obtain ⟨e0, e1, ez, el⟩ := cells2 h5';obtain ⟨c0', c1, c2, c3, c4, c5, cz, cl⟩ := cells6 hdr;have hml := Nat.mod_lt kk hp0;have hmv : kk % x.per < vn := by
       have h1 := List.any_eq_false.1 HANY.out _ hql;simp [outB] at h1;rw [<- H5.out.2.2.2, chunk_len];have h2 := HI.out.2.2.2.2.2.2.2.2.2.2.1;rw [h2, <- hkp];have h4 := Nat.div_add_mod kk x.per;rw [Nat.mul_comm] at h4;omega
      have e3 : (kk : Int) % (x.per : Int) = ((kk % x.per : Nat) : Int) := (by simp);have e3t : (kk : Int).tmod (x.per : Int) = ((kk % x.per : Nat) : Int) := (by first | exact (Int.ofNat_tmod _ _).symm | simp);have hp0n : ¬ x.per = 0 := (by omega);have hmi : ((kk % x.per : Nat) : Int) < (vn : Int) := (by omega);have htk : (((zpart.take (k + 1)).map Int.toNat).map (· % x.per)) = (((zpart.take k).map Int.toNat).map (· % x.per)) ++ [kk % x.per] := (by rw [List.take_add_one, hq]; simp);have HTK := hid htk;obtain ⟨l5, hl5⟩ : ∃ l5, setM (chunk (setM slots L r) x.per zp) (((zpart.take k).map Int.toNat).map (· % x.per)) r = l5 := ⟨_, rfl⟩
      have hl5n : l5.length = vn := (by rw [<- hl5, setM_len]; exact H5.out.2.2.2);have hset : setM (chunk (setM slots L r) x.per zp) (((zpart.take (k + 1)).map Int.toNat).map (· % x.per)) r = l5.set (kk % x.per) r := (by rw [htk, setM_append, hl5]; rfl);rw [hl5] at howr;have howr' : OwnR wr W.heap.size (.slice va l5.length vc) l5 := (by rw [hl5n]; rw [<- hl5n] at howr ⊢; exact howr);obtain ⟨q5, hq5⟩ : ∃ q5, l5[kk % x.per]? = some q5 := ⟨_, gE (by omega)⟩
      obtain ⟨g5, rfl, hg5, d0, d1⟩ := ownR_at howr' hq5;obtain ⟨hg5w, c5', hc5'⟩ := oBT howr' (g := g5) rfl;have d5z := fun o => foh hc5' o
      have hos := own_set howr' (k := kk % x.per) (by omega) r.1 r.2;have HS := hi2 hos (aI hset (aI hFr hl5n));clear htk hl5 hset howr howr' hq hql hkp hgr hcq hgc hsl hpart h3 h5' hdr hX35 hkeep hq5 hc5' hos hFr hl5n HTK;generalize kk % x.per = qm at *
      gi_wp2
      refine region_round_tail 9 (by kernel_rfl) (by kernel_rfl) (fun h => by obtain ⟨_, _, h⟩ := h; exact h) (by kernel_rfl) ?_;simp only [List.take_succ_cons, List.take_zero, List.drop_succ_cons, List.drop_zero];repeat still_step
      refine wpStill_nil ?_;refine wpList_plain rfl (fun K hK => ?_);go_simp;refine hK _ _ (wpList_nil ?_);clear hK K;gi_wp2
      go_roundw;case rel =>
       obtain ⟨hos, hset, hFr, hl5n⟩ := HS.out;refine ⟨k + 1, hlt2, by go_num, ?_, ?_⟩
       ·rw [hset];rw [List.length_set, hl5n] at hos;exact oRf hos ((Fr.refl (fun _ => False) _).drew) (fun _ _ _ h => h)
       ·exact Fr.drew (Fr.setCell (S := fun b => (some ⟨g5, 0, none⟩ : Option Addr) = some ⟨b, 0, none⟩) (a := ⟨g5, qm * 2 + 1, none⟩) (Fr.setCell (S := fun b => (some ⟨g5, 0, none⟩ : Option Addr) = some ⟨b, 0, none⟩) (a := ⟨g5, qm * 2, none⟩) hFr (fun _ => rfl) _) (fun _ => rfl) _)
      case measure => simp [intOf]; omega
     ·obtain rfl : k = zn := by omega
      have hd : decide ((k : Int) < (k : Int)) = false := (by simp);obtain ⟨hI1, hS1, hSet, hown, hlike, hsl, hpart, -, hgc, htk, hslen, hsr, hz', hLd⟩ := HI.out;rw [tL (by rw [hsl.len]; exact nR _)] at howr;obtain ⟨l5, hl5⟩ : ∃ l5, setM (chunk (setM slots L r) x.per zp) ((zpart.map Int.toNat).map (· % x.per)) r = l5 := ⟨_, rfl⟩
      have hl5n : l5.length = vn := (by rw [<- hl5, setM_len]; exact H5.out.2.2.2);have hl5r : ∀ z ∈ l5, rightR z := (by rw [<- hl5]; exact setM_right (chunk_right hsr x.per zp) H.out.2.2.2.2.2.2.2);rw [hl5] at howr
      have hvpos : 0 < vn := by
       have h1 : zp < x.leaves := (by rw [<- H.out.2.2.1.tlen, hnt]; exact hpgl);have h2 := (leaves_iff hp0 zp).1 h1;rw [<- H5.out.2.2.2, chunk_len, hslen];omega
      have howr' : OwnR wr W.heap.size (.slice va l5.length vc) l5 := (by rw [hl5n]; rw [<- hl5n] at howr ⊢; exact howr);obtain ⟨q5, hq5⟩ : ∃ q5, l5[0]? = some q5 := ⟨_, gE (by omega)⟩
      obtain ⟨gv, rfl, hgv, -, -⟩ := ownR_at howr' hq5;obtain ⟨hgvw, cv5, hcv5⟩ := hX35 gv rfl;have hFr' : Fr (fun b => b = gv) W5 wr := hFr.mono fun b _ e => by cases e; rfl
      have FW : FrB B W wr := Fr.trans H5.out.2.2.1 hFr' (fun b hb e => by omega);have hSr : StoreC wr B y' P a (N + 1 + 2 * pre.length + 1) := H5.out.2.1.frL hFr' hcv5 (by decide) (by omega);obtain ⟨⟨q1, q2⟩, hq⟩ : ∃ q, tk[zp]? = some q := ⟨_, gE (by rw [htk]; exact hpgl)⟩
      obtain ⟨hp1, hp2, hp3, hp4⟩ := hSet.page hq;obtain ⟨pn, rfl⟩ := iZ (hSet.right _ (gM hq)).1;simp only [Int.toNat_natCast] at hp2 hp3 hp4;have howt : OwnR wr (w.heap.size + 3) (.slice ta tk.length tc) tk := by
       rw [htk];have := oRf hown FW (fun g c hg hs => absurd (hs.2.1 c 35 _ hg) (by decide));rw [<- htk] at this ⊢; exact this
      obtain ⟨gt, rfl, hgt, t0, t1⟩ := ownR_at howt hq;simp only at t0 t1;obtain ⟨hgt0, ct, hct⟩ := oBT howt (g := gt) rfl;have hfree := hSet.live.free (by have h1 : y'.pages = y.pages := hlike.1.pages; simp only [pgs, lA, lC, List.length_map]; rw [htk, <- hnt, H.out.2.2.1.tlen, h1]; omega);have h12 : 12 * l5.length <= y'.room := by
       have h1 := hz'.per.2;have h2 : vn <= x.per := (by rw [<- H5.out.2.2.2, chunk_len]; omega);rw [hl5n]; omega
      obtain ⟨a2, c2, e2, hT5⟩ := rowT_of_own howr';obtain ⟨rfl, rfl⟩ : a2 = some ⟨gv, 0, none⟩ /\ c2 = vc := by cases e2; exact ⟨rfl, rfl⟩
      have HLd := hid (fun V (F : Fq wr V) => load_ok (c := c2) ((hT5.fr0 F).row) hl5r hl5n (by omega));have HWr := hid (fun V la lc (F : Fq wr V) (hb : ByV V la (12 * l5.length) lc (loadM l5)) => write_u (hSr.fr0 F) pn q2 (hb.inp B) (loadM_byte _) h12 hp2 hp3 hp4 hfree (by omega));have h7 := FW.heap hI1.b7 (by decide);have h3 := FW.heap hI1.b3 (by decide);have HS := hid (fun V (F : FrB B wr V) => show V.cell? ⟨W4.heap.size, 0, none⟩ = some (.slice (some ⟨gt, 0, none⟩) nt tc) /\ V.cell? ⟨w.heap.size, 0, none⟩ = some (dptr bd) /\ V.cell? ⟨bd, 0, none⟩ = some (.pointer (some ⟨B.s, 0, none⟩)) from
       ⟨coh (F.heap h7 (by decide)) 0, coh (F.heap h3 (by decide)) 0, (cells6 ((hI1.dir.frB FW).frB F)).1⟩)
      have HT := hid (fun V (F : FrB B wr V) => show V.cell? ⟨gt, zp * 2, none⟩ = some (.int .i64 pn) /\ V.cell? ⟨gt, zp * 2 + 1, none⟩ = some (.int .i64 q2) /\ (∀ o, V.frozen? ⟨gt, o, none⟩ = false) /\ gt < V.heap.size by
       have hn : ¬ (B.base <= gt /\ MutB B wr gt) := fun hs => absurd (hs.2.1 ct 35 _ hct) (by decide)
       have hv := FrB.heap F hct (by decide);exact ⟨(Fr.cell F (p := ⟨gt, _, none⟩) hgt hn).trans t0, (Fr.cell F (p := ⟨gt, _, none⟩) hgt hn).trans t1, fun o => foh hv o, loh hv⟩)
      obtain ⟨s1, s2, s3⟩ := HS.out wr (FrB.refl _ _);have hne7 : ¬ gt = w.heap.size + 1 + 1 := (by omega);have HC := hid hct;have HB6 := hid (FW.heap hI1.b6 (by decide));have hne4 : ¬ gt = W4.heap.size := fun e => by rw [e, h7] at hct; cases hct
      have hne5 : ¬ gt = w.heap.size := (by omega);have hne6 : ¬ gt = bd := fun e => by have := loh H.out.2.1; omega
      have hzpi : (zp : Int) < (nt : Int) := (by omega);have HR := hi2 hI1 (aI hS1 (aI hSet (aI hown (aI hlike (aI hpart (aI htk (aI hq (aI FW (aI hLd (aI hl5 hl5n))))))))));clear hl5n hI1 hS1 hSet hown hlike hsl hpart hgc htk hslen hsr hz' hLd howr howr' hq5 hgvw hcv5 hFr hFr' FW hSr hq hp1 hp2 hp3 hp4 howt hct hfree h12 e2 hT5 h7 h3 hl5 hl5r hX35 hkeep;gi_wp2
      refine region_round_plan (fun V => V.cell? ⟨W4.heap.size, 0, none⟩ = some (.slice (some ⟨gt, 0, none⟩) nt tc) /\ V.cell? ⟨w.heap.size, 0, none⟩ = some (dptr bd) /\ V.cell? ⟨bd, 0, none⟩ = some (.pointer (some ⟨B.s, 0, none⟩)))
       (.rd 0 (.rd 1 (.rd 2 (.rd 3 (.rd 4 (.rd 5 (.rd 6 (.rd 7 (.rd 8 (.rd 10 (.two 9 11 (.op 11 (.op 12 (.rd 13 (.rd 14 (.rd 15 (.rd 16 (.op 17 (.rd 18 .done)))))))) (.op 9 (.op 12 (.rd 13 (.rd 14 (.rd 15 (.rd 16 (.op 17 (.rd 18 .done)))))))))))))))))))
       (by kernel_rfl) (by kernel_rfl) (by kernel_rfl) (by kernel_rfl) (fun h => by obtain ⟨_, _, h⟩ := h; exact h) (fun _ _ _ _ _ h => h) (HS.out _ (FrB.none ((Fr.refl _ _).drew))) ?_
      iterate 10
       try simp only [Act.put, sI, sZ, sS]
       refine plan_rd _ ?_ (by simp only [gA, gZ, gS]; rfl) (by rfl) ?_ ?_;rotate_left
       ·intro V hV;obtain ⟨s1, s2, s3⟩ := hV;go_simp;try with_reducible rfl
      try simp only [Act.put, sI, sZ, sS]
      refine plan_two ?_ ?_
      ·refine plan_op _ (by simp only [gA, gZ, gS]; rfl) (by rfl) (fun K hK => ?_);go_simp;refine hK _ _ (HS.out _ (FrB.none ((Fr.refl _ _).drew))) ?_;clear hK K;try simp only [Act.put, sI, sZ, sS]
       refine plan_op _ (by simp only [gA, gZ, gS]; rfl) (by rfl) (fun K hK => ?_);go_simp;refine (HLd.out _ ((Fr.refl _ _).drew)).mono ?_;rintro _ V5 ⟨la, lc, rfl, hb, F5⟩;have F5w : Fq wr V5 := ((Fr.refl _ _).drew).trans F5 (fun _ _ h => h);try go_simp
       refine hK _ _ (HS.out V5 (FrB.none F5w)) ?_;clear hK K;try simp only [Act.put, sI, sZ, sS]
       refine plan_op _ (by simp only [gA, gZ, gS]; rfl) (by rfl) (fun K' hK' => ?_);go_simp;refine (HWr.out _ _ _ F5w hb).mono ?_;rintro _ V6 ⟨p6, s6, err, rfl, F6, hr6⟩;have F6w : FrB B wr V6 := FrB.trans (FrB.none F5w) F6;try go_simp
       refine hK' _ _ (HS.out V6 F6w) ?_;clear hK' K';iterate 4
        try simp only [Act.put, sI, sZ, sS]
        refine plan_rd _ ?_ (by simp only [gA, gZ, gS]; rfl) (by rfl) ?_ ?_;rotate_left
        ·intro V hV;obtain ⟨s1, s2, s3⟩ := hV;go_simp;try with_reducible rfl
       try simp only [Act.put, sI, sZ, sS]
       obtain ⟨g0, g1, gz, gl⟩ := HT.out V6 F6w;obtain ⟨s1, s2, s3⟩ := HS.out V6 F6w;refine plan_op _ (by simp only [gA, gZ, gS]; rfl) (by rfl) (fun K' hK' => ?_);go_simp;refine hK' _ _ (by simp [go_sem, *]) ?_;clear hK' K' s1 s2 s3;try simp only [Act.put, sI, sZ, sS]
       refine plan_rd _ ?_ (by simp only [gA, gZ, gS]; rfl) (by rfl) ?_ ?_;rotate_left
       ·intro V hV;obtain ⟨s1, s2, s3⟩ := hV;go_simp;try with_reducible rfl
       try simp only [Act.put, sI, sZ, sS]
       refine plan_done ?_;have hgc6 := FrB.heap F6w HC.out (by decide);have hb6 := FrB.heap F6w HB6.out (by decide);rcases hr6 with ⟨rfl, m', rfl, rfl, hm', hS6⟩ | ⟨rfl, ha, hDn⟩
       ·have HE := hi2 hm' (aI hS6 (aI F6w hgc6));clear hm' hS6 F6w F6 F5w F5 hb hgc6 hb6 g0 g1 gz gl;gi_wp2
        obtain ⟨hm', hS6, F6w, hgc6⟩ := HE.out;obtain ⟨hI1, hS1, hSet, hown, hlike, hpart, htk, hq, FW, hLd, hl5, hl5n⟩ := HR.out;have F06 := FrB.trans FW F6w;have hst := seti_step hI1 htk hS1 (by rw [hLd]; exact hSet) hown hlike hp0 hpg hq hm' (fun z hz => (hpart z hz).2) F06 (by rw [hLd, hl5]; exact hS6);have hkp := kpg_step (i := 0) F06 hgc6 hI1.bs_ hI1.bdir_ hI1.dir (m := zp * 2) (n := zp * 2 + 1) (.int .i64 m') (.int .i64 y'.gen);have hke := ((F06.keeps (fun r => by have := hlt r; omega : ∀ r, B.at_ r < W0.heap.size)).trans ((KeepsOthers.setCell _ ⟨gt, zp * 2, none⟩ (.int .i64 m')).from _)).trans ((KeepsOthers.setCell _ ⟨gt, zp * 2 + 1, none⟩ (.int .i64 y'.gen)).from _);refine ⟨hke, hkp, ?_, by simp; omega⟩;have e1 : (pre ++ [({ page := zp, a := some ⟨g, off, none⟩, n := k, c := zc, part := zpart } : Grp)]).flatMap (·.part) = pre.flatMap (·.part) ++ zpart := (by simp);have e2 : 2 * (pre ++ [({ page := zp, a := some ⟨g, off, none⟩, n := k, c := zc, part := zpart } : Grp)]).length = 2 * pre.length + 2 := (by simp; omega);rw [e1, e2];exact hst
       ·have z6 := coh hb6 0;have zz6 := foh hb6 0;have zl6 := loh hb6;simp at z6;have HE := hi2 ha (aI hDn (aI F6w (aI hgc6 hb6)));clear ha hDn F6w F6 F5w F5 hb hgc6 hb6 g0 g1 gz gl;gi_wp2
        obtain ⟨ha, hDn, F6w, hgc6, hb6⟩ := HE.out;obtain ⟨hI1, hS1, hSet, hown, hlike, hpart, htk, hq, FW, hLd, hl5, hl5n⟩ := HR.out;have F06 := FrB.trans FW F6w;obtain ⟨V7, hV7⟩ : ∃ V7, (V6.setCell ⟨gt, zp * 2, none⟩ (.int .i64 p6)).setCell ⟨gt, zp * 2 + 1, none⟩ (.int .i64 s6) = V7 := ⟨_, rfl⟩
        have hke := ((F06.keeps (fun r => by have := hlt r; omega : ∀ r, B.at_ r < W0.heap.size)).trans ((KeepsOthers.setCell _ ⟨gt, zp * 2, none⟩ (.int .i64 p6)).from _)).trans ((KeepsOthers.setCell _ ⟨gt, zp * 2 + 1, none⟩ (.int .i64 s6)).from _);have F7 : Fr (fun b => b = gt) V6 V7 := (by rw [<- hV7]; exact set2_f _ _);have hb7 := F7.heap hb6 (fun e => hne7 e.symm);have hd7 := hDn.frL F7 hgc6 (by decide);have F07 : FrB B w V7 := fr_k (FrB.trans hI1.fr F06) F7 (by omega);rw [hV7] at hke ⊢;have FL : Fr (fun b => b = w.heap.size + 1 + 1) V7 (V7.setCell ⟨w.heap.size + 1 + 1, 0, none⟩ (.int .i64 4)) := Fr.setCell (S := fun b => b = w.heap.size + 1 + 1) (Fr.refl _ _) (fun _ => rfl) _;refine ⟨hke.trans ((KeepsOthers.setCell _ _ _).from _), ⟨rfl, by simp; omega⟩, ⟨by rw [hsc _ _ _ _ hb7]; rfl, ?_, fr_k F07 FL (by omega), ha⟩⟩;exact ((down_like hd7 hlike.1).frL FL hb7 (by decide)).mono (by simp; omega)
      ·refine plan_op _ (by simp only [gA, gZ, gS]; rfl) (by rfl) (fun K hK => ?_);go_simp;refine (HLd.out _ ((Fr.refl _ _).drew)).mono ?_;rintro _ V5 ⟨la, lc, rfl, hb, F5⟩;have F5w : Fq wr V5 := ((Fr.refl _ _).drew).trans F5 (fun _ _ h => h);try go_simp
       refine hK _ _ (HS.out V5 (FrB.none F5w)) ?_;clear hK K;try simp only [Act.put, sI, sZ, sS]
       obtain ⟨g0, g1, gz, gl⟩ := HT.out V5 (FrB.none F5w);refine plan_op _ (by simp only [gA, gZ, gS]; rfl) (by rfl) (fun K hK => ?_);go_simp;refine hK _ _ (HS.out V5 (FrB.none F5w)) ?_;clear hK K g0 g1 gz gl;try simp only [Act.put, sI, sZ, sS]
       refine plan_op _ (by simp only [gA, gZ, gS]; rfl) (by rfl) (fun K' hK' => ?_);go_simp;refine (HWr.out _ _ _ F5w hb).mono ?_;rintro _ V6 ⟨p6, s6, err, rfl, F6, hr6⟩;have F6w : FrB B wr V6 := FrB.trans (FrB.none F5w) F6;try go_simp
       refine hK' _ _ (HS.out V6 F6w) ?_;clear hK' K';iterate 4
        try simp only [Act.put, sI, sZ, sS]
        refine plan_rd _ ?_ (by simp only [gA, gZ, gS]; rfl) (by rfl) ?_ ?_;rotate_left
        ·intro V hV;obtain ⟨s1, s2, s3⟩ := hV;go_simp;try with_reducible rfl
       try simp only [Act.put, sI, sZ, sS]
       obtain ⟨g0, g1, gz, gl⟩ := HT.out V6 F6w;obtain ⟨s1, s2, s3⟩ := HS.out V6 F6w;refine plan_op _ (by simp only [gA, gZ, gS]; rfl) (by rfl) (fun K' hK' => ?_);go_simp;refine hK' _ _ (by simp [go_sem, *]) ?_;clear hK' K' s1 s2 s3;try simp only [Act.put, sI, sZ, sS]
       refine plan_rd _ ?_ (by simp only [gA, gZ, gS]; rfl) (by rfl) ?_ ?_;rotate_left
       ·intro V hV;obtain ⟨s1, s2, s3⟩ := hV;go_simp;try with_reducible rfl
       try simp only [Act.put, sI, sZ, sS]
       refine plan_done ?_;have hgc6 := FrB.heap F6w HC.out (by decide);have hb6 := FrB.heap F6w HB6.out (by decide);rcases hr6 with ⟨rfl, m', rfl, rfl, hm', hS6⟩ | ⟨rfl, ha, hDn⟩
       ·have HE := hi2 hm' (aI hS6 (aI F6w hgc6));clear hm' hS6 F6w F6 F5w F5 hb hgc6 hb6 g0 g1 gz gl;gi_wp2
        obtain ⟨hm', hS6, F6w, hgc6⟩ := HE.out;obtain ⟨hI1, hS1, hSet, hown, hlike, hpart, htk, hq, FW, hLd, hl5, hl5n⟩ := HR.out;have F06 := FrB.trans FW F6w;have hst := seti_step hI1 htk hS1 (by rw [hLd]; exact hSet) hown hlike hp0 hpg hq hm' (fun z hz => (hpart z hz).2) F06 (by rw [hLd, hl5]; exact hS6);have hkp := kpg_step (i := 0) F06 hgc6 hI1.bs_ hI1.bdir_ hI1.dir (m := zp * 2) (n := zp * 2 + 1) (.int .i64 m') (.int .i64 y'.gen);have hke := ((F06.keeps (fun r => by have := hlt r; omega : ∀ r, B.at_ r < W0.heap.size)).trans ((KeepsOthers.setCell _ ⟨gt, zp * 2, none⟩ (.int .i64 m')).from _)).trans ((KeepsOthers.setCell _ ⟨gt, zp * 2 + 1, none⟩ (.int .i64 y'.gen)).from _);refine ⟨hke, hkp, ?_, by simp; omega⟩;have e1 : (pre ++ [({ page := zp, a := some ⟨g, off, none⟩, n := k, c := zc, part := zpart } : Grp)]).flatMap (·.part) = pre.flatMap (·.part) ++ zpart := (by simp);have e2 : 2 * (pre ++ [({ page := zp, a := some ⟨g, off, none⟩, n := k, c := zc, part := zpart } : Grp)]).length = 2 * pre.length + 2 := (by simp; omega);rw [e1, e2];exact hst
       ·have z6 := coh hb6 0;have zz6 := foh hb6 0;have zl6 := loh hb6;simp at z6;have HE := hi2 ha (aI hDn (aI F6w (aI hgc6 hb6)));clear ha hDn F6w F6 F5w F5 hb hgc6 hb6 g0 g1 gz gl;gi_wp2
        obtain ⟨ha, hDn, F6w, hgc6, hb6⟩ := HE.out;obtain ⟨hI1, hS1, hSet, hown, hlike, hpart, htk, hq, FW, hLd, hl5, hl5n⟩ := HR.out;have F06 := FrB.trans FW F6w;obtain ⟨V7, hV7⟩ : ∃ V7, (V6.setCell ⟨gt, zp * 2, none⟩ (.int .i64 p6)).setCell ⟨gt, zp * 2 + 1, none⟩ (.int .i64 s6) = V7 := ⟨_, rfl⟩
        have hke := ((F06.keeps (fun r => by have := hlt r; omega : ∀ r, B.at_ r < W0.heap.size)).trans ((KeepsOthers.setCell _ ⟨gt, zp * 2, none⟩ (.int .i64 p6)).from _)).trans ((KeepsOthers.setCell _ ⟨gt, zp * 2 + 1, none⟩ (.int .i64 s6)).from _);have F7 : Fr (fun b => b = gt) V6 V7 := (by rw [<- hV7]; exact set2_f _ _);have hb7 := F7.heap hb6 (fun e => hne7 e.symm);have hd7 := hDn.frL F7 hgc6 (by decide);have F07 : FrB B w V7 := fr_k (FrB.trans hI1.fr F06) F7 (by omega);rw [hV7] at hke ⊢;have FL : Fr (fun b => b = w.heap.size + 1 + 1) V7 (V7.setCell ⟨w.heap.size + 1 + 1, 0, none⟩ (.int .i64 4)) := Fr.setCell (S := fun b => b = w.heap.size + 1 + 1) (Fr.refl _ _) (fun _ => rfl) _;refine ⟨hke.trans ((KeepsOthers.setCell _ _ _).from _), ⟨rfl, by simp; omega⟩, ⟨by rw [hsc _ _ _ _ hb7]; rfl, ?_, fr_k F07 FL (by omega), ha⟩⟩;exact ((down_like hd7 hlike.1).frL FL hb7 (by decide)).mono (by simp; omega)
   ·have hF5 := FrB.trans HI.out.1.fr F5;have hb6 := F5.heap HI.out.1.b6 (by decide);have z6 := coh hb6 0;have zz6 := foh hb6 0;have zl6 := loh hb6;simp at z6;have HY := hi2 ha (aI hDn (aI hF5 (aI hb6 (F5.keeps (fun r => by have := hlt r; omega : ∀ r, B.at_ r < W0.heap.size)))));clear ha hDn hF5 hb6;gi_wp2
    obtain ⟨ha, hDn, hF5, hb6, hke⟩ := HY.out;have FL : Fr (fun b => b = w.heap.size + 1 + 1) W5 (W5.setCell ⟨w.heap.size + 1 + 1, 0, none⟩ (.int .i64 4)) := Fr.setCell (S := fun b => b = w.heap.size + 1 + 1) (Fr.refl _ _) (fun _ => rfl) _;refine ⟨hke.trans ((KeepsOthers.setCell _ _ _).from _), ⟨rfl, by simp; omega⟩, ⟨by rw [hsc _ _ _ _ hb6]; rfl, ?_, fr_k hF5 FL (by omega), ha⟩⟩;exact ((down_like hDn HI.out.2.2.2.2.1.1).frL FL hb6 (by decide)).mono (by simp; omega)
  case done =>
   rintro D xs W hDD hxs ⟨hI, hxl⟩ hK;obtain ⟨y', tk, htk, hS, hSet, hown, hlike⟩ := hI.ex;rw [hxs, setM_sorted] at hSet;subst htk;have htl : tk.length = x.leaves := by rw [<- hnt]; exact H.out.2.2.1.tlen
   have hz' : DirZ y' x := ⟨H.out.2.2.1.z.most, ⟨H.out.2.2.1.z.per.1, by rw [hlike.1.room]; exact H.out.2.2.1.z.per.2⟩, fun d hd => by rw [hlike.1.room]; exact H.out.2.2.1.z.fits d hd, by rw [hlike.1.room]; exact H.out.2.2.1.z.room⟩;have hslen : (setM slots (l.map Int.toNat) r).length = x.slots := by rw [setM_len]; exact H.out.2.2.1.slen
   have hsr : ∀ q ∈ setM slots (l.map Int.toNat) r, rightR q := setM_right H.out.2.2.1.leaf.sr H.out.2.2.2.2.2.2.2
   obtain ⟨hp1, hp2, hp3, hp4⟩ := hSet.rpage;have hfree := hSet.live.free (by have h1 : y'.pages = y.pages := hlike.1.pages; simp only [pgs, lA, lC, List.length_map]; omega);have h12 : 12 * tk.length <= y'.room := by rw [hlike.1.room, htl]; exact H.out.2.2.1.z.leaves
   have hRT : RowT W ta tk := by
    obtain ⟨a2, c2, e, hr2⟩ := rowT_of_own (show OwnR W (w.heap.size + 3) (.slice ta tk.length tc) tk from hown);cases e; exact hr2
   have HLd := hid (fun V (F : Fq W V) => load_ok (c := tc) ((hRT.fr0 F).row) hSet.right rfl (by omega));have HWr := hid (fun V la lc (F : Fq W V) (hb : ByV V la (12 * tk.length) lc (loadM tk)) => show Calls Tryz.prog 26 #[B.ptr, ref2 x.rp x.rs, .slice la (12 * tk.length) lc] V (WriteU B y' P a (N + 1 + 2 * xs.length) x.rp.toNat (loadM tk) V) by
    have := write_u (hS.fr0 F) x.rp.toNat x.rs (hb.inp B) (loadM_byte _) h12 hp2 hp3 hp4 hfree (by omega);rw [<- hp1] at this;exact this)
   have HB := hid (fun V (F : FrB B W V) => show V.cell? ⟨w.heap.size, 0, none⟩ = some (dptr bd) /\ V.cell? ⟨W4.heap.size, 0, none⟩ = some (.slice ta tk.length tc) from ⟨coh (F.heap hI.b3 (by decide)) 0, coh (F.heap hI.b7 (by decide)) 0⟩);have HDr := hid hI.dir;obtain ⟨u3, u7⟩ := HB.out W (FrB.refl _ _);obtain ⟨c0', c1, c2, c3, c4, c5, cz, cl⟩ := cells6 hI.dir;have hbdl : bd < w.heap.size := loh H.out.2.1;have hne1 : ¬ bd = w.heap.size := by omega
   have hne2 : ¬ bd = W4.heap.size := by omega
   have HI := hi2 hI.fr (aI hI.b6 (aI hS (aI hSet (aI hlike (aI hz' (aI hslen (aI hsr (aI hxl (aI hK htl)))))))));clear hI hS hSet hown hlike hz' hslen hsr hp1 hp2 hp3 hp4 hfree h12 hRT hxs hI0 p7 pdir pbs hK hnt htl hown4 q3 q5 q6;gi_wp2
   refine wpIn_wide.2 ?_;have HS := hid (fun V (F : FrB B W V) => show V.cell? ⟨w.heap.size, 0, none⟩ = some (dptr bd) /\ V.cell? ⟨W4.heap.size, 0, none⟩ = some (.slice ta tk.length tc) /\ V.cell? ⟨bd, 0, none⟩ = some (.pointer (some ⟨B.s, 0, none⟩)) from ⟨(HB.out V F).1, (HB.out V F).2, (cells6 (HDr.out.frB F)).1⟩);clear u3 u7 c0' c1 c2 c3 c4 c5 cz cl;refine wp_region_noPanic ?_;refine region_plan (fun V => V.cell? ⟨w.heap.size, 0, none⟩ = some (dptr bd) /\ V.cell? ⟨W4.heap.size, 0, none⟩ = some (.slice ta tk.length tc) /\ V.cell? ⟨bd, 0, none⟩ = some (.pointer (some ⟨B.s, 0, none⟩)))
    (.rd 0 (.rd 1 (.rd 2 (.rd 3 (.rd 4 (.rd 5 (.rd 6 (.rd 7 (.rd 9 (.two 8 10 (.op 10 (.op 11 (.rd 12 (.rd 13 (.rd 14 (.rd 15 (.rd 16 (.op 17 (.rd 18 .done))))))))) (.op 8 (.op 11 (.rd 12 (.rd 13 (.rd 14 (.rd 15 (.rd 16 (.op 17 (.rd 18 .done)))))))))))))))))))
    (by kernel_rfl) (by kernel_rfl) (by kernel_rfl) (fun _ _ _ _ _ h => h) (HS.out _ (FrB.none ((Fr.refl _ _).drew))) ?_
   iterate 9
    try simp only [Act.put, sI, sZ, sS]
    refine plan_rd _ ?_ (by simp only [gA, gZ, gS]; rfl) (by rfl) ?_ ?_;rotate_left
    ·intro V hV;obtain ⟨s1, s2, s3⟩ := hV;go_simp;try with_reducible rfl
   try simp only [Act.put, sI, sZ, sS]
   refine plan_two ?_ ?_
   ·skip
    obtain ⟨c0', c1, c2, c3, c4, c5, cz, cl⟩ := cells6 (HDr.out.frB (FrB.none (B := B) ((Fr.refl _ _).drew)));refine plan_op _ (by simp only [gA, gZ, gS]; rfl) (by rfl) (fun K hK => ?_);go_simp;refine hK _ _ (HS.out _ (FrB.none ((Fr.refl _ _).drew))) ?_;clear hK K c0' c1 c2 c3 c4 c5 cz cl;try simp only [Act.put, sI, sZ, sS]
    refine plan_op _ (by simp only [gA, gZ, gS]; rfl) (by rfl) (fun K hK => ?_);go_simp;refine (HLd.out _ ((Fr.refl _ _).drew)).mono ?_;rintro _ W5 ⟨la, lc, rfl, hb, F5⟩;have F5w : Fq W W5 := ((Fr.refl _ _).drew).trans F5 (fun _ _ h => h);try go_simp
    refine hK _ _ (HS.out _ (FrB.none F5w)) ?_;clear hK K;try simp only [Act.put, sI, sZ, sS]
    refine plan_op _ (by simp only [gA, gZ, gS]; rfl) (by rfl) (fun K hK => ?_);go_simp;refine (HWr.out _ _ _ F5w hb).mono ?_;rintro _ W6 ⟨p6, s6, err, rfl, F6, hr6⟩;have F6w : FrB B W W6 := FrB.trans (FrB.none F5w) F6;have hD6 := HDr.out.frB F6w;try go_simp
    refine hK _ _ (HS.out _ F6w) ?_;clear hK K;iterate 5
     try simp only [Act.put, sI, sZ, sS]
     refine plan_rd _ ?_ (by simp only [gA, gZ, gS]; rfl) (by rfl) ?_ ?_;rotate_left
     ·intro V hV;obtain ⟨s1, s2, s3⟩ := hV;go_simp;try with_reducible rfl
    try simp only [Act.put, sI, sZ, sS]
    obtain ⟨u3, u7, -⟩ := HS.out _ F6w;obtain ⟨c0', c1, c2, c3, c4, c5, cz, cl⟩ := cells6 hD6;refine plan_op _ (by simp only [gA, gZ, gS]; rfl) (by rfl) (fun K hK => ?_);go_simp;refine hK _ _ (by simp [go_sem, *]) ?_;clear hK K;try simp only [Act.put, sI, sZ, sS]
    refine plan_rd _ ?_ (by simp only [gA, gZ, gS]; rfl) (by rfl) ?_ ?_;rotate_left
    ·intro V hV;obtain ⟨s1, s2, s3⟩ := hV;go_simp;try with_reducible rfl
    try simp only [Act.put, sI, sZ, sS]
    refine plan_done ?_;refine NoPanic.normal ?_;obtain ⟨i1, i2, i3, i4, i5, i6, i7, i8, i9, i10, i11⟩ := HI.out;have hF06 : FrB B w W6 := FrB.trans i1 F6w;have hb6 := F6w.heap i2 (by decide);have hK6 := (F6w.keeps (B0 := W0.heap.size) (fun r => by have := hlt r; omega)).same D _ hDD i10 rfl;have z0 := coh hb6 0;have zz := foh hb6 0;have zl := loh hb6;simp at z0;have hne3 : ¬ bd = w.heap.size + 1 + 1 := (by omega);have hne3' : ¬ w.heap.size + 1 + 1 = bd := (by omega);rcases hr6 with ⟨rfl, m', rfl, rfl, hm', hS6⟩ | ⟨rfl, ha, hDn⟩
    ·have hE := set_end i4 i3.apart i6 i7 i11 i8 hm' rfl;have H9 := hi2 hE (aI hF06 (aI hD6 (aI hb6 (aI hK6 (aI hS6 (aI i5 i9))))));clear hE hF06 hD6 hb6 hK6 hS6 hm' i1 i2 i3 i4 i5 i6 i7 i8 i9 i10 i11 F6w F6 F5w F5 hb c0' c1 c2 c3 c4 c5 cz cl u3 u7;gi_wp2
     obtain ⟨hE, hF06, hD6, hb6, hK6, hS6, hlike, hxl⟩ := H9.out;obtain ⟨f1, f2, -⟩ := fin_world (u := .int .i64 m') (v := .int .i64 y'.gen) (e := .int .i64 0) hF06 hD6 hb6 hK6 (by omega) (by omega) hbdl;exact set_ret f1 f2 (by omega) (set_fin hF06 hD6 hb6 hK6 (by omega) (by omega) hbdl hbdp hlt hS6 (by omega) (by omega) hlike.2.1 ⟨hE.1, hE.2.1, hE.2.2.1, hE.2.2.2.1, hlike.1.trans hE.2.2.2.2.1, hE.2.2.2.2.2.1.trans hlike.2.1, hE.2.2.2.2.2.2.trans hlike.2.2⟩) rfl
    ·have H9 := hi2 ha (aI hF06 (aI hD6 (aI hb6 (aI hK6 (aI hDn (aI i5 i9))))));clear ha hF06 hD6 hb6 hK6 hDn i1 i2 i3 i4 i5 i6 i7 i8 i9 i10 i11 F6w F6 F5w F5 hb c0' c1 c2 c3 c4 c5 cz cl u3 u7;gi_wp2
     obtain ⟨ha, hF06, hD6, hb6, hK6, hDn, hlike, hxl⟩ := H9.out;obtain ⟨f1, f2, -⟩ := fin_world (u := .int .i64 p6) (v := .int .i64 s6) (e := .int .i64 4) hF06 hD6 hb6 hK6 (by omega) (by omega) hbdl;exact set_ret f1 f2 (by omega) (set_fin_down hF06 hD6 hb6 hK6 (by omega) (by omega) hbdl hlt (down_like hDn hlike.1) (by omega) ha) rfl
   ·skip
    refine plan_op _ (by simp only [gA, gZ, gS]; rfl) (by rfl) (fun K hK => ?_);go_simp;refine (HLd.out _ ((Fr.refl _ _).drew)).mono ?_;rintro _ W5 ⟨la, lc, rfl, hb, F5⟩;have F5w : Fq W W5 := ((Fr.refl _ _).drew).trans F5 (fun _ _ h => h);try go_simp
    refine hK _ _ (HS.out _ (FrB.none F5w)) ?_;clear hK K;try simp only [Act.put, sI, sZ, sS]
    obtain ⟨c0', c1, c2, c3, c4, c5, cz, cl⟩ := cells6 (HDr.out.frB (FrB.none (B := B) (F5w)));refine plan_op _ (by simp only [gA, gZ, gS]; rfl) (by rfl) (fun K hK => ?_);go_simp;refine hK _ _ (HS.out _ (FrB.none (F5w))) ?_;clear hK K c0' c1 c2 c3 c4 c5 cz cl;try simp only [Act.put, sI, sZ, sS]
    refine plan_op _ (by simp only [gA, gZ, gS]; rfl) (by rfl) (fun K hK => ?_);go_simp;refine (HWr.out _ _ _ F5w hb).mono ?_;rintro _ W6 ⟨p6, s6, err, rfl, F6, hr6⟩;have F6w : FrB B W W6 := FrB.trans (FrB.none F5w) F6;have hD6 := HDr.out.frB F6w;try go_simp
    refine hK _ _ (HS.out _ F6w) ?_;clear hK K;iterate 5
     try simp only [Act.put, sI, sZ, sS]
     refine plan_rd _ ?_ (by simp only [gA, gZ, gS]; rfl) (by rfl) ?_ ?_;rotate_left
     ·intro V hV;obtain ⟨s1, s2, s3⟩ := hV;go_simp;try with_reducible rfl
    try simp only [Act.put, sI, sZ, sS]
    obtain ⟨u3, u7, -⟩ := HS.out _ F6w;obtain ⟨c0', c1, c2, c3, c4, c5, cz, cl⟩ := cells6 hD6;refine plan_op _ (by simp only [gA, gZ, gS]; rfl) (by rfl) (fun K hK => ?_);go_simp;refine hK _ _ (by simp [go_sem, *]) ?_;clear hK K;try simp only [Act.put, sI, sZ, sS]
    refine plan_rd _ ?_ (by simp only [gA, gZ, gS]; rfl) (by rfl) ?_ ?_;rotate_left
    ·intro V hV;obtain ⟨s1, s2, s3⟩ := hV;go_simp;try with_reducible rfl
    try simp only [Act.put, sI, sZ, sS]
    refine plan_done ?_;refine NoPanic.normal ?_;obtain ⟨i1, i2, i3, i4, i5, i6, i7, i8, i9, i10, i11⟩ := HI.out;have hF06 : FrB B w W6 := FrB.trans i1 F6w;have hb6 := F6w.heap i2 (by decide);have hK6 := (F6w.keeps (B0 := W0.heap.size) (fun r => by have := hlt r; omega)).same D _ hDD i10 rfl;have z0 := coh hb6 0;have zz := foh hb6 0;have zl := loh hb6;simp at z0;have hne3 : ¬ bd = w.heap.size + 1 + 1 := (by omega);have hne3' : ¬ w.heap.size + 1 + 1 = bd := (by omega);rcases hr6 with ⟨rfl, m', rfl, rfl, hm', hS6⟩ | ⟨rfl, ha, hDn⟩
    ·have hE := set_end i4 i3.apart i6 i7 i11 i8 hm' rfl;have H9 := hi2 hE (aI hF06 (aI hD6 (aI hb6 (aI hK6 (aI hS6 (aI i5 i9))))));clear hE hF06 hD6 hb6 hK6 hS6 hm' i1 i2 i3 i4 i5 i6 i7 i8 i9 i10 i11 F6w F6 F5w F5 hb c0' c1 c2 c3 c4 c5 cz cl u3 u7;gi_wp2
     obtain ⟨hE, hF06, hD6, hb6, hK6, hS6, hlike, hxl⟩ := H9.out;obtain ⟨f1, f2, -⟩ := fin_world (u := .int .i64 m') (v := .int .i64 y'.gen) (e := .int .i64 0) hF06 hD6 hb6 hK6 (by omega) (by omega) hbdl;exact set_ret f1 f2 (by omega) (set_fin hF06 hD6 hb6 hK6 (by omega) (by omega) hbdl hbdp hlt hS6 (by omega) (by omega) hlike.2.1 ⟨hE.1, hE.2.1, hE.2.2.1, hE.2.2.2.1, hlike.1.trans hE.2.2.2.2.1, hE.2.2.2.2.2.1.trans hlike.2.1, hE.2.2.2.2.2.2.trans hlike.2.2⟩) rfl
    ·have H9 := hi2 ha (aI hF06 (aI hD6 (aI hb6 (aI hK6 (aI hDn (aI i5 i9))))));clear ha hF06 hD6 hb6 hK6 hDn i1 i2 i3 i4 i5 i6 i7 i8 i9 i10 i11 F6w F6 F5w F5 hb c0' c1 c2 c3 c4 c5 cz cl u3 u7;gi_wp2
     obtain ⟨ha, hF06, hD6, hb6, hK6, hDn, hlike, hxl⟩ := H9.out;obtain ⟨f1, f2, -⟩ := fin_world (u := .int .i64 p6) (v := .int .i64 s6) (e := .int .i64 4) hF06 hD6 hb6 hK6 (by omega) (by omega) hbdl;exact set_ret f1 f2 (by omega) (set_fin_down hF06 hD6 hb6 hK6 (by omega) (by omega) hbdl hlt (down_like hDn hlike.1) (by omega) ha) rfl
  case stop =>
   rintro D cc pre W hDD hSp ⟨⟨rfl, hpl⟩, hX⟩ hK;have HX2 := hi2 hX hK;clear hX hK;gi_wp2
   obtain ⟨hX, hK⟩ := HX2.out;have FP : Fr (fun b => b = D) W (W.putObj D (.deferred none)) := (Fr.refl (fun b => b = D) _).putObj (fun _ => rfl) _;have nc : ∀ cs t f, W.heap[D]? ≠ some (.cells cs t f) := fun cs t f e => by rw [hK] at e; cases e
   have l1 := hlt .d;have l2 := hlt .bf;have l3 := hlt .bq;simp only [Blk.at_] at l1 l2 l3;exact set_ret hX.b6 hK (by omega) ⟨4, rfl, FrX.of (fr_k hX.fr FP (by omega)), .inr ⟨rfl, hX.arm, (hX.ex.frK FP ⟨by omega, by omega, by omega⟩ nc).mono (by omega)⟩⟩ rfl
 ·have F04 : FrB B w W4 := FrB.trans (FrB.none HF3.out) F4;have hb6 := F4.heap ((HF2.out.drewN m).heap H1.out.1 (fun h => h)) (by decide);have z0 := coh hb6 0;have zz := foh hb6 0;have zl := loh hb6;simp at z0;have HX := hi2 ha (aI hDn (aI F04 hb6));clear ha hDn F4 F04 hb6 hx3;gi_wp2
  have hF5 : Fr (fun b => b = w.heap.size + 1 + 1) W4 (W4.setCell ⟨w.heap.size + 1 + 1, 0, none⟩ (.int .i64 4)) := Fr.setCell (S := fun b => b = w.heap.size + 1 + 1) (Fr.refl _ _) (fun _ => rfl) _;refine ⟨.int .i64 4, by simp [results, Tryz.results50, go_sem, *], 4, rfl, FrX.of (Fr.alloc (fr_k HX.out.2.2.1 hF5 (by omega)) _), .inr ⟨rfl, HX.out.1, ?_⟩⟩;exact ((HX.out.2.1.frL hF5 HX.out.2.2.2 (by decide)).fr0 ((Fr.refl _ _).alloc _)).mono (by omega)
end
section
open Go.RowKit Go.Sg Go.Sg.Bits Go.Sg.Clk CP SF
end
end Go.Proofs.YtgdhaaokolfdoaaGreatDoor
