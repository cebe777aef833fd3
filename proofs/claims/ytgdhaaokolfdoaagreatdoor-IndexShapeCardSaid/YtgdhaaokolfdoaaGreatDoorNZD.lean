/- Chapter 17's law: shaped. Conditions: the index lies in the world as KpJ says. -/
import Derived.Test.YtgdhaaokolfdoaaGreatDoorNZC
import Derived.Test.YtgdhaaokolfdoaaGreatDoorNZA
import Derived.Test.YtgdhaaokolfdoaaGreatDoorNAY
import Derived.Deep.CutBlock
set_option maxHeartbeats 16000000
set_option maxRecDepth 100000
set_option linter.all false
namespace Go.Proofs.YtgdhaaokolfdoaaGreatDoor
open Go.RowKit Go.Sg Go.Sg.Bits Go.Sg.Clk CP SF
theorem quo_facts {i pw zp : Nat} (hd : i / pw = zp) (hi : i <= 8) (hp : 0 < pw) : ((i : Int) / (pw : Int)) = (zp : Int) /\ wrap64 (zp : Int) = (zp : Int) /\ ¬ pw = 0 /\ ¬ (pw : Int) = 0 /\ ((zp : Int) != (zp : Int)) = false := by
 have h1 : ((i : Int) / (pw : Int)) = (zp : Int) := by rw [<- hd]; simp
 have h2 := Nat.div_le_self i pw;rw [hd] at h2;refine ⟨h1, ?_, by omega, by omega, by simp⟩;simp only [wrap64]; omega
theorem first_ok (h bits : Nat) (hh : h < 18446744073709551616) (hb : bits <= 30) (w : World) :
  Calls Tryz.prog 143 #[.int .u64 h, .int .i64 bits] w fun e w' => e = .returned (.int .i64 (preM h bits)) /\ Fq w w' := by
 have HP := hid (rpre_ok h bits hh hb w);go_enter Tryz.func143, Tryz.ntmps143;go_wp2_with fail
 refine HP.out.mono ?_;rintro e w1 ⟨rfl, F1⟩;have HF := hid F1;clear F1;go_wp2_with fail
 go_ret;exact ⟨rfl, HF.out⟩
theorem slotC_atx (l : List Slt) : ∀ (i : Nat) (x : Slt), l[i]? = some x -> (l.flatMap slotC)[i * 5]? = some (.int .i64 x.s.2.2.1.1) /\ (l.flatMap slotC)[i * 5 + 1]? = some (.int .i64 x.s.2.2.1.2) /\ (l.flatMap slotC)[i * 5 + 2]? = some (.int .i64 x.s.1) /\ (l.flatMap slotC)[i * 5 + 3]? = some (.int .i64 x.s.2.1) /\ (l.flatMap slotC)[i * 5 + 4]? = some (.slice x.va x.s.2.2.2.length x.vc) := by
 induction l with
 | nil => intro i x h; simp at h
 | cons y l ih =>
  intro i x h;cases i with
  | zero =>
   simp at h; subst h;simp [slotC]
  | succ i =>
   have e : ∀ j, (i + 1) * 5 + j = i * 5 + j + 1 + 1 + 1 + 1 + 1 := fun j => by omega
   have e0 : (i + 1) * 5 = i * 5 + 1 + 1 + 1 + 1 + 1 := by omega
   have h' : l[i]? = some x := by simpa using h
   obtain ⟨h0, h1, h2, h3, h4⟩ := ih i x h';simp only [e, e0, List.flatMap_cons, slotC, List.cons_append, List.nil_append, gS];exact ⟨h0, h1, h2, h3, h4⟩
theorem shaped_ok {w0 V : World} {base bs bv bx k : Nat} {t : Tr} (h : KpJ w0 base bs bv bx k t V) (hk : k <= 900) :
  Calls Tryz.prog 73 #[xptr bx] V (fun e w' => e = .returned (.bool true) /\ KpJ w0 base bs bv bx (k + 1) t w' /\ FrI base V w') := by
 have HSl := hid (kj_slots h hk);have hg3 := h.high;clear h;go_enter Tryz.func73, Tryz.ntmps73;go_wp2_with fail
 refine HSl.out.mono ?_;rintro e V2 ⟨v, zs, t', rfl, hown, hmap, ⟨hbare, hnd, hhi, hok⟩, hbk, hK, FI⟩;obtain ⟨sa, sc, rfl, -, -, -, -⟩ := oSl hown;obtain ⟨m, hm⟩ : ∃ m, zs.length = m := ⟨_, rfl⟩
 obtain ⟨g, hgg⟩ : ∃ g, t.high = g := ⟨_, rfl⟩
 have HDp := hid (show Calls Tryz.prog 67 #[xptr bx] V2 (IntP g V2) by rw [<- hgg]; exact kj_depth hK);rw [hgg] at hmap hhi hg3;have hmg : 2 ^ g = m := by
  have := congrArg List.length hmap;rw [List.length_map, hm, slotsD_len _ _ _ _ (Nat.le_of_eq hhi)] at this;exact this.symm
 have hm8 : m <= 8 := by rw [<- hmg]; exact nT (Nat.pow_le_pow_right (by decide) hg3) (by decide)
 rw [hm];have HEnd := hi2 hK FI;have HCe := hid (fun (q : Nat) (hq : q < m) => show ∃ (gb : Nat) (z : Slt), sa = some ⟨gb, 0, none⟩ /\ ((slotsD t' g 0 0)[q]? = some z.s /\ zs[q]? = some z) /\ ∀ V, Fq V2 V -> gb < V.heap.size /\ (V.cell? ⟨gb, q * 5, none⟩ = some (.int .i64 z.s.2.2.1.1) /\ V.cell? ⟨gb, q * 5 + 1, none⟩ = some (.int .i64 z.s.2.2.1.2)) /\ V.cell? ⟨gb, q * 5 + 2, none⟩ = some (.int .i64 z.s.1) /\ V.cell? ⟨gb, q * 5 + 3, none⟩ = some (.int .i64 z.s.2.1) /\ V.cell? ⟨gb, q * 5 + 4, none⟩ = some (.slice z.va z.s.2.2.2.length z.vc) by
  obtain ⟨z, hz⟩ : ∃ z, zs[q]? = some z := ⟨_, gE (by omega)⟩
  have hs : (slotsD t' g 0 0)[q]? = some z.s := by rw [<- hmap, gP, hz]; rfl
  obtain ⟨c0, c1, c2, c3, c4⟩ := slotC_atx zs q z hz;obtain ⟨gb, rfl, hgb, k0⟩ := own_cell hown c0;obtain ⟨g', e', -, k1⟩ := own_cell hown c1;cases e';obtain ⟨g', e', -, k2⟩ := own_cell hown c2;cases e';obtain ⟨g', e', -, k3⟩ := own_cell hown c3;cases e';obtain ⟨g', e', -, k4⟩ := own_cell hown c4;cases e';exact ⟨gb, z, rfl, ⟨hs, hz⟩, fun V F => ⟨nLL hgb F.size, ⟨(F.cell (p := ⟨gb, _, none⟩) hgb (fun h => h)).trans k0, (F.cell (p := ⟨gb, _, none⟩) hgb (fun h => h)).trans k1⟩, (F.cell (p := ⟨gb, _, none⟩) hgb (fun h => h)).trans k2, (F.cell (p := ⟨gb, _, none⟩) hgb (fun h => h)).trans k3, (F.cell (p := ⟨gb, _, none⟩) hgb (fun h => h)).trans k4⟩⟩)
 have HTr := hid (show (∀ q s, (slotsD t' g 0 0)[q]? = some s -> q / 2 ^ (g - s.1) = s.2.1 /\ (BkOk s.1 s.2.1 s.2.2.2 /\ s.2.1 < 2 ^ s.1 /\ s.1 <= g) /\ (t'.slots g).count s.2.2.1 = 2 ^ (g - s.1)) /\ (∀ z ∈ zs, BkT z V2) /\ (t'.slots g).length = m /\ ∀ (q : Nat) s, (slotsD t' g 0 0)[q]? = some s -> (t'.slots g)[q]? = some s.2.2.1 from
  ⟨fun q s hs => ⟨slotsD_pre (Nat.le_of_eq hhi) hs, slotsD_dep (Nat.le_of_eq hhi) hok hs, by have := slots_count t' g 0 0 (Nat.le_of_eq hhi) hnd s (gM hs); rwa [Nat.zero_add] at this⟩, hbk, by rw [Tr.slots_len _ _ (Nat.le_of_eq hhi), hmg], fun q s hs => by rw [<- slotsD_refs t' g 0 0, gP, hs]; rfl⟩)
 have HMg := hid hmg;clear hown hmap hbare hnd hhi hok hbk hK FI hm hgg hmg HSl;go_wp2_with fail
 refine HDp.out.mono ?_;rintro _ _ ⟨rfl, rfl⟩;go_wp2_with fail
 go_loopw [6, 7] (fun mv iv wr => ∃ q z : Nat, q <= g /\ z = 2 ^ q /\ mv = .int .i64 z /\ iv = .int .i64 q /\ wr = V2) (fun _ iv _ => g - (intOf iv).toNat)
 case atStart => exact ⟨0, 1, Nat.zero_le _, rfl, rfl, rfl, rfl⟩
 case round =>
  obtain ⟨q, z, hq, hz, rfl, rfl, rfl⟩ := hrel;have HZ := hid hz;have hz8 : z <= 8 := by rw [hz]; exact nT (Nat.pow_le_pow_right (by decide) (show q <= 3 by omega)) (by decide)
  clear hz;by_cases hq2 : q < g
  ·have hqi : (q : Int) < (g : Int) := by omega
   have hz2 : 2 * z = 2 ^ (q + 1) := by rw [HZ.out, Nat.pow_succ, Nat.mul_comm]
   have HZ2 := hid hz2;clear hz2;go_wp2_with fail
   go_roundw;case rel => exact ⟨q + 1, 2 * z, hq2, HZ2.out, by go_num, by go_num, trivial⟩
   case measure => simp [intOf]; omega
  ·obtain rfl : q = g := by omega
   have hqi : ¬ (q : Int) < (q : Int) := by omega
   obtain rfl : z = m := by rw [HZ.out]; exact HMg.out
   clear HZ;obtain ⟨V2, rfl⟩ : ∃ W : World, W = wr := ⟨_, rfl⟩
   go_wp2_with fail
   go_loopw [8] (fun iv wr => ∃ i : Nat, i <= z /\ iv = .int .i64 i /\ Fq V2 wr) (fun iv _ => z - (intOf iv).toNat)
   case atStart => exact ⟨0, Nat.zero_le _, rfl, Fr.refl _ _⟩
   case round =>
    obtain ⟨wo, rfl⟩ : ∃ W : World, W = wr := ⟨_, rfl⟩
    obtain ⟨i, hin, rfl, hFo⟩ := hrel;by_cases hlt : i < z
    ·have hii : (i : Int) < (z : Int) := (by omega);obtain ⟨gb, ⟨⟨zd, zp, ⟨za, zb⟩, zes⟩, va, vc⟩, rfl, ⟨hs, hz⟩, hce⟩ := HCe.out i hlt;obtain ⟨hgl, -, k2, k3, k4⟩ := hce _ hFo;obtain ⟨hpre, ⟨hbo, hpz, hdg⟩, hcnt⟩ := HTr.out.1 i _ hs;obtain ⟨hE, -⟩ := HTr.out.2.1 _ (gM hz);simp only at k2 k3 k4 hpre hbo hpz hdg hcnt hE;obtain ⟨n3, hn3⟩ : ∃ n, zes.length = n := ⟨_, rfl⟩
     rw [hn3] at k4;have hn33 : n3 <= 3 := (by rw [<- hn3]; exact hbo.1);have HS := hi2 hpre (aI hbo (aI hcnt (aI hE (aI hn3 hFo))));have HCi := hid hce;have HFo := hid hFo;clear hs hz hce hpre hbo hcnt hE hn3 hpz hFo;go_upto_region 14 with fail
     obtain ⟨b9, hb9⟩ : ∃ b, wo.heap.size = b := ⟨_, rfl⟩
     obtain ⟨W1, hW1⟩ : ∃ W, wo.alloc (.cells #[.int .i64 zd, .int .i64 zp, .slice va n3 vc] 129) = W := ⟨_, rfl⟩
     rw [hW1, hb9];have F1 : Fq wo W1 := (by rw [<- hW1]; exact (Fr.refl _ _).alloc _);have g9 : W1.heap[b9]? = some (.cells #[.int .i64 zd, .int .i64 zp, .slice va n3 vc] 129) := (by rw [<- hW1, <- hb9]; exact han _ _);have HF1 := hid (HS.out.2.2.2.2.2.trans F1 (fun _ _ h => h));have HB := hid (fun (V : World) (F : Fq W1 V) => cells3 (F.heap g9 (fun h => h)));obtain ⟨d0, d1, d2, dz, dl⟩ := HB.out _ (Fr.refl _ _);have hd1 : decide (q < zd) = false := (by simp; omega);have hd2 : decide ((q : Int) < (zd : Int)) = false := (by simp; omega);have hd3 : decide (3 < n3) = false := (by simp; omega);have hd4 : decide ((3 : Int) < (n3 : Int)) = false := (by simp; omega);clear hW1 hb9 F1 g9 k2 k3 k4 hgl;go_wp2_with fail
     go_loopw [10, 11] (fun pv cv wr => ∃ c pw : Nat, zd <= c /\ c <= q /\ pw = 2 ^ (c - zd) /\ pv = .int .i64 pw /\ cv = .int .i64 c /\ wr = W1) (fun _ cv _ => q - (intOf cv).toNat)
     case atStart => exact ⟨zd, 1, nR _, hdg, by rw [Nat.sub_self], rfl, rfl, rfl⟩
     case round =>
      obtain ⟨c, pw, hzc, hcq, hpw, rfl, rfl, rfl⟩ := hrel;have HPw := hid hpw;have hpw8 : pw <= 8 := (by rw [hpw]; exact nT (Nat.pow_le_pow_right (by decide) (show c - zd <= 3 by omega)) (by decide));have hpw0 : 0 < pw := (by rw [hpw]; exact Nat.pow_pos (by decide));clear hpw;by_cases hc2 : c < q
      ·have hci : (c : Int) < (q : Int) := (by omega);have hz2 : 2 * pw = 2 ^ (c + 1 - zd) := (by rw [HPw.out, show c + 1 - zd = (c - zd) + 1 by omega, Nat.pow_succ, Nat.mul_comm]);have HZ2 := hid hz2;clear hz2;go_wp2_with fail
       go_roundw;case rel => exact ⟨c + 1, 2 * pw, by omega, hc2, HZ2.out, by go_num, by go_num, trivial⟩
       case measure => simp [intOf]; omega
      ·obtain rfl : c = q := by omega
       have hci : ¬ (c : Int) < (c : Int) := (by omega);obtain ⟨W1, rfl⟩ : ∃ W : World, W = wr := ⟨_, rfl⟩
       have hqf := quo_facts (show i / pw = zp by rw [HPw.out]; exact HS.out.1) (by omega) hpw0;obtain ⟨hq1, hq2', hpn, hpn2, hnee⟩ := hqf;clear hd1 hd2 hd3 hd4 hpw8 hpw0 hzc hcq;go_wp2_with fail
       go_quiet (fail)
       clear hq1 hq2' hpn hpn2 hnee d0 d1 d2 dz dl;go_wp2_with fail
       go_loopw [12, 13] (fun nv jv wr => ∃ j cq : Nat, j <= z /\ cq = ((t'.slots c).take j).count (za, zb) /\ nv = .int .i64 cq /\ jv = .int .i64 j /\ Fq W1 wr) (fun _ jv _ => z - (intOf jv).toNat)
       case atStart => exact ⟨0, 0, Nat.zero_le _, rfl, rfl, rfl, (Fr.refl _ _).drewN _⟩
       case round =>
        obtain ⟨j, cq, hjz, hcq, rfl, rfl, hFj⟩ := hrel;have HCq := hid hcq;have hcq8 : cq <= j := by
         rw [hcq]; exact nT List.count_le_length (by rw [lT]; omega)
        have HFj := hid hFj;clear hcq hFj;by_cases hj2 : j < z
        ·have hji : (j : Int) < (z : Int) := (by omega);obtain ⟨gb', ⟨⟨jd, jp, ⟨ja, jb⟩, jes⟩, jva, jvc⟩, e', ⟨hsj, -⟩, hcj⟩ := HCe.out j hj2;cases e';obtain ⟨hgl, ⟨k0, k1⟩, -⟩ := hcj _ (HF1.out.trans HFj.out (fun _ _ h => h));obtain ⟨-, ⟨m0, m1⟩, -⟩ := HCi.out _ (HF1.out.trans HFj.out (fun _ _ h => h));have hct := count_take_succ (r := (za, zb)) (HTr.out.2.2.2 j _ hsj);simp only at k0 k1 m0 m1 hct;rw [<- HCq.out] at hct;have h35 := eql35x;clear hsj hcj;by_cases he : (ja, jb) = (za, zb)
         ·rw [if_pos he] at hct;cases he;have HCt := hid hct;clear hct;go_wp2_with fail
          go_quiet (fail)
          clear k0 k1 m0 m1 h35 hgl;go_wp2_with fail
          go_roundw;case rel => exact ⟨j + 1, cq + 1, hj2, HCt.out.symm, by go_num, by go_num, HFj.out.drewN _⟩
          case measure => simp [intOf]; omega
         ·rw [if_neg he] at hct;have HCt := hid hct;have hnee2 : (decide (ja = za) && decide (jb = zb)) = false := by
           by_cases h1 : ja = za
           ·by_cases h2 : jb = zb
            ·exact absurd (by rw [h1, h2]) he
            ·simp [h2]
           ·simp [h1]
          clear hct he;go_wp2_with fail
          go_quiet (fail)
          clear k0 k1 m0 m1 h35 hgl hnee2;go_wp2_with fail
          go_roundw;case rel => exact ⟨j + 1, cq, hj2, by rw [HCt.out, Nat.add_zero], by go_num, by go_num, HFj.out.drewN _⟩
          case measure => simp [intOf]; omega
        ·obtain rfl : j = z := by omega
         have hji : ¬ (j : Int) < (j : Int) := (by omega);obtain rfl : cq = pw := by
          rw [HCq.out, tL (Nat.le_of_eq HTr.out.2.2.1), HS.out.2.2.1, HPw.out]
         obtain ⟨wf, rfl⟩ : ∃ W : World, W = wr := ⟨_, rfl⟩
         clear HCq;go_wp2_with fail
         go_loopw [14] (fun iv wr => ∃ q : Nat, q <= n3 /\ iv = .int .i64 q /\ Fq W1 wr) (fun iv _ => n3 - (intOf iv).toNat)
         case atStart => exact ⟨0, Nat.zero_le _, rfl, HFj.out⟩
         case round =>
          obtain ⟨we, rfl⟩ : ∃ W : World, W = wr := ⟨_, rfl⟩
          obtain ⟨q, hqn, rfl, hFe⟩ := hrel;obtain ⟨d0, d1, d2, dz, dl⟩ := HB.out _ hFe;have HFe := hid hFe;clear hFe;by_cases hq2 : q < n3
          ·have hqi : (q : Int) < (n3 : Int) := (by omega);obtain ⟨E, hE⟩ : ∃ E, zes[q]? = some E := ⟨_, gE (by rw [HS.out.2.2.2.2.1]; exact hq2)⟩
           have hF2e : Fq V2 we := HF1.out.trans HFe.out (fun _ _ h => h);have hEc := fun (j : Nat) (E : Bt) (hj : zes[j]? = some E) => (fun (ge : Nat) => fun (V : World) (F : Fq we V) => own_cell (oN HS.out.2.2.2.1 (hF2e.trans F (fun _ _ h => h))) (btC_at zes j E hj).1) 0
           obtain ⟨ge, hva, -, -⟩ := hEc q E hE we (Fr.refl _ _);subst hva;have hEc2 : ∀ (j : Nat) (E : Bt), zes[j]? = some E -> ∀ V, Fq we V -> ge < V.heap.size /\ V.cell? ⟨ge, j * 4, none⟩ = some (.int .u64 E.hash) := fun j E hj V F => by
            obtain ⟨g', e', h1, h2⟩ := hEc j E hj V F;cases e';exact ⟨h1, h2⟩
           have hgo := HS.out.2.1.2.2 E (gM hE);obtain ⟨eh, heh⟩ : ∃ h, E.hash = h := ⟨_, rfl⟩
           have HFi := hid (fun W => first_ok E.hash zd hgo.1.1 (by omega) W);rw [hgo.2, heh] at HFi;have FG0 : Fq we we.drew := (Fr.refl _ _).drew;by_cases hq0 : q = 0
           ·have HC := hid (fun (V : World) (F : Fq we V) => aI (HB.out V (HFe.out.trans F (fun _ _ h => h))) (aI (hEc2 q E hE V F) trivial));rw [heh] at HC;have hq01 : decide (0 < q) = false := (by simp [hq0]);have hq02 : decide ((0 : Int) < (q : Int)) = false := (by simp [hq0]);clear hE hF2e hEc hEc2 hgo heh hq0;go_wp2_with fail
            refine wp_region_noPanic ?_;refine region_plan (fun V => Fq we V) (.rd 0 (.rd 1 (.rd 2 (.rd 3 (.rd 4 (.rd 5 (.rd 6 (.rd 7 (.rd 9 (.rd 10 (.op 8 (.rd 11 (.rd 12 (.rd 13 (.rd 14 (.rd 15 (.rd 16 (.rd 17 (.rd 18 (.rd 19 (.rd 20 (.rd 21 (.rd 22 (.rd 23 (.rd 24 (.rd 25 (.rd 26 (.rd 27 (.rd 28 (.rd 29 (.rd 30 (.rd 31 .done)))))))))))))))))))))))))))))))) (by kernel_rfl) (by kernel_rfl) (by kernel_rfl) (fun _ _ _ _ _ h => h) FG0 ?_;iterate 10
             try simp only [Act.put, sI, sZ, sS]
             refine plan_rd _ ?_ (by simp only [gA, gZ, gS]; rfl) (by rfl) ?_ ?_;rotate_left
             ·intro V hV;obtain ⟨⟨d0, d1, d2, dz, dl⟩, ⟨el, e0⟩, -⟩ := HC.out V hV;go_simp;try with_reducible rfl
            try simp only [Act.put, sI, sZ, sS]
            refine plan_op _ (by simp only [gA, gZ, gS]; rfl) (by rfl) (fun K hK => ?_);go_simp;refine (HFi.out _).mono ?_;rintro _ V8 ⟨rfl, G1⟩;have FG := FG0.trans G1 (fun _ _ h => h);try go_simp
            refine hK _ _ FG ?_;clear hK K;iterate 5
             try simp only [Act.put, sI, sZ, sS]
             refine plan_rd _ ?_ (by simp only [gA, gZ, gS]; rfl) (by rfl) ?_ ?_;rotate_left
             ·intro V hV;obtain ⟨⟨d0, d1, d2, dz, dl⟩, ⟨el, e0⟩, -⟩ := HC.out V hV;go_simp;try with_reducible rfl
            iterate 14
             try simp only [Act.put, sI, sZ, sS]
             refine plan_skB _ (by simp only [gA, gZ, gS]; rfl) (by rfl) ?_
            iterate 2
             try simp only [Act.put, sI, sZ, sS]
             refine plan_rd _ ?_ (by simp only [gA, gZ, gS]; rfl) (by rfl) ?_ ?_;rotate_left
             ·intro V hV;obtain ⟨⟨d0, d1, d2, dz, dl⟩, ⟨el, e0⟩, -⟩ := HC.out V hV;go_simp;try with_reducible rfl
            try simp only [Act.put, sI, sZ, sS]
            refine plan_done ?_;refine NoPanic.normal ?_;have HFG := hid FG;clear FG FG0 G1;go_wp2_with fail
            go_roundw;case rel => exact ⟨q + 1, hq2, by go_num, HFe.out.trans HFG.out (fun _ _ h => h)⟩
            case measure => simp [intOf]; omega
           ·obtain ⟨p, hp⟩ : ∃ p, p + 1 = q := ⟨q - 1, by omega⟩
            obtain ⟨E', hE'⟩ : ∃ E, zes[p]? = some E := ⟨_, gE (by rw [HS.out.2.2.2.2.1]; omega)⟩
            have hltE : E'.hash < E.hash := by
             have h1 := (gI.1 hE);have h2 := (gI.1 hE');have := List.pairwise_iff_getElem.1 HS.out.2.1.2.1 p q h2.1 h1.1 (by omega);rw [h2.2, h1.2] at this;exact this
            obtain ⟨eh', heh'⟩ : ∃ h, E'.hash = h := ⟨_, rfl⟩
            have HC := hid (fun (V : World) (F : Fq we V) => aI (HB.out V (HFe.out.trans F (fun _ _ h => h))) (aI (hEc2 q E hE V F) (hEc2 p E' hE' V F)));rw [heh, heh'] at HC;rw [heh, heh'] at hltE;have HPw2 := hid (show wrap64 ((q : Int) - 1) = (p : Int) /\ IntKind.i64.wrap ((q : Int) - 1) = (p : Int) from ⟨by simp only [wrap64]; omega, by rw [IntKind.wrap_i64]; omega⟩);have hq01 : decide (0 < q) = true := (by simp; omega);have hq02 : decide ((0 : Int) < (q : Int)) = true := (by simp; omega);have hle1 : decide (eh <= eh') = false := (by simp; omega);have hle2 : decide ((eh : Int) <= (eh' : Int)) = false := (by simp; omega);have hpi : (p : Int) < (n3 : Int) := (by omega);clear hE hF2e hEc hEc2 hgo heh hq0 hE' heh' hltE hp;go_wp2_with fail
            refine wp_region_noPanic ?_;refine region_plan (fun V => Fq we V) (.rd 0 (.rd 1 (.rd 2 (.rd 3 (.rd 4 (.rd 5 (.rd 6 (.rd 7 (.rd 9 (.rd 10 (.op 8 (.rd 11 (.rd 12 (.rd 13 (.rd 14 (.rd 15 (.rd 16 (.rd 17 (.rd 18 (.rd 19 (.rd 20 (.rd 21 (.rd 22 (.rd 23 (.rd 24 (.rd 25 (.rd 26 (.rd 27 (.rd 28 (.rd 29 (.rd 30 (.rd 31 .done)))))))))))))))))))))))))))))))) (by kernel_rfl) (by kernel_rfl) (by kernel_rfl) (fun _ _ _ _ _ h => h) FG0 ?_;iterate 10
             try simp only [Act.put, sI, sZ, sS]
             refine plan_rd _ ?_ (by simp only [gA, gZ, gS]; rfl) (by rfl) ?_ ?_;rotate_left
             ·intro V hV;obtain ⟨⟨d0, d1, d2, dz, dl⟩, ⟨el, e0⟩, ⟨el1, e1⟩⟩ := HC.out V hV;go_simp;try with_reducible rfl
            try simp only [Act.put, sI, sZ, sS]
            refine plan_op _ (by simp only [gA, gZ, gS]; rfl) (by rfl) (fun K hK => ?_);go_simp;refine (HFi.out _).mono ?_;rintro _ V8 ⟨rfl, G1⟩;have FG := FG0.trans G1 (fun _ _ h => h);try go_simp
            refine hK _ _ FG ?_;clear hK K;iterate 14
             try simp only [Act.put, sI, sZ, sS]
             refine plan_rd _ ?_ (by simp only [gA, gZ, gS]; rfl) (by rfl) ?_ ?_;rotate_left
             ·intro V hV;obtain ⟨⟨d0, d1, d2, dz, dl⟩, ⟨el, e0⟩, ⟨el1, e1⟩⟩ := HC.out V hV;go_simp;try with_reducible rfl
            try simp only [Act.put, sI, sZ, sS]
            refine plan_rd _ ?_ (by simp only [gA, gZ, gS]; rfl) (by rfl) ?_ ?_;rotate_left
            ·intro V hV;obtain ⟨⟨d0, d1, d2, dz, dl⟩, ⟨el, e0⟩, ⟨el1, e1⟩⟩ := HC.out V hV;obtain ⟨hw1, hw2⟩ := HPw2.out;go_simp;try with_reducible rfl
            iterate 6
             try simp only [Act.put, sI, sZ, sS]
             refine plan_rd _ ?_ (by simp only [gA, gZ, gS]; rfl) (by rfl) ?_ ?_;rotate_left
             ·intro V hV;obtain ⟨⟨d0, d1, d2, dz, dl⟩, ⟨el, e0⟩, ⟨el1, e1⟩⟩ := HC.out V hV;go_simp;try with_reducible rfl
            try simp only [Act.put, sI, sZ, sS]
            refine plan_done ?_;refine NoPanic.normal ?_;have HFG := hid FG;clear FG FG0 G1 hq01 hq02 hle1 hle2 hpi;go_wp2_with fail
            go_roundw;case rel => exact ⟨q + 1, hq2, by go_num, HFe.out.trans HFG.out (fun _ _ h => h)⟩
            case measure => simp [intOf]; omega
          ·obtain rfl : q = n3 := by omega
           have hqi : ¬ (q : Int) < (q : Int) := (by omega);go_wp2_with fail
           go_roundw;case rel => exact ⟨i + 1, hlt, by go_num, HF1.out.trans HFe.out (fun _ _ h => h)⟩
           case measure => simp [intOf]; omega
    ·obtain rfl : i = z := by omega
     have hii : ¬ (i : Int) < (i : Int) := (by omega);have HFo := hid hFo;clear hFo;go_wp2_with fail
     go_ret;exact ⟨rfl, HEnd.out.1.fr0 HFo.out, FrI.trans HEnd.out.2 (FrI.none HFo.out)⟩
theorem indexShape_in {a : Option Addr} {n c : Nat} {l : List ActX} (hn : l.length = n) (w : World) (hT : Tab w) (hA : ActXR w a l) :
  Calls Tryz.prog 16 #[.slice a n c] w fun e w' => e = .returned (.bool true) /\ Fq w w' := by
 have HM := hid (made17_ok w hT);have HT := hid hT;have HA := hid hA;have HN := hid hn;clear hT hA hn;go_enter Tryz.func16, Tryz.ntmps16;by_cases h100 : (100 : Int) < (n : Int)
 ·go_wp2_with fail
  exact bodyPost_ret (v := .bool true) (by simp [results, go_sem, *]) rfl ⟨rfl, Fr.refl _ _⟩
 have hn100 : n <= 100 := by omega
 have HN1 := hid hn100;go_wp2_with fail
 refine HM.out.mono ?_;rintro e w1 ⟨B, bx, bd, y, x0, r, rfl, F1, ⟨hb1, hb2, hb3⟩, hI, hx0, hgn, -⟩;obtain ⟨bs, hbs⟩ : ∃ b, B.s = b := ⟨_, rfl⟩
 obtain ⟨bv, hbv⟩ : ∃ b, B.d = b := ⟨_, rfl⟩
 have hK0 : KpJ w w.heap.size bs bv bx 0 (.leaf (0, 0) []) w1 := ⟨B, bd, y, x0, .leaf r [], 3, 0, hI, ⟨by simp [Tr.refs], rfl⟩, rfl, ⟨hb1, hbs, hbv⟩, F1, ⟨rfl, hb2, hb3⟩, by omega⟩;have HK0 := hid hK0;rw [show B.ptr = .pointer (some ⟨bs, 0, none⟩) by rw [<- hbs], hbv];clear F1 hb1 hb2 hb3 hI hx0 HM hK0 hbs hbv hgn;go_wp2_with fail
 go_loopw [6] (fun v wr => ∃ (i : Nat) (t : Tr) (k : Nat), i <= n /\ v = .int .i64 i /\ KpJ w w.heap.size bs bv bx k t wr /\ k <= 6 * i) (fun v _ => n - (intOf v).toNat)
 case atStart => exact ⟨0, _, 0, Nat.zero_le _, rfl, HK0.out, nR _⟩
 case round =>
  obtain ⟨i, t, k, hin, rfl, hKp, hki⟩ := hrel;have HKp := hid hKp;clear hKp;by_cases hlt : i < n
  ·have hli : (i : Int) < (n : Int) := by omega
   obtain ⟨x, hx⟩ : ∃ x, l[i]? = some x := ⟨_, gE (by rw [HN.out]; exact hlt)⟩
   obtain ⟨b, off, hab, hbw, -, -, hok⟩ := HA.out.at_ i x hx;subst hab;have HCell := hid (fun (V : World) (F : Fq w V) => show V.cell? ⟨b, off + i * 6, none⟩ = some (.int .i64 x.kind) /\ V.cell? ⟨b, off + i * 6 + 1, none⟩ = some (.int .i64 x.oldest) /\ V.cell? ⟨b, off + i * 6 + 2, none⟩ = some (.int .u64 x.e.hash) /\ V.cell? ⟨b, off + i * 6 + 3, none⟩ = some (.int .i64 x.e.rg) /\ V.cell? ⟨b, off + i * 6 + 4, none⟩ = some (.int .i64 x.e.at_) /\ V.cell? ⟨b, off + i * 6 + 5, none⟩ = some (.int .i64 x.e.sz) by
    obtain ⟨b', off', e, -, ⟨h0, h1⟩, ⟨h2, h3, h4, h5⟩, -⟩ := (HA.out.fr F).at_ i x hx;cases e;exact ⟨h0, h1, h2, h3, h4, h5⟩)
   have HX := hid hok;clear hx hok hbw;obtain ⟨e0, e1, e2, e3, e4, e5⟩ := HCell.out _ HKp.out.fr;obtain ⟨w0k, hw0k⟩ : ∃ z, (wrap64 (x.kind.tmod 8 + 8)).tmod 8 = z := ⟨_, rfl⟩
   go_upto_block 2 with fail
   go_cut [] from 35 to 71 (fun wx => ∃ t2, KpJ w w.heap.size bs bv bx (k + 3) t2 wx)
   case first =>
    by_cases h6 : (6 : Int) <= w0k
    ·have hd6 : decide ((6 : Int) <= w0k) = true := (by simp [h6]);clear h6;have HFl := hid (kj_flush HKp.out (by have := HN1.out; omega));go_wp2_with fail
     refine HFl.out.mono ?_;rintro e V2 ⟨rfl, hK2, -⟩;have HSy := hid (kj_sync hK2 (by have := HN1.out; omega));clear hK2 HFl e0 e1 e2 e3 e4 e5;go_wp2_with fail
     refine HSy.out.mono ?_;rintro e V3 ⟨rfl, hK3, -⟩;have HCm := hid (kj_commit hK3 (by have := HN1.out; omega));clear hK3 HSy;go_wp2_with fail
     refine HCm.out.mono ?_;rintro e V4 ⟨rfl, hK4, -⟩;have HK4 := hid hK4;clear hK4 HCm;go_wp2_with fail
     go_meet
     exact ⟨_, HK4.out⟩
    ·have hd6 : decide ((6 : Int) <= w0k) = false := (by simp; omega);clear h6;by_cases h4 : w0k = 4
     ·have hd4 : (w0k == 4) = true := (by simp [h4]);clear h4;have HDr := hid (kj_drop HKp.out HX.out.wh (by have := HN1.out; omega));go_wp2_with fail
      refine HDr.out.mono ?_;rintro e V2 ⟨rfl, hK2, -⟩;have HK2 := hid hK2;clear hK2 HDr e0 e1 e2 e3 e4 e5;go_wp2_with fail
      go_meet
      exact ⟨_, HK2.out.mono (by omega)⟩
     ·have hd4 : (w0k == 4) = false := (by simp [h4]);clear h4;have HPu := hid (fun V (F : Fq wr V) => kj_any (HKp.out.fr0 F) x.e x.oldest HX.out.wh (by have := HN1.out; omega));have HC := hid (fun (V : World) (F : FrI w.heap.size wr V) => HCell.out V (F.fr0 (nR _) HKp.out.fr));have FG0 : Fq wr wr.drew := (Fr.refl _ _).drew;go_wp2_with fail
      refine wp_region_noPanic ?_;refine region_plan (fun V => FrI w.heap.size wr V) (.rd 0 (.rd 1 (.rd 2 (.rd 3 (.rd 4 (.rd 5 (.rd 7 (.rd 8 (.rd 9 (.rd 10 (.rd 11 (.op 6 (.op 12 .done))))))))))))) (by kernel_rfl) (by kernel_rfl) (by kernel_rfl) (fun _ _ _ _ _ h => h) (FrI.none FG0) ?_;iterate 11
       try simp only [Act.put, sI, sZ, sS]
       refine plan_rd _ ?_ (by simp only [gA, gZ, gS]; rfl) (by rfl) ?_ ?_;rotate_left
       ·intro V hV;obtain ⟨e0, e1, e2, e3, e4, e5⟩ := HC.out V hV;go_simp;try with_reducible rfl
      try simp only [Act.put, sI, sZ, sS]
      refine plan_op _ (by simp only [gA, gZ, gS]; rfl) (by rfl) (fun K hK => ?_);go_simp;refine (entry17_ok x.e _).mono ?_;rintro _ V8 ⟨rfl, G1⟩;have FG := FG0.trans G1 (fun _ _ h => h);have HPv := HPu.out V8 FG;try go_simp
      refine hK _ _ (FrI.none FG) ?_;clear hK K;try simp only [Act.put, sI, sZ, sS]
      refine plan_op _ (by simp only [gA, gZ, gS]; rfl) (by rfl) (fun K hK => ?_);go_simp;refine HPv.mono ?_;rintro _ V9 ⟨v9, t2, rfl, hK3, G2⟩;have FG9 : FrI w.heap.size wr V9 := FrI.trans (FrI.none FG) G2;have HK3 := hid hK3;try go_simp
      refine hK _ _ FG9 ?_;clear hK K hK3;try simp only [Act.put, sI, sZ, sS]
      refine plan_done ?_;refine NoPanic.normal ?_;go_wp2_with fail
      go_meet
      exact ⟨_, HK3.out.mono (by omega)⟩
   case rest =>
    obtain ⟨t2, hK2⟩ := hcut;have HPg := hid (kj_pages hK2 (by have := HN1.out; omega));clear hK2 e0 e1 e2 e3 e4 e5;go_wp2_with fail
    refine HPg.out.mono ?_;rintro e V2 ⟨pa, pc, rfl, hK3, -⟩;obtain ⟨o, ho⟩ : ∃ o, ownN t2 = o := ⟨_, rfl⟩
    rw [ho];have HPt := hid (kj_parts hK3);have HK3 := hid hK3;rw [ho] at HPt;clear hK3 HPg ho;go_wp2_with fail
    refine HPt.out.mono ?_;rintro e V3 ⟨a0, a1, a2, a3, n0, n1, n2, n3, c0, c1, c2, c3, rfl, ⟨hn0, hn200⟩, F3⟩;have HN0 := hi2 hn0 hn200;clear hn0 hn200;have HK4 := hid (HK3.out.fr0 F3);clear F3 HPt;obtain ⟨b9, hb9⟩ : ∃ b, V3.heap.size = b := ⟨_, rfl⟩
    go_upto_region 19 with fail
    obtain ⟨V4, hV4⟩ : ∃ V4, V3.alloc (.cells #[.slice a0 n0 c0, .slice a1 n1 c1, .slice a2 n2 c2, .slice a3 n3 c3] 54) = V4 := ⟨_, rfl⟩
    have F4 : Fq V3 V4 := (by rw [<- hV4]; exact (Fr.refl _ _).alloc _);have g9 : V4.heap[b9]? = some (.cells #[.slice a0 n0 c0, .slice a1 n1 c1, .slice a2 n2 c2, .slice a3 n3 c3] 54) := (by rw [<- hV4, <- hb9]; exact han _ _);rw [hV4];try rw [hb9]
    have HG9 := hid g9;have HSh := hid (shaped_ok (HK4.out.fr0 F4) (by have := HN1.out; omega));clear hV4 hb9 F4 g9;go_wp2_with fail
    refine HSh.out.mono ?_;rintro e V5 ⟨rfl, hK5, F5⟩;obtain ⟨q0, q1, q2, q3, qz, ql⟩ := cells4 (FrI.heap F5 HG9.out (by decide));have HK5 := hid hK5;clear hK5 F5 HSh;obtain ⟨hn0, hn200⟩ := HN0.out;have hs1 : ((o : Int) + (n2 : Int) + (n3 : Int)) = (n0 : Int) := (by omega);have hs2 : (((o : Int) + (n2 : Int) + (n3 : Int)) != (n0 : Int)) = false := (by simp; omega);have hb1 : o <= 200 /\ n2 <= 200 /\ n3 <= 200 := (by omega);obtain ⟨hb11, hb12, hb13⟩ := hb1;clear hn0;go_wp2_with fail
    go_roundw;case rel => exact ⟨i + 1, t2, k + 3 + 1 + 1, hlt, by go_num, HK5.out, by omega⟩
    case measure => simp [intOf]; omega
  ·obtain rfl : i = n := by omega
   have hli : ¬ (i : Int) < (i : Int) := by omega
   have HAw := hid (awake17_ok wr (HT.out.fr HKp.out.fr (fun h => h)));go_wp2_with fail
   refine HAw.out.mono ?_;rintro e V5 ⟨rfl, F5⟩;go_wp2_with fail
   exact bodyPost_ret (v := .bool true) (by simp [results, go_sem, *]) rfl ⟨rfl, HKp.out.fr.trans F5 (fun _ _ h => h)⟩
end Go.Proofs.YtgdhaaokolfdoaaGreatDoor
