/- A pack of texts: DQ, DT, DU. Conditions: those that each text names. -/
import Derived.Test.YtgdhaaokolfdoaaGreatDoorJBH
set_option linter.unusedVariables false
set_option linter.unusedSimpArgs false
set_option linter.unnecessarySimpa false
namespace Go.Proofs.YtgdhaaokolfdoaaGreatDoor
open Go.Proofs Go.RowKit Go.Sg Go.Shelf CP SF
attribute [local go_sem] Oper.semAt_some
theorem groups_any (bd : Nat) (a : Option Addr) (n c : Nat) (w : World) :
    Calls Tryz.prog 126 #[dptr bd, .slice a n c] w fun e w' => e = .returned (.func (.func 186) #[] #[.pointer (some ⟨w.heap.size + 1, 0, none⟩), .pointer (some ⟨w.heap.size, 0, none⟩)]) ∧ (w.alloc (.cells #[dptr bd] 83)).alloc (.cells #[.slice a n c] 52) = w' := by
  go_enter Tryz.func126, Tryz.ntmps126
  go_wp2_with fail
  go_ret
  exact ⟨rfl, rfl⟩
structure Grp where
  page : Nat
  a : Option Addr
  n : Nat
  c : Nat
  part : List Int
abbrev encG (x : Grp) : Array Value := #[.int .i64 x.page, .slice x.a x.n x.c]
def GrpT (per : Nat) (L : List Int) (x : Grp) (W : World) : Prop := SlI W x.a x.n x.c x.part ∧ (∀ z ∈ x.part, z ∈ L ∧ ∃ k : Nat, z = k ∧ k / per = x.page) ∧ (0 < x.n ∧ x.n ≤ 100000) ∧ ∃ g off c, x.a = some ⟨g, off, none⟩ ∧ W.heap[g]? = some (.cells c 3)
def KpG (bs bdir bd : Nat) (A C : World) : Prop := (∀ (g : Nat) (c : Array Value) (f : Nat × Nat), A.heap[g]? = some (.cells c 3 f) → C.heap[g]? = some (.cells c 3 f)) ∧ C.heap[bs]? = A.heap[bs]? ∧ C.heap[bdir]? = A.heap[bdir]? ∧ (∀ i, C.cell? ⟨bd, 1, none⟩ = some i ↔ A.cell? ⟨bd, 1, none⟩ = some i)
theorem KpG.trans {bs bdir bd : Nat} {A C D : World} (h : KpG bs bdir bd A C) (k : KpG bs bdir bd C D) : KpG bs bdir bd A D :=
  ⟨fun g c f hg => k.1 g c f (h.1 g c f hg), k.2.1.trans h.2.1, k.2.2.1.trans h.2.2.1, fun i => (k.2.2.2 i).trans (h.2.2.2 i)⟩
theorem owns_fr {β : Type} {Bn : Nat} {J : β → World → Prop} (hJ : OwnFrom Bn J) {s : β} {W W' : World} (h : J s W) (F : Fr (fun _ => False) W W') : J s W' :=
  hJ s W W' none h ⟨F.os, F.tape, F.output, F.size, fun b hb _ => F.block b hb (fun h => h)⟩ (fun r e => by cases e)
theorem KpG.drewN (bs bdir bd : Nat) (W : World) (m : Nat) : KpG bs bdir bd W (W.drewN m) := ⟨fun _ _ _ h => h, rfl, rfl, fun _ => Iff.rfl⟩
theorem ownI_kp {A C : World} {b bs bdir bd n : Nat} {v : Value} {ks : List Value} (h : A.ownsRow b 3 1 v n ks) (K : KpG bs bdir bd A C) : C.ownsRow b 3 1 v n ks := by
  obtain ⟨hl, h0 | ⟨g, cap, cur, hv, hb, hg, r⟩⟩ := h
  · exact ⟨hl, .inl h0⟩
  · exact ⟨hl, .inr ⟨g, cap, cur, hv, hb, K.1 g cur _ hg, r⟩⟩
def sliceLen : Value → Nat
  | .slice _ m _ => m
  | _ => 0
abbrev sortI (l : List Int) : List Int := l.mergeSort (fun x y => decide (x ≤ y))
set_option maxRecDepth 100000 in
set_option maxHeartbeats 4000000 in
theorem groupsf_tell {w : World} {bs bdir bd s : Nat} {x : DirD} {a : Option Addr} {n c : Nat} {l : List Int} (hs : w.heap[bs]? = some (.cells #[.slice a n c] 52)) (hdb : w.heap[bdir]? = some (.cells #[dptr bd] 83)) (hD : DirAt w bd s x) (hl : SlI w a n c l) (hn : n ≤ 100000) (hper : 0 < x.per ∧ x.per ≤ 41) (hin : ∀ z ∈ l, 0 ≤ z ∧ z < 1048577) :
    SeqTell Fence.wide 9 Tryz.prog 186 #[.pointer (some ⟨bs, 0, none⟩), .pointer (some ⟨bdir, 0, none⟩)] encG (GrpT x.per l) (KpG bs bdir bd) (fun xs => xs.flatMap (·.part) = sortI l) (fun _ => True) n w := fun lp J Jx W hW hJ hJx hY h0 => by
  have FW : Fr (fun _ => False) w W := Fr.of_below hW
  have hs' := FW.heap hs (fun h => h)
  have hdb' := FW.heap hdb (fun h => h)
  have hD' : DirAt W bd s x := FW.heap hD (fun h => h)
  have HCl := hid (clonei_ok (hl.fr0 FW) hn)
  have cs := cell_of_heap hs' 0
  simp at cs
  have HX := hid (And.intro hs' (And.intro hdb' (And.intro hD' (And.intro hl.len (And.intro hin h0)))))
  clear hs hdb hD hl hin hs' hdb' hD' hW FW h0
  refine callsIn_of_wp Tryz.func186 rfl trivial ?_ rfl
  simp only [Tryz.ntmps186, List.size_toArray, List.length_cons, List.length_nil, Nat.reduceAdd, Nat.reduceSub, Array.replicate_succ, Array.replicate_zero, List.push_toArray, List.append_toArray, List.nil_append, List.cons_append]
  gi_wp2_with (fail)
  refine (callsIn_wide.2 HCl.out).mono ?_
  rintro e W1 ⟨v, rfl, hown, F1⟩
  have HSo := hid (sorti_ok hown (by rw [HX.out.2.2.2.1]; exact hn))
  have H1 := hid (And.intro hown F1)
  clear hown F1 cs HCl
  gi_wp2_with (fail)
  refine (callsIn_wide.2 HSo.out).mono ?_
  rintro e W2 ⟨rfl, hown2, F2⟩
  have F02 : Fr (fun _ => False) W W2 := H1.out.2.trans F2 (fun b hb e => by have := (own_blockT H1.out.1 e).1; omega)
  have hlen : (sortI l).length = n := by rw [List.length_mergeSort]; exact HX.out.2.2.2.1
  obtain ⟨va, vc, rfl, hvc, -, -, -⟩ := own_slice hown2
  have hb2 := F02.heap HX.out.1 (fun h => h)
  have hd2 := F02.heap HX.out.2.1 (fun h => h)
  have hD2 := F02.heap HX.out.2.2.1 (fun h => h)
  have hown2' : W2.ownsRow W.heap.size 3 1 (.slice va n vc) n ((sortI l).map (Value.int .i64)) := by rw [← hlen]; exact hown2
  have H2 := hid (And.intro hown2' (And.intro hb2 (And.intro hd2 (And.intro hD2 (And.intro (owns_fr hJ HX.out.2.2.2.2.2 F02) hlen)))))
  have hmem : ∀ z ∈ sortI l, z ∈ l := fun z hz => (List.mergeSort_perm l _).mem_iff.1 hz
  have HM := hid hmem
  rw [hlen] at hvc ⊢
  clear hown2 hown2' F2 F02 hb2 hd2 hD2 hlen hmem HSo H1
  gi_wp2
  gi_loopw [4] (fun tv wr => ∃ (q : Nat) (pre : List Grp) (ad : Option Addr) (cq : Nat), q ≤ n ∧ tv = .slice ad (n - q) cq ∧ (q < n → (∃ g, va = some ⟨g, 0, none⟩ ∧ ad = some ⟨g, q, none⟩) ∧ n - q ≤ cq) ∧ J pre wr ∧ pre.flatMap (·.part) = (sortI l).take q ∧ pre.length ≤ q ∧ KpG bs bdir bd W2 wr) (fun tv _ => sliceLen tv)
  case atStart =>
    refine ⟨0, [], va, vc, Nat.zero_le _, rfl, fun h => ⟨?_, hvc⟩, H2.out.2.2.2.2.1, rfl, Nat.le_refl _, KpG.drewN bs bdir bd W2 0⟩
    obtain ⟨z, hz⟩ : ∃ z, (sortI l)[0]? = some z := ⟨_, List.getElem?_eq_getElem (by rw [H2.out.2.2.2.2.2]; exact h)⟩
    obtain ⟨-, ⟨h1, h2⟩ | ⟨g, cap, cur, hv, _⟩⟩ := H2.out.1
    · omega
    · cases hv; exact ⟨g, rfl, rfl⟩
  case round =>
    obtain ⟨q, pre, ad, cq, hq, rfl, hsub, hJp, hpre, hplen, hkp⟩ := hrel
    by_cases hlt : q < n
    · obtain ⟨⟨g, rfl, rfl⟩, hcq⟩ := hsub hlt
      have hd : decide ((0 : Int) < ((n - q : Nat) : Int)) = true := by simp; omega
      have hd0 : (0 : Int) < ((n - q : Nat) : Int) := by omega
      have hownr : wr.ownsRow W.heap.size 3 1 (.slice (some ⟨g, 0, none⟩) n vc) n ((sortI l).map (Value.int .i64)) := ownI_kp H2.out.1 hkp
      have hcell : ∀ (i : Nat) z, (sortI l)[i]? = some z → wr.cell? ⟨g, i, none⟩ = some (.int .i64 z) := fun i z hz => by
        obtain ⟨g', e', _, hc⟩ := own_cell hownr (show ((sortI l).map (Value.int .i64))[i]? = some (.int .i64 z) by rw [List.getElem?_map, hz]; rfl)
        cases e'
        exact hc
      have hnat : ∀ (i : Nat), i < n → ∃ k : Nat, (sortI l)[i]? = some (k : Int) ∧ k < 1048577 := fun i hi => by
        have h1 := List.getElem?_eq_getElem (l := sortI l) (i := i) (by rw [H2.out.2.2.2.2.2]; exact hi)
        have h2 := HX.out.2.2.2.2.1 _ (HM.out _ (List.mem_of_getElem? h1))
        obtain ⟨k, hk⟩ := Int.eq_ofNat_of_zero_le h2.1
        exact ⟨k, by rw [h1, hk], by omega⟩
      obtain ⟨k0, hk0, hk0b⟩ := hnat q hlt
      have c0 := hcell q _ hk0
      have cb := cell_of_heap (hkp.2.2.1.trans H2.out.2.2.1) 0
      have cp := (hkp.2.2.2 _).2 (cells6 (show DirAt W2 bd s x from H2.out.2.2.2.1)).2.1
      simp at cb
      have hquo : ∀ k : Nat, k < 1048577 → wrap64 ((k : Int) / (x.per : Int)) = ((k / x.per : Nat) : Int) := fun k hk => by
        have h1 : (k : Int) / (x.per : Int) = ((k / x.per : Nat) : Int) := by simp
        have h2 := Nat.div_le_self k x.per
        rw [h1]; generalize k / x.per = qq at *; simp only [wrap64]; omega
      have hq0 := hquo k0 hk0b
      have HC := hid (And.intro hcell (And.intro hnat (And.intro hquo (And.intro hk0 (And.intro hJp (And.intro hpre hkp))))))
      have hp0 := hper.1
      clear hownr hcell hnat hquo hk0 hJp hpre hkp hsub
      gi_wp2
      gi_big_quiet_th (fail)
      gi_wp2
      rw [hq0]
      obtain ⟨pg, hpg⟩ : ∃ pg, k0 / x.per = pg := ⟨_, rfl⟩
      rw [hpg]
      have HP := hid hpg
      obtain ⟨r, hr⟩ : ∃ r, n - q = r := ⟨_, rfl⟩
      have HRr := hid hr
      rw [hr] at hcq hd hd0 ⊢
      have hr0 : 0 < r := by omega
      have hrn : q + r = n := by omega
      clear hpg hr hq0 c0
      gi_loopw [6] (fun jv wr2 => ∃ (j m : Nat), 1 ≤ j ∧ j ≤ r ∧ jv = .int .i64 j ∧ wr2 = wr.drewN m ∧ ∀ (i : Nat) z, i < j → (sortI l)[q + i]? = some z → ∃ kk : Nat, z = kk ∧ kk / x.per = pg) (fun jv _ => r - (intOf jv).toNat)
      case atStart =>
        refine ⟨1, nq, Nat.le_refl _, hr0, rfl, rfl, fun i z hi hz => ?_⟩
        obtain rfl : i = 0 := by omega
        rw [Nat.add_zero, HC.out.2.2.2.1] at hz
        cases hz
        exact ⟨k0, rfl, HP.out⟩
      case round =>
        obtain ⟨j, m, hj1, hjr, rfl, rfl, hall⟩ := hrel
        have HA := hid hall
        clear hall
        have hto := to52 (some ⟨g, q, none⟩) r cq j (by omega)
        have hfrom := from52 (some ⟨g, q, none⟩) r cq j hjr
        by_cases hgo : j < r ∧ ∃ kk : Nat, (sortI l)[q + j]? = some (kk : Int) ∧ kk / x.per = pg
        · obtain ⟨hlt2, kk, hkk, hkp⟩ := hgo
          have hdj : decide ((j : Int) < (r : Int)) = true := by simp; omega
          have hji : (j : Int) < (r : Int) := by omega
          have cj : wr.cell? ⟨g, q + j, none⟩ = some (.int .i64 kk) := HC.out.1 _ _ hkk
          have hkb : kk < 1048577 := by
            obtain ⟨k', h1, h2⟩ := HC.out.2.1 (q + j) (by omega)
            rw [hkk] at h1
            have := Option.some.inj h1
            omega
          have hqj := HC.out.2.2.1 kk hkb
          rw [hkp] at hqj
          have heq : ((pg : Int) == (pg : Int)) = true := by simp
          have HK := hid hkk
          have HKP := hid hkp
          clear hkk hkp
          gi_wp2
          gi_big_quiet_th (fail)
          gi_wp2
          go_roundw
          case rel =>
            refine ⟨j + 1, m + nq, by omega, hlt2, by go_num, by simp [World.drewN, Nat.add_assoc], fun i z hi hz => ?_⟩
            by_cases hij : i = j
            · subst hij
              rw [HK.out] at hz; cases hz
              exact ⟨kk, rfl, HKP.out⟩
            · exact HA.out i z (by omega) hz
          case measure => simp [intOf]; omega
        · have hpl : (((sortI l).drop q).take j).length = j := by rw [List.length_take, List.length_drop, H2.out.2.2.2.2.2]; omega
          have hpg : ∀ i z, (((sortI l).drop q).take j)[i]? = some z → i < j ∧ (sortI l)[q + i]? = some z := fun i z hz => by
            have hi := (List.getElem?_eq_some_iff.1 hz).1
            rw [hpl] at hi
            rw [List.getElem?_take, if_pos hi, List.getElem?_drop] at hz
            exact ⟨hi, hz⟩
          have hG : ∀ mm, GrpT x.per l ⟨pg, some ⟨g, q, none⟩, j, cq, ((sortI l).drop q).take j⟩ (wr.drewN mm) := fun mm => by
            have hownr : wr.ownsRow W.heap.size 3 1 (.slice (some ⟨g, 0, none⟩) n vc) n ((sortI l).map (Value.int .i64)) := ownI_kp H2.out.1 HC.out.2.2.2.2.2.2
            obtain ⟨-, cg, hcg⟩ := own_blockT hownr (g := g) rfl
            refine ⟨⟨hpl, fun i z hz => ?_, fun e => by cases e⟩, fun z hz => ?_, ⟨by show 0 < j; omega, by show j ≤ 100000; omega⟩, ⟨g, q, cg, rfl, hcg⟩⟩
            · obtain ⟨hi, hz'⟩ := hpg i z hz
              exact ⟨g, q, rfl, lt_of_heap hcg, HC.out.1 _ _ hz'⟩
            · obtain ⟨i, hi⟩ := List.mem_iff_getElem?.1 hz
              obtain ⟨hi', hz'⟩ := hpg i z hi
              exact ⟨HM.out z (List.mem_of_getElem? hz'), HA.out i z hi' hz'⟩
          have hfl : ∀ (xs : List Grp), xs = pre ++ [⟨pg, some ⟨g, q, none⟩, j, cq, ((sortI l).drop q).take j⟩] → xs.flatMap (·.part) = (sortI l).take (q + j) := fun xs e => by
            rw [e, List.flatMap_append, HC.out.2.2.2.2.2.1, List.take_add]
            simp
          have HG := hid (And.intro hG hfl)
          have hjn : j ≤ n - q := by omega
          clear hpl hpg hG hfl
          by_cases hlt2 : j < r
          · have hdj : decide ((j : Int) < (r : Int)) = true := by simp; omega
            have hji : (j : Int) < (r : Int) := by omega
            obtain ⟨kk, hkk, hkb⟩ := HC.out.2.1 (q + j) (by omega)
            have hne : kk / x.per ≠ pg := fun e => hgo ⟨hlt2, kk, hkk, e⟩
            have cj : wr.cell? ⟨g, q + j, none⟩ = some (.int .i64 kk) := HC.out.1 _ _ hkk
            have hqj := HC.out.2.2.1 kk hkb
            generalize kk / x.per = pk at *
            have heq : ((pk : Int) == (pg : Int)) = false := by simp; omega
            clear hgo hkk hne
            gi_wp2
            gi_big_quiet_th (fail)
            have hGm := HG.out.1 (m + nq)
            obtain ⟨fn, tmps, assign, body, hy, hRR⟩ := hY pre _ _ (owns_fr hJ HC.out.2.2.2.2.1 ((Fr.refl _ _).drewN (m + nq))) hGm (by omega)
            dsimp only [encG] at hy
            have hdr : (wr.drewN m).drewN nq = wr.drewN (m + nq) := by simp [World.drewN, Nat.add_assoc]
            rw [hdr]
            clear hdr hGm
            gi_wp2
            refine hRR.mono ?_
            rintro e W3 (⟨rfl, hJ3, hk3⟩ | ⟨rfl, hJx3⟩)
            · have H3 := hid (And.intro hJ3 (KpG.trans (KpG.trans HC.out.2.2.2.2.2.2 (KpG.drewN bs bdir bd wr (m + nq))) hk3))
              clear hJ3 hk3
              gi_wp2
              go_roundw
              case rel =>
                refine ⟨q + j, pre ++ [⟨pg, some ⟨g, q, none⟩, j, cq, ((sortI l).drop q).take j⟩], some ⟨g, q + j, none⟩, cq - j, by omega, ?_, fun hq' => ⟨⟨g, rfl, rfl⟩, by omega⟩, H3.out.1, HG.out.2 _ rfl, by simp; omega, H3.out.2⟩
                rw [show n - (q + j) = r - j by omega]
              case measure => simp [sliceLen]; omega
            · have HJX := hid hJx3
              clear hJx3
              gi_wp2
              refine bodyPost_ret (results_none rfl _ _ _) rfl ?_
              exact ⟨⟨_, rfl⟩, .inr ⟨_, trivial, HJX.out⟩⟩
          · have hdj : decide ((j : Int) < (r : Int)) = false := by simp; omega
            clear hgo
            gi_wp2
            gi_big_quiet_th (fail)
            have hGm := HG.out.1 (m + nq)
            obtain ⟨fn, tmps, assign, body, hy, hRR⟩ := hY pre _ _ (owns_fr hJ HC.out.2.2.2.2.1 ((Fr.refl _ _).drewN (m + nq))) hGm (by omega)
            dsimp only [encG] at hy
            have hdr : (wr.drewN m).drewN nq = wr.drewN (m + nq) := by simp [World.drewN, Nat.add_assoc]
            rw [hdr]
            clear hdr hGm
            gi_wp2
            refine hRR.mono ?_
            rintro e W3 (⟨rfl, hJ3, hk3⟩ | ⟨rfl, hJx3⟩)
            · have H3 := hid (And.intro hJ3 (KpG.trans (KpG.trans HC.out.2.2.2.2.2.2 (KpG.drewN bs bdir bd wr (m + nq))) hk3))
              clear hJ3 hk3
              gi_wp2
              go_roundw
              case rel =>
                refine ⟨q + j, pre ++ [⟨pg, some ⟨g, q, none⟩, j, cq, ((sortI l).drop q).take j⟩], if cq = j then some ⟨g, q, none⟩ else some ⟨g, q + j, none⟩, cq - j, by omega, ?_, fun hq' => absurd hq' (by omega), H3.out.1, HG.out.2 _ rfl, by simp; omega, H3.out.2⟩
                rw [show n - (q + j) = r - j by omega]
              case measure => simp [sliceLen]; omega
            · have HJX := hid hJx3
              clear hJx3
              gi_wp2
              refine bodyPost_ret (results_none rfl _ _ _) rfl ?_
              exact ⟨⟨_, rfl⟩, .inr ⟨_, trivial, HJX.out⟩⟩
    · obtain rfl : q = n := by omega
      have e0 : q - q = 0 := Nat.sub_self q
      rw [e0]
      have HC := hid (And.intro hJp hpre)
      clear hJp hpre hkp hsub
      gi_wp2
      go_end0
      exact ⟨⟨_, rfl⟩, .inl ⟨pre, by rw [HC.out.2, List.take_of_length_le (by rw [H2.out.2.2.2.2.2]; exact Nat.le_refl _)], HC.out.1⟩⟩
end Go.Proofs.YtgdhaaokolfdoaaGreatDoor

namespace Go.Proofs.YtgdhaaokolfdoaaGreatDoor
open Go.RowKit Go.Sg Go.Sg.Bits Go.Sg.Clk CP SF
abbrev SetT (y : Cs) (rp : Int) (tops : List Rf) (rest : List Nat) (M : Nat) (K : Prop) (c0 : Cont) (per : Nat) (sl : List Rf) : Prop := Tops y rp tops rest M K c0 (fun j => some (loadM (chunk sl per j)))
theorem set_step {y : Cs} {rp : Int} {tops sl : List Rf} {rest : List Nat} {M : Nat} {K : Prop} {c0 : Cont} {per : Nat} (h : SetT y rp tops rest M K c0 per sl) (ap : Apart y.taken y.fresh y.dying y.dead) (hper : 0 < per) {i m : Nat} {q : Rf} (hi : tops[i]? = some q) (hm : PutIs y q.1.toNat m) (hpg : y.pages ≤ 2147483647) (hg : y.gen < 9223372036854775808) {L : List Nat} (hL : ∀ n ∈ L, n / per = i) (r : Rf) :
    SetT (y.put q.1.toNat m (loadM (setM (chunk sl per i) (L.map (· % per)) r))) rp (tops.set i ((m : Int), (y.gen : Int))) rest M K c0 per (setM sl L r) := by
  have ht := put_tops h ap hi hm hpg hg (loadM (setM (chunk sl per i) (L.map (· % per)) r))
  have e : (fun j => if j = i then some (loadM (setM (chunk sl per i) (L.map (· % per)) r)) else some (loadM (chunk sl per j))) = fun j => some (loadM (chunk (setM sl L r) per j)) := by
    funext j
    by_cases hj : j = i
    · subst hj; rw [if_pos rfl, chunk_set hL hper]
    · rw [if_neg hj, chunk_other hL hj]
  rw [e] at ht
  exact ht
theorem set_end {y y' : Cs} {x : DirD} {tops sl : List Rf} {rest : List Nat} {M : Nat} {K : Prop} {c0 : Cont} (h : SetT y x.rp tops rest M K c0 x.per sl) (ap : Apart y.taken y.fresh y.dying y.dead) (hz : DirZ y x) (hsl : sl.length = x.slots) (htl : tops.length = x.leaves) (hsr : ∀ r ∈ sl, rightR r) {m : Nat} (hm : PutIs y x.rp.toNat m) (he : y' = y.put x.rp.toNat m (loadM tops)) :
    DirC y' { x with rp := m, rs := y.gen } tops sl ∧ Live y' (pgs m tops ++ rest) M ∧ (K → AllFresh y' (pgs m tops ++ rest)) ∧ (∀ k ∈ rest, y'.cont k = c0 k) ∧ (Like y y' ∧ y'.gen = y.gen ∧ y'.dead = y.dead) := by
  subst he
  obtain ⟨ht, hc⟩ := root_put h ap hm (loadM tops)
  obtain ⟨l1, l2, l3⟩ := put_like y x.rp.toNat m (loadM tops)
  refine ⟨⟨⟨hz.most, ⟨hz.per.1, by rw [l1.room]; exact hz.per.2⟩, fun d hd => by rw [l1.room]; exact hz.fits d hd, by rw [l1.room]; exact hz.room⟩, hsl, htl, ⟨hsr, ht.right, fun i r hi => ht.cont i r _ hi rfl⟩, ⟨by simp, by simp⟩, by simpa using hc⟩, ht.live, ht.calm, ht.keep, l1, l2, l3⟩
theorem setM_sorted {sl : List Rf} {l : List Int} {r : Rf} : setM sl ((sortI l).map Int.toNat) r = setM sl (l.map Int.toNat) r :=
  setM_perm fun n => by
    rw [List.mem_map, List.mem_map]
    constructor
    · rintro ⟨z, hz, e⟩; exact ⟨z, (List.mergeSort_perm l _).mem_iff.1 hz, e⟩
    · rintro ⟨z, hz, e⟩; exact ⟨z, (List.mergeSort_perm l _).mem_iff.2 hz, e⟩
end Go.Proofs.YtgdhaaokolfdoaaGreatDoor

namespace Go.Proofs.YtgdhaaokolfdoaaGreatDoor
open Go.RowKit Go.Sg Go.Sg.Bits Go.Sg.Clk CP SF
end Go.Proofs.YtgdhaaokolfdoaaGreatDoor
