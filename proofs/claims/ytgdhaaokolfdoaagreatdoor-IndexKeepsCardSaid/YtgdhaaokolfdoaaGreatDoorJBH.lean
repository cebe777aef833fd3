/- A pack of texts: DO, DP, RT. Conditions: those that each text names. -/
import Derived.Test.YtgdhaaokolfdoaaGreatDoorJBG
import Derived.Lib.OwnBridge
import Derived.Test.YtgdhaaokolfdoaaGreatDoorJAX
import Derived.RangeFuncNested
import Derived.RangeFuncRecord
set_option linter.unusedVariables false
set_option linter.unusedSimpArgs false
set_option linter.unnecessarySimpa false
namespace Go.Proofs.YtgdhaaokolfdoaaGreatDoor
open Go.RowKit Go.Sg Go.Sg.Bits Go.Sg.Clk CP SF
def dblM (l : List Rf) : List Rf := l.flatMap fun r => [r, r]
theorem dblM_len (l : List Rf) : (dblM l).length = 2 * l.length := by
  induction l with
  | nil => rfl
  | cons x l ih => simp only [dblM, List.flatMap_cons, List.length_append] at ih ⊢; rw [ih]; simp; omega
theorem dblM_take {l : List Rf} {k : Nat} {r : Rf} (h : l[k]? = some r) : dblM (l.take (k + 1)) = dblM (l.take k) ++ [r, r] := by
  rw [List.take_add_one, h]; simp [dblM]
theorem dblM_right {l : List Rf} (h : ∀ r ∈ l, rightR r) : ∀ r ∈ dblM l, rightR r := fun r hr => by
  obtain ⟨x, hx, h1⟩ := List.mem_flatMap.1 hr
  simp at h1; subst h1; exact h _ hx
theorem FrX.cut {B : Blk} {X Y : Nat → Prop} {w w1 w2 : World} (h : FrX B Y w w1) (k : FrX B (fun b => X b ∨ Y b) w1 w2) (hX : ∀ b, X b → w.heap.size ≤ b) : FrX B Y w w2 :=
  (FrX.trans (h.mono fun _ _ h => h.imp id .inr) k).mono fun b hb hs => by
    rcases hs with hs | hs | hs
    · exact .inl hs
    · exact absurd hb (Nat.not_lt.2 (hX b hs))
    · exact .inr hs
def DirU (B : Blk) (bd : Nat) (x : DirD) (y : Cs) (P : Prot) (a : Bool) (N : Nat) (rest : List Nat) (M : Nat) (K : Prop) (c0 : Cont) (all : List Rf) (w : World) (e : Ending) (w' : World) : Prop :=
  ∃ err, e = .returned (.int .i64 err) ∧ FrX B (fun b => b = bd) w w' ∧ ((err = 0 ∧ ∃ (y' : Cs) (tk : List Rf) (m : Nat), DirAt w' bd B.s { x with rp := m, rs := y.gen } ∧ StoreC w' B y' P a N ∧ DirC y' { x with rp := m, rs := y.gen } tk all ∧ Live y' (pgs m tk ++ rest) M ∧
    (K → AllFresh y' (pgs m tk ++ rest)) ∧ (∀ k ∈ rest, y'.cont k = c0 k) ∧ (Like y y' ∧ y'.gen = y.gen ∧ y'.dead = y.dead)) ∨ (err = 4 ∧ a = true ∧ DownC w' B y P N))
set_option maxHeartbeats 4000000 in
set_option maxRecDepth 100000 in
theorem double_ok {w : World} {B : Blk} {y : Cs} {P : Prot} {a : Bool} {N M bd : Nat} {x : DirD} {tops slots : List Rf} {rest : List Nat} {K : Prop} {c0 : Cont} (h : StoreC w B y P a N) (hD : DirAt w bd B.s x) (hC : DirC y x tops slots) (hdm : x.depth < x.most) (hpg : y.pages ≤ 2147483647) (hL : Live y (pgs x.rp tops ++ rest) M) (hK : K → AllFresh y (pgs x.rp tops ++ rest)) (hc : ∀ k ∈ rest, y.cont k = c0 k)
    (hM : 1 + ({ x with depth := x.depth + 1 } : DirD).leaves + rest.length + 2 * M < y.pages) (hN : N + 100 ≤ 90000) :
    Calls Tryz.prog 49 #[dptr bd] w (DirU B bd { x with depth := x.depth + 1 } y P a (N + 100) rest M K c0 (dblM slots) w) := by
  obtain ⟨i0, hi0, hz0, hz1, hz2⟩ := info_parts Tryz.info35
  have hp41 := hC.z.le41
  have hsl : slots.length ≤ 1681 := by
    have h1 := hC.z.slots_le
    have h2 : x.leaves * x.per ≤ 41 * 41 := Nat.mul_le_mul hp41.1 hp41.2
    rw [hC.slen]; omega
  have h0 : 0 < w.heap.size := by have := h.base; have := h.base_le; omega
  have HTop := hid (fun W (F : Fr (fun _ => False) w W) => top_ok (h.fr0 F) (F.heap hD (fun h => h) : DirAt W bd B.s x) hC (by omega))
  have HD := hid hD
  have HC := hid hC
  have HL := hid (And.intro hL (And.intro hK hc))
  have hd' : decide ((x.most : Int) ≤ (x.depth : Int)) = false := by simp; omega
  obtain ⟨c0', c1, c2, c3, c4, c5, cz, cl⟩ := cells6 hD
  clear h hD hC hL hK hc
  go_enter Tryz.func49, Tryz.ntmps49
  go_wp2_with fail
  go_quiet (fail)
  go_wp2_with (go_at_call 120; refine (HTop.out _ ((Fr.refl _ _).drewN _)).mono ?_)
  rintro e W1 ⟨v1, err, rfl, F1, ⟨rfl, hown1, hS1⟩ | ⟨rfl, ha, hDn⟩⟩
  · replace F1 : FrB B w W1 := FrB.trans (FrB.none ((Fr.refl _ _).drewN _)) F1
    have HAll := hid (all_ok hS1 (HD.out.frB F1) HC.out (by omega))
    have H1 := hid (And.intro (show OwnR W1 w.heap.size v1 tops from hown1) F1)
    clear hown1 hS1 F1 c0' c1 c2 c3 c4 c5 cz cl
    go_wp2_with (go_at_call 48; refine (HAll.out).mono ?_)
    rintro e W2 ⟨v2, err, rfl, F2, ⟨rfl, hown2, hS2⟩ | ⟨rfl, ha, hDn⟩⟩
    · have hown12 : OwnR W2 w.heap.size v1 tops := ownsRow_fr H1.out.1 F2 (fun g c hg hs => absurd (hs.2.1 c 35 _ hg) (by decide))
      obtain ⟨sa, sc, rfl, hT⟩ := rowT_of_own hown2
      obtain ⟨n, hn⟩ : ∃ n, slots.length = n := ⟨_, rfl⟩
      have hn1 : n ≤ 1681 := by omega
      rw [hn]
      have H2 := hid (And.intro hS2 (And.intro hT (And.intro (FrB.trans H1.out.2 F2) (And.intro hown12 hn))))
      have hsz2 : w.heap.size ≤ W2.heap.size := Nat.le_trans H1.out.2.size F2.size
      clear hown2 hS2 F2 hT hown12 hn hsl
      go_wp2_with fail
      go_loopw [6, 40] (fun v i wr => ∃ k : Nat, k ≤ n ∧ i = .int .i64 k ∧ OwnR wr W2.heap.size v (dblM (slots.take k)) ∧ Fr (fun _ => False) W2 wr) (fun _ i _ => n - (intOf i).toNat)
      case atStart => exact ⟨0, Nat.zero_le _, rfl, World.ownsRow_nil _ _ _ _, Fr.refl _ _⟩
      case round =>
        obtain ⟨k, hk, rfl, hown, hF⟩ := hrel
        have HR := hid (And.intro hown hF)
        by_cases hlt : k < n
        · have hd : decide ((k : Int) < (n : Int)) = true := by simp; omega
          obtain ⟨r, hr⟩ : ∃ r, slots[k]? = some r := ⟨_, List.getElem?_eq_getElem (by rw [H2.out.2.2.2.2]; exact hlt)⟩
          obtain ⟨b, off, rfl, hb, g0, g1⟩ := (H2.out.2.1.fr0 hF).row.at_ k r hr
          have hki : (k : Int) < (n : Int) := by omega
          have HRk := hid hr
          have hdl : (dblM (slots.take k)).length = 2 * k := by rw [dblM_len, List.length_take, H2.out.2.2.2.2]; omega
          have HDL := hid hdl
          have hsz : W2.heap.size ≤ wr.heap.size := hF.size
          clear hown hF hr hdl
          go_upto_region 15 with fail
          obtain ⟨W4, hW4⟩ : ∃ W4, wr.alloc (.cells #[.int .i64 r.1, .int .i64 r.2] 35) = W4 := ⟨_, rfl⟩
          rw [hW4]
          have b4 : W4.heap[wr.heap.size]? = some (.cells #[.int .i64 r.1, .int .i64 r.2] 35) := by rw [← hW4]; exact heap_alloc_new _ _
          have F4 : Fr (fun _ => False) wr W4 := by rw [← hW4]; exact (Fr.refl _ _).alloc _
          obtain ⟨e0, e1, ez, el⟩ := cells2 b4
          have H4 := hid (And.intro (ownsRow_fr HR.out.1 F4 (fun _ _ _ h => h)) F4)
          clear b4 F4 hW4 g0 g1
          go_wp2_with (at_builtin; refine wpList_append_own_at _ rfl (.tmp 44) (.tmp 47) 33 rfl W2.heap.size 35 i0 _ 2 16 Tryz.underlying33 hi0 hz0 hz1 hz2 rfl (by decide) _ _ _ rfl (H4.out.1.alloc _) ⟨W4.heap.size, 0, none⟩ 2 2 [.int .i64 r.1, .int .i64 r.2, .int .i64 r.1, .int .i64 r.2] rfl rfl (World.news_of_block (cs := #[.int .i64 r.1, .int .i64 r.2, .int .i64 r.1, .int .i64 r.2]) (t := 35) (fr := (0, 0)) (heap_alloc_new _ _)) (by simp [Value.oneCell']) (by rw [HDL.out]; simp only [maxLen]; omega) (by rw [HDL.out]; omega) (by have := H4.out.2.size; simp; omega) ?_)
          intro v5 W5 hown5 hg5 hnil5 hat5
          have F5 : Fr (fun _ => False) W2 W5 := (HR.out.2.trans (H4.out.2.alloc (.cells #[.int .i64 r.1, .int .i64 r.2, .int .i64 r.1, .int .i64 r.2] 35)) (fun _ _ h => h)).trans (grown_fr' (H4.out.1.alloc _) hg5) (fun b hb h => by omega)
          have H5 := hid (And.intro hown5 F5)
          clear hown5 hg5 hnil5 hat5 F5
          go_wp2_with fail
          go_roundw
          case rel =>
            refine ⟨k + 1, hlt, by go_num, ?_, H5.out.2⟩
            have e2 : (dblM (slots.take (k + 1))).flatMap refC = (dblM (slots.take k)).flatMap refC ++ [.int .i64 r.1, .int .i64 r.2, .int .i64 r.1, .int .i64 r.2] := by rw [dblM_take HRk.out, List.flatMap_append]; rfl
            have e3 : (dblM (slots.take (k + 1))).length = (dblM (slots.take k)).length + 2 := by rw [dblM_take HRk.out, List.length_append]; rfl
            show W5.ownsRow _ 35 2 _ (dblM (slots.take (k + 1))).length ((dblM (slots.take (k + 1))).flatMap refC)
            rw [e2, e3]
            exact H5.out.1
          case measure => simp [intOf]; omega
        · obtain rfl : k = n := by omega
          have hd : decide ((k : Int) < (k : Int)) = false := by simp
          have hks : slots.take k = slots := List.take_of_length_le (by rw [H2.out.2.2.2.2]; exact Nat.le_refl _)
          rw [hks] at hown
          have hdl : (dblM slots).length = 2 * k := by rw [dblM_len, H2.out.2.2.2.2]
          have hkp : 0 < k := by
            have h1 : slots.length = x.slots := HC.out.slen
            have h2 : 0 < x.slots := Nat.pow_pos (by decide)
            have h3 := H2.out.2.2.2.2
            omega
          obtain ⟨r0, hr0⟩ : ∃ r0, (dblM slots)[0]? = some r0 := ⟨_, List.getElem?_eq_getElem (by omega)⟩
          obtain ⟨da, dc, rfl, hdc, -⟩ := own_slice hown
          obtain ⟨gb, rfl, hgb, -⟩ := ownR_at hown hr0
          obtain ⟨ta, tc, rfl, -⟩ := own_slice H2.out.2.2.2.1
          have hF5 : Fr (fun b => b = bd) wr (wr.setCell ⟨bd, 3, none⟩ (.int .i64 ((x.depth + 1 : Nat) : Int))) := Fr.setCell (S := fun b => b = bd) (Fr.refl _ _) (fun _ => rfl) _
          have hDr : DirAt wr bd B.s x := hF.heap (HD.out.frB H2.out.2.2.1) (fun h => h)
          have hD5 : DirAt (wr.setCell ⟨bd, 3, none⟩ (.int .i64 ((x.depth + 1 : Nat) : Int))) bd B.s { x with depth := x.depth + 1 } := by
            unfold DirAt at hDr ⊢
            rw [heap_setCell_cells _ _ _ _ hDr]
            rfl
          have hnd : ∀ g c, wr.heap[g]? = some (.cells c 35) → ¬ g = bd := fun g c hg e => by
            unfold DirAt at hDr
            rw [e, hDr] at hg; cases hg
          have hbdp := bd_pos (H2.out.1.fr0 hF) hDr
          have hS5 : StoreC (wr.setCell ⟨bd, 3, none⟩ (.int .i64 ((x.depth + 1 : Nat) : Int))) B y P a (N + 1 + 1 + x.leaves) := (H2.out.1.fr0 hF).frL hF5 hDr (by decide) hbdp
          have hot : OwnR wr w.heap.size (.slice ta tops.length tc) tops := ownsRow_fr H2.out.2.2.2.1 hF (fun _ _ _ h => h)
          have hot5 := ownsRow_fr hot hF5 (fun g c hg => hnd g c hg)
          have hoa5 : OwnR (wr.setCell ⟨bd, 3, none⟩ (.int .i64 ((x.depth + 1 : Nat) : Int))) W2.heap.size (.slice (some ⟨gb, 0, none⟩) (dblM slots).length dc) (dblM slots) := ownsRow_fr hown hF5 (fun g c hg => hnd g c hg)
          obtain ⟨a2, c2', hsv, hall⟩ := rowT_of_own hoa5
          obtain ⟨rfl, rfl⟩ : a2 = some ⟨gb, 0, none⟩ ∧ c2' = dc := by cases hsv; exact ⟨rfl, rfl⟩
          have hz' : DirZ y { x with depth := x.depth + 1 } := ⟨⟨hdm, HC.out.z.most.2⟩, HC.out.z.per, HC.out.z.fits, HC.out.z.room⟩
          have hlm : x.leaves ≤ ({ x with depth := x.depth + 1 } : DirD).leaves := by
            unfold DirD.leaves DirD.slots
            have h1 : 2 ^ x.depth ≤ 2 ^ (x.depth + 1) := Nat.pow_le_pow_right (by decide) (Nat.le_succ _)
            exact Nat.div_le_div_right (by simp only; omega)
          have h41' := hz'.le41.1
          have hT0 : Tops y x.rp tops rest M K c0 (fun _ => none) := by
            have ht := HC.out.tops HL.out.1 HL.out.2.1 HL.out.2.2
            exact ⟨ht.live, ht.right, ht.rr, fun j r bs hj hC => (by cases hC), ht.calm, ht.keep⟩
          have hgt : ∀ g, ta = some ⟨g, 0, none⟩ → w.heap.size ≤ g ∧ g < W2.heap.size := fun g e => by
            obtain ⟨h1, c, hc⟩ := own_blockT H2.out.2.2.2.1 (g := g) (by rw [e]; rfl)
            exact ⟨h1, lt_of_heap hc⟩
          have hgb2 : W2.heap.size ≤ gb := (own_blockT hown (g := gb) rfl).1
          have hLay := lay_ok (x := { x with depth := x.depth + 1 }) hS5 hD5 hz' HC.out.rr.2 hpg hT0 (by rw [HC.out.tlen]; exact hlm) (by rw [dblM_len, HC.out.slen]; unfold DirD.slots; simp only; rw [Nat.pow_succ]; omega) (dblM_right HC.out.leaf.sr) hM hot5 h0 (by have := hF.size; simp; omega) hall (fun g e => by have := hgt g e; omega) hdc (by omega)
          have hdep : ((x.depth + 1 : Nat) : Int) = (x.depth : Int) + 1 := by simp
          rw [hdep] at hLay
          have HLay := hid hLay
          have hF05 : FrX B (fun b => b = bd) w (wr.setCell ⟨bd, 3, none⟩ (.int .i64 ((x.depth + 1 : Nat) : Int))) := Fr.setCell (show FrX B (fun b => b = bd) w wr from FrX.trans (FrX.of H2.out.2.2.1) (FrX.none hF)) (fun _ => Or.inr rfl) _
          rw [hdep] at hF05
          have HF5 := hid (And.intro hF05 hgt)
          have hd20 : x.depth ≤ 20 := by have := HC.out.z.most; omega
          obtain ⟨c0', c1, c2, c3, c4, c5, cz, cl⟩ := cells6 hDr
          clear hown hF hF5 hDr hD5 hnd hS5 hot hot5 hoa5 hsv hall hz' hT0 hgt hLay hF05 hr0 hks hdep hdl
          go_wp2_with (go_at_call 122; refine HLay.out.mono ?_)
          rintro e W9 ⟨err, rfl, F9, hres⟩
          have HX := hid (And.intro F9 hres)
          clear F9 hres c0' c1 c2 c3 c4 c5 cz cl
          go_wp2_with fail
          go_ret
          refine ⟨err, rfl, FrX.cut HF5.out.1 HX.out.1 (fun b hb => (HF5.out.2 b hb).1), ?_⟩
          rcases HX.out.2 with ⟨rfl, y', tk, m', e1, e2, e3⟩ | ⟨rfl, e1, e2⟩
          · exact .inl ⟨rfl, y', tk, m', e1, e2.mono (by omega) hN, e3⟩
          · exact .inr ⟨rfl, e1, e2.mono (by omega)⟩
    · have HX := hid (And.intro ha (And.intro hDn (FrB.trans H1.out.2 F2)))
      clear hDn ha F2
      go_wp2_with fail
      go_ret
      exact ⟨4, rfl, FrX.of HX.out.2.2, .inr ⟨rfl, HX.out.1, HX.out.2.1.mono (by omega)⟩⟩
  · have HX := hid (And.intro ha (And.intro hDn (FrB.trans (FrB.none ((Fr.refl _ _).drewN _)) F1)))
    clear hDn ha F1
    go_wp2_with fail
    go_ret
    exact ⟨4, rfl, FrX.of HX.out.2.2, .inr ⟨rfl, HX.out.1, HX.out.2.1.mono (by omega)⟩⟩
end Go.Proofs.YtgdhaaokolfdoaaGreatDoor

namespace Go.Proofs.YtgdhaaokolfdoaaGreatDoor
open Go.Proofs Go.RowKit Go.Sg CP SF
structure SlI (w : World) (a : Option Addr) (n c : Nat) (l : List Int) : Prop where
  len : l.length = n
  at_ : ∀ (i : Nat) (k : Int), l[i]? = some k → ∃ b off, a = some ⟨b, off, none⟩ ∧ b < w.heap.size ∧ w.cell? ⟨b, off + i, none⟩ = some (.int .i64 k)
  nil : a = none → n = 0 ∧ c = 0
theorem SlI.fr {S : Nat → Prop} {w w' : World} {a : Option Addr} {n c : Nat} {l : List Int} (h : SlI w a n c l) (F : Fr S w w') (hS : ∀ b off, a = some ⟨b, off, none⟩ → b < w.heap.size → l ≠ [] → ¬ S b) : SlI w' a n c l :=
  ⟨h.len, fun i k hk => by
    obtain ⟨b, off, e, hb, h1⟩ := h.at_ i k hk
    have hn : l ≠ [] := by rintro rfl; simp at hk
    exact ⟨b, off, e, Nat.lt_of_lt_of_le hb F.size, (F.cell (p := ⟨b, off + i, none⟩) hb (hS b off e hb hn)).trans h1⟩, h.nil⟩
theorem SlI.fr0 {w w' : World} {a : Option Addr} {n c : Nat} {l : List Int} (h : SlI w a n c l) (F : Fr (fun _ => False) w w') : SlI w' a n c l := h.fr F (fun _ _ _ _ _ h => h)
theorem SlI.src {w : World} {a : Option Addr} {n c : Nat} {l : List Int} (h : SlI w a n c l) : SrcV w (.slice a n c) n (l.map (Value.int .i64)) := by
  refine ⟨a, c, rfl, ?_⟩
  cases a with
  | none =>
    obtain ⟨rfl, rfl⟩ := h.nil rfl
    exact .inl ⟨rfl, rfl, rfl, by have := h.len; rw [List.length_eq_zero_iff.1 this]; rfl⟩
  | some ad =>
    refine .inr ⟨_, rfl, fun j u hj => ?_⟩
    rw [List.getElem?_map] at hj
    cases hl : l[j]? with
    | none => rw [hl] at hj; cases hj
    | some k =>
      rw [hl] at hj; cases hj
      obtain ⟨b, off, e, _, hc⟩ := h.at_ j k hl
      cases e
      rw [addr_add0]; exact hc
abbrev OwnI (w : World) (base : Nat) (v : Value) (l : List Int) : Prop := w.ownsRow base 3 1 v l.length (l.map (Value.int .i64))
def CloneP (l : List Int) (w : World) (e : Ending) (w' : World) : Prop := ∃ v, e = .returned v ∧ OwnI w' w.heap.size v l ∧ Fr (fun _ => False) w w'
set_option maxHeartbeats 1000000 in
set_option maxRecDepth 100000 in
theorem clonei_ok {w : World} {a : Option Addr} {n c : Nat} {l : List Int} (h : SlI w a n c l) (hn : n ≤ 100000) : Calls Tryz.prog 187 #[.slice a n c] w (CloneP l w) := by
  obtain ⟨i0, hi0, hz0, hz1, hz2⟩ := info_parts Tryz.info3
  have q52 : ∀ (w : World) (a : Option Addr) (n c n' c' : Nat), (binOp .eql 52 (.slice a n c) (.slice none n' c')).run Tryz.prog w = .ok (.bool a.isNone) w := fun w a n c n' c' => Lib.run_eql_slice_nil w _ _ a n c n' c' Tryz.underlying52
  cases a with
  | none =>
    obtain ⟨rfl, rfl⟩ := h.nil rfl
    have hl : l = [] := List.length_eq_zero_iff.1 h.len
    subst hl
    clear h
    go_enter Tryz.func187, Tryz.ntmps187
    go_wp2_with fail
    go_ret
    exact ⟨_, rfl, World.ownsRow_nil _ _ _ _, Fr.refl _ _⟩
  | some ad =>
    have H := hid h
    have hll := h.len
    clear h
    subst hll
    go_enter Tryz.func187, Tryz.ntmps187
    go_wp2_with (at_builtin; refine wpList_append_src rfl (.tmp 5) (.tmp 6) 52 rfl w.heap.size 3 i0 _ 1 8 Tryz.underlying52 hi0 hz0 hz1 hz2 rfl (by decide) _ _ _ rfl (own_litB _ _ (Nat.le_refl _) _ _ _ (by simp [go_sem])) _ l.length _ rfl ((H.out.fr0 ((Fr.refl _ _).alloc _)).src) (by simp) (by intro u hu; obtain ⟨x, _, rfl⟩ := List.mem_map.1 hu; rfl) (by simp [maxLen]; omega) (by omega) (by simp) ?_)
    intro v2 W2 hown2 hg2 hne2
    have F12 : Fr (fun b => b = w.heap.size) w W2 := ((Fr.refl (fun b => b = w.heap.size) _).alloc _).trans (Fr.of_grownBy hg2) (fun b _ h => h)
    have F1 : Fr (fun _ => False) w W2 := F12.mono (fun b hb h => by omega)
    have HO := hid (And.intro hown2 F1)
    clear hown2 hg2 hne2 F12 F1
    go_wp2_with fail
    go_ret
    have ho := HO.out.1
    try simp only [List.nil_append, Nat.zero_add] at ho
    exact ⟨_, rfl, ho, HO.out.2⟩
def SortP (base : Nat) (v : Value) (l : List Int) (w : World) (e : Ending) (w' : World) : Prop :=
  e = .returned (.tuple #[]) ∧ OwnI w' base v (l.mergeSort (fun x y => decide (x ≤ y))) ∧ Fr (fun b => some b = v.ownBlock) w w'
theorem sorti_ok {w : World} {base : Nat} {v : Value} {l : List Int} (h : OwnI w base v l) (hn : l.length ≤ 100000) : Calls Tryz.prog 141 #[v] w (SortP base v l w) := by
  by_cases hv : v = .slice none 0 0
  · subst hv
    have hl : l = [] := by
      obtain ⟨_, ⟨_, h1⟩ | ⟨g, cap, cur, h1, _⟩⟩ := h
      · exact List.length_eq_zero_iff.1 h1
      · cases h1
    subst hl
    refine (AnyM.slices_Sort_int_none Tryz.sortA none 0 w).mono ?_
    rintro e w' ⟨rfl, rfl⟩
    exact ⟨rfl, by rw [List.mergeSort_nil]; exact World.ownsRow_nil _ _ _ _, Fr.refl _ _⟩
  · obtain ⟨g, cap, rfl, hb, hg, hnc, hcm, hl, hH⟩ := Go.Lib.holds_of_ownsRow (enc := Value.int .i64) h hv
    refine (AnyM.slices_Sort_int Tryz.sortA g 0 cap l w hH hg (by omega)).mono ?_
    rintro e w' ⟨rfl, q, os, rfl⟩
    have hlen : (l.mergeSort (fun x y => decide (x ≤ y))).length = l.length := List.length_mergeSort _
    have h1 := Go.Lib.ownsRow_putRow (q := q) (k := l.length) (ys := l.mergeSort (fun x y => decide (x ≤ y))) h hlen (Nat.le_refl _)
    rw [List.take_of_length_le (by rw [hlen]; exact Nat.le_refl _)] at h1
    have F1 : Fr (fun b => some b = (Value.slice (some ⟨g, 0, none⟩) l.length cap).ownBlock) w (Go.Sort.putRow (Value.int .i64) (Go.Sort.ahead w q) g 0 (l.mergeSort (fun x y => decide (x ≤ y))).toArray) :=
      ⟨rfl, rfl, rfl, by simp [Go.Sort.putRow, Go.Sort.mapBlock, Go.Sort.ahead], fun b hb hn => by
        have : g ≠ b := fun e => hn (by rw [e]; rfl)
        simp [Go.Sort.putRow, Go.Sort.mapBlock, Go.Sort.ahead, Array.getElem?_modify, this]⟩
    have F2 : ∀ W : World, Fr (fun _ => False) W (Go.Sort.grow W os) := fun W =>
      ⟨rfl, rfl, rfl, by simp [Go.Sort.grow], fun b hb _ => by simp [Go.Sort.grow, Array.getElem?_append_left hb]⟩
    refine ⟨rfl, ?_, F1.trans (F2 _) (fun _ _ h => h.elim)⟩
    have h2 := ownsRow_fr h1 (F2 _) (fun _ _ _ h => h)
    show World.ownsRow _ base 3 1 _ (l.mergeSort (fun x y => decide (x ≤ y))).length _
    rw [hlen]; exact h2
def outB (n : Nat) (k : Int) : Bool := decide (k < 0) || decide ((n : Int) ≤ k)
set_option maxHeartbeats 1000000 in
set_option maxRecDepth 100000 in
theorem set1_ok {w : World} {bd s b3 : Nat} {x : DirD} (hD : DirAt w bd s x) (hb : w.heap[b3]? = some (.cells #[dptr bd] 83)) (hd : x.depth ≤ 20) (k : Int) : Calls Tryz.prog 124 #[.int .i64 k, .pointer (some ⟨b3, 0, none⟩)] w (QuietP (.bool (outB x.slots k)) w) := by
  have HSl := hid (slots_ok hD hd)
  have cb := cell_of_heap hb 0
  simp at cb
  clear hD hb
  by_cases h0 : k < 0
  · have d1 : decide (k < 0) = true := decide_eq_true h0
    go_enter Tryz.func124, Tryz.ntmps124
    go_wp2_with fail
    go_ret
    exact ⟨by simp [outB, d1], 0, rfl⟩
  · have d1 : decide (k < 0) = false := decide_eq_false h0
    go_enter Tryz.func124, Tryz.ntmps124
    go_wp2_with (go_at_call 125; refine HSl.out.mono ?_)
    rintro e W2 ⟨rfl, m, rfl⟩
    go_wp2_with fail
    refine bodyPost_ret (v := .bool (outB x.slots k)) (by simp [results, go_sem, outB, *]) rfl ⟨rfl, m, rfl⟩
def IdxP (n : Nat) (l : List Int) (w : World) (e : Ending) (w' : World) : Prop := ∃ z : Int, e = .returned (.int .i64 z) ∧ decide (0 ≤ z) = l.any (outB n) ∧ ∃ m, w' = w.drewN m
set_option maxHeartbeats 1000000 in
set_option maxRecDepth 100000 in
theorem index_ok {w : World} {bd s b3 : Nat} {x : DirD} (hD : DirAt w bd s x) (hb : w.heap[b3]? = some (.cells #[dptr bd] 83)) (hd : x.depth ≤ 20) {a : Option Addr} {n c : Nat} {l : List Int} (h : SlI w a n c l) (hn : n ≤ 100000) :
    Calls Tryz.prog 185 #[.slice a n c, .func (.func 124) #[] #[.pointer (some ⟨b3, 0, none⟩)]] w (IdxP x.slots l w) := by
  have H := hid h
  have HB := hid (And.intro hD hb)
  clear h hD hb
  go_enter Tryz.func185, Tryz.ntmps185
  go_wp2_with fail
  go_loopw [8] (fun i wr => ∃ k : Nat, k ≤ n ∧ i = .int .i64 k ∧ (∃ m, wr = w.drewN m) ∧ (l.take k).any (outB x.slots) = false) (fun i _ => n - (intOf i).toNat)
  case atStart => exact ⟨0, Nat.zero_le _, rfl, ⟨0, rfl⟩, rfl⟩
  case round =>
    obtain ⟨k, hk, rfl, ⟨m, rfl⟩, hall⟩ := hrel
    have HA := hid hall
    clear hall
    by_cases hlt : k < n
    · have hdl : decide ((k : Int) < (n : Int)) = true := by simp; omega
      obtain ⟨z, hz⟩ : ∃ z, l[k]? = some z := ⟨_, List.getElem?_eq_getElem (by have := H.out.len; omega)⟩
      obtain ⟨b, off, rfl, hbl, hc⟩ := (H.out.fr0 ((Fr.refl _ _).drewN m)).at_ k z hz
      have hki : (k : Int) < (n : Int) := by omega
      have HS1 := hid (set1_ok (w := w.drewN m) (show DirAt (w.drewN m) bd s x from HB.out.1) (show (w.drewN m).heap[b3]? = _ from HB.out.2) hd z)
      have htk : (l.take (k + 1)).any (outB x.slots) = outB x.slots z := by rw [List.take_add_one, hz, List.any_append, HA.out]; simp
      have HT := hid (And.intro htk hz)
      clear hz htk
      generalize hob : outB x.slots z = ob at *
      have HOB := hid hob
      clear hob
      go_wp2_with (go_at_call 124; refine HS1.out.mono ?_)
      rintro e W2 ⟨rfl, m2, rfl⟩
      cases ob with
      | true =>
        go_wp2_with fail
        go_ret
        refine ⟨_, rfl, ?_, _, rfl⟩
        have h1 : l.any (outB x.slots) = true := List.any_eq_true.2 ⟨z, List.mem_of_getElem? HT.out.2, HOB.out⟩
        rw [h1]; simp
      | false =>
        go_wp2_with fail
        go_roundw
        case rel => exact ⟨k + 1, hlt, by go_num, ⟨m + m2, by simp [World.drewN, Nat.add_assoc]⟩, HT.out.1⟩
        case measure => simp [intOf]; omega
    · obtain rfl : k = n := by omega
      have hdl : decide ((k : Int) < (k : Int)) = false := by simp
      go_wp2_with fail
      go_ret
      refine ⟨_, rfl, ?_, _, rfl⟩
      have := HA.out
      rw [List.take_of_length_le (by rw [H.out.len]; exact Nat.le_refl _)] at this
      rw [this]; rfl
theorem contains_ok {w : World} {bd s b3 : Nat} {x : DirD} (hD : DirAt w bd s x) (hb : w.heap[b3]? = some (.cells #[dptr bd] 83)) (hd : x.depth ≤ 20) {a : Option Addr} {n c : Nat} {l : List Int} (h : SlI w a n c l) (hn : n ≤ 100000) :
    Calls Tryz.prog 123 #[.slice a n c, .func (.func 124) #[] #[.pointer (some ⟨b3, 0, none⟩)]] w (QuietP (.bool (l.any (outB x.slots))) w) := by
  have HI := hid (index_ok hD hb hd h hn)
  clear hD hb h
  go_enter Tryz.func123, Tryz.ntmps123
  go_wp2_with (go_at_call 185; refine HI.out.mono ?_)
  rintro e W2 ⟨z, rfl, hz, m, rfl⟩
  have HZ := hid hz
  clear hz
  go_wp2_with fail
  refine bodyPost_ret (v := .bool (decide (0 ≤ z))) (by simp [results, go_sem]) rfl ⟨by rw [HZ.out], m, rfl⟩
end Go.Proofs.YtgdhaaokolfdoaaGreatDoor

namespace Go.Sg
open Go.RowKit
variable {F : Fence} {n : Nat} {P : Program}
def SeqTell {α : Type} (F : Fence) (n : Nat) (P : Program) (g : Nat) (lb : Array Value) (encs : α → Array Value) (T : α → World → Prop) (Kp : World → World → Prop) (S Sp : List α → Prop) (N : Nat) (w : World) : Prop :=
  ∀ (l : Nat) (J Jx : List α → World → Prop) (W : World), Below w.heap.size w W → OwnFrom W.heap.size J → OwnFrom W.heap.size Jx →
    (∀ pre x W1, J pre W1 → T x W1 → pre.length < N → YieldAt F (n - 1) P l (encs x) W1 fun e W' => (e = .returned (.bool true) ∧ J (pre ++ [x]) W' ∧ Kp W1 W') ∨ (e = .returned (.bool false) ∧ Jx (pre ++ [x]) W')) →
    J [] W → CallsIn F n P g (#[.func (.yield l) #[] #[]] ++ lb) W fun e W' => (∃ v, e = .returned v) ∧ ((∃ xs, S xs ∧ J xs W') ∨ (∃ pre, Sp pre ∧ Jx pre W'))
theorem wpIn_range_tell {α : Type} {g : Operand} {ps : Array Tmp} {assign body : Code} {Q : Exit → Act → World → Prop} {a : Act} {w : World}
    (hro : F.round = none) (h1 : 1 ≤ n) {gf : Nat} {lb : Array Value} (hg : a.eval g = .func (.func gf) #[] lb) (hFg : F.fn gf) (eg : ∀ args w, (callFunc gf args).run P w = .ok (.enter gf args) w)
    {encs : α → Array Value} {Kp : World → World → Prop} {S Sp : List α → Prop} {N : Nat} {w0 : World} {T : α → World → Prop} (I : List α → World → Prop) (hseq : SeqTell F (n - 1) P gf lb encs T Kp S Sp N w0)
    (hKt : ∀ {A B C : World}, Kp A B → Kp B C → Kp A C) (hKb : ∀ (W : World) (l : Nat) (o o' : Obj), w.heap.size ≤ l → W.heap[l]? = some o → o.isCells = false → o.isWalk = false → Kp W (W.putObj l o'))
    (hb0 : Below w0.heap.size w0 w) (hps : ∀ x, (encs x).size = ps.size)
    (Ix : Code → List α → World → Prop) (hI : OwnFrom w.heap.size I) (hIx : ∀ c, OwnFrom w.heap.size (Ix c)) (h0 : I [] w) (Ax : α → Act → World → Prop) (hAx : ∀ x a', OwnFrom w.heap.size (fun (_ : Unit) W => Ax x a' W))
    (hassign : ∀ (l : Nat) (pre : List α) (x : α) (W : World) (K : Act → World → Prop), I pre W → T x W → (∀ a' W', KeepsFrom w.heap.size W W' → Kp W W' → I pre W' → Ax x a' W' → K a' W') →
      assign.wpIn (F.inRound l) (n - 1 - 1) P (Exit.then K (fun _ _ _ => False)) { tmps := (ps.zip (encs x)).foldl (fun t (p, v) => t.setIfInBounds p v) a.tmps, defers := [] } W)
    (hbody : ∀ (l : Nat) (pre : List α) (x : α) (a' : Act) (W : World), w.heap.size ≤ l → (∃ r, W.heap[l]? = some (.loop r)) → I pre W → Ax x a' W → pre.length < N → body.wpIn (F.inRound l) (n - 1 - 1) P (bodyEnds w.heap.size Kp I Ix (pre ++ [x]) W) a' W)
    (hdone : ∀ (D : Nat) (xs : List α) (W : World), w.heap.size ≤ D → S xs → I xs W → W.heap[D]? = some (.deferred (some [])) → Q .normal { a with defers := { target := .collected D, args := #[] } :: a.defers } W)
    (hstop : ∀ (D : Nat) (c : Code) (pre : List α) (W : World), w.heap.size ≤ D → Sp pre → Ix c pre W → W.heap[D]? = some (.deferred (some [])) → c.wpIn F n P Q { a with defers := { target := .collected D, args := #[] } :: a.defers } W) :
    (Code.rangeFunc g ps assign body).wpIn F n P Q a w := by
  refine wpIn_rangeFunc fun fn hfn => ?_
  rw [hro]
  -- the loop's record, in whatever state
  let rec_ : LoopState → Option Code → Loop := fun st pe => { state := st, pending := pe, fn, tmps := a.tmps, params := ps, assign, body, defers := w.heap.size }
  obtain ⟨rd, hrd⟩ : ∃ rd, rd = rec_ := ⟨_, rfl⟩
  have rst : ∀ st pe, (rd st pe).state = st := fun st pe => by rw [hrd]
  have rpe : ∀ st pe, (rd st pe).pending = pe := fun st pe => by rw [hrd]
  obtain ⟨L, hL⟩ : ∃ L, L = w.heap.size + 1 := ⟨_, rfl⟩
  obtain ⟨W1, hW1⟩ : ∃ W1, (w.alloc (.deferred (some []))).alloc (.loop (rd .ready none)) = W1 := ⟨_, rfl⟩
  obtain ⟨hD1, hL1, F1⟩ := heap_two hW1
  rw [← hL] at hL1
  have hI1 : I [] W1 := by rw [← hW1]; exact hI.alloc _ (hI.alloc _ h0)
  have hb1 : Below w0.heap.size w0 W1 := by
    refine hb0.trans ((Fr.below (S := fun _ => False) F1 (fun _ _ h => h)).mono hb0.size)
  have hs1 : W1.heap.size = w.heap.size + 2 := by rw [← hW1]; simp
  refine ⟨L, [{ target := .collected w.heap.size, args := #[] }], W1, { target := .fn (.func gf) lb, args := #[.func (.yield L) #[] #[]] }, W1, gf, #[.func (.yield L) #[] #[]] ++ lb, W1, ?_, ?_, ?_, ?_, fun _ => h1, ?_⟩
  · rw [← hW1, hL, hrd]; exact run_enterLoop_outer _ _ _ _ _
  · simp only [resolve, hg]
    simp [go_sem]
  · intro f' hf'; simp [Target.leads] at hf'; subst hf'; exact hFg
  · simp [invoke, go_sem, eg]
  -- what the two blocks of the loop's own hold
  have hwalk : ∀ {A : World} {row : Option Nat}, (∀ r, row = some r → W1.heap.size ≤ r ∧ ∃ o : Obj, A.heap[r]? = some o ∧ o.isCells = false) → (∀ r, row = some r → w.heap.size ≤ r ∧ ∃ o : Obj, A.heap[r]? = some o ∧ o.isCells = false) :=
    fun hr r e => by obtain ⟨hB, h⟩ := hr r e; exact ⟨by omega, h⟩
  have hold : ∀ {A B : World} {row : Option Nat} {b : Nat} {o : Obj}, A.grownBy B row → (∀ r, row = some r → W1.heap.size ≤ r ∧ ∃ o : Obj, A.heap[r]? = some o ∧ o.isCells = false) → b < W1.heap.size → A.heap[b]? = some o → B.heap[b]? = some o :=
    fun hg' hr hb ho => (hg'.block _ (lt_of_heap ho) (fun e => by have := (hr _ e.symm).1; omega)).trans ho
  have hY : ∀ pre x W, (I pre W ∧ W.heap[L]? = some (.loop (rd .ready none)) ∧ W.heap[w.heap.size]? = some (.deferred (some []))) → T x W → pre.length < N →
      YieldAt F (n - 1 - 1) P L (encs x) W fun e W' => (e = .returned (.bool true) ∧ (I (pre ++ [x]) W' ∧ W'.heap[L]? = some (.loop (rd .ready none)) ∧ W'.heap[w.heap.size]? = some (.deferred (some []))) ∧ Kp W W') ∨
        (e = .returned (.bool false) ∧ ∃ c, Ix c (pre ++ [x]) W' ∧ W'.heap[L]? = some (.loop (rd .done (some c))) ∧ W'.heap[w.heap.size]? = some (.deferred (some []))) := by
    rintro pre x W ⟨hi, hl, hk⟩ hT hlen
    have hy := run_yield (P := P) (args := encs x) hl (by rw [hrd]; exact hps x)
    rw [hrd] at hy
    refine ⟨fn, _, assign, body, hy, roundIn_of_wpIn hfn (hassign _ pre x W _ hi hT fun a' Wa hka hkp hia hax => ?_)⟩
    have hla := hka.same _ _ (by omega) hl rfl
    have hka' := hka.same _ _ (Nat.le_refl _) hk rfl
    have hlt : L < Wa.heap.size := lt_of_heap hla
    refine ⟨_, run_beginRound hla (rst _ _), ?_⟩
    obtain ⟨busy, hbusy⟩ : ∃ busy : Loop, { rd .ready none with state := .busy } = busy := ⟨_, rfl⟩
    rw [hbusy]
    have hl2 : (Wa.putObj L (.loop busy)).heap[L]? = some (.loop busy) := World.putObj_heap_same hlt
    have hk2 : (Wa.putObj L (.loop busy)).heap[w.heap.size]? = some (.deferred (some [])) := (World.putObj_heap_other (by omega)).trans hka'
    refine wpIn_mono (hbody _ pre x a' _ (by omega) ⟨_, hl2⟩ (hI.putObj _ hia (by omega) hla rfl) ((hAx x a').putObj (s := ()) _ hax (by omega) hla rfl) hlen) ?_
    have fin : ∀ (jump : Option Code) (W3 : World), KeepsFrom w.heap.size (Wa.putObj L (.loop busy)) W3 →
        (Instr.endRound L jump).run P W3 = .ok (.bool jump.isNone) (W3.putObj L (.loop (rd (if jump.isNone then .ready else .done) jump))) ∧ W3.heap[L]? = some (.loop busy) ∧
        (W3.putObj L (.loop (rd (if jump.isNone then .ready else .done) jump))).heap[L]? = some (.loop (rd (if jump.isNone then .ready else .done) jump)) ∧
        (W3.putObj L (.loop (rd (if jump.isNone then .ready else .done) jump))).heap[w.heap.size]? = some (.deferred (some [])) := fun jump W3 hk3 => by
      have hl3 := hk3.same _ _ (by omega) hl2 rfl
      refine ⟨?_, hl3, World.putObj_heap_same (lt_of_heap hl3), (World.putObj_heap_other (by omega)).trans (hk3.same _ _ (Nat.le_refl _) hk2 rfl)⟩
      have := run_endRound (P := P) jump hl3
      rw [← hbusy, hrd] at this
      rw [hrd]
      exact this
    have hw2 : Kp Wa (Wa.putObj L (.loop busy)) := hKb _ _ _ _ (by omega) hla rfl rfl
    rintro e a3 W3 hp
    have out : ∀ c, KeepsFrom w.heap.size (Wa.putObj L (.loop busy)) W3 ∧ Ix c (pre ++ [x]) W3 → ∃ v W4, (Instr.endRound L (some c)).run P W3 = .ok v W4 ∧ ((Ending.returned v = .returned (.bool true) ∧ (I (pre ++ [x]) W4 ∧ W4.heap[L]? = some (.loop (rd .ready none)) ∧ W4.heap[w.heap.size]? = some (.deferred (some []))) ∧ Kp W W4) ∨
        (Ending.returned v = .returned (.bool false) ∧ ∃ c, Ix c (pre ++ [x]) W4 ∧ W4.heap[L]? = some (.loop (rd .done (some c))) ∧ W4.heap[w.heap.size]? = some (.deferred (some [])))) := by
      rintro c ⟨hk3, hi3⟩
      obtain ⟨hr, hl3, hl4, hk4⟩ := fin (some c) W3 hk3
      exact ⟨_, _, hr, .inr ⟨rfl, c, (hIx c).putObj _ hi3 (by omega) hl3 rfl, hl4, hk4⟩⟩
    cases e with
    | normal =>
      obtain ⟨hk3, hkp3, hi3⟩ := hp
      obtain ⟨hr, hl3, hl4, hk4⟩ := fin none W3 hk3
      exact ⟨_, _, hr, .inl ⟨rfl, ⟨hI.putObj _ hi3 (by omega) hl3 rfl, hl4, hk4⟩, hKt hkp (hKt (hKt hw2 hkp3) (hKb _ _ _ _ (by omega) hl3 rfl rfl))⟩⟩
    | ret => exact out _ hp
    | exit id => exact out _ hp
    | goto t => exact out _ hp
    | panic ch => exact hp.elim
    | outgrown => exact hp.elim
  have hcall := hseq L (fun pre W => I pre W ∧ W.heap[L]? = some (.loop (rd .ready none)) ∧ W.heap[w.heap.size]? = some (.deferred (some [])))
    (fun pre W => ∃ c, Ix c pre W ∧ W.heap[L]? = some (.loop (rd .done (some c))) ∧ W.heap[w.heap.size]? = some (.deferred (some []))) W1 hb1
    (fun s A B row hs hg' hr => ⟨hI s A B row hs.1 hg' (hwalk hr), hold hg' hr (by omega) hs.2.1, hold hg' hr (by omega) hs.2.2⟩)
    (fun s A B row hs hg' hr => by
      obtain ⟨c, hc, hl, hk⟩ := hs
      exact ⟨c, hIx c s A B row hc hg' (hwalk hr), hold hg' hr (by omega) hl, hold hg' hr (by omega) hk⟩)
    hY ⟨hI1, hL1, hD1⟩
  refine hcall.mono ?_
  rintro e W2 ⟨⟨v, rfl⟩, (⟨xs, hS, hi, hl, hk⟩ | ⟨pre, hSp, c, hi, hl, hk⟩)⟩
  · have hr := run_endLoop (P := P) hl (by rw [rst]; simp)
    rw [rpe] at hr
    exact ⟨none, _, hr, hdone _ xs _ (Nat.le_refl _) hS (hI.putObj _ hi (by omega) hl rfl) ((World.putObj_heap_other (by omega)).trans hk)⟩
  · have hr := run_endLoop (P := P) hl (by rw [rst]; simp)
    rw [rpe] at hr
    exact ⟨some c, _, hr, hstop _ c pre _ (Nat.le_refl _) hSp ((hIx c).putObj _ hi (by omega) hl rfl) ((World.putObj_heap_other (by omega)).trans hk)⟩
end Go.Sg
