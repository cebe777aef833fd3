/- A pack of texts: R14, OX, ST1. Conditions: those that each text names. -/
import Derived.Test.YtgdhaaokolfdoaaGreatDoorNAT
import Derived.BigQuiet
import Derived.Test.YtgdhaaokolfdoaaGreatDoorNAC
import Derived.Lib.SmallJoins
import Derived.Test.YtgdhaaokolfdoaaGreatDoorNAS
import Derived.Test.YtgdhaaokolfdoaaGreatDoorNAX
import Derived.Test.YtgdhaaokolfdoaaGreatDoorNAW
set_option maxHeartbeats 16000000
set_option maxRecDepth 100000
set_option linter.all false
namespace Go.Proofs.YtgdhaaokolfdoaaGreatDoor
section
open Go.RowKit Go.Sg CP SF
end
section
open Go.ChangeShapes Go.WideShapes Go.RowKit Go.Sg Go.Deep Go.Joins
structure ActX where
 kind : Int
 oldest : Int
 e : Bt
instance : Inhabited ActX := ⟨⟨0, 0, ⟨0, 0, 0, 0⟩⟩⟩
structure ActXOk (x : ActX) : Prop where
 wk : (Lit.int .i64 x.kind).wf = true
 wo : (Lit.int .i64 x.oldest).wf = true
 wh : x.e.hash < 18446744073709551616
 wr : (Lit.int .i64 x.e.rg).wf = true
 wa : (Lit.int .i64 x.e.at_).wf = true
 ws : (Lit.int .i64 x.e.sz).wf = true
structure ActXR (w : World) (a : Option Addr) (l : List ActX) : Prop where
 at_ : ∀ (i : Nat) (x : ActX), l[i]? = some x -> ∃ b off, a = some ⟨b, off, none⟩ /\ b < w.heap.size /\ (w.cell? ⟨b, off + i * 6, none⟩ = some (.int .i64 x.kind) /\ w.cell? ⟨b, off + i * 6 + 1, none⟩ = some (.int .i64 x.oldest)) /\ (w.cell? ⟨b, off + i * 6 + 2, none⟩ = some (.int .u64 x.e.hash) /\ w.cell? ⟨b, off + i * 6 + 3, none⟩ = some (.int .i64 x.e.rg) /\ w.cell? ⟨b, off + i * 6 + 4, none⟩ = some (.int .i64 x.e.at_) /\ w.cell? ⟨b, off + i * 6 + 5, none⟩ = some (.int .i64 x.e.sz)) /\ ActXOk x
theorem ActXR.fr {w w' : World} {a : Option Addr} {l : List ActX} (h : ActXR w a l) (F : Fq w w') : ActXR w' a l :=
 ⟨fun i x hx => by
  obtain ⟨b, off, h1, h2, ⟨h3, h4⟩, ⟨h5, h6, h7, h8⟩, h9⟩ := h.at_ i x hx;exact ⟨b, off, h1, nLL h2 F.size, ⟨(F.cell (p := ⟨b, _, none⟩) h2 (fun h => h)).trans h3, (F.cell (p := ⟨b, _, none⟩) h2 (fun h => h)).trans h4⟩, ⟨(F.cell (p := ⟨b, _, none⟩) h2 (fun h => h)).trans h5, (F.cell (p := ⟨b, _, none⟩) h2 (fun h => h)).trans h6, (F.cell (p := ⟨b, _, none⟩) h2 (fun h => h)).trans h7, (F.cell (p := ⟨b, _, none⟩) h2 (fun h => h)).trans h8⟩, h9⟩⟩
section
variable {H : Type} {enc : TypeId × Value -> H} {W : World}
theorem cells110 : Tryz.prog.cellsOf 110 = 4 := by kernel_rfl
theorem cells112 : Tryz.prog.cellsOf 112 = 6 := by kernel_rfl
theorem ent_fields : ∃ f0 f1 f2 f3 : Field, Tryz.prog.underlying 110 = some (.struct #[f0, f1, f2, f3]) /\ (f0.offset = 0 /\ f0.type = 29) /\ (f1.offset = 1 /\ f1.type = 3) /\ (f2.offset = 2 /\ f2.type = 3) /\ (f3.offset = 3 /\ f3.type = 3) := ⟨_, _, _, _, Tryz.underlying110, ⟨rfl, rfl⟩, ⟨rfl, rfl⟩, ⟨rfl, rfl⟩, ⟨rfl, rfl⟩⟩
theorem actx_fields : ∃ f0 f1 f2 : Field, Tryz.prog.underlying 112 = some (.struct #[f0, f1, f2]) /\ (f0.offset = 0 /\ f0.type = 3) /\ (f1.offset = 1 /\ f1.type = 3) /\ (f2.offset = 2 /\ f2.type = 110) := ⟨_, _, _, Tryz.underlying112, ⟨rfl, rfl⟩, ⟨rfl, rfl⟩, ⟨rfl, rfl⟩⟩
theorem ent_of_trod {fuel : Nat} {cs : List Value} {x : DataW H × List MemPlace} (h : DataW.trod enc Tryz.prog W 0 (fun _ => true) true fuel 110 cs = some x) :
  ∃ (hh : Nat) (r p s : Int), (cs[0]? = some (.int .u64 hh) /\ cs[1]? = some (.int .i64 r) /\ cs[2]? = some (.int .i64 p) /\ cs[3]? = some (.int .i64 s)) /\ hh < 18446744073709551616 /\ (Lit.int .i64 r).wf = true /\ (Lit.int .i64 p).wf = true /\ (Lit.int .i64 s).wf = true := by
 obtain ⟨f0, f1, f2, f3, he, h0, h1, h2, h3⟩ := ent_fields;obtain ⟨ys, n', _, _, hl, hyl, hg⟩ := DataW.trod_struct he h;rw [cells110] at hl;have one : ∀ (j : Nat) (f : Field), (#[f0, f1, f2, f3] : Array Field)[j]? = some f -> f.offset = j -> f.type = 3 -> j < 4 -> ∃ z, cs[j]? = some (.int .i64 z) /\ (Lit.int .i64 z).wf = true := by
  intro j f hj ho hty hj3;have h3 := hg j f hj;have hys : ys[j]? = some (ys[j]'(by rw [hyl]; exact hj3)) := gE _;rw [hys, hty] at h3;obtain ⟨z, hz, _, hw⟩ := DataW.trod_int Tryz.underlying3 h3;refine ⟨z, ?_, hw⟩;have h4 : ((cs.drop f.offset).take (Tryz.prog.cellsOf 3))[0]? = some (.int .i64 z) := by rw [hz]; rfl
  rw [gT] at h4;split at h4
  ·simpa [ho] using h4
  ·cases h4
 obtain ⟨hh, e0, w0⟩ : ∃ hh : Nat, cs[0]? = some (.int .u64 hh) /\ hh < 18446744073709551616 := by
  have h3 := hg 0 f0 rfl;have hys : ys[0]? = some (ys[0]'(by rw [hyl]; exact (show 0 < 4 by decide))) := gE _;rw [hys, h0.2] at h3;obtain ⟨z, hz, _, hw⟩ := DataW.trod_int Tryz.underlying29 h3;have hz0 : 0 <= z /\ z < 18446744073709551616 := by simp [Lit.wf, IntKind.min, IntKind.max, IntKind.signed, IntKind.bits] at hw; omega
  obtain ⟨zn, rfl⟩ := iZ hz0.1;refine ⟨zn, ?_, by omega⟩;have h4 : ((cs.drop f0.offset).take (Tryz.prog.cellsOf 29))[0]? = some (.int .u64 zn) := by rw [hz]; rfl
  rw [gT] at h4;split at h4
  ·simpa [h0.1] using h4
  ·cases h4
 obtain ⟨z1, e1, w1⟩ := one 1 f1 rfl h1.1 h1.2 (by omega);obtain ⟨z2, e2, w2⟩ := one 2 f2 rfl h2.1 h2.2 (by omega);obtain ⟨z3, e3, w3⟩ := one 3 f3 rfl h3.1 h3.2 (by omega);exact ⟨hh, z1, z2, z3, ⟨e0, e1, e2, e3⟩, w0, w1, w2, w3⟩
theorem open_actx {base : Nat} {v : Value} {d : DataW H} {p : List MemPlace} (hv : Value.okWide Tryz.prog W .any base 104 v) (h : DataW.Trod enc Tryz.prog W 0 (fun _ => true) true 104 v d p) :
  ∃ (a : Option Addr) (n c : Nat) (l : List ActX), v = .slice a n c /\ l.length = n /\ ActXR W a l := by
 obtain ⟨a, len, cap, rfl⟩ := okWide_slice Tryz.underlying104 hv;obtain ⟨f0, f1, f2, he, h0, h1, h2⟩ := actx_fields;obtain ⟨fuel, hf⟩ := h;rcases open_slice Tryz.underlying104 hf with ⟨hcs, _⟩ | ⟨a', len', cap', m, n, D, Pl, hcs, _, hl, hm, hmm, _, hx⟩
 ·simp [Value.cells] at hcs;obtain ⟨rfl, rfl, rfl⟩ := hcs;exact ⟨none, 0, 0, [], rfl, rfl, ⟨fun i x hx => by simp at hx⟩⟩
 ·simp [Value.cells] at hcs;obtain ⟨rfl, rfl, rfl⟩ := hcs;simp at hmm;subst hmm;have key : ∀ i, i < len -> ∃ x : ActX, (W.cell? (a'.add (i * 6)) = some (.int .i64 x.kind) /\ W.cell? ((a'.add (i * 6)).add 1) = some (.int .i64 x.oldest)) /\ (W.cell? ((a'.add (i * 6)).add 2) = some (.int .u64 x.e.hash) /\ W.cell? ((a'.add (i * 6)).add 3) = some (.int .i64 x.e.rg) /\ W.cell? ((a'.add (i * 6)).add 4) = some (.int .i64 x.e.at_) /\ W.cell? ((a'.add (i * 6)).add 5) = some (.int .i64 x.e.sz)) /\ ActXOk x := by
   intro i hil;obtain ⟨cs', hc, ht'⟩ := hx i (by omega);rw [cells112] at hc;obtain ⟨_, hcl, hat⟩ := World.cells?_some hc;obtain ⟨ys, n', _, _, _, hyl, hg⟩ := DataW.trod_struct he ht';have one : ∀ (j : Nat) (f : Field), (#[f0, f1, f2] : Array Field)[j]? = some f -> f.offset = j -> f.type = 3 -> j < 3 -> ∃ z, cs'[j]? = some (.int .i64 z) /\ (Lit.int .i64 z).wf = true := by
    intro j f hj ho hty hj3;have h3 := hg j f hj;have hys : ys[j]? = some (ys[j]'(by rw [hyl]; exact hj3)) := gE _;rw [hys, hty] at h3;obtain ⟨z, hz, _, hw⟩ := DataW.trod_int Tryz.underlying3 h3;refine ⟨z, ?_, hw⟩;have h4 : ((cs'.drop f.offset).take (Tryz.prog.cellsOf 3))[0]? = some (.int .i64 z) := (by rw [hz]; rfl);rw [gT] at h4;split at h4
    ·simpa [ho] using h4
    ·cases h4
   obtain ⟨z0, e0, w0⟩ := one 0 f0 rfl h0.1 h0.2 (by omega);obtain ⟨z1, e1, w1⟩ := one 1 f1 rfl h1.1 h1.2 (by omega);obtain ⟨hh, r, p, s, ⟨k0, k1, k2, k3⟩, wh, wr, wp, ws⟩ : ∃ (hh : Nat) (r p s : Int), (cs'[2]? = some (.int .u64 hh) /\ cs'[3]? = some (.int .i64 r) /\ cs'[4]? = some (.int .i64 p) /\ cs'[5]? = some (.int .i64 s)) /\ hh < 18446744073709551616 /\ (Lit.int .i64 r).wf = true /\ (Lit.int .i64 p).wf = true /\ (Lit.int .i64 s).wf = true := by
    have h3 := hg 2 f2 rfl;have hys : ys[2]? = some (ys[2]'(by rw [hyl]; exact (show 2 < 3 by decide))) := gE _;rw [hys, h2.2] at h3;obtain ⟨hh, r, p, s, ⟨k0, k1, k2, k3⟩, ww⟩ := ent_of_trod h3;refine ⟨hh, r, p, s, ⟨?_, ?_, ?_, ?_⟩, ww⟩;all_goals
     first
      | (rw [gT, List.getElem?_drop, h2.1] at k0; split at k0 <;> first | exact k0 | cases k0)
      | (rw [gT, List.getElem?_drop, h2.1] at k1; split at k1 <;> first | exact k1 | cases k1)
      | (rw [gT, List.getElem?_drop, h2.1] at k2; split at k2 <;> first | exact k2 | cases k2)
      | (rw [gT, List.getElem?_drop, h2.1] at k3; split at k3 <;> first | exact k3 | cases k3)
   have q0 := (hat 0 (by omega)).trans e0;have q1 := (hat 1 (by omega)).trans e1;have q2 := (hat 2 (by omega)).trans k0;have q3 := (hat 3 (by omega)).trans k1;have q4 := (hat 4 (by omega)).trans k2;have q5 := (hat 5 (by omega)).trans k3;exact ⟨⟨z0, z1, ⟨hh, r, p, s⟩⟩, ⟨by simpa [Addr.add] using q0, q1⟩, ⟨q2, q3, q4, q5⟩, ⟨w0, w1, wh, wr, wp, ws⟩⟩
  obtain ⟨V, hV⟩ := choose_lt (α := ActX) key;refine ⟨_, len, _, (List.range len).map V, rfl, by simp, ⟨fun i x hx => ?_⟩⟩;have hil : i < len := by
   have := (gI.1 hx).1;simpa using this
  simp [hil] at hx;subst hx;obtain ⟨⟨k0, k1⟩, ⟨k2, k3, k4, k5⟩, kw⟩ := hV i hil;have hs0 := (hV 0 (by omega)).1.1;simp [Addr.add] at hs0;have hs := spot_none hs0;obtain ⟨b, off, hab⟩ : ∃ b off, a' = ⟨b, off, none⟩ := ⟨_, _, hs⟩
  subst hab;have hb := World.block_lt_of_cell? _ _ hs0;simp only [addr_add0] at k0 k1 k2 k3 k4 k5;exact ⟨b, off, rfl, hb, ⟨k0, k1⟩, ⟨k2, k3, k4, k5⟩, kw⟩
end
end
section
open Go.RowKit Go.Sg Go.Sg.Bits Go.Sg.Clk CP SF
theorem good_right {E : Bt} (hh : E.hash < 18446744073709551616) (h : rightE E = true) : goodE E := by
 simp [rightE] at h;exact ⟨hh, ⟨by omega, by omega⟩, ⟨by omega, by omega⟩, ⟨by omega, by omega⟩⟩
end
section
open Go.RowKit Go.Sg CP SF
def drB (es : List Bt) (h : Nat) : List Bt := if hasB es h = true then es.eraseIdx (plI es h) else es
def DropP (d p : Int) (es : List Bt) (h : Nat) (w : World) (e : Ending) (w' : World) : Prop :=
 ∃ a c, e = .returned (.tuple #[bkV d p (.slice a (drB es h).length c), .bool (hasB es h)]) /\ OwnE w' w.heap.size (.slice a (drB es h).length c) (drB es h) /\ Fq w w'
theorem bdrop_ok {w : World} {v : Value} {es : List Bt} (hE : OwnE w 0 v es) (hs : SortedB es) (hl : es.length <= 254) (d p : Int) (h : Nat) :
  Calls Tryz.prog 139 #[bkV d p v, .int .u64 h] w (DropP d p es h w) := by
 obtain ⟨va, vc, rfl, -, -, -, -⟩ := oSl hE;obtain ⟨n, hn⟩ : ∃ n, es.length = n := ⟨_, rfl⟩
 obtain ⟨w1, hw1⟩ : ∃ w1, (w.alloc (.cells #[.int .i64 d, .int .i64 p, .slice va n vc] 129)).alloc (.cells #[.int .i64 0, .int .i64 0, .slice none 0 0] 129) = w1 := ⟨_, rfl⟩
 obtain ⟨b0, b1, F1⟩ := heap_two hw1;have HB := hid (fun W (F : Fq w1 W) => aI (cells3 (F.heap b0 (fun h => h))) (cells3 (F.heap b1 (fun h => h))));have hE1 := oN hE F1;have HPl := hid (place_ok hE1 hs (by omega) d p h);have HCl := hid (fun W (F : Fq w1 W) => clone_e_ok (oN hE1 F) (by omega));have HF1 := hid F1;have HN := hid hn;have HL := hid hl;have HSo := hid hs;have hsz : w1.heap.size = w.heap.size + 2 := by rw [<- hw1]; simp
 have HSz := hid hsz;obtain ⟨⟨x0, x1, x2, xz, xl⟩, ⟨y0, y1, y2, yz, yl⟩⟩ := HB.out _ (Fr.refl _ _);have HW := hid hw1;rw [hn] at HPl HCl ⊢;clear hw1 b0 b1 F1 hE hs hl hn hsz hE1;obtain ⟨q, hq⟩ : ∃ q, plI es h = q := ⟨_, rfl⟩
 obtain ⟨hb, hhb⟩ : ∃ b, hasB es h = b := ⟨_, rfl⟩
 have HPl' := hid (show Calls Tryz.prog 199 #[bkV d p (.slice va n vc), .int .u64 h] w1 (fun e w' => e = .returned (.tuple #[.int .i64 q, .bool hb]) /\ Fq w1 w') from HPl.out.mono fun e w' hp => ⟨by rw [hp.1, hq, hhb], hp.2⟩);have HQ := hi2 hq hhb;clear HPl hq hhb;go_enter Tryz.func139, Tryz.ntmps139;go_upto_region 1 with fail
 rw [HW.out];go_wp2_with fail
 refine HPl'.out.mono ?_;rintro e W2 ⟨rfl, F2⟩;have HF2 := hid F2;clear x0 x1 x2 xz xl y0 y1 y2 yz yl F2;obtain ⟨⟨x0, x1, x2, xz, xl⟩, ⟨y0, y1, y2, yz, yl⟩⟩ := HB.out _ HF2.out;go_wp2_with fail
 refine (HCl.out _ HF2.out).mono ?_;rintro e W3 ⟨v3, rfl, hown3, F3⟩;obtain ⟨a3, c3, rfl, -, -, -, -⟩ := oSl hown3;have hs2 : w.heap.size + 2 <= W2.heap.size := by have := HSz.out; have := HF2.out.size; omega
 have HS2 := hid hs2;have H3 := hi2 hown3 (HF2.out.trans F3 (fun _ _ h => h));clear hown3 F3 x0 x1 x2 xz xl y0 y1 y2 yz yl hs2;obtain ⟨⟨x0, x1, x2, xz, xl⟩, ⟨y0, y1, y2, yz, yl⟩⟩ := HB.out _ H3.out.2;rw [HN.out];have FS : ∀ (W : World) (o : Nat) (u : Value), Fr (fun b => b = w.heap.size + 1) W (W.setCell ⟨w.heap.size + 1, o, none⟩ u) := fun W o u => (Fr.refl (fun b => b = w.heap.size + 1) _).setCell (a := ⟨w.heap.size + 1, o, none⟩) (fun _ => rfl) u
 have HFS := hid FS;clear FS;cases hb with
 | false =>
  have hP : drB es h = es := by unfold drB; rw [HQ.out.2, if_neg (by decide)]
  have HP := hid hP;clear hP;go_wp2_with fail
  refine (with_ok d p va n vc a3 n c3 _).mono ?_;rintro e W6 ⟨rfl, F6⟩;have H6 := hi2 F6 (H3.out.2.trans F6 (fun _ _ h => h));clear F6 x0 x1 x2 xz xl y0 y1 y2 yz yl;obtain ⟨⟨x0, x1, x2, xz, xl⟩, ⟨y0, y1, y2, yz, yl⟩⟩ := HB.out _ H6.out.2;go_wp2_with fail
  refine bodyPost_ret (v := .tuple #[bkV d p (.slice a3 n c3), .bool false]) (by simp [results, go_sem, *]) rfl ⟨a3, c3, by rw [HP.out, HQ.out.2, HN.out], ?_, ?_⟩
  ·rw [HP.out];exact own_fr1 (own_mono (oN H3.out.1 H6.out.1) (by have := HS2.out; omega)) (((HFS.out _ _ _).trans (HFS.out _ _ _) (fun _ _ h => h)).trans (HFS.out _ _ _) (fun _ _ h => h)) (fun g' hg' e => by
    have := (oBT H3.out.1 (g := g') hg'.symm).1;have := HS2.out;omega)
  ·exact (((HF1.out.trans H6.out.2 (fun _ _ h => h)).setNew (by omega) _).setNew (by omega) _).setNew (by omega) _
 | true =>
  have hP : drB es h = es.eraseIdx q := by unfold drB; rw [HQ.out.2, if_pos rfl, HQ.out.1]
  obtain ⟨y, hy, -⟩ := (hasB_iff HSo.out).1 HQ.out.2;rw [HQ.out.1] at hy;have hqn : q < es.length := (gI.1 hy).1;have hq9 : q < 254 := by have := HL.out; omega
  have hdel := delete_e_ok H3.out.1 (by have := HL.out; omega) q (q + 1) hqn rfl;rw [HN.out] at hdel;have HDl := hid (show Calls Tryz.prog 135 #[.slice a3 n c3, .int .i64 q, .int .i64 ((q : Int) + 1)] W3 _ from hdel);have HP := hi2 hP hqn;clear hP hy hqn hdel;go_wp2_with fail
  refine HDl.out.mono ?_;rintro e W5 ⟨v5, rfl, hown5, F5⟩;obtain ⟨a5, c5, rfl, -, -, -, -⟩ := oSl hown5;have F15 : Fq w1 W5 := H3.out.2.trans F5 (fun b hb e => by
   have := (oBT H3.out.1 (g := b) (by rw [HN.out]; exact e.symm)).1;have := HS2.out; have := HSz.out;omega)
  have H5 := hi2 hown5 F15;obtain ⟨n5, hn5⟩ : ∃ n5, (es.eraseIdx q).length = n5 := ⟨_, rfl⟩
  have HN5 := hid hn5;rw [hn5];clear x0 x1 x2 xz xl y0 y1 y2 yz yl F15 F5 hown5 hn5;obtain ⟨⟨x0, x1, x2, xz, xl⟩, ⟨y0, y1, y2, yz, yl⟩⟩ := HB.out _ H5.out.2;go_wp2_with fail
  refine (with_ok d p va n vc a5 n5 c5 _).mono ?_;rintro e W6 ⟨rfl, F6⟩;have H6 := hi2 F6 (H5.out.2.trans F6 (fun _ _ h => h));clear F6 x0 x1 x2 xz xl y0 y1 y2 yz yl;obtain ⟨⟨x0, x1, x2, xz, xl⟩, ⟨y0, y1, y2, yz, yl⟩⟩ := HB.out _ H6.out.2;go_wp2_with fail
  refine bodyPost_ret (v := .tuple #[bkV d p (.slice a5 n5 c5), .bool true]) (by simp [results, go_sem, *]) rfl ⟨a5, c5, by rw [HP.out.1, HQ.out.2, HN5.out], ?_, ?_⟩
  ·rw [HP.out.1];exact own_fr1 (own_mono (oN H5.out.1 H6.out.1) (by have := HS2.out; omega)) (((HFS.out _ _ _).trans (HFS.out _ _ _) (fun _ _ h => h)).trans (HFS.out _ _ _) (fun _ _ h => h)) (fun g' hg' e => by
    have := (oBT H5.out.1 (g := g') hg'.symm).1;have := HS2.out;omega)
  ·exact (((HF1.out.trans H6.out.2 (fun _ _ h => h)).setNew (by omega) _).setNew (by omega) _).setNew (by omega) _
end
section
open Go.RowKit Go.Sg Go.Sg.Bits Go.Sg.Clk CP SF
def dropS (t : Tr) (g : Nat) (h : Nat) : Tr × Bool :=
 let b := t.at_ g (preM h g) 0 0
 if hasB b.2.2.2 h = true then (t.put g (preM h g) (leafE (drB b.2.2.2 h)), true) else (t, false)
def DropU (B : Blk) (bx bd : Nat) (y : Cs) (P : Prot) (a : Bool) (N : Nat) (g : Nat) (sp : Int) (R : Tr × Bool) (n : Nat) (w : World) (e : Ending) (w' : World) : Prop :=
 ∃ (ok : Bool) (err : Int), e = .returned (.tuple #[.bool ok, .int .i64 err]) /\ FrX B (fun b => b = bd \/ b = bx) w w' /\
  ((err = 0 /\ ok = R.2 /\ ∃ (y' : Cs) (x' : DirD) (t' : Tr), IdxT w' B bx bd y' P a N x' t' sp /\ (bare t' = R.1 /\ t'.refs.length = n) /\ x'.depth = g /\ (Like y y' /\ y'.gen = y.gen /\ y'.dead = y.dead)) \/ (err = 4 /\ a = true /\ DownC w' B y P N))
theorem bk_drop {d p : Nat} {es : List Bt} (h : BkOk d p es) (k : Nat) : BkOk d p (drB es k) := by
 unfold drB;split
 ·exact bk_erase h _
 ·exact h
theorem xdrop_ok {w : World} {B : Blk} {bx bd : Nat} {y : Cs} {P : Prot} {a : Bool} {N : Nat} {x : DirD} {t : Tr} {sp : Int} (h : IdxT w B bx bd y P a N x t sp) {hash : Nat} (hh : hash < 18446744073709551616) (hN : N + 23 <= 90000) :
  Calls Tryz.prog 70 #[xptr bx, .int .u64 hash] w (DropU B bx bd y P a (N + 23) x.depth sp (dropS (bare t) x.depth hash) t.refs.length w) := by
 obtain ⟨tops, L, hM, hP⟩ := h.ex;have hdep := h.depth;have hblt := hM.bd_lt;have hkl : preM hash x.depth < 2 ^ x.depth := pre_lt2 (by omega) hh;obtain ⟨d, p, r, es, hb⟩ := bkt_at hkl (Nat.le_of_eq h.high) h.ok hP;obtain ⟨j, hj⟩ := List.mem_iff_getElem?.1 hb.mem;have hdg := hb.dg;have hp2 := hb.pl;have HOf := hid (xof_ok hM hh hb.slot hb.mem hb.ok (by omega) hp2 (by omega));have HD0 := hid (show dropS (bare t) x.depth hash = if hasB es hash = true then ((bare t).put x.depth (preM hash x.depth) (leafE (drB es hash)), true) else (bare t, false) by
  unfold dropS; rw [bare_at, hb.at_])
 have HT := hi2 h (aI hP (aI hdep (aI hN (aI hdg hp2))));have HBk := hi2 hb hb.ok;have HJ := hid hj;have HBl := hid hblt;clear h hP hdep hN hdg hp2 hb hj hblt hM hkl hh;obtain ⟨R, hR⟩ : ∃ R, dropS (bare t) x.depth hash = R := ⟨_, rfl⟩
 have HR0 := hid (HD0.out.symm.trans hR);rw [hR];clear hR HD0;go_enter Tryz.func70, Tryz.ntmps70;go_wp2_with fail
 refine HOf.out.mono ?_;rintro e V1 ⟨r1, d1, p1, va, n, vc, err, rfl, F1, hr⟩;have HR1 := hi2 F1 hr;clear F1 hr HOf;obtain ⟨b8, hb8⟩ : ∃ b8, V1.heap.size = b8 := ⟨_, rfl⟩
 have H8 := hid (show 0 < b8 /\ w.heap.size <= b8 by
  have h2 := HR1.out.1.size;have h3 := HBl.out;omega)
 go_upto_region 4 with fail
 obtain ⟨V2, hV2⟩ : ∃ V2, V1.alloc (.cells #[.int .i64 r1.1, .int .i64 r1.2, .int .i64 d1, .int .i64 p1, .slice va n vc] 131) = V2 := ⟨_, rfl⟩
 rw [hV2];have FV : Fq V1 V2 := by rw [<- hV2]; exact (Fr.refl _ _).alloc _
 have g8 : V2.heap[b8]? = some (.cells #[.int .i64 r1.1, .int .i64 r1.2, .int .i64 d1, .int .i64 p1, .slice va n vc] 131) := by rw [<- hV2, <- hb8]; exact han _ _
 have HF2 := hid (FrB.trans HR1.out.1 (FrB.none FV));have HFV := hid FV;have HG8 := hid g8;clear hb8 hV2 FV g8;rcases HR1.out.2 with ⟨rfl, ⟨rfl, rfl, rfl, hn⟩, ho, hM⟩ | ⟨rfl, ha, hDn⟩
 rotate_left
 ·have HX := hi2 ha (hDn.fr0 HFV.out);clear ha hDn;go_wp2_with fail
  go_ret2;exact ⟨false, 4, rfl, FrX.of HF2.out, .inr ⟨rfl, HX.out.1, HX.out.2.mono (by omega)⟩⟩
 ·have HM := hid (hM.fr0 HFV.out);have hown := oN (own_base ho) HFV.out;have hdr := bdrop_ok hown HBk.out.2.2.1 (by have := HBk.out.2.1; omega) d p hash;rw [<- hn] at hdr;have HDr := hid hdr;clear ho hM hn hown hdr;obtain ⟨q0, q1, q2, q3, q4, qz, ql⟩ := cells5 HG8.out;go_wp2_with fail
  refine HDr.out.mono ?_;rintro e V3 ⟨a3, c3, rfl, ho3, F3⟩;have HO3 := hi2 ho3 F3;obtain ⟨n3, hn3⟩ : ∃ n3, (drB es hash).length = n3 := ⟨_, rfl⟩
  have HN3 := hid hn3;rw [hn3];obtain ⟨hb, hhb⟩ : ∃ b, hasB es hash = b := ⟨_, rfl⟩
  have HHb := hid hhb;rw [hhb];clear ho3 hn3 hhb q0 q1 q2 q3 q4 qz ql HDr F3;obtain ⟨b9, hb9⟩ : ∃ b9, V3.heap.size = b9 := ⟨_, rfl⟩
  go_upto_region 7 with fail
  obtain ⟨V4, hV4⟩ : ∃ V4, V3.alloc (.cells #[.int .i64 d, .int .i64 p, .slice a3 n3 c3] 129) = V4 := ⟨_, rfl⟩
  rw [hV4];have F4 : Fq V3 V4 := by rw [<- hV4]; exact (Fr.refl _ _).alloc _
  have g9 : V4.heap[b9]? = some (.cells #[.int .i64 d, .int .i64 p, .slice a3 n3 c3] 129) := by rw [<- hV4, <- hb9]; exact han _ _
  have F34 := HO3.out.2.trans F4 (fun _ _ h => h);have HM4 := hid (HM.out.fr0 F34);have HO4 := hid (oN (own_base HO3.out.1) F4);have HF4 := hid (FrB.trans HF2.out (FrB.none F34));obtain ⟨q0, q1, q2, q3, q4, qz, ql⟩ := cells5 (F34.heap HG8.out (fun h => h));obtain ⟨s0, s1, s2, sz, sl⟩ := cells3 g9;clear hV4 hb9 F4 g9 F34;cases hb with
  | false =>
   go_wp2_with fail
   go_ret2;have hR := HR0.out;rw [HHb.out, if_neg (by decide)] at hR;refine ⟨false, 0, rfl, FrX.of HF4.out, .inl ⟨rfl, by rw [<- hR], y, x, t, ⟨⟨tops, L, HM4.out.mono (by omega) HT.out.2.2.2.1, HT.out.2.1⟩, HT.out.1.high, HT.out.1.ok⟩, ⟨by rw [<- hR], rfl⟩, rfl, Like.refl y, rfl, rfl⟩⟩
  | true =>
   have hkp := bk_drop HBk.out.2 hash;have hke := xkeep_ok HM4.out (j := j) HJ.out HO4.out hkp HT.out.2.2.2.2.1 HT.out.2.2.2.2.2 (bkt_own HBk.out.1 (Nat.le_of_eq HT.out.1.high)) (by have := HT.out.2.2.2.1; omega);rw [HN3.out] at hke;have HKe := hid hke;have HKp := hid hkp;clear hke hkp;go_wp2_with fail
   refine HKe.out.mono ?_;rintro e VR ⟨err, rfl, FR, hr⟩;have HR := hi2 FR hr;clear FR hr q0 q1 q2 q3 q4 qz ql s0 s1 s2 sz sl HKe;go_wp2_with fail
   go_ret2;have hR := HR0.out;rw [HHb.out, if_pos rfl] at hR;refine ⟨true, err, rfl, FrX.trans (FrX.of HF4.out) (frX_mono HR.out.1 (fun b hb => .inl hb)), ?_⟩;rcases HR.out.2 with ⟨rfl, m, y', x', t', hI', hx', hL'⟩ | ⟨rfl, ha, hDn⟩
   ·refine .inl ⟨rfl, by rw [<- hR], y', x', t.put x.depth (preM hash x.depth) (fun _ _ => .leaf (↑m, ↑y.gen) (drB es hash)), idxT_leaf HBk.out.1 HT.out.1.high HT.out.1.ok HT.out.2.1 HJ.out HKp.out hx' hI', ⟨?_, ?_⟩, hx', hL'⟩
    ·rw [<- hR];exact bare_put _ _ (fun _ _ => rfl) t x.depth _
    ·exact Nat.add_right_cancel (refs_put (fun _ _ => .leaf (↑m, ↑y.gen) (drB es hash)) 1 (fun _ _ => rfl) t x.depth (preM hash x.depth))
   ·exact .inr ⟨rfl, ha, hDn⟩
def bitH (h d : Nat) : Bool := decide (preM h (d + 1) % 2 = 1)
def look : Tr -> Nat -> Nat -> Nat × List Bt
 | .leaf _ es, d, _ => (d, es)
 | .node l r, d, h => if bitH h d = true then look r (d + 1) h else look l (d + 1) h
def same : Tr -> Nat -> Nat -> Nat -> Bool
 | .leaf _ _, _, _, _ => true
 | .node l r, d, e, h => if bitH e d = true then bitH h d && same r (d + 1) e h else !bitH h d && same l (d + 1) e h
end
end Go.Proofs.YtgdhaaokolfdoaaGreatDoor
