/- A pack of texts: BK6, BK7, IX0, IX1, IX2, IX3, IX4, IX5. Conditions: those that each text names. -/
import Derived.Test.YtgdhaaokolfdoaaGreatDoorNAS
import Derived.Test.YtgdhaaokolfdoaaGreatDoorNAR
import Derived.Deep.QuietTactic
import Derived.BigQuiet
import Derived.Deep.RegionHeld3
import Derived.Test.YtgdhaaokolfdoaaGreatDoorNAO
import Derived.Test.YtgdhaaokolfdoaaGreatDoorNAN
set_option maxHeartbeats 16000000
set_option maxRecDepth 100000
set_option linter.all false
namespace Go.Proofs.YtgdhaaokolfdoaaGreatDoor
section
open Go.RowKit Go.Sg CP SF
theorem nan_i_ok (n : Int) (w : World) : Calls Tryz.prog 276 #[.int .i64 n] w (BoolP false w) := by
 go_enter Tryz.func276, Tryz.ntmps276;go_wp2_with fail
 go_ret;exact ⟨rfl, rfl⟩
def cmpZ (x y : Int) : Int := if x < y then -1 else if y < x then 1 else 0
theorem cmp_i_ok (x y : Int) (w : World) : Calls Tryz.prog 249 #[.int .i64 x, .int .i64 y] w (IntP (cmpZ x y) w) := by
 have key : (decide (x < y) = true /\ cmpZ x y = -1) \/ (decide (x < y) = false /\ decide (y < x) = true /\ cmpZ x y = 1) \/ (decide (x < y) = false /\ decide (y < x) = false /\ cmpZ x y = 0) := by
  unfold cmpZ;by_cases h1 : x < y
  ·left; rw [if_pos h1]; exact ⟨by simp; omega, rfl⟩
  ·right;by_cases h2 : y < x
   ·left; rw [if_neg h1, if_pos h2]; exact ⟨by simp; omega, by simp; omega, rfl⟩
   ·right; rw [if_neg h1, if_neg h2]; exact ⟨by simp; omega, by simp; omega, rfl⟩
 rcases key with ⟨d1, e⟩ | ⟨d1, d2, e⟩ | ⟨d1, d2, e⟩
 all_goals
  rw [e];clear e;go_enter Tryz.func249, Tryz.ntmps249;go_wp2_with fail
  refine (nan_i_ok x w).mono ?_;rintro e _ ⟨rfl, rfl⟩;go_wp2_with fail
  refine (nan_i_ok y w).mono ?_;rintro e _ ⟨rfl, rfl⟩;go_wp2_with fail
  go_ret;exact ⟨rfl, rfl⟩
def orZ (x y : Int) : Int := if x = 0 then y else x
variable {w : World} {b bd bx most s sl : Nat} {v : Value} {sp : Int}
theorem or_ok {c : Nat} {x y : Int} (hb : w.heap[b]? = some (.cells #[.int .i64 x, .int .i64 y] 3)) : Calls Tryz.prog 248 #[.slice (some ⟨b, 0, none⟩) 2 c] w (IntP (orZ x y) w) := by
 obtain ⟨c0, c1, cz, cl⟩ := cells2 hb;clear hb;by_cases h0 : x = 0
 ·have hx : (x == 0) = true := by simp [h0]
  have hx' : (x != 0) = false := by simp [h0]
  by_cases h1 : y = 0
  ·have hy : (y == 0) = true := by simp [h1]
   have hy' : (y != 0) = false := by simp [h1]
   have e : orZ x y = 0 := by unfold orZ; rw [if_pos h0, h1]
   rw [e];clear h0 h1 e;go_enter Tryz.func248, Tryz.ntmps248;go_wp2_with fail
   refine wp_loop_rounds 3 ?_;rw [rounds_succ];go_wp2_with fail
   rw [rounds_succ];go_wp2_with fail
   rw [rounds_succ];go_wp2_with fail
   go_ret;exact ⟨rfl, rfl⟩
  ·have hy : (y == 0) = false := by simp [h1]
   have hy' : (y != 0) = true := by simp [h1]
   have e : orZ x y = y := by unfold orZ; rw [if_pos h0]
   rw [e];clear h0 h1 e;go_enter Tryz.func248, Tryz.ntmps248;go_wp2_with fail
   refine wp_loop_rounds 2 ?_;rw [rounds_succ];go_wp2_with fail
   rw [rounds_succ];go_wp2_with fail
   go_ret;exact ⟨rfl, rfl⟩
 ·have hx : (x == 0) = false := by simp [h0]
  have hx' : (x != 0) = true := by simp [h0]
  have e : orZ x y = x := by unfold orZ; rw [if_neg h0]
  rw [e];clear h0 e;go_enter Tryz.func248, Tryz.ntmps248;go_wp2_with fail
  refine wp_loop_rounds 1 ?_;rw [rounds_succ];go_wp2_with fail
  go_ret;exact ⟨rfl, rfl⟩
def elderB (x y : Bt) : Bool := decide (orZ (cmpZ x.rg y.rg) (cmpZ x.at_ y.at_) < 0)
theorem elder_ok (x y : Bt) (w : World) : Calls Tryz.prog 198 #[btV x, btV y] w (ValP (.bool (elderB x y)) w) := by
 obtain ⟨w1, hw1⟩ : ∃ w1, (w.alloc (.cells #[.int .u64 x.hash, .int .i64 x.rg, .int .i64 x.at_, .int .i64 x.sz] 118)).alloc (.cells #[.int .u64 y.hash, .int .i64 y.rg, .int .i64 y.at_, .int .i64 y.sz] 118) = w1 := ⟨_, rfl⟩
 obtain ⟨b0, b1, F1⟩ := heap_two hw1;have HB := hid (fun W (F : Fq w1 W) => aI (cells4b (F.heap b0 (fun h => h))) (cells4b (F.heap b1 (fun h => h))));have HF := hid F1;have HW := hid hw1;have FG : Fq w1 w1.drew := (Fr.refl _ _).drew;clear hw1 b0 b1 F1;go_enter Tryz.func198, Tryz.ntmps198;go_upto_region 1 with fail
 rw [HW.out];refine wp_region_noPanic ?_;refine region_plan (fun V => Fq w1 V) (.rd 0 (.rd 1 (.rd 2 (.rd 3 (.rd 4 (.rd 5 (.rd 7 (.rd 8 (.rd 9 (.rd 10 (.rd 11 (.rd 12 (.op 6 (.op 13 (.op 14 (.op 15 (.rd 16 (.rd 17 .done)))))))))))))))))) (by kernel_rfl) (by kernel_rfl) (by kernel_rfl) (fun _ _ _ _ _ h => h) FG ?_;iterate 12
  try simp only [Act.put, sI, sZ, sS]
  refine plan_rd _ ?_ (by simp only [gA, gZ, gS]; rfl) (by rfl) ?_ ?_;rotate_left
  ·intro V hV;obtain ⟨⟨t0, t1, t2, t3, tz, tl⟩, ⟨u0, u1, u2, u3, uz, ul⟩⟩ := HB.out V hV;go_simp;try with_reducible rfl
 try simp only [Act.put, sI, sZ, sS]
 refine plan_op _ (by simp only [gA, gZ, gS]; rfl) (by rfl) (fun K hK => ?_);go_simp;refine (cmp_i_ok x.rg y.rg _).mono ?_;rintro _ _ ⟨rfl, rfl⟩;try go_simp
 refine hK _ _ FG ?_;clear hK K;try simp only [Act.put, sI, sZ, sS]
 refine plan_op _ (by simp only [gA, gZ, gS]; rfl) (by rfl) (fun K hK => ?_);go_simp;refine (cmp_i_ok x.at_ y.at_ _).mono ?_;rintro _ _ ⟨rfl, rfl⟩;try go_simp
 refine hK _ _ FG ?_;clear hK K;try simp only [Act.put, sI, sZ, sS]
 refine plan_op _ (by simp only [gA, gZ, gS]; rfl) (by rfl) (fun K hK => ?_);go_simp;have hb := han w1.drew (.cells #[.int .i64 (cmpZ x.rg y.rg), .int .i64 (cmpZ x.at_ y.at_)] 3);have FG := FG.alloc (.cells #[.int .i64 (cmpZ x.rg y.rg), .int .i64 (cmpZ x.at_ y.at_)] 3);refine hK _ _ FG ?_;clear hK K;try simp only [Act.put, sI, sZ, sS]
 refine plan_op _ (by simp only [gA, gZ, gS]; rfl) (by rfl) (fun K hK => ?_);go_simp;refine (or_ok hb).mono ?_;rintro _ _ ⟨rfl, rfl⟩;try go_simp
 refine hK _ _ FG ?_;clear hK K;iterate 2
  try simp only [Act.put, sI, sZ, sS]
 iterate 2
  refine plan_rd _ ?_ (by simp only [gA, gZ, gS]; rfl) (by rfl) ?_ ?_;rotate_left
  ·intro V hV;obtain ⟨⟨t0, t1, t2, t3, tz, tl⟩, ⟨u0, u1, u2, u3, uz, ul⟩⟩ := HB.out V hV;go_simp;try with_reducible rfl
  try simp only [Act.put, sI, sZ, sS]
 refine plan_done ?_;refine NoPanic.normal ?_;go_wp2_with fail
 go_ret;exact ⟨rfl, HF.out.trans FG (fun _ _ h => h)⟩
theorem neq116 (a b c d e f : Int) (w : World) : (binOp .neq 116 (.agg #[.int .i64 a, .int .i64 b, .int .i64 c]) (.agg #[.int .i64 d, .int .i64 e, .int .i64 f])).run Tryz.prog w = .ok (.bool (!(decide (a = d) && (decide (b = e) && decide (c = f))))) w := by
 have h : Tryz.prog.underlying 116 = _ := Tryz.underlying116;go_simp;by_cases h1 : a = d <;> by_cases h2 : b = e <;> by_cases h3 : c = f <;> simp [h1, h2, h3]
variable {x y : Bt}
theorem elder_same (h1 : x.rg = y.rg) (h2 : x.at_ = y.at_) : elderB x y = false := by
 unfold elderB;rw [h1, h2];have e : ∀ z, cmpZ z z = 0 := fun z => by unfold cmpZ; simp
 rw [e, e];decide
def eldStep (es : List Bt) (b k : Nat) : Nat := match es[b]?, es[k]? with
 | some y, some x => if elderB x y = true then k else b
 | _, _ => b
def eldN (es : List Bt) : Nat -> Nat
 | 0 => 0
 | k + 1 => eldStep es (eldN es k) (k + 1)
theorem eldN_le (es : List Bt) : ∀ k, eldN es k <= k
 | 0 => nR _
 | k + 1 => by
  have := eldN_le es k;show eldStep es (eldN es k) (k + 1) <= k + 1;unfold eldStep;split
  ·split
   ·exact nR _
   ·omega
  ·omega
def bestI (es : List Bt) : Nat -> Int
 | 0 => -1
 | k + 1 => (eldN es k : Int)
variable {es : List Bt}
theorem bestI_succ {k : Nat} (hk : 0 < k) (hx : es[k]? = some x) (hy : es[eldN es (k - 1)]? = some y) : bestI es (k + 1) = if elderB x y = true then (k : Int) else bestI es k := by
 obtain ⟨j, rfl⟩ : ∃ j, k = j + 1 := ⟨k - 1, by omega⟩
 simp only [Nat.add_sub_cancel] at hy;show (eldStep es (eldN es j) (j + 1) : Int) = _;unfold eldStep;rw [hx, hy];simp only [bestI];split <;> rfl
def ElderP (es : List Bt) (w : World) (e : Ending) (w' : World) : Prop := e = .returned (.int .i64 (bestI es es.length)) /\ Fq w w'
theorem belder_ok (hE : OwnE w 0 v es) (hl : es.length <= 255) (d p : Int) :
  Calls Tryz.prog 134 #[bkV d p v] w (ElderP es w) := by
 obtain ⟨va, vc, rfl, -, -, -, -⟩ := oSl hE;obtain ⟨n, hn⟩ : ∃ n, es.length = n := ⟨_, rfl⟩
 have hn9 : n <= 255 := by omega
 obtain ⟨w1, hw1⟩ : ∃ w1, w.alloc (.cells #[.int .i64 d, .int .i64 p, .slice va n vc] 129) = w1 := ⟨_, rfl⟩
 have b1 : w1.heap[w.heap.size]? = some (.cells #[.int .i64 d, .int .i64 p, .slice va n vc] 129) := by rw [<- hw1]; exact han _ _
 have F1 : Fq w w1 := by rw [<- hw1]; exact (Fr.refl _ _).alloc _
 have HB := hid (fun W (F : Fq w1 W) => cells3 (F.heap b1 (fun h => h)));have HE := hid (fun W (F : Fq w1 W) => oN (oN hE F1) F);have HF1 := hid F1;have HN := hid hn;have HW := hid hw1;obtain ⟨x0, x1, x2, xz, xl⟩ := HB.out _ (Fr.refl _ _);rw [hn];clear hE hl hn hw1 b1 F1;go_enter Tryz.func134, Tryz.ntmps134;go_upto_region 2 with fail
 rw [HW.out];go_wp2_with fail
 clear x0 x1 x2 xz xl;go_loopw [3, 9] (fun bv iv wr => ∃ k : Nat, k <= n /\ iv = .int .i64 k /\ bv = .int .i64 (bestI es k) /\ Fq w1 wr) (fun _ iv _ => n - (intOf iv).toNat)
 case atStart => exact ⟨0, Nat.zero_le _, rfl, rfl, Fr.refl _ _⟩
 case round =>
  obtain ⟨k, hk, rfl, rfl, hF⟩ := hrel;by_cases hlt : k < n
  ·have hd : decide (k < n) = true := by simp [hlt]
   have hki : (k : Int) < (n : Int) := by omega
   obtain ⟨x, hx⟩ : ∃ x, es[k]? = some x := ⟨_, gE (by rw [HN.out]; exact hlt)⟩
   obtain ⟨g, rfl, hg, u0, u1, u2, u3⟩ := ownE_at (HE.out _ hF) hx;obtain ⟨W, hW⟩ : ∃ W, wr.alloc (.cells #[.int .u64 x.hash, .int .i64 x.rg, .int .i64 x.at_, .int .i64 x.sz] 118) = W := ⟨_, rfl⟩
   have bW : W.heap[wr.heap.size]? = some (.cells #[.int .u64 x.hash, .int .i64 x.rg, .int .i64 x.at_, .int .i64 x.sz] 118) := by rw [<- hW]; exact han _ _
   have FW : Fq wr W := by rw [<- hW]; exact (Fr.refl _ _).alloc _
   have HFW := hid (hF.trans FW (fun _ _ h => h));have HBW := hid (fun V (F : Fq W V) => cells4b (F.heap bW (fun h => h)));have HX := hid hx;have HW2 := hid hW;clear hx hW bW FW hF;go_upto_region 5 with fail
   rw [HW2.out];clear u0 u1 u2 u3;obtain ⟨t0, t1, t2, t3, tz, tl⟩ := HBW.out _ (Fr.refl _ _);by_cases hk0 : k = 0
   ·subst hk0;have hb : bestI es 0 = -1 := rfl;rw [hb];clear hb;go_quiet (fail)
    go_wp2_with fail
    go_roundw;case rel => exact ⟨1, hlt, by go_num, rfl, HFW.out.drewN _⟩
    case measure => simp [intOf]; omega
   ·have hkp : 0 < k := (by omega);obtain ⟨b, hbq⟩ : ∃ b, eldN es (k - 1) = b := ⟨_, rfl⟩
    have hbk : b < k := (by rw [<- hbq]; have := eldN_le es (k - 1); omega);have hbest : bestI es k = (b : Int) := by
     obtain ⟨j, rfl⟩ : ∃ j, k = j + 1 := ⟨k - 1, by omega⟩
     rw [<- hbq]; rfl
    obtain ⟨y, hy⟩ : ∃ y, es[b]? = some y := ⟨_, gE (by rw [HN.out]; omega)⟩
    have hsucc := bestI_succ hkp HX.out (by rw [hbq]; exact hy);rw [hbest] at hsucc ⊢;have HSu := hid hsucc;have hbn : (b : Int) < (n : Int) := (by omega);have hb0 : decide ((b : Int) < 0) = false := (by simp);have HC := hid (fun V (F : Fq W V) => show (V.cell? ⟨wr.heap.size, 0, none⟩ = some (.int .u64 x.hash) /\ V.cell? ⟨wr.heap.size, 1, none⟩ = some (.int .i64 x.rg) /\ V.cell? ⟨wr.heap.size, 2, none⟩ = some (.int .i64 x.at_) /\ V.cell? ⟨wr.heap.size, 3, none⟩ = some (.int .i64 x.sz)) /\ (V.cell? ⟨g, b * 4, none⟩ = some (.int .u64 y.hash) /\ V.cell? ⟨g, b * 4 + 1, none⟩ = some (.int .i64 y.rg) /\ V.cell? ⟨g, b * 4 + 2, none⟩ = some (.int .i64 y.at_) /\ V.cell? ⟨g, b * 4 + 3, none⟩ = some (.int .i64 y.sz)) /\ V.cell? ⟨w.heap.size, 2, none⟩ = some (.slice (some ⟨g, 0, none⟩) n vc) by
     obtain ⟨t0, t1, t2, t3, tz, tl⟩ := HBW.out V F;obtain ⟨g', e', hg', u0, u1, u2, u3⟩ := ownE_at (HE.out V (HFW.out.trans F (fun _ _ h => h))) hy;cases e';exact ⟨⟨t0, t1, t2, t3⟩, ⟨u0, u1, u2, u3⟩, (HB.out V (HFW.out.trans F (fun _ _ h => h))).2.2.1⟩)
    obtain ⟨-, ⟨u0, u1, u2, u3⟩, z2⟩ := HC.out _ (Fr.refl _ _);have hgW := World.block_lt_of_cell? _ _ u0;clear hbq hbest hsucc hy;by_cases hloc : x.rg = y.rg /\ x.at_ = y.at_ /\ x.sz = y.sz
    ·have hn116 : ∀ W, (binOp .neq 116 (.agg #[.int .i64 x.rg, .int .i64 x.at_, .int .i64 x.sz]) (.agg #[.int .i64 y.rg, .int .i64 y.at_, .int .i64 y.sz])).run Tryz.prog W = .ok (.bool false) W := fun W => by rw [neq116]; simp [hloc.1, hloc.2.1, hloc.2.2]
     have he := elder_same hloc.1 hloc.2.1;have HS := hid (show bestI es (k + 1) = (b : Int) by rw [HSu.out, he]; rfl);clear hloc he;go_quiet (fail)
     go_wp2_with fail
     go_roundw;case rel => exact ⟨k + 1, hlt, by go_num, by rw [HS.out], HFW.out.drewN _⟩
     case measure => simp [intOf]; omega
    ·have hn116 : ∀ W, (binOp .neq 116 (.agg #[.int .i64 x.rg, .int .i64 x.at_, .int .i64 x.sz]) (.agg #[.int .i64 y.rg, .int .i64 y.at_, .int .i64 y.sz])).run Tryz.prog W = .ok (.bool true) W := fun W => by
      rw [neq116];congr 2
      simp only [Bool.not_eq_true', Bool.and_eq_false_iff, decide_eq_false_iff_not];by_cases h1 : x.rg = y.rg
      ·by_cases h2 : x.at_ = y.at_
       ·exact .inr (.inr fun h3 => hloc ⟨h1, h2, h3⟩)
       ·exact .inr (.inl h2)
      ·exact .inl h1
     obtain ⟨eb, heb⟩ : ∃ eb, elderB x y = eb := ⟨_, rfl⟩
     have HS := hid (show bestI es (k + 1) = if eb = true then (k : Int) else (b : Int) by rw [HSu.out, heb]);have HEl := hid (fun V => show Calls Tryz.prog 198 #[btV x, btV y] V (ValP (.bool eb) V) by rw [<- heb]; exact elder_ok x y V);have FG : Fq W W.drew := (Fr.refl _ _).drew;clear hloc heb;go_region_held3 (fun V => (V.cell? ⟨wr.heap.size, 0, none⟩ = some (.int .u64 x.hash) /\ V.cell? ⟨wr.heap.size, 1, none⟩ = some (.int .i64 x.rg) /\ V.cell? ⟨wr.heap.size, 2, none⟩ = some (.int .i64 x.at_) /\ V.cell? ⟨wr.heap.size, 3, none⟩ = some (.int .i64 x.sz)) /\ (V.cell? ⟨g, b * 4, none⟩ = some (.int .u64 y.hash) /\ V.cell? ⟨g, b * 4 + 1, none⟩ = some (.int .i64 y.rg) /\ V.cell? ⟨g, b * 4 + 2, none⟩ = some (.int .i64 y.at_) /\ V.cell? ⟨g, b * 4 + 3, none⟩ = some (.int .i64 y.sz)) /\ V.cell? ⟨w.heap.size, 2, none⟩ = some (.slice (some ⟨g, 0, none⟩) n vc)) (go_keep) (first
      | (go_at_call 198; refine (HEl.out _).mono ?_; rintro _ V1 ⟨rfl, G1⟩; have FG := FG.trans G1 (fun _ _ h => h); obtain ⟨⟨t0, t1, t2, t3⟩, ⟨u0, u1, u2, u3⟩, z2⟩ := HC.out _ FG; clear G1))
     cases eb;all_goals
      go_wp2_with fail
      go_roundw;case rel => exact ⟨k + 1, hlt, by go_num, by rw [HS.out]; rfl, HFW.out.trans FG (fun _ _ h => h)⟩
      case measure => simp [intOf]; omega
  ·obtain rfl : k = n := by omega
   have hd : decide (k < k) = false := by simp
   have HFk := hid hF;clear hF;go_wp2_with fail
   go_ret;exact ⟨by rw [HN.out]; rfl, HF1.out.trans HFk.out (fun _ _ h => h)⟩
def IdxAt (w : World) (bx s bd sl most : Nat) (sp : Int) : Prop := w.heap[bx]? = some (.cells #[.pointer (some ⟨s, 0, none⟩), .pointer (some ⟨bd, 0, none⟩), .int .i64 sl, .int .i64 most, .int .i64 sp] 227)
theorem cells5 {x0 x1 x2 x3 x4 : Value} {t : TypeId} (h : w.heap[b]? = some (.cells #[x0, x1, x2, x3, x4] t)) :
  w.cell? ⟨b, 0, none⟩ = some x0 /\ w.cell? ⟨b, 1, none⟩ = some x1 /\ w.cell? ⟨b, 2, none⟩ = some x2 /\ w.cell? ⟨b, 3, none⟩ = some x3 /\ w.cell? ⟨b, 4, none⟩ = some x4 /\ (∀ o, w.frozen? ⟨b, o, none⟩ = false) /\ b < w.heap.size :=
 ⟨by simpa using coh h 0, by simpa using coh h 1, by simpa using coh h 2, by simpa using coh h 3, by simpa using coh h 4, fun o => foh h o, loh h⟩
abbrev xptr (bx : Nat) : Value := .pointer (some ⟨bx, 0, none⟩)
theorem xdepth_ok {x : DirD} (h : IdxAt w bx s bd sl most sp) (hD : DirAt w bd s x) : Calls Tryz.prog 67 #[xptr bx] w (IntP x.depth w) := by
 obtain ⟨c0, c1, c2, c3, c4, cz, cl⟩ := cells5 h;have HD := hid (depth_ok hD);clear h hD;go_enter Tryz.func67, Tryz.ntmps67;go_wp2_with fail
 refine HD.out.mono ?_;rintro e _ ⟨rfl, rfl⟩;go_wp2_with fail
 go_ret;exact ⟨rfl, rfl⟩
theorem xsplits_ok (h : IdxAt w bx s bd sl most sp) : Calls Tryz.prog 68 #[xptr bx] w (IntP sp w) := by
 obtain ⟨c0, c1, c2, c3, c4, cz, cl⟩ := cells5 h;clear h;go_enter Tryz.func68, Tryz.ntmps68;go_wp2_with fail
 go_ret;exact ⟨rfl, rfl⟩
def roomB (es : List Bt) (h sl : Nat) : Bool := hasB es h || decide (es.length < sl)
theorem xroom_ok (hI : IdxAt w bx s bd sl most sp) (hE : OwnE w 0 v es) (hs : SortedB es) (hl : es.length <= 255) (d p : Int) (h : Nat) :
  Calls Tryz.prog 131 #[xptr bx, bkV d p v, .int .u64 h] w (ValP (.bool (roomB es h sl)) w) := by
 obtain ⟨va, vc, rfl, -, -, -, -⟩ := oSl hE;obtain ⟨n, hn⟩ : ∃ n, es.length = n := ⟨_, rfl⟩
 obtain ⟨w1, hw1⟩ : ∃ w1, w.alloc (.cells #[.int .i64 d, .int .i64 p, .slice va n vc] 129) = w1 := ⟨_, rfl⟩
 have b1 : w1.heap[w.heap.size]? = some (.cells #[.int .i64 d, .int .i64 p, .slice va n vc] 129) := by rw [<- hw1]; exact han _ _
 have F1 : Fq w w1 := by rw [<- hw1]; exact (Fr.refl _ _).alloc _
 have HB := hid (fun W (F : Fq w1 W) => aI (cells3 (F.heap b1 (fun h => h))) (cells5 (F.heap (F1.heap hI (fun h => h)) (fun h => h))));have HF := hid (find_ok (oN hE F1) hs hl d p h);have HF1 := hid F1;have HN := hid hn;have HW := hid hw1;obtain ⟨⟨x0, x1, x2, xz, xl⟩, -⟩ := HB.out _ (Fr.refl _ _);rw [hn] at HF ⊢;clear hI hE hs hl hn hw1 b1 F1;obtain ⟨lv, hlv⟩ : ∃ e : Option Bt, atB es h = e := ⟨_, rfl⟩
 obtain ⟨hb, hhb⟩ : ∃ b, hasB es h = b := ⟨_, rfl⟩
 have HR := hid (show roomB es h sl = (hb || decide (n < sl)) by unfold roomB; rw [hhb, HN.out]);have HF' := hid (show Calls Tryz.prog 138 #[bkV d p (.slice va n vc), .int .u64 h] w1 (fun e w' => e = .returned (.tuple #[locV lv, .bool hb]) /\ Fq w1 w') from HF.out.mono fun e w' hp => ⟨by rw [<- hlv, <- hhb]; exact hp.1, hp.2⟩);clear hlv hhb HF;obtain ⟨r0, r1, r2, hr⟩ : ∃ r0 r1 r2 : Int, locV lv = .agg #[.int .i64 r0, .int .i64 r1, .int .i64 r2] := by
  cases lv with
  | none => exact ⟨0, 0, 0, rfl⟩
  | some e => exact ⟨_, _, _, rfl⟩
 rw [hr] at HF';clear hr;obtain ⟨bl, hbl⟩ : ∃ b, decide (n < sl) = b := ⟨_, rfl⟩
 rw [hbl] at HR;go_enter Tryz.func131, Tryz.ntmps131;go_upto_region 1 with fail
 rw [HW.out];go_wp2_with fail
 refine HF'.out.mono ?_;rintro e w2 ⟨rfl, F2⟩;have HF2 := hid F2;clear F2 x0 x1 x2 xz xl;obtain ⟨⟨x0, x1, x2, xz, xl⟩, ⟨y0, y1, y2, y3, y4, yz, yl⟩⟩ := HB.out _ HF2.out;go_upto_region 2 with fail
 cases hb;all_goals
  go_quiet (fail)
  go_wp2_with fail
  go_ret;refine ⟨by rw [HR.out]; first | rfl | simp, ?_⟩;exact (HF1.out.trans HF2.out (fun _ _ h => h)).trans (((Fr.refl (fun _ => False) _).alloc _).drewN _) (fun _ _ h => h)
def small17 : Plan8 := ⟨120, 96, 3, 2, 4, 3, 8, 0⟩
theorem small17_ok (w : World) : Calls Tryz.prog 77 #[] w fun e w' => e = .returned small17.val /\ Fq w w' := by
 go_enter Tryz.func77, Tryz.ntmps77;go_wp2
 refine bodyPost_ret (v := .agg #[.int .i64 120, .int .i64 96, .int .i64 3, .int .i64 2, .int .i64 4, .int .i64 3, .int .i64 8, .int .u64 0]) (by simp [results, go_sem, *]) rfl ⟨rfl, (Fr.refl _ _).alloc _⟩
theorem small17_fits : fitsM ⟨(120 : Nat), (96 : Nat), 3, 2, 4, 3, 8, 0⟩ = true := by decide +kernel
theorem entry17_ok (x : Bt) (w : World) : Calls Tryz.prog 65 #[btV x] w (ValP (btV x) w) := by
 obtain ⟨w1, hw1⟩ : ∃ w1, ((w.alloc (.cells #[.int .u64 x.hash, .int .i64 x.rg, .int .i64 x.at_, .int .i64 x.sz] 110)).alloc (.cells #[.int .u64 0, .int .i64 0, .int .i64 0, .int .i64 0] 118)) = w1 := ⟨_, rfl⟩
 obtain ⟨b0, b1, F1⟩ := heap_two hw1;obtain ⟨c0, c1, c2, c3, cz, cl⟩ := cells4b b0;obtain ⟨d0, d1, d2, d3, dz, dl⟩ := cells4b b1;have HW := hid hw1;have HF := hid F1;have hs : w1.heap.size = w.heap.size + 2 := by rw [<- hw1]; simp
 have HS := hid hs;clear hw1 b0 b1 F1 hs;go_enter Tryz.func65, Tryz.ntmps65;go_upto_region 1 with fail
 rw [HW.out];go_wp2_with fail
 refine bodyPost_ret (v := btV x) (by simp [results, go_sem, *]) rfl ⟨rfl, ?_⟩;exact (((HF.out.setNew (by omega) _).setNew (by omega) _).setNew (by omega) _).setNew (by omega) _
end
section
open Go.RowKit Go.Sg Go.Sg.Bits Go.Sg.Clk CP SF
def mostP (p : Plan8) : Int := (layM p).slots
def XOnP (s : Nat) (p : Plan8) (w : World) (e : Ending) (w' : World) : Prop := ∃ bx, e = .returned (xptr bx) /\ w'.heap[bx]? = some (.cells #[.pointer (some ⟨s, 0, none⟩), .pointer none, .int .i64 (mostP p), .int .i64 p.depth, .int .i64 0] 227) /\ w.heap.size <= bx /\ Fq w w'
theorem xon_ok {w : World} {B : Blk} {y : Cs} {P : Prot} {a : Bool} {N : Nat} (h : StoreC w B y P a N) (hfit : fitsM y.plan = true) : Calls Tryz.prog 147 #[B.ptr] w (XOnP B.s y.plan w) := by
 obtain ⟨⟨h6, -, h41⟩, h8, -⟩ := fits_dir hfit;have HPl := hid (fun W (F : Fq w W) => plan_c (h.fr0 F));generalize y.plan = p at *
 have HFit := hid (fun W => fit_ok p W);rw [hfit] at HFit;have hz : mostP p = (layM p).slots := rfl;obtain ⟨pa, pb, pc, pd, pf, dp, ph, ps⟩ := p;generalize layM ⟨pa, pb, pc, pd, pf, dp, ph, ps⟩ = L at *
 obtain ⟨l1, l2, l3, per, l5, l6, l7⟩ := L;have HZ := hid hz;clear h hfit h6 h41 h8 hz;go_enter Tryz.func147, Tryz.ntmps147;go_wp2_with (go_at_call 33; refine (HPl.out _ (Fr.refl _ _)).mono ?_)
 rintro e w1 ⟨rfl, F1⟩;have HF1 := hid F1;clear F1;go_wp2_with (go_at_call 91; refine (HFit.out _).mono ?_)
 rintro e w2 ⟨rfl, F2⟩;have HF2 := hid (HF1.out.trans F2 (fun _ _ h => h));clear F2;simp only [if_true];go_upto_region 2 with fail
 obtain ⟨W3, hW3⟩ : ∃ W3, w2.alloc (.cells #[.int .i64 2, .int .i64 l1, .int .i64 l2, .int .i64 l3, .int .i64 per, .int .i64 l5, .int .i64 l6, .int .i64 l7] 169) = W3 := ⟨_, rfl⟩
 rw [hW3];have F3 : Fq w2 W3 := by rw [<- hW3]; exact (Fr.refl _ _).alloc _
 have b3 : W3.heap[w2.heap.size]? = some (.cells #[.int .i64 2, .int .i64 l1, .int .i64 l2, .int .i64 l3, .int .i64 per, .int .i64 l5, .int .i64 l6, .int .i64 l7] 169) := by rw [<- hW3]; exact han _ _
 have HF3 := hid (HF2.out.trans F3 (fun _ _ h => h));have c4 := coh b3 5;simp at c4;have l3 := loh b3;have hfd : ∀ W, (Instr.field 31 (.agg #[.int .i64 pa, .int .i64 pb, .int .i64 pc, .int .i64 pd, .int .i64 pf, .int .i64 dp, .int .i64 ph, .int .u64 ps]) 5).run Tryz.prog W = .ok (.int .i64 dp) W := fun W => by kernel_rfl
 clear F3 b3 hW3;go_region_held3 (fun W => W.cell? ⟨w2.heap.size, 5, none⟩ = some (.int .i64 l5)) (go_keep)
  (first
   | (go_at_call 33; refine (HPl.out _ (by first | exact HF3.out | exact HF3.out.drew)).mono ?_; rintro e W4 ⟨he, F4⟩; obtain rfl : e = .returned (.agg #[.int .i64 pa, .int .i64 pb, .int .i64 pc, .int .i64 pd, .int .i64 pf, .int .i64 dp, .int .i64 ph, .int .u64 ps]) := he; have c4 := (F4.cell (p := ⟨w2.heap.size, 5, none⟩) (by first | exact l3 | (simp; omega)) (fun h => h)).trans c4; have HF4 := hid (show Fq W3 W4 by first | exact F4 | exact ((Fr.refl _ _).drew).trans F4 (fun _ _ h => h)); clear F4))
 all_goals (go_wp2_with fail)
 all_goals go_ret
 all_goals (
  refine ⟨_, rfl, ?_, nT HF3.out.size HF4.out.size, (HF3.out.trans HF4.out (fun _ _ h => h)).alloc _⟩;rw [HZ.out];exact han _ _)
end
section
open Go.RowKit Go.Sg CP SF
theorem xentry_ok (x : Bt) (b : Bool) (w : World) (hR : ∀ W g, W.heap[g]? = some (.cells #[.int .u64 x.hash, .int .i64 x.rg, .int .i64 x.at_, .int .i64 x.sz] 118) -> w.heap.size <= g -> Fq w W -> Calls Tryz.prog 190 #[bkV 0 0 (.slice (some ⟨g, 0, none⟩) 1 1), .int .i64 1] W (ValP (.bool b) W)) : Calls Tryz.prog 129 #[btV x] w (ValP (.bool b) w) := by
 obtain ⟨w1, hw1⟩ : ∃ w1, w.alloc (.cells #[.int .u64 x.hash, .int .i64 x.rg, .int .i64 x.at_, .int .i64 x.sz] 118) = w1 := ⟨_, rfl⟩
 have b1 : w1.heap[w.heap.size]? = some (.cells #[.int .u64 x.hash, .int .i64 x.rg, .int .i64 x.at_, .int .i64 x.sz] 118) := by rw [<- hw1]; exact han _ _
 have F1 : Fq w w1 := by rw [<- hw1]; exact (Fr.refl _ _).alloc _
 obtain ⟨c0, c1, c2, c3, cz, cl⟩ := cells4b b1;have HF1 := hid F1;have HW := hid hw1;have HR := hid hR;clear hR hw1 b1 F1;go_enter Tryz.func129, Tryz.ntmps129;go_upto_region 1 with fail
 rw [HW.out];go_wp2_with fail
 refine (HR.out _ w1.heap.size (han _ _) HF1.out.size (HF1.out.alloc _)).mono ?_;rintro e w2 ⟨rfl, F2⟩;have HF2 := hid ((HF1.out.alloc _).trans F2 (fun _ _ h => h));clear F2 c0 c1 c2 c3 cz cl;go_wp2_with fail
 refine bodyPost_ret (v := .bool b) (by simp [results, go_sem, *]) rfl ⟨rfl, ?_⟩;exact HF2.out
def rightE (x : Bt) : Bool := (decide (0 <= x.rg) && decide (x.rg <= 1099511627776)) && ((decide (0 <= x.at_) && decide (x.at_ <= 65535)) && (decide (0 <= x.sz) && decide (x.sz <= 65535)))
theorem eright_ok (x : Bt) (w : World) : Calls Tryz.prog 245 #[btV x] w (ValP (.bool (rightE x)) w) := by
 obtain ⟨w1, hw1⟩ : ∃ w1, w.alloc (.cells #[.int .u64 x.hash, .int .i64 x.rg, .int .i64 x.at_, .int .i64 x.sz] 118) = w1 := ⟨_, rfl⟩
 have b1 : w1.heap[w.heap.size]? = some (.cells #[.int .u64 x.hash, .int .i64 x.rg, .int .i64 x.at_, .int .i64 x.sz] 118) := by rw [<- hw1]; exact han _ _
 have HF := hid (show Fq w w1 by rw [<- hw1]; exact (Fr.refl _ _).alloc _);obtain ⟨t0, t1, t2, t3, tz, tl⟩ := cells4b b1;have HW := hid hw1;clear hw1 b1;obtain ⟨b0, hb0⟩ : ∃ b, (decide (0 <= x.rg) && decide (x.rg <= 1099511627776)) = b := ⟨_, rfl⟩
 obtain ⟨c0, hc0⟩ : ∃ b, (decide (0 <= x.at_) && decide (x.at_ <= 65535)) = b := ⟨_, rfl⟩
 obtain ⟨d0, hd0⟩ : ∃ b, (decide (0 <= x.sz) && decide (x.sz <= 65535)) = b := ⟨_, rfl⟩
 have HR := hid (show rightE x = (b0 && (c0 && d0)) by unfold rightE; rw [hb0, hc0, hd0]);have H1 := hid (show Calls Tryz.prog 241 #[.int .i64 x.rg, .int .i64 1099511627776] w1 (BoolP b0 w1) by rw [<- hb0]; exact within_b_ok _ _ _);have H2 := hid (show Calls Tryz.prog 241 #[.int .i64 x.at_, .int .i64 65535] w1 (BoolP c0 w1) by rw [<- hc0]; exact within_b_ok _ _ _);have H3 := hid (show Calls Tryz.prog 241 #[.int .i64 x.sz, .int .i64 65535] w1 (BoolP d0 w1) by rw [<- hd0]; exact within_b_ok _ _ _);clear hb0 hc0 hd0;go_enter Tryz.func245, Tryz.ntmps245;go_upto_region 1 with fail
 rw [HW.out];go_wp2_with fail
 refine H1.out.mono ?_;rintro e _ ⟨rfl, rfl⟩;cases b0 with
 | false =>
  go_wp2_with fail
  go_ret;exact ⟨by rw [HR.out]; rfl, HF.out⟩
 | true =>
  go_wp2_with fail
  refine H2.out.mono ?_;rintro e _ ⟨rfl, rfl⟩;cases c0 with
  | false =>
   go_wp2_with fail
   go_ret;exact ⟨by rw [HR.out]; rfl, HF.out⟩
  | true =>
   go_wp2_with fail
   refine H3.out.mono ?_;rintro e _ ⟨rfl, rfl⟩;go_wp2_with fail
   go_ret;exact ⟨by rw [HR.out]; cases d0 <;> rfl, HF.out⟩
variable {P : Program} {md : Region.Mode} {ops : Array Oper} {Q : Exit -> Act -> World -> Prop} {S : World -> Prop} {base i r : Nat} {p : Sg.Pl} {a : Act} {w : World} {v : Value}
theorem plan_skB (o : Oper) (ho : ops[i]? = some o) (hw : Region.wanted o (yielded ops a.tmps) = false) (h : wpPlan P md ops Q S p (a.put o.dst undef) w) : wpPlan P md ops Q S (.rd i p) a w :=
 ⟨undef, o, ho, .inr ⟨hw, rfl⟩, h⟩
theorem plan_op_sk (o : Oper) (ho : ops[i]? = some o) (hw : Region.wanted o (yielded ops a.tmps) = false) (hS : S w) (h : wpPlan P md ops Q S p (a.put o.dst undef) w) : wpPlan P md ops Q S (.op i p) a w := by
 show wpOp P ops Q i _ a w;unfold wpOp;simp only [ho, hw];exact ⟨hS, h⟩
def wrongE (d p : Nat) (x : Bt) : Bool := !rightE x || !decide (preM x.hash d = p)
theorem wrong1_ok {b3 d p : Nat} (hb : w.heap[b3]? = some (.cells #[.int .i64 d, .int .i64 p, v] 129)) (hd : d <= 20) (x : Bt) (hx : x.hash < 18446744073709551616) :
  Calls Tryz.prog 244 #[btV x, .pointer (some ⟨b3, 0, none⟩)] w (ValP (.bool (wrongE d p x)) w) := by
 obtain ⟨w1, hw1⟩ : ∃ w1, w.alloc (.cells #[.int .u64 x.hash, .int .i64 x.rg, .int .i64 x.at_, .int .i64 x.sz] 118) = w1 := ⟨_, rfl⟩
 have b1 : w1.heap[w.heap.size]? = some (.cells #[.int .u64 x.hash, .int .i64 x.rg, .int .i64 x.at_, .int .i64 x.sz] 118) := by rw [<- hw1]; exact han _ _
 have F1 : Fq w w1 := by rw [<- hw1]; exact (Fr.refl _ _).alloc _
 have HF := hid F1;have HC := hid (fun V (F : Fq w1 V) => show (V.cell? ⟨w.heap.size, 0, none⟩ = some (.int .u64 x.hash) /\ V.cell? ⟨w.heap.size, 1, none⟩ = some (.int .i64 x.rg) /\ V.cell? ⟨w.heap.size, 2, none⟩ = some (.int .i64 x.at_) /\ V.cell? ⟨w.heap.size, 3, none⟩ = some (.int .i64 x.sz)) /\ (V.cell? ⟨b3, 0, none⟩ = some (.int .i64 d) /\ V.cell? ⟨b3, 1, none⟩ = some (.int .i64 p)) by
  obtain ⟨t0, t1, t2, t3, tz, tl⟩ := cells4b (F.heap b1 (fun h => h));obtain ⟨c0, c1, c2, cz, cl⟩ := cells3 (F.heap (F1.heap hb (fun h => h)) (fun h => h));exact ⟨⟨t0, t1, t2, t3⟩, c0, c1⟩)
 obtain ⟨⟨t0, t1, t2, t3⟩, c0, c1⟩ := HC.out _ (Fr.refl _ _);have HP := hid (fun V => prefix_ok x.hash d hx hd V);obtain ⟨q, hq⟩ : ∃ q, preM x.hash d = q := ⟨_, rfl⟩
 obtain ⟨rb, hrb⟩ : ∃ b, rightE x = b := ⟨_, rfl⟩
 obtain ⟨qb, hqb⟩ : ∃ b, decide (q = p) = b := ⟨_, rfl⟩
 have HR := hid (show wrongE d p x = (!rb || !qb) by unfold wrongE; rw [hrb, hq, hqb]);have HRi := hid (fun V => show Calls Tryz.prog 245 #[btV x] V (ValP (.bool rb) V) by rw [<- hrb]; exact eright_ok x V);rw [hq] at HP;have HW := hid hw1;have FG : Fq w1 w1.drew := (Fr.refl _ _).drew;clear hw1 b1 F1 hb hq hrb;go_enter Tryz.func244, Tryz.ntmps244;go_upto_region 1 with fail
 rw [HW.out];cases rb with
 | false =>
  refine wp_region_noPanic ?_;refine region_plan (fun V => Fq w1 V) (.rd 0 (.op 1 (.rd 2 (.rd 3 (.rd 4 (.rd 5 (.rd 6 (.rd 7 (.rd 9 (.rd 10 (.op 8 (.rd 11 (.rd 12 (.rd 13 .done)))))))))))))) (by kernel_rfl) (by kernel_rfl) (by kernel_rfl) (fun _ _ _ _ _ h => h) FG ?_;try simp only [Act.put, sI, sZ, sS]
  refine plan_rd _ ?_ (by simp only [gA, gZ, gS]; rfl) (by rfl) ?_ ?_;rotate_left
  ·intro V hV;obtain ⟨⟨t0, t1, t2, t3⟩, c0, c1⟩ := HC.out V hV;go_simp;try with_reducible rfl
  try simp only [Act.put, sI, sZ, sS]
  refine plan_op _ (by simp only [gA, gZ, gS]; rfl) (by rfl) (fun K hK => ?_);go_simp;refine (HRi.out _).mono ?_;rintro _ V1 ⟨rfl, G1⟩;have FG := FG.trans G1 (fun _ _ h => h);try go_simp
  refine hK _ _ FG ?_;clear hK K;iterate 2
   try simp only [Act.put, sI, sZ, sS]
   refine plan_rd _ ?_ (by simp only [gA, gZ, gS]; rfl) (by rfl) ?_ ?_;rotate_left
   ·intro V hV;obtain ⟨⟨t0, t1, t2, t3⟩, c0, c1⟩ := HC.out V hV;go_simp;try with_reducible rfl
  iterate 6
   try simp only [Act.put, sI, sZ, sS]
   refine plan_skB _ (by simp only [gA, gZ, gS]; rfl) (by rfl) ?_
  try simp only [Act.put, sI, sZ, sS]
  refine plan_op_sk _ (by simp only [gA, gZ, gS]; rfl) (by rfl) FG ?_;try simp only [Act.put, sI, sZ, sS]
  refine plan_skB _ (by simp only [gA, gZ, gS]; rfl) (by rfl) ?_;iterate 2
   try simp only [Act.put, sI, sZ, sS]
   refine plan_rd _ ?_ (by simp only [gA, gZ, gS]; rfl) (by rfl) ?_ ?_;rotate_left
   ·intro V hV;obtain ⟨⟨t0, t1, t2, t3⟩, c0, c1⟩ := HC.out V hV;go_simp;try with_reducible rfl
  try simp only [Act.put, sI, sZ, sS]
  refine plan_done ?_;refine NoPanic.normal ?_;go_wp2_with fail
  go_ret;exact ⟨by rw [HR.out]; rfl, HF.out.trans FG (fun _ _ h => h)⟩
 | true =>
  refine wp_region_noPanic ?_;refine region_plan (fun V => Fq w1 V) (.rd 0 (.op 1 (.rd 2 (.rd 3 (.rd 4 (.rd 5 (.rd 6 (.rd 7 (.rd 9 (.rd 10 (.op 8 (.rd 11 (.rd 12 (.rd 13 .done)))))))))))))) (by kernel_rfl) (by kernel_rfl) (by kernel_rfl) (fun _ _ _ _ _ h => h) FG ?_;try simp only [Act.put, sI, sZ, sS]
  refine plan_rd _ ?_ (by simp only [gA, gZ, gS]; rfl) (by rfl) ?_ ?_;rotate_left
  ·intro V hV;obtain ⟨⟨t0, t1, t2, t3⟩, c0, c1⟩ := HC.out V hV;go_simp;try with_reducible rfl
  try simp only [Act.put, sI, sZ, sS]
  refine plan_op _ (by simp only [gA, gZ, gS]; rfl) (by rfl) (fun K hK => ?_);go_simp;refine (HRi.out _).mono ?_;rintro _ V1 ⟨rfl, G1⟩;have FG := FG.trans G1 (fun _ _ h => h);try go_simp
  refine hK _ _ FG ?_;clear hK K;iterate 8
   try simp only [Act.put, sI, sZ, sS]
   refine plan_rd _ ?_ (by simp only [gA, gZ, gS]; rfl) (by rfl) ?_ ?_;rotate_left
   ·intro V hV;obtain ⟨⟨t0, t1, t2, t3⟩, c0, c1⟩ := HC.out V hV;go_simp;try with_reducible rfl
  try simp only [Act.put, sI, sZ, sS]
  refine plan_op _ (by simp only [gA, gZ, gS]; rfl) (by rfl) (fun K hK => ?_);go_simp;refine (HP.out _).mono ?_;rintro _ _ ⟨rfl, rfl⟩;try go_simp
  refine hK _ _ FG ?_;clear hK K;iterate 3
   try simp only [Act.put, sI, sZ, sS]
   refine plan_rd _ ?_ (by simp only [gA, gZ, gS]; rfl) (by rfl) ?_ ?_;rotate_left
   ·intro V hV;obtain ⟨⟨t0, t1, t2, t3⟩, c0, c1⟩ := HC.out V hV;go_simp;try with_reducible rfl
  try simp only [Act.put, sI, sZ, sS]
  refine plan_done ?_;refine NoPanic.normal ?_;go_wp2_with fail
  go_ret;exact ⟨by rw [HR.out, <- hqb]; simp [bne]; rw [Bool.eq_iff_iff, beq_iff_eq, decide_eq_true_iff]; omega, HF.out.trans FG (fun _ _ h => h)⟩
def IdxB (f : Bt -> Bool) (es : List Bt) (w : World) (e : Ending) (w' : World) : Prop := ∃ z : Int, e = .returned (.int .i64 z) /\ decide (0 <= z) = es.any f /\ Fq w w'
variable {es : List Bt}
theorem indexE_ok (hE : OwnE w 0 v es) (hl : es.length <= 255) (cap : Addr) (f : Bt -> Bool) (hf : ∀ (x : Bt), x ∈ es -> ∀ (W : World), Fq w W -> Calls Tryz.prog 244 #[btV x, .pointer (some cap)] W (ValP (.bool (f x)) W)) :
  Calls Tryz.prog 274 #[v, .func (.func 244) #[] #[.pointer (some cap)]] w (IdxB f es w) := by
 obtain ⟨va, vc, rfl, -, -, -, -⟩ := oSl hE;obtain ⟨n, hn⟩ : ∃ n, es.length = n := ⟨_, rfl⟩
 have hn9 : n <= 255 := by omega
 have HE := hid hE;have HN := hid hn;have HC := hid hf;rw [hn];clear hE hn hl hf;go_enter Tryz.func274, Tryz.ntmps274;go_wp2_with fail
 go_loopw [8] (fun iv wr => ∃ k : Nat, k <= n /\ iv = .int .i64 k /\ (∀ x ∈ es.take k, f x = false) /\ Fq w wr) (fun iv _ => n - (intOf iv).toNat)
 case atStart => exact ⟨0, Nat.zero_le _, rfl, fun x hx => by simp at hx, Fr.refl _ _⟩
 case round =>
  obtain ⟨k, hk, rfl, hno, hF⟩ := hrel;have HNo := hid hno;clear hno;by_cases hlt : k < n
  ·have hd : decide (k < n) = true := by simp [hlt]
   have hki : (k : Int) < (n : Int) := by omega
   obtain ⟨x, hx⟩ : ∃ x, es[k]? = some x := ⟨_, gE (by rw [HN.out]; exact hlt)⟩
   obtain ⟨g, rfl, hg, u0, u1, u2, u3⟩ := ownE_at (oN HE.out hF) hx;have HCx := hid (HC.out x (gM hx) wr hF);have HX := hid hx;have HF := hid hF;clear hx hF;go_wp2_with fail
   refine HCx.out.mono ?_;rintro e W2 ⟨rfl, F2⟩;have HF2 := hid (HF.out.trans F2 (fun _ _ h => h));clear F2;cases hfx : f x with
   | true =>
    have HFX := hid hfx;clear hfx;go_wp2_with fail
    go_ret;refine ⟨(k : Int), rfl, ?_, HF2.out⟩;rw [show es.any f = true from List.any_eq_true.2 ⟨x, gM HX.out, HFX.out⟩];simp
   | false =>
    have HFX := hid hfx;clear hfx;go_wp2_with fail
    go_roundw;case rel =>
     refine ⟨k + 1, hlt, by go_num, fun y hy => ?_, HF2.out⟩;rw [List.take_add_one, HX.out] at hy;rcases List.mem_append.1 hy with hy | hy
     ·exact HNo.out y hy
     ·simp at hy; subst hy; exact HFX.out
    case measure => simp [intOf]; omega
  ·obtain rfl : k = n := by omega
   have hd : decide (k < k) = false := by simp
   have HF := hid hF;have hall : es.any f = false := by
    rw [Bool.eq_false_iff];intro h;obtain ⟨x, hx, h1⟩ := List.any_eq_true.1 h;have := HNo.out x (by rw [tL (by rw [HN.out]; exact nR _)]; exact hx);rw [h1] at this; cases this
   have HA := hid hall;clear hF hall;go_wp2_with fail
   go_ret;exact ⟨-1, rfl, by rw [HA.out]; rfl, HF.out⟩
theorem containsE_ok (hE : OwnE w 0 v es) (hl : es.length <= 255) (cap : Addr) (f : Bt -> Bool) (hf : ∀ (x : Bt), x ∈ es -> ∀ (W : World), Fq w W -> Calls Tryz.prog 244 #[btV x, .pointer (some cap)] W (ValP (.bool (f x)) W)) :
  Calls Tryz.prog 243 #[v, .func (.func 244) #[] #[.pointer (some cap)]] w (ValP (.bool (es.any f)) w) := by
 have HI := hid (indexE_ok hE hl cap f hf);clear hE hl hf;go_enter Tryz.func243, Tryz.ntmps243;go_wp2_with fail
 refine HI.out.mono ?_;rintro e w2 ⟨z, rfl, hz, F2⟩;obtain ⟨b, hb⟩ : ∃ b, es.any f = b := ⟨_, rfl⟩
 rw [hb] at hz;have HF2 := hid F2;have HBb := hid hb;clear F2 hb;go_wp2_with fail
 go_ret;exact ⟨by rw [HBb.out]; rfl, HF2.out⟩
def entB (x : Bt) : List Int := Sg.leB x.hash 8 ++ Sg.leB x.rg.toNat 8 ++ Sg.leB x.at_.toNat 2 ++ Sg.leB x.sz.toNat 2
def packM (d p : Nat) (es : List Bt) : List Int := Sg.leB d 1 ++ Sg.leB es.length 1 ++ Sg.leB p 8 ++ es.flatMap entB
theorem entB_len (x : Bt) : (entB x).length = 20 := by simp [entB, leB_length]
theorem ents_len (es : List Bt) : (es.flatMap entB).length = 20 * es.length := by
 induction es with
 | nil => rfl
 | cons x es ih => rw [List.flatMap_cons, lA, entB_len, ih, lC]; omega
theorem packM_len (d p : Nat) (es : List Bt) : (packM d p es).length = 10 + 20 * es.length := by
 simp only [packM, lA, leB_length, ents_len]
def PackP (d p : Nat) (es : List Bt) (w : World) (e : Ending) (w' : World) : Prop :=
 ∃ a c, e = .returned (.tuple #[.slice a (10 + 20 * es.length) c, .int .i64 0]) /\ ByV w' a (10 + 20 * es.length) c (packM d p es) /\ Fq w w'
def goodE (x : Bt) : Prop := x.hash < 18446744073709551616 /\ (0 <= x.rg /\ x.rg <= 1099511627776) /\ (0 <= x.at_ /\ x.at_ <= 65535) /\ (0 <= x.sz /\ x.sz <= 65535)
theorem wnum_q {limit : Nat} {bs : List Int} (h : WtAt w base r bs limit) (hbase : base <= w.heap.size) (n k : Nat) (hk : k = 1 \/ k = 2 \/ k = 4 \/ k = 8) (hn : n < 18446744073709551616) (hroom : bs.length + k <= limit) :
  Calls Tryz.prog 179 #[.pointer (some ⟨r, 0, none⟩), .int .u64 n, .int .i64 k] w fun e w' => e = .returned (.tuple #[]) /\ WtAt w' base r (bs ++ Sg.leB n k) limit /\ Fr (fun b => base <= b) w w' :=
 (wnum_ok2 h hbase n k hk hn hroom).mono fun e w' ⟨a, b, c⟩ => ⟨a, b, c.mono fun _ _ h => h.1⟩
theorem box_keep {w' : World} {g : Nat} {c : Array Value} (F : Fr (WtS w base r) w w') (hb : w.heap[g]? = some (.cells c 118)) (hne : g ≠ r) : w'.heap[g]? = some (.cells c 118) :=
 F.heap hb (fun h => by
  rcases h.2 with h | ⟨c', h⟩
  ·exact hne h
  ·rw [hb] at h; cases h)
theorem pack_ok (hE : OwnE w 0 v es) (hl : es.length <= 24) (hg : ∀ x ∈ es, goodE x) (d p sl : Nat) (hd : d <= 20) (hp : p < 1048576) (hsl : es.length <= sl) (hs9 : sl <= 255) (hR : ∀ W, Fq w W -> Calls Tryz.prog 190 #[bkV d p v, .int .i64 sl] W (ValP (.bool true) W)) :
  Calls Tryz.prog 188 #[bkV d p v, .int .i64 sl] w (PackP d p es w) := by
 obtain ⟨va, vc, rfl, -, -, -, -⟩ := oSl hE;obtain ⟨n, hn⟩ : ∃ n, es.length = n := ⟨_, rfl⟩
 obtain ⟨w1, hw1⟩ : ∃ w1, w.alloc (.cells #[.int .i64 d, .int .i64 p, .slice va n vc] 129) = w1 := ⟨_, rfl⟩
 have b1 : w1.heap[w.heap.size]? = some (.cells #[.int .i64 d, .int .i64 p, .slice va n vc] 129) := by rw [<- hw1]; exact han _ _
 have F1 : Fq w w1 := by rw [<- hw1]; exact (Fr.refl _ _).alloc _
 have HB := hid (fun W (F : Fq w1 W) => cells3 (F.heap b1 (fun h => h)));have HE := hid (fun W (F : Fq w1 W) => oN (oN hE F1) F);have HF1 := hid F1;have HN := hid hn;have hn24 : n <= 24 := by omega
 have hnsl : n <= sl := by omega
 have HG := hid hg;have HRt := hid (hR w1 F1);have HW := hid hw1;obtain ⟨x0, x1, x2, xz, xl⟩ := HB.out _ (Fr.refl _ _);rw [hn] at HRt ⊢;clear hE hl hg hsl hR hn hw1 b1 F1;go_enter Tryz.func188, Tryz.ntmps188;go_upto_region 1 with fail
 rw [HW.out];go_wp2_with fail
 refine HRt.out.mono ?_;rintro e w2 ⟨rfl, F2⟩;have HF2 := hid F2;clear F2 x0 x1 x2 xz xl;have hmul : wrap64 (20 * (sl : Int)) = ((20 * sl : Nat) : Int) := by simp only [wrap64]; omega
 have HNW := hid (newwriter_ok (10 + 20 * sl) (by omega) w2);have HNW' := hid (show Calls Tryz.prog 178 #[.int .i64 (10 + 20 * (sl : Int))] w2 _ by have := HNW.out; simpa using this);go_wp2_with fail
 refine HNW'.out.mono ?_;rintro e w3 ⟨rfl, hW3, F3⟩;obtain ⟨x0, x1, x2, xz, xl⟩ := HB.out _ (HF2.out.trans F3 (fun _ _ h => h));have HN1 := hid (wnum_q hW3 F3.size d 1 (by simp) (by omega) (by simp; omega));have HF3 := hid (HF2.out.trans F3 (fun _ _ h => h));have hs3 : w2.heap.size < w3.heap.size := by obtain ⟨⟨u, hr, _⟩, _⟩ := hW3; exact loh hr
 have hs12 := HF2.out.size;clear hW3 F3 HNW HNW';go_wp2_with fail
 refine HN1.out.mono ?_;rintro e w4 ⟨rfl, hW4, F4⟩;have F14 := HF3.out.trans F4 (fun b hb h => by omega);obtain ⟨x0, x1, x2, xz, xl⟩ := HB.out _ F14;have HN2 := hid (wnum_q hW4 (by have := F4.size; omega) n 1 (by simp) (by omega) (by simp [leB_length]; omega));have HF4 := hid F14;clear hW4 F4 F14 HN1;go_wp2_with fail
 refine HN2.out.mono ?_;rintro e w5 ⟨rfl, hW5, F5⟩;have F15 := HF4.out.trans F5 (fun b hb h => by omega);obtain ⟨x0, x1, x2, xz, xl⟩ := HB.out _ F15;have HN3 := hid (wnum_q hW5 (by have := F15.size; have := loh hW5.ex.choose_spec.1; omega) p 8 (by simp) (by omega) (by first | (simp [leB_length]; done) | (simp [leB_length]; omega)));have HF5 := hid F15;clear hW5 F5 F15 HN2;go_wp2_with fail
 refine HN3.out.mono ?_;rintro e w6 ⟨rfl, hW6, F6⟩;have F16 := HF5.out.trans F6 (fun b hb h => by omega);obtain ⟨x0, x1, x2, xz, xl⟩ := HB.out _ F16;have H6 := hi2 hW6 F16;clear hW6 F6 F16 HN3;go_wp2_with fail
 go_loopw [36] (fun iv wr => ∃ k : Nat, k <= n /\ iv = .int .i64 k /\ WtAt wr w2.heap.size w2.heap.size (Sg.leB d 1 ++ Sg.leB n 1 ++ Sg.leB p 8 ++ (es.take k).flatMap entB) (10 + 20 * sl) /\ Fq w1 wr) (fun iv _ => n - (intOf iv).toNat)
 case atStart => exact ⟨0, Nat.zero_le _, rfl, by simpa using H6.out.1, H6.out.2⟩
 case round =>
  obtain ⟨k, hk, rfl, hWr, hF⟩ := hrel;by_cases hlt : k < n
  ·have hdl : decide (k < n) = true := by simp [hlt]
   have hki : (k : Int) < (n : Int) := by omega
   obtain ⟨x, hx⟩ : ∃ x, es[k]? = some x := ⟨_, gE (by rw [HN.out]; exact hlt)⟩
   obtain ⟨g, rfl, hg, u0, u1, u2, u3⟩ := ownE_at (HE.out _ hF) hx;obtain ⟨g0, g1, g2, g3⟩ := HG.out x (gM hx);obtain ⟨xh, xr, xa, xs⟩ := x;simp only at u0 u1 u2 u3 g0 g1 g2 g3;obtain ⟨xr, rfl⟩ := iZ g1.1;obtain ⟨xa, rfl⟩ := iZ g2.1;obtain ⟨xs, rfl⟩ := iZ g3.1;have hu1 : IntKind.u64.wrap (xr : Int) = (xr : Int) := by simp [IntKind.wrap, IntKind.signed, IntKind.bits]; omega
   have hu2 : IntKind.u64.wrap (xa : Int) = (xa : Int) := by simp [IntKind.wrap, IntKind.signed, IntKind.bits]; omega
   have hu3 : IntKind.u64.wrap (xs : Int) = (xs : Int) := by simp [IntKind.wrap, IntKind.signed, IntKind.bits]; omega
   have hrg : xr <= 1099511627776 /\ xa <= 65535 /\ xs <= 65535 := by omega
   obtain ⟨W, hW⟩ : ∃ W, wr.alloc (.cells #[.int .u64 xh, .int .i64 xr, .int .i64 xa, .int .i64 xs] 118) = W := ⟨_, rfl⟩
   have bW : W.heap[wr.heap.size]? = some (.cells #[.int .u64 xh, .int .i64 xr, .int .i64 xa, .int .i64 xs] 118) := by rw [<- hW]; exact han _ _
   have FW : Fq wr W := by rw [<- hW]; exact (Fr.refl _ _).alloc _
   have hrs : w2.heap.size < wr.heap.size := by obtain ⟨⟨u, hr, _⟩, _⟩ := hWr; exact loh hr
   have hne : wr.heap.size ≠ w2.heap.size := by omega
   obtain ⟨pre, hpre⟩ : ∃ pre, Sg.leB d 1 ++ Sg.leB n 1 ++ Sg.leB p 8 ++ (es.take k).flatMap entB = pre := ⟨_, rfl⟩
   have hpl : pre.length = 10 + 20 * k := by
    rw [<- hpre];simp only [lA, leB_length, ents_len, lT, HN.out]; omega
   rw [hpre] at hWr;have hWW := hWr.fr FW (fun _ _ _ h => h);have HX := hid hx;have HPre := hi2 hpre hpl;have HFW := hid (hF.trans FW (fun _ _ h => h));have HW2 := hid hW;have HBW := hid bW;have HC1 := hid (wnum_ok2 hWW (by have := FW.size; omega) xh 8 (by simp) g0 (by omega));clear hx hpre hpl hWr hWW hF FW hW bW g1 g2 g3;go_upto_region 10 with fail
   rw [HW2.out];clear u0 u1 u2 u3;obtain ⟨t0, t1, t2, t3, tz, tl⟩ := cells4b HBW.out;go_wp2_with fail
   refine HC1.out.mono ?_;rintro e W3 ⟨rfl, hW3, F3⟩;have bW3 := box_keep F3 HBW.out hne;obtain ⟨t0, t1, t2, t3, tz, tl⟩ := cells4b bW3;have HC2 := hid (wnum_ok2 hW3 (by have := F3.size; omega) xr 8 (by simp) (by omega) (by rw [lA, HPre.out.2, leB_length]; omega));have HF3b := hid (HFW.out.trans F3 (fun b hb h => by have := h.1; omega));have HB3 := hid bW3;clear hW3 F3 bW3 HC1;go_wp2_with fail
   refine HC2.out.mono ?_;rintro e W4 ⟨rfl, hW4, F4⟩;have bW4 := box_keep F4 HB3.out hne;obtain ⟨t0, t1, t2, t3, tz, tl⟩ := cells4b bW4;have HC3 := hid (wnum_ok2 hW4 (by have := HF3b.out.size; have := F4.size; omega) xa 2 (by simp) (by omega) (by rw [lA, lA, HPre.out.2, leB_length, leB_length]; omega));have HF4b := hid (HF3b.out.trans F4 (fun b hb h => by have := h.1; omega));have HB4 := hid bW4;clear hW4 F4 bW4 HC2;go_wp2_with fail
   refine HC3.out.mono ?_;rintro e W5 ⟨rfl, hW5, F5⟩;have bW5 := box_keep F5 HB4.out hne;obtain ⟨t0, t1, t2, t3, tz, tl⟩ := cells4b bW5;have HC4 := hid (wnum_ok2 hW5 (by have := HF4b.out.size; have := F5.size; omega) xs 2 (by simp) (by omega) (by rw [lA, lA, lA, HPre.out.2, leB_length, leB_length, leB_length]; omega));have HF5b := hid (HF4b.out.trans F5 (fun b hb h => by have := h.1; omega));clear hW5 F5 bW5 HC3;go_wp2_with fail
   refine HC4.out.mono ?_;rintro e W6 ⟨rfl, hW6, F6⟩;have H6b := hi2 hW6 (HF5b.out.trans F6 (fun b hb h => by have := h.1; omega));clear hW6 F6 HC4;go_wp2_with fail
   go_roundw;case rel =>
    refine ⟨k + 1, hlt, by go_num, ?_, H6b.out.2⟩;have e1 : Sg.leB d 1 ++ Sg.leB n 1 ++ Sg.leB p 8 ++ (es.take (k + 1)).flatMap entB = pre ++ Sg.leB xh 8 ++ Sg.leB xr 8 ++ Sg.leB xa 2 ++ Sg.leB xs 2 := by
     rw [List.take_add_one, HX.out, <- HPre.out.1];simp [entB]
    rw [e1]; exact H6b.out.1
   case measure => simp [intOf]; omega
  ·obtain rfl : k = n := by omega
   have hdl : decide (k < k) = false := by simp
   rw [tL (by rw [HN.out]; exact nR _)] at hWr;have hlen : (Sg.leB d 1 ++ Sg.leB k 1 ++ Sg.leB p 8 ++ es.flatMap entB).length = 10 + 20 * k := by
    simp only [lA, leB_length, ents_len, HN.out]
   have HBy := hid (wbytes_ok hWr);rw [hlen] at HBy;have HF := hid hF;clear hWr hF hlen;go_wp2_with fail
   refine HBy.out.mono ?_;rintro e w7 ⟨a7, c7, rfl, ⟨hb7, -⟩, F7⟩;have H7 := hi2 hb7 F7;clear hb7 F7;go_wp2_with fail
   go_ret2;refine ⟨a7, c7, by rw [HN.out]; rfl, ?_, (HF1.out.trans HF.out (fun _ _ h => h)).trans H7.out.2 (fun _ _ h => h)⟩;unfold packM;rw [HN.out];exact H7.out.1
end
end Go.Proofs.YtgdhaaokolfdoaaGreatDoor
