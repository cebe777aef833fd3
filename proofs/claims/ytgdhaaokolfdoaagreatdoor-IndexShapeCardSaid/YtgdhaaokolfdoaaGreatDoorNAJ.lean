/- A pack of texts: SX, CN, FB. Conditions: those that each text names. -/
import Derived.Test.YtgdhaaokolfdoaaGreatDoorNAI
import Derived.Test.YtgdhaaokolfdoaaGreatDoorNAD
import Derived.WalkMore
import Derived.Test.YtgdhaaokolfdoaaGreatDoorNAB
set_option maxHeartbeats 16000000
set_option maxRecDepth 100000
set_option linter.all false
namespace Go.Proofs.YtgdhaaokolfdoaaGreatDoor
section
open Go.RowKit Go.Sg Go.Sg.Bits Go.Sg.Clk CP
namespace SF
end SF
end
section
open Go.RowKit Go.Sg Go.Sg.Bits Go.Sg.Clk CP SF
variable {w : World} {a : Bool} {N n : Nat} {bs : List Int}
theorem _root_.Go.Sg.ByV.inp {a : Option Addr} {c : Nat} (h : ByV w a n c bs) (B : Blk) : Inp w B a n c bs := by
 refine ⟨h.slb, fun b off e => ?_⟩;rcases h.at_ with ⟨h0, _⟩ | ⟨b', off', cs, h1, h2⟩
 ·rw [h0] at e; cases e
 ·rw [h1] at e; cases e;exact .inr (.inr (kd_cells h2))
variable {B : Blk}
theorem gen_lt {x : Sto} (h : StoreAt w B x) : x.gen < 9223372036854775808 := by have := h.rg.2.1; omega
theorem Apart.new {t : Nat -> Bool} {f y d : Int -> Bool} (h : Apart t f y d) (hn : t n = false) : Apart (upd t n true) (updI f n true) y d := by
 have hy : y n = false := by
  cases e : y n with
  | false => rfl
  | true => rw [h.yt n e] at hn; cases hn
 have hd : d n = false := by
  cases e : d n with
  | false => rfl
  | true => rw [h.et n e] at hn; cases hn
 refine ⟨fun k hk => ?_, fun k hk => ?_, fun k hk => ?_, fun k hk => ?_, h.ye⟩
 ·simp only [updI] at hk;simp only [upd];split
  ·rfl
  ·rename_i e;rw [if_neg (by omega)] at hk;exact h.ft k hk
 ·simp only [upd];split
  ·rfl
  ·exact h.yt k hk
 ·simp only [upd];split
  ·rfl
  ·exact h.et k hk
 ·simp only [updI] at hk;split at hk
  ·rename_i e; subst e; exact ⟨hy, hd⟩
  ·exact h.fy k hk
def NewC (B : Blk) (y : Cs) (P : Prot) (a : Bool) (N : Nat) (bs : List Int) (w : World) (e : Ending) (w' : World) : Prop :=
 ∃ n err, TakeIs y.taken y.pages y.hand n /\ e = .returned (.tuple #[refV err n y.gen, .int .i64 err]) /\ Went w' B y (y.new n bs) P a (N + 1) err /\ FrB B w w'
theorem new_plain {w w' : World} {B : Blk} {x : Sto} {c : Cont} {P : Prot} {a : Bool} {N : Nat} (hS : StoreAt w B x) (hi : Is w x c P a N) (hT : Tab w) (hb : 0 < B.base) {la : Option Addr} {ll lc : Nat} {bs : List Int} (hl : bs.length <= x.room) (hby : ∀ b ∈ bs, 0 <= b /\ b < 256) (hN : N + 1 <= 90000)
  {e : Ending} {n : Nat} {err : Int} {g : Option (Int × Pg)} {D : Dev} {p : Pg} (hn : TakeIs x.taken x.pages x.hand n) (hg : GoneOk x.mem x.places n g) (ho : OutR w' x g D err) (hS' : StoreAt w' B { tk x n with mem := putF x.mem n p g, dev := D })
  (hp : p.stamp = x.gen /\ p.dirty = true /\ ByV w' p.la p.ll p.lc bs) (F : FrB B w w') :
  ((err = 0 /\ Is w' { tk x n with mem := putF x.mem n p g, dev := D } (updC c n (some (x.gen, bs))) P a (N + 1)) \/ (err = 4 /\ a = true /\ D.down = true)) /\ (DevOk D P a (N + 1) /\ D.sectors = x.dev.sectors /\ D.size = x.dev.size) := by
 have hrg := hS.rg;have hgen := gen_lt hS;have hpn : P (x.first + n) = none := by
  cases hP : P (x.first + n) with
  | none => rfl
  | some v =>
   have := (hi.ptk n hn.1 (by rw [hP]; simp)).1;rw [hn.2.1] at this; cases this
 obtain ⟨h1, h2, h3⟩ := goes hi.holds hi.dev hi.down hg ho F ⟨hp.1, hp.2.2⟩ (n := n) (st := x.gen) ⟨by have := hn.1; omega, hgen, hl, hby⟩ ⟨hrg.2.2.2.2, hrg.2.2.2.1, hrg.2.2.1⟩ (fun _ => hpn) (fun hc => by rw [hp.2.1] at hc; cases hc);refine ⟨?_, h1⟩;rcases h2 with ⟨rfl, hD⟩ | ⟨rfl, ha, hD⟩
 ·refine .inl ⟨rfl, hD, h1.1, h3 _ rfl rfl rfl rfl rfl, fun k hk hP => ?_, hi.apart.new hn.2.1, hN⟩;obtain ⟨a1, a2⟩ := hi.ptk k hk hP;have hkn : k ≠ n := by rintro rfl; rw [hn.2.1] at a1; cases a1
  exact ⟨by show upd x.taken n true k = true; simp [upd, hkn, a1], by show updI x.fresh n true k = false; simp only [updI]; rw [if_neg (by omega)]; exact a2⟩
 ·exact .inr ⟨rfl, ha, hD⟩
variable {y : Cs} {P : Prot}
theorem new_c (h : StoreC w B y P a N) {la : Option Addr} {ll lc : Nat} (hin : Inp w B la ll lc bs) (hby : ∀ b ∈ bs, 0 <= b /\ b < 256) (hl : ll <= y.room) {j : Nat} (hj : j < y.pages) (hfree : y.taken j = false) (hN : N + 1 <= 90000) :
  Calls Tryz.prog 22 #[B.ptr, .slice la ll lc] w (NewC B y P a N bs w) := by
 obtain ⟨⟨x, c, hS, rfl, hi⟩, hT, hb⟩ := h;have hlen := hin.1.by_.len;refine (SF.new_ok hS hT hb hin hl hj hfree fun W p n hn hS' hF hp => keep_dev hS' ((hi.holds.frB hF).good : GoodMem W x) (hi.dev.up hi.down hi.few) n p hp).mono ?_;rintro e w' ⟨n, err, g, D, p, hn, he, hg, ho, hS', hp, F⟩;obtain ⟨h1, h2⟩ := new_plain hS hi hT hb (la := la) (ll := ll) (lc := lc) (e := e) (by rw [hlen]; exact hl) hby hN hn hg ho hS' hp F;refine ⟨n, err, hn, he, ?_, F⟩;rcases h1 with ⟨rfl, h1⟩ | ⟨rfl, ha, hD⟩
 ·refine .inl ⟨rfl, ⟨_, _, hS', ?_, h1⟩, hT.fr F (fun h => by omega), hb⟩;show Cs.new (x.cs c) n bs = _;simp [Cs.new, Sto.cs, tk, h2.2.1, h2.2.2]
 ·subst ha;exact .inr ⟨rfl, rfl, ⟨D, hS'.dev, h2.1, hD, h2.2.1, h2.2.2⟩⟩
def ReadC (B : Blk) (y : Cs) (P : Prot) (a : Bool) (N : Nat) (stamp : Nat) (st : Int) (load : List Int) (w : World) (e : Ending) (w' : World) : Prop :=
 ∃ err, Went w' B y y P a (N + 1) err /\ FrB B w w' /\ (err ≠ 0 -> e = .returned (.tuple #[.slice none 0 0, .int .i64 err])) /\ (err = 0 -> (stamp : Int) ≠ st -> e = .returned (.tuple #[.slice none 0 0, .int .i64 5])) /\
  (err = 0 -> (stamp : Int) = st -> ∃ la lc, e = .returned (.tuple #[.slice la load.length lc, .int .i64 0]) /\ ByV w' la load.length lc load)
theorem read_c (h : StoreC w B y P a N) (p : Nat) (st : Int) {stamp : Nat} {load : List Int} (hc : y.cont p = some (stamp, load)) (hN : N + 1 <= 90000) :
  Calls Tryz.prog 24 #[B.ptr, .agg #[.int .i64 p, .int .i64 st]] w (ReadC B y P a N stamp st load w) := by
 obtain ⟨⟨x, c, hS, rfl, hi⟩, hT, hb⟩ := h;obtain ⟨g1, g2, g3, g4⟩ := hi.holds.ok p stamp load hc;have hrg := hS.rg;have hsec := hS.dev.rg.1.2;cases hm : x.mem p with
 | some q =>
  obtain ⟨s0, b0, a1, a2, a3, _⟩ := hi.holds.mem p q hm;have hc' : c p = some (stamp, load) := hc;rw [hc'] at a1;cases a1;refine (read_hit hS p st g1.1 g1.2 hm a3).mono ?_;rintro e w' ⟨he, hS', F⟩;refine ⟨0, .inl ⟨rfl, ⟨x, c, hS', rfl, { hi with dev := hi.dev.mono (Nat.le_succ _), holds := hi.holds.frB F, few := hN }⟩, hT.fr F (fun h => by omega), hb⟩, F, fun h => absurd rfl h, fun _ hne => ?_, fun _ heq => ?_⟩
  ·rw [if_neg (by rw [a2]; exact hne)] at he; exact he
  ·rw [if_pos (by rw [a2]; exact heq)] at he; exact he
 | none =>
  refine (read_dev hS hi.holds.good (hi.dev.up hi.down hi.few) p stamp st load g1.2 hm hi.dev.len (by have := hi.holds.dev p stamp load hc hm; simpa using this) g4 (by omega) g2 (by omega) g3).mono ?_;rintro e w' ⟨err, g, D, la, lc, hg, ho, hbv, hS', F, e1, e2, e3⟩;obtain ⟨h1, h2, h3⟩ := goes hi.holds hi.dev hi.down hg ho F (p := ⟨stamp, la, load.length, lc, false⟩) (st := stamp) ⟨rfl, hbv⟩ ⟨g1, g2, g3, g4⟩ ⟨hrg.2.2.2.2, hrg.2.2.2.1, hrg.2.2.1⟩ (fun h => by cases h) (fun _ => by have := hi.holds.dev p stamp load hc hm; simpa using this);refine ⟨err, ?_, F, e1, e2, e3⟩;rcases h2 with ⟨rfl, hD⟩ | ⟨rfl, ha, hD⟩
  ·have ec : updC c p (some (stamp, load)) = c := by
    funext k
    simp only [updC];split
    ·rename_i e; rw [e]; exact hc.symm
    ·rfl
   have h3' := h3 { x with mem := putF x.mem p ⟨stamp, la, load.length, lc, false⟩ g, dev := D } rfl rfl rfl rfl rfl;rw [ec] at h3';refine .inl ⟨rfl, ⟨_, c, hS', ?_, hD, h1.1, h3', hi.ptk, hi.apart, hN⟩, hT.fr F (fun h => by omega), hb⟩;simp [Sto.cs, h1.2.1, h1.2.2]
  ·subst ha;exact .inr ⟨rfl, rfl, ⟨D, hS'.dev, h1.1, hD, h1.2.1, h1.2.2⟩⟩
end
end Go.Proofs.YtgdhaaokolfdoaaGreatDoor
namespace Go.Sg
def withinM (p : Plan8) : Bool := decide ((96 <= p.size /\ p.size <= 512) /\ (1 <= p.sectors /\ p.sectors <= 16384) /\ (3 <= p.regions /\ p.regions <= 64) /\ (1 <= p.rsectors /\ p.rsectors <= 32) /\ (4 <= p.log /\ p.log <= 256) /\ (0 <= p.depth /\ p.depth <= 8) /\ (8 <= p.memory /\ p.memory <= 256))
def okTo (p : Plan8) (k : Nat) : Prop := (0 < k -> 96 <= p.size /\ p.size <= 512) /\ (1 < k -> 1 <= p.sectors /\ p.sectors <= 16384) /\ (2 < k -> 3 <= p.regions /\ p.regions <= 64) /\ (3 < k -> 1 <= p.rsectors /\ p.rsectors <= 32) /\ (4 < k -> 4 <= p.log /\ p.log <= 256) /\ (5 < k -> 0 <= p.depth /\ p.depth <= 8) /\ (6 < k -> 8 <= p.memory /\ p.memory <= 256)
end Go.Sg
namespace Go.Proofs.YtgdhaaokolfdoaaGreatDoor
open Go.RowKit Go.Sg
theorem idx0 (p : Plan8) (w : World) : (Instr.index 327 (.agg (bndL p).toArray) (.int .i64 0)).run Tryz.prog w = .ok (.agg #[.int .i64 p.size, .int .i64 96, .int .i64 512]) w := by kernel_rfl
theorem idx1 (p : Plan8) (w : World) : (Instr.index 327 (.agg (bndL p).toArray) (.int .i64 1)).run Tryz.prog w = .ok (.agg #[.int .i64 p.sectors, .int .i64 1, .int .i64 16384]) w := by kernel_rfl
theorem idx2 (p : Plan8) (w : World) : (Instr.index 327 (.agg (bndL p).toArray) (.int .i64 2)).run Tryz.prog w = .ok (.agg #[.int .i64 p.regions, .int .i64 3, .int .i64 64]) w := by kernel_rfl
theorem idx3 (p : Plan8) (w : World) : (Instr.index 327 (.agg (bndL p).toArray) (.int .i64 3)).run Tryz.prog w = .ok (.agg #[.int .i64 p.rsectors, .int .i64 1, .int .i64 32]) w := by kernel_rfl
theorem idx4 (p : Plan8) (w : World) : (Instr.index 327 (.agg (bndL p).toArray) (.int .i64 4)).run Tryz.prog w = .ok (.agg #[.int .i64 p.log, .int .i64 4, .int .i64 256]) w := by kernel_rfl
theorem idx5 (p : Plan8) (w : World) : (Instr.index 327 (.agg (bndL p).toArray) (.int .i64 5)).run Tryz.prog w = .ok (.agg #[.int .i64 p.depth, .int .i64 0, .int .i64 8]) w := by kernel_rfl
theorem idx6 (p : Plan8) (w : World) : (Instr.index 327 (.agg (bndL p).toArray) (.int .i64 6)).run Tryz.prog w = .ok (.agg #[.int .i64 p.memory, .int .i64 8, .int .i64 256]) w := by kernel_rfl
theorem within_ok (p : Plan8) (w : World) : Calls Tryz.prog 158 #[p.val] w fun e w' => e = .returned (.bool (withinM p)) /\ Fq w w' := by
 have HB := hid (fun W => bounds_ok p W);obtain ⟨V, hV⟩ : ∃ V, (Value.agg (bndL p).toArray) = V := ⟨_, rfl⟩
 have i0 := idx0 p;have i1 := idx1 p;have i2 := idx2 p;have i3 := idx3 p;have i4 := idx4 p;have i5 := idx5 p;have i6 := idx6 p;rw [hV] at i0 i1 i2 i3 i4 i5 i6;simp only [hV] at HB;obtain ⟨a, b, c, d, f, g, h, s⟩ := p;clear hV;go_enter Tryz.func158, Tryz.ntmps158;go_wp2
 go_step3
 go_wp2
 go_step3
 go_wp2_with fail
 refine (HB.out _).mono ?_;rintro e w1 ⟨rfl, F1⟩;have G1 := hid (((Fr.refl (fun _ => False) w).alloc _).trans F1 (fun _ _ h => h));clear F1;go_wp2
 go_loopw [3, 8] (fun r i wr => ∃ k : Nat, k <= 7 /\ i = .int .i64 k /\ r = .bool true /\ okTo ⟨a, b, c, d, f, g, h, s⟩ k /\ Fq w wr) (fun _ i _ => 7 - (Go.RowKit.intOf i).toNat)
 case atStart => exact ⟨0, by omega, rfl, rfl, by simp [okTo], G1.out⟩
 case round =>
  obtain ⟨k, hk, rfl, rfl, hok, hF⟩ := hrel;have HOK := hid hok;have HF := hid hF;clear hok hF;rcases (show k = 0 \/ k = 1 \/ k = 2 \/ k = 3 \/ k = 4 \/ k = 5 \/ k = 6 \/ k = 7 by omega) with rfl | rfl | rfl | rfl | rfl | rfl | rfl | rfl
  ·have ho := HOK.out;simp only [okTo] at ho;have HO := hid ho;clear ho;go_wp2
   ·rw [Exit.noGoto_ret];go_ret;exact ⟨by rw [show withinM ⟨a, b, c, d, f, g, h, s⟩ = false from decide_eq_false (by simp only; omega)]; rfl, HF.out.alloc _⟩
   ·rw [Exit.noGoto_ret];go_ret;exact ⟨by rw [show withinM ⟨a, b, c, d, f, g, h, s⟩ = false from decide_eq_false (by simp only; omega)]; rfl, HF.out.alloc _⟩
   ·go_roundw;case rel =>
     have ho := HO.out;exact ⟨1, by omega, rfl, rfl, by simp only [okTo]; omega, HF.out.alloc _⟩
    case measure => simp [Go.RowKit.intOf]
  ·have ho := HOK.out;simp only [okTo] at ho;have HO := hid ho;clear ho;go_wp2
   ·rw [Exit.noGoto_ret];go_ret;exact ⟨by rw [show withinM ⟨a, b, c, d, f, g, h, s⟩ = false from decide_eq_false (by simp only; omega)]; rfl, HF.out.alloc _⟩
   ·rw [Exit.noGoto_ret];go_ret;exact ⟨by rw [show withinM ⟨a, b, c, d, f, g, h, s⟩ = false from decide_eq_false (by simp only; omega)]; rfl, HF.out.alloc _⟩
   ·go_roundw;case rel =>
     have ho := HO.out;exact ⟨2, by omega, rfl, rfl, by simp only [okTo]; omega, HF.out.alloc _⟩
    case measure => simp [Go.RowKit.intOf]
  ·have ho := HOK.out;simp only [okTo] at ho;have HO := hid ho;clear ho;go_wp2
   ·rw [Exit.noGoto_ret];go_ret;exact ⟨by rw [show withinM ⟨a, b, c, d, f, g, h, s⟩ = false from decide_eq_false (by simp only; omega)]; rfl, HF.out.alloc _⟩
   ·rw [Exit.noGoto_ret];go_ret;exact ⟨by rw [show withinM ⟨a, b, c, d, f, g, h, s⟩ = false from decide_eq_false (by simp only; omega)]; rfl, HF.out.alloc _⟩
   ·go_roundw;case rel =>
     have ho := HO.out;exact ⟨3, by omega, rfl, rfl, by simp only [okTo]; omega, HF.out.alloc _⟩
    case measure => simp [Go.RowKit.intOf]
  ·have ho := HOK.out;simp only [okTo] at ho;have HO := hid ho;clear ho;go_wp2
   ·rw [Exit.noGoto_ret];go_ret;exact ⟨by rw [show withinM ⟨a, b, c, d, f, g, h, s⟩ = false from decide_eq_false (by simp only; omega)]; rfl, HF.out.alloc _⟩
   ·rw [Exit.noGoto_ret];go_ret;exact ⟨by rw [show withinM ⟨a, b, c, d, f, g, h, s⟩ = false from decide_eq_false (by simp only; omega)]; rfl, HF.out.alloc _⟩
   ·go_roundw;case rel =>
     have ho := HO.out;exact ⟨4, by omega, rfl, rfl, by simp only [okTo]; omega, HF.out.alloc _⟩
    case measure => simp [Go.RowKit.intOf]
  ·have ho := HOK.out;simp only [okTo] at ho;have HO := hid ho;clear ho;go_wp2
   ·rw [Exit.noGoto_ret];go_ret;exact ⟨by rw [show withinM ⟨a, b, c, d, f, g, h, s⟩ = false from decide_eq_false (by simp only; omega)]; rfl, HF.out.alloc _⟩
   ·rw [Exit.noGoto_ret];go_ret;exact ⟨by rw [show withinM ⟨a, b, c, d, f, g, h, s⟩ = false from decide_eq_false (by simp only; omega)]; rfl, HF.out.alloc _⟩
   ·go_roundw;case rel =>
     have ho := HO.out;exact ⟨5, by omega, rfl, rfl, by simp only [okTo]; omega, HF.out.alloc _⟩
    case measure => simp [Go.RowKit.intOf]
  ·have ho := HOK.out;simp only [okTo] at ho;have HO := hid ho;clear ho;go_wp2
   ·rw [Exit.noGoto_ret];go_ret;exact ⟨by rw [show withinM ⟨a, b, c, d, f, g, h, s⟩ = false from decide_eq_false (by simp only; omega)]; rfl, HF.out.alloc _⟩
   ·rw [Exit.noGoto_ret];go_ret;exact ⟨by rw [show withinM ⟨a, b, c, d, f, g, h, s⟩ = false from decide_eq_false (by simp only; omega)]; rfl, HF.out.alloc _⟩
   ·go_roundw;case rel =>
     have ho := HO.out;exact ⟨6, by omega, rfl, rfl, by simp only [okTo]; omega, HF.out.alloc _⟩
    case measure => simp [Go.RowKit.intOf]
  ·have ho := HOK.out;simp only [okTo] at ho;have HO := hid ho;clear ho;go_wp2
   ·rw [Exit.noGoto_ret];go_ret;exact ⟨by rw [show withinM ⟨a, b, c, d, f, g, h, s⟩ = false from decide_eq_false (by simp only; omega)]; rfl, HF.out.alloc _⟩
   ·rw [Exit.noGoto_ret];go_ret;exact ⟨by rw [show withinM ⟨a, b, c, d, f, g, h, s⟩ = false from decide_eq_false (by simp only; omega)]; rfl, HF.out.alloc _⟩
   ·go_roundw;case rel =>
     have ho := HO.out;exact ⟨7, by omega, rfl, rfl, by simp only [okTo]; omega, HF.out.alloc _⟩
    case measure => simp [Go.RowKit.intOf]
  ·have ho := HOK.out;simp only [okTo] at ho;have HO := hid ho;clear ho;go_wp2
   rw [Exit.noGoto_ret];go_ret;have ho := HO.out;exact ⟨by rw [show withinM ⟨a, b, c, d, f, g, h, s⟩ = true from decide_eq_true (by simp only; omega)]; rfl, HF.out⟩
end Go.Proofs.YtgdhaaokolfdoaaGreatDoor
namespace Go.Sg
structure Lay where
 region : Int
 page : Int
 pages : Int
 per : Int
 slots : Int
 tree : Int
 rroom : Int
abbrev Lay.val (x : Lay) : Value := .agg #[.int .i64 2, .int .i64 x.region, .int .i64 x.page, .int .i64 x.pages, .int .i64 x.per, .int .i64 x.slots, .int .i64 x.tree, .int .i64 x.rroom]
abbrev layZ : Value := .agg #[.int .i64 0, .int .i64 0, .int .i64 0, .int .i64 0, .int .i64 0, .int .i64 0, .int .i64 0, .int .i64 0]
def layM (p : Plan8) : Lay :=
 let room := p.size - 19
 let per := room / 12
 let region := 2 + p.log
 let page := region + p.regions * p.rsectors
 let many : Int := 2 ^ p.depth.toNat
 ⟨region, page, p.sectors - page, per, (room - 10) / 20, 1 + (many + per - 1) / per + many, p.rsectors * room⟩
def fitsM (p : Plan8) : Bool := withinM p && decide ((2 : Int) ^ p.depth.toNat <= (layM p).per * (layM p).per /\ 3 * (layM p).tree + 4 <= (layM p).pages)
end Go.Sg
namespace Go.Proofs.YtgdhaaokolfdoaaGreatDoor
open Go.RowKit Go.Sg
theorem fit_out (p : Plan8) (h : withinM p = false) (w : World) : Calls Tryz.prog 91 #[p.val] w fun e w' => e = .returned (.tuple #[layZ, .int .i64 12]) /\ Fq w w' := by
 obtain ⟨a, b, c, d, f, g, hh, s⟩ := p;have HB := hid (fun W => within_ok ⟨a, b, c, d, f, g, hh, s⟩ W);rw [h] at HB;clear h;obtain ⟨w1, hw1⟩ : ∃ w1, (w.alloc (.cells #[.int .i64 a, .int .i64 b, .int .i64 c, .int .i64 d, .int .i64 f, .int .i64 g, .int .i64 hh, .int .u64 s] 31)).alloc (.cells #[.int .i64 0, .int .i64 0, .int .i64 0, .int .i64 0, .int .i64 0, .int .i64 0, .int .i64 0, .int .i64 0] 169) = w1 := ⟨_, rfl⟩
 obtain ⟨b0, b1, F1⟩ := heap_two hw1;have HW := hid hw1;have HF1 := hid F1;have HB1 := hid b1;clear hw1 b0 b1 F1;go_enter Tryz.func91, Tryz.ntmps91;go_wp2_with fail
 rw [HW.out];refine (HB.out _).mono ?_;rintro e w2 ⟨rfl, F2⟩;have b2 := F2.heap HB1.out (fun h => h);have k0 := coh b2 0;have k1 := coh b2 1;have k2 := coh b2 2;have k3 := coh b2 3;have k4 := coh b2 4;have k5 := coh b2 5;have k6 := coh b2 6;have k7 := coh b2 7;have kz : ∀ o, w2.frozen? ⟨w.heap.size + 1, o, none⟩ = false := fun o => foh b2 o
 simp at k0 k1 k2 k3 k4 k5 k6 k7;have HF2 := hid F2;clear F2 b2;go_wp2
 refine bodyPost_ret (v := .tuple #[layZ, .int .i64 12]) (by simp [results, go_sem, *]) rfl ⟨rfl, ?_⟩;repeat (with_reducible refine Fr.setNew ?_ (by omega) _)
 exact HF1.out.trans HF2.out (fun _ _ h => h)
theorem mul_bd {a b A B : Int} (h1 : 0 <= a) (h2 : a <= A) (h3 : 0 <= b) (h4 : b <= B) : 0 <= a * b /\ a * b <= A * B :=
 ⟨Int.mul_nonneg h1 h3, Int.mul_le_mul h2 h4 h3 (by omega)⟩
def FitPost (b : Bool) (x : Lay) (w : World) (e : Ending) (w' : World) : Prop := e = .returned (if b = true then .tuple #[x.val, .int .i64 0] else .tuple #[layZ, .int .i64 12]) /\ Fq w w'
theorem fit_one (a b c d f g hh s many : Int) (hb : 96 <= b /\ b <= 512) (ha : 1 <= a /\ a <= 16384) (hc : 3 <= c /\ c <= 64) (hd : 1 <= d /\ d <= 32) (hf : 4 <= f /\ f <= 256) (hg : 0 <= g /\ g <= 8) (hh8 : 8 <= hh /\ hh <= 256)
  (hm : ∀ w, (Op.shift BinOp.shl IntKind.i64 1 IntKind.i64 g).run Tryz.prog w = .ok (.int .i64 many) w) (hm2 : 1 <= many /\ many <= 256) (hw : withinM ⟨a, b, c, d, f, g, hh, s⟩ = true)
  (x : Lay) (hx : x = ⟨2 + f, 2 + f + c * d, a - (2 + f + c * d), (b - 19) / 12, (b - 19 - 10) / 20, 1 + (many + (b - 19) / 12 - 1) / ((b - 19) / 12) + many, d * (b - 19)⟩) (w : World) :
  Calls Tryz.prog 91 #[(Plan8.mk a b c d f g hh s).val] w (FitPost (decide (many <= (b - 19) / 12 * ((b - 19) / 12) /\ 3 * x.tree + 4 <= x.pages)) x w) := by
 have HB := hid (fun W => within_ok ⟨a, b, c, d, f, g, hh, s⟩ W);rw [hw] at HB;obtain ⟨m0, m1⟩ := mul_bd (show 0 <= c by omega) hc.2 (show 0 <= d by omega) hd.2;obtain ⟨r0, r1⟩ := mul_bd (show 0 <= d by omega) hd.2 (show 0 <= b - 19 by omega) (show b - 19 <= 493 by omega);have q0 : 6 <= (b - 19) / 12 := by omega
 have q1 : (b - 19) / 12 <= 41 := by omega
 obtain ⟨p0, p1⟩ := mul_bd (show 0 <= (b - 19) / 12 by omega) q1 (show 0 <= (b - 19) / 12 by omega) q1;have u0 : 0 <= (many + (b - 19) / 12 - 1) / ((b - 19) / 12) := Int.ediv_nonneg (by omega) (by omega);have u1 : (many + (b - 19) / 12 - 1) / ((b - 19) / 12) <= 300 := Int.le_trans (Int.ediv_le_self _ (by omega)) (by omega);obtain ⟨w1, hw1⟩ : ∃ w1, (w.alloc (.cells #[.int .i64 a, .int .i64 b, .int .i64 c, .int .i64 d, .int .i64 f, .int .i64 g, .int .i64 hh, .int .u64 s] 31)).alloc (.cells #[.int .i64 0, .int .i64 0, .int .i64 0, .int .i64 0, .int .i64 0, .int .i64 0, .int .i64 0, .int .i64 0] 169) = w1 := ⟨_, rfl⟩
 obtain ⟨b0, b1, F1⟩ := heap_two hw1;have HW := hid hw1;have HF1 := hid F1;have HB01 := hi2 b0 b1;have HX := hid hx;have hb1 := hb.1;have hb2 := hb.2;have ha1 := ha.1;have ha2 := ha.2;have hc1 := hc.1;have hc2 := hc.2;have hd1 := hd.1;have hd2 := hd.2;have hf1 := hf.1;have hf2 := hf.2;have hm21 := hm2.1;have hm22 := hm2.2;clear hw1 b0 b1 F1 hx hw hb ha hc hd hf hg hh8 hm2;go_enter Tryz.func91, Tryz.ntmps91;go_wp2_with fail
 rw [HW.out];refine (HB.out _).mono ?_;rintro e w2 ⟨rfl, F2⟩;have b2 := F2.heap HB01.out.2 (fun h => h);have a2 := F2.heap HB01.out.1 (fun h => h);have l2 := loh b2;have l3 : w.heap.size < w2.heap.size := by omega
 have l4 : ¬ w2.heap.size = w.heap.size := by omega
 have l5 : ¬ w2.heap.size = w.heap.size + 1 := by omega
 have k0 := coh b2 0;have k1 := coh b2 1;have k2 := coh b2 2;have k3 := coh b2 3;have k4 := coh b2 4;have k5 := coh b2 5;have k6 := coh b2 6;have k7 := coh b2 7;have kz : ∀ o, w2.frozen? ⟨w.heap.size + 1, o, none⟩ = false := fun o => foh b2 o
 have j0 := coh a2 0;have j1 := coh a2 1;have j2 := coh a2 2;have j3 := coh a2 3;have j4 := coh a2 4;have j5 := coh a2 5;simp at k0 k1 k2 k3 k4 k5 k6 k7 j0 j1 j2 j3 j4 j5;have HF2 := hid F2;clear F2 b2 a2;go_wp2_with fail
 refine (room_ok b hb1 hb2 _).mono ?_;rintro e w3 ⟨rfl, rfl⟩;have FF := hid (HF1.out.trans HF2.out (fun _ _ h => h));by_cases h1 : many <= (b - 19) / 12 * ((b - 19) / 12)
 ·by_cases h2 : 3 * (1 + (many + (b - 19) / 12 - 1) / ((b - 19) / 12) + many) + 4 <= a - (2 + f + c * d)
  ·have HE := hi2 h1 h2;go_wp2
   refine bodyPost_ret (v := .tuple #[.agg #[.int .i64 2, .int .i64 (2 + f), .int .i64 (2 + f + c * d), .int .i64 (a - (2 + f + c * d)), .int .i64 ((b - 19) / 12), .int .i64 ((b - 19 - 10) / 20), .int .i64 (1 + (many + (b - 19) / 12 - 1) / ((b - 19) / 12) + many), .int .i64 (d * (b - 19))], .int .i64 0]) (by simp [results, go_sem, *]) rfl ⟨?_, ?_⟩
   ·rw [HX.out, if_pos (decide_eq_true HE.out)]
   ·repeat (first | (with_reducible refine Fr.setNew ?_ (by omega) _) | (with_reducible refine Fr.alloc ?_ _))
    exact FF.out
  ·have HE := hid h2;have h2' : a - (2 + f + c * d) < 3 * (1 + (many + (b - 19) / 12 - 1) / ((b - 19) / 12) + many) + 4 := by omega
   clear h2;go_wp2
   all_goals (try (exfalso; omega))
   all_goals
    refine bodyPost_ret (v := .tuple #[layZ, .int .i64 12]) (by simp [results, go_sem, *]) rfl ⟨?_, ?_⟩
    ·rw [HX.out, if_neg (fun h => Int.not_le.2 HE.out (of_decide_eq_true h).2)]
    ·repeat (first | (with_reducible refine Fr.setNew ?_ (by omega) _) | (with_reducible refine Fr.alloc ?_ _))
     exact FF.out
 ·have HE := hid h1;have h1' : (b - 19) / 12 * ((b - 19) / 12) < many := by omega
  clear h1;go_wp2
  all_goals (try (exfalso; omega))
  all_goals
   refine bodyPost_ret (v := .tuple #[layZ, .int .i64 12]) (by simp [results, go_sem, *]) rfl ⟨?_, ?_⟩
   ·rw [HX.out, if_neg (fun h => Int.not_le.2 HE.out (of_decide_eq_true h).1)]
   ·repeat (first | (with_reducible refine Fr.setNew ?_ (by omega) _) | (with_reducible refine Fr.alloc ?_ _))
    exact FF.out
theorem shl0 (w : World) : (Op.shift BinOp.shl IntKind.i64 1 IntKind.i64 0).run Tryz.prog w = .ok (.int .i64 1) w := by kernel_rfl
theorem shl1 (w : World) : (Op.shift BinOp.shl IntKind.i64 1 IntKind.i64 1).run Tryz.prog w = .ok (.int .i64 2) w := by kernel_rfl
theorem shl2 (w : World) : (Op.shift BinOp.shl IntKind.i64 1 IntKind.i64 2).run Tryz.prog w = .ok (.int .i64 4) w := by kernel_rfl
theorem shl3 (w : World) : (Op.shift BinOp.shl IntKind.i64 1 IntKind.i64 3).run Tryz.prog w = .ok (.int .i64 8) w := by kernel_rfl
theorem shl4 (w : World) : (Op.shift BinOp.shl IntKind.i64 1 IntKind.i64 4).run Tryz.prog w = .ok (.int .i64 16) w := by kernel_rfl
theorem shl5 (w : World) : (Op.shift BinOp.shl IntKind.i64 1 IntKind.i64 5).run Tryz.prog w = .ok (.int .i64 32) w := by kernel_rfl
theorem shl6 (w : World) : (Op.shift BinOp.shl IntKind.i64 1 IntKind.i64 6).run Tryz.prog w = .ok (.int .i64 64) w := by kernel_rfl
theorem shl7 (w : World) : (Op.shift BinOp.shl IntKind.i64 1 IntKind.i64 7).run Tryz.prog w = .ok (.int .i64 128) w := by kernel_rfl
theorem shl8 (w : World) : (Op.shift BinOp.shl IntKind.i64 1 IntKind.i64 8).run Tryz.prog w = .ok (.int .i64 256) w := by kernel_rfl
theorem fit_ok (p : Plan8) (w : World) : Calls Tryz.prog 91 #[p.val] w (FitPost (fitsM p) (layM p) w) := by
 cases hw : withinM p with
 | false =>
  have e : fitsM p = false := by rw [fitsM, hw]; rfl
  rw [e];exact (fit_out p hw w).mono fun e w' ⟨h1, h2⟩ => ⟨by rw [h1]; rfl, h2⟩
 | true =>
  have e : fitsM p = decide ((2 : Int) ^ p.depth.toNat <= (layM p).per * (layM p).per /\ 3 * (layM p).tree + 4 <= (layM p).pages) := by rw [fitsM, hw]; rfl
  rw [e];have hb := of_decide_eq_true hw;obtain ⟨a, b, c, d, f, g, hh, s⟩ := p;simp only at hb;obtain ⟨h1, h2, h3, h4, h5, h6, h7⟩ := hb;have hs : ∃ many : Int, (∀ w, (Op.shift BinOp.shl IntKind.i64 1 IntKind.i64 g).run Tryz.prog w = .ok (.int .i64 many) w) /\ (1 <= many /\ many <= 256) /\ (2 : Int) ^ g.toNat = many := by
   rcases (show g = 0 \/ g = 1 \/ g = 2 \/ g = 3 \/ g = 4 \/ g = 5 \/ g = 6 \/ g = 7 \/ g = 8 by omega) with rfl | rfl | rfl | rfl | rfl | rfl | rfl | rfl | rfl
   ·exact ⟨1, shl0, by omega, rfl⟩
   ·exact ⟨2, shl1, by omega, rfl⟩
   ·exact ⟨4, shl2, by omega, rfl⟩
   ·exact ⟨8, shl3, by omega, rfl⟩
   ·exact ⟨16, shl4, by omega, rfl⟩
   ·exact ⟨32, shl5, by omega, rfl⟩
   ·exact ⟨64, shl6, by omega, rfl⟩
   ·exact ⟨128, shl7, by omega, rfl⟩
   ·exact ⟨256, shl8, by omega, rfl⟩
  obtain ⟨many, hm, hm2, he⟩ := hs;have := fit_one a b c d f g hh s many h1 h2 h3 h4 h5 h6 h7 hm hm2 hw (layM ⟨a, b, c, d, f, g, hh, s⟩) (by simp only [layM, he]) w;simp only [he];exact this
end Go.Proofs.YtgdhaaokolfdoaaGreatDoor
