/- A pack of texts: SX, CN, FB. Conditions: those that each text names. -/
import Derived.Test.YtgdhaaokolfdoaaGreatDoorJAQ
import Derived.Test.YtgdhaaokolfdoaaGreatDoorJAR
import Derived.Test.YtgdhaaokolfdoaaGreatDoorJAH
import Derived.WalkMore
set_option linter.unusedVariables false
set_option linter.unusedSimpArgs false
set_option linter.unnecessarySimpa false
namespace Go.Proofs.YtgdhaaokolfdoaaGreatDoor
open Go.RowKit Go.Sg Go.Sg.Bits Go.Sg.Clk CP
namespace SF
end SF
end Go.Proofs.YtgdhaaokolfdoaaGreatDoor

namespace Go.Proofs.YtgdhaaokolfdoaaGreatDoor
open Go.RowKit Go.Sg Go.Sg.Bits Go.Sg.Clk CP SF
theorem _root_.Go.Sg.ByV.inp {w : World} {a : Option Addr} {n c : Nat} {bs : List Int} (h : ByV w a n c bs) (B : Blk) : Inp w B a n c bs := by
  refine ⟨h.slb, fun b off e => ?_⟩
  rcases h.at_ with ⟨h0, _⟩ | ⟨b', off', cs, h1, h2⟩
  · rw [h0] at e; cases e
  · rw [h1] at e; cases e
    exact .inr (.inr (kd_cells h2))
theorem gen_lt {w : World} {B : Blk} {x : Sto} (h : StoreAt w B x) : x.gen < 9223372036854775808 := by have := h.rg.2.1; omega
theorem Apart.new {t : Nat → Bool} {f y d : Int → Bool} (h : Apart t f y d) {n : Nat} (hn : t n = false) : Apart (upd t n true) (updI f n true) y d := by
  have hy : y n = false := by
    cases e : y n with
    | false => rfl
    | true => rw [h.yt n e] at hn; cases hn
  have hd : d n = false := by
    cases e : d n with
    | false => rfl
    | true => rw [h.et n e] at hn; cases hn
  refine ⟨fun k hk => ?_, fun k hk => ?_, fun k hk => ?_, fun k hk => ?_, h.ye⟩
  · simp only [updI] at hk
    simp only [upd]
    split
    · rfl
    · rename_i e
      rw [if_neg (by omega)] at hk
      exact h.ft k hk
  · simp only [upd]
    split
    · rfl
    · exact h.yt k hk
  · simp only [upd]
    split
    · rfl
    · exact h.et k hk
  · simp only [updI] at hk
    split at hk
    · rename_i e; subst e; exact ⟨hy, hd⟩
    · exact h.fy k hk
def NewC (B : Blk) (y : Cs) (P : Prot) (a : Bool) (N : Nat) (bs : List Int) (w : World) (e : Ending) (w' : World) : Prop :=
  ∃ n err, TakeIs y.taken y.pages y.hand n ∧ e = .returned (.tuple #[refV err n y.gen, .int .i64 err]) ∧ Went w' B y (y.new n bs) P a (N + 1) err ∧ FrB B w w'
theorem new_plain {w w' : World} {B : Blk} {x : Sto} {c : Cont} {P : Prot} {a : Bool} {N : Nat} (hS : StoreAt w B x) (hi : Is w x c P a N) (hT : Tab w) (hb : 0 < B.base) {la : Option Addr} {ll lc : Nat} {bs : List Int} (hl : bs.length ≤ x.room) (hby : ∀ b ∈ bs, 0 ≤ b ∧ b < 256) (hN : N + 1 ≤ 90000)
    {e : Ending} {n : Nat} {err : Int} {g : Option (Int × Pg)} {D : Dev} {p : Pg} (hn : TakeIs x.taken x.pages x.hand n) (hg : GoneOk x.mem x.places n g) (ho : OutR w' x g D err) (hS' : StoreAt w' B { tk x n with mem := putF x.mem n p g, dev := D })
    (hp : p.stamp = x.gen ∧ p.dirty = true ∧ ByV w' p.la p.ll p.lc bs) (F : FrB B w w') :
    ((err = 0 ∧ Is w' { tk x n with mem := putF x.mem n p g, dev := D } (updC c n (some (x.gen, bs))) P a (N + 1)) ∨ (err = 4 ∧ a = true ∧ D.down = true)) ∧ (DevOk D P a (N + 1) ∧ D.sectors = x.dev.sectors ∧ D.size = x.dev.size) := by
  have hrg := hS.rg
  have hgen := gen_lt hS
  have hpn : P (x.first + n) = none := by
    cases hP : P (x.first + n) with
    | none => rfl
    | some v =>
      have := (hi.ptk n hn.1 (by rw [hP]; simp)).1
      rw [hn.2.1] at this; cases this
  obtain ⟨h1, h2, h3⟩ := goes hi.holds hi.dev hi.down hg ho F ⟨hp.1, hp.2.2⟩ (n := n) (st := x.gen) ⟨by have := hn.1; omega, hgen, hl, hby⟩ ⟨hrg.2.2.2.2, hrg.2.2.2.1, hrg.2.2.1⟩ (fun _ => hpn) (fun hc => by rw [hp.2.1] at hc; cases hc)
  refine ⟨?_, h1⟩
  rcases h2 with ⟨rfl, hD⟩ | ⟨rfl, ha, hD⟩
  · refine .inl ⟨rfl, hD, h1.1, h3 _ rfl rfl rfl rfl rfl, fun k hk hP => ?_, hi.apart.new hn.2.1, hN⟩
    obtain ⟨a1, a2⟩ := hi.ptk k hk hP
    have hkn : k ≠ n := by rintro rfl; rw [hn.2.1] at a1; cases a1
    exact ⟨by show upd x.taken n true k = true; simp [upd, hkn, a1], by show updI x.fresh n true k = false; simp only [updI]; rw [if_neg (by omega)]; exact a2⟩
  · exact .inr ⟨rfl, ha, hD⟩
theorem new_c {w : World} {B : Blk} {y : Cs} {P : Prot} {a : Bool} {N : Nat} (h : StoreC w B y P a N) {la : Option Addr} {ll lc : Nat} {bs : List Int} (hin : Inp w B la ll lc bs) (hby : ∀ b ∈ bs, 0 ≤ b ∧ b < 256) (hl : ll ≤ y.room) {j : Nat} (hj : j < y.pages) (hfree : y.taken j = false) (hN : N + 1 ≤ 90000) :
    Calls Tryz.prog 22 #[B.ptr, .slice la ll lc] w (NewC B y P a N bs w) := by
  obtain ⟨⟨x, c, hS, rfl, hi⟩, hT, hb⟩ := h
  have hlen := hin.1.by_.len
  refine (SF.new_ok hS hT hb hin hl hj hfree fun W p n hn hS' hF hp => keep_dev hS' ((hi.holds.frB hF).good : GoodMem W x) (hi.dev.up hi.down hi.few) n p hp).mono ?_
  rintro e w' ⟨n, err, g, D, p, hn, he, hg, ho, hS', hp, F⟩
  obtain ⟨h1, h2⟩ := new_plain hS hi hT hb (la := la) (ll := ll) (lc := lc) (e := e) (by rw [hlen]; exact hl) hby hN hn hg ho hS' hp F
  refine ⟨n, err, hn, he, ?_, F⟩
  rcases h1 with ⟨rfl, h1⟩ | ⟨rfl, ha, hD⟩
  · refine .inl ⟨rfl, ⟨_, _, hS', ?_, h1⟩, hT.fr F (fun h => by omega), hb⟩
    show Cs.new (x.cs c) n bs = _
    simp [Cs.new, Sto.cs, tk, h2.2.1, h2.2.2]
  · subst ha
    exact .inr ⟨rfl, rfl, ⟨D, hS'.dev, h2.1, hD, h2.2.1, h2.2.2⟩⟩
def ReadC (B : Blk) (y : Cs) (P : Prot) (a : Bool) (N : Nat) (stamp : Nat) (st : Int) (load : List Int) (w : World) (e : Ending) (w' : World) : Prop :=
  ∃ err, Went w' B y y P a (N + 1) err ∧ FrB B w w' ∧ (err ≠ 0 → e = .returned (.tuple #[.slice none 0 0, .int .i64 err])) ∧ (err = 0 → (stamp : Int) ≠ st → e = .returned (.tuple #[.slice none 0 0, .int .i64 5])) ∧
    (err = 0 → (stamp : Int) = st → ∃ la lc, e = .returned (.tuple #[.slice la load.length lc, .int .i64 0]) ∧ ByV w' la load.length lc load)
theorem read_c {w : World} {B : Blk} {y : Cs} {P : Prot} {a : Bool} {N : Nat} (h : StoreC w B y P a N) (p : Nat) (st : Int) {stamp : Nat} {load : List Int} (hc : y.cont p = some (stamp, load)) (hN : N + 1 ≤ 90000) :
    Calls Tryz.prog 24 #[B.ptr, .agg #[.int .i64 p, .int .i64 st]] w (ReadC B y P a N stamp st load w) := by
  obtain ⟨⟨x, c, hS, rfl, hi⟩, hT, hb⟩ := h
  obtain ⟨g1, g2, g3, g4⟩ := hi.holds.ok p stamp load hc
  have hrg := hS.rg
  have hsec := hS.dev.rg.1.2
  cases hm : x.mem p with
  | some q =>
    obtain ⟨s0, b0, a1, a2, a3, _⟩ := hi.holds.mem p q hm
    have hc' : c p = some (stamp, load) := hc
    rw [hc'] at a1
    cases a1
    refine (read_hit hS p st g1.1 g1.2 hm a3).mono ?_
    rintro e w' ⟨he, hS', F⟩
    refine ⟨0, .inl ⟨rfl, ⟨x, c, hS', rfl, { hi with dev := hi.dev.mono (Nat.le_succ _), holds := hi.holds.frB F, few := hN }⟩, hT.fr F (fun h => by omega), hb⟩, F, fun h => absurd rfl h, fun _ hne => ?_, fun _ heq => ?_⟩
    · rw [if_neg (by rw [a2]; exact hne)] at he; exact he
    · rw [if_pos (by rw [a2]; exact heq)] at he; exact he
  | none =>
    refine (read_dev hS hi.holds.good (hi.dev.up hi.down hi.few) p stamp st load g1.2 hm hi.dev.len (by have := hi.holds.dev p stamp load hc hm; simpa using this) g4 (by omega) g2 (by omega) g3).mono ?_
    rintro e w' ⟨err, g, D, la, lc, hg, ho, hbv, hS', F, e1, e2, e3⟩
    obtain ⟨h1, h2, h3⟩ := goes hi.holds hi.dev hi.down hg ho F (p := ⟨stamp, la, load.length, lc, false⟩) (st := stamp) ⟨rfl, hbv⟩ ⟨g1, g2, g3, g4⟩ ⟨hrg.2.2.2.2, hrg.2.2.2.1, hrg.2.2.1⟩ (fun h => by cases h) (fun _ => by have := hi.holds.dev p stamp load hc hm; simpa using this)
    refine ⟨err, ?_, F, e1, e2, e3⟩
    rcases h2 with ⟨rfl, hD⟩ | ⟨rfl, ha, hD⟩
    · have ec : updC c p (some (stamp, load)) = c := by
        funext k
        simp only [updC]
        split
        · rename_i e; rw [e]; exact hc.symm
        · rfl
      have h3' := h3 { x with mem := putF x.mem p ⟨stamp, la, load.length, lc, false⟩ g, dev := D } rfl rfl rfl rfl rfl
      rw [ec] at h3'
      refine .inl ⟨rfl, ⟨_, c, hS', ?_, hD, h1.1, h3', hi.ptk, hi.apart, hN⟩, hT.fr F (fun h => by omega), hb⟩
      simp [Sto.cs, h1.2.1, h1.2.2]
    · subst ha
      exact .inr ⟨rfl, rfl, ⟨D, hS'.dev, h1.1, hD, h1.2.1, h1.2.2⟩⟩
end Go.Proofs.YtgdhaaokolfdoaaGreatDoor

namespace Go.Sg
def withinM (p : Plan8) : Bool := decide ((96 ≤ p.size ∧ p.size ≤ 512) ∧ (1 ≤ p.sectors ∧ p.sectors ≤ 16384) ∧ (3 ≤ p.regions ∧ p.regions ≤ 64) ∧ (1 ≤ p.rsectors ∧ p.rsectors ≤ 32) ∧ (4 ≤ p.log ∧ p.log ≤ 256) ∧ (0 ≤ p.depth ∧ p.depth ≤ 8) ∧ (8 ≤ p.memory ∧ p.memory ≤ 256))
def okTo (p : Plan8) (k : Nat) : Prop := (0 < k → 96 ≤ p.size ∧ p.size ≤ 512) ∧ (1 < k → 1 ≤ p.sectors ∧ p.sectors ≤ 16384) ∧ (2 < k → 3 ≤ p.regions ∧ p.regions ≤ 64) ∧ (3 < k → 1 ≤ p.rsectors ∧ p.rsectors ≤ 32) ∧ (4 < k → 4 ≤ p.log ∧ p.log ≤ 256) ∧ (5 < k → 0 ≤ p.depth ∧ p.depth ≤ 8) ∧ (6 < k → 8 ≤ p.memory ∧ p.memory ≤ 256)
end Go.Sg
namespace Go.Proofs.YtgdhaaokolfdoaaGreatDoor
open Go.RowKit Go.Sg
theorem idx0 (p : Plan8) (w : World) : (Instr.index 327 (.agg (bndL p).toArray) (.int .i64 0)).run Tryz.prog w = .ok (.agg #[.int .i64 p.size, .int .i64 96, .int .i64 512]) w := by kernel_rfl
theorem idx1 (p : Plan8) (w : World) : (Instr.index 327 (.agg (bndL p).toArray) (.int .i64 1)).run Tryz.prog w = .ok (.agg #[.int .i64 p.sectors, .int .i64 1, .int .i64 16384]) w := by kernel_rfl
theorem idx2 (p : Plan8) (w : World) : (Instr.index 327 (.agg (bndL p).toArray) (.int .i64 2)).run Tryz.prog w = .ok (.agg #[.int .i64 p.regions, .int .i64 3, .int .i64 64]) w := by kernel_rfl
theorem idx3 (p : Plan8) (w : World) : (Instr.index 327 (.agg (bndL p).toArray) (.int .i64 3)).run Tryz.prog w = .ok (.agg #[.int .i64 p.rsectors, .int .i64 1, .int .i64 32]) w := by kernel_rfl
theorem idx4 (p : Plan8) (w : World) : (Instr.index 327 (.agg (bndL p).toArray) (.int .i64 4)).run Tryz.prog w = .ok (.agg #[.int .i64 p.log, .int .i64 4, .int .i64 256]) w := by kernel_rfl
theorem idx5 (p : Plan8) (w : World) : (Instr.index 327 (.agg (bndL p).toArray) (.int .i64 5)).run Tryz.prog w = .ok (.agg #[.int .i64 p.depth, .int .i64 0, .int .i64 8]) w := by kernel_rfl
theorem idx6 (p : Plan8) (w : World) : (Instr.index 327 (.agg (bndL p).toArray) (.int .i64 6)).run Tryz.prog w = .ok (.agg #[.int .i64 p.memory, .int .i64 8, .int .i64 256]) w := by kernel_rfl
set_option maxRecDepth 100000 in
set_option maxHeartbeats 4000000 in
theorem within_ok (p : Plan8) (w : World) : Calls Tryz.prog 158 #[p.val] w fun e w' => e = .returned (.bool (withinM p)) ∧ Fr (fun _ => False) w w' := by
  have HB := hid (fun W => bounds_ok p W)
  obtain ⟨V, hV⟩ : ∃ V, (Value.agg (bndL p).toArray) = V := ⟨_, rfl⟩
  have i0 := idx0 p
  have i1 := idx1 p
  have i2 := idx2 p
  have i3 := idx3 p
  have i4 := idx4 p
  have i5 := idx5 p
  have i6 := idx6 p
  rw [hV] at i0 i1 i2 i3 i4 i5 i6
  simp only [hV] at HB
  obtain ⟨a, b, c, d, f, g, h, s⟩ := p
  clear hV
  go_enter Tryz.func158, Tryz.ntmps158
  go_wp2
  go_step3
  go_wp2
  go_step3
  go_wp2_with fail
  refine (HB.out _).mono ?_
  rintro e w1 ⟨rfl, F1⟩
  have G1 := hid (((Fr.refl (fun _ => False) w).alloc _).trans F1 (fun _ _ h => h))
  clear F1
  go_wp2
  go_loopw [3, 8] (fun r i wr => ∃ k : Nat, k ≤ 7 ∧ i = .int .i64 k ∧ r = .bool true ∧ okTo ⟨a, b, c, d, f, g, h, s⟩ k ∧ Fr (fun _ => False) w wr) (fun _ i _ => 7 - (Go.RowKit.intOf i).toNat)
  case atStart => exact ⟨0, by omega, rfl, rfl, by simp [okTo], G1.out⟩
  case round =>
    obtain ⟨k, hk, rfl, rfl, hok, hF⟩ := hrel
    have HOK := hid hok
    have HF := hid hF
    clear hok hF
    rcases (show k = 0 ∨ k = 1 ∨ k = 2 ∨ k = 3 ∨ k = 4 ∨ k = 5 ∨ k = 6 ∨ k = 7 by omega) with rfl | rfl | rfl | rfl | rfl | rfl | rfl | rfl
    · have ho := HOK.out
      simp only [okTo] at ho
      have HO := hid ho
      clear ho
      go_wp2
      · rw [Exit.noGoto_ret]
        go_ret
        exact ⟨by rw [show withinM ⟨a, b, c, d, f, g, h, s⟩ = false from decide_eq_false (by simp only; omega)]; rfl, HF.out.alloc _⟩
      · rw [Exit.noGoto_ret]
        go_ret
        exact ⟨by rw [show withinM ⟨a, b, c, d, f, g, h, s⟩ = false from decide_eq_false (by simp only; omega)]; rfl, HF.out.alloc _⟩
      · go_roundw
        case rel =>
          have ho := HO.out
          exact ⟨1, by omega, rfl, rfl, by simp only [okTo]; omega, HF.out.alloc _⟩
        case measure => simp [Go.RowKit.intOf]
    · have ho := HOK.out
      simp only [okTo] at ho
      have HO := hid ho
      clear ho
      go_wp2
      · rw [Exit.noGoto_ret]
        go_ret
        exact ⟨by rw [show withinM ⟨a, b, c, d, f, g, h, s⟩ = false from decide_eq_false (by simp only; omega)]; rfl, HF.out.alloc _⟩
      · rw [Exit.noGoto_ret]
        go_ret
        exact ⟨by rw [show withinM ⟨a, b, c, d, f, g, h, s⟩ = false from decide_eq_false (by simp only; omega)]; rfl, HF.out.alloc _⟩
      · go_roundw
        case rel =>
          have ho := HO.out
          exact ⟨2, by omega, rfl, rfl, by simp only [okTo]; omega, HF.out.alloc _⟩
        case measure => simp [Go.RowKit.intOf]
    · have ho := HOK.out
      simp only [okTo] at ho
      have HO := hid ho
      clear ho
      go_wp2
      · rw [Exit.noGoto_ret]
        go_ret
        exact ⟨by rw [show withinM ⟨a, b, c, d, f, g, h, s⟩ = false from decide_eq_false (by simp only; omega)]; rfl, HF.out.alloc _⟩
      · rw [Exit.noGoto_ret]
        go_ret
        exact ⟨by rw [show withinM ⟨a, b, c, d, f, g, h, s⟩ = false from decide_eq_false (by simp only; omega)]; rfl, HF.out.alloc _⟩
      · go_roundw
        case rel =>
          have ho := HO.out
          exact ⟨3, by omega, rfl, rfl, by simp only [okTo]; omega, HF.out.alloc _⟩
        case measure => simp [Go.RowKit.intOf]
    · have ho := HOK.out
      simp only [okTo] at ho
      have HO := hid ho
      clear ho
      go_wp2
      · rw [Exit.noGoto_ret]
        go_ret
        exact ⟨by rw [show withinM ⟨a, b, c, d, f, g, h, s⟩ = false from decide_eq_false (by simp only; omega)]; rfl, HF.out.alloc _⟩
      · rw [Exit.noGoto_ret]
        go_ret
        exact ⟨by rw [show withinM ⟨a, b, c, d, f, g, h, s⟩ = false from decide_eq_false (by simp only; omega)]; rfl, HF.out.alloc _⟩
      · go_roundw
        case rel =>
          have ho := HO.out
          exact ⟨4, by omega, rfl, rfl, by simp only [okTo]; omega, HF.out.alloc _⟩
        case measure => simp [Go.RowKit.intOf]
    · have ho := HOK.out
      simp only [okTo] at ho
      have HO := hid ho
      clear ho
      go_wp2
      · rw [Exit.noGoto_ret]
        go_ret
        exact ⟨by rw [show withinM ⟨a, b, c, d, f, g, h, s⟩ = false from decide_eq_false (by simp only; omega)]; rfl, HF.out.alloc _⟩
      · rw [Exit.noGoto_ret]
        go_ret
        exact ⟨by rw [show withinM ⟨a, b, c, d, f, g, h, s⟩ = false from decide_eq_false (by simp only; omega)]; rfl, HF.out.alloc _⟩
      · go_roundw
        case rel =>
          have ho := HO.out
          exact ⟨5, by omega, rfl, rfl, by simp only [okTo]; omega, HF.out.alloc _⟩
        case measure => simp [Go.RowKit.intOf]
    · have ho := HOK.out
      simp only [okTo] at ho
      have HO := hid ho
      clear ho
      go_wp2
      · rw [Exit.noGoto_ret]
        go_ret
        exact ⟨by rw [show withinM ⟨a, b, c, d, f, g, h, s⟩ = false from decide_eq_false (by simp only; omega)]; rfl, HF.out.alloc _⟩
      · rw [Exit.noGoto_ret]
        go_ret
        exact ⟨by rw [show withinM ⟨a, b, c, d, f, g, h, s⟩ = false from decide_eq_false (by simp only; omega)]; rfl, HF.out.alloc _⟩
      · go_roundw
        case rel =>
          have ho := HO.out
          exact ⟨6, by omega, rfl, rfl, by simp only [okTo]; omega, HF.out.alloc _⟩
        case measure => simp [Go.RowKit.intOf]
    · have ho := HOK.out
      simp only [okTo] at ho
      have HO := hid ho
      clear ho
      go_wp2
      · rw [Exit.noGoto_ret]
        go_ret
        exact ⟨by rw [show withinM ⟨a, b, c, d, f, g, h, s⟩ = false from decide_eq_false (by simp only; omega)]; rfl, HF.out.alloc _⟩
      · rw [Exit.noGoto_ret]
        go_ret
        exact ⟨by rw [show withinM ⟨a, b, c, d, f, g, h, s⟩ = false from decide_eq_false (by simp only; omega)]; rfl, HF.out.alloc _⟩
      · go_roundw
        case rel =>
          have ho := HO.out
          exact ⟨7, by omega, rfl, rfl, by simp only [okTo]; omega, HF.out.alloc _⟩
        case measure => simp [Go.RowKit.intOf]
    · have ho := HOK.out
      simp only [okTo] at ho
      have HO := hid ho
      clear ho
      go_wp2
      rw [Exit.noGoto_ret]
      go_ret
      have ho := HO.out
      exact ⟨by rw [show withinM ⟨a, b, c, d, f, g, h, s⟩ = true from decide_eq_true (by simp only; omega)]; rfl, HF.out⟩
end Go.Proofs.YtgdhaaokolfdoaaGreatDoor
