/- A pack of texts: PB. Conditions: those that each text names. -/
import Derived.Test.YtgdhaaokolfdoaaGreatDoorLAK
import Derived.Deep.RegionWith
import Derived.Test.YtgdhaaokolfdoaaGreatDoorLAH
import Derived.Laws.BytesArg
import Derived.Test.YtgdhaaokolfdoaaGreatDoorLAJ
import Derived.Test.YtgdhaaokolfdoaaGreatDoorLAA
import Derived.RangeFuncNested
import Derived.RangeFuncRecord
set_option linter.unusedVariables false
set_option linter.unusedSimpArgs false
set_option linter.unnecessarySimpa false
namespace Go.Proofs.YtgdhaaokolfdoaaGreatDoor
open Go.RowKit Go.Sg Go.Sg.Bits Go.Sg.Clk CP
namespace SF
end SF
end Go.Proofs.YtgdhaaokolfdoaaGreatDoor
namespace Go.Proofs.YtgdhaaokolfdoaaGreatDoor
open Go.RowKit Go.Sg Go.Sg.Bits Go.Sg.Clk CP SF
theorem dev_fresh {w w' : World} {s z : Nat} (hs : 1 ≤ s ∧ s ≤ 16384) (hz : 96 ≤ z ∧ z ≤ 512) (h1 : w'.heap[w.heap.size]? = some (.map #[] 0)) (h2 : w'.heap[w.heap.size + 1]? = some (.map #[] 0))
    (h3 : w'.heap[w.heap.size + 1 + 1]? = some (.cells #[.int .i64 s, .int .i64 z, .map (some w.heap.size), .slice none 0 0, .map (some (w.heap.size + 1)), .int .i64 0, .int .i64 0, .bool false] 151)) :
    DevAt w' w.heap.size (w.heap.size + 2) w.heap.size (w.heap.size + 1) (Dev.fresh s z) := by
  refine ⟨⟨_, h3, [], World.ownsRow_nil _ _ _ _, rfl, fun i x y hx _ => by simp at hx⟩, ⟨[], 0, h1, by simp [keys], fun k => trivial⟩, ⟨[], 0, h2, by simp [keys], (fun e he => by cases he), (fun e he => by cases he)⟩, by omega, by omega, hs, hz⟩
theorem flashnew_ok (s z : Nat) (hs : 1 ≤ s ∧ s ≤ 16384) (hz : 96 ≤ z ∧ z ≤ 512) (w : World) :
    Calls Tryz.prog 20 #[.int .i64 s, .int .i64 z] w fun e w' => e = .returned (.pointer (some ⟨w.heap.size + 2, 0, none⟩)) ∧ DevAt w' w.heap.size (w.heap.size + 2) w.heap.size (w.heap.size + 1) (Dev.fresh s z) ∧ Fr (fun _ => False) w w' :=
  (newdev_ok s z (by omega) (by omega) (by omega) (by omega) w).mono fun e w' ⟨he, h1, h2, h3, hF⟩ => ⟨he, dev_fresh hs hz h1 h2 h3, hF⟩
theorem format_ok {w : World} {base d bf bq : Nat} {D : Dev} (h : DevAt w base d bf bq D) (hb : base ≤ w.heap.size) (c dd f dp hh s : Int) (hfit : fitsM ⟨D.sectors, D.size, c, dd, f, dp, hh, s⟩ = true) :
    Calls Tryz.prog 19 #[.pointer (some ⟨d, 0, none⟩), (Plan8.mk D.sectors D.size c dd f dp hh s).val] w (OpenPost base d bf bq ⟨D.sectors, D.size, c, dd, f, dp, hh, s⟩ 0 D w) := by
  obtain ⟨w1, hw1⟩ : ∃ w1, w.alloc (.cells #[.int .i64 D.sectors, .int .i64 D.size, .int .i64 c, .int .i64 dd, .int .i64 f, .int .i64 dp, .int .i64 hh, .int .u64 s] 31) = w1 := ⟨_, rfl⟩
  have F1 : Fr (fun _ => False) w w1 := by rw [← hw1]; exact (Fr.refl _ _).alloc _
  have H := hid (open_ok (h.fr F1 (fun h => h) (fun h => h) (fun h => h) (fun _ _ _ _ _ h => h)) (Nat.le_trans hb F1.size) c dd f dp hh s 0 (by omega) hfit)
  have HW := hid hw1
  have HF1 := hid F1
  clear h hw1 F1 hfit
  go_enter Tryz.func19, Tryz.ntmps19
  go_wp2_with fail
  rw [HW.out]
  refine H.out.mono ?_
  rintro e w2 ⟨B, hB, rfl, hS, F2⟩
  have HS := hid (And.intro hB (And.intro hS F2))
  clear hB hS F2
  go_wp2
  go_ret2
  exact ⟨B, HS.out.1, rfl, HS.out.2.1, HF1.out.trans HS.out.2.2 (fun _ _ h => h)⟩
end Go.Proofs.YtgdhaaokolfdoaaGreatDoor

namespace Go.Proofs.YtgdhaaokolfdoaaGreatDoor
open Go.RowKit Go.Sg Go.Sg.Bits Go.Sg.Clk CP SF
def WFreshC (B : Blk) (y : Cs) (P : Prot) (a : Bool) (N : Nat) (n : Nat) (bs : List Int) (w : World) (e : Ending) (w' : World) : Prop :=
  ∃ err, e = .returned (.tuple #[.agg #[.int .i64 n, .int .i64 y.gen], .int .i64 err]) ∧ Went w' B y { y with cont := updC y.cont n (some (y.gen, bs)) } P a (N + 1) err ∧ FrB B w w'
theorem wfresh_c {w : World} {B : Blk} {y : Cs} {P : Prot} {a : Bool} {N : Nat} (h : StoreC w B y P a N) (n : Nat) (st : Int) {la : Option Addr} {ll lc : Nat} {bs : List Int} (hin : Inp w B la ll lc bs) (hby : ∀ b ∈ bs, 0 ≤ b ∧ b < 256) (hl : ll ≤ y.room)
    (hp : n < y.pages) (ht : y.taken n = true) (hf : y.fresh n = true) (hN : N + 1 ≤ 90000) :
    Calls Tryz.prog 26 #[B.ptr, .agg #[.int .i64 n, .int .i64 st], .slice la ll lc] w (WFreshC B y P a N n bs w) := by
  obtain ⟨⟨x, c, hS, rfl, hi⟩, hT, hb⟩ := h
  have hlen := hin.1.by_.len
  have hrg := hS.rg
  have hgen := gen_lt hS
  have hpn : P (x.first + n) = none := by
    cases hP : P (x.first + n) with
    | none => rfl
    | some v =>
      have h2 := (hi.ptk n hp (by rw [hP]; simp)).2
      have hf' : x.fresh n = true := hf
      rw [hf'] at h2; cases h2
  refine (write_fresh hS n st hin hl hp ht hf fun W p hS' hF hp => keep_dev hS' (hi.holds.frB hF).good (hi.dev.up hi.down hi.few) n p hp).mono ?_
  rintro e w' ⟨err, g, D, p, he, hg, ho, hS', hpp, F⟩
  obtain ⟨h1, h2, h3⟩ := goes hi.holds hi.dev hi.down hg ho F ⟨hpp.1, hpp.2.2⟩ (n := n) (st := x.gen) ⟨by have : n < x.pages := hp; omega, hgen, by rw [hlen]; exact hl, hby⟩ ⟨hrg.2.2.2.2, hrg.2.2.2.1, hrg.2.2.1⟩ (fun _ => hpn) (fun hc => by rw [hpp.2.1] at hc; cases hc)
  refine ⟨err, he, ?_, F⟩
  rcases h2 with ⟨rfl, hD⟩ | ⟨rfl, ha, hD⟩
  · refine .inl ⟨rfl, ⟨_, _, hS', ?_, ⟨hD, h1.1, h3 _ rfl rfl rfl rfl rfl, hi.ptk, hi.apart, hN⟩⟩, hT.fr F (fun h => by omega), hb⟩
    simp [Sto.cs, h1.2.1, h1.2.2]
  · subst ha
    exact .inr ⟨rfl, rfl, ⟨D, hS'.dev, h1.1, hD, h1.2.1, h1.2.2⟩⟩
def Cs.moved (y : Cs) (n m : Nat) (bs : List Int) : Cs := { y.new m bs with dying := updI y.dying n true }
def WNewC (B : Blk) (y : Cs) (P : Prot) (a : Bool) (N : Nat) (n : Nat) (bs : List Int) (w : World) (e : Ending) (w' : World) : Prop :=
  ∃ m err, TakeIs y.taken y.pages y.hand m ∧ e = .returned (.tuple #[refV err m y.gen, .int .i64 err]) ∧ Went w' B y (y.moved n m bs) P a (N + 1) err ∧ FrB B w w'
theorem Apart.dies {t : Nat → Bool} {f y d : Int → Bool} (h : Apart t f y d) {n : Nat} (ht : t n = true) (hf : f n = false) (hd : d n = false) : Apart t f (updI y n true) d := by
  refine ⟨h.ft, fun k hk => ?_, h.et, fun k hk => ⟨?_, (h.fy k hk).2⟩, fun k hk => ?_⟩
  · simp only [updI] at hk
    split at hk
    · rename_i e
      have : k = n := by omega
      rw [this]; exact ht
    · exact h.yt k hk
  · simp only [updI]
    split
    · rename_i e; subst e; rw [hf] at hk; cases hk
    · exact (h.fy k hk).1
  · simp only [updI] at hk
    split at hk
    · rename_i e; subst e; exact hd
    · exact h.ye k hk
theorem wnew_c {w : World} {B : Blk} {y : Cs} {P : Prot} {a : Bool} {N : Nat} (h : StoreC w B y P a N) (n : Nat) (st : Int) {la : Option Addr} {ll lc : Nat} {bs : List Int} (hin : Inp w B la ll lc bs) (hby : ∀ b ∈ bs, 0 ≤ b ∧ b < 256) (hl : ll ≤ y.room)
    (hp : n < y.pages) (ht : y.taken n = true) (hf : y.fresh n = false) (hd : y.dead n = false) {j : Nat} (hj : j < y.pages) (hfree : y.taken j = false) (hN : N + 1 ≤ 90000) :
    Calls Tryz.prog 26 #[B.ptr, .agg #[.int .i64 n, .int .i64 st], .slice la ll lc] w (WNewC B y P a N n bs w) := by
  have hBw := h.base_le
  obtain ⟨⟨x, c, hS, rfl, hi⟩, hT, hb⟩ := h
  have hlen := hin.1.by_.len
  refine (write_new hS n st (bs := bs) hl hp ht hf fun W hS' F' => SF.new_ok hS' (hT.fr F' (fun h => h)) hb (Inp.fr0 hin F' hBw) hl hj hfree fun W' p n hn hS'' hF hp => keep_dev hS'' (((hi.holds.frB (FrB.none (B := B) F')).frB hF).good : GoodMem W' x) (hi.dev.up hi.down hi.few) n p hp).mono ?_
  rintro e w' ⟨m, err, g, D, p, hm, he, hg, ho, hS', hpp, F⟩
  have hrg := hS.rg
  have hgen := gen_lt hS
  have hpn : P (x.first + m) = none := by
    cases hP : P (x.first + m) with
    | none => rfl
    | some v =>
      have := (hi.ptk m hm.1 (by rw [hP]; simp)).1
      rw [hm.2.1] at this; cases this
  obtain ⟨h1, h2, h3⟩ := goes hi.holds hi.dev hi.down hg ho F ⟨hpp.1, hpp.2.2⟩ (n := m) (st := x.gen) ⟨by have := hm.1; omega, hgen, by rw [hlen]; exact hl, hby⟩ ⟨hrg.2.2.2.2, hrg.2.2.2.1, hrg.2.2.1⟩ (fun _ => hpn) (fun hc => by rw [hpp.2.1] at hc; cases hc)
  refine ⟨m, err, hm, he, ?_, F⟩
  rcases h2 with ⟨rfl, hD⟩ | ⟨rfl, ha, hD⟩
  · rw [moved, if_pos rfl] at hS'
    have ht' : x.taken n = true := ht
    have hmn : m ≠ n := by rintro rfl; rw [hm.2.1] at ht'; cases ht'
    refine .inl ⟨rfl, ⟨_, _, hS', ?_, ⟨hD, h1.1, h3 _ rfl rfl rfl rfl rfl, fun k hk hP => ?_, ?_, hN⟩⟩, hT.fr F (fun h => by omega), hb⟩
    · show Cs.moved (x.cs c) n m bs = _
      simp [Cs.moved, Cs.new, Sto.cs, tk, h1.2.1, h1.2.2]
    · obtain ⟨a1, a2⟩ := hi.ptk k hk hP
      have hkn : k ≠ m := by rintro rfl; rw [hm.2.1] at a1; cases a1
      exact ⟨by show upd x.taken m true k = true; simp [upd, hkn, a1], by show updI x.fresh m true k = false; simp only [updI]; rw [if_neg (by omega)]; exact a2⟩
    · refine (hi.apart.new hm.2.1).dies (n := n) ?_ ?_ hd
      · simp only [upd]; split
        · rfl
        · exact ht
      · simp only [updI]; rw [if_neg (by omega)]; exact hf
  · subst ha
    rw [moved, if_neg (by decide)] at hS'
    exact .inr ⟨rfl, rfl, ⟨D, hS'.dev, h1.1, hD, h1.2.1, h1.2.2⟩⟩
def openY (p : Plan8) (gen : Nat) (D : Dev) (c : Cont) : Cs := (openX p gen D).cs c
theorem open_is {w : World} {B : Blk} {p : Plan8} {gen : Nat} {D : Dev} (hS : StoreAt w B (openX p gen D)) (hT : Tab w) (hb : 0 < B.base) {a : Bool} {N : Nat} (hd : DevOk D (fun _ => none) a N) (hdn : D.down = false) (hN : N ≤ 90000) (c : Cont)
    (hc : ∀ k st bs, c k = some (st, bs) → CntOk (layM p).pages.toNat (D.size - 19) k st bs ∧ D.sec ((layM p).page + k) = buildM D.size 2 k.toNat st bs) : StoreC w B (openY p gen D c) (fun _ => none) a N := by
  refine ⟨⟨_, c, hS, rfl, hdn, hd, ⟨fun k st bs hk => (hc k st bs hk).1, fun k q hq => (by cases hq), fun k st bs hk _ => (hc k st bs hk).2⟩, fun k _ hP => absurd rfl hP, ⟨fun k hk => (by cases hk), fun k hk => (by cases hk), fun k hk => (by cases hk), fun k hk => (by cases hk), fun k hk => by cases hk⟩, hN⟩, hT, hb⟩
theorem fresh_ok (s z : Nat) : DevOk (Dev.fresh s z) (fun _ => none) false 0 := ⟨Nat.le_refl _, Nat.le_refl _, fun y hy => (by cases hy), fun k bs h => (by cases h), (by show (0 : Nat) ≤ _; omega), fun _ => rfl, ⟨fun y hy => (by cases hy), fun k bs h => by cases h⟩⟩
theorem format_c {w : World} {base d bf bq s z : Nat} (h : DevAt w base d bf bq (Dev.fresh s z)) (hb : base ≤ w.heap.size) (hT : Tab w) (h0 : 0 < base) (c dd f dp hh sd : Int) (hfit : fitsM ⟨s, z, c, dd, f, dp, hh, sd⟩ = true) :
    Calls Tryz.prog 19 #[.pointer (some ⟨d, 0, none⟩), (Plan8.mk s z c dd f dp hh sd).val] w fun e w' => ∃ B : Blk, (B.base = base ∧ B.d = d ∧ B.bf = bf ∧ B.bq = bq) ∧ e = .returned (.tuple #[B.ptr, .int .i64 0]) ∧
      StoreC w' B (openY ⟨s, z, c, dd, f, dp, hh, sd⟩ 0 (Dev.fresh s z) (fun _ => none)) (fun _ => none) false 0 ∧ Fr (fun _ => False) w w' :=
  (format_ok h hb c dd f dp hh sd hfit).mono fun e w' ⟨B, hB, he, hS, F⟩ => ⟨B, hB, he, open_is hS (hT.fr F (fun h => h)) (by rw [hB.1]; exact h0) (fresh_ok s z) rfl (by omega) _ (fun k st bs hk => by cases hk), F⟩
end Go.Proofs.YtgdhaaokolfdoaaGreatDoor

namespace Go.Proofs.YtgdhaaokolfdoaaGreatDoor
open Go.RowKit Go.Sg Go.Sg.Clk Go.Shelf CP
attribute [local go_sem] Oper.semAt_some
end Go.Proofs.YtgdhaaokolfdoaaGreatDoor

namespace Go.Sg
open Go.RowKit
variable {F : Fence} {n : Nat} {P : Program}
def bodyEnds {α : Type} (B : Nat) (Kp : World → World → Prop) (I : List α → World → Prop) (Ix : Code → List α → World → Prop) (xs : List α) (W : World) : Exit → Act → World → Prop
  | .normal, _, W' => KeepsFrom B W W' ∧ Kp W W' ∧ I xs W'
  | .ret, _, W' => KeepsFrom B W W' ∧ Ix .ret xs W'
  | .exit id, _, W' => KeepsFrom B W W' ∧ Ix (.exit id) xs W'
  | .goto t, _, W' => KeepsFrom B W W' ∧ Ix (.goto t) xs W'
  | _, _, _ => False
end Go.Sg
