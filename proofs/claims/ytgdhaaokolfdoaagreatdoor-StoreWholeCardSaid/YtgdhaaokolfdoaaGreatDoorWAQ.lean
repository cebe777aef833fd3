/- A pack of texts: PB, AW, CW, KY, RL. Conditions: those that each text names. -/
import Derived.Test.YtgdhaaokolfdoaaGreatDoorWAP
import Derived.Deep.RegionWith
import Derived.Test.YtgdhaaokolfdoaaGreatDoorWAK
import Derived.Laws.BytesArg
import Derived.Test.YtgdhaaokolfdoaaGreatDoorWAM
import Derived.Test.YtgdhaaokolfdoaaGreatDoorWAB
import Derived.Test.YtgdhaaokolfdoaaGreatDoorWAA
import Derived.RangeFuncNested
import Derived.RangeFuncRecord
set_option linter.unusedVariables false
set_option linter.unusedSimpArgs false
set_option linter.unnecessarySimpa false
/- The store: Parts. Conditions: the store lies in the world as StoreAt says. -/
namespace Go.Proofs.YtgdhaaokolfdoaaGreatDoor
open Go.RowKit Go.Sg Go.Sg.Bits Go.Sg.Clk CP
theorem _root_.Go.Sg.Ints.frL {w w' : World} {v : Value} {ks : List Int} (h : Ints w v ks) {k : Nat} (F : Fr (fun b => b = k) w w') {cs : Array Value} {t : TypeId} (hk : w.heap[k]? = some (.cells cs t)) (ht : cs.all (fun c => match c with | .int .i64 _ => false | _ => true) = true) : Ints w' v ks := by
  obtain ⟨a, cap, e, h⟩ := h
  refine ⟨a, cap, e, fun i x hx => ?_⟩
  obtain ⟨g, ha, hl, hc⟩ := h i x hx
  have : ¬ g = k := by
    rintro rfl
    rw [cell_of_heap hk] at hc
    have h2 := (Array.all_eq_true (p := _)).1 ht i (Array.getElem?_eq_some_iff.1 hc).1
    have h3 := (Array.getElem?_eq_some_iff.1 hc).2
    rw [h3] at h2
    simp at h2
  exact ⟨g, ha, Nat.lt_of_lt_of_le hl F.size, (F.cell (p := ⟨g, i, none⟩) hl this).trans hc⟩
namespace SF
/-- What Parts tells. -/
def PartsPost (x : Sto) (w : World) (e : Ending) (w' : World) : Prop :=
  ∃ v0 v1 v2 v3 L1 L2 L3, e = .returned (.agg #[v0, v1, v2, v3]) ∧ Ints w' v0 (tu x.taken x.pages) ∧ Ints w' v1 L1 ∧ Ints w' v2 L2 ∧ Ints w' v3 L3 ∧ (RowOf x.fresh L1 ∧ RowOf x.dying L2 ∧ RowOf x.dead L3) ∧ Fr (fun _ => False) w w'
set_option maxHeartbeats 4000000 in
theorem parts_at {w : World} {B : Blk} {x : Sto} (h : StoreAt w B x) (hT : Tab w) : Calls Tryz.prog 32 #[B.ptr] w (PartsPost x w) := by
  obtain ⟨w1, hw1⟩ : ∃ w1, w.alloc (.cells #[.slice none 0 0, .slice none 0 0, .slice none 0 0, .slice none 0 0] 54) = w1 := ⟨_, rfl⟩
  have F1 : Fr (fun _ => False) w w1 := by rw [← hw1]; exact (Fr.refl _ _).alloc _
  have b1 : w1.heap[w.heap.size]? = some (.cells #[.slice none 0 0, .slice none 0 0, .slice none 0 0, .slice none 0 0] 54) := by rw [← hw1]; exact heap_alloc_new _ _
  have h1 := h.fr0 F1
  have hT1 := hT.fr F1 (fun h => h)
  have hpg := h.bits.room.1.2
  have nsb : ¬ w.heap.size = B.s := by have := h.sc.lt; omega
  have HA := hid (fun W (F : Fr (fun _ => False) w1 W) => all_at (h1.bits.fr F (fun h => h) (fun h => h)) (hT1.fr F (fun h => h)))
  have HR1 := hid (fun W (F : Fr (fun _ => False) w1 W) => row_at (h1.fr.fr F (fun h => h)) hpg h1.inr.1)
  have HR2 := hid (fun W (F : Fr (fun _ => False) w1 W) => row_at (h1.dy.fr F (fun h => h)) hpg h1.inr.2.1)
  have HR3 := hid (fun W (F : Fr (fun _ => False) w1 W) => row_at (h1.de.fr F (fun h => h)) hpg h1.inr.2.2)
  have c13 := h1.sc.c13
  have c14 := h1.sc.c14
  have c15 := h1.sc.c15
  have c16 := h1.sc.c16
  have ls := h1.sc.lt
  have G := hid (Fr.refl (fun _ => False) w1)
  have HW := hid hw1
  have HF1 := hid F1
  have HB1 := hid b1
  clear hw1 F1 b1 h h1 hT hT1
  go_enter Tryz.func32, Tryz.ntmps32
  go_wp2
  rw [HW.out]
  go_region_held3 (fun W => W.cell? ⟨B.s, 13, none⟩ = some (.pointer (some ⟨B.bs, 0, none⟩)) ∧ W.cell? ⟨B.s, 14, none⟩ = some (.map (some B.fr)) ∧ W.cell? ⟨B.s, 15, none⟩ = some (.map (some B.dy)) ∧ W.cell? ⟨B.s, 16, none⟩ = some (.map (some B.de)))
    (go_keep)
    (first
      | (go_at_call 100; refine (HA.out _ (by first | with_reducible exact G.out.drew | with_reducible exact G.out)).mono ?_; rintro e w4 ⟨v4, rfl, ⟨a4, ca4, rfl, hi4⟩, F4⟩; have I4 := hid (show Ints w4 (.slice a4 (tu x.taken x.pages).length ca4) (tu x.taken x.pages) from ⟨a4, ca4, rfl, hi4⟩); have G := hid (Fr.trans (by first | with_reducible exact G.out.drew | with_reducible exact G.out) F4 (fun _ _ h => h)); have c13 := (F4.cell (p := ⟨B.s, 13, none⟩) ls (fun h => h)).trans c13; have c14 := (F4.cell (p := ⟨B.s, 14, none⟩) ls (fun h => h)).trans c14; have c15 := (F4.cell (p := ⟨B.s, 15, none⟩) ls (fun h => h)).trans c15; have c16 := (F4.cell (p := ⟨B.s, 16, none⟩) ls (fun h => h)).trans c16; have ls := Nat.lt_of_lt_of_le ls F4.size; clear hi4 F4)
      | (go_at_call_of 97 (Value.map (some B.fr)); refine (HR1.out _ (by first | with_reducible exact G.out.drew | with_reducible exact G.out)).mono ?_; rintro e w5 ⟨v5, L1, rfl, ⟨a5, ca5, rfl, hi5⟩, hL1, F5⟩; have I5 := hid (And.intro (show Ints w5 (.slice a5 L1.length ca5) L1 from ⟨a5, ca5, rfl, hi5⟩) hL1); have I4 := hid (Ints.fr I4.out F5 (fun _ _ h => h)); have G := hid (Fr.trans (by first | with_reducible exact G.out.drew | with_reducible exact G.out) F5 (fun _ _ h => h)); have c13 := (F5.cell (p := ⟨B.s, 13, none⟩) ls (fun h => h)).trans c13; have c14 := (F5.cell (p := ⟨B.s, 14, none⟩) ls (fun h => h)).trans c14; have c15 := (F5.cell (p := ⟨B.s, 15, none⟩) ls (fun h => h)).trans c15; have c16 := (F5.cell (p := ⟨B.s, 16, none⟩) ls (fun h => h)).trans c16; have ls := Nat.lt_of_lt_of_le ls F5.size; clear hi5 F5 hL1)
      | (go_at_call_of 97 (Value.map (some B.dy)); refine (HR2.out _ (by first | with_reducible exact G.out.drew | with_reducible exact G.out)).mono ?_; rintro e w6 ⟨v6, L2, rfl, ⟨a6, ca6, rfl, hi6⟩, hL2, F6⟩; have I6 := hid (And.intro (show Ints w6 (.slice a6 L2.length ca6) L2 from ⟨a6, ca6, rfl, hi6⟩) hL2); have I5 := hid (And.intro (Ints.fr I5.out.1 F6 (fun _ _ h => h)) I5.out.2); have I4 := hid (Ints.fr I4.out F6 (fun _ _ h => h)); have G := hid (Fr.trans (by first | with_reducible exact G.out.drew | with_reducible exact G.out) F6 (fun _ _ h => h)); have c13 := (F6.cell (p := ⟨B.s, 13, none⟩) ls (fun h => h)).trans c13; have c14 := (F6.cell (p := ⟨B.s, 14, none⟩) ls (fun h => h)).trans c14; have c15 := (F6.cell (p := ⟨B.s, 15, none⟩) ls (fun h => h)).trans c15; have c16 := (F6.cell (p := ⟨B.s, 16, none⟩) ls (fun h => h)).trans c16; have ls := Nat.lt_of_lt_of_le ls F6.size; clear hi6 F6 hL2)
      | (go_at_call_of 97 (Value.map (some B.de)); refine (HR3.out _ (by first | with_reducible exact G.out.drew | with_reducible exact G.out)).mono ?_; rintro e w7 ⟨v7, L3, rfl, ⟨a7, ca7, rfl, hi7⟩, hL3, F7⟩; have I7 := hid (And.intro (show Ints w7 (.slice a7 L3.length ca7) L3 from ⟨a7, ca7, rfl, hi7⟩) hL3); have I6 := hid (And.intro (Ints.fr I6.out.1 F7 (fun _ _ h => h)) I6.out.2); have I5 := hid (And.intro (Ints.fr I5.out.1 F7 (fun _ _ h => h)) I5.out.2); have I4 := hid (Ints.fr I4.out F7 (fun _ _ h => h)); have G := hid (Fr.trans (by first | with_reducible exact G.out.drew | with_reducible exact G.out) F7 (fun _ _ h => h)); have c13 := (F7.cell (p := ⟨B.s, 13, none⟩) ls (fun h => h)).trans c13; have c14 := (F7.cell (p := ⟨B.s, 14, none⟩) ls (fun h => h)).trans c14; have c15 := (F7.cell (p := ⟨B.s, 15, none⟩) ls (fun h => h)).trans c15; have c16 := (F7.cell (p := ⟨B.s, 16, none⟩) ls (fun h => h)).trans c16; have ls := Nat.lt_of_lt_of_le ls F7.size; obtain ⟨k0, k1, k2, k3, kz, kl⟩ := cells4 (G.out.heap HB1.out (fun h => h)); clear hi7 F7 hL3))
  go_wp2
  refine bodyPost_ret (v := .agg #[.slice a4 (tu x.taken x.pages).length ca4, .slice a5 L1.length ca5, .slice a6 L2.length ca6, .slice a7 L3.length ca7]) (by simp [results, go_sem, *]) rfl ?_
  have FF : Fr (fun b => b = w.heap.size) w7 ((((w7.setCell ⟨w.heap.size, 0, none⟩ (.slice a4 (tu x.taken x.pages).length ca4)).setCell ⟨w.heap.size, 1, none⟩ (.slice a5 L1.length ca5)).setCell ⟨w.heap.size, 2, none⟩ (.slice a6 L2.length ca6)).setCell ⟨w.heap.size, 3, none⟩ (.slice a7 L3.length ca7)) :=
    ((((Fr.refl (fun b => b = w.heap.size) _).setCell (a := ⟨w.heap.size, 0, none⟩) (fun _ => rfl) _).setCell (a := ⟨w.heap.size, 1, none⟩) (fun _ => rfl) _).setCell (a := ⟨w.heap.size, 2, none⟩) (fun _ => rfl) _).setCell (a := ⟨w.heap.size, 3, none⟩) (fun _ => rfl) _
  have hb7 := G.out.heap HB1.out (fun h => h)
  refine ⟨_, _, _, _, L1, L2, L3, rfl, I4.out.frL FF hb7 (by simp), I5.out.1.frL FF hb7 (by simp), I6.out.1.frL FF hb7 (by simp), I7.out.1.frL FF hb7 (by simp), ⟨I5.out.2, I6.out.2, I7.out.2⟩, ?_⟩
  refine (HF1.out.trans G.out (fun _ _ h => h)).trans FF (fun b hb h => by omega)
end SF
end Go.Proofs.YtgdhaaokolfdoaaGreatDoor

/- The example of chapter 13: what it needs of plans, devices, worlds. Conditions: none. -/
namespace Go.Proofs.YtgdhaaokolfdoaaGreatDoor
open Go.RowKit Go.Sg Go.Sg.Bits Go.Sg.Clk CP SF
theorem dev_fresh {w w' : World} {s z : Nat} (hs : 1 ≤ s ∧ s ≤ 16384) (hz : 96 ≤ z ∧ z ≤ 512) (h1 : w'.heap[w.heap.size]? = some (.map #[] 0)) (h2 : w'.heap[w.heap.size + 1]? = some (.map #[] 0))
    (h3 : w'.heap[w.heap.size + 1 + 1]? = some (.cells #[.int .i64 s, .int .i64 z, .map (some w.heap.size), .slice none 0 0, .map (some (w.heap.size + 1)), .int .i64 0, .int .i64 0, .bool false] 151)) :
    DevAt w' w.heap.size (w.heap.size + 2) w.heap.size (w.heap.size + 1) (Dev.fresh s z) := by
  refine ⟨⟨_, h3, [], World.ownsRow_nil _ _ _ _, rfl, fun i x y hx _ => by simp at hx⟩, ⟨[], 0, h1, by simp [keys], fun k => trivial⟩, ⟨[], 0, h2, by simp [keys], (fun e he => by cases he), (fun e he => by cases he)⟩, by omega, by omega, hs, hz⟩
theorem flashnew_ok (s z : Nat) (hs : 1 ≤ s ∧ s ≤ 16384) (hz : 96 ≤ z ∧ z ≤ 512) (w : World) :
    Calls Tryz.prog 20 #[.int .i64 s, .int .i64 z] w fun e w' => e = .returned (.pointer (some ⟨w.heap.size + 2, 0, none⟩)) ∧ DevAt w' w.heap.size (w.heap.size + 2) w.heap.size (w.heap.size + 1) (Dev.fresh s z) ∧ Fr (fun _ => False) w w' :=
  (newdev_ok s z (by omega) (by omega) (by omega) (by omega) w).mono fun e w' ⟨he, h1, h2, h3, hF⟩ => ⟨he, dev_fresh hs hz h1 h2 h3, hF⟩
def small13 : Plan8 := ⟨60, 96, 3, 2, 4, 2, 8, 0⟩
theorem small13_ok (w : World) : Calls Tryz.prog 21 #[] w fun e w' => e = .returned small13.val ∧ Fr (fun _ => False) w w' := by
  go_enter Tryz.func21, Tryz.ntmps21
  go_wp2
  refine bodyPost_ret (v := .agg #[.int .i64 60, .int .i64 96, .int .i64 3, .int .i64 2, .int .i64 4, .int .i64 2, .int .i64 8, .int .u64 0]) (by simp [results, go_sem, *]) rfl ⟨rfl, (Fr.refl _ _).alloc _⟩
theorem format_ok {w : World} {base d bf bq : Nat} {D : Dev} (h : DevAt w base d bf bq D) (hb : base ≤ w.heap.size) (c dd f dp hh s : Int) (hfit : fitsM ⟨D.sectors, D.size, c, dd, f, dp, hh, s⟩ = true) :
    Calls Tryz.prog 19 #[.pointer (some ⟨d, 0, none⟩), (Plan8.mk D.sectors D.size c dd f dp hh s).val] w (OpenPost base d bf bq ⟨D.sectors, D.size, c, dd, f, dp, hh, s⟩ 0 D w) := by
  obtain ⟨w1, hw1⟩ : ∃ w1, w.alloc (.cells #[.int .i64 D.sectors, .int .i64 D.size, .int .i64 c, .int .i64 dd, .int .i64 f, .int .i64 dp, .int .i64 hh, .int .u64 s] 31) = w1 := ⟨_, rfl⟩
  have F1 : Fr (fun _ => False) w w1 := by rw [← hw1]; exact (Fr.refl _ _).alloc _
  have H := hid (open_ok (h.fr F1 (fun h => h) (fun h => h) (fun h => h) (fun _ _ _ _ _ h => h)) (Nat.le_trans hb F1.size) c dd f dp hh s 0 (by omega) hfit)
  have HW := hid hw1
  have HF1 := hid F1
  clear h hw1 F1 hfit
  go_enter Tryz.func19, Tryz.ntmps19
  go_wp2_with fail
  rw [HW.out]
  refine H.out.mono ?_
  rintro e w2 ⟨B, hB, rfl, hS, F2⟩
  have HS := hid (And.intro hB (And.intro hS F2))
  clear hB hS F2
  go_wp2
  go_ret2
  exact ⟨B, HS.out.1, rfl, HS.out.2.1, HF1.out.trans HS.out.2.2 (fun _ _ h => h)⟩
theorem small13_fits : fitsM ⟨(60 : Nat), (96 : Nat), 3, 2, 4, 2, 8, 0⟩ = true := by decide +kernel
theorem str_empty {w : World} (ad : Addr) (c : Nat) (dst : TypeId) (hd : Tryz.prog.underlying dst = some .string) : (convert 22 dst (.slice (some ad) 0 c)).run Tryz.prog w = .ok (.string (strOfNums [])) w := by
  rw [run_convert_bytes_string w 22 dst 5 _ 0 c Tryz.underlying22 Tryz.underlying5 hd, run_bytesToString w ad 0 c [] (by simpa using run_loadCells_list (P := Tryz.prog) w ad [] (fun j v hj => by simp at hj))]
  rfl
theorem str_at {w : World} {a : Option Addr} {n c : Nat} {bs : List Int} (h : SlB w a n c bs) (dst : TypeId) (hd : Tryz.prog.underlying dst = some .string) :
    (convert 22 dst (.slice a n c)).run Tryz.prog w = .ok (.string (strOfNums bs)) w := by
  have hl := h.by_.len
  rcases h.at_ with ⟨rfl, rfl, rfl⟩ | ⟨ad, rfl⟩
  · have : bs = [] := List.eq_nil_of_length_eq_zero hl
    rw [this]
    exact run_convert_bytes_nil w 22 5 Tryz.underlying22 Tryz.underlying5 0 0 dst hd
  · cases n with
    | zero =>
      have : bs = [] := List.eq_nil_of_length_eq_zero hl
      rw [this]
      exact str_empty ad c dst hd
    | succ n =>
    obtain ⟨b, off, e, _, _⟩ := h.by_.at_ 0 _ (List.getElem?_eq_getElem (show 0 < bs.length by omega))
    cases e
    refine run_convert_bytes_arg w 22 5 Tryz.underlying22 Tryz.underlying5 b off (n + 1) c bs hl (fun i hi => ?_) dst hd
    have hx : bs[i]? = some bs[i] := List.getElem?_eq_getElem (by omega)
    obtain ⟨b', off', e, _, hc⟩ := h.by_.at_ i _ hx
    cases e
    rw [hc]; simp [List.getD, hx]
end Go.Proofs.YtgdhaaokolfdoaaGreatDoor

/- The store in terms of its pages' contents: Write, Free, Mark, Commit, Held, Gen, Parts, Format. Conditions: the store lies in the world as StoreC says. -/
namespace Go.Proofs.YtgdhaaokolfdoaaGreatDoor
open Go.RowKit Go.Sg Go.Sg.Bits Go.Sg.Clk CP SF
/-- What Write does to a page that was made since the last commit. -/
def WFreshC (B : Blk) (y : Cs) (P : Prot) (a : Bool) (N : Nat) (n : Nat) (bs : List Int) (w : World) (e : Ending) (w' : World) : Prop :=
  ∃ err, e = .returned (.tuple #[.agg #[.int .i64 n, .int .i64 y.gen], .int .i64 err]) ∧ Went w' B y { y with cont := updC y.cont n (some (y.gen, bs)) } P a (N + 1) err ∧ FrB B w w'
theorem wfresh_c {w : World} {B : Blk} {y : Cs} {P : Prot} {a : Bool} {N : Nat} (h : StoreC w B y P a N) (n : Nat) (st : Int) {la : Option Addr} {ll lc : Nat} {bs : List Int} (hin : Inp w B la ll lc bs) (hby : ∀ b ∈ bs, 0 ≤ b ∧ b < 256) (hl : ll ≤ y.room)
    (hp : n < y.pages) (ht : y.taken n = true) (hf : y.fresh n = true) (hN : N + 1 ≤ 90000) :
    Calls Tryz.prog 26 #[B.ptr, .agg #[.int .i64 n, .int .i64 st], .slice la ll lc] w (WFreshC B y P a N n bs w) := by
  obtain ⟨⟨x, c, hS, rfl, hi⟩, hT, hb⟩ := h
  have hlen := hin.1.by_.len
  have hrg := hS.rg
  have hgen := gen_lt hS
  have hpn : P (x.first + n) = none := by
    cases hP : P (x.first + n) with
    | none => rfl
    | some v =>
      have h2 := (hi.ptk n hp (by rw [hP]; simp)).2
      have hf' : x.fresh n = true := hf
      rw [hf'] at h2; cases h2
  refine (write_fresh hS n st hin hl hp ht hf fun W p hS' hF hp => keep_dev hS' (hi.holds.frB hF).good (hi.dev.up hi.down hi.few) n p hp).mono ?_
  rintro e w' ⟨err, g, D, p, he, hg, ho, hS', hpp, F⟩
  obtain ⟨h1, h2, h3⟩ := goes hi.holds hi.dev hi.down hg ho F ⟨hpp.1, hpp.2.2⟩ (n := n) (st := x.gen) ⟨by have : n < x.pages := hp; omega, hgen, by rw [hlen]; exact hl, hby⟩ ⟨hrg.2.2.2.2, hrg.2.2.2.1, hrg.2.2.1⟩ (fun _ => hpn) (fun hc => by rw [hpp.2.1] at hc; cases hc)
  refine ⟨err, he, ?_, F⟩
  rcases h2 with ⟨rfl, hD⟩ | ⟨rfl, ha, hD⟩
  · refine .inl ⟨rfl, ⟨_, _, hS', ?_, ⟨hD, h1.1, h3 _ rfl rfl rfl rfl rfl, hi.ptk, hi.apart, hN⟩⟩, hT.fr F (fun h => by omega), hb⟩
    simp [Sto.cs, h1.2.1, h1.2.2]
  · subst ha
    exact .inr ⟨rfl, rfl, ⟨D, hS'.dev, h1.1, hD, h1.2.1, h1.2.2⟩⟩
/-- A store behind a page of the last commit got another one. -/
def Cs.moved (y : Cs) (n m : Nat) (bs : List Int) : Cs := { y.new m bs with dying := updI y.dying n true }
def WNewC (B : Blk) (y : Cs) (P : Prot) (a : Bool) (N : Nat) (n : Nat) (bs : List Int) (w : World) (e : Ending) (w' : World) : Prop :=
  ∃ m err, TakeIs y.taken y.pages y.hand m ∧ e = .returned (.tuple #[refV err m y.gen, .int .i64 err]) ∧ Went w' B y (y.moved n m bs) P a (N + 1) err ∧ FrB B w w'
theorem Apart.dies {t : Nat → Bool} {f y d : Int → Bool} (h : Apart t f y d) {n : Nat} (ht : t n = true) (hf : f n = false) (hd : d n = false) : Apart t f (updI y n true) d := by
  refine ⟨h.ft, fun k hk => ?_, h.et, fun k hk => ⟨?_, (h.fy k hk).2⟩, fun k hk => ?_⟩
  · simp only [updI] at hk
    split at hk
    · rename_i e
      have : k = n := by omega
      rw [this]; exact ht
    · exact h.yt k hk
  · simp only [updI]
    split
    · rename_i e; subst e; rw [hf] at hk; cases hk
    · exact (h.fy k hk).1
  · simp only [updI] at hk
    split at hk
    · rename_i e; subst e; exact hd
    · exact h.ye k hk
theorem wnew_c {w : World} {B : Blk} {y : Cs} {P : Prot} {a : Bool} {N : Nat} (h : StoreC w B y P a N) (n : Nat) (st : Int) {la : Option Addr} {ll lc : Nat} {bs : List Int} (hin : Inp w B la ll lc bs) (hby : ∀ b ∈ bs, 0 ≤ b ∧ b < 256) (hl : ll ≤ y.room)
    (hp : n < y.pages) (ht : y.taken n = true) (hf : y.fresh n = false) (hd : y.dead n = false) {j : Nat} (hj : j < y.pages) (hfree : y.taken j = false) (hN : N + 1 ≤ 90000) :
    Calls Tryz.prog 26 #[B.ptr, .agg #[.int .i64 n, .int .i64 st], .slice la ll lc] w (WNewC B y P a N n bs w) := by
  have hBw := h.base_le
  obtain ⟨⟨x, c, hS, rfl, hi⟩, hT, hb⟩ := h
  have hlen := hin.1.by_.len
  refine (write_new hS n st (bs := bs) hl hp ht hf fun W hS' F' => SF.new_ok hS' (hT.fr F' (fun h => h)) hb (Inp.fr0 hin F' hBw) hl hj hfree fun W' p n hn hS'' hF hp => keep_dev hS'' (((hi.holds.frB (FrB.none (B := B) F')).frB hF).good : GoodMem W' x) (hi.dev.up hi.down hi.few) n p hp).mono ?_
  rintro e w' ⟨m, err, g, D, p, hm, he, hg, ho, hS', hpp, F⟩
  have hrg := hS.rg
  have hgen := gen_lt hS
  have hpn : P (x.first + m) = none := by
    cases hP : P (x.first + m) with
    | none => rfl
    | some v =>
      have := (hi.ptk m hm.1 (by rw [hP]; simp)).1
      rw [hm.2.1] at this; cases this
  obtain ⟨h1, h2, h3⟩ := goes hi.holds hi.dev hi.down hg ho F ⟨hpp.1, hpp.2.2⟩ (n := m) (st := x.gen) ⟨by have := hm.1; omega, hgen, by rw [hlen]; exact hl, hby⟩ ⟨hrg.2.2.2.2, hrg.2.2.2.1, hrg.2.2.1⟩ (fun _ => hpn) (fun hc => by rw [hpp.2.1] at hc; cases hc)
  refine ⟨m, err, hm, he, ?_, F⟩
  rcases h2 with ⟨rfl, hD⟩ | ⟨rfl, ha, hD⟩
  · rw [moved, if_pos rfl] at hS'
    have ht' : x.taken n = true := ht
    have hmn : m ≠ n := by rintro rfl; rw [hm.2.1] at ht'; cases ht'
    refine .inl ⟨rfl, ⟨_, _, hS', ?_, ⟨hD, h1.1, h3 _ rfl rfl rfl rfl rfl, fun k hk hP => ?_, ?_, hN⟩⟩, hT.fr F (fun h => by omega), hb⟩
    · show Cs.moved (x.cs c) n m bs = _
      simp [Cs.moved, Cs.new, Sto.cs, tk, h1.2.1, h1.2.2]
    · obtain ⟨a1, a2⟩ := hi.ptk k hk hP
      have hkn : k ≠ m := by rintro rfl; rw [hm.2.1] at a1; cases a1
      exact ⟨by show upd x.taken m true k = true; simp [upd, hkn, a1], by show updI x.fresh m true k = false; simp only [updI]; rw [if_neg (by omega)]; exact a2⟩
    · refine (hi.apart.new hm.2.1).dies (n := n) ?_ ?_ hd
      · simp only [upd]; split
        · rfl
        · exact ht
      · simp only [updI]; rw [if_neg (by omega)]; exact hf
  · subst ha
    rw [moved, if_neg (by decide)] at hS'
    exact .inr ⟨rfl, rfl, ⟨D, hS'.dev, h1.1, hD, h1.2.1, h1.2.2⟩⟩
/-- A store behind a page is freed. -/
def Cs.gone (y : Cs) (n : Nat) : Cs :=
  if y.fresh n = true then { y with fresh := updI y.fresh n false, taken := upd y.taken n false, cont := updC y.cont n none } else { y with dying := updI y.dying n true }
theorem free_c {w : World} {B : Blk} {y : Cs} {P : Prot} {a : Bool} {N : Nat} (h : StoreC w B y P a N) (n : Nat) (st : Int) (hp : n < y.pages) (ht : y.taken n = true) (hy : y.dying n = false) (he : y.dead n = false) :
    Calls Tryz.prog 27 #[B.ptr, .agg #[.int .i64 n, .int .i64 st]] w fun e w' => e = .returned (.int .i64 0) ∧ StoreC w' B (y.gone n) P a N ∧ FrB B w w' := by
  obtain ⟨⟨x, c, hS, rfl, hi⟩, hT, hb⟩ := h
  refine (free_ok hS n st hp ht hy he).mono ?_
  rintro e w' ⟨rfl, hS', F⟩
  refine ⟨rfl, ⟨?_, hT.fr F (fun h => by omega), hb⟩, F⟩
  have hh := hi.holds.frB F
  by_cases hf : x.fresh n = true
  · rw [goneX, if_pos hf] at hS'
    refine ⟨_, updC c n none, hS', ?_, hi.down, hi.dev, ⟨fun k s b hk => ?_, fun k q hq => ?_, fun k s b hk hm => ?_⟩, fun k hk hP => ?_, ?_, hi.few⟩
    · show Cs.gone (x.cs c) n = _
      rw [Cs.gone, if_pos hf]
    · simp only [updC] at hk
      split at hk
      · cases hk
      · exact hh.ok k s b hk
    · simp only [updM] at hq
      split at hq
      · cases hq
      · rename_i hkn
        obtain ⟨s0, b0, a1, r⟩ := hh.mem k q hq
        exact ⟨s0, b0, by simp only [updC]; rw [if_neg hkn]; exact a1, r⟩
    · simp only [updC] at hk
      simp only [updM] at hm
      split at hk
      · cases hk
      · rename_i hkn
        rw [if_neg hkn] at hm
        exact hh.dev k s b hk hm
    · obtain ⟨a1, a2⟩ := hi.ptk k hk hP
      have hkn : k ≠ n := by rintro rfl; rw [hf] at a2; cases a2
      exact ⟨by show upd x.taken n false k = true; simp [upd, hkn, a1], by show updI x.fresh n false k = false; simp only [updI]; rw [if_neg (by omega)]; exact a2⟩
    · have hap := hi.apart
      have hne := hap.fy n hf
      refine ⟨fun k hk => ?_, fun k hk => ?_, fun k hk => ?_, fun k hk => ?_, hap.ye⟩
      · simp only [updI] at hk
        split at hk
        · cases hk
        · rename_i e; simp only [upd]; rw [if_neg (by omega)]; exact hap.ft k hk
      · simp only [upd]
        split
        · rename_i e; subst e; have hk' : x.dying k = true := hk; rw [hne.1] at hk'; cases hk'
        · exact hap.yt k hk
      · simp only [upd]
        split
        · rename_i e; subst e; have hk' : x.dead k = true := hk; rw [hne.2] at hk'; cases hk'
        · exact hap.et k hk
      · simp only [updI] at hk
        split at hk
        · cases hk
        · exact hap.fy k hk
  · have hf' : x.fresh n = false := by simpa using hf
    rw [goneX, if_neg hf] at hS'
    refine ⟨_, c, hS', ?_, hi.down, hi.dev, ⟨hh.ok, hh.mem, hh.dev⟩, hi.ptk, hi.apart.dies ht hf' he, hi.few⟩
    show Cs.gone (x.cs c) n = _
    rw [Cs.gone, if_neg hf]
/-- A store behind a commit. -/
def Cs.commit (y : Cs) : Cs :=
  { y with taken := fun i => y.taken i && !y.dead i, cont := fun k => if y.dead k then none else y.cont k, dead := y.dying, dying := fun _ => false, fresh := fun _ => false, gen := y.gen + 1 }
/-- What Parts tells. -/
def PartsC (y : Cs) (w : World) (e : Ending) (w' : World) : Prop :=
  ∃ v0 v1 v2 v3 L1 L2 L3, e = .returned (.agg #[v0, v1, v2, v3]) ∧ Ints w' v0 (tu y.taken y.pages) ∧ Ints w' v1 L1 ∧ Ints w' v2 L2 ∧ Ints w' v3 L3 ∧ (RowOf y.fresh L1 ∧ RowOf y.dying L2 ∧ RowOf y.dead L3) ∧ Fr (fun _ => False) w w'
theorem parts_c {w : World} {B : Blk} {y : Cs} {P : Prot} {a : Bool} {N : Nat} (h : StoreC w B y P a N) : Calls Tryz.prog 32 #[B.ptr] w (PartsC y w) := by
  obtain ⟨⟨x, c, hS, rfl, hi⟩, hT, hb⟩ := h
  exact parts_at hS hT
/-- A store that is opened, as its callers know it. -/
def openY (p : Plan8) (gen : Nat) (D : Dev) (c : Cont) : Cs := (openX p gen D).cs c
theorem open_is {w : World} {B : Blk} {p : Plan8} {gen : Nat} {D : Dev} (hS : StoreAt w B (openX p gen D)) (hT : Tab w) (hb : 0 < B.base) {a : Bool} {N : Nat} (hd : DevOk D (fun _ => none) a N) (hdn : D.down = false) (hN : N ≤ 90000) (c : Cont)
    (hc : ∀ k st bs, c k = some (st, bs) → CntOk (layM p).pages.toNat (D.size - 19) k st bs ∧ D.sec ((layM p).page + k) = buildM D.size 2 k.toNat st bs) : StoreC w B (openY p gen D c) (fun _ => none) a N := by
  refine ⟨⟨_, c, hS, rfl, hdn, hd, ⟨fun k st bs hk => (hc k st bs hk).1, fun k q hq => (by cases hq), fun k st bs hk _ => (hc k st bs hk).2⟩, fun k _ hP => absurd rfl hP, ⟨fun k hk => (by cases hk), fun k hk => (by cases hk), fun k hk => (by cases hk), fun k hk => (by cases hk), fun k hk => by cases hk⟩, hN⟩, hT, hb⟩
theorem fresh_ok (s z : Nat) : DevOk (Dev.fresh s z) (fun _ => none) false 0 := ⟨Nat.le_refl _, Nat.le_refl _, fun y hy => (by cases hy), fun k bs h => (by cases h), (by show (0 : Nat) ≤ _; omega), fun _ => rfl, ⟨fun y hy => (by cases hy), fun k bs h => by cases h⟩⟩
theorem format_c {w : World} {base d bf bq s z : Nat} (h : DevAt w base d bf bq (Dev.fresh s z)) (hb : base ≤ w.heap.size) (hT : Tab w) (h0 : 0 < base) (c dd f dp hh sd : Int) (hfit : fitsM ⟨s, z, c, dd, f, dp, hh, sd⟩ = true) :
    Calls Tryz.prog 19 #[.pointer (some ⟨d, 0, none⟩), (Plan8.mk s z c dd f dp hh sd).val] w fun e w' => ∃ B : Blk, (B.base = base ∧ B.d = d ∧ B.bf = bf ∧ B.bq = bq) ∧ e = .returned (.tuple #[B.ptr, .int .i64 0]) ∧
      StoreC w' B (openY ⟨s, z, c, dd, f, dp, hh, sd⟩ 0 (Dev.fresh s z) (fun _ => none)) (fun _ => none) false 0 ∧ Fr (fun _ => False) w w' :=
  (format_ok h hb c dd f dp hh sd hfit).mono fun e w' ⟨B, hB, he, hS, F⟩ => ⟨B, hB, he, open_is hS (hT.fr F (fun h => h)) (by rw [hB.1]; exact h0) (fresh_ok s z) rfl (by omega) _ (fun k st bs hk => by cases hk), F⟩
end Go.Proofs.YtgdhaaokolfdoaaGreatDoor

/- The clock of pages: Keys. Conditions: the clock lies in the world as AtP says. -/
namespace Go.Proofs.YtgdhaaokolfdoaaGreatDoor
open Go.RowKit Go.Sg Go.Sg.Clk Go.Shelf CP
attribute [local go_sem] Oper.semAt_some
/-- The numbers of the places that are full. -/
def keysOf (pl : List Pl) : List Int := (fullAt pl.length pl).map (·.2.key)
def HoldsK (w : World) (pre : List (Nat × Pl)) (W : World) : Prop :=
  ∃ v, Boxed W w.heap.size 52 v ∧ W.ownsRow w.heap.size 3 1 v pre.length (pre.map (fun x => Value.int .i64 x.2.key)) ∧ True
set_option maxRecDepth 100000 in
set_option maxHeartbeats 2000000 in
theorem keys_at {w : World} {bc bp bm hand : Nat} {pl : List Pl} (h : AtP w bc bp bm pl hand) :
    Calls Tryz.prog 169 #[.pointer (some ⟨bc, 0, none⟩)] w fun e w' => ∃ v, e = .returned v ∧ w'.ownsRow w.heap.size 3 1 v (keysOf pl).length ((keysOf pl).map (Value.int .i64)) ∧ Fr (fun _ => False) w w' := by
  obtain ⟨i0, hi0, hz0, hz1, hz2⟩ := info_parts Tryz.info3
  refine (callsIn_wide (n := 10)).1 ?_
  have hr := h.room
  have F := hid (full_any (some ⟨bc, 0, none⟩) (w.alloc (.cells #[.slice none 0 0] 52)))
  refine callsIn_of_wp_marks Tryz.func169 rfl trivial ?_ rfl
  simp only [Tryz.ntmps169, List.size_toArray, List.length_cons, List.length_nil, Nat.reduceAdd, Nat.reduceSub, Array.replicate_succ, Array.replicate_zero, List.push_toArray, List.append_toArray, List.nil_append, List.cons_append]
  gi_wp2_with (gi_at_call 228; refine (callsIn_wide.2 F.out).mono ?_; rintro e w' ⟨rfl, rfl⟩)
  obtain ⟨W0, hW0⟩ : ∃ W0, (w.alloc (.cells #[.slice none 0 0] 52)).alloc (.cells #[.pointer (some ⟨bc, 0, none⟩)] 154) = W0 := ⟨_, rfl⟩
  have hF0 : Fr (fun _ => False) w W0 := by rw [← hW0]; exact ((Fr.refl _ w).alloc _).alloc _
  have hsz : W0.heap.size = w.heap.size + 1 + 1 := by rw [← hW0]; simp
  have hnx : W0.heap[w.heap.size]? = some (.cells #[.slice none 0 0] 52) := by rw [← hW0]; exact (heap_alloc_lt _ _ _ (by simp)).trans (heap_alloc_new _ _)
  have hbx : W0.cell? ⟨w.heap.size + 1, 0, none⟩ = some (.pointer (some ⟨bc, 0, none⟩)) := by rw [← hW0]; simp [go_sem]
  have h0 : AtP W0 bc bp bm pl hand := h.fr hF0 (fun h => h) (fun h => h) (fun h => h)
  have hbp := lt_of_heap h0.p
  have hlb := lt_of_heap h.p
  simp only [hW0]
  have hKB : ∀ (W : World) (l : Nat) (o o' : Obj), W0.heap.size ≤ l → W.heap[l]? = some o → o.isCells = false → o.isWalk = false → (W.putObj l o').heap[bp]? = W.heap[bp]? := fun W l o o' hl _ _ _ => heap_putObj_ne _ _ _ _ (by omega)
  refine wpIn_rangeFunc_ownH (F := Fence.wide) rfl (by omega) (gf := 268) (lb := #[.pointer (some ⟨w.heap.size + 1, 0, none⟩)]) rfl trivial (enters_of Tryz.func268 (by kernel_rfl) rfl)
    (fullf_stops h0 hbx) (fun h k => k.trans h) hKB (Below.refl _ _) (fun _ => rfl)
    (fun pre W => HoldsK w pre W ∧ Fr (fun _ => False) w W ∧ Fr (fun _ => True) W0 W)
    (fun _ _ _ => False)
    (own_and ((holdsRow_own w.heap.size w.heap.size 52 3 1 (fun pre : List (Nat × Pl) => pre.length) (fun pre => pre.map (fun x => Value.int .i64 x.2.key)) (fun _ _ => True)).from _) (own_and (own_fr (by omega)) (own_fr (Nat.le_refl _))))
    (fun _ _ _ _ _ h => h.elim)
    ⟨⟨_, hnx, World.ownsRow_nil _ _ _ _, trivial⟩, hF0, Fr.refl _ _⟩
    (fun x a' W => ∃ Bx, (W0.heap.size ≤ Bx ∧ W.heap[Bx]? = some (.cells #[.int .i64 x.2.key, .int .i64 x.2.v.stamp, .slice x.2.v.la x.2.v.ll x.2.v.lc, .bool x.2.v.dirty, .bool x.2.full, .bool x.2.marked] 264)) ∧ a' = { tmps := #[.pointer (some ⟨bc, 0, none⟩), undef, .slice none 0 0, .pointer (some ⟨w.heap.size, 0, none⟩), undef, .pointer (some ⟨Bx, 0, none⟩), .pointer (some ⟨bc, 0, none⟩), .bool false, .pointer (some ⟨bc, 0, none⟩), .func (.func 268) #[] #[.pointer (some ⟨w.heap.size + 1, 0, none⟩)], .int .i64 x.1, .agg #[.int .i64 x.2.key, .int .i64 x.2.v.stamp, .slice x.2.v.la x.2.v.ll x.2.v.lc, .bool x.2.v.dirty, .bool x.2.full, .bool x.2.marked], undef, undef, undef, undef, undef, undef], defers := [] })
    (fun x a' => own_ex fun Bx => own_and (own_and (own_pure _ _) (own_block _ _ _ (fun _ => .inl rfl))) (own_pure _ _))
    ?assign ?body ?done ?stop
  case assign =>
    rintro l pre x W K ⟨hI, hF, hFT⟩ hK
    have hsW := hF.size
    have FN : Fr (fun _ => False) W (W.alloc (.cells #[.int .i64 x.2.key, .int .i64 x.2.v.stamp, .slice x.2.v.la x.2.v.ll x.2.v.lc, .bool x.2.v.dirty, .bool x.2.full, .bool x.2.marked] 264)) := (Fr.refl _ _).alloc _
    obtain ⟨v, hv, hown, -⟩ := hI
    have hW0 : W0.heap.size ≤ W.heap.size := hFT.size
    have HI := hid (And.intro hv (And.intro hown (And.intro hF hFT)))
    have HK := hid hK
    clear hv hown hF hFT hK h0 hnx hbx
    gi_wp2
    obtain ⟨hv, hown, hF, hFT⟩ := HI.out
    refine HK.out _ _ ((KeepsOthers.alloc _ _).from _) (FN.block _ (by omega) (fun h => h)) ⟨⟨v, FN.heap hv (fun h => h), hown.alloc _, trivial⟩, hF.trans FN (fun _ _ h => h), hFT.alloc _⟩ ⟨W.heap.size, ⟨hW0, heap_alloc_new _ _⟩, rfl⟩
  case body =>
    rintro l pre x a' W hl ⟨r, hr⟩ ⟨⟨v, hv, hown, -⟩, hF, hFT⟩ ⟨Bx, ⟨hBx, hbX⟩, rfl⟩ hlen
    have e0 := hv.cell
    have e1 := hv.frozen
    have l1 := hv.lt
    have hsW := hF.size
    have z0 := cell_of_heap hbX 0
    simp at z0
    have HV := hid hv
    have HO := hid hown
    clear hv hown h0 hnx hbx hbX
    gi_wp2_with (gi_at_builtin; refine wpListIn_append_own _ rfl (.tmp 12) (.tmp 15) 52 rfl w.heap.size 3 i0 _ 1 8 Tryz.underlying52 hi0 hz0 hz1 hz2 rfl (by decide) _ _ _ rfl (HO.out.alloc _) ⟨W.heap.size, 0, none⟩ 1 1 [.int .i64 x.2.key] rfl rfl (cell_one_new _ _ _) (by simp [Value.oneCell']) ?c3 ?c4 ?c5 ?_)
    case c3 => simp [maxLen]; omega
    case c4 => omega
    case c5 => simp; omega
    intro v1 w2 hown2 hgrow hnil
    obtain ⟨g, cap, rfl⟩ := ownsRow_succ hown2
    obtain ⟨d1, d2, d3, d4, d5⟩ := HV.out.appended (by decide) HO.out hsW (Nat.le_refl _) hown2 hgrow
    have f0 := d1.cell
    have f1 := d1.frozen
    have D2 := hid d2
    have D3 := hid d3
    clear hown2 hgrow hnil d1 d2 d3
    gi_wp2
    refine ⟨d4.from _, d5.block _ (by omega), ⟨_, D2.out, by simpa using D3.out, trivial⟩, ?_, ⟨d5.os.trans hFT.os, d5.tape.trans hFT.tape, d5.output.trans hFT.output, Nat.le_trans hFT.size d5.size, fun _ _ hn => absurd trivial hn⟩⟩
    exact ⟨d5.os.trans hF.os, d5.tape.trans hF.tape, d5.output.trans hF.output, Nat.le_trans hF.size d5.size, fun b hb hn => (d5.block b hb).trans (hF.block b hb hn)⟩
  case done =>
    rintro D ys W hD rfl ⟨⟨v, hv, hown, -⟩, hF, -⟩ hK
    have e0 := hv.cell
    have HO := hid hown
    clear hown hv h0 hnx hbx
    gi_wp2
    have hI := ownsRow_putObj HO.out (.deferred none) hK rfl
    refine marks_ret1 (t := 2) rfl hK ⟨v, rfl, by simpa [keysOf, Function.comp_def] using hI, hF.putObj (fun hh => by omega) _⟩
  case stop => exact fun _ _ _ _ _ _ h => h.elim
theorem fullAt_mem (pl : List Pl) (n : Nat) (x : Nat × Pl) : x ∈ fullAt n pl ↔ x.1 < n ∧ pl[x.1]? = some x.2 ∧ x.2.full = true := by
  simp only [fullAt, List.mem_filterMap, List.mem_map, List.mem_range]
  constructor
  · rintro ⟨y, ⟨i, hi, rfl⟩, h⟩
    cases hp : pl[i]? with
    | none => rw [hp] at h; cases h
    | some p =>
      rw [hp] at h
      simp only [Option.bind_some] at h
      split at h
      · rename_i hf
        cases h
        exact ⟨hi, hp, hf⟩
      · cases h
  · rintro ⟨hi, hp, hf⟩
    refine ⟨_, ⟨x.1, hi, rfl⟩, ?_⟩
    simp [hp, hf]
theorem keysOf_mem {pl : List Pl} (hn : Nd pl) (k : Int) : k ∈ keysOf pl ↔ (memOf pl k).isSome = true := by
  rw [keysOf, List.mem_map]
  constructor
  · rintro ⟨x, hx, rfl⟩
    obtain ⟨_, hp, hf⟩ := (fullAt_mem _ _ _).1 hx
    rw [(memOf_iff hn _ x.2.v).2 ⟨x.1, x.2, hp, hf, rfl, rfl⟩]; rfl
  · intro h
    obtain ⟨v, hv⟩ := Option.isSome_iff_exists.1 h
    obtain ⟨i, p, hp, hf, hk, _⟩ := (memOf_iff hn k v).1 hv
    exact ⟨(i, p), (fullAt_mem _ _ _).2 ⟨(List.getElem?_eq_some_iff.1 hp).1, hp, hf⟩, hk⟩
theorem keysOf_nodup {pl : List Pl} (hn : Nd pl) : (keysOf pl).Nodup := by
  have : ∀ k, k ≤ pl.length → ((fullAt k pl).map (·.2.key)).Nodup := by
    intro k
    induction k with
    | zero => intro _; exact List.nodup_nil
    | succ k ih =>
      intro hk
      have hp := List.getElem?_eq_getElem (show k < pl.length by omega)
      rw [fullAt_succ k pl _ hp]
      split
      · rename_i hf
        rw [List.map_append, List.nodup_append]
        refine ⟨ih (by omega), by simp, ?_⟩
        rintro a ha b hb rfl
        simp at hb
        obtain ⟨x, hx, e⟩ := List.mem_map.1 ha
        obtain ⟨h1, h2, h3⟩ := (fullAt_mem _ _ _).1 hx
        have := hn x.1 k x.2 _ h2 hp h3 hf (by rw [e, hb])
        omega
      · exact ih (by omega)
  exact this _ (Nat.le_refl _)
theorem keysOf_len (pl : List Pl) : (keysOf pl).length ≤ pl.length := by
  rw [keysOf, List.length_map]; exact fullAt_len _ _
/-- What Keys tells of memory. -/
def KeysPost (m : Int → Option Pg) (n : Nat) (w : World) (e : Ending) (w' : World) : Prop :=
  ∃ (v : Value) (ks : List Int), e = .returned v ∧ w'.ownsRow w.heap.size 3 1 v ks.length (ks.map (Value.int .i64)) ∧ (∀ k, k ∈ ks ↔ (m k).isSome = true) ∧ ks.Nodup ∧ ks.length ≤ n ∧ Fr (fun _ => False) w w'
theorem keysmem_at {w : World} {bc bp bm n : Nat} {m : Int → Option Pg} (h : MemAt w bc bp bm n m) : Calls Tryz.prog 169 #[.pointer (some ⟨bc, 0, none⟩)] w (KeysPost m n w) := by
  obtain ⟨pl, hand, hA, hl, hm⟩ := h.ex
  refine (keys_at hA).mono fun e w' ⟨v, he, hI, hF⟩ => ⟨v, keysOf pl, he, hI, fun k => ?_, keysOf_nodup hA.nd, by rw [← hl]; exact keysOf_len pl, hF⟩
  rw [keysOf_mem hA.nd, hm]
end Go.Proofs.YtgdhaaokolfdoaaGreatDoor

/- A range over a function whose iterator reads what the body writes: the iterator's contract is asked only for what says the caller's invariant. Conditions: none. -/
namespace Go.Sg
open Go.RowKit
variable {F : Fence} {n : Nat} {P : Program}
/-- An iterator's contract, asked for what says the caller's invariant alone: so the iterator may use it. -/
def SeqTold {α : Type} (F : Fence) (n : Nat) (P : Program) (g : Nat) (lb : Array Value) (encs : α → Array Value) (I : List α → World → Prop) (Kp : World → World → Prop) (S Sp : List α → Prop) (N : Nat) (w : World) : Prop :=
  ∀ (l : Nat) (J Jx : List α → World → Prop) (W : World), (∀ pre W1, J pre W1 → I pre W1) → Below w.heap.size w W → AbidesFrom W.heap.size J → AbidesFrom W.heap.size Jx →
    (∀ pre x W1, J pre W1 → pre.length < N → YieldAt F (n - 1) P l (encs x) W1 fun e W' => (e = .returned (.bool true) ∧ J (pre ++ [x]) W' ∧ Kp W1 W') ∨ (e = .returned (.bool false) ∧ Jx (pre ++ [x]) W')) →
    J [] W → CallsIn F n P g (#[.func (.yield l) #[] #[]] ++ lb) W fun e W' => (∃ v, e = .returned v) ∧ ((∃ xs, S xs ∧ J xs W') ∨ (∃ pre, Sp pre ∧ Jx pre W'))
/-- How the body of a round may be left. -/
def bodyEnds {α : Type} (B : Nat) (Kp : World → World → Prop) (I : List α → World → Prop) (Ix : Code → List α → World → Prop) (xs : List α) (W : World) : Exit → Act → World → Prop
  | .normal, _, W' => KeepsFrom B W W' ∧ Kp W W' ∧ I xs W'
  | .ret, _, W' => KeepsFrom B W W' ∧ Ix .ret xs W'
  | .exit id, _, W' => KeepsFrom B W W' ∧ Ix (.exit id) xs W'
  | .goto t, _, W' => KeepsFrom B W W' ∧ Ix (.goto t) xs W'
  | _, _, _ => False
/-- The statement, its loop an outermost one. -/
theorem wpIn_range_told {α : Type} {g : Operand} {ps : Array Tmp} {assign body : Code} {Q : Exit → Act → World → Prop} {a : Act} {w : World}
    (hro : F.round = none) (h1 : 1 ≤ n) {gf : Nat} {lb : Array Value} (hg : a.eval g = .func (.func gf) #[] lb) (hFg : F.fn gf) (eg : ∀ args w, (callFunc gf args).run P w = .ok (.enter gf args) w)
    {encs : α → Array Value} {Kp : World → World → Prop} {S Sp : List α → Prop} {N : Nat} {w0 : World} (I : List α → World → Prop) (hseq : SeqTold F (n - 1) P gf lb encs I Kp S Sp N w0)
    (hKt : ∀ {A B C : World}, Kp A B → Kp B C → Kp A C) (hKb : ∀ (W : World) (l : Nat) (o o' : Obj), w.heap.size ≤ l → W.heap[l]? = some o → o.isCells = false → o.isWalk = false → Kp W (W.putObj l o'))
    (hb0 : Below w0.heap.size w0 w) (hps : ∀ x, (encs x).size = ps.size)
    (Ix : Code → List α → World → Prop) (hI : OwnFrom w.heap.size I) (hIx : ∀ c, OwnFrom w.heap.size (Ix c)) (h0 : I [] w) (Ax : α → Act → World → Prop) (hAx : ∀ x a', OwnFrom w.heap.size (fun (_ : Unit) W => Ax x a' W))
    (hassign : ∀ (l : Nat) (pre : List α) (x : α) (W : World) (K : Act → World → Prop), I pre W → (∀ a' W', KeepsFrom w.heap.size W W' → Kp W W' → I pre W' → Ax x a' W' → K a' W') →
      assign.wpIn (F.inRound l) (n - 1 - 1) P (Exit.then K (fun _ _ _ => False)) { tmps := (ps.zip (encs x)).foldl (fun t (p, v) => t.setIfInBounds p v) a.tmps, defers := [] } W)
    (hbody : ∀ (l : Nat) (pre : List α) (x : α) (a' : Act) (W : World), w.heap.size ≤ l → (∃ r, W.heap[l]? = some (.loop r)) → I pre W → Ax x a' W → pre.length < N → body.wpIn (F.inRound l) (n - 1 - 1) P (bodyEnds w.heap.size Kp I Ix (pre ++ [x]) W) a' W)
    (hdone : ∀ (D : Nat) (xs : List α) (W : World), w.heap.size ≤ D → S xs → I xs W → W.heap[D]? = some (.deferred (some [])) → Q .normal { a with defers := { target := .collected D, args := #[] } :: a.defers } W)
    (hstop : ∀ (D : Nat) (c : Code) (pre : List α) (W : World), w.heap.size ≤ D → Sp pre → Ix c pre W → W.heap[D]? = some (.deferred (some [])) → c.wpIn F n P Q { a with defers := { target := .collected D, args := #[] } :: a.defers } W) :
    (Code.rangeFunc g ps assign body).wpIn F n P Q a w := by
  refine wpIn_rangeFunc fun fn hfn => ?_
  rw [hro]
  -- the loop's record, in whatever state
  let rec_ : LoopState → Option Code → Loop := fun st pe => { state := st, pending := pe, fn, tmps := a.tmps, params := ps, assign, body, defers := w.heap.size }
  obtain ⟨rd, hrd⟩ : ∃ rd, rd = rec_ := ⟨_, rfl⟩
  have rst : ∀ st pe, (rd st pe).state = st := fun st pe => by rw [hrd]
  have rpe : ∀ st pe, (rd st pe).pending = pe := fun st pe => by rw [hrd]
  obtain ⟨L, hL⟩ : ∃ L, L = w.heap.size + 1 := ⟨_, rfl⟩
  obtain ⟨W1, hW1⟩ : ∃ W1, (w.alloc (.deferred (some []))).alloc (.loop (rd .ready none)) = W1 := ⟨_, rfl⟩
  obtain ⟨hD1, hL1, F1⟩ := heap_two hW1
  rw [← hL] at hL1
  have hI1 : I [] W1 := by rw [← hW1]; exact hI.alloc _ (hI.alloc _ h0)
  have hb1 : Below w0.heap.size w0 W1 := by
    refine hb0.trans ((Fr.below (S := fun _ => False) F1 (fun _ _ h => h)).mono hb0.size)
  have hs1 : W1.heap.size = w.heap.size + 2 := by rw [← hW1]; simp
  refine ⟨L, [{ target := .collected w.heap.size, args := #[] }], W1, { target := .fn (.func gf) lb, args := #[.func (.yield L) #[] #[]] }, W1, gf, #[.func (.yield L) #[] #[]] ++ lb, W1, ?_, ?_, ?_, ?_, fun _ => h1, ?_⟩
  · rw [← hW1, hL, hrd]; exact run_enterLoop_outer _ _ _ _ _
  · simp only [resolve, hg]
    simp [go_sem]
  · intro f' hf'; simp [Target.leads] at hf'; subst hf'; exact hFg
  · simp [invoke, go_sem, eg]
  -- what the two blocks of the loop's own hold
  have hwalk : ∀ {A B : World} {row : Option Nat}, (∀ r, row = some r → W1.heap.size ≤ r ∧ ∃ o : Obj, A.heap[r]? = some o ∧ o.isWalk = true) → (∀ r, row = some r → w.heap.size ≤ r ∧ ∃ o : Obj, A.heap[r]? = some o ∧ o.isCells = false) :=
    fun hr r e => by obtain ⟨hB, o, ho, hw⟩ := hr r e; exact ⟨by omega, o, ho, Obj.not_cells_of_walk hw⟩
  have hY : ∀ pre x W, (I pre W ∧ W.heap[L]? = some (.loop (rd .ready none)) ∧ W.heap[w.heap.size]? = some (.deferred (some []))) → pre.length < N →
      YieldAt F (n - 1 - 1) P L (encs x) W fun e W' => (e = .returned (.bool true) ∧ (I (pre ++ [x]) W' ∧ W'.heap[L]? = some (.loop (rd .ready none)) ∧ W'.heap[w.heap.size]? = some (.deferred (some []))) ∧ Kp W W') ∨
        (e = .returned (.bool false) ∧ ∃ c, Ix c (pre ++ [x]) W' ∧ W'.heap[L]? = some (.loop (rd .done (some c))) ∧ W'.heap[w.heap.size]? = some (.deferred (some []))) := by
    rintro pre x W ⟨hi, hl, hk⟩ hlen
    have hy := run_yield (P := P) (args := encs x) hl (by rw [hrd]; exact hps x)
    rw [hrd] at hy
    refine ⟨fn, _, assign, body, hy, roundIn_of_wpIn hfn (hassign _ pre x W _ hi fun a' Wa hka hkp hia hax => ?_)⟩
    have hla := hka.same _ _ (by omega) hl rfl
    have hka' := hka.same _ _ (Nat.le_refl _) hk rfl
    have hlt : L < Wa.heap.size := lt_of_heap hla
    refine ⟨_, run_beginRound hla (rst _ _), ?_⟩
    obtain ⟨busy, hbusy⟩ : ∃ busy : Loop, { rd .ready none with state := .busy } = busy := ⟨_, rfl⟩
    rw [hbusy]
    have hl2 : (Wa.putObj L (.loop busy)).heap[L]? = some (.loop busy) := World.putObj_heap_same hlt
    have hk2 : (Wa.putObj L (.loop busy)).heap[w.heap.size]? = some (.deferred (some [])) := (World.putObj_heap_other (by omega)).trans hka'
    refine wpIn_mono (hbody _ pre x a' _ (by omega) ⟨_, hl2⟩ (hI.putObj _ hia (by omega) hla rfl) ((hAx x a').putObj (s := ()) _ hax (by omega) hla rfl) hlen) ?_
    have fin : ∀ (jump : Option Code) (W3 : World), KeepsFrom w.heap.size (Wa.putObj L (.loop busy)) W3 →
        (Instr.endRound L jump).run P W3 = .ok (.bool jump.isNone) (W3.putObj L (.loop (rd (if jump.isNone then .ready else .done) jump))) ∧ W3.heap[L]? = some (.loop busy) ∧
        (W3.putObj L (.loop (rd (if jump.isNone then .ready else .done) jump))).heap[L]? = some (.loop (rd (if jump.isNone then .ready else .done) jump)) ∧
        (W3.putObj L (.loop (rd (if jump.isNone then .ready else .done) jump))).heap[w.heap.size]? = some (.deferred (some [])) := fun jump W3 hk3 => by
      have hl3 := hk3.same _ _ (by omega) hl2 rfl
      refine ⟨?_, hl3, World.putObj_heap_same (lt_of_heap hl3), (World.putObj_heap_other (by omega)).trans (hk3.same _ _ (Nat.le_refl _) hk2 rfl)⟩
      have := run_endRound (P := P) jump hl3
      rw [← hbusy, hrd] at this
      rw [hrd]
      exact this
    have hw2 : Kp Wa (Wa.putObj L (.loop busy)) := hKb _ _ _ _ (by omega) hla rfl rfl
    rintro e a3 W3 hp
    have out : ∀ c, KeepsFrom w.heap.size (Wa.putObj L (.loop busy)) W3 ∧ Ix c (pre ++ [x]) W3 → ∃ v W4, (Instr.endRound L (some c)).run P W3 = .ok v W4 ∧ ((Ending.returned v = .returned (.bool true) ∧ (I (pre ++ [x]) W4 ∧ W4.heap[L]? = some (.loop (rd .ready none)) ∧ W4.heap[w.heap.size]? = some (.deferred (some []))) ∧ Kp W W4) ∨
        (Ending.returned v = .returned (.bool false) ∧ ∃ c, Ix c (pre ++ [x]) W4 ∧ W4.heap[L]? = some (.loop (rd .done (some c))) ∧ W4.heap[w.heap.size]? = some (.deferred (some [])))) := by
      rintro c ⟨hk3, hi3⟩
      obtain ⟨hr, hl3, hl4, hk4⟩ := fin (some c) W3 hk3
      exact ⟨_, _, hr, .inr ⟨rfl, c, (hIx c).putObj _ hi3 (by omega) hl3 rfl, hl4, hk4⟩⟩
    cases e with
    | normal =>
      obtain ⟨hk3, hkp3, hi3⟩ := hp
      obtain ⟨hr, hl3, hl4, hk4⟩ := fin none W3 hk3
      exact ⟨_, _, hr, .inl ⟨rfl, ⟨hI.putObj _ hi3 (by omega) hl3 rfl, hl4, hk4⟩, hKt hkp (hKt (hKt hw2 hkp3) (hKb _ _ _ _ (by omega) hl3 rfl rfl))⟩⟩
    | ret => exact out _ hp
    | exit id => exact out _ hp
    | goto t => exact out _ hp
    | panic ch => exact hp.elim
    | outgrown => exact hp.elim
  have hcall := hseq L (fun pre W => I pre W ∧ W.heap[L]? = some (.loop (rd .ready none)) ∧ W.heap[w.heap.size]? = some (.deferred (some [])))
    (fun pre W => ∃ c, Ix c pre W ∧ W.heap[L]? = some (.loop (rd .done (some c))) ∧ W.heap[w.heap.size]? = some (.deferred (some []))) W1 (fun _ _ h => h.1) hb1
    (fun s A B row hs hg' hr => ⟨hI s A B row hs.1 hg' (hwalk (B := B) hr), (grownBy_keeps hg' (fun r e => (hr r e).2) hs.2.1 rfl).trans hs.2.1, (grownBy_keeps hg' (fun r e => (hr r e).2) hs.2.2 rfl).trans hs.2.2⟩)
    (fun s A B row hs hg' hr => by
      obtain ⟨c, hc, hl, hk⟩ := hs
      exact ⟨c, hIx c s A B row hc hg' (hwalk (B := B) hr), (grownBy_keeps hg' (fun r e => (hr r e).2) hl rfl).trans hl, (grownBy_keeps hg' (fun r e => (hr r e).2) hk rfl).trans hk⟩)
    hY ⟨hI1, hL1, hD1⟩
  refine hcall.mono ?_
  rintro e W2 ⟨⟨v, rfl⟩, (⟨xs, hS, hi, hl, hk⟩ | ⟨pre, hSp, c, hi, hl, hk⟩)⟩
  · have hr := run_endLoop (P := P) hl (by rw [rst]; simp)
    rw [rpe] at hr
    exact ⟨none, _, hr, hdone _ xs _ (Nat.le_refl _) hS (hI.putObj _ hi (by omega) hl rfl) ((World.putObj_heap_other (by omega)).trans hk)⟩
  · have hr := run_endLoop (P := P) hl (by rw [rst]; simp)
    rw [rpe] at hr
    exact ⟨some c, _, hr, hstop _ c pre _ (Nat.le_refl _) hSp ((hIx c).putObj _ hi (by omega) hl rfl) ((World.putObj_heap_other (by omega)).trans hk)⟩
end Go.Sg
