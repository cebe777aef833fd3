/- A pack of texts: FU, GC, DM. Conditions: those that each text names. -/
import Derived.Test.YtgdhaaokolfdoaaGreatDoorKAX
import Derived.Test.YtgdhaaokolfdoaaGreatDoorKBB
import Derived.Test.YtgdhaaokolfdoaaGreatDoorKBA
set_option linter.unusedVariables false
set_option linter.unusedSimpArgs false
set_option linter.unnecessarySimpa false
/- StoreFull: what the law computes. Conditions: the table of the bits lies in the world. -/
namespace Go.Proofs.YtgdhaaokolfdoaaGreatDoor
open Go.RowKit Go.Sg Go.Sg.Bits Go.Sg.Clk CP SF
abbrev noP : Prot := fun _ => none
/-- The store behind k pages were made. -/
structure FullY (y : Cs) (k : Nat) (bs : List Int) : Prop where
  pages : y.pages = 48
  room : y.room = 77
  gen : y.gen = 1
  places : y.places = 8
  hand : y.hand = k % 48
  taken : ∀ j, j < 48 → y.taken j = decide (j < k)
  cont : ∀ j : Nat, j < k → y.cont j = some (1, bs ++ [(j : Int)])
theorem full_start (bs : List Int) : FullY (openY small13 0 (Dev.fresh 60 96) (fun _ => none)) 0 bs :=
  ⟨by decide +kernel, rfl, rfl, rfl, rfl, fun j _ => by simp [openY, openX, Sto.cs], fun j hj => by omega⟩
theorem full_next {y : Cs} {k n : Nat} {bs : List Int} (h : FullY y k bs) (hk : k < 48) (hn : TakeIs y.taken y.pages y.hand n) : n = k ∧ FullY (y.new k (bs ++ [(k : Int)])) (k + 1) bs := by
  have e : n = k := by
    rw [h.hand, h.pages, Nat.mod_eq_of_lt hk] at hn
    exact take_first hn (Nat.le_refl _) hk (by rw [h.taken k hk]; simp) (fun j h1 h2 => by omega)
  refine ⟨e, h.pages, h.room, h.gen, h.places, by simp [Cs.new, h.pages], fun j hj => ?_, fun j hj => ?_⟩
  · simp only [Cs.new, upd]
    split
    · rename_i e; subst e; simp
    · rename_i e; rw [h.taken j hj]; simp; omega
  · simp only [Cs.new, updC, h.gen]
    split
    · rename_i e; have : j = k := by omega
      subst this; rfl
    · rename_i e; exact h.cont j (by omega)
/-- The references that were given. -/
def refCells (k : Nat) : List Value := (List.range k).flatMap fun (j : Nat) => [Value.int .i64 (j : Int), Value.int .i64 1]
theorem refCells_succ (k : Nat) : refCells (k + 1) = refCells k ++ [.int .i64 (k : Int), .int .i64 1] := by simp [refCells, List.range_succ]
theorem refCells_len (k : Nat) : (refCells k).length = k * 2 := by
  induction k with
  | zero => rfl
  | succ k ih => rw [refCells_succ, List.length_append, ih]; simp; omega
theorem refCells_get {n k : Nat} (h : k < n) : (refCells n)[k * 2]? = some (.int .i64 (k : Int)) ∧ (refCells n)[k * 2 + 1]? = some (.int .i64 1) := by
  induction n with
  | zero => omega
  | succ n ih =>
    have hl := refCells_len n
    rw [refCells_succ]
    by_cases hk : k = n
    · subst hk
      rw [List.getElem?_append_right (by omega), List.getElem?_append_right (by omega), hl]
      simp
    · rw [List.getElem?_append_left (by omega), List.getElem?_append_left (by omega)]
      exact ih (by omega)
theorem strOfNums_append (xs ys : List Int) : strOfNums (xs ++ ys) = strOfNums xs ++ strOfNums ys := by
  apply ByteArray.ext
  simp [strOfNums, ByteArray.data_append]
theorem slb_one (W : World) (x : Int) : SlB (W.alloc (.cells #[.int .u8 x] 5)) (some ⟨W.heap.size, 0, none⟩) 1 1 [x] := by
  refine ⟨⟨rfl, fun i y hy => ?_⟩, .inr ⟨_, rfl⟩⟩
  cases i with
  | zero => simp at hy; subst hy; exact ⟨W.heap.size, 0, rfl, by simp, cell_of_heap (heap_alloc_new W _) 0⟩
  | succ i => simp at hy
/-- One round of making is over but for the reference. -/
def FullM (B : Blk) (k : Nat) (bs : List Int) (w0 : World) (rv v v' : Value) (W : World) : Prop :=
  ∃ b y, (v = .pointer (some ⟨b, 0, none⟩) ∧ v' = .int .i64 0) ∧ W.heap[b]? = some (.cells #[.int .i64 k, .int .i64 1] 35) ∧ (StoreC W B y noP false (k + 1) ∧ FullY y (k + 1) bs) ∧ W.ownsRow w0.heap.size 35 2 rv k (refCells k) ∧ Fr (fun _ => False) w0 W
/-- A row of references is no block that a store turns. -/
theorem refs_frB {w w' : World} {B : Blk} {b n : Nat} {v : Value} {xs : List Value} (h : w.ownsRow b 35 2 v n xs) (F : FrB B w w') : w'.ownsRow b 35 2 v n xs :=
  ownsRow_fr h F fun g c hg hs => absurd (hs.2.1 c 35 _ hg) (by decide)
theorem Tryz.info35 : (Tryz.prog.info? 35).map (fun i => (i.zero, i.size, i.bytes)) = some (some (.agg #[.int .i64 0, .int .i64 0]), 2, 16) := by kernel_rfl
set_option maxHeartbeats 8000000 in
set_option maxRecDepth 100000 in
theorem full_in (la : Option Addr) (ll lc : Nat) (bs : List Int) (w : World) (hT : Tab w) (hsl : SlB w la ll lc bs) (hlb : ∀ b off, la = some ⟨b, off, none⟩ → b < w.heap.size) (hby : ∀ x ∈ bs, 0 ≤ x ∧ x < 256) (hll : ll ≤ 60) :
    Calls Tryz.prog 3 #[.slice la ll lc] w fun e w' => e = .returned (.bool true) ∧ Fr (fun _ => False) w w' := by
  have hT0 := hT.lt
  have hlen := hsl.by_.len
  obtain ⟨i0, hi0, hz0, hz1, hz2⟩ := info_parts Tryz.info35
  obtain ⟨j0, hj0, jz0, jz1, jz2⟩ := info_parts Tryz.info5
  have HT := hid hT
  have H20 := hid (flashnew_ok 60 96 (by omega) (by omega) w)
  have HSL := hid (And.intro hsl (And.intro hlb (And.intro hby hlen)))
  clear hT hsl hlb hby hlen
  go_enter Tryz.func3, Tryz.ntmps3
  go_wp2_with fail
  refine H20.out.mono ?_
  rintro e w1 ⟨rfl, hD, F1⟩
  have HD := hid hD
  have HF1 := hid F1
  clear hD F1
  go_wp2_with fail
  refine (small13_ok _).mono ?_
  rintro e w2 ⟨rfl, F2⟩
  have HF2 := hid (HF1.out.trans F2 (fun _ _ h => h))
  have HD2 := hid (HD.out.fr F2 (fun h => h) (fun h => h) (fun h => h) (fun _ _ _ _ _ h => h))
  clear F2
  go_wp2_with fail
  have H19 := format_c HD2.out HF2.out.size (HT.out.fr HF2.out (fun h => h)) hT0 3 2 4 2 8 0 small13_fits
  refine H19.mono ?_
  rintro e w3 ⟨B, hB, rfl, hS, F3⟩
  have HF3 := hid (HF2.out.trans F3 (fun _ _ h => h))
  have hbase : B.base = w.heap.size := hB.1
  have HB := hid hbase
  have HS := hid hS
  clear hB hS F3 H19 hbase HD HD2 H20 HF2 HF1
  go_wp2_with fail
  go_loopw [5, 6] (fun v i wr => ∃ k : Nat, k ≤ 48 ∧ i = .int .i64 k ∧ (∃ y, StoreC wr B y noP false k ∧ FullY y k bs) ∧ wr.ownsRow w.heap.size 35 2 v k (refCells k) ∧ Fr (fun _ => False) w wr) (fun _ i _ => 48 - (intOf i).toNat)
  case atStart => exact ⟨0, Nat.zero_le _, rfl, ⟨_, HS.out, full_start bs⟩, World.ownsRow_nil _ _ _ _, HF3.out⟩
  case round =>
    obtain ⟨k, hk, rfl, ⟨y, hS, hY⟩, hown, hF⟩ := hrel
    by_cases hlt : k < 48
    · have HS1 := hid (And.intro hS hY)
      have HO := hid (And.intro hown hF)
      have hbw : B.base ≤ wr.heap.size := hS.base_le
      clear hS hY hown hF
      have hd : decide ((k : Int) < 48) = true := by simp; omega
      go_upto_region 10 with fail
      go_cut [7, 8] from 29 to 40 (fun v v' wx => FullM B k bs w u5 v v' wx)
      case first =>
        have hl0 := HSL.out.2.2.2
        have HSB := hid (fun W (F : Fr (fun _ => False) wr W) => (⟨(HSL.out.1.by_.fr HO.out.2 (fun _ _ _ _ h => h)).fr F (fun _ _ _ _ h => h), HSL.out.1.at_⟩ : SlB W la ll lc bs))
        go_wp2_with (at_builtin; refine wpList_append_byts rfl (.tmp 31) (.tmp 32) 22 rfl wr.heap.size 5 j0 _ Tryz.underlying22 hj0 jz0 jz1 jz2 rfl _ _ _ rfl (own_litB _ _ (Nat.le_refl _) _ _ _ (by simp [go_sem])) la ll lc bs rfl (HSB.out _ ((Fr.refl _ _).alloc _)) (by omega) (by simp) ?_)
        intro v1 W1 hown1 hgrow hnil
        try simp only [List.nil_append, Nat.zero_add] at hown1
        have hF1 : Fr (fun _ => False) wr W1 := ((Fr.refl (fun _ => False) wr).alloc _).trans (S' := fun b => b = wr.heap.size) (Fr.of_grownBy hgrow) (fun b hb h => by omega)
        have H1 := hid (And.intro hown1 hF1)
        have hs1 := hF1.size
        clear hown1 hgrow hnil hF1
        go_wp2_with (at_builtin; refine wpList_append_own_at _ rfl (.tmp 33) (.tmp 36) 22 rfl wr.heap.size 5 j0 _ 1 1 Tryz.underlying22 hj0 jz0 jz1 jz2 rfl (by decide) _ _ _ rfl (H1.out.1.alloc _) ⟨W1.heap.size, 0, none⟩ 1 1 [.int .u8 k] rfl rfl (cell_one_new _ _ _) (by simp [Value.oneCell']) (by simp [maxLen]; omega) (by omega) (by simp; omega) ?_)
        intro v2 W2 hown2 hgrow2 hnil2 hat2
        have hF2 : Fr (fun _ => False) wr W2 := (H1.out.2.alloc _).trans (S' := fun b => wr.heap.size ≤ b) ⟨hgrow2.os, hgrow2.tape, hgrow2.output, hgrow2.size, fun b hb hn => hgrow2.block b hb (fun e => hn (by have := (own_block5 H1.out.1 e).1; exact this))⟩ (fun b hb h => by omega)
        have hown2 : W2.ownsRow wr.heap.size 5 1 v2 (ll + 1) ((bs ++ [(k : Int)]).map (Value.int .u8)) := by simpa using hown2
        obtain ⟨va, vc, rfl, hbv⟩ := byv_of_own hown2
        have hS2 := HS1.out.1.fr0 hF2
        have HN := hid (new_c hS2 (hbv.inp B) (by
          intro b hb
          rcases List.mem_append.1 hb with hb | hb
          · exact HSL.out.2.2.1 b hb
          · simp at hb; omega) (by rw [HS1.out.2.room]; omega) (j := k) (by rw [HS1.out.2.pages]; exact hlt) (by rw [HS1.out.2.taken k hlt]; simp) (by omega))
        have H2 := hid hF2
        clear hown2 hgrow2 hnil2 hat2 hF2 hs1 hbv hS2
        go_wp2_with fail
        refine HN.out.mono ?_
        rintro e W3 ⟨n, err, hn, rfl, hw, F3⟩
        obtain ⟨rfl, hY3⟩ := full_next HS1.out.2 hlt hn
        obtain ⟨rfl, hS3⟩ := hw.calm
        have hg1 : refV 0 (n : Int) (y.gen : Int) = .agg #[.int .i64 n, .int .i64 1] := by rw [HS1.out.2.gen]; rfl
        rw [hg1]
        have H3 := hid (And.intro hS3 (And.intro hY3 F3))
        clear hn hw hS3 hY3 F3 hg1 HN
        go_wp2_with fail
        go_meet
        case rel =>
          obtain ⟨hS3, hY3, F3⟩ := H3.out
          have FN : Fr (fun _ => False) W3 (W3.alloc (.cells #[.int .i64 n, .int .i64 1] 35)) := (Fr.refl _ _).alloc _
          have F03 : Fr (fun _ => False) w W3 := FrB.all F3 (by rw [HB.out]; exact Nat.le_refl _) (HO.out.2.trans H2.out (fun _ _ h => h))
          exact ⟨W3.heap.size, _, ⟨rfl, rfl⟩, heap_alloc_new _ _, ⟨hS3.fr0 FN, hY3⟩, refs_frB (refs_frB (refs_frB HO.out.1 (FrB.none (B := B) H2.out)) F3) (FrB.none (B := B) FN), F03.trans FN (fun _ _ h => h)⟩
      case rest =>
        obtain ⟨bx, y', ⟨rfl, rfl⟩, hbx, ⟨hS', hY'⟩, hown', hF'⟩ := hcut
        obtain ⟨x0, x1, xz, xl⟩ := cells2 hbx
        have HHE := hid (held_c hS')
        have HS2 := hid (And.intro hS' hY')
        have HO2 := hid (And.intro hown' hF')
        have HBX := hid hbx
        have sz := hF'.size
        clear hS' hY' hown' hF' hbx
        go_wp2_with fail
        refine HHE.out.mono ?_
        rintro e W4 ⟨c, rfl, hc, rfl⟩
        have hc8 : c ≤ 8 := by rw [HS2.out.2.places] at hc; exact hc
        have hd8 : decide ((8 : Int) < (c : Int)) = false := by simp; omega
        clear hc
        go_wp2_with (at_builtin; refine wpList_append_own_at _ rfl (.tmp 54) (.tmp 56) 33 rfl w.heap.size 35 i0 _ 2 16 Tryz.underlying33 hi0 hz0 hz1 hz2 rfl (by decide) _ _ _ rfl (HO2.out.1.alloc _) ⟨wc.heap.size, 0, none⟩ 1 1 [.int .i64 k, .int .i64 1] rfl rfl (World.news_of_block (cs := #[.int .i64 k, .int .i64 1]) (t := 35) (fr := (0, 0)) (heap_alloc_new _ _)) (by simp [Value.oneCell']) (by simp [maxLen]; omega) (by omega) (by simp; omega) ?_)
        intro v5 W5 hown5 hgrow5 hnil5 hat5
        have hF5 : Fr (fun _ => False) w W5 := (HO2.out.2.alloc _).trans (S' := fun b => w.heap.size ≤ b) ⟨hgrow5.os, hgrow5.tape, hgrow5.output, hgrow5.size, fun b hb hn => hgrow5.block b hb (fun e => hn (HO2.out.1.lt b e.symm).1)⟩ (fun b hb h => by omega)
        have hS5 := HS2.out.1.grown HO2.out.1 (by decide) hT0 hgrow5
        have H5 := hid (And.intro hS5 (And.intro hown5 hF5))
        clear hown5 hgrow5 hnil5 hat5 hF5 hS5
        go_wp2
        go_roundw
        case rel => exact ⟨k + 1, by omega, by go_num, ⟨_, H5.out.1, HS2.out.2⟩, by rw [refCells_succ]; exact H5.out.2.1, H5.out.2.2⟩
        case measure => simp [intOf]; omega
    · obtain rfl : k = 48 := by omega
      have HS1 := hid (And.intro hS hY)
      have HO := hid (And.intro hown hF)
      clear hS hY hown hF
      have HFull := hid (new_full_c HS1.out.1 la ll lc (by rw [HS1.out.2.room]; omega) (by
        rw [HS1.out.2.pages]
        intro i _ hi _
        rw [HS1.out.2.taken i hi]; simpa using hi))
      go_wp2_with fail
      refine HFull.out.mono ?_
      rintro e W2 ⟨rfl, F2⟩
      have HS2 := hid (HS1.out.1.fr0 F2)
      have HO2 := hid (And.intro (refs_frB HO.out.1 (FrB.none (B := B) F2)) (HO.out.2.trans F2 (fun _ _ h => h)))
      obtain ⟨rg, rcap, rfl⟩ := ownsRow_succ (show W2.ownsRow w.heap.size 35 2 u5 (47 + 1) _ from HO2.out.1)
      clear F2 HO HFull
      go_wp2_with fail
      go_loopw [11] (fun i wr => ∃ k : Nat, k ≤ 48 ∧ i = .int .i64 k ∧ StoreC wr B y noP false (48 + k) ∧ wr.ownsRow w.heap.size 35 2 (.slice (some ⟨rg, 0, none⟩) (47 + 1) rcap) (47 + 1) (refCells 48) ∧ Fr (fun _ => False) w wr) (fun i _ => 48 - (intOf i).toNat)
      case atStart => exact ⟨0, Nat.zero_le _, rfl, HS2.out.fr0 ((Fr.refl _ _).alloc _), refs_frB HO2.out.1 (FrB.none (B := B) ((Fr.refl _ _).alloc _)), HO2.out.2.alloc _⟩
      case round =>
        obtain ⟨k, hk, rfl, hS, hown, hF⟩ := hrel
        by_cases hlt : k < 48
        · obtain ⟨q0, q1⟩ := refCells_get hlt
          have r0 := (hown.cellAt (k * 2) (by omega)).trans q0
          have r1 := (hown.cellAt (k * 2 + 1) (by omega)).trans q1
          have hd : decide ((k : Int) < 48) = true := by simp; omega
          have HR := hid (read_c hS k 1 (HS1.out.2.cont k hlt) (by omega))
          have HO3 := hid (And.intro hown hF)
          clear hS hown hF q0 q1
          go_wp2_with fail
          refine HR.out.mono ?_
          rintro e W3 ⟨err, hw, F3, -, -, h3⟩
          obtain ⟨rfl, hS3⟩ := hw.calm
          obtain ⟨xa, xc, rfl, hbv⟩ := h3 rfl rfl
          have F03 : Fr (fun _ => False) w W3 := FrB.all F3 (by rw [HB.out]; exact Nat.le_refl _) HO3.out.2
          have hc1 : (convert 22 9 (.slice xa (bs.length + 1) xc)).run Tryz.prog W3 = .ok (.string (strOfNums bs ++ strOfNums [(k : Int)])) W3 := by
            have h1 := str_at hbv.slb 9 Tryz.underlying9
            rw [strOfNums_append, List.length_append] at h1
            exact h1
          have hc2 : (convert 22 9 (.slice la ll lc)).run Tryz.prog W3 = .ok (.string (strOfNums bs)) W3 :=
            str_at ⟨HSL.out.1.by_.fr F03 (fun _ _ _ _ h => h), HSL.out.1.at_⟩ 9 Tryz.underlying9
          have hc3 : (convert 22 9 (.slice (some ⟨W3.heap.size, 0, none⟩) 1 1)).run Tryz.prog (W3.alloc (.cells #[.int .u8 k] 5)) = .ok (.string (strOfNums [(k : Int)])) (W3.alloc (.cells #[.int .u8 k] 5)) :=
            str_at (slb_one W3 k) 9 Tryz.underlying9
          have FA : Fr (fun _ => False) W3 (W3.alloc (.cells #[.int .u8 k] 5)) := (Fr.refl _ _).alloc _
          have hsz : (strOfNums bs).size + (strOfNums [(k : Int)]).size ≤ 9223372036854775807 := by rw [strOfNums_size, strOfNums_size, HSL.out.2.2.2]; simp; omega
          have HHE := hid (held_c (hS3.fr0 FA))
          have H3 := hid (And.intro (hS3.fr0 FA) (And.intro (refs_frB (refs_frB HO3.out.1 F3) (FrB.none (B := B) FA)) (F03.trans FA (fun _ _ h => h))))
          clear hw h3 hbv F3 F03 hS3 FA HR
          go_wp2_with fail
          refine HHE.out.mono ?_
          rintro e W4 ⟨c, rfl, hc, rfl⟩
          have hc8 : c ≤ 8 := by rw [HS1.out.2.places] at hc; exact hc
          have hd8 : decide ((8 : Int) < (c : Int)) = false := by simp; omega
          clear hc hc1 hc2 hc3
          go_wp2
          go_roundw
          case rel => exact ⟨k + 1, by omega, by go_num, H3.out.1, H3.out.2.1, H3.out.2.2⟩
          case measure => simp [intOf]; omega
        · obtain rfl : k = 48 := by omega
          have HF := hid hF
          have HA := hid (awake13_ok wr (HT.out.fr hF (fun h => h)))
          clear hS hown hF
          go_wp2_with fail
          refine HA.out.mono ?_
          rintro e W3 ⟨rfl, F3⟩
          have HF3 := hid F3
          clear F3
          go_wp2
          go_ret
          exact ⟨rfl, HF.out.trans HF3.out (fun _ _ h => h)⟩
/-- StoreFull answers true. -/
theorem storeFull_walk (la : Option Addr) (ll lc : Nat) (bs : List Int) (w : World) (hT : Tab w) (hsl : SlB w la ll lc bs) (hlb : ∀ b off, la = some ⟨b, off, none⟩ → b < w.heap.size) (hby : ∀ x ∈ bs, 0 ≤ x ∧ x < 256) :
    Calls Tryz.prog 3 #[.slice la ll lc] w fun e w' => e = .returned (.bool true) ∧ Fr (fun _ => False) w w' := by
  by_cases hll : ll ≤ 60
  · exact full_in la ll lc bs w hT hsl hlb hby hll
  · have hgt : decide ((60 : Int) < (ll : Int)) = true := by simp; omega
    clear hT hsl hlb hby
    go_enter Tryz.func3, Tryz.ntmps3
    go_wp2
    go_ret
    exact ⟨rfl, Fr.refl _ _⟩
end Go.Proofs.YtgdhaaokolfdoaaGreatDoor

/- Chapter 15's pages of references: parse. Conditions: the bytes are those of a page. -/
namespace Go.Sg
def refC (x : Int × Int) : List Value := [.int .i64 x.1, .int .i64 x.2]
theorem own_blockT {w : World} {base n size e : Nat} {v : Value} {xs : List Value} (h : w.ownsRow base e size v n xs) {g : Nat} (hg : some g = v.ownBlock) : base ≤ g ∧ ∃ c, w.heap[g]? = some (.cells c e) := by
  obtain ⟨_, ⟨rfl, _⟩ | ⟨g', cap, cur, rfl, hb, hgc, _⟩⟩ := h
  · simp [Value.ownBlock] at hg
  · have : g = g' := by simpa [Value.ownBlock] using hg
    subst this
    exact ⟨hb, _, hgc⟩
theorem refsC_len (l : List (Int × Int)) : (l.flatMap refC).length = l.length * 2 := by
  induction l with
  | nil => rfl
  | cons x l ih => simp only [List.flatMap_cons, List.length_append, List.length_cons, ih, refC]; simp; omega
end Go.Sg
namespace Go.Proofs.YtgdhaaokolfdoaaGreatDoor
open Go.RowKit Go.Sg CP SF
/-- A row of references of one's own. -/
abbrev OwnR (w : World) (base : Nat) (v : Value) (l : List (Int × Int)) : Prop := w.ownsRow base 35 2 v l.length (l.flatMap refC)
def ParseP (l : List (Int × Int)) (w : World) (e : Ending) (w' : World) : Prop := ∃ v, e = .returned (.tuple #[v, .int .i64 0]) ∧ OwnR w' w.heap.size v l ∧ Fr (fun _ => False) w w'
def NumP (r : Nat) (bs : List Int) (k : Nat) (w : World) (e : Ending) (w' : World) : Prop := e = .returned (.int .u64 (leV (bs.take k))) ∧ RdAt w' r (bs.drop k) false ∧ Fr (fun b => b = r) w w'
theorem num_p {w : World} {r : Nat} {bs : List Int} (h : RdAt w r bs false) (hby : ∀ x ∈ bs, 0 ≤ x ∧ x < 256) (k : Nat) (kz : Int) (hkz : kz = k) (hk : k = 1 ∨ k = 2 ∨ k = 4 ∨ k = 8) (hm : k ≤ bs.length) :
    Calls Tryz.prog 216 #[.pointer (some ⟨r, 0, none⟩), .int .i64 kz] w (NumP r bs k w) := by
  subst hkz; exact num_ok h hby k hk hm
theorem refB_byte (x : Int × Int) : ∀ z ∈ refB x, 0 ≤ z ∧ z < 256 := fun z hz => by
  rcases List.mem_append.1 hz with h | h <;> exact Sg.leB_byte _ _ z h
theorem loadM_byte (l : List (Int × Int)) : ∀ z ∈ loadM l, 0 ≤ z ∧ z < 256 := fun z hz => by
  obtain ⟨x, _, h⟩ := List.mem_flatMap.1 hz
  exact refB_byte x z h
theorem loadM_drop {l : List (Int × Int)} {k p q : Nat} (h : l[k]? = some ((p : Int), (q : Int))) : loadM (l.drop k) = Sg.leB p 4 ++ (Sg.leB q 8 ++ loadM (l.drop (k + 1))) := by
  have hk := (List.getElem?_eq_some_iff.1 h).1
  have e : l[k] = ((p : Int), (q : Int)) := (List.getElem?_eq_some_iff.1 h).2
  rw [List.drop_eq_getElem_cons hk, e]
  simp [loadM, refB]
theorem take_leB (n k : Nat) (t : List Int) : (Sg.leB n k ++ t).take k = Sg.leB n k := by
  rw [List.take_append_of_le_length (by rw [leB_length]; exact Nat.le_refl _), List.take_of_length_le (by rw [leB_length]; exact Nat.le_refl _)]
theorem drop_leB (n k : Nat) (t : List Int) : (Sg.leB n k ++ t).drop k = t := by
  rw [List.drop_append_of_le_length (by rw [leB_length]; exact Nat.le_refl _), List.drop_of_length_le (by rw [leB_length]; exact Nat.le_refl _)]; rfl
def NewRdP (bs : List Int) (w : World) (e : Ending) (w' : World) : Prop := ∃ r, e = .returned (.pointer (some ⟨r, 0, none⟩)) ∧ RdAt w' r bs false ∧ w.heap.size ≤ r ∧ Fr (fun _ => False) w w'
set_option maxHeartbeats 4000000 in
set_option maxRecDepth 100000 in
theorem parse_ok {w : World} {a : Option Addr} {c n : Nat} {l : List (Int × Int)} (h : SlB w a (12 * n) c (loadM l)) (hr : ∀ x ∈ l, rightR x) (hn : l.length = n) (hn1 : n ≤ 64) :
    Calls Tryz.prog 181 #[.slice a (12 * n) c, .int .i64 n] w (ParseP l w) := by
  obtain ⟨i0, hi0, hz0, hz1, hz2⟩ := info_parts Tryz.info35
  have HR := hid (And.intro hr hn)
  have HNW := hid (show Calls Tryz.prog 215 #[.slice a (12 * n) c] w (NewRdP (loadM l) w) from newreader_ok h (by omega))
  clear h hr hn
  go_enter Tryz.func181, Tryz.ntmps181
  go_wp2_with (go_at_call 215; refine HNW.out.mono ?_)
  rintro e w1 ⟨r, rfl, hW, hrb, F1⟩
  have HW1 := hid (And.intro hW F1)
  clear hW F1
  go_wp2_with fail
  go_loopw [7, 17] (fun v i wr => ∃ k : Nat, k ≤ n ∧ i = .int .i64 k ∧ RdAt wr r (loadM (l.drop k)) false ∧ OwnR wr w.heap.size v (l.take k) ∧ Fr (fun _ => False) w wr) (fun _ i _ => n - (intOf i).toNat)
  case atStart => exact ⟨0, Nat.zero_le _, rfl, HW1.out.1, World.ownsRow_nil _ _ _ _, HW1.out.2⟩
  case round =>
    obtain ⟨k, hk, rfl, hW, hown, F⟩ := hrel
    have HW := hid (And.intro hW (And.intro hown F))
    by_cases hlt : k < n
    · have hx : l[k]? = some (l[k]'(by rw [HR.out.2]; exact hlt)) := List.getElem?_eq_getElem _
      generalize l[k]'(by rw [HR.out.2]; exact hlt) = x at hx
      have hrx := HR.out.1 x (List.mem_of_getElem? hx)
      obtain ⟨z1, z2⟩ := x
      obtain ⟨p, rfl⟩ := Int.eq_ofNat_of_zero_le hrx.1
      obtain ⟨q, rfl⟩ := Int.eq_ofNat_of_zero_le hrx.2.2.1
      have hp1 : p ≤ 2147483647 := by have := hrx.2.1; simp only at this; omega
      have hq1 : q < 9223372036854775808 := by have := hrx.2.2.2; simp only at this; omega
      have hd : decide ((k : Int) < (n : Int)) = true := by simp; omega
      have hW' := hW
      rw [loadM_drop hx] at hW'
      have HN1 := hid (num_p hW' (by rw [← loadM_drop hx]; exact loadM_byte _) 4 4 (by simp) (by omega) (by rw [List.length_append, leB_length]; omega))
      have HX := hid hx
      have HRX := hid hrx
      clear hx hW hW' hown F hrx
      go_wp2_with (go_at_call 216; refine HN1.out.mono ?_)
      rintro e W2 ⟨rfl, hR2, F2⟩
      rw [take_leB, leV_leB 4 p (by omega)]
      rw [drop_leB] at hR2
      have hwl := lt_of_heap (show wr.heap[r]? = some _ from HW.out.1.ex.choose_spec.choose_spec.1)
      have HN2 := hid (num_p hR2 (fun z hz => loadM_byte l z (by
        have : z ∈ loadM (l.drop k) := by rw [loadM_drop HX.out]; exact List.mem_append_right _ hz
        obtain ⟨y, hy, hz'⟩ := List.mem_flatMap.1 this
        exact List.mem_flatMap.2 ⟨y, List.mem_of_mem_drop hy, hz'⟩)) 8 8 (by simp) (by omega) (by rw [List.length_append, leB_length]; omega))
      have H2 := hid F2
      have hcp : IntKind.i64.wrap (p : Int) = (p : Int) := by rw [IntKind.wrap_i64]; omega
      have hcq : IntKind.i64.wrap (q : Int) = (q : Int) := by rw [IntKind.wrap_i64]; omega
      clear hR2 F2 HN1
      go_wp2_with (go_at_call 216; refine HN2.out.mono ?_)
      rintro e W3 ⟨rfl, hR3, F3⟩
      rw [take_leB, leV_leB 8 q (by omega)]
      rw [drop_leB] at hR3
      have F13 : Fr (fun b => b = r) wr W3 := H2.out.trans F3 (fun _ _ h => h)
      have hown3 : OwnR W3 w.heap.size u7 (l.take k) := ownsRow_fr HW.out.2.1 F13 (fun g cs hg e => by rw [e, HW.out.1.ex.choose_spec.choose_spec.1] at hg; cases hg)
      have H3 := hid (And.intro hR3 (And.intro F13 hown3))
      clear hR3 F3 F13 hown3
      go_upto_region 8 with fail
      obtain ⟨W4, hW4⟩ : ∃ W4, W3.alloc (.cells #[.int .i64 p, .int .i64 q] 35) = W4 := ⟨_, rfl⟩
      rw [hW4]
      have F4 : Fr (fun _ => False) W3 W4 := by rw [← hW4]; exact (Fr.refl _ _).alloc _
      have j9 : W4.heap[W3.heap.size]? = some (.cells #[.int .i64 p, .int .i64 q] 35) := by rw [← hW4]; exact heap_alloc_new _ _
      have H4 := hid (And.intro F4 j9)
      obtain ⟨e0, e1, ez, el⟩ := cells2 j9
      clear F4 j9 hW4
      have hrt := right_dir_ok (p : Int) (q : Int) W4
      unfold RightP at hrt
      rw [show rightM (p : Int) (q : Int) = true by simp [rightM]; omega] at hrt
      have HRT := hid hrt
      clear hrt
      go_wp2_with (go_at_call 117; refine HRT.out.mono ?_)
      rintro e W5 ⟨rfl, F5⟩
      have j9 := F5.heap H4.out.2 (fun h => h)
      have H5 := hid (And.intro (H4.out.1.trans F5 (fun _ _ h => h)) j9)
      clear e0 e1 ez el
      obtain ⟨e0, e1, ez, el⟩ := cells2 j9
      clear F5 j9
      have hown5 : OwnR W5 w.heap.size u7 (l.take k) := ownsRow_fr H3.out.2.2 H5.out.1 (fun _ _ _ h => h)
      have hR5 : RdAt W5 r (loadM (l.drop (k + 1))) false := H3.out.1.fr H5.out.1 (fun h => h) (fun _ _ _ h => h)
      have hlen : (l.take k).length = k := by rw [List.length_take, HR.out.2]; omega
      have F15 : Fr (fun _ => False) w W5 := (HW.out.2.2.trans H3.out.2.1 (fun b hb e => by subst e; omega)).trans H5.out.1 (fun _ _ h => h)
      have H6 := hid (And.intro hown5 (And.intro hR5 F15))
      have HLN := hid hlen
      have hsz : w.heap.size ≤ W5.heap.size := F15.size
      clear hown5 hR5 F15 hlen HRT
      go_wp2_with (at_builtin; refine wpList_append_own_at _ rfl (.tmp 29) (.tmp 31) 33 rfl w.heap.size 35 i0 _ 2 16 Tryz.underlying33 hi0 hz0 hz1 hz2 rfl (by decide) _ _ _ rfl (H6.out.1.alloc _) ⟨W5.heap.size, 0, none⟩ 1 1 [.int .i64 p, .int .i64 q] rfl rfl (World.news_of_block (cs := #[.int .i64 p, .int .i64 q]) (t := 35) (fr := (0, 0)) (heap_alloc_new _ _)) (by simp [Value.oneCell']) (by rw [HLN.out]; simp [maxLen]; omega) (by have := HLN.out; omega) (by simp; omega) ?_)
      intro v2 W2 hown2 hgrow2 hnil2 hat2
      have hF2 : Fr (fun b => some b = u7.ownBlock) W5 W2 := ((Fr.refl _ _).alloc _).trans (S' := fun b => some b = u7.ownBlock) ⟨hgrow2.os, hgrow2.tape, hgrow2.output, hgrow2.size, fun b hb hn => hgrow2.block b hb hn⟩ (fun b hb h => h)
      have hR7 : RdAt W2 r (loadM (l.drop (k + 1))) false := H6.out.2.1.fr hF2 (fun e => by
        obtain ⟨_, c, hc⟩ := own_blockT H6.out.1 e
        obtain ⟨a, c', h1, _⟩ := H6.out.2.1.ex
        rw [hc] at h1; cases h1) (fun b c hb e => by
        obtain ⟨_, c', hc⟩ := own_blockT H6.out.1 e
        rw [hc] at hb; cases hb)
      have hF7 : Fr (fun _ => False) w W2 := H6.out.2.2.trans hF2 (fun b hb e => by have := (own_blockT H6.out.1 e).1; omega)
      have H7 := hid (And.intro hown2 (And.intro hR7 hF7))
      clear hown2 hgrow2 hnil2 hat2 hF2 hR7 hF7
      go_wp2_with fail
      go_roundw
      case rel =>
        refine ⟨k + 1, hlt, by go_num, H7.out.2.1, ?_, H7.out.2.2⟩
        have e1 : l.take (k + 1) = l.take k ++ [((p : Int), (q : Int))] := by rw [List.take_add_one, HX.out]; rfl
        have e2 : (l.take (k + 1)).flatMap refC = (l.take k).flatMap refC ++ [.int .i64 p, .int .i64 q] := by rw [e1, List.flatMap_append]; rfl
        have e3 : (l.take (k + 1)).length = (l.take k).length + 1 := by rw [e1, List.length_append]; rfl
        show W2.ownsRow _ 35 2 _ (l.take (k + 1)).length ((l.take (k + 1)).flatMap refC)
        rw [e2, e3, List.length_take]
        exact H7.out.1
      case measure => simp [intOf]; omega
    · obtain rfl : k = n := by omega
      have hd : decide ((k : Int) < (k : Int)) = false := by simp
      clear hW hown F
      go_wp2_with fail
      go_ret2
      have e1 : l.take k = l := List.take_of_length_le (by rw [HR.out.2]; exact Nat.le_refl _)
      have := HW.out.2.1
      rw [e1] at this
      exact ⟨_, rfl, this, HW.out.2.2⟩
end Go.Proofs.YtgdhaaokolfdoaaGreatDoor

/- Chapter 15's directory: what its pages hold; slots that are set. The plain side. Conditions: none. -/
namespace Go.Sg
abbrev Rf := Int × Int
/-- The references of the i-th page. -/
def chunk (l : List Rf) (per i : Nat) : List Rf := (l.drop (i * per)).take per
theorem chunk_get {l : List Rf} {per i k : Nat} (hk : k < per) : (chunk l per i)[k]? = l[i * per + k]? := by
  rw [chunk, List.getElem?_take, if_pos hk, List.getElem?_drop]
theorem chunk_len (l : List Rf) (per i : Nat) : (chunk l per i).length = min per (l.length - i * per) := by
  rw [chunk, List.length_take, List.length_drop]
/-- These slots got r. -/
def setM (l : List Rf) (L : List Nat) (r : Rf) : List Rf := L.foldl (fun l n => l.set n r) l
theorem setM_len (L : List Nat) (r : Rf) : ∀ l : List Rf, (setM l L r).length = l.length := by
  induction L with
  | nil => intro l; rfl
  | cons n L ih => intro l; rw [setM, List.foldl_cons]; exact (ih _).trans (by simp)
theorem setM_get (L : List Nat) (r : Rf) : ∀ (l : List Rf) (i : Nat), (setM l L r)[i]? = if i ∈ L then (l[i]?).map (fun _ => r) else l[i]? := by
  induction L with
  | nil => intro l i; simp [setM]
  | cons n L ih =>
    intro l i
    have h1 : (setM l (n :: L) r) = setM (l.set n r) L r := rfl
    have h2 : (l.set n r)[i]? = if i = n then (l[i]?).map (fun _ => r) else l[i]? := by
      rw [List.getElem?_set]
      by_cases e : n = i
      · subst e
        rw [if_pos rfl, if_pos rfl]
        by_cases hl : n < l.length
        · rw [if_pos hl, List.getElem?_eq_getElem hl]; rfl
        · rw [if_neg hl, List.getElem?_eq_none (by omega)]; rfl
      · rw [if_neg e, if_neg (fun h => e h.symm)]
    rw [h1, ih, h2]
    by_cases hi : i ∈ L
    · rw [if_pos hi, if_pos (List.mem_cons_of_mem _ hi)]
      split
      · cases l[i]? <;> rfl
      · rfl
    · rw [if_neg hi]
      by_cases e : i = n
      · rw [if_pos e, if_pos (by simp [e])]
      · rw [if_neg e, if_neg (by simp [e, hi])]
theorem setM_ext {l l' : List Rf} (h : ∀ i : Nat, l[i]? = l'[i]?) : l = l' := List.ext_getElem? h
theorem setM_perm {l : List Rf} {L L' : List Nat} {r : Rf} (h : ∀ n, n ∈ L ↔ n ∈ L') : setM l L r = setM l L' r :=
  setM_ext fun i => by rw [setM_get, setM_get]; simp only [h]
theorem setM_append (l : List Rf) (L L' : List Nat) (r : Rf) : setM l (L ++ L') r = setM (setM l L r) L' r := by simp [setM]
theorem setM_right {l : List Rf} {L : List Nat} {r : Rf} (h : ∀ x ∈ l, rightR x) (hr : rightR r) : ∀ x ∈ setM l L r, rightR x := by
  intro x hx
  obtain ⟨i, hi, rfl⟩ := List.mem_iff_getElem.1 hx
  have h1 := setM_get L r l i
  rw [List.getElem?_eq_getElem hi] at h1
  split at h1
  · cases hl : l[i]? with
    | none => rw [hl] at h1; cases h1
    | some v => rw [hl] at h1; rw [show (setM l L r)[i] = r from Option.some.inj h1]; exact hr
  · exact h _ (List.mem_of_getElem? h1.symm)
/-- A page of slots that were set. -/
theorem chunk_set {l : List Rf} {per i : Nat} {L : List Nat} {r : Rf} (h : ∀ n ∈ L, n / per = i) (hp : 0 < per) : chunk (setM l L r) per i = setM (chunk l per i) (L.map (· % per)) r := by
  refine setM_ext fun k => ?_
  rw [setM_get]
  by_cases hk : k < per
  · rw [chunk_get hk, setM_get, chunk_get hk]
    have e : i * per + k ∈ L ↔ k ∈ L.map (· % per) := by
      rw [List.mem_map]
      constructor
      · intro h1; exact ⟨_, h1, by rw [Nat.mul_comm, Nat.mul_add_mod]; exact Nat.mod_eq_of_lt hk⟩
      · rintro ⟨n, hn, rfl⟩
        have h1 := h n hn
        have h2 := Nat.div_add_mod n per
        rw [h1, Nat.mul_comm] at h2
        rw [h2]; exact hn
    simp only [e]
  · rw [chunk, List.getElem?_take, if_neg hk, chunk, List.getElem?_take, if_neg hk]
    simp
theorem chunk_other {l : List Rf} {per i j : Nat} {L : List Nat} {r : Rf} (h : ∀ n ∈ L, n / per = i) (hij : j ≠ i) : chunk (setM l L r) per j = chunk l per j := by
  refine setM_ext fun k => ?_
  by_cases hk : k < per
  · rw [chunk_get hk, chunk_get hk, setM_get, if_neg]
    intro hm
    have h1 := h _ hm
    rw [Nat.mul_comm, Nat.mul_add_div (by omega), Nat.div_eq_of_lt hk] at h1
    omega
  · rw [chunk, List.getElem?_take, if_neg hk, chunk, List.getElem?_take, if_neg hk]
/-- All pages, one behind the other. -/
theorem chunks_all (l : List Rf) (per : Nat) (hp : 0 < per) : ∀ n : Nat, (List.range n).flatMap (chunk l per) = l.take (n * per) := by
  intro n
  induction n with
  | zero => simp
  | succ n ih =>
    rw [List.range_succ, List.flatMap_append, ih]
    simp only [List.flatMap_cons, List.flatMap_nil, List.append_nil, chunk]
    rw [Nat.succ_mul, List.take_add]
theorem map_sw_set {l : List Nat} (h : l.Nodup) {k n m : Nat} (hk : l[k]? = some n) : l.map (sw n m) = l.set k m := by
  refine List.ext_getElem? fun j => ?_
  rw [List.getElem?_map, List.getElem?_set]
  by_cases e : k = j
  · subst e
    rw [hk, if_pos rfl, if_pos (List.getElem?_eq_some_iff.1 hk).1]
    simp [sw]
  · rw [if_neg e]
    cases hj : l[j]? with
    | none => rfl
    | some v =>
      have : v ≠ n := by
        rintro rfl
        exact e ((List.getElem?_inj (List.getElem?_eq_some_iff.1 hk).1 h).1 (hk.trans hj.symm))
      simp [sw, this]
end Go.Sg
namespace Go.Proofs.YtgdhaaokolfdoaaGreatDoor
open Go.RowKit Go.Sg Go.Sg.Bits Go.Sg.Clk CP SF
/-- A directory's own pages: the root, and those of references. -/
def pgs (rp : Int) (tops : List Rf) : List Nat := rp.toNat :: tops.map (fun r => r.1.toNat)
/-- A directory's sizes. -/
structure DirZ (y : Cs) (x : DirD) : Prop where
  most : x.depth ≤ x.most ∧ x.most ≤ 20
  per : 0 < x.per ∧ 12 * x.per ≤ y.room
  fits : ∀ d, d ≤ x.most → 12 * ((2 ^ d + x.per - 1) / x.per) ≤ y.room
  room : y.room ≤ 493
/-- The pages of references hold these slots. -/
structure LeafC (c : Cont) (per : Nat) (tops slots : List Rf) : Prop where
  sr : ∀ r ∈ slots, rightR r
  tr : ∀ r ∈ tops, rightR r
  at_ : ∀ (i : Nat) r, tops[i]? = some r → c r.1 = some (r.2.toNat, loadM (chunk slots per i))
structure DirC (y : Cs) (x : DirD) (tops slots : List Rf) : Prop where
  z : DirZ y x
  slen : slots.length = x.slots
  tlen : tops.length = x.leaves
  leaf : LeafC y.cont x.per tops slots
  rr : 0 ≤ x.rp ∧ 0 ≤ x.rs
  root : y.cont x.rp = some (x.rs.toNat, loadM tops)
theorem DirZ.leaves {y : Cs} {x : DirD} (h : DirZ y x) : 12 * x.leaves ≤ y.room := h.fits x.depth h.most.1
theorem DirZ.le41 {y : Cs} {x : DirD} (h : DirZ y x) : x.leaves ≤ 41 ∧ x.per ≤ 41 := by
  have h1 := h.leaves
  have h2 := h.per.2
  have h3 := h.room
  omega
theorem DirZ.slots_le {y : Cs} {x : DirD} (h : DirZ y x) : x.slots ≤ x.leaves * x.per := by
  unfold DirD.leaves
  have h1 := h.per.1
  have h2 := Nat.div_add_mod (x.slots + x.per - 1) x.per
  have h3 := Nat.mod_lt (x.slots + x.per - 1) h1
  rw [Nat.mul_comm] at h2
  omega
theorem DirZ.lt_slots {y : Cs} {x : DirD} (h : DirZ y x) {i : Nat} (hi : i < x.leaves) : i * x.per < x.slots := by
  unfold DirD.leaves at hi
  have h1 := h.per.1
  have h2 : (i + 1) * x.per ≤ x.slots + x.per - 1 := (Nat.le_div_iff_mul_le h1).1 hi
  rw [Nat.succ_mul] at h2
  omega
theorem DirC.chunk_in {y : Cs} {x : DirD} {tops slots : List Rf} (h : DirC y x tops slots) (i : Nat) : (chunk slots x.per i).length = x.in_ i := by
  rw [chunk_len, h.slen]; rfl
theorem chunk_right {l : List Rf} (h : ∀ r ∈ l, rightR r) (per i : Nat) : ∀ r ∈ chunk l per i, rightR r := fun r hr => h r (List.mem_of_mem_drop (List.mem_of_mem_take hr))
theorem DirC.slots_all {y : Cs} {x : DirD} {tops slots : List Rf} (h : DirC y x tops slots) : (List.range x.leaves).flatMap (chunk slots x.per) = slots := by
  rw [chunks_all _ _ h.z.per.1, List.take_of_length_le (by rw [h.slen]; exact h.z.slots_le)]
end Go.Proofs.YtgdhaaokolfdoaaGreatDoor
