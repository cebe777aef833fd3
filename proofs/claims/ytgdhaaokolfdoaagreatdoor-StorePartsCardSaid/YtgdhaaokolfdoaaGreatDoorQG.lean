/- A pack of texts: FU, OB. Conditions: those that each text names. -/
import Derived.Test.YtgdhaaokolfdoaaGreatDoorQF
import Derived.Test.YtgdhaaokolfdoaaGreatDoorQA
import Derived.ChangeSlices
import Derived.OpenShut
import Derived.WideShapes
/- StoreFull: what the law computes. Conditions: the table of the bits lies in the world. -/
namespace Go.Proofs.YtgdhaaokolfdoaaGreatDoor
open Go.RowKit Go.Sg Go.Sg.Bits Go.Sg.Clk CP SF
abbrev noP : Prot := fun _ => none
/-- The store behind k pages were made. -/
structure FullY (y : Cs) (k : Nat) (bs : List Int) : Prop where
  pages : y.pages = 48
  room : y.room = 77
  gen : y.gen = 1
  places : y.places = 8
  hand : y.hand = k % 48
  taken : ∀ j, j < 48 → y.taken j = decide (j < k)
  cont : ∀ j : Nat, j < k → y.cont j = some (1, bs ++ [(j : Int)])
theorem full_start (bs : List Int) : FullY (openY small13 0 (Dev.fresh 60 96) (fun _ => none)) 0 bs :=
  ⟨by decide +kernel, rfl, rfl, rfl, rfl, fun j _ => by simp [openY, openX, Sto.cs], fun j hj => by omega⟩
theorem full_next {y : Cs} {k n : Nat} {bs : List Int} (h : FullY y k bs) (hk : k < 48) (hn : TakeIs y.taken y.pages y.hand n) : n = k ∧ FullY (y.new k (bs ++ [(k : Int)])) (k + 1) bs := by
  have e : n = k := by
    rw [h.hand, h.pages, Nat.mod_eq_of_lt hk] at hn
    exact take_first hn (Nat.le_refl _) hk (by rw [h.taken k hk]; simp) (fun j h1 h2 => by omega)
  refine ⟨e, h.pages, h.room, h.gen, h.places, by simp [Cs.new, h.pages], fun j hj => ?_, fun j hj => ?_⟩
  · simp only [Cs.new, upd]
    split
    · rename_i e; subst e; simp
    · rename_i e; rw [h.taken j hj]; simp; omega
  · simp only [Cs.new, updC, h.gen]
    split
    · rename_i e; have : j = k := by omega
      subst this; rfl
    · rename_i e; exact h.cont j (by omega)
/-- The references that were given. -/
def refCells (k : Nat) : List Value := (List.range k).flatMap fun (j : Nat) => [Value.int .i64 (j : Int), Value.int .i64 1]
theorem refCells_succ (k : Nat) : refCells (k + 1) = refCells k ++ [.int .i64 (k : Int), .int .i64 1] := by simp [refCells, List.range_succ]
theorem refCells_len (k : Nat) : (refCells k).length = k * 2 := by
  induction k with
  | zero => rfl
  | succ k ih => rw [refCells_succ, List.length_append, ih]; simp; omega
theorem refCells_get {n k : Nat} (h : k < n) : (refCells n)[k * 2]? = some (.int .i64 (k : Int)) ∧ (refCells n)[k * 2 + 1]? = some (.int .i64 1) := by
  induction n with
  | zero => omega
  | succ n ih =>
    have hl := refCells_len n
    rw [refCells_succ]
    by_cases hk : k = n
    · subst hk
      rw [List.getElem?_append_right (by omega), List.getElem?_append_right (by omega), hl]
      simp
    · rw [List.getElem?_append_left (by omega), List.getElem?_append_left (by omega)]
      exact ih (by omega)
theorem strOfNums_append (xs ys : List Int) : strOfNums (xs ++ ys) = strOfNums xs ++ strOfNums ys := by
  apply ByteArray.ext
  simp [strOfNums, ByteArray.data_append]
theorem slb_one (W : World) (x : Int) : SlB (W.alloc (.cells #[.int .u8 x] 5)) (some ⟨W.heap.size, 0, none⟩) 1 1 [x] := by
  refine ⟨⟨rfl, fun i y hy => ?_⟩, .inr ⟨_, rfl⟩⟩
  cases i with
  | zero => simp at hy; subst hy; exact ⟨W.heap.size, 0, rfl, by simp, cell_of_heap (heap_alloc_new W _) 0⟩
  | succ i => simp at hy
/-- One round of making is over but for the reference. -/
def FullM (B : Blk) (k : Nat) (bs : List Int) (w0 : World) (rv v v' : Value) (W : World) : Prop :=
  ∃ b y, (v = .pointer (some ⟨b, 0, none⟩) ∧ v' = .int .i64 0) ∧ W.heap[b]? = some (.cells #[.int .i64 k, .int .i64 1] 35) ∧ (StoreC W B y noP false (k + 1) ∧ FullY y (k + 1) bs) ∧ W.ownsRow w0.heap.size 35 2 rv k (refCells k) ∧ Fr (fun _ => False) w0 W
/-- A row of references is no block that a store turns. -/
theorem refs_frB {w w' : World} {B : Blk} {b n : Nat} {v : Value} {xs : List Value} (h : w.ownsRow b 35 2 v n xs) (F : FrB B w w') : w'.ownsRow b 35 2 v n xs :=
  ownsRow_fr h F fun g c hg hs => absurd (hs.2.1 c 35 _ hg) (by decide)
theorem Tryz.info35 : (Tryz.prog.info? 35).map (fun i => (i.zero, i.size, i.bytes)) = some (some (.agg #[.int .i64 0, .int .i64 0]), 2, 16) := by kernel_rfl
set_option maxHeartbeats 8000000 in
set_option maxRecDepth 100000 in
theorem full_in (la : Option Addr) (ll lc : Nat) (bs : List Int) (w : World) (hT : Tab w) (hsl : SlB w la ll lc bs) (hlb : ∀ b off, la = some ⟨b, off, none⟩ → b < w.heap.size) (hby : ∀ x ∈ bs, 0 ≤ x ∧ x < 256) (hll : ll ≤ 60) :
    Calls Tryz.prog 3 #[.slice la ll lc] w fun e w' => e = .returned (.bool true) ∧ Fr (fun _ => False) w w' := by
  have hT0 := hT.lt
  have hlen := hsl.by_.len
  obtain ⟨i0, hi0, hz0, hz1, hz2⟩ := info_parts Tryz.info35
  obtain ⟨j0, hj0, jz0, jz1, jz2⟩ := info_parts Tryz.info5
  have HT := hid hT
  have H20 := hid (flashnew_ok 60 96 (by omega) (by omega) w)
  have HSL := hid (And.intro hsl (And.intro hlb (And.intro hby hlen)))
  clear hT hsl hlb hby hlen
  go_enter Tryz.func3, Tryz.ntmps3
  go_wp2_with fail
  refine H20.out.mono ?_
  rintro e w1 ⟨rfl, hD, F1⟩
  have HD := hid hD
  have HF1 := hid F1
  clear hD F1
  go_wp2_with fail
  refine (small13_ok _).mono ?_
  rintro e w2 ⟨rfl, F2⟩
  have HF2 := hid (HF1.out.trans F2 (fun _ _ h => h))
  have HD2 := hid (HD.out.fr F2 (fun h => h) (fun h => h) (fun h => h) (fun _ _ _ _ _ h => h))
  clear F2
  go_wp2_with fail
  have H19 := format_c HD2.out HF2.out.size (HT.out.fr HF2.out (fun h => h)) hT0 3 2 4 2 8 0 small13_fits
  refine H19.mono ?_
  rintro e w3 ⟨B, hB, rfl, hS, F3⟩
  have HF3 := hid (HF2.out.trans F3 (fun _ _ h => h))
  have hbase : B.base = w.heap.size := hB.1
  have HB := hid hbase
  have HS := hid hS
  clear hB hS F3 H19 hbase HD HD2 H20 HF2 HF1
  go_wp2_with fail
  go_loopw [5, 6] (fun v i wr => ∃ k : Nat, k ≤ 48 ∧ i = .int .i64 k ∧ (∃ y, StoreC wr B y noP false k ∧ FullY y k bs) ∧ wr.ownsRow w.heap.size 35 2 v k (refCells k) ∧ Fr (fun _ => False) w wr) (fun _ i _ => 48 - (intOf i).toNat)
  case atStart => exact ⟨0, Nat.zero_le _, rfl, ⟨_, HS.out, full_start bs⟩, World.ownsRow_nil _ _ _ _, HF3.out⟩
  case round =>
    obtain ⟨k, hk, rfl, ⟨y, hS, hY⟩, hown, hF⟩ := hrel
    by_cases hlt : k < 48
    · have HS1 := hid (And.intro hS hY)
      have HO := hid (And.intro hown hF)
      have hbw : B.base ≤ wr.heap.size := hS.base_le
      clear hS hY hown hF
      have hd : decide ((k : Int) < 48) = true := by simp; omega
      go_upto_region 10 with fail
      go_cut [7, 8] from 29 to 40 (fun v v' wx => FullM B k bs w u5 v v' wx)
      case first =>
        have hl0 := HSL.out.2.2.2
        have HSB := hid (fun W (F : Fr (fun _ => False) wr W) => (⟨(HSL.out.1.by_.fr HO.out.2 (fun _ _ _ _ h => h)).fr F (fun _ _ _ _ h => h), HSL.out.1.at_⟩ : SlB W la ll lc bs))
        go_wp2_with (at_builtin; refine wpList_append_byts rfl (.tmp 31) (.tmp 32) 22 rfl wr.heap.size 5 j0 _ Tryz.underlying22 hj0 jz0 jz1 jz2 rfl _ _ _ rfl (own_litB _ _ (Nat.le_refl _) _ _ _ (by simp [go_sem])) la ll lc bs rfl (HSB.out _ ((Fr.refl _ _).alloc _)) (by omega) (by simp) ?_)
        intro v1 W1 hown1 hgrow hnil
        try simp only [List.nil_append, Nat.zero_add] at hown1
        have hF1 : Fr (fun _ => False) wr W1 := ((Fr.refl (fun _ => False) wr).alloc _).trans (S' := fun b => b = wr.heap.size) (Fr.of_grownBy hgrow) (fun b hb h => by omega)
        have H1 := hid (And.intro hown1 hF1)
        have hs1 := hF1.size
        clear hown1 hgrow hnil hF1
        go_wp2_with (at_builtin; refine wpList_append_own_at _ rfl (.tmp 33) (.tmp 36) 22 rfl wr.heap.size 5 j0 _ 1 1 Tryz.underlying22 hj0 jz0 jz1 jz2 rfl (by decide) _ _ _ rfl (H1.out.1.alloc _) ⟨W1.heap.size, 0, none⟩ 1 1 [.int .u8 k] rfl rfl (cell_one_new _ _ _) (by simp [Value.oneCell']) (by simp [maxLen]; omega) (by omega) (by simp; omega) ?_)
        intro v2 W2 hown2 hgrow2 hnil2 hat2
        have hF2 : Fr (fun _ => False) wr W2 := (H1.out.2.alloc _).trans (S' := fun b => wr.heap.size ≤ b) ⟨hgrow2.os, hgrow2.tape, hgrow2.output, hgrow2.size, fun b hb hn => hgrow2.block b hb (fun e => hn (by have := (own_block5 H1.out.1 e).1; exact this))⟩ (fun b hb h => by omega)
        have hown2 : W2.ownsRow wr.heap.size 5 1 v2 (ll + 1) ((bs ++ [(k : Int)]).map (Value.int .u8)) := by simpa using hown2
        obtain ⟨va, vc, rfl, hbv⟩ := byv_of_own hown2
        have hS2 := HS1.out.1.fr0 hF2
        have HN := hid (new_c hS2 (hbv.inp B) (by
          intro b hb
          rcases List.mem_append.1 hb with hb | hb
          · exact HSL.out.2.2.1 b hb
          · simp at hb; omega) (by rw [HS1.out.2.room]; omega) (j := k) (by rw [HS1.out.2.pages]; exact hlt) (by rw [HS1.out.2.taken k hlt]; simp) (by omega))
        have H2 := hid hF2
        clear hown2 hgrow2 hnil2 hat2 hF2 hs1 hbv hS2
        go_wp2_with fail
        refine HN.out.mono ?_
        rintro e W3 ⟨n, err, hn, rfl, hw, F3⟩
        obtain ⟨rfl, hY3⟩ := full_next HS1.out.2 hlt hn
        obtain ⟨rfl, hS3⟩ := hw.calm
        have hg1 : refV 0 (n : Int) (y.gen : Int) = .agg #[.int .i64 n, .int .i64 1] := by rw [HS1.out.2.gen]; rfl
        rw [hg1]
        have H3 := hid (And.intro hS3 (And.intro hY3 F3))
        clear hn hw hS3 hY3 F3 hg1 HN
        go_wp2_with fail
        go_meet
        case rel =>
          obtain ⟨hS3, hY3, F3⟩ := H3.out
          have FN : Fr (fun _ => False) W3 (W3.alloc (.cells #[.int .i64 n, .int .i64 1] 35)) := (Fr.refl _ _).alloc _
          have F03 : Fr (fun _ => False) w W3 := FrB.all F3 (by rw [HB.out]; exact Nat.le_refl _) (HO.out.2.trans H2.out (fun _ _ h => h))
          exact ⟨W3.heap.size, _, ⟨rfl, rfl⟩, heap_alloc_new _ _, ⟨hS3.fr0 FN, hY3⟩, refs_frB (refs_frB (refs_frB HO.out.1 (FrB.none (B := B) H2.out)) F3) (FrB.none (B := B) FN), F03.trans FN (fun _ _ h => h)⟩
      case rest =>
        obtain ⟨bx, y', ⟨rfl, rfl⟩, hbx, ⟨hS', hY'⟩, hown', hF'⟩ := hcut
        obtain ⟨x0, x1, xz, xl⟩ := cells2 hbx
        have HHE := hid (held_c hS')
        have HS2 := hid (And.intro hS' hY')
        have HO2 := hid (And.intro hown' hF')
        have HBX := hid hbx
        have sz := hF'.size
        clear hS' hY' hown' hF' hbx
        go_wp2_with fail
        refine HHE.out.mono ?_
        rintro e W4 ⟨c, rfl, hc, rfl⟩
        have hc8 : c ≤ 8 := by rw [HS2.out.2.places] at hc; exact hc
        have hd8 : decide ((8 : Int) < (c : Int)) = false := by simp; omega
        clear hc
        go_wp2_with (at_builtin; refine wpList_append_own_at _ rfl (.tmp 54) (.tmp 56) 33 rfl w.heap.size 35 i0 _ 2 16 Tryz.underlying33 hi0 hz0 hz1 hz2 rfl (by decide) _ _ _ rfl (HO2.out.1.alloc _) ⟨wc.heap.size, 0, none⟩ 1 1 [.int .i64 k, .int .i64 1] rfl rfl (World.news_of_block (cs := #[.int .i64 k, .int .i64 1]) (t := 35) (fr := (0, 0)) (heap_alloc_new _ _)) (by simp [Value.oneCell']) (by simp [maxLen]; omega) (by omega) (by simp; omega) ?_)
        intro v5 W5 hown5 hgrow5 hnil5 hat5
        have hF5 : Fr (fun _ => False) w W5 := (HO2.out.2.alloc _).trans (S' := fun b => w.heap.size ≤ b) ⟨hgrow5.os, hgrow5.tape, hgrow5.output, hgrow5.size, fun b hb hn => hgrow5.block b hb (fun e => hn (HO2.out.1.lt b e.symm).1)⟩ (fun b hb h => by omega)
        have hS5 := HS2.out.1.grown HO2.out.1 (by decide) hT0 hgrow5
        have H5 := hid (And.intro hS5 (And.intro hown5 hF5))
        clear hown5 hgrow5 hnil5 hat5 hF5 hS5
        go_wp2
        go_roundw
        case rel => exact ⟨k + 1, by omega, by go_num, ⟨_, H5.out.1, HS2.out.2⟩, by rw [refCells_succ]; exact H5.out.2.1, H5.out.2.2⟩
        case measure => simp [intOf]; omega
    · obtain rfl : k = 48 := by omega
      have HS1 := hid (And.intro hS hY)
      have HO := hid (And.intro hown hF)
      clear hS hY hown hF
      have HFull := hid (new_full_c HS1.out.1 la ll lc (by rw [HS1.out.2.room]; omega) (by
        rw [HS1.out.2.pages]
        intro i _ hi _
        rw [HS1.out.2.taken i hi]; simpa using hi))
      go_wp2_with fail
      refine HFull.out.mono ?_
      rintro e W2 ⟨rfl, F2⟩
      have HS2 := hid (HS1.out.1.fr0 F2)
      have HO2 := hid (And.intro (refs_frB HO.out.1 (FrB.none (B := B) F2)) (HO.out.2.trans F2 (fun _ _ h => h)))
      obtain ⟨rg, rcap, rfl⟩ := ownsRow_succ (show W2.ownsRow w.heap.size 35 2 u5 (47 + 1) _ from HO2.out.1)
      clear F2 HO HFull
      go_wp2_with fail
      go_loopw [11] (fun i wr => ∃ k : Nat, k ≤ 48 ∧ i = .int .i64 k ∧ StoreC wr B y noP false (48 + k) ∧ wr.ownsRow w.heap.size 35 2 (.slice (some ⟨rg, 0, none⟩) (47 + 1) rcap) (47 + 1) (refCells 48) ∧ Fr (fun _ => False) w wr) (fun i _ => 48 - (intOf i).toNat)
      case atStart => exact ⟨0, Nat.zero_le _, rfl, HS2.out.fr0 ((Fr.refl _ _).alloc _), refs_frB HO2.out.1 (FrB.none (B := B) ((Fr.refl _ _).alloc _)), HO2.out.2.alloc _⟩
      case round =>
        obtain ⟨k, hk, rfl, hS, hown, hF⟩ := hrel
        by_cases hlt : k < 48
        · obtain ⟨q0, q1⟩ := refCells_get hlt
          have r0 := (hown.cellAt (k * 2) (by omega)).trans q0
          have r1 := (hown.cellAt (k * 2 + 1) (by omega)).trans q1
          have hd : decide ((k : Int) < 48) = true := by simp; omega
          have HR := hid (read_c hS k 1 (HS1.out.2.cont k hlt) (by omega))
          have HO3 := hid (And.intro hown hF)
          clear hS hown hF q0 q1
          go_wp2_with fail
          refine HR.out.mono ?_
          rintro e W3 ⟨err, hw, F3, -, -, h3⟩
          obtain ⟨rfl, hS3⟩ := hw.calm
          obtain ⟨xa, xc, rfl, hbv⟩ := h3 rfl rfl
          have F03 : Fr (fun _ => False) w W3 := FrB.all F3 (by rw [HB.out]; exact Nat.le_refl _) HO3.out.2
          have hc1 : (convert 22 9 (.slice xa (bs.length + 1) xc)).run Tryz.prog W3 = .ok (.string (strOfNums bs ++ strOfNums [(k : Int)])) W3 := by
            have h1 := str_at hbv.slb 9 Tryz.underlying9
            rw [strOfNums_append, List.length_append] at h1
            exact h1
          have hc2 : (convert 22 9 (.slice la ll lc)).run Tryz.prog W3 = .ok (.string (strOfNums bs)) W3 :=
            str_at ⟨HSL.out.1.by_.fr F03 (fun _ _ _ _ h => h), HSL.out.1.at_⟩ 9 Tryz.underlying9
          have hc3 : (convert 22 9 (.slice (some ⟨W3.heap.size, 0, none⟩) 1 1)).run Tryz.prog (W3.alloc (.cells #[.int .u8 k] 5)) = .ok (.string (strOfNums [(k : Int)])) (W3.alloc (.cells #[.int .u8 k] 5)) :=
            str_at (slb_one W3 k) 9 Tryz.underlying9
          have FA : Fr (fun _ => False) W3 (W3.alloc (.cells #[.int .u8 k] 5)) := (Fr.refl _ _).alloc _
          have hsz : (strOfNums bs).size + (strOfNums [(k : Int)]).size ≤ 9223372036854775807 := by rw [strOfNums_size, strOfNums_size, HSL.out.2.2.2]; simp; omega
          have HHE := hid (held_c (hS3.fr0 FA))
          have H3 := hid (And.intro (hS3.fr0 FA) (And.intro (refs_frB (refs_frB HO3.out.1 F3) (FrB.none (B := B) FA)) (F03.trans FA (fun _ _ h => h))))
          clear hw h3 hbv F3 F03 hS3 FA HR
          go_wp2_with fail
          refine HHE.out.mono ?_
          rintro e W4 ⟨c, rfl, hc, rfl⟩
          have hc8 : c ≤ 8 := by rw [HS1.out.2.places] at hc; exact hc
          have hd8 : decide ((8 : Int) < (c : Int)) = false := by simp; omega
          clear hc hc1 hc2 hc3
          go_wp2
          go_roundw
          case rel => exact ⟨k + 1, by omega, by go_num, H3.out.1, H3.out.2.1, H3.out.2.2⟩
          case measure => simp [intOf]; omega
        · obtain rfl : k = 48 := by omega
          have HF := hid hF
          have HA := hid (awake13_ok wr (HT.out.fr hF (fun h => h)))
          clear hS hown hF
          go_wp2_with fail
          refine HA.out.mono ?_
          rintro e W3 ⟨rfl, F3⟩
          have HF3 := hid F3
          clear F3
          go_wp2
          go_ret
          exact ⟨rfl, HF.out.trans HF3.out (fun _ _ h => h)⟩
/-- StoreFull answers true. -/
theorem storeFull_walk (la : Option Addr) (ll lc : Nat) (bs : List Int) (w : World) (hT : Tab w) (hsl : SlB w la ll lc bs) (hlb : ∀ b off, la = some ⟨b, off, none⟩ → b < w.heap.size) (hby : ∀ x ∈ bs, 0 ≤ x ∧ x < 256) :
    Calls Tryz.prog 3 #[.slice la ll lc] w fun e w' => e = .returned (.bool true) ∧ Fr (fun _ => False) w w' := by
  by_cases hll : ll ≤ 60
  · exact full_in la ll lc bs w hT hsl hlb hby hll
  · have hgt : decide ((60 : Int) < (ll : Int)) = true := by simp; omega
    clear hT hsl hlb hby
    go_enter Tryz.func3, Tryz.ntmps3
    go_wp2
    go_ret
    exact ⟨rfl, Fr.refl _ _⟩
end Go.Proofs.YtgdhaaokolfdoaaGreatDoor

/- An argument that is a slice of bytes, opened. Conditions: none. -/
namespace Go.Proofs.YtgdhaaokolfdoaaGreatDoor
open Go.ChangeShapes Go.WideShapes Go.RowKit Go.Sg
theorem cells5 : Tryz.prog.cellsOf 5 = 1 := by kernel_rfl
set_option maxRecDepth 100000 in
theorem open_byt {H : Type} {enc : TypeId × Value → H} {W : World} {base b0 : Nat} {spare : Nat → Bool} {held : Bool} {v : Value} {d : DataW H} {p : List MemPlace}
    (hv : Value.okWide Tryz.prog W .any base 22 v) (h : DataW.Trod enc Tryz.prog W b0 spare held 22 v d p) :
    ∃ (a : Option Addr) (n c : Nat) (bs : List Int), v = .slice a n c ∧ SlB W a n c bs ∧ (∀ x ∈ bs, 0 ≤ x ∧ x < 256) ∧ n ≤ c ∧ ∀ b off, a = some ⟨b, off, none⟩ → b < W.heap.size := by
  obtain ⟨a, n, c, rfl⟩ := okWide_slice Tryz.underlying22 hv
  simp only [Value.okWide, Tryz.underlying22, Cell.okWide, Cell.ok] at hv
  obtain ⟨fuel, hf⟩ := h
  rcases open_ints Tryz.underlying22 Tryz.underlying5 cells5 hf with ⟨hcs, hx⟩ | ⟨a', len, cap, zs, hcs, _, hl, hm, hz, hx, hcell, hwz⟩
  · obtain ⟨rfl, rfl, rfl⟩ : a = none ∧ n = 0 ∧ c = 0 := by simpa [Value.cells] using hcs
    exact ⟨none, 0, 0, [], rfl, (ByV.nil W).slb, (fun x hx => by cases hx), Nat.le_refl _, (fun b off e => by cases e)⟩
  · obtain ⟨rfl, rfl, rfl⟩ : a = some a' ∧ n = len ∧ c = cap := by simpa [Value.cells] using hcs
    obtain ⟨b, off, spot⟩ := a'
    simp only at hv
    obtain ⟨_, _, _, hs, row, cells, hsh, _⟩ := hv
    simp only at hs hsh
    subst hs
    have hb : b < W.heap.size := by
      unfold World.shape? at hsh
      cases hh : W.heap[b]? with
      | none => rw [hh] at hsh; cases hsh
      | some o => exact lt_of_heap hh
    have hzl : n ≤ zs.length := by rw [hz]; split <;> omega
    refine ⟨some ⟨b, off, none⟩, n, c, zs.take n, rfl, ⟨⟨by rw [List.length_take]; omega, fun i x hx => ⟨b, off, rfl, hb, ?_⟩⟩, .inr ⟨_, rfl⟩⟩, fun x hx => ?_, hl, fun b' off' e => by cases e; exact hb⟩
    · rw [List.getElem?_take] at hx
      split at hx
      · rename_i hi
        have := hcell i (by omega)
        have e : zs.getD i 0 = x := by rw [List.getD_eq_getElem?_getD, hx]; rfl
        rw [e] at this
        rw [← this]
        congr 1
        unfold Addr.add
        split <;> simp_all
      · cases hx
    · have := hwz x (List.mem_of_mem_take hx)
      simp [Lit.wf, IntKind.min, IntKind.max, IntKind.bits, IntKind.signed] at this
      omega
end Go.Proofs.YtgdhaaokolfdoaaGreatDoor
