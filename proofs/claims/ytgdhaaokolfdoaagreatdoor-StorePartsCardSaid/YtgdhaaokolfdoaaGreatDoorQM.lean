/- A pack of texts: EH, EI, EJ. Conditions: those that each text names. -/
import Derived.Test.YtgdhaaokolfdoaaGreatDoorQI
import Derived.Test.YtgdhaaokolfdoaaGreatDoorQK
import Derived.Test.YtgdhaaokolfdoaaGreatDoorQL
import Derived.Test.YtgdhaaokolfdoaaGreatDoorQG
/- Chapter 13's did: every act. Conditions: the store, the document's rows and the act lie in the world, and go together. -/
namespace Go.Proofs.YtgdhaaokolfdoaaGreatDoor
open Go.RowKit Go.Sg Go.Sg.Bits Go.Sg.Clk CP SF
theorem tmod9 (z : Int) : -9 < z.tmod 9 ∧ z.tmod 9 < 9 := by
  rcases Int.lt_or_le z 0 with h | h
  · have h1 := Int.tmod_nonneg (a := -z) 9 (by omega)
    have h2 := Int.tmod_lt_of_pos (-z) (b := 9) (by decide)
    rw [Int.neg_tmod] at h1 h2
    omega
  · have h1 := Int.tmod_nonneg (a := z) 9 h
    have h2 := Int.tmod_lt_of_pos z (b := 9) (by decide)
    omega
theorem kind_range (k : Int) : 0 ≤ (wrap64 (k.tmod 9 + 9)).tmod 9 ∧ (wrap64 (k.tmod 9 + 9)).tmod 9 ≤ 8 := by
  have h1 := tmod9 k
  have h2 : wrap64 (k.tmod 9 + 9) = k.tmod 9 + 9 := by simp only [wrap64]; omega
  rw [h2]
  have h3 := Int.tmod_nonneg (a := k.tmod 9 + 9) 9 (by omega)
  have h4 := Int.tmod_lt_of_pos (k.tmod 9 + 9) (b := 9) (by decide)
  omega
def DidAll (B : Blk) (y : Cs) (P : Prot) (a : Bool) (N : Nat) (r : R13) (Q : World → Prop) (w : World) (e : Ending) (w' : World) : Prop := DidP B y P a N w e w' ∨ DidC B r Q w e w'
/-- A commit is an act of its own. -/
abbrev isCommit (x : ActV) : Prop := (wrap64 (x.kind.tmod 9 + 9)).tmod 9 = 8
theorem did_plain {w w0 : World} {B : Blk} {y : Cs} {P : Prot} {a : Bool} {N : Nat} (h : StoreC w B y P a N) {r : R13} {t l f yy d : Value} (hr : RefAt w r t l f yy d) {x : ActV} (hx : ActOk w0 x) (hF0 : Fr (fun _ => False) w0 w) (hB0 : w0.heap.size ≤ B.base) (hR : Rel y r) (hN : N + 9 ≤ 90000) (hp0 : 0 < y.pages) (hp1 : y.pages ≤ 65535) (hroom : y.room = 77) (hpl : y.places ≤ 8)
    (hk8 : ¬ isCommit x) : Calls Tryz.prog 36 #[B.ptr, refV r t l f yy d, x.val] w (DidP B y P a N w) := by
  obtain ⟨k1, k2⟩ := kind_range x.kind
  obtain ⟨kd, hkd⟩ : ∃ kd, (wrap64 (x.kind.tmod 9 + 9)).tmod 9 = kd := ⟨_, rfl⟩
  have hk8' : kd ≠ 8 := fun e => hk8 (hkd.trans e)
  rw [hkd] at k1 k2
  by_cases h7 : kd = 7
  · exact did_flush h hr hx hF0 hB0 hR hN hp0 hp1 hroom hpl (hkd.trans h7)
  · by_cases hl0 : r.live.length = 0
    · by_cases h3 : 3 ≤ kd
      · exact did_none h hr hx hF0 hB0 hR hN hp0 hp1 hroom kd ⟨h3, by omega⟩ hkd hl0
      · by_cases hll : x.ll ≤ 77
        · exact did_new h hr hx hF0 hB0 hR hN hp0 hp1 hroom kd (by omega) hkd hll
        · exact did_long h hr hx hF0 hB0 hR hN hp0 hp1 hroom kd ⟨k1, by omega⟩ hkd (.inr (by omega)) (by omega)
    · have hl : 0 < r.live.length := by omega
      by_cases h5 : kd = 5
      · exact did_free h hr hx hF0 hB0 hR hN hp0 hp1 hroom hl (hkd.trans h5)
      · by_cases h6 : kd = 6
        · exact did_read h hr hx hF0 hB0 hR hN hp0 hp1 hroom hl (hkd.trans h6)
        · by_cases hll : x.ll ≤ 77
          · by_cases h3 : 3 ≤ kd
            · obtain ⟨i0, hi0, hat0⟩ := at_ok (n := x.n) hl (by have := hR.lens.1; omega)
              obtain ⟨n0, st0, bs0, hli0, -⟩ := rel_live hR hi0
              have key : ∀ b, y.fresh n0 = b → ∀ (i n st : Nat) bs, r.live[i]? = some ⟨n, st, bs⟩ → wrap64 ((IntKind.u64.wrap x.n).tmod ↑r.live.length) = (i : Int) → y.fresh n = b := fun b hb i n st bs hli hat => by
                have hii : i = i0 := by rw [hat0] at hat; omega
                subst hii
                rw [hli0] at hli
                have : (n0 : Int) = n := by injection hli with e; injection e
                rw [← this]; exact hb
              have hkk : kd = 3 ∨ kd = 4 := by omega
              cases hf : y.fresh n0 with
              | true => exact did_wfresh h hr hx hF0 hB0 hR hN hp0 hp1 hroom hl kd hkk hkd hll (key true hf)
              | false =>
                by_cases hall : allTaken y.taken y.pages 0 y.pages
                · exact did_wfull h hr hx hF0 hB0 hR hN hp0 hp1 hroom hl kd hkk hkd hll (key false hf) hall
                · obtain ⟨j, hj, hjf⟩ := not_all hall
                  exact did_wnew h hr hx hF0 hB0 hR hN hp0 hp1 hroom hl kd hkk hkd hll (key false hf) hj hjf
            · exact did_new h hr hx hF0 hB0 hR hN hp0 hp1 hroom kd (by omega) hkd hll
          · exact did_long h hr hx hF0 hB0 hR hN hp0 hp1 hroom kd ⟨k1, by omega⟩ hkd (.inl hl) (by omega)
end Go.Proofs.YtgdhaaokolfdoaaGreatDoor

/- StoreParts: the plain law, and how store and document lie between two acts. Conditions: none. -/
namespace Go.Proofs.YtgdhaaokolfdoaaGreatDoor
open Go.RowKit Go.Sg Go.Sg.Bits Go.Sg.Clk CP SF
/-! ### The plain law -/
theorem rel_new (c : Cont) (D : Dev) : Rel (openY small13 0 D c) (R13.new 48) := by
  have hp : (layM small13).pages.toNat = 48 := by decide +kernel
  refine ⟨?_, fun k hk => ?_, ⟨rfl, ?_⟩, rfl, RowOf.none, RowOf.none, RowOf.none, ⟨fun k hk => (by cases hk), fun k hk => (by cases hk), fun k hk => by cases hk⟩, fun p hp => (by cases hp), List.nodup_nil, fun n hn ht => (by cases ht), ⟨fun k hk => (by cases hk), fun k hk => (by cases hk), fun k hk => (by cases hk), fun k hk => (by cases hk), fun k hk => by cases hk⟩⟩
  · simp [R13.new, openY, openX, Sto.cs, hp]
  · have hk' : k < 48 := by rw [← hp]; exact hk
    show (List.replicate 48 false)[k]? = some false
    rw [List.getElem?_replicate, if_pos hk']
  · show 0 < (layM small13).pages.toNat
    rw [hp]; decide
/-- All that is taken, each apart. -/
def allOf (r : R13) (L2 L3 : List Int) : List Int := r.live.map (·.page) ++ L2 ++ L3
theorem parts_plain {y : Cs} {r : R13} (h : Rel y r) {L2 L3 : List Int} (h2 : RowOf y.dying L2) (h3 : RowOf y.dead L3) :
    (allOf r L2 L3).Nodup ∧ (∀ x ∈ allOf r L2 L3, ∃ n : Nat, x = n ∧ n < y.pages ∧ y.taken n = true) ∧ ∀ n : Nat, n < y.pages → y.taken n = true → (n : Int) ∈ allOf r L2 L3 := by
  have hl : ∀ x : Int, x ∈ r.live.map (·.page) → ∃ n : Nat, x = n ∧ n < y.pages ∧ y.taken n = true ∧ y.dying n = false ∧ y.dead n = false := fun x hx => by
    obtain ⟨p, hp, rfl⟩ := List.mem_map.1 hx
    obtain ⟨m, st, e1, _, e3, e4, e5, e6, _⟩ := h.live p hp
    exact ⟨m, e1, e3, e4, e5, e6⟩
  refine ⟨?_, fun x hx => ?_, fun n hn ht => ?_⟩
  · unfold allOf
    rw [List.nodup_append, List.nodup_append]
    refine ⟨⟨h.nodup, h2.nodup, ?_⟩, h3.nodup, ?_⟩
    · rintro a ha b hb rfl
      obtain ⟨n, rfl, _, _, hd, _⟩ := hl _ ha
      rw [(h2.1 _).1 hb] at hd; cases hd
    · rintro a ha b hb rfl
      rcases List.mem_append.1 ha with ha | ha
      · obtain ⟨n, rfl, _, _, _, hd⟩ := hl _ ha
        rw [(h3.1 _).1 hb] at hd; cases hd
      · have := h.apart.ye _ ((h2.1 _).1 ha)
        rw [(h3.1 _).1 hb] at this; cases this
  · unfold allOf at hx
    rcases List.mem_append.1 hx with hx | hx
    · rcases List.mem_append.1 hx with hx | hx
      · obtain ⟨n, e, h1, h2, _⟩ := hl _ hx
        exact ⟨n, e, h1, h2⟩
      · have hd := (h2.1 _).1 hx
        have hr := h.inr.2.1 _ hd
        obtain ⟨n, rfl⟩ := Int.eq_ofNat_of_zero_le hr.1
        exact ⟨n, rfl, by omega, h.apart.yt n hd⟩
    · have hd := (h3.1 _).1 hx
      have hr := h.inr.2.2 _ hd
      obtain ⟨n, rfl⟩ := Int.eq_ofNat_of_zero_le hr.1
      exact ⟨n, rfl, by omega, h.apart.et n hd⟩
  · unfold allOf
    cases hd : y.dying n with
    | true => exact List.mem_append_left _ (List.mem_append_right _ ((h2.1 _).2 hd))
    | false =>
      cases he : y.dead n with
      | true => exact List.mem_append_right _ ((h3.1 _).2 he)
      | false =>
        obtain ⟨p, hp, e⟩ := h.all n hn ht hd he
        exact List.mem_append_left _ (List.mem_append_left _ (List.mem_map.2 ⟨p, hp, e⟩))
/-- How often each number below n stands in a row, together. -/
def psum (L : List Int) : Nat → Nat
  | 0 => 0
  | k + 1 => psum L k + L.count (k : Int)
theorem psum_cons (x : Int) (L : List Int) : ∀ n : Nat, psum (x :: L) n = psum L n + (if 0 ≤ x ∧ x < (n : Int) then 1 else 0) := by
  intro n
  induction n with
  | zero => rw [if_neg (by omega)]; rfl
  | succ n ih =>
    have hc : (x :: L).count (n : Int) = L.count (n : Int) + (if x = (n : Int) then 1 else 0) := by rw [List.count_cons]; simp
    show psum (x :: L) n + (x :: L).count (n : Int) = (psum L n + L.count (n : Int)) + _
    rw [ih, hc]
    by_cases h2 : x = (n : Int)
    · rw [if_neg (show ¬ (0 ≤ x ∧ x < (n : Int)) by omega), if_pos h2, if_pos (show 0 ≤ x ∧ x < ((n + 1 : Nat) : Int) by omega)]; omega
    · rw [if_neg h2]
      by_cases h1 : 0 ≤ x ∧ x < (n : Int)
      · rw [if_pos h1, if_pos (show 0 ≤ x ∧ x < ((n + 1 : Nat) : Int) by omega)]; omega
      · rw [if_neg h1, if_neg (show ¬ (0 ≤ x ∧ x < ((n + 1 : Nat) : Int)) by omega)]; omega
theorem psum_all {L : List Int} {n : Nat} (h : ∀ x ∈ L, 0 ≤ x ∧ x < n) : psum L n = L.length := by
  induction L with
  | nil =>
    clear h
    induction n with
    | zero => rfl
    | succ n ih => simp [psum, ih]
  | cons x L ih =>
    rw [psum_cons, ih (fun z hz => h z (List.mem_cons_of_mem _ hz)), if_pos (h x (by simp))]; rfl
theorem psum_le (L : List Int) (k : Nat) (hk : ∀ x, L.count x ≤ 1) : psum L k ≤ k := by
  induction k with
  | zero => exact Nat.le_refl _
  | succ k ih => simp only [psum]; have := hk k; omega
theorem mem_tu {t : Nat → Bool} {m : Nat} {x : Int} : x ∈ tu t m ↔ ∃ n : Nat, x = n ∧ n < m ∧ t n = true := by
  simp only [tu, List.mem_map, List.mem_filter, List.mem_range]
  constructor
  · rintro ⟨n, ⟨h1, h2⟩, rfl⟩; exact ⟨n, rfl, h1, h2⟩
  · rintro ⟨n, rfl, h1, h2⟩; exact ⟨n, ⟨h1, h2⟩, rfl⟩
theorem tu_nodup (t : Nat → Bool) (m : Nat) : (tu t m).Nodup := by
  unfold tu
  rw [List.Nodup, List.pairwise_map]
  exact (List.nodup_range.filter _).imp (fun h e => h (Int.ofNat.inj e))
theorem parts_len {y : Cs} {r : R13} (h : Rel y r) {L2 L3 : List Int} (h2 : RowOf y.dying L2) (h3 : RowOf y.dead L3) : (allOf r L2 L3).length = (tu y.taken y.pages).length ∧ (∀ x ∈ tu y.taken y.pages, (allOf r L2 L3).count x = 1) ∧ (∀ x, (allOf r L2 L3).count x ≤ 1) ∧ (∀ x ∈ allOf r L2 L3, 0 ≤ x ∧ x < y.pages) := by
  obtain ⟨k1, k2, k3⟩ := parts_plain h h2 h3
  have hp : (allOf r L2 L3).Perm (tu y.taken y.pages) := (List.perm_ext_iff_of_nodup k1 (tu_nodup _ _)).2 fun x => by
    rw [mem_tu]
    exact ⟨k2 x, fun ⟨n, e, h1, h2⟩ => e ▸ k3 n h1 h2⟩
  refine ⟨hp.length_eq, fun x hx => ?_, fun x => List.nodup_iff_count.1 k1 x, fun x hx => ?_⟩
  · rw [hp.count_eq]
    have h1 := List.nodup_iff_count.1 (tu_nodup y.taken y.pages) x
    have h2 := List.count_pos_iff.2 hx
    omega
  · obtain ⟨n, rfl, h1, _⟩ := k2 x hx
    omega
/-- The cells of the row that counts. -/
def cntCells (L : List Int) : Array Value := ((List.range 48).map fun (j : Nat) => Value.int .i64 (L.count (j : Int))).toArray
theorem cnt_get {L : List Int} {j : Nat} (h : j < 48) : (cntCells L)[j]? = some (.int .i64 (L.count (j : Int))) := by
  simp [cntCells, h]
theorem cnt_nil : cntCells [] = madeCells #[.int .i64 0] 48 := by
  apply Array.ext
  · simp [cntCells, size_madeCells]
  · intro i h1 h2
    simp [cntCells, madeCells, Nat.mod_one]
theorem cnt_set {L : List Int} {m : Nat} (h : m < 48) : (cntCells L).setIfInBounds m (.int .i64 ((L.count (m : Int) : Nat) + 1 : Int)) = cntCells (L ++ [(m : Int)]) := by
  apply Array.ext
  · simp [cntCells]
  · intro i h1 h2
    have hi : i < 48 := by simpa [cntCells] using h2
    simp only [cntCells, List.setIfInBounds_toArray, List.getElem_toArray]
    rw [List.getElem_set]
    simp only [List.getElem_map, List.getElem_range, List.count_append, List.count_cons, List.count_nil]
    by_cases hm : m = i
    · subst hm; simp
    · rw [if_neg hm, if_neg (by simp; omega)]; simp
/-! ### Between two acts -/
/-- Only cells that a store turns, from a base on, and new blocks, have turned. -/
abbrev FrT (base : Nat) (w w' : World) : Prop := Fr (fun b => base ≤ b ∧ Mut w b) w w'
theorem FrT.heap {base : Nat} {w w' : World} (h : FrT base w w') {b : Nat} {c : Array Value} {t : TypeId} {f : Nat × Nat} (hb : w.heap[b]? = some (.cells c t f)) (ht : t ∉ mutT) : w'.heap[b]? = some (.cells c t f) :=
  Fr.heap h hb fun hs => ht (hs.2 c t f hb)
theorem frB_frT {B : Blk} {w w' : World} (h : FrB B w w') : FrT B.base w w' := Fr.mono h fun b _ hs => ⟨hs.1, hs.2.1⟩
theorem FrT.own {base : Nat} {w w' : World} {b e size n : Nat} {v : Value} {xs : List Value} (h : w.ownsRow b e size v n xs) (he : e ∉ mutT) (F : FrT base w w') : w'.ownsRow b e size v n xs :=
  ownsRow_fr h F fun g c hg hs => he (hs.2 c e _ hg)
structure S13 (w : World) (base s : Nat) (B : Blk) (y : Cs) (r : R13) (N G : Nat) : Prop where
  st : StoreC w B y noP false N
  rel : Rel y r
  base_ : B.base = base
  s_ : B.s = s
  pages : y.pages = 48
  room : y.room = 77
  places : y.places = 8
  gen : y.gen ≤ G
theorem S13.fr0 {w w' : World} {base s : Nat} {B : Blk} {y : Cs} {r : R13} {N G : Nat} (h : S13 w base s B y r N G) (F : Fr (fun _ => False) w w') : S13 w' base s B y r N G := { h with st := h.st.fr0 F }
theorem S13.frL {w w' : World} {base s : Nat} {B : Blk} {y : Cs} {r : R13} {N G : Nat} (h : S13 w base s B y r N G) {k : Nat} (F : Fr (fun b => b = k) w w') {c : Array Value} {t : TypeId} (hk : w.heap[k]? = some (.cells c t)) (ht : t ∉ 5 :: mutT) (h0 : 0 < k) : S13 w' base s B y r N G := { h with st := h.st.frL F hk ht h0 }
def DidU (base s N G : Nat) (w : World) (e : Ending) (w' : World) : Prop :=
  ∃ B y r ta tc la lc fa fc ya yc da dc, e = .returned (.tuple #[refV r (.slice ta r.taken.length tc) (.slice la r.live.length lc) (.slice fa r.fresh.length fc) (.slice ya r.dying.length yc) (.slice da r.dead.length dc), .int .i64 0, .bool true]) ∧
    S13 w' base s B y r N G ∧ RefAt w' r (.slice ta r.taken.length tc) (.slice la r.live.length lc) (.slice fa r.fresh.length fc) (.slice ya r.dying.length yc) (.slice da r.dead.length dc) ∧ FrT base w w'
theorem did_u {w w0 : World} {base s N G : Nat} {B : Blk} {y : Cs} {r : R13} (h : S13 w base s B y r N G) {t l f yy d : Value} (hr : RefAt w r t l f yy d) {x : ActV} (hx : ActOk w0 x) (hF0 : Fr (fun _ => False) w0 w) (hB0 : w0.heap.size ≤ base) (hN : N + 9 ≤ 90000) (hG : G ≤ 999999) :
    Calls Tryz.prog 36 #[.pointer (some ⟨s, 0, none⟩), refV r t l f yy d, x.val] w (DidU base s (N + 9) (G + 1) w) := by
  obtain ⟨hS, hR, rfl, rfl, hp, hro, hpl, hg⟩ := h
  by_cases hk : isCommit x
  · refine (did_commit hS hr hx hF0 hB0 hR hN (by omega) (by omega) hro (by omega) (fun W => ∃ B' : Blk, B'.base = B.base ∧ B'.s = B.s ∧ StoreC W B' y.commit noP false (N + 9)) ?_ ?_ ?_ hk).mono ?_
    · rintro W W' ⟨B', h1, h2, h3⟩ F; exact ⟨B', h1, h2, h3.fr0 F⟩
    · rintro W W' k c ⟨B', h1, h2, h3⟩ hk h0 F; exact ⟨B', h1, h2, h3.box F hk h0⟩
    · intro W F
      refine (commit_c (hS.fr0 F) (by omega) noP (fun _ _ h => (by cases h)) (fun _ _ _ => rfl)).mono ?_
      rintro e w' ⟨n, rfl, hS', F', -⟩
      exact ⟨rfl, F', Blk.next B n, rfl, rfl, hS'.mono (by omega) hN⟩
    · rintro e w' ⟨v, rfl, F, hv, B', h1, h2, h3⟩
      obtain ⟨ta, tc, la, lc, fa, fc, ya, yc, da, dc, rfl, hv2⟩ := hv.slices
      exact ⟨B', y.commit, r.commit, ta, tc, la, lc, fa, fc, ya, yc, da, dc, rfl, ⟨h3, rel_commit hR, h1, h2, hp, hro, hpl, by show y.gen + 1 ≤ _; omega⟩, hv2, frB_frT F⟩
  · refine (did_plain hS hr hx hF0 hB0 hR hN (by omega) (by omega) hro (by omega) hk).mono ?_
    rintro e w' ⟨y', r', v, err, rfl, F, hL, -, hge, ⟨rfl, hR', hv, hS'⟩ | ⟨_, h, _⟩⟩
    · obtain ⟨ta, tc, la, lc, fa, fc, ya, yc, da, dc, rfl, hv2⟩ := hv.slices
      exact ⟨B, y', r', ta, tc, la, lc, fa, fc, ya, yc, da, dc, rfl, ⟨hS', hR', rfl, rfl, by rw [hL.pages]; exact hp, by rw [hL.room]; exact hro, by rw [hL.places]; exact hpl, by rw [hge]; omega⟩, hv2, frB_frT F⟩
    · cases h
end Go.Proofs.YtgdhaaokolfdoaaGreatDoor

/- StoreParts: what the law computes. Conditions: the table of the bits lies in the world. -/
namespace Go.Proofs.YtgdhaaokolfdoaaGreatDoor
open Go.RowKit Go.Sg Go.Sg.Bits Go.Sg.Clk CP SF
/-- Between two rounds of the law. -/
def PAt (w : World) (s b5 k : Nat) (wr : World) : Prop :=
  ∃ B y r ta tc la lc fa fc ya yc da dc, S13 wr w.heap.size s B y r (9 * k) (k + 1) ∧ RefAt wr r (.slice ta r.taken.length tc) (.slice la r.live.length lc) (.slice fa r.fresh.length fc) (.slice ya r.dying.length yc) (.slice da r.dead.length dc) ∧
    wr.heap[b5]? = some (.cells #[.slice ta r.taken.length tc, .int .i64 r.hand, .int .i64 r.gen, .slice la r.live.length lc, .slice fa r.fresh.length fc, .slice ya r.dying.length yc, .slice da r.dead.length dc] 64) ∧ w.heap.size ≤ b5 ∧ Fr (fun _ => False) w wr
/-- Behind an act: its results lie in a box. -/
def PCut (w wr : World) (s k : Nat) (v7 v8 v9 : Value) (wx : World) : Prop :=
  ∃ b7 B y r ta tc la lc fa fc ya yc da dc, v7 = .pointer (some ⟨b7, 0, none⟩) ∧ v9 = .bool true ∧ wr.heap.size ≤ b7 ∧ S13 wx w.heap.size s B y r (9 * (k + 1)) (k + 2) ∧ RefAt wx r (.slice ta r.taken.length tc) (.slice la r.live.length lc) (.slice fa r.fresh.length fc) (.slice ya r.dying.length yc) (.slice da r.dead.length dc) ∧
    wx.heap[b7]? = some (.cells #[.slice ta r.taken.length tc, .int .i64 r.hand, .int .i64 r.gen, .slice la r.live.length lc, .slice fa r.fresh.length fc, .slice ya r.dying.length yc, .slice da r.dead.length dc] 64) ∧ FrT w.heap.size wr wx
theorem cnt_nil' : cntCells [] = madeCells (Value.int IntKind.i64 0).cells (48 * 1) := cnt_nil
theorem frT_pre {base : Nat} {w w1 w2 : World} (h : Fr (fun _ => False) w w1) (k : FrT base w1 w2) : FrT base w w2 :=
  Fr.trans (h.mono fun _ _ h => h.elim) k fun b hb hs => ⟨hs.1, fun c t f hc => hs.2 c t f (h.heap hc (fun h => h))⟩
theorem fr_frT {base : Nat} {w0 w w' : World} (hb : w0.heap.size ≤ base) (F : Fr (fun _ => False) w0 w) (k : FrT base w w') : Fr (fun _ => False) w0 w' := F.trans k fun b hb' hs => by omega
theorem pcut_a {w wr W6 : World} {s k : Nat} {v8 : Value} {B : Blk} {y : Cs} {r : R13} {ta la fa ya da : Option Addr} {tc lc fc yc dc : Nat} (hS : S13 W6 w.heap.size s B y r (9 * k + 9) (k + 1 + 1)) (hR : RefAt W6 r (.slice ta r.taken.length tc) (.slice la r.live.length lc) (.slice fa r.fresh.length fc) (.slice ya r.dying.length yc) (.slice da r.dead.length dc)) (F : FrT w.heap.size wr W6) :
    PCut w wr s k (.pointer (some ⟨W6.heap.size, 0, none⟩)) v8 (.bool true) (W6.alloc (.cells #[.slice ta r.taken.length tc, .int .i64 r.hand, .int .i64 r.gen, .slice la r.live.length lc, .slice fa r.fresh.length fc, .slice ya r.dying.length yc, .slice da r.dead.length dc] 64)) :=
  ⟨_, B, y, r, ta, tc, la, lc, fa, fc, ya, yc, da, dc, rfl, rfl, F.size, hS.fr0 ((Fr.refl _ _).alloc _), hR.fr ((Fr.refl _ _).alloc _), heap_alloc_new _ _, F.alloc _⟩
theorem pcut_b {w wr W6 : World} {s k b : Nat} {v8 : Value} {B : Blk} {y : Cs} {r : R13} {ta la fa ya da : Option Addr} {tc lc fc yc dc : Nat} {z : Array Value} (hS : S13 W6 w.heap.size s B y r (9 * k + 9) (k + 1 + 1)) (hR : RefAt W6 r (.slice ta r.taken.length tc) (.slice la r.live.length lc) (.slice fa r.fresh.length fc) (.slice ya r.dying.length yc) (.slice da r.dead.length dc)) (F : FrT w.heap.size wr W6)
    (hb : wr.heap.size ≤ b) (h0 : 0 < b) (q9 : W6.heap[b]? = some (.cells z 64)) (hz : z = z64) :
    PCut w wr s k (.pointer (some ⟨b, 0, none⟩)) v8 (.bool true) (((((((W6.setCell ⟨b, 0, none⟩ (.slice ta r.taken.length tc)).setCell ⟨b, 1, none⟩ (.int .i64 r.hand)).setCell ⟨b, 2, none⟩ (.int .i64 r.gen)).setCell ⟨b, 3, none⟩ (.slice la r.live.length lc)).setCell ⟨b, 4, none⟩ (.slice fa r.fresh.length fc)).setCell ⟨b, 5, none⟩ (.slice ya r.dying.length yc)).setCell ⟨b, 6, none⟩ (.slice da r.dead.length dc)) := by
  have FX : Fr (fun x => x = b) W6 (((((((W6.setCell ⟨b, 0, none⟩ (.slice ta r.taken.length tc)).setCell ⟨b, 1, none⟩ (.int .i64 r.hand)).setCell ⟨b, 2, none⟩ (.int .i64 r.gen)).setCell ⟨b, 3, none⟩ (.slice la r.live.length lc)).setCell ⟨b, 4, none⟩ (.slice fa r.fresh.length fc)).setCell ⟨b, 5, none⟩ (.slice ya r.dying.length yc)).setCell ⟨b, 6, none⟩ (.slice da r.dead.length dc)) := by
    with_reducible (repeat (first | exact Fr.refl _ _ | refine Fr.setCell ?_ (fun _ => by simp) _))
  refine ⟨b, B, y, r, ta, tc, la, lc, fa, fc, ya, yc, da, dc, rfl, rfl, hb, hS.frL FX q9 (by decide) h0, ref_64 hR FX (fun x hx => by subst hx; exact ⟨_, q9⟩), ?_, Fr.trans F FX (fun x hx e => by omega)⟩
  rw [heap_setCell_cells _ _ _ _ (heap_setCell_cells _ _ _ _ (heap_setCell_cells _ _ _ _ (heap_setCell_cells _ _ _ _ (heap_setCell_cells _ _ _ _ (heap_setCell_cells _ _ _ _ (heap_setCell_cells _ _ _ _ q9))))))]
  subst hz
  simp [z64]
theorem box7_set {W6 : World} {b : Nat} {x0 x1 x2 x3 x4 x5 x6 : Value} {c : Array Value} (q9 : W6.heap[b]? = some (.cells c 64)) (hc : c.size = 7) :
    ((((((((W6.setCell ⟨b, 0, none⟩ x0).setCell ⟨b, 1, none⟩ x1).setCell ⟨b, 2, none⟩ x2).setCell ⟨b, 3, none⟩ x3).setCell ⟨b, 4, none⟩ x4).setCell ⟨b, 5, none⟩ x5).setCell ⟨b, 6, none⟩ x6)).heap[b]? = some (.cells #[x0, x1, x2, x3, x4, x5, x6] 64) := by
  rw [heap_setCell_cells _ _ _ _ (heap_setCell_cells _ _ _ _ (heap_setCell_cells _ _ _ _ (heap_setCell_cells _ _ _ _ (heap_setCell_cells _ _ _ _ (heap_setCell_cells _ _ _ _ (heap_setCell_cells _ _ _ _ q9))))))]
  obtain ⟨l⟩ := c
  match l, hc with
  | [_, _, _, _, _, _, _], _ => rfl
set_option maxHeartbeats 8000000 in
set_option maxRecDepth 100000 in
theorem parts_in {a : Option Addr} {n c : Nat} {l : List ActV} (hn : l.length = n) (w : World) (hT : Tab w) (hA : ActR w a l) :
    Calls Tryz.prog 6 #[.slice a n c] w fun e w' => e = .returned (.bool true) ∧ Fr (fun _ => False) w w' := by
  have hT0 := hT.lt
  have HT := hid hT
  have HA := hid hA
  have HN := hid hn
  have H20 := hid (flashnew_ok 60 96 (by omega) (by omega) w)
  clear hT hA hn
  go_enter Tryz.func6, Tryz.ntmps6
  go_wp2_with (go_at_call 34; refine (light_ok HA.out n HN.out).mono ?_)
  rintro e _ ⟨⟨b, rfl, hb⟩, rfl⟩
  cases b with
  | false =>
    go_wp2_with fail
    go_ret
    exact ⟨rfl, Fr.refl _ _⟩
  | true =>
    obtain ⟨hn100, -⟩ := hb rfl
    clear hb
    go_wp2_with fail
    refine H20.out.mono ?_
    rintro e w1 ⟨rfl, hD, F1⟩
    have HD := hid hD
    have HF1 := hid F1
    clear hD F1
    go_wp2_with fail
    refine (small13_ok _).mono ?_
    rintro e w2 ⟨rfl, F2⟩
    have HF2 := hid (HF1.out.trans F2 (fun _ _ h => h))
    have HD2 := hid (HD.out.fr F2 (fun h => h) (fun h => h) (fun h => h) (fun _ _ _ _ _ h => h))
    clear F2
    go_wp2_with fail
    have H19 := format_c HD2.out HF2.out.size (HT.out.fr HF2.out (fun h => h)) hT0 3 2 4 2 8 0 small13_fits
    refine H19.mono ?_
    rintro e w3 ⟨B, hB, rfl, hS, F3⟩
    have HF3 := hid (HF2.out.trans F3 (fun _ _ h => h))
    have hbase : B.base = w.heap.size := hB.1
    have HB := hid hbase
    have HS := hid hS
    clear hB hS F3 H19 hbase HD HD2 H20 HF2 HF1
    obtain ⟨s, hs⟩ : ∃ s, B.s = s := ⟨_, rfl⟩
    have hBp : B.ptr = .pointer (some ⟨s, 0, none⟩) := by rw [← hs]
    rw [hBp]
    have HBS := hid hs
    clear hs hBp
    go_wp2_with (go_at_call 35; refine (rnew13_ok 48 (by decide) _).mono ?_)
    rintro e w4 ⟨F4, v, rfl, hv⟩
    obtain ⟨ta, tc, la, lc, fa, fc, ya, yc, da, dc, rfl, hv2⟩ := hv.slices
    have HS4 := hid (HS.out.fr0 F4)
    have HF4 := hid (HF3.out.trans F4 (fun _ _ h => h))
    have HV := hid hv2
    clear hv hv2 F4 HS HF3
    go_wp2_with fail
    have h0 : PAt w s w4.heap.size 0 (w4.alloc (.cells #[.slice ta (R13.new 48).taken.length tc, .int .i64 (R13.new 48).hand, .int .i64 (R13.new 48).gen, .slice la (R13.new 48).live.length lc, .slice fa (R13.new 48).fresh.length fc, .slice ya (R13.new 48).dying.length yc, .slice da (R13.new 48).dead.length dc] 64)) := by
      refine ⟨B, _, R13.new 48, ta, tc, la, lc, fa, fc, ya, yc, da, dc, ⟨HS4.out.fr0 ((Fr.refl _ _).alloc _), rel_new _ _, HB.out, HBS.out, by decide +kernel, rfl, rfl, by decide⟩, HV.out.fr ((Fr.refl _ _).alloc _), heap_alloc_new _ _, HF4.out.size, HF4.out.alloc _⟩
    have H0 := hid h0
    clear h0
    obtain ⟨b5, hb5⟩ : ∃ b5, w4.heap.size = b5 := ⟨_, rfl⟩
    rw [hb5] at H0
    simp only [hb5]
    go_loopw [6] (fun i wr => ∃ k : Nat, k ≤ n ∧ i = .int .i64 k ∧ PAt w s b5 k wr) (fun i _ => n - (intOf i).toNat)
    case atStart => exact ⟨0, Nat.zero_le _, rfl, H0.out⟩
    case round =>
      obtain ⟨k, hk, rfl, B, y, r, ta, tc, la, lc, fa, fc, ya, yc, da, dc, hS, hR, q5, hb, hF⟩ := hrel
      have HP := hid (And.intro hS (And.intro hR (And.intro q5 (And.intro hb hF))))
      clear hS hR
      by_cases hlt : k < n
      · have hd : decide ((k : Int) < (n : Int)) = true := by simp; omega
        have hx : l[k]? = some (l[k]'(by rw [HN.out]; exact hlt)) := List.getElem?_eq_getElem _
        generalize l[k]'(by rw [HN.out]; exact hlt) = x at hx
        have hlt0 := hlt
        obtain ⟨bA, off, rfl, hbA, a0, a1, a2, -⟩ := (HA.out.fr hF).at_ k x hx
        obtain ⟨_, _, -, -, -, -, -, hok⟩ := HA.out.at_ k x hx
        have HDU := hid (fun W (F : Fr (fun _ => False) wr W) => did_u (HP.out.1.fr0 F) (HP.out.2.1.fr F) hok (hF.trans F (fun _ _ h => h)) (Nat.le_refl _) (by omega) (by omega))
        obtain ⟨c0, c1, c2, c3, c4, c5, c6, cz, cl⟩ := cells7 q5
        clear hx hok hF q5
        go_upto_region 10 with fail
        go_cut [7, 8, 9] from 36 to 46 (fun v7 v8 v9 wx => PCut w wr s k v7 v8 v9 wx)
        case first =>
          have HRa := hid (HDU.out wr.drew ((Fr.refl _ _).drew))
          have HRb := hid (fun o => HDU.out (wr.alloc o).drew (((Fr.refl _ _).alloc _).drew))
          go_region_law (first
            | (go_simp; go_at_call 36; refine (HRa.out).mono ?_; rintro _ W6 ⟨B', y', r', ta', tc', la', lc', fa', fc', ya', yc', da', dc', rfl, hS', hR', F6⟩; have F36 := frT_pre ((Fr.refl (fun _ => False) wr).drew) F6)
            | (go_simp; go_at_call 36; refine (HRb.out _).mono ?_; rintro _ W6 ⟨B', y', r', ta', tc', la', lc', fa', fc', ya', yc', da', dc', rfl, hS', hR', F6⟩; have F36 := frT_pre (((Fr.refl (fun _ => False) wr).alloc _).drew) F6; have q9 : W6.heap[wr.heap.size]? = some (.cells z64 64) := FrT.heap F6 (hp1d wr _) (by decide); obtain ⟨f0, f1, f2, f3, f4, f5, f6, fz, fl⟩ := cells7 q9))
          all_goals (go_wp2_with fail)
          all_goals go_meet
          all_goals first
            | (with_reducible exact pcut_b hS' hR' F36 (Nat.le_refl _) (by omega) q9 rfl)
            | (with_reducible exact pcut_a hS' hR' F36)
        case rest =>
          obtain ⟨b7, B', y', r', ta', tc', la', lc', fa', fc', ya', yc', da', dc', rfl, rfl, hb7, hS', hR', q7, F7⟩ := hcut
          have q5 := FrT.heap F7 HP.out.2.2.1 (by decide)
          have ne1 : ¬ b5 = b7 := by omega
          have ne2 : ¬ b7 = b5 := by omega
          have hFc := fr_frT (Nat.le_refl _) HP.out.2.2.2.2 F7
          have HP7 := hid (And.intro hS' (And.intro hR' (And.intro q5 (And.intro q7 hFc))))
          clear c0 c1 c2 c3 c4 c5 c6 cz cl a0 a1 a2 hS' hR' hFc F7 HDU
          obtain ⟨c0, c1, c2, c3, c4, c5, c6, cz, cl⟩ := cells7 q5
          obtain ⟨d0, d1, d2, d3, d4, d5, d6, dz, dl⟩ := cells7 q7
          clear q5 q7
          go_upto_region 14 with fail
          obtain ⟨W8, hW8⟩ : ∃ W8, ((((((((wc.setCell ⟨b5, 0, none⟩ (.slice ta' r'.taken.length tc')).setCell ⟨b5, 1, none⟩ (.int .i64 r'.hand)).setCell ⟨b5, 2, none⟩ (.int .i64 r'.gen)).setCell ⟨b5, 3, none⟩ (.slice la' r'.live.length lc')).setCell ⟨b5, 4, none⟩ (.slice fa' r'.fresh.length fc')).setCell ⟨b5, 5, none⟩ (.slice ya' r'.dying.length yc')).setCell ⟨b5, 6, none⟩ (.slice da' r'.dead.length dc'))) = W8 := ⟨_, rfl⟩
          rw [hW8]
          have FX : Fr (fun x => x = b5) wc W8 := by
            rw [← hW8]; with_reducible (repeat (first | exact Fr.refl _ _ | refine Fr.setCell ?_ (fun _ => by simp) _))
          have e5 : W8.heap[b5]? = some (.cells #[.slice ta' r'.taken.length tc', .int .i64 r'.hand, .int .i64 r'.gen, .slice la' r'.live.length lc', .slice fa' r'.fresh.length fc', .slice ya' r'.dying.length yc', .slice da' r'.dead.length dc'] 64) := by rw [← hW8]; exact box7_set HP7.out.2.2.1 rfl
          have hS8 := HP7.out.1.frL FX HP7.out.2.2.1 (by decide) (by omega)
          have hR8 := ref_64 HP7.out.2.1 FX (fun x hx => by subst hx; exact ⟨_, HP7.out.2.2.1⟩)
          have F8 : Fr (fun _ => False) w W8 := HP7.out.2.2.2.2.trans FX (fun x hx e => by omega)
          have HPc := parts_c hS8.st
          rw [show B'.ptr = .pointer (some ⟨s, 0, none⟩) by rw [← hS8.s_]] at HPc
          have HPC := hid HPc
          have H8 := hid (And.intro hS8 (And.intro hR8 (And.intro e5 F8)))
          clear HPc FX hS8 hR8 e5 F8 hW8 c0 c1 c2 c3 c4 c5 c6 cz cl d0 d1 d2 d3 d4 d5 d6 dz dl HP7
          go_wp2_with (go_at_call 32; refine HPC.out.mono ?_)
          rintro _ W9 ⟨v0, v1, v2, v3, L1, L2, L3, rfl, i0, i1, i2, i3, ⟨ro1, ro2, ro3⟩, F9⟩
          have HI := hid (And.intro i0 (And.intro i2 i3))
          obtain ⟨u0, x0, rfl, -⟩ := i0
          obtain ⟨u1, x1, rfl, -⟩ := i1
          obtain ⟨u2, x2, rfl, -⟩ := i2
          obtain ⟨u3, x3, rfl, -⟩ := i3
          obtain ⟨j0, hj, jz0, jz1, jz2⟩ := info_parts Tryz.info3
          have hmk : ∀ W, (Instr.makeSlice 52 (.int .i64 48) (.int .i64 48)).run Tryz.prog W = .ok (.slice (some ⟨W.heap.size, 0, none⟩) 48 48) (W.alloc (.cells (cntCells []) 3)) := fun W => by
            have := run_make_len (P := Tryz.prog) 52 3 j0 _ Tryz.underlying52 hj jz0 48 (by rw [jz2]; omega) (by omega) W
            rw [jz1, ← cnt_nil'] at this; exact this
          clear hj jz0 jz1 jz2
          have HPL := hid (parts_len H8.out.1.rel ro2 ro3)
          have H9 := hid (And.intro (H8.out.1.fr0 F9) (And.intro (H8.out.2.1.fr F9) (And.intro (F9.heap H8.out.2.2.1 (fun h => h)) (H8.out.2.2.2.trans F9 (fun _ _ h => h)))))
          clear F9 ro1 ro2 ro3 HPC
          go_upto_region 16 with fail
          obtain ⟨W10, hW10⟩ : ∃ W10, (W9.alloc (.cells #[.slice u0 (tu y'.taken y'.pages).length x0, .slice u1 L1.length x1, .slice u2 L2.length x2, .slice u3 L3.length x3] 54)).alloc (.cells (cntCells []) 3) = W10 := ⟨_, rfl⟩
          rw [hW10]
          obtain ⟨bpC, buC, F10⟩ := heap_two hW10
          obtain ⟨bu, hbu⟩ : ∃ bu, W9.heap.size + 1 = bu := ⟨_, rfl⟩
          rw [hbu] at buC
          simp only [hbu]
          have b5C := F10.heap H9.out.2.2.1 (fun h => h)
          have sz9 : b5 < W9.heap.size := lt_of_heap H9.out.2.2.1
          have HLN := hid (show r'.live.length ≤ 48 ∧ L2.length ≤ 48 ∧ L3.length ≤ 48 by
            have h1 := H9.out.1.rel.lens.1
            have h2 := HPL.out.2.2.2
            rw [H9.out.1.pages] at h1
            have h3 := len_nodup (n := 48) (l := L2) (List.nodup_iff_count.2 fun x => Nat.le_trans (by unfold allOf; rw [List.count_append, List.count_append]; omega) (HPL.out.2.2.1 x)) (fun x hx => by have := h2 x (by unfold allOf; simp [hx]); rw [H9.out.1.pages] at this; exact this)
            have h4 := len_nodup (n := 48) (l := L3) (List.nodup_iff_count.2 fun x => Nat.le_trans (by unfold allOf; rw [List.count_append, List.count_append]; omega) (HPL.out.2.2.1 x)) (fun x hx => by have := h2 x (by unfold allOf; simp [hx]); rw [H9.out.1.pages] at this; exact this)
            exact ⟨h1, h3, h4⟩)
          have HLive := hid (show ∀ m (hm : m < r'.live.length), ∃ g pn : Nat, la' = some ⟨g, 0, none⟩ ∧ g < W9.heap.size ∧ W10.cell? ⟨g, m * 3, none⟩ = some (.int .i64 pn) ∧ r'.live[m].page = pn ∧ pn < 48 from fun m hm => by
            obtain ⟨pn, st, bs, hl, hp, _⟩ := rel_live H9.out.1.rel hm
            have hl' : r'.live[m] = ⟨pn, st, bs⟩ := by rw [List.getElem?_eq_getElem hm] at hl; exact Option.some.inj hl
            obtain ⟨g, e, hg, hc⟩ := own_cell H9.out.2.1.live (show (r'.live.flatMap pgCells)[m * 3 + 0]? = some (.int .i64 pn) by rw [pgs_get _ _ hm _ (by decide), hl']; simp [pgCells])
            exact ⟨g, pn, e, hg, (F10.cell (p := ⟨g, m * 3, none⟩) hg (fun h => h)).trans hc, by rw [hl'], by rw [H9.out.1.pages] at hp; exact hp⟩)
          have HInt := hid (show ∀ (L : List Int) u x, Ints W9 (.slice u L.length x) L → (∀ z ∈ L, 0 ≤ z ∧ z < 48) → ∀ m (hm : m < L.length), ∃ g pn : Nat, u = some ⟨g, 0, none⟩ ∧ g < W9.heap.size ∧ W10.cell? ⟨g, m, none⟩ = some (.int .i64 pn) ∧ L[m] = pn ∧ pn < 48 from fun L u x hI hz m hm => by
            obtain ⟨a', cap', e, hA⟩ := hI
            cases e
            obtain ⟨g, e, hg, hc⟩ := hA m L[m] (List.getElem?_eq_getElem hm)
            have hb := hz _ (List.getElem_mem hm)
            obtain ⟨pn, hpn⟩ := Int.eq_ofNat_of_zero_le hb.1
            exact ⟨g, pn, e, hg, by rw [← hpn]; exact (F10.cell (p := ⟨g, m, none⟩) hg (fun h => h)).trans hc, hpn, by omega⟩)
          have HZ := hid (show (∀ z ∈ L2, 0 ≤ z ∧ z < 48) ∧ (∀ z ∈ L3, 0 ≤ z ∧ z < 48) ∧ ∀ z ∈ tu y'.taken y'.pages, 0 ≤ z ∧ z < 48 by
            have h2 := HPL.out.2.2.2
            have hp := H9.out.1.pages
            refine ⟨fun z hz => by have := h2 z (by unfold allOf; simp [hz]); rw [hp] at this; exact this, fun z hz => by have := h2 z (by unfold allOf; simp [hz]); rw [hp] at this; exact this, fun z hz => ?_⟩
            obtain ⟨m, rfl, hm, _⟩ := mem_tu.1 hz
            omega)
          have H10 := hid (And.intro bpC (And.intro buC (And.intro b5C F10)))
          have hbu9 : W9.heap.size < bu := by omega
          have sz10 : bu < W10.heap.size := lt_of_heap buC
          clear hmk F10 hW10 bpC buC b5C
          go_wp2_with fail
          go_loopw [12] (fun i wr2 => ∃ m : Nat, m ≤ r'.live.length ∧ i = .int .i64 m ∧ wr2.heap[bu]? = some (.cells (cntCells ((r'.live.map (·.page)).take m)) 3) ∧ Fr (fun x => x = bu) W10 wr2) (fun i _ => r'.live.length - (intOf i).toNat)
          case atStart => exact ⟨0, Nat.zero_le _, rfl, H10.out.2.1, Fr.refl _ _⟩
          case round =>
            obtain ⟨m, hm, rfl, hq, hF10⟩ := hrel
            have HQ := hid (And.intro hq hF10)
            by_cases hlt : m < r'.live.length
            · have hdd : decide ((m : Int) < (r'.live.length : Int)) = true := by simp; omega
              have hm48 : m ≤ 48 := by have := HLN.out; omega
              obtain ⟨g, pn, rfl, hg, hc, hpg, hp48⟩ := HLive.out m hlt
              have hcc := hF10.cell (p := ⟨g, m * 3, none⟩) (Nat.lt_of_lt_of_le hg (by omega)) (by show ¬ g = bu; omega) |>.trans hc
              obtain ⟨cc, hcn⟩ : ∃ cc, ((r'.live.map (·.page)).take m).count (pn : Int) = cc := ⟨_, rfl⟩
              have hcl : cc ≤ 1000 := by rw [← hcn]; exact Nat.le_trans List.count_le_length (by have := HLN.out; simp; omega)
              have huc := (cell_of_heap hq pn).trans (cnt_get hp48)
              rw [hcn] at huc
              have huf := frozen_of_heap hq pn
              have hul := lt_of_heap hq
              have hfd := (HQ.out.2.cell (p := ⟨b5, 3, none⟩) (by show b5 < _; omega) (by show ¬ b5 = bu; omega)).trans (cells7 H10.out.2.2.1).2.2.2.1
              have HPN := hid (And.intro hpg hcn)
              clear hq hF10 hc hpg hcn
              go_wp2_with fail
              go_roundw
              case rel =>
                refine ⟨m + 1, hlt, by go_num, ?_, HQ.out.2.setCell (a := ⟨bu, pn, none⟩) (fun _ => rfl) _⟩
                rw [heap_setCell_cells _ _ _ _ HQ.out.1, ← HPN.out.2, cnt_set hp48]
                rw [show (r'.live.map (·.page)).take (m + 1) = ((r'.live.map (·.page)).take m) ++ [(pn : Int)] by rw [List.take_add_one, List.getElem?_map, List.getElem?_eq_getElem hlt]; simp [HPN.out.1]]
              case measure => simp [intOf]; omega
            · obtain rfl : m = r'.live.length := by omega
              have hdd : decide ((r'.live.length : Int) < (r'.live.length : Int)) = false := by simp
              clear hq hF10
              have hfd := (HQ.out.2.cell (p := ⟨b5, 3, none⟩) (by show b5 < _; omega) (by show ¬ b5 = bu; omega)).trans (cells7 H10.out.2.2.1).2.2.2.1
              go_wp2_with fail
              go_loopw [13] (fun i wr2 => ∃ m : Nat, m ≤ L2.length ∧ i = .int .i64 m ∧ wr2.heap[bu]? = some (.cells (cntCells (r'.live.map (·.page) ++ L2.take m)) 3) ∧ Fr (fun x => x = bu) W10 wr2) (fun i _ => L2.length - (intOf i).toNat)
              case atStart => exact ⟨0, Nat.zero_le _, rfl, by have := HQ.out.1; rw [List.take_of_length_le (by simp)] at this; simpa using this, HQ.out.2⟩
              case round =>
                obtain ⟨m, hm, rfl, hq, hF10⟩ := hrel
                have HQ := hid (And.intro hq hF10)
                by_cases hlt : m < L2.length
                · have hdd : decide ((m : Int) < (L2.length : Int)) = true := by simp; omega
                  have hm48 : m ≤ 48 := by have := HLN.out; omega
                  obtain ⟨g, pn, rfl, hg, hc, hpg, hp48⟩ := HInt.out L2 u2 x2 HI.out.2.1 HZ.out.1 m hlt
                  have hcc := hF10.cell (p := ⟨g, m, none⟩) (Nat.lt_of_lt_of_le hg (by omega)) (by show ¬ g = bu; omega) |>.trans hc
                  obtain ⟨cc, hcn⟩ : ∃ cc, (r'.live.map (·.page) ++ L2.take m).count (pn : Int) = cc := ⟨_, rfl⟩
                  have hcl : cc ≤ 1000 := by rw [← hcn]; exact Nat.le_trans List.count_le_length (by have := HLN.out; simp; omega)
                  have huc := (cell_of_heap hq pn).trans (cnt_get hp48)
                  rw [hcn] at huc
                  have huf := frozen_of_heap hq pn
                  have hul := lt_of_heap hq
                  have hfd := (HQ.out.2.cell (p := ⟨W9.heap.size, 2, none⟩) (by show W9.heap.size < _; omega) (by show ¬ W9.heap.size = bu; omega)).trans (cells4 H10.out.1).2.2.1
                  have HPN := hid (And.intro hpg hcn)
                  clear hq hF10 hc hpg hcn
                  go_wp2_with fail
                  go_roundw
                  case rel =>
                    refine ⟨m + 1, hlt, by go_num, ?_, HQ.out.2.setCell (a := ⟨bu, pn, none⟩) (fun _ => rfl) _⟩
                    rw [heap_setCell_cells _ _ _ _ HQ.out.1, ← HPN.out.2, cnt_set hp48]
                    rw [show r'.live.map (·.page) ++ L2.take (m + 1) = (r'.live.map (·.page) ++ L2.take m) ++ [(pn : Int)] by rw [List.take_add_one, List.getElem?_eq_getElem hlt]; simp [HPN.out.1]]
                  case measure => simp [intOf]; omega
                · obtain rfl : m = L2.length := by omega
                  have hdd : decide ((L2.length : Int) < (L2.length : Int)) = false := by simp
                  clear hq hF10
                  have hfd := (HQ.out.2.cell (p := ⟨W9.heap.size, 2, none⟩) (by show W9.heap.size < _; omega) (by show ¬ W9.heap.size = bu; omega)).trans (cells4 H10.out.1).2.2.1
                  go_wp2_with fail
                  go_loopw [14] (fun i wr2 => ∃ m : Nat, m ≤ L3.length ∧ i = .int .i64 m ∧ wr2.heap[bu]? = some (.cells (cntCells (r'.live.map (·.page) ++ L2 ++ L3.take m)) 3) ∧ Fr (fun x => x = bu) W10 wr2) (fun i _ => L3.length - (intOf i).toNat)
                  case atStart => exact ⟨0, Nat.zero_le _, rfl, by have := HQ.out.1; rw [List.take_of_length_le (Nat.le_refl _)] at this; simpa using this, HQ.out.2⟩
                  case round =>
                    obtain ⟨m, hm, rfl, hq, hF10⟩ := hrel
                    have HQ := hid (And.intro hq hF10)
                    by_cases hlt : m < L3.length
                    · have hdd : decide ((m : Int) < (L3.length : Int)) = true := by simp; omega
                      have hm48 : m ≤ 48 := by have := HLN.out; omega
                      obtain ⟨g, pn, rfl, hg, hc, hpg, hp48⟩ := HInt.out L3 u3 x3 HI.out.2.2 HZ.out.2.1 m hlt
                      have hcc := hF10.cell (p := ⟨g, m, none⟩) (Nat.lt_of_lt_of_le hg (by omega)) (by show ¬ g = bu; omega) |>.trans hc
                      obtain ⟨cc, hcn⟩ : ∃ cc, (r'.live.map (·.page) ++ L2 ++ L3.take m).count (pn : Int) = cc := ⟨_, rfl⟩
                      have hcl : cc ≤ 1000 := by rw [← hcn]; exact Nat.le_trans List.count_le_length (by have := HLN.out; simp; omega)
                      have huc := (cell_of_heap hq pn).trans (cnt_get hp48)
                      rw [hcn] at huc
                      have huf := frozen_of_heap hq pn
                      have hul := lt_of_heap hq
                      have hfd := (HQ.out.2.cell (p := ⟨W9.heap.size, 3, none⟩) (by show W9.heap.size < _; omega) (by show ¬ W9.heap.size = bu; omega)).trans (cells4 H10.out.1).2.2.2.1
                      have HPN := hid (And.intro hpg hcn)
                      clear hq hF10 hc hpg hcn
                      go_wp2_with fail
                      go_roundw
                      case rel =>
                        refine ⟨m + 1, hlt, by go_num, ?_, HQ.out.2.setCell (a := ⟨bu, pn, none⟩) (fun _ => rfl) _⟩
                        rw [heap_setCell_cells _ _ _ _ HQ.out.1, ← HPN.out.2, cnt_set hp48]
                        rw [show r'.live.map (·.page) ++ L2 ++ L3.take (m + 1) = (r'.live.map (·.page) ++ L2 ++ L3.take m) ++ [(pn : Int)] by rw [List.take_add_one, List.getElem?_eq_getElem hlt]; simp [HPN.out.1]]
                      case measure => simp [intOf]; omega
                    · obtain rfl : m = L3.length := by omega
                      have hdd : decide ((L3.length : Int) < (L3.length : Int)) = false := by simp
                      clear hq hF10
                      have hfd := (HQ.out.2.cell (p := ⟨W9.heap.size, 3, none⟩) (by show W9.heap.size < _; omega) (by show ¬ W9.heap.size = bu; omega)).trans (cells4 H10.out.1).2.2.2.1
                      go_wp2_with fail
                      have hallL : r'.live.map (·.page) ++ L2 ++ L3 = allOf r' L2 L3 := rfl
                      obtain ⟨LL, hLL⟩ : ∃ LL, allOf r' L2 L3 = LL := ⟨_, rfl⟩
                      have HLL := hid hLL
                      have HU := hid (show wr.heap[bu]? = some (.cells (cntCells LL) 3) by have := HQ.out.1; rw [List.take_of_length_le (Nat.le_refl _), hallL, hLL] at this; exact this)
                      have HCN := hid (show (∀ z : Int, LL.count z ≤ 1) ∧ (∀ z ∈ tu y'.taken y'.pages, LL.count z = 1) ∧ psum LL 48 = (tu y'.taken y'.pages).length by
                        obtain ⟨h1, h2, h3, h4⟩ := HPL.out
                        rw [hLL] at h1 h2 h3 h4
                        exact ⟨h3, h2, by rw [psum_all (fun z hz => by have := h4 z hz; rw [H9.out.1.pages] at this; exact this), h1]⟩)
                      have FF := hid (show Fr (fun _ => False) W9 wr from H10.out.2.2.2.trans HQ.out.2 (fun b hb e => by omega))
                      clear hallL hLL hfd
                      go_loopw [15, 16] (fun vn i wr3 => ∃ m : Nat, m ≤ 48 ∧ vn = .int .i64 (psum LL m) ∧ i = .int .i64 m ∧ wr3 = wr) (fun _ i _ => 48 - (intOf i).toNat)
                      case atStart => exact ⟨0, by omega, rfl, rfl, rfl⟩
                      case round =>
                        obtain ⟨m, hm, rfl, rfl, rfl⟩ := hrel
                        have hq := HU.out
                        obtain ⟨ps, hps⟩ : ∃ ps, psum LL m = ps := ⟨_, rfl⟩
                        have hpl : ps ≤ 48 := by rw [← hps]; exact Nat.le_trans (psum_le LL m HCN.out.1) hm
                        rw [hps]
                        have HPS := hid hps
                        clear hps
                        by_cases hlt : m < 48
                        · have hdd : decide ((m : Int) < 48) = true := by simp; omega
                          obtain ⟨cc, hcn⟩ : ∃ cc, LL.count (m : Int) = cc := ⟨_, rfl⟩
                          have hcl : cc ≤ 1 := by rw [← hcn]; exact HCN.out.1 _
                          have hdc : decide ((1 : Int) < (cc : Int)) = false := by simp; omega
                          have huc := (cell_of_heap hq m).trans (cnt_get hlt)
                          rw [hcn] at huc
                          have HPN := hid hcn
                          clear hq hcn
                          go_wp2_with fail
                          go_roundw
                          case rel => exact ⟨m + 1, hlt, by simp only [psum, HPS.out, HPN.out]; go_num, by go_num, trivial⟩
                          case measure => simp [intOf]; omega
                        · obtain rfl : m = 48 := by omega
                          have htl : (tu y'.taken y'.pages).length = ps := by rw [← HPS.out]; exact HCN.out.2.2.symm
                          have HTL := hid htl
                          have hdd : decide ((48 : Int) < 48) = false := by decide
                          have hfd := (HQ.out.2.cell (p := ⟨W9.heap.size, 0, none⟩) (by show W9.heap.size < _; omega) (by show ¬ W9.heap.size = bu; omega)).trans (cells4 H10.out.1).1
                          rw [htl] at hfd
                          clear htl hq
                          go_wp2_with fail
                          go_loopw [17] (fun i wr4 => ∃ m : Nat, m ≤ ps ∧ i = .int .i64 m ∧ wr4 = wr) (fun i _ => ps - (intOf i).toNat)
                          case atStart => exact ⟨0, by omega, rfl, rfl⟩
                          case round =>
                            obtain ⟨m, hm, rfl, rfl⟩ := hrel
                            have hq := HU.out
                            by_cases hlt : m < ps
                            · have hdd2 : decide ((m : Int) < (ps : Int)) = true := by simp; omega
                              obtain ⟨g, pn, rfl, hg, hc, hpg, hp48⟩ := HInt.out (tu y'.taken y'.pages) u0 x0 HI.out.1 HZ.out.2.2 m (by rw [HTL.out]; exact hlt)
                              have hcc := HQ.out.2.cell (p := ⟨g, m, none⟩) (Nat.lt_of_lt_of_le hg (by omega)) (by show ¬ g = bu; omega) |>.trans hc
                              have hone : LL.count (pn : Int) = 1 := by rw [← hpg]; exact HCN.out.2.1 _ (List.getElem_mem _)
                              have huc := (cell_of_heap hq pn).trans (cnt_get hp48)
                              rw [hone] at huc
                              clear hq hc hpg hone
                              go_wp2_with fail
                              go_roundw
                              case rel => exact ⟨m + 1, hlt, by go_num, trivial⟩
                              case measure => simp [intOf]; omega
                            · obtain rfl : m = ps := by omega
                              have hdd2 : decide ((m : Int) < (m : Int)) = false := by simp
                              clear hq
                              go_wp2_with fail
                              go_roundw
                              case rel =>
                                refine ⟨k + 1, hlt0, by go_num, B', y', r', ta', tc', la', lc', fa', fc', ya', yc', da', dc', ?_, H9.out.2.1.fr FF.out, FF.out.heap H9.out.2.2.1 (fun h => h), HP.out.2.2.2.1, H9.out.2.2.2.trans FF.out (fun _ _ h => h)⟩
                                have := H9.out.1.fr0 FF.out
                                simpa [Nat.mul_succ] using this
                              case measure => simp [intOf]; omega
      · obtain rfl : k = n := by omega
        have hd : decide ((k : Int) < (k : Int)) = false := by simp
        have HAw := hid (awake13_ok wr (HT.out.fr hF (fun h => h)))
        clear hF hb q5
        go_wp2_with (go_at_call 25; refine HAw.out.mono ?_)
        rintro e W3 ⟨rfl, F3⟩
        have HF3 := hid F3
        clear F3
        go_wp2
        go_ret
        exact ⟨rfl, HP.out.2.2.2.2.trans HF3.out (fun _ _ h => h)⟩
end Go.Proofs.YtgdhaaokolfdoaaGreatDoor
