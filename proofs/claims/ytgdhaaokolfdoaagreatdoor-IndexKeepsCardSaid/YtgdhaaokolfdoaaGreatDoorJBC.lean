/- A pack of texts: FU, GC, DM. Conditions: those that each text names. -/
import Derived.Test.YtgdhaaokolfdoaaGreatDoorJAX
import Derived.Test.YtgdhaaokolfdoaaGreatDoorJBB
import Derived.Test.YtgdhaaokolfdoaaGreatDoorJBA
set_option linter.unusedVariables false
set_option linter.unusedSimpArgs false
set_option linter.unnecessarySimpa false
namespace Go.Proofs.YtgdhaaokolfdoaaGreatDoor
open Go.RowKit Go.Sg Go.Sg.Bits Go.Sg.Clk CP SF
abbrev noP : Prot := fun _ => none
structure FullY (y : Cs) (k : Nat) (bs : List Int) : Prop where
  pages : y.pages = 48
  room : y.room = 77
  gen : y.gen = 1
  places : y.places = 8
  hand : y.hand = k % 48
  taken : ∀ j, j < 48 → y.taken j = decide (j < k)
  cont : ∀ j : Nat, j < k → y.cont j = some (1, bs ++ [(j : Int)])
theorem Tryz.info35 : (Tryz.prog.info? 35).map (fun i => (i.zero, i.size, i.bytes)) = some (some (.agg #[.int .i64 0, .int .i64 0]), 2, 16) := by kernel_rfl
end Go.Proofs.YtgdhaaokolfdoaaGreatDoor

namespace Go.Sg
def refC (x : Int × Int) : List Value := [.int .i64 x.1, .int .i64 x.2]
theorem own_blockT {w : World} {base n size e : Nat} {v : Value} {xs : List Value} (h : w.ownsRow base e size v n xs) {g : Nat} (hg : some g = v.ownBlock) : base ≤ g ∧ ∃ c, w.heap[g]? = some (.cells c e) := by
  obtain ⟨_, ⟨rfl, _⟩ | ⟨g', cap, cur, rfl, hb, hgc, _⟩⟩ := h
  · simp [Value.ownBlock] at hg
  · have : g = g' := by simpa [Value.ownBlock] using hg
    subst this
    exact ⟨hb, _, hgc⟩
theorem refsC_len (l : List (Int × Int)) : (l.flatMap refC).length = l.length * 2 := by
  induction l with
  | nil => rfl
  | cons x l ih => simp only [List.flatMap_cons, List.length_append, List.length_cons, ih, refC]; simp; omega
end Go.Sg
namespace Go.Proofs.YtgdhaaokolfdoaaGreatDoor
open Go.RowKit Go.Sg CP SF
abbrev OwnR (w : World) (base : Nat) (v : Value) (l : List (Int × Int)) : Prop := w.ownsRow base 35 2 v l.length (l.flatMap refC)
def ParseP (l : List (Int × Int)) (w : World) (e : Ending) (w' : World) : Prop := ∃ v, e = .returned (.tuple #[v, .int .i64 0]) ∧ OwnR w' w.heap.size v l ∧ Fr (fun _ => False) w w'
def NumP (r : Nat) (bs : List Int) (k : Nat) (w : World) (e : Ending) (w' : World) : Prop := e = .returned (.int .u64 (leV (bs.take k))) ∧ RdAt w' r (bs.drop k) false ∧ Fr (fun b => b = r) w w'
theorem num_p {w : World} {r : Nat} {bs : List Int} (h : RdAt w r bs false) (hby : ∀ x ∈ bs, 0 ≤ x ∧ x < 256) (k : Nat) (kz : Int) (hkz : kz = k) (hk : k = 1 ∨ k = 2 ∨ k = 4 ∨ k = 8) (hm : k ≤ bs.length) :
    Calls Tryz.prog 216 #[.pointer (some ⟨r, 0, none⟩), .int .i64 kz] w (NumP r bs k w) := by
  subst hkz; exact num_ok h hby k hk hm
theorem refB_byte (x : Int × Int) : ∀ z ∈ refB x, 0 ≤ z ∧ z < 256 := fun z hz => by
  rcases List.mem_append.1 hz with h | h <;> exact Sg.leB_byte _ _ z h
theorem loadM_byte (l : List (Int × Int)) : ∀ z ∈ loadM l, 0 ≤ z ∧ z < 256 := fun z hz => by
  obtain ⟨x, _, h⟩ := List.mem_flatMap.1 hz
  exact refB_byte x z h
theorem loadM_drop {l : List (Int × Int)} {k p q : Nat} (h : l[k]? = some ((p : Int), (q : Int))) : loadM (l.drop k) = Sg.leB p 4 ++ (Sg.leB q 8 ++ loadM (l.drop (k + 1))) := by
  have hk := (List.getElem?_eq_some_iff.1 h).1
  have e : l[k] = ((p : Int), (q : Int)) := (List.getElem?_eq_some_iff.1 h).2
  rw [List.drop_eq_getElem_cons hk, e]
  simp [loadM, refB]
theorem take_leB (n k : Nat) (t : List Int) : (Sg.leB n k ++ t).take k = Sg.leB n k := by
  rw [List.take_append_of_le_length (by rw [leB_length]; exact Nat.le_refl _), List.take_of_length_le (by rw [leB_length]; exact Nat.le_refl _)]
theorem drop_leB (n k : Nat) (t : List Int) : (Sg.leB n k ++ t).drop k = t := by
  rw [List.drop_append_of_le_length (by rw [leB_length]; exact Nat.le_refl _), List.drop_of_length_le (by rw [leB_length]; exact Nat.le_refl _)]; rfl
def NewRdP (bs : List Int) (w : World) (e : Ending) (w' : World) : Prop := ∃ r, e = .returned (.pointer (some ⟨r, 0, none⟩)) ∧ RdAt w' r bs false ∧ w.heap.size ≤ r ∧ Fr (fun _ => False) w w'
set_option maxHeartbeats 4000000 in
set_option maxRecDepth 100000 in
theorem parse_ok {w : World} {a : Option Addr} {c n : Nat} {l : List (Int × Int)} (h : SlB w a (12 * n) c (loadM l)) (hr : ∀ x ∈ l, rightR x) (hn : l.length = n) (hn1 : n ≤ 64) :
    Calls Tryz.prog 181 #[.slice a (12 * n) c, .int .i64 n] w (ParseP l w) := by
  obtain ⟨i0, hi0, hz0, hz1, hz2⟩ := info_parts Tryz.info35
  have HR := hid (And.intro hr hn)
  have HNW := hid (show Calls Tryz.prog 215 #[.slice a (12 * n) c] w (NewRdP (loadM l) w) from newreader_ok h (by omega))
  clear h hr hn
  go_enter Tryz.func181, Tryz.ntmps181
  go_wp2_with (go_at_call 215; refine HNW.out.mono ?_)
  rintro e w1 ⟨r, rfl, hW, hrb, F1⟩
  have HW1 := hid (And.intro hW F1)
  clear hW F1
  go_wp2_with fail
  go_loopw [7, 17] (fun v i wr => ∃ k : Nat, k ≤ n ∧ i = .int .i64 k ∧ RdAt wr r (loadM (l.drop k)) false ∧ OwnR wr w.heap.size v (l.take k) ∧ Fr (fun _ => False) w wr) (fun _ i _ => n - (intOf i).toNat)
  case atStart => exact ⟨0, Nat.zero_le _, rfl, HW1.out.1, World.ownsRow_nil _ _ _ _, HW1.out.2⟩
  case round =>
    obtain ⟨k, hk, rfl, hW, hown, F⟩ := hrel
    have HW := hid (And.intro hW (And.intro hown F))
    by_cases hlt : k < n
    · have hx : l[k]? = some (l[k]'(by rw [HR.out.2]; exact hlt)) := List.getElem?_eq_getElem _
      generalize l[k]'(by rw [HR.out.2]; exact hlt) = x at hx
      have hrx := HR.out.1 x (List.mem_of_getElem? hx)
      obtain ⟨z1, z2⟩ := x
      obtain ⟨p, rfl⟩ := Int.eq_ofNat_of_zero_le hrx.1
      obtain ⟨q, rfl⟩ := Int.eq_ofNat_of_zero_le hrx.2.2.1
      have hp1 : p ≤ 2147483647 := by have := hrx.2.1; simp only at this; omega
      have hq1 : q < 9223372036854775808 := by have := hrx.2.2.2; simp only at this; omega
      have hd : decide ((k : Int) < (n : Int)) = true := by simp; omega
      have hW' := hW
      rw [loadM_drop hx] at hW'
      have HN1 := hid (num_p hW' (by rw [← loadM_drop hx]; exact loadM_byte _) 4 4 (by simp) (by omega) (by rw [List.length_append, leB_length]; omega))
      have HX := hid hx
      have HRX := hid hrx
      clear hx hW hW' hown F hrx
      go_wp2_with (go_at_call 216; refine HN1.out.mono ?_)
      rintro e W2 ⟨rfl, hR2, F2⟩
      rw [take_leB, leV_leB 4 p (by omega)]
      rw [drop_leB] at hR2
      have hwl := lt_of_heap (show wr.heap[r]? = some _ from HW.out.1.ex.choose_spec.choose_spec.1)
      have HN2 := hid (num_p hR2 (fun z hz => loadM_byte l z (by
        have : z ∈ loadM (l.drop k) := by rw [loadM_drop HX.out]; exact List.mem_append_right _ hz
        obtain ⟨y, hy, hz'⟩ := List.mem_flatMap.1 this
        exact List.mem_flatMap.2 ⟨y, List.mem_of_mem_drop hy, hz'⟩)) 8 8 (by simp) (by omega) (by rw [List.length_append, leB_length]; omega))
      have H2 := hid F2
      have hcp : IntKind.i64.wrap (p : Int) = (p : Int) := by rw [IntKind.wrap_i64]; omega
      have hcq : IntKind.i64.wrap (q : Int) = (q : Int) := by rw [IntKind.wrap_i64]; omega
      clear hR2 F2 HN1
      go_wp2_with (go_at_call 216; refine HN2.out.mono ?_)
      rintro e W3 ⟨rfl, hR3, F3⟩
      rw [take_leB, leV_leB 8 q (by omega)]
      rw [drop_leB] at hR3
      have F13 : Fr (fun b => b = r) wr W3 := H2.out.trans F3 (fun _ _ h => h)
      have hown3 : OwnR W3 w.heap.size u7 (l.take k) := ownsRow_fr HW.out.2.1 F13 (fun g cs hg e => by rw [e, HW.out.1.ex.choose_spec.choose_spec.1] at hg; cases hg)
      have H3 := hid (And.intro hR3 (And.intro F13 hown3))
      clear hR3 F3 F13 hown3
      go_upto_region 8 with fail
      obtain ⟨W4, hW4⟩ : ∃ W4, W3.alloc (.cells #[.int .i64 p, .int .i64 q] 35) = W4 := ⟨_, rfl⟩
      rw [hW4]
      have F4 : Fr (fun _ => False) W3 W4 := by rw [← hW4]; exact (Fr.refl _ _).alloc _
      have j9 : W4.heap[W3.heap.size]? = some (.cells #[.int .i64 p, .int .i64 q] 35) := by rw [← hW4]; exact heap_alloc_new _ _
      have H4 := hid (And.intro F4 j9)
      obtain ⟨e0, e1, ez, el⟩ := cells2 j9
      clear F4 j9 hW4
      have hrt := right_dir_ok (p : Int) (q : Int) W4
      unfold RightP at hrt
      rw [show rightM (p : Int) (q : Int) = true by simp [rightM]; omega] at hrt
      have HRT := hid hrt
      clear hrt
      go_wp2_with (go_at_call 117; refine HRT.out.mono ?_)
      rintro e W5 ⟨rfl, F5⟩
      have j9 := F5.heap H4.out.2 (fun h => h)
      have H5 := hid (And.intro (H4.out.1.trans F5 (fun _ _ h => h)) j9)
      clear e0 e1 ez el
      obtain ⟨e0, e1, ez, el⟩ := cells2 j9
      clear F5 j9
      have hown5 : OwnR W5 w.heap.size u7 (l.take k) := ownsRow_fr H3.out.2.2 H5.out.1 (fun _ _ _ h => h)
      have hR5 : RdAt W5 r (loadM (l.drop (k + 1))) false := H3.out.1.fr H5.out.1 (fun h => h) (fun _ _ _ h => h)
      have hlen : (l.take k).length = k := by rw [List.length_take, HR.out.2]; omega
      have F15 : Fr (fun _ => False) w W5 := (HW.out.2.2.trans H3.out.2.1 (fun b hb e => by subst e; omega)).trans H5.out.1 (fun _ _ h => h)
      have H6 := hid (And.intro hown5 (And.intro hR5 F15))
      have HLN := hid hlen
      have hsz : w.heap.size ≤ W5.heap.size := F15.size
      clear hown5 hR5 F15 hlen HRT
      go_wp2_with (at_builtin; refine wpList_append_own_at _ rfl (.tmp 29) (.tmp 31) 33 rfl w.heap.size 35 i0 _ 2 16 Tryz.underlying33 hi0 hz0 hz1 hz2 rfl (by decide) _ _ _ rfl (H6.out.1.alloc _) ⟨W5.heap.size, 0, none⟩ 1 1 [.int .i64 p, .int .i64 q] rfl rfl (World.news_of_block (cs := #[.int .i64 p, .int .i64 q]) (t := 35) (fr := (0, 0)) (heap_alloc_new _ _)) (by simp [Value.oneCell']) (by rw [HLN.out]; simp [maxLen]; omega) (by have := HLN.out; omega) (by simp; omega) ?_)
      intro v2 W2 hown2 hgrow2 hnil2 hat2
      have hF2 : Fr (fun b => some b = u7.ownBlock) W5 W2 := ((Fr.refl _ _).alloc _).trans (S' := fun b => some b = u7.ownBlock) ⟨hgrow2.os, hgrow2.tape, hgrow2.output, hgrow2.size, fun b hb hn => hgrow2.block b hb hn⟩ (fun b hb h => h)
      have hR7 : RdAt W2 r (loadM (l.drop (k + 1))) false := H6.out.2.1.fr hF2 (fun e => by
        obtain ⟨_, c, hc⟩ := own_blockT H6.out.1 e
        obtain ⟨a, c', h1, _⟩ := H6.out.2.1.ex
        rw [hc] at h1; cases h1) (fun b c hb e => by
        obtain ⟨_, c', hc⟩ := own_blockT H6.out.1 e
        rw [hc] at hb; cases hb)
      have hF7 : Fr (fun _ => False) w W2 := H6.out.2.2.trans hF2 (fun b hb e => by have := (own_blockT H6.out.1 e).1; omega)
      have H7 := hid (And.intro hown2 (And.intro hR7 hF7))
      clear hown2 hgrow2 hnil2 hat2 hF2 hR7 hF7
      go_wp2_with fail
      go_roundw
      case rel =>
        refine ⟨k + 1, hlt, by go_num, H7.out.2.1, ?_, H7.out.2.2⟩
        have e1 : l.take (k + 1) = l.take k ++ [((p : Int), (q : Int))] := by rw [List.take_add_one, HX.out]; rfl
        have e2 : (l.take (k + 1)).flatMap refC = (l.take k).flatMap refC ++ [.int .i64 p, .int .i64 q] := by rw [e1, List.flatMap_append]; rfl
        have e3 : (l.take (k + 1)).length = (l.take k).length + 1 := by rw [e1, List.length_append]; rfl
        show W2.ownsRow _ 35 2 _ (l.take (k + 1)).length ((l.take (k + 1)).flatMap refC)
        rw [e2, e3, List.length_take]
        exact H7.out.1
      case measure => simp [intOf]; omega
    · obtain rfl : k = n := by omega
      have hd : decide ((k : Int) < (k : Int)) = false := by simp
      clear hW hown F
      go_wp2_with fail
      go_ret2
      have e1 : l.take k = l := List.take_of_length_le (by rw [HR.out.2]; exact Nat.le_refl _)
      have := HW.out.2.1
      rw [e1] at this
      exact ⟨_, rfl, this, HW.out.2.2⟩
end Go.Proofs.YtgdhaaokolfdoaaGreatDoor

namespace Go.Sg
abbrev Rf := Int × Int
def chunk (l : List Rf) (per i : Nat) : List Rf := (l.drop (i * per)).take per
theorem chunk_get {l : List Rf} {per i k : Nat} (hk : k < per) : (chunk l per i)[k]? = l[i * per + k]? := by
  rw [chunk, List.getElem?_take, if_pos hk, List.getElem?_drop]
theorem chunk_len (l : List Rf) (per i : Nat) : (chunk l per i).length = min per (l.length - i * per) := by
  rw [chunk, List.length_take, List.length_drop]
def setM (l : List Rf) (L : List Nat) (r : Rf) : List Rf := L.foldl (fun l n => l.set n r) l
theorem setM_len (L : List Nat) (r : Rf) : ∀ l : List Rf, (setM l L r).length = l.length := by
  induction L with
  | nil => intro l; rfl
  | cons n L ih => intro l; rw [setM, List.foldl_cons]; exact (ih _).trans (by simp)
theorem setM_get (L : List Nat) (r : Rf) : ∀ (l : List Rf) (i : Nat), (setM l L r)[i]? = if i ∈ L then (l[i]?).map (fun _ => r) else l[i]? := by
  induction L with
  | nil => intro l i; simp [setM]
  | cons n L ih =>
    intro l i
    have h1 : (setM l (n :: L) r) = setM (l.set n r) L r := rfl
    have h2 : (l.set n r)[i]? = if i = n then (l[i]?).map (fun _ => r) else l[i]? := by
      rw [List.getElem?_set]
      by_cases e : n = i
      · subst e
        rw [if_pos rfl, if_pos rfl]
        by_cases hl : n < l.length
        · rw [if_pos hl, List.getElem?_eq_getElem hl]; rfl
        · rw [if_neg hl, List.getElem?_eq_none (by omega)]; rfl
      · rw [if_neg e, if_neg (fun h => e h.symm)]
    rw [h1, ih, h2]
    by_cases hi : i ∈ L
    · rw [if_pos hi, if_pos (List.mem_cons_of_mem _ hi)]
      split
      · cases l[i]? <;> rfl
      · rfl
    · rw [if_neg hi]
      by_cases e : i = n
      · rw [if_pos e, if_pos (by simp [e])]
      · rw [if_neg e, if_neg (by simp [e, hi])]
theorem setM_ext {l l' : List Rf} (h : ∀ i : Nat, l[i]? = l'[i]?) : l = l' := List.ext_getElem? h
theorem setM_perm {l : List Rf} {L L' : List Nat} {r : Rf} (h : ∀ n, n ∈ L ↔ n ∈ L') : setM l L r = setM l L' r :=
  setM_ext fun i => by rw [setM_get, setM_get]; simp only [h]
theorem setM_append (l : List Rf) (L L' : List Nat) (r : Rf) : setM l (L ++ L') r = setM (setM l L r) L' r := by simp [setM]
theorem setM_right {l : List Rf} {L : List Nat} {r : Rf} (h : ∀ x ∈ l, rightR x) (hr : rightR r) : ∀ x ∈ setM l L r, rightR x := by
  intro x hx
  obtain ⟨i, hi, rfl⟩ := List.mem_iff_getElem.1 hx
  have h1 := setM_get L r l i
  rw [List.getElem?_eq_getElem hi] at h1
  split at h1
  · cases hl : l[i]? with
    | none => rw [hl] at h1; cases h1
    | some v => rw [hl] at h1; rw [show (setM l L r)[i] = r from Option.some.inj h1]; exact hr
  · exact h _ (List.mem_of_getElem? h1.symm)
theorem chunk_set {l : List Rf} {per i : Nat} {L : List Nat} {r : Rf} (h : ∀ n ∈ L, n / per = i) (hp : 0 < per) : chunk (setM l L r) per i = setM (chunk l per i) (L.map (· % per)) r := by
  refine setM_ext fun k => ?_
  rw [setM_get]
  by_cases hk : k < per
  · rw [chunk_get hk, setM_get, chunk_get hk]
    have e : i * per + k ∈ L ↔ k ∈ L.map (· % per) := by
      rw [List.mem_map]
      constructor
      · intro h1; exact ⟨_, h1, by rw [Nat.mul_comm, Nat.mul_add_mod]; exact Nat.mod_eq_of_lt hk⟩
      · rintro ⟨n, hn, rfl⟩
        have h1 := h n hn
        have h2 := Nat.div_add_mod n per
        rw [h1, Nat.mul_comm] at h2
        rw [h2]; exact hn
    simp only [e]
  · rw [chunk, List.getElem?_take, if_neg hk, chunk, List.getElem?_take, if_neg hk]
    simp
theorem chunk_other {l : List Rf} {per i j : Nat} {L : List Nat} {r : Rf} (h : ∀ n ∈ L, n / per = i) (hij : j ≠ i) : chunk (setM l L r) per j = chunk l per j := by
  refine setM_ext fun k => ?_
  by_cases hk : k < per
  · rw [chunk_get hk, chunk_get hk, setM_get, if_neg]
    intro hm
    have h1 := h _ hm
    rw [Nat.mul_comm, Nat.mul_add_div (by omega), Nat.div_eq_of_lt hk] at h1
    omega
  · rw [chunk, List.getElem?_take, if_neg hk, chunk, List.getElem?_take, if_neg hk]
theorem map_sw_set {l : List Nat} (h : l.Nodup) {k n m : Nat} (hk : l[k]? = some n) : l.map (sw n m) = l.set k m := by
  refine List.ext_getElem? fun j => ?_
  rw [List.getElem?_map, List.getElem?_set]
  by_cases e : k = j
  · subst e
    rw [hk, if_pos rfl, if_pos (List.getElem?_eq_some_iff.1 hk).1]
    simp [sw]
  · rw [if_neg e]
    cases hj : l[j]? with
    | none => rfl
    | some v =>
      have : v ≠ n := by
        rintro rfl
        exact e ((List.getElem?_inj (List.getElem?_eq_some_iff.1 hk).1 h).1 (hk.trans hj.symm))
      simp [sw, this]
end Go.Sg
namespace Go.Proofs.YtgdhaaokolfdoaaGreatDoor
open Go.RowKit Go.Sg Go.Sg.Bits Go.Sg.Clk CP SF
def pgs (rp : Int) (tops : List Rf) : List Nat := rp.toNat :: tops.map (fun r => r.1.toNat)
structure DirZ (y : Cs) (x : DirD) : Prop where
  most : x.depth ≤ x.most ∧ x.most ≤ 20
  per : 0 < x.per ∧ 12 * x.per ≤ y.room
  fits : ∀ d, d ≤ x.most → 12 * ((2 ^ d + x.per - 1) / x.per) ≤ y.room
  room : y.room ≤ 493
structure LeafC (c : Cont) (per : Nat) (tops slots : List Rf) : Prop where
  sr : ∀ r ∈ slots, rightR r
  tr : ∀ r ∈ tops, rightR r
  at_ : ∀ (i : Nat) r, tops[i]? = some r → c r.1 = some (r.2.toNat, loadM (chunk slots per i))
structure DirC (y : Cs) (x : DirD) (tops slots : List Rf) : Prop where
  z : DirZ y x
  slen : slots.length = x.slots
  tlen : tops.length = x.leaves
  leaf : LeafC y.cont x.per tops slots
  rr : 0 ≤ x.rp ∧ 0 ≤ x.rs
  root : y.cont x.rp = some (x.rs.toNat, loadM tops)
theorem DirZ.leaves {y : Cs} {x : DirD} (h : DirZ y x) : 12 * x.leaves ≤ y.room := h.fits x.depth h.most.1
theorem DirZ.le41 {y : Cs} {x : DirD} (h : DirZ y x) : x.leaves ≤ 41 ∧ x.per ≤ 41 := by
  have h1 := h.leaves
  have h2 := h.per.2
  have h3 := h.room
  omega
theorem DirZ.slots_le {y : Cs} {x : DirD} (h : DirZ y x) : x.slots ≤ x.leaves * x.per := by
  unfold DirD.leaves
  have h1 := h.per.1
  have h2 := Nat.div_add_mod (x.slots + x.per - 1) x.per
  have h3 := Nat.mod_lt (x.slots + x.per - 1) h1
  rw [Nat.mul_comm] at h2
  omega
theorem DirZ.lt_slots {y : Cs} {x : DirD} (h : DirZ y x) {i : Nat} (hi : i < x.leaves) : i * x.per < x.slots := by
  unfold DirD.leaves at hi
  have h1 := h.per.1
  have h2 : (i + 1) * x.per ≤ x.slots + x.per - 1 := (Nat.le_div_iff_mul_le h1).1 hi
  rw [Nat.succ_mul] at h2
  omega
theorem chunk_right {l : List Rf} (h : ∀ r ∈ l, rightR r) (per i : Nat) : ∀ r ∈ chunk l per i, rightR r := fun r hr => h r (List.mem_of_mem_drop (List.mem_of_mem_take hr))
end Go.Proofs.YtgdhaaokolfdoaaGreatDoor
