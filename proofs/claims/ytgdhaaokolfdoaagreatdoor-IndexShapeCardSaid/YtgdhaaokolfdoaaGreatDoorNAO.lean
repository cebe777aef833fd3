/- A pack of texts: FU, GC, DM. Conditions: those that each text names. -/
import Derived.Test.YtgdhaaokolfdoaaGreatDoorNAL
import Derived.Test.YtgdhaaokolfdoaaGreatDoorNAN
set_option maxHeartbeats 16000000
set_option maxRecDepth 100000
set_option linter.all false
namespace Go.Proofs.YtgdhaaokolfdoaaGreatDoor
open Go.RowKit Go.Sg Go.Sg.Bits Go.Sg.Clk CP SF
abbrev noP : Prot := fun _ => none
structure FullY (y : Cs) (k : Nat) (bs : List Int) : Prop where
 pages : y.pages = 48
 room : y.room = 77
 gen : y.gen = 1
 places : y.places = 8
 hand : y.hand = k % 48
 taken : ∀ j, j < 48 -> y.taken j = decide (j < k)
 cont : ∀ j : Nat, j < k -> y.cont j = some (1, bs ++ [(j : Int)])
theorem Tryz.info35 : (Tryz.prog.info? 35).map (fun i => (i.zero, i.size, i.bytes)) = some (some (.agg #[.int .i64 0, .int .i64 0]), 2, 16) := by kernel_rfl
end Go.Proofs.YtgdhaaokolfdoaaGreatDoor
namespace Go.Sg
def refC (x : Int × Int) : List Value := [.int .i64 x.1, .int .i64 x.2]
theorem oBT {w : World} {base n size e : Nat} {v : Value} {xs : List Value} (h : w.ownsRow base e size v n xs) {g : Nat} (hg : some g = v.ownBlock) : base <= g /\ ∃ c, w.heap[g]? = some (.cells c e) := by
 obtain ⟨_, ⟨rfl, _⟩ | ⟨g', cap, cur, rfl, hb, hgc, _⟩⟩ := h
 ·simp [Value.ownBlock] at hg
 ·have : g = g' := by simpa [Value.ownBlock] using hg
  subst this;exact ⟨hb, _, hgc⟩
theorem refsC_len (l : List (Int × Int)) : (l.flatMap refC).length = l.length * 2 := by
 induction l with
 | nil => rfl
 | cons x l ih => simp only [List.flatMap_cons, lA, lC, ih, refC]; simp; omega
end Go.Sg
namespace Go.Proofs.YtgdhaaokolfdoaaGreatDoor
open Go.RowKit Go.Sg CP SF
abbrev OwnR (w : World) (base : Nat) (v : Value) (l : List (Int × Int)) : Prop := w.ownsRow base 35 2 v l.length (l.flatMap refC)
def ParseP (l : List (Int × Int)) (w : World) (e : Ending) (w' : World) : Prop := ∃ v, e = .returned (.tuple #[v, .int .i64 0]) /\ OwnR w' w.heap.size v l /\ Fq w w'
def NumP (r : Nat) (bs : List Int) (k : Nat) (w : World) (e : Ending) (w' : World) : Prop := e = .returned (.int .u64 (leV (bs.take k))) /\ RdAt w' r (bs.drop k) false /\ Fr (fun b => b = r) w w'
variable {w : World} {l : List (Int × Int)}
theorem num_p {r : Nat} {bs : List Int} (h : RdAt w r bs false) (hby : ∀ x ∈ bs, 0 <= x /\ x < 256) (k : Nat) (kz : Int) (hkz : kz = k) (hk : k = 1 \/ k = 2 \/ k = 4 \/ k = 8) (hm : k <= bs.length) :
  Calls Tryz.prog 216 #[.pointer (some ⟨r, 0, none⟩), .int .i64 kz] w (NumP r bs k w) := by
 subst hkz; exact num_ok h hby k hk hm
theorem refB_byte (x : Int × Int) : ∀ z ∈ refB x, 0 <= z /\ z < 256 := fun z hz => by
 rcases List.mem_append.1 hz with h | h <;> exact Sg.leB_byte _ _ z h
theorem loadM_byte (l : List (Int × Int)) : ∀ z ∈ loadM l, 0 <= z /\ z < 256 := fun z hz => by
 obtain ⟨x, _, h⟩ := List.mem_flatMap.1 hz;exact refB_byte x z h
theorem loadM_drop {k p q : Nat} (h : l[k]? = some ((p : Int), (q : Int))) : loadM (l.drop k) = Sg.leB p 4 ++ (Sg.leB q 8 ++ loadM (l.drop (k + 1))) := by
 have hk := (gI.1 h).1;have e : l[k] = ((p : Int), (q : Int)) := (gI.1 h).2;rw [List.drop_eq_getElem_cons hk, e];simp [loadM, refB]
theorem take_leB (n k : Nat) (t : List Int) : (Sg.leB n k ++ t).take k = Sg.leB n k := by
 rw [List.take_append_of_le_length (by rw [leB_length]; exact nR _), tL (by rw [leB_length]; exact nR _)]
theorem drop_leB (n k : Nat) (t : List Int) : (Sg.leB n k ++ t).drop k = t := by
 rw [List.drop_append_of_le_length (by rw [leB_length]; exact nR _), List.drop_of_length_le (by rw [leB_length]; exact nR _)]; rfl
def NewRdP (bs : List Int) (w : World) (e : Ending) (w' : World) : Prop := ∃ r, e = .returned (.pointer (some ⟨r, 0, none⟩)) /\ RdAt w' r bs false /\ w.heap.size <= r /\ Fq w w'
theorem parse_ok {a : Option Addr} {c n : Nat} (h : SlB w a (12 * n) c (loadM l)) (hr : ∀ x ∈ l, rightR x) (hn : l.length = n) (hn1 : n <= 64) :
  Calls Tryz.prog 181 #[.slice a (12 * n) c, .int .i64 n] w (ParseP l w) := by
 obtain ⟨i0, hi0, hz0, hz1, hz2⟩ := info_parts Tryz.info35;have HR := hi2 hr hn;have HNW := hid (show Calls Tryz.prog 215 #[.slice a (12 * n) c] w (NewRdP (loadM l) w) from newreader_ok h (by omega));clear h hr hn;go_enter Tryz.func181, Tryz.ntmps181;go_wp2_with (go_at_call 215; refine HNW.out.mono ?_)
 rintro e w1 ⟨r, rfl, hW, hrb, F1⟩;have HW1 := hi2 hW F1;clear hW F1;go_wp2_with fail
 go_loopw [7, 17] (fun v i wr => ∃ k : Nat, k <= n /\ i = .int .i64 k /\ RdAt wr r (loadM (l.drop k)) false /\ OwnR wr w.heap.size v (l.take k) /\ Fq w wr) (fun _ i _ => n - (intOf i).toNat)
 case atStart => exact ⟨0, Nat.zero_le _, rfl, HW1.out.1, World.ownsRow_nil _ _ _ _, HW1.out.2⟩
 case round =>
  obtain ⟨k, hk, rfl, hW, hown, F⟩ := hrel;have HW := hi2 hW (aI hown F);by_cases hlt : k < n
  ·have hx : l[k]? = some (l[k]'(by rw [HR.out.2]; exact hlt)) := gE _;generalize l[k]'(by rw [HR.out.2]; exact hlt) = x at hx;have hrx := HR.out.1 x (gM hx);obtain ⟨z1, z2⟩ := x;obtain ⟨p, rfl⟩ := iZ hrx.1;obtain ⟨q, rfl⟩ := iZ hrx.2.2.1;have hp1 : p <= 2147483647 := by have := hrx.2.1; simp only at this; omega
   have hq1 : q < 9223372036854775808 := by have := hrx.2.2.2; simp only at this; omega
   have hd : decide ((k : Int) < (n : Int)) = true := by simp; omega
   have hW' := hW;rw [loadM_drop hx] at hW';have HN1 := hid (num_p hW' (by rw [<- loadM_drop hx]; exact loadM_byte _) 4 4 (by simp) (by omega) (by rw [lA, leB_length]; omega));have HX := hid hx;have HRX := hid hrx;clear hx hW hW' hown F hrx;go_wp2_with (go_at_call 216; refine HN1.out.mono ?_)
   rintro e W2 ⟨rfl, hR2, F2⟩;rw [take_leB, leV_leB 4 p (by omega)];rw [drop_leB] at hR2;have hwl := loh (show wr.heap[r]? = some _ from HW.out.1.ex.choose_spec.choose_spec.1);have HN2 := hid (num_p hR2 (fun z hz => loadM_byte l z (by
    have : z ∈ loadM (l.drop k) := (by rw [loadM_drop HX.out]; exact List.mem_append_right _ hz);obtain ⟨y, hy, hz'⟩ := List.mem_flatMap.1 this;exact List.mem_flatMap.2 ⟨y, List.mem_of_mem_drop hy, hz'⟩)) 8 8 (by simp) (by omega) (by rw [lA, leB_length]; omega))
   have H2 := hid F2;have hcp : IntKind.i64.wrap (p : Int) = (p : Int) := by rw [IntKind.wrap_i64]; omega
   have hcq : IntKind.i64.wrap (q : Int) = (q : Int) := by rw [IntKind.wrap_i64]; omega
   clear hR2 F2 HN1;go_wp2_with (go_at_call 216; refine HN2.out.mono ?_)
   rintro e W3 ⟨rfl, hR3, F3⟩;rw [take_leB, leV_leB 8 q (by omega)];rw [drop_leB] at hR3;have F13 : Fr (fun b => b = r) wr W3 := H2.out.trans F3 (fun _ _ h => h);have hown3 : OwnR W3 w.heap.size u7 (l.take k) := oRf HW.out.2.1 F13 (fun g cs hg e => by rw [e, HW.out.1.ex.choose_spec.choose_spec.1] at hg; cases hg);have H3 := hi2 hR3 (aI F13 hown3);clear hR3 F3 F13 hown3;go_upto_region 8 with fail
   obtain ⟨W4, hW4⟩ : ∃ W4, W3.alloc (.cells #[.int .i64 p, .int .i64 q] 35) = W4 := ⟨_, rfl⟩
   rw [hW4];have F4 : Fq W3 W4 := by rw [<- hW4]; exact (Fr.refl _ _).alloc _
   have j9 : W4.heap[W3.heap.size]? = some (.cells #[.int .i64 p, .int .i64 q] 35) := by rw [<- hW4]; exact han _ _
   have H4 := hi2 F4 j9;obtain ⟨e0, e1, ez, el⟩ := cells2 j9;clear F4 j9 hW4;have hrt := right_dir_ok (p : Int) (q : Int) W4;unfold RightP at hrt;rw [show rightM (p : Int) (q : Int) = true by simp [rightM]; omega] at hrt;have HRT := hid hrt;clear hrt;go_wp2_with (go_at_call 117; refine HRT.out.mono ?_)
   rintro e W5 ⟨rfl, F5⟩;have j9 := F5.heap H4.out.2 (fun h => h);have H5 := hi2 (H4.out.1.trans F5 (fun _ _ h => h)) j9;clear e0 e1 ez el;obtain ⟨e0, e1, ez, el⟩ := cells2 j9;clear F5 j9;have hown5 : OwnR W5 w.heap.size u7 (l.take k) := oRf H3.out.2.2 H5.out.1 (fun _ _ _ h => h);have hR5 : RdAt W5 r (loadM (l.drop (k + 1))) false := H3.out.1.fr H5.out.1 (fun h => h) (fun _ _ _ h => h);have hlen : (l.take k).length = k := by rw [lT, HR.out.2]; omega
   have F15 : Fq w W5 := (HW.out.2.2.trans H3.out.2.1 (fun b hb e => by subst e; omega)).trans H5.out.1 (fun _ _ h => h);have H6 := hi2 hown5 (aI hR5 F15);have HLN := hid hlen;have hsz : w.heap.size <= W5.heap.size := F15.size;clear hown5 hR5 F15 hlen HRT;go_wp2_with (at_builtin; refine wpList_append_own_at _ rfl (.tmp 29) (.tmp 31) 33 rfl w.heap.size 35 i0 _ 2 16 Tryz.underlying33 hi0 hz0 hz1 hz2 rfl (by decide) _ _ _ rfl (H6.out.1.alloc _) ⟨W5.heap.size, 0, none⟩ 1 1 [.int .i64 p, .int .i64 q] rfl rfl (World.news_of_block (cs := #[.int .i64 p, .int .i64 q]) (t := 35) (fr := (0, 0)) (han _ _)) (by simp [Value.oneCell']) (by rw [HLN.out]; simp [maxLen]; omega) (by have := HLN.out; omega) (by simp; omega) ?_)
   intro v2 W2 hown2 hgrow2 hnil2 hat2;have hF2 : Fr (fun b => some b = u7.ownBlock) W5 W2 := ((Fr.refl _ _).alloc _).trans (S' := fun b => some b = u7.ownBlock) ⟨hgrow2.os, hgrow2.tape, hgrow2.output, hgrow2.size, fun b hb hn => hgrow2.block b hb hn⟩ (fun b hb h => h);have hR7 : RdAt W2 r (loadM (l.drop (k + 1))) false := H6.out.2.1.fr hF2 (fun e => by
    obtain ⟨_, c, hc⟩ := oBT H6.out.1 e;obtain ⟨a, c', h1, _⟩ := H6.out.2.1.ex;rw [hc] at h1; cases h1) (fun b c hb e => by
    obtain ⟨_, c', hc⟩ := oBT H6.out.1 e;rw [hc] at hb; cases hb)
   have hF7 : Fq w W2 := H6.out.2.2.trans hF2 (fun b hb e => by have := (oBT H6.out.1 e).1; omega);have H7 := hi2 hown2 (aI hR7 hF7);clear hown2 hgrow2 hnil2 hat2 hF2 hR7 hF7;go_wp2_with fail
   go_roundw;case rel =>
    refine ⟨k + 1, hlt, by go_num, H7.out.2.1, ?_, H7.out.2.2⟩;have e1 : l.take (k + 1) = l.take k ++ [((p : Int), (q : Int))] := (by rw [List.take_add_one, HX.out]; rfl);have e2 : (l.take (k + 1)).flatMap refC = (l.take k).flatMap refC ++ [.int .i64 p, .int .i64 q] := (by rw [e1, List.flatMap_append]; rfl);have e3 : (l.take (k + 1)).length = (l.take k).length + 1 := (by rw [e1, lA]; rfl);show W2.ownsRow _ 35 2 _ (l.take (k + 1)).length ((l.take (k + 1)).flatMap refC);rw [e2, e3, lT];exact H7.out.1
   case measure => simp [intOf]; omega
  ·obtain rfl : k = n := by omega
   have hd : decide ((k : Int) < (k : Int)) = false := by simp
   clear hW hown F;go_wp2_with fail
   go_ret2;have e1 : l.take k = l := tL (by rw [HR.out.2]; exact nR _);have := HW.out.2.1;rw [e1] at this;exact ⟨_, rfl, this, HW.out.2.2⟩
end Go.Proofs.YtgdhaaokolfdoaaGreatDoor
namespace Go.Sg
abbrev Rf := Int × Int
def chunk (l : List Rf) (per i : Nat) : List Rf := (l.drop (i * per)).take per
variable {l : List Rf} {i k per : Nat} {L : List Nat}
theorem chunk_get (hk : k < per) : (chunk l per i)[k]? = l[i * per + k]? := by
 rw [chunk, gT, if_pos hk, List.getElem?_drop]
theorem chunk_len (l : List Rf) (per i : Nat) : (chunk l per i).length = min per (l.length - i * per) := by
 rw [chunk, lT, List.length_drop]
def setM (l : List Rf) (L : List Nat) (r : Rf) : List Rf := L.foldl (fun l n => l.set n r) l
theorem setM_len (L : List Nat) (r : Rf) : ∀ l : List Rf, (setM l L r).length = l.length := by
 induction L with
 | nil => intro l; rfl
 | cons n L ih => intro l; rw [setM, List.foldl_cons]; exact (ih _).trans (by simp)
theorem setM_get (L : List Nat) (r : Rf) : ∀ (l : List Rf) (i : Nat), (setM l L r)[i]? = if i ∈ L then (l[i]?).map (fun _ => r) else l[i]? := by
 induction L with
 | nil => intro l i; simp [setM]
 | cons n L ih =>
  intro l i;have h1 : (setM l (n :: L) r) = setM (l.set n r) L r := rfl;have h2 : (l.set n r)[i]? = if i = n then (l[i]?).map (fun _ => r) else l[i]? := by
   rw [List.getElem?_set];by_cases e : n = i
   ·subst e;rw [if_pos rfl, if_pos rfl];by_cases hl : n < l.length
    ·rw [if_pos hl, gE hl]; rfl
    ·rw [if_neg hl, List.getElem?_eq_none (by omega)]; rfl
   ·rw [if_neg e, if_neg (fun h => e h.symm)]
  rw [h1, ih, h2];by_cases hi : i ∈ L
  ·rw [if_pos hi, if_pos (List.mem_cons_of_mem _ hi)];split
   ·cases l[i]? <;> rfl
   ·rfl
  ·rw [if_neg hi];by_cases e : i = n
   ·rw [if_pos e, if_pos (by simp [e])]
   ·rw [if_neg e, if_neg (by simp [e, hi])]
theorem setM_ext {l' : List Rf} (h : ∀ i : Nat, l[i]? = l'[i]?) : l = l' := List.ext_getElem? h
variable {r : Rf}
theorem setM_perm {L' : List Nat} (h : ∀ n, n ∈ L ↔ n ∈ L') : setM l L r = setM l L' r :=
 setM_ext fun i => by rw [setM_get, setM_get]; simp only [h]
theorem setM_append (l : List Rf) (L L' : List Nat) (r : Rf) : setM l (L ++ L') r = setM (setM l L r) L' r := by simp [setM]
theorem setM_right (h : ∀ x ∈ l, rightR x) (hr : rightR r) : ∀ x ∈ setM l L r, rightR x := by
 intro x hx;obtain ⟨i, hi, rfl⟩ := List.mem_iff_getElem.1 hx;have h1 := setM_get L r l i;rw [gE hi] at h1;split at h1
 ·cases hl : l[i]? with
  | none => rw [hl] at h1; cases h1
  | some v => rw [hl] at h1; rw [show (setM l L r)[i] = r from Option.some.inj h1]; exact hr
 ·exact h _ (gM h1.symm)
theorem chunk_set (h : ∀ n ∈ L, n / per = i) (hp : 0 < per) : chunk (setM l L r) per i = setM (chunk l per i) (L.map (· % per)) r := by
 refine setM_ext fun k => ?_
 rw [setM_get];by_cases hk : k < per
 ·rw [chunk_get hk, setM_get, chunk_get hk];have e : i * per + k ∈ L ↔ k ∈ L.map (· % per) := by
   rw [List.mem_map];constructor
   ·intro h1; exact ⟨_, h1, by rw [Nat.mul_comm, Nat.mul_add_mod]; exact Nat.mod_eq_of_lt hk⟩
   ·rintro ⟨n, hn, rfl⟩;have h1 := h n hn;have h2 := Nat.div_add_mod n per;rw [h1, Nat.mul_comm] at h2;rw [h2]; exact hn
  simp only [e]
 ·rw [chunk, gT, if_neg hk, chunk, gT, if_neg hk];simp
theorem chunk_other {j : Nat} (h : ∀ n ∈ L, n / per = i) (hij : j ≠ i) : chunk (setM l L r) per j = chunk l per j := by
 refine setM_ext fun k => ?_
 by_cases hk : k < per
 ·rw [chunk_get hk, chunk_get hk, setM_get, if_neg];intro hm;have h1 := h _ hm;rw [Nat.mul_comm, Nat.mul_add_div (by omega), Nat.div_eq_of_lt hk] at h1;omega
 ·rw [chunk, gT, if_neg hk, chunk, gT, if_neg hk]
theorem map_sw_set {l : List Nat} (h : l.Nodup) {n m : Nat} (hk : l[k]? = some n) : l.map (sw n m) = l.set k m := by
 refine List.ext_getElem? fun j => ?_
 rw [gP, List.getElem?_set];by_cases e : k = j
 ·subst e;rw [hk, if_pos rfl, if_pos (gI.1 hk).1];simp [sw]
 ·rw [if_neg e];cases hj : l[j]? with
  | none => rfl
  | some v =>
   have : v ≠ n := by
    rintro rfl;exact e ((List.getElem?_inj (gI.1 hk).1 h).1 (hk.trans hj.symm))
   simp [sw, this]
end Go.Sg
namespace Go.Proofs.YtgdhaaokolfdoaaGreatDoor
open Go.RowKit Go.Sg Go.Sg.Bits Go.Sg.Clk CP SF
def pgs (rp : Int) (tops : List Rf) : List Nat := rp.toNat :: tops.map (fun r => r.1.toNat)
structure DirZ (y : Cs) (x : DirD) : Prop where
 most : x.depth <= x.most /\ x.most <= 20
 per : 0 < x.per /\ 12 * x.per <= y.room
 fits : ∀ d, d <= x.most -> 12 * ((2 ^ d + x.per - 1) / x.per) <= y.room
 room : y.room <= 493
structure LeafC (c : Cont) (per : Nat) (tops slots : List Rf) : Prop where
 sr : ∀ r ∈ slots, rightR r
 tr : ∀ r ∈ tops, rightR r
 at_ : ∀ (i : Nat) r, tops[i]? = some r -> c r.1 = some (r.2.toNat, loadM (chunk slots per i))
structure DirC (y : Cs) (x : DirD) (tops slots : List Rf) : Prop where
 z : DirZ y x
 slen : slots.length = x.slots
 tlen : tops.length = x.leaves
 leaf : LeafC y.cont x.per tops slots
 rr : 0 <= x.rp /\ 0 <= x.rs
 root : y.cont x.rp = some (x.rs.toNat, loadM tops)
variable {y : Cs} {x : DirD} {N base bd e i k lc ll n size : Nat} {W w w' : World} {a : Bool} {v : Value} {xs : List Value} {la : Option Addr} {bs : List Int} {c : Array Value}
theorem DirZ.leaves (h : DirZ y x) : 12 * x.leaves <= y.room := h.fits x.depth h.most.1
theorem DirZ.le41 (h : DirZ y x) : x.leaves <= 41 /\ x.per <= 41 := by
 have h1 := h.leaves;have h2 := h.per.2;have h3 := h.room;omega
theorem DirZ.slots_le (h : DirZ y x) : x.slots <= x.leaves * x.per := by
 unfold DirD.leaves;have h1 := h.per.1;have h2 := Nat.div_add_mod (x.slots + x.per - 1) x.per;have h3 := Nat.mod_lt (x.slots + x.per - 1) h1;rw [Nat.mul_comm] at h2;omega
theorem DirZ.lt_slots (h : DirZ y x) (hi : i < x.leaves) : i * x.per < x.slots := by
 unfold DirD.leaves at hi;have h1 := h.per.1;have h2 : (i + 1) * x.per <= x.slots + x.per - 1 := (Nat.le_div_iff_mul_le h1).1 hi;rw [Nat.succ_mul] at h2;omega
variable {l slots tops : List Rf}
theorem chunk_right (h : ∀ r ∈ l, rightR r) (per i : Nat) : ∀ r ∈ chunk l per i, rightR r := fun r hr => h r (List.mem_of_mem_drop (List.mem_of_mem_take hr))
def PlanP (p : Plan8) (w : World) (e : Ending) (w' : World) : Prop := e = .returned p.val /\ Fq w w'
variable {B : Blk} {P : Prot}
theorem plan_c (h : StoreC w B y P a N) : Calls Tryz.prog 33 #[B.ptr] w (PlanP y.plan w) := by
 obtain ⟨⟨x, c, hS, rfl, hi⟩, hT, hb⟩ := h;have hs := hS.s;clear hS hi hT hb;obtain ⟨⟨a, b, c, d, f, dp, hh, s⟩, x1, x2, x3, x4, x5, x6, x7, x8, x9, x10, x11, x12⟩ := x;have c1 := coh hs 1;have c2 := coh hs 2;have c3 := coh hs 3;have c4 := coh hs 4;have c5 := coh hs 5;have c6 := coh hs 6;have c7 := coh hs 7;have c8 := coh hs 8;simp at c1 c2 c3 c4 c5 c6 c7 c8;have l := loh hs;have n : ¬ w.heap.size = B.s := by omega
 clear hs;go_enter Tryz.func33, Tryz.ntmps33;go_wp2
 refine bodyPost_ret (v := .agg #[.int .i64 a, .int .i64 b, .int .i64 c, .int .i64 d, .int .i64 f, .int .i64 dp, .int .i64 hh, .int .u64 s]) (by simp [results, go_sem, *]) rfl ⟨rfl, ?_⟩;repeat (with_reducible refine Fr.setNew ?_ (by omega) _)
 exact (Fr.refl _ _).alloc _
def atZ (p : Plan8) : DirD := ⟨(layM p).per.toNat, p.depth.toNat, 0, 0, 0⟩
def AtP (s : Nat) (p : Plan8) (w : World) (e : Ending) (w' : World) : Prop := ∃ bd, e = .returned (dptr bd) /\ DirAt w' bd s (atZ p) /\ w.heap.size <= bd /\ Fq w w'
theorem fits_dir {p : Plan8} (h : fitsM p = true) : (6 <= (layM p).per /\ (layM p).per = (p.size - 19) / 12 /\ (layM p).per <= 41) /\ (0 <= p.depth /\ p.depth <= 8) /\ (2 : Int) ^ p.depth.toNat <= (layM p).per * (layM p).per := by
 rw [fitsM, Bool.and_eq_true] at h;obtain ⟨h1, h2⟩ := h;obtain ⟨a1, a2, a3, a4, a5, a6, a7⟩ := of_decide_eq_true h1;obtain ⟨b1, b2⟩ := of_decide_eq_true h2;refine ⟨?_, a6, b1⟩;have e : (layM p).per = (p.size - 19) / 12 := rfl;rw [e]; omega
theorem dirZ_of (hf : fitsM y.plan = true) (hp : (x.per : Int) = (layM y.plan).per) (hm : (x.most : Int) = y.plan.depth) (hr : (y.room : Int) + 19 = y.plan.size) (hd : x.depth <= x.most) (h493 : y.room <= 493) : DirZ y x := by
 obtain ⟨⟨h1, h2, h3⟩, h4, h5⟩ := fits_dir hf;have e5 : 2 ^ x.most <= x.per * x.per := by
  have : y.plan.depth.toNat = x.most := by omega
  rw [this, <- hp] at h5;exact_mod_cast h5
 refine ⟨⟨hd, by omega⟩, ⟨by omega, by omega⟩, fun d hdm => ?_, h493⟩;have e1 : 2 ^ d <= x.per * x.per := nT (Nat.pow_le_pow_right (by decide) hdm) e5;have e2 : (2 ^ d + x.per - 1) / x.per <= x.per := by
  have h0 : 0 < x.per := by omega
  refine Nat.le_of_lt_succ ((Nat.div_lt_iff_lt_mul h0).2 ?_);rw [Nat.succ_mul]; omega
 have : 12 * x.per <= y.room := by omega
 omega
theorem dirat_ok (h : StoreC w B y P a N) (hfit : fitsM y.plan = true) : Calls Tryz.prog 118 #[B.ptr] w (AtP B.s y.plan w) := by
 obtain ⟨⟨h6, -, h41⟩, h8, -⟩ := fits_dir hfit;have HPl := hid (fun W (F : Fq w W) => plan_c (h.fr0 F));generalize y.plan = p at *
 have HFit := hid (fun W => fit_ok p W);rw [hfit] at HFit;have hz : atZ p = ⟨(layM p).per.toNat, p.depth.toNat, 0, 0, 0⟩ := rfl;obtain ⟨pa, pb, pc, pd, pf, dp, ph, ps⟩ := p;have HL := hid (show (layM ⟨pa, pb, pc, pd, pf, dp, ph, ps⟩).per.toNat = (layM ⟨pa, pb, pc, pd, pf, dp, ph, ps⟩).per by omega);generalize layM ⟨pa, pb, pc, pd, pf, dp, ph, ps⟩ = L at *
 obtain ⟨l1, l2, l3, per, l5, l6, l7⟩ := L;have HZ := hid hz;simp only at h6 h41 h8;clear h hfit hz;go_enter Tryz.func118, Tryz.ntmps118;go_wp2_with (go_at_call 33; refine (HPl.out _ (Fr.refl _ _)).mono ?_)
 rintro e w1 ⟨rfl, F1⟩;have HF1 := hid F1;clear F1;go_wp2_with (go_at_call 91; refine (HFit.out _).mono ?_)
 rintro e w2 ⟨rfl, F2⟩;have HF2 := hid (HF1.out.trans F2 (fun _ _ h => h));clear F2;simp only [if_true];go_upto_region 2 with fail
 obtain ⟨W3, hW3⟩ : ∃ W3, w2.alloc (.cells #[.int .i64 2, .int .i64 l1, .int .i64 l2, .int .i64 l3, .int .i64 per, .int .i64 l5, .int .i64 l6, .int .i64 l7] 169) = W3 := ⟨_, rfl⟩
 rw [hW3];have F3 : Fq w2 W3 := by rw [<- hW3]; exact (Fr.refl _ _).alloc _
 have b3 : W3.heap[w2.heap.size]? = some (.cells #[.int .i64 2, .int .i64 l1, .int .i64 l2, .int .i64 l3, .int .i64 per, .int .i64 l5, .int .i64 l6, .int .i64 l7] 169) := by rw [<- hW3]; exact han _ _
 have HF3 := hid (HF2.out.trans F3 (fun _ _ h => h));have c4 := coh b3 4;simp at c4;have l3 := loh b3;have hm : max per 1 = per := by omega
 have hfd : ∀ W, (Instr.field 31 (.agg #[.int .i64 pa, .int .i64 pb, .int .i64 pc, .int .i64 pd, .int .i64 pf, .int .i64 dp, .int .i64 ph, .int .u64 ps]) 5).run Tryz.prog W = .ok (.int .i64 dp) W := fun W => by kernel_rfl
 clear F3 b3 hW3;go_region_held3 (fun W => W.cell? ⟨w2.heap.size, 4, none⟩ = some (.int .i64 per)) (go_keep)
  (first
   | (go_at_call 33; refine (HPl.out _ (by first | exact HF3.out | exact HF3.out.drew)).mono ?_; rintro e W4 ⟨he, F4⟩; obtain rfl : e = .returned (.agg #[.int .i64 pa, .int .i64 pb, .int .i64 pc, .int .i64 pd, .int .i64 pf, .int .i64 dp, .int .i64 ph, .int .u64 ps]) := he; have c4 := (F4.cell (p := ⟨w2.heap.size, 4, none⟩) (by first | exact l3 | (simp; omega)) (fun h => h)).trans c4; have HF4 := hid (show Fq W3 W4 by first | exact F4 | exact ((Fr.refl _ _).drew).trans F4 (fun _ _ h => h)); clear F4))
 all_goals (go_wp2_with fail)
 all_goals go_ret
 all_goals (
  refine ⟨_, rfl, ?_, nT HF3.out.size HF4.out.size, (HF3.out.trans HF4.out (fun _ _ h => h)).alloc _⟩;rw [HZ.out];show _ = some (Obj.cells #[_, .int .i64 (per.toNat : Int), .int .i64 (dp.toNat : Int), .int .i64 ((0 : Nat) : Int), .int .i64 0, .int .i64 0] 209);rw [HL.out, show (dp.toNat : Int) = dp by omega];exact han _ _)
theorem own_down {base' : Nat} (h : w.ownsRow base' e size v n xs) (hb : base <= base') : w.ownsRow base e size v n xs := by
 obtain ⟨hl, h0 | ⟨g, cap, cur, hv, hg, r⟩⟩ := h
 ·exact ⟨hl, .inl h0⟩
 ·exact ⟨hl, .inr ⟨g, cap, cur, hv, nT hb hg, r⟩⟩
def ReadU (B : Blk) (y : Cs) (P : Prot) (a : Bool) (N : Nat) (load : List Int) (w : World) (e : Ending) (w' : World) : Prop :=
 ∃ la ll lc err, e = .returned (.tuple #[.slice la ll lc, .int .i64 err]) /\ FrB B w w' /\ ((err = 0 /\ ll = load.length /\ ByV w' la load.length lc load /\ StoreC w' B y P a (N + 1)) \/ (err = 4 /\ a = true /\ DownC w' B y P (N + 1)))
theorem read_u (h : StoreC w B y P a N) (p stamp : Int) (hp : 0 <= p) (hs : 0 <= stamp) {load : List Int} (hc : y.cont p = some (stamp.toNat, load)) (hN : N + 1 <= 90000) :
  Calls Tryz.prog 24 #[B.ptr, ref2 p stamp] w (ReadU B y P a N load w) := by
 obtain ⟨p, rfl⟩ := iZ hp;obtain ⟨s, rfl⟩ := iZ hs;refine (read_l h p s (by simpa using hc) hN).mono ?_;rintro e w' ⟨F, ⟨la, lc, rfl, hb, hS⟩ | ⟨rfl, ha, hD⟩⟩
 ·exact ⟨_, _, _, _, rfl, F, .inl ⟨rfl, rfl, hb, hS⟩⟩
 ·exact ⟨_, _, _, _, rfl, F, .inr ⟨rfl, ha, hD⟩⟩
def WriteU (B : Blk) (y : Cs) (P : Prot) (a : Bool) (N : Nat) (n : Nat) (bs : List Int) (w : World) (e : Ending) (w' : World) : Prop :=
 ∃ p s err, e = .returned (.tuple #[ref2 p s, .int .i64 err]) /\ FrB B w w' /\ ((err = 0 /\ (∃ m : Nat, p = m /\ s = y.gen /\ (y.fresh n = true /\ m = n \/ y.fresh n = false /\ TakeIs y.taken y.pages y.hand m) /\ StoreC w' B (y.put n m bs) P a (N + 1))) \/ (err = 4 /\ a = true /\ DownC w' B y P (N + 1)))
theorem write_u (h : StoreC w B y P a N) (n : Nat) (st : Int) (hin : Inp w B la ll lc bs) (hby : ∀ b ∈ bs, 0 <= b /\ b < 256) (hl : ll <= y.room)
  (hp : n < y.pages) (ht : y.taken n = true) (hd : y.dead n = false) (hj : ∃ j, j < y.pages /\ y.taken j = false) (hN : N + 1 <= 90000) :
  Calls Tryz.prog 26 #[B.ptr, ref2 n st, .slice la ll lc] w (WriteU B y P a N n bs w) := by
 refine (write_l h n st hin hby hl hp ht hd hj hN).mono ?_;rintro e w' ⟨F, ⟨m, hm, rfl, hS⟩ | ⟨p, s, rfl, ha, hD⟩⟩
 ·exact ⟨_, _, _, rfl, F, .inl ⟨rfl, m, rfl, rfl, hm, hS⟩⟩
 ·exact ⟨_, _, _, rfl, F, .inr ⟨rfl, ha, hD⟩⟩
def NewU (B : Blk) (y : Cs) (P : Prot) (a : Bool) (N : Nat) (bs : List Int) (w : World) (e : Ending) (w' : World) : Prop :=
 ∃ p s err, e = .returned (.tuple #[ref2 p s, .int .i64 err]) /\ FrB B w w' /\ ((err = 0 /\ (∃ m : Nat, p = m /\ s = y.gen /\ TakeIs y.taken y.pages y.hand m /\ StoreC w' B (y.new m bs) P a (N + 1))) \/ (err = 4 /\ a = true /\ DownC w' B y P (N + 1)))
theorem new_u (h : StoreC w B y P a N) (hin : Inp w B la ll lc bs) (hby : ∀ b ∈ bs, 0 <= b /\ b < 256) (hl : ll <= y.room)
  (hj : ∃ j, j < y.pages /\ y.taken j = false) (hN : N + 1 <= 90000) : Calls Tryz.prog 22 #[B.ptr, .slice la ll lc] w (NewU B y P a N bs w) := by
 refine (new_l h hin hby hl hj hN).mono ?_;rintro e w' ⟨F, ⟨m, hm, rfl, hS⟩ | ⟨p, s, rfl, ha, hD⟩⟩
 ·exact ⟨_, _, _, rfl, F, .inl ⟨rfl, m, rfl, rfl, hm, hS⟩⟩
 ·exact ⟨_, _, _, rfl, F, .inr ⟨rfl, ha, hD⟩⟩
def TopU (B : Blk) (y : Cs) (P : Prot) (a : Bool) (N : Nat) (l : List Rf) (w : World) (e : Ending) (w' : World) : Prop :=
 ∃ v err, e = .returned (.tuple #[v, .int .i64 err]) /\ FrB B w w' /\ ((err = 0 /\ OwnR w' w.heap.size v l /\ StoreC w' B y P a (N + 1)) \/ (err = 4 /\ a = true /\ DownC w' B y P (N + 1)))
theorem DirAt.frB {s : Nat} (h : DirAt w bd s x) (F : FrB B w w') : DirAt w' bd s x := F.heap h (by decide)
theorem top_ok (h : StoreC w B y P a N) (hD : DirAt w bd B.s x) (hC : DirC y x tops slots) (hN : N + 1 <= 90000) :
  Calls Tryz.prog 120 #[dptr bd] w (TopU B y P a N tops w) := by
 have HRD := hid (fun W (F : Fq w W) => read_u (h.fr0 F) x.rp x.rs hC.rr.1 hC.rr.2 hC.root hN);have HD := hid hD;have HC := hid hC;obtain ⟨c0, c1, c2, c3, c4, c5, cz, cl⟩ := cells6 hD;clear h hD hC;go_enter Tryz.func120, Tryz.ntmps120;go_wp2_with fail
 go_region_held3 (fun W => W.cell? ⟨bd, 0, none⟩ = some (.pointer (some ⟨B.s, 0, none⟩)) /\ W.cell? ⟨bd, 4, none⟩ = some (.int .i64 x.rp) /\ W.cell? ⟨bd, 5, none⟩ = some (.int .i64 x.rs)) (go_keep)
  (first
   | (go_at_call 24; refine (HRD.out _ (by first | exact Fr.refl _ _ | exact (Fr.refl _ _).drew)).mono ?_; rintro e W2 ⟨la, ll, lc, err, rfl, F2, hr⟩; replace F2 : FrB B w W2 := FrB.trans (FrB.none (by first | exact Fr.refl _ _ | exact (Fr.refl _ _).drew)) F2; obtain ⟨c0, c1, c2, c3, c4, c5, cz, cl⟩ := cells6 (HD.out.frB F2); have H2 := hi2 F2 hr; clear F2 hr))
 rcases H2.out.2 with ⟨rfl, rfl, hb, hS⟩ | ⟨rfl, ha, hDn⟩
 ·have hll : (loadM tops).length = 12 * x.leaves := by rw [loadM_len, HC.out.tlen]
  rw [hll] at hb;have HPs := hid (fun W (F : Fq W2 W) => parse_ok (hb.fr F (fun _ _ _ h => h)).slb HC.out.leaf.tr HC.out.tlen (by have := HC.out.z.le41; omega));have HS := hi2 hS H2.out.1;have HLv := hid (leaves_ok (HD.out.frB H2.out.1) (by have := HC.out.z.most; omega) HC.out.z.per.1 (by have := HC.out.z.le41; omega));clear hb hS;rw [hll];go_wp2_with (go_at_call 182; refine HLv.out.mono ?_)
  rintro e W3 ⟨rfl, m, rfl⟩;go_wp2_with (go_at_call 181; refine (HPs.out _ ((Fr.refl _ _).drewN _)).mono ?_)
  rintro e W4 ⟨v, rfl, hown, F4⟩;have H4 := hi2 hown F4;clear hown F4;go_wp2_with fail
  go_ret2;have F24 : Fq W2 W4 := ((Fr.refl _ _).drewN m).trans H4.out.2 (fun _ _ h => h);exact ⟨v, 0, rfl, FrB.trans HS.out.2 (FrB.none F24), .inl ⟨rfl, own_down H4.out.1 (nT HS.out.2.size (by simp)), HS.out.1.fr0 F24⟩⟩
 ·have HX := hi2 ha (aI hDn H2.out.1);clear hDn ha;go_wp2_with fail
  go_ret2;exact ⟨_, 4, rfl, HX.out.2.2, .inr ⟨rfl, HX.out.1, HX.out.2.1⟩⟩
theorem rowR_of_own (h : OwnR w base v l) : ∃ a c, v = .slice a l.length c /\ RowR w a l := by
 obtain ⟨hl, ⟨h0, h1⟩ | ⟨g, cap, cur, hv, hb, hg, hc, hm, hs, ht⟩⟩ := h
 ·refine ⟨none, 0, by rw [h0, h1], ⟨fun i x hx => ?_⟩⟩;have := (gI.1 hx).1;omega
 ·refine ⟨some ⟨g, 0, none⟩, cap, hv, ⟨fun i x hx => ?_⟩⟩;have hi := (gI.1 hx).1;have key : ∀ j, j < 2 -> cur[i * 2 + j]? = (l.flatMap refC)[i * 2 + j]? := fun j hj => by
   have h2 : (cur.toList.take (l.length * 2))[i * 2 + j]? = (l.flatMap refC)[i * 2 + j]? := by rw [ht]
   rw [gT, if_pos (by omega)] at h2;simpa using h2
  have fm : ∀ (l : List Rf) (i : Nat) (x : Rf), l[i]? = some x -> (l.flatMap refC)[i * 2]? = some (.int .i64 x.1) /\ (l.flatMap refC)[i * 2 + 1]? = some (.int .i64 x.2) := by
   intro l;induction l with
   | nil => intro i x hx; simp at hx
   | cons y l ih =>
    intro i x hx;cases i with
    | zero => simp at hx; subst hx; exact ⟨rfl, rfl⟩
    | succ i =>
     rw [gS] at hx;obtain ⟨h1, h2⟩ := ih i x hx;have e : (i + 1) * 2 = i * 2 + 2 := (by omega);rw [e];exact ⟨h1, h2⟩
  obtain ⟨f0, f1⟩ := fm l i x hx;refine ⟨g, 0, rfl, loh hg, ?_, ?_⟩
  ·rw [coh hg, Nat.zero_add]; exact (key 0 (by omega)).trans f0
  ·rw [coh hg, Nat.zero_add]; exact (key 1 (by omega)).trans f1
structure RowT (w : World) (a : Option Addr) (l : List Rf) : Prop where
 row : RowR w a l
 ty : ∀ b off, a = some ⟨b, off, none⟩ -> l ≠ [] -> ∃ c, w.heap[b]? = some (.cells c 35)
theorem RowT.fr {S : Nat -> Prop} {a : Option Addr} (h : RowT w a l) (F : Fr S w w') (hS : ∀ b c, w.heap[b]? = some (.cells c 35) -> ¬ S b) : RowT w' a l :=
 ⟨h.row.fr F fun b off e _ hne hs => by
  obtain ⟨c, hc⟩ := h.ty b off e hne;exact hS b c hc hs, fun b off e hne => by
  obtain ⟨c, hc⟩ := h.ty b off e hne;exact ⟨c, F.heap hc (hS b c hc)⟩⟩
theorem RowT.frB {a : Option Addr} (h : RowT w a l) (F : FrB B w w') : RowT w' a l := h.fr F fun b c hc hs => absurd (hs.2.1 c 35 _ hc) (by decide)
theorem RowT.fr0 {a : Option Addr} (h : RowT w a l) (F : Fq w w') : RowT w' a l := h.fr F fun _ _ _ h => h
theorem rowT_of_own (h : OwnR w base v l) : ∃ a c, v = .slice a l.length c /\ RowT w a l := by
 obtain ⟨a, c, e, hr⟩ := rowR_of_own h;refine ⟨a, c, e, hr, fun b off ha hne => ?_⟩;obtain ⟨hl, ⟨h0, h1⟩ | ⟨g, cap, cur, hv, hb, hg, _⟩⟩ := h
 ·exact absurd (List.length_eq_zero_iff.1 h1) hne
 ·rw [e] at hv; cases hv; cases ha; exact ⟨_, hg⟩
theorem page_ok (h : StoreC w B y P a N) (hD : DirAt w bd B.s x) (hz : DirZ y x) (hL : LeafC y.cont x.per tops slots) (hsl : slots.length = x.slots) (htl : tops.length = x.leaves) {ta : Option Addr} {tc : Nat} (hn : tops.length = n) (hT : RowT w ta tops) (hi : i < n) (hN : N + 1 <= 90000) :
  Calls Tryz.prog 121 #[dptr bd, .slice ta n tc, .int .i64 i] w (TopU B y P a N (chunk slots x.per i) w) := by
 obtain ⟨r, hr⟩ : ∃ r, tops[i]? = some r := ⟨_, gE (by omega)⟩
 have hrr := hL.tr r (gM hr);obtain ⟨b, off, rfl, hb, g0, g1⟩ := hT.row.at_ i r hr;have HT := hid hT;have hbs : ∀ W2 : World, FrB B w W2 -> W2.cell? ⟨b, off + i * 2, none⟩ = w.cell? ⟨b, off + i * 2, none⟩ /\ W2.cell? ⟨b, off + i * 2 + 1, none⟩ = w.cell? ⟨b, off + i * 2 + 1, none⟩ := fun W2 F => by
  obtain ⟨c, hc⟩ := hT.ty b off rfl (by rintro rfl; simp at hr);have hn : ¬ (B.base <= b /\ MutB B w b) := fun hs => absurd (hs.2.1 c 35 _ hc) (by decide)
  exact ⟨Fr.cell F (p := ⟨b, _, none⟩) hb hn, Fr.cell F (p := ⟨b, _, none⟩) hb hn⟩
 have HBS := hid hbs;have HRD := hid (fun W (F : Fq w W) => read_u (h.fr0 F) r.1 r.2 hrr.1 hrr.2.2.1 (hL.at_ i r hr) hN);have HD := hid hD;have HC := hi2 hz (aI hL (aI hsl (aI hn htl)));have hi' : (i : Int) < (n : Int) := by omega
 obtain ⟨c0, c1, c2, c3, c4, c5, cz, cl⟩ := cells6 hD;clear h hD hz hL hsl htl hn hT hr hrr hbs;go_enter Tryz.func121, Tryz.ntmps121;go_wp2_with fail
 go_region_held3 (fun W => W.cell? ⟨bd, 0, none⟩ = some (.pointer (some ⟨B.s, 0, none⟩)) /\ W.cell? ⟨b, off + i * 2, none⟩ = some (.int .i64 r.1) /\ W.cell? ⟨b, off + i * 2 + 1, none⟩ = some (.int .i64 r.2)) (go_keep)
  (first
   | (go_at_call 24; refine (HRD.out _ (by first | exact Fr.refl _ _ | exact (Fr.refl _ _).drew)).mono ?_; rintro e W2 ⟨la, ll, lc, err, rfl, F2, hr⟩; replace F2 : FrB B w W2 := FrB.trans (FrB.none (by first | exact Fr.refl _ _ | exact (Fr.refl _ _).drew)) F2; obtain ⟨c0, c1, c2, c3, c4, c5, cz, cl⟩ := cells6 (HD.out.frB F2); have g0 := (HBS.out W2 F2).1.trans g0; have g1 := (HBS.out W2 F2).2.trans g1; have H2 := hi2 F2 hr; clear F2 hr))
 rcases H2.out.2 with ⟨rfl, rfl, hb, hS⟩ | ⟨rfl, ha, hDn⟩
 ·have hle : x.leaves <= 41 /\ x.per <= 41 := HC.out.1.le41;have hil : i < x.leaves := by have := HC.out.2.2.2.1; have := HC.out.2.2.2.2; omega
  have hcl : (chunk slots x.per i).length = x.in_ i := by rw [chunk_len, HC.out.2.2.1]; rfl
  have hin : x.in_ i <= 41 := by unfold DirD.in_; omega
  have hll : (loadM (chunk slots x.per i)).length = 12 * x.in_ i := by rw [loadM_len, hcl]
  rw [hll] at hb;have HPs := hid (fun W (F : Fq W2 W) => parse_ok (hb.fr F (fun _ _ _ h => h)).slb (chunk_right HC.out.2.1.sr x.per i) hcl (by omega));have HS := hi2 hS H2.out.1;have HLv := hid (in_dir_ok (HD.out.frB H2.out.1) (by have := HC.out.1.most; omega) HC.out.1.per.1 (by omega) i (by have := HC.out.1.lt_slots hil; omega));clear hb hS hcl;rw [hll];go_wp2_with (go_at_call 183; refine HLv.out.mono ?_)
  rintro e W3 ⟨rfl, m, rfl⟩;go_wp2_with (go_at_call 181; refine (HPs.out _ ((Fr.refl _ _).drewN _)).mono ?_)
  rintro e W4 ⟨v, rfl, hown, F4⟩;have H4 := hi2 hown F4;clear hown F4;go_wp2_with fail
  go_ret2;have F24 : Fq W2 W4 := ((Fr.refl _ _).drewN m).trans H4.out.2 (fun _ _ h => h);exact ⟨v, 0, rfl, FrB.trans HS.out.2 (FrB.none F24), .inl ⟨rfl, own_down H4.out.1 (nT HS.out.2.size (by simp)), HS.out.1.fr0 F24⟩⟩
 ·have HX := hi2 ha (aI hDn H2.out.1);clear hDn ha;go_wp2_with fail
  go_ret2;exact ⟨_, 4, rfl, HX.out.2.2, .inr ⟨rfl, HX.out.1, HX.out.2.1⟩⟩
theorem box35_fr (F : FrB B w W) (x y : Value) : FrB B w ((W.setCell ⟨w.heap.size, 0, none⟩ x).setCell ⟨w.heap.size, 1, none⟩ y) :=
 Fr.setCell (Fr.setCell F (fun h => absurd h (Nat.lt_irrefl _)) _) (fun h => absurd h (Nat.lt_irrefl _)) _
theorem box35_f (x y : Value) : Fr (fun b => b = k) W ((W.setCell ⟨k, 0, none⟩ x).setCell ⟨k, 1, none⟩ y) :=
 Fr.setCell (S := fun b => b = k) (Fr.setCell (S := fun b => b = k) (Fr.refl _ _) (fun _ => rfl) _) (fun _ => rfl) _
theorem box35_down (h : DownC W B y P N) (hk : W.heap[k]? = some (.cells c 35)) (x z : Value) : DownC ((W.setCell ⟨k, 0, none⟩ x).setCell ⟨k, 1, none⟩ z) B y P N :=
 h.frL (box35_f x z) hk (by decide)
theorem box35_st (h : StoreC W B y P a N) (hk : W.heap[k]? = some (.cells c 35)) (h0 : 0 < k) (x z : Value) : StoreC ((W.setCell ⟨k, 0, none⟩ x).setCell ⟨k, 1, none⟩ z) B y P a N :=
 h.frL (box35_f x z) hk (by decide) h0
def GetU (B : Blk) (y : Cs) (P : Prot) (a : Bool) (N : Nat) (slots : List Rf) (k : Nat) (w : World) (e : Ending) (w' : World) : Prop :=
 ∃ p s err, e = .returned (.tuple #[ref2 p s, .int .i64 err]) /\ FrB B w w' /\ ((err = 0 /\ slots[k]? = some (p, s) /\ StoreC w' B y P a (N + 2)) \/ (err = 4 /\ a = true /\ DownC w' B y P (N + 2)))
theorem get_ok (h : StoreC w B y P a N) (hD : DirAt w bd B.s x) (hC : DirC y x tops slots) (k : Nat) (hk : k < x.slots) (hN : N + 2 <= 90000) :
  Calls Tryz.prog 54 #[dptr bd, .int .i64 k] w (GetU B y P a N slots k w) := by
 have HSl := hid (fun W (F : Fq w W) => slots_ok (F.heap hD (fun h => h) : DirAt W bd B.s x) (by have := hC.z.most; omega));have HTop := hid (fun W (F : Fq w W) => top_ok (h.fr0 F) (F.heap hD (fun h => h) : DirAt W bd B.s x) hC (by omega));have d1 : decide ((k : Int) < 0) = false := decide_eq_false (by omega);have d2 : decide ((x.slots : Int) <= (k : Int)) = false := decide_eq_false (by omega);have HD := hid hD;have HC := hid hC;have HS := hid h;obtain ⟨w1, hw1⟩ : ∃ w1, w.alloc (.cells #[.int .i64 0, .int .i64 0] 35) = w1 := ⟨_, rfl⟩
 have b1 : w1.heap[w.heap.size]? = some (.cells #[.int .i64 0, .int .i64 0] 35) := by rw [<- hw1]; exact han _ _
 have HF1 := hid (show Fq w w1 by rw [<- hw1]; exact (Fr.refl _ _).alloc _);have HB1 := hid b1;have HW1 := hid hw1;have hil : k / x.per < x.leaves := by
  have h1 := hC.z.slots_le;exact (Nat.div_lt_iff_lt_mul hC.z.per.1).2 (by omega)
 have hp41 := hC.z.le41;have hp0 := hC.z.per.1;clear h hD hC hw1 b1;go_enter Tryz.func54, Tryz.ntmps54;go_wp2_with (rw [HW1.out]; go_at_call 125; refine (HSl.out _ HF1.out).mono ?_)
 rintro e W2 ⟨rfl, m, rfl⟩;go_wp2_with (go_at_call 120; refine (HTop.out _ (HF1.out.drewN _)).mono ?_)
 rintro e W3 ⟨v, err, rfl, F3, ⟨rfl, hown, hS⟩ | ⟨rfl, ha, hDn⟩⟩
 ·obtain ⟨ta, tc, rfl, hT⟩ := rowT_of_own hown;have F03 : FrB B w W3 := FrB.trans (FrB.none (HF1.out.drewN m)) F3;have HPg := hid (page_ok hS (HD.out.frB F03) HC.out.z HC.out.leaf HC.out.slen HC.out.tlen (tc := tc) rfl hT (by rw [HC.out.tlen]; exact hil) (by omega));have HB3 := hid (F3.heap (show (w1.drewN m).heap[w.heap.size]? = _ from HB1.out) (by decide));have HF3 := hid F03;obtain ⟨c0, c1, c2, c3, c4, c5, cz, cl⟩ := cells6 (HD.out.frB F03);have e2 : wrap64 ((k : Int) / (x.per : Int)) = ((k / x.per : Nat) : Int) := by
   have h1 : (k : Int) / (x.per : Int) = ((k / x.per : Nat) : Int) := by simp
   have h2 := Nat.div_le_self k x.per;have h3 := (slots_small (x := x) (by have := HC.out.z.most; omega)).1;rw [h1]; generalize k / x.per = q at *; simp only [wrap64]; omega
  have e3 : (k : Int) % (x.per : Int) = ((k % x.per : Nat) : Int) := by simp
  have HE := hi2 e2 e3;clear hown hS F3 F03 hT e2 e3;go_wp2_with (rw [HE.out.1]; go_at_call 121; refine (HPg.out).mono ?_)
  rintro e W4 ⟨v4, err, rfl, F4, ⟨rfl, hown, hS⟩ | ⟨rfl, ha, hDn⟩⟩
  ·obtain ⟨pa, pc, rfl, hT⟩ := rowT_of_own hown;obtain ⟨n4, hn4⟩ : ∃ n4, (chunk slots x.per (k / x.per)).length = n4 := ⟨_, rfl⟩
   have hdm := Nat.div_add_mod k x.per;have hml := Nat.mod_lt k hp0;have hslen : slots.length = x.slots := HC.out.slen;have hlt : k % x.per < n4 := by
    rw [<- hn4, chunk_len, hslen];rw [Nat.mul_comm] at hdm;omega
   obtain ⟨r, hr⟩ : ∃ r, slots[k]? = some r := ⟨_, gE (by omega)⟩
   have hr4 : (chunk slots x.per (k / x.per))[k % x.per]? = some r := by
    rw [chunk_get hml, Nat.mul_comm, hdm]; exact hr
   obtain ⟨b, off, rfl, hb, g0, g1⟩ := hT.row.at_ _ r hr4;have e3 := HE.out.2;have hlt' : ((k % x.per : Nat) : Int) < (n4 : Int) := by omega
   have b4 := F4.heap HB3.out (by decide);obtain ⟨e0, e1, ez, el⟩ := cells2 b4;obtain ⟨c0, c1, c2, c3, c4, c5, cz, cl⟩ := cells6 (HD.out.frB (FrB.trans HF3.out F4));have HX := hi2 hS (aI b4 (aI (FrB.trans HF3.out F4) hr));have h0 : 0 < w.heap.size := by obtain ⟨-, -, -, hcl⟩ := cells2 HB1.out; have := HS.out.base; have := HS.out.base_le; omega
   rw [hn4];generalize k % x.per = q at *
   clear hown hS F4 b4 hT hn4 hdm hml hslen hr hr4;go_wp2_with fail
   refine bodyPost_ret (v := .tuple #[ref2 r.1 r.2, .int .i64 0]) (by simp [results, go_sem, *]) rfl ?_;exact ⟨_, _, 0, rfl, box35_fr HX.out.2.2.1 _ _, .inl ⟨rfl, HX.out.2.2.2, box35_st HX.out.1 HX.out.2.1 h0 _ _⟩⟩
  ·have HX := hi2 ha (aI hDn (FrB.trans HF3.out F4));have b4 := F4.heap HB3.out (by decide);obtain ⟨e0, e1, ez, el⟩ := cells2 b4;have HB4 := hid b4;clear hDn ha F4 b4 c0 c1 c2 c3 c4 c5 cz cl;go_wp2_with fail
   refine bodyPost_ret (v := .tuple #[ref2 0 0, .int .i64 4]) (by simp [results, go_sem, *]) rfl ?_;refine ⟨_, _, 4, rfl, box35_fr HX.out.2.2 _ _, .inr ⟨rfl, HX.out.1, box35_down HX.out.2.1 HB4.out _ _⟩⟩
 ·have HX := hi2 ha (aI hDn (FrB.trans (FrB.none (HF1.out.drewN m)) F3));have hsz := F3.size;have hsz1 : w.heap.size < w1.heap.size := loh HB1.out;have b3 := F3.heap (show (w1.drewN m).heap[w.heap.size]? = _ from HB1.out) (by decide);obtain ⟨e0, e1, ez, el⟩ := cells2 b3;have HB3 := hid b3;clear hDn ha F3 b3;go_wp2_with fail
  refine bodyPost_ret (v := .tuple #[ref2 0 0, .int .i64 4]) (by simp [results, go_sem, *]) rfl ?_;refine ⟨_, _, 4, rfl, box35_fr HX.out.2.2 _ _, .inr ⟨rfl, HX.out.1, box35_down (HX.out.2.1.mono (by omega)) HB3.out _ _⟩⟩
theorem StoreC.grown0 (h : StoreC w B y P a N) (hown : w.ownsRow base e size v n xs) (he : e ∉ 5 :: mutT) (h0 : 0 < base) (hg : w.grownBy w' v.ownBlock) : StoreC w' B y P a N := by
 cases hv : v.ownBlock with
 | none =>
  rw [hv] at hg;exact h.fr0 ⟨hg.os, hg.tape, hg.output, hg.size, fun b hb _ => hg.block b hb (by simp)⟩
 | some g =>
  obtain ⟨hb, c, hc⟩ := oBT hown hv.symm;rw [hv] at hg;exact h.frL (k := g) ⟨hg.os, hg.tape, hg.output, hg.size, fun b hb hn => hg.block b hb (fun e => hn (by cases e; rfl))⟩ hc he (by omega)
theorem grown_frB {w0 : World} (F : FrB B w0 w) (hown : w.ownsRow base e size v n xs) (hb : w0.heap.size <= base) (hg : w.grownBy w' v.ownBlock) : FrB B w0 w' :=
 Fr.trans F (S' := fun b => some b = v.ownBlock) ⟨hg.os, hg.tape, hg.output, hg.size, fun b hb hn => hg.block b hb hn⟩ (fun b hb' e => by have := (oBT hown e).1; omega)
def RowU (B : Blk) (y : Cs) (P : Prot) (a : Bool) (N : Nat) (l : List Rf) (w : World) (e : Ending) (w' : World) : Prop :=
 ∃ v err, e = .returned (.tuple #[v, .int .i64 err]) /\ FrB B w w' /\ ((err = 0 /\ OwnR w' w.heap.size v l /\ StoreC w' B y P a N) \/ (err = 4 /\ a = true /\ DownC w' B y P N))
theorem refC_cells (l : List Rf) : ∀ u ∈ l.flatMap refC, u.oneCell' = true := by
 intro u hu;obtain ⟨x, _, h⟩ := List.mem_flatMap.1 hu;simp [refC] at h;rcases h with rfl | rfl <;> rfl
theorem take_chunk (l : List Rf) (per k : Nat) : l.take ((k + 1) * per) = l.take (k * per) ++ chunk l per k := by
 rw [chunk, Nat.succ_mul, List.take_add]
end Go.Proofs.YtgdhaaokolfdoaaGreatDoor
