/- A pack of texts: WW. Conditions: those that each text names. -/
import Derived.Test.YtgdhaaokolfdoaaGreatDoorNAC
import Derived.Laws.AppendOwnNone
import Derived.Deep.MidRow
import Derived.Outline
import Derived.Deep.Cut
import Derived.Laws.Rows
import Derived.Laws.BitsAllLaws
set_option maxHeartbeats 16000000
set_option maxRecDepth 100000
set_option linter.all false
namespace Go.Sg
open Go.RowKit
theorem leB_snoc (k : Nat) : ∀ n, leB n (k + 1) = leB n k ++ [((n / 256 ^ k % 256 : Nat) : Int)] := by
 induction k with
 | zero => intro n; simp [leB]
 | succ k ih =>
  intro n;have := ih (n / 256);rw [leB, this, leB];simp only [List.cons_append];rw [Nat.div_div_eq_div_mul, Nat.pow_succ, Nat.mul_comm 256]
theorem leB_byte (k : Nat) : ∀ n, ∀ x ∈ leB n k, 0 <= x /\ x < 256 := by
 induction k with
 | zero => intro n x hx; cases hx
 | succ k ih =>
  intro n x hx;simp only [leB, List.mem_cons] at hx;rcases hx with rfl | hx
  ·omega
  ·exact ih _ x hx
def nbytes (n k j : Nat) : List Int := leB n j ++ List.replicate (k - j) 0
theorem nbytes_set (n k j : Nat) (h : j < k) : (nbytes n k j).set j ((n / 256 ^ j % 256 : Nat) : Int) = nbytes n k (j + 1) := by
 obtain ⟨d, hd⟩ : ∃ d, k - j = d + 1 := ⟨k - j - 1, by omega⟩
 have e : k - (j + 1) = d := by omega
 rw [nbytes, nbytes, hd, e, leB_snoc, List.replicate_succ, List.append_assoc];rw [List.set_append_right _ _ (by rw [leB_length]; exact nR _), leB_length, Nat.sub_self];rfl
def ucells (bs : List Int) : Array Value := (bs.map (Value.int .u8)).toArray
theorem ucells_set (bs : List Int) (j : Nat) (x : Int) : (ucells bs).setIfInBounds j (.int .u8 x) = ucells (bs.set j x) := by simp [ucells]
variable {w : World} {base n : Nat} {bs : List Int}
theorem ByV.cells {g c : Nat} (h : w.heap[g]? = some (.cells (ucells bs) 5)) (hn : bs.length = n) : ByV w (some ⟨g, 0, none⟩) n c bs := by
 refine ⟨⟨hn, fun i x hx => ⟨g, 0, rfl, loh h, ?_⟩⟩, .inr ⟨g, 0, _, rfl, h⟩⟩;rw [coh h]; simp [ucells, hx]
structure WtAt (w : World) (base r : Nat) (bs : List Int) (limit : Nat) : Prop where
 ex : ∃ v, w.heap[r]? = some (.cells #[v, .int .i64 limit, .bool false] 343) /\ w.ownsRow base 5 1 v bs.length (bs.map (Value.int .u8))
 ge : base <= r
 room : bs.length <= limit /\ limit <= 65536
theorem WtAt.fr {S : Nat -> Prop} {w' : World} {r : Nat} {limit : Nat} (h : WtAt w base r bs limit) (F : Fr S w w') (hS : ∀ b, base <= b -> b < w.heap.size -> ¬ S b) : WtAt w' base r bs limit := by
 obtain ⟨⟨v, hr, hown⟩, hg, hm⟩ := h;refine ⟨⟨v, F.heap hr (hS r hg (loh hr)), ?_⟩, hg, hm⟩;obtain ⟨hl, h0 | ⟨g, cap, cur, hv, hb, hgg, rest⟩⟩ := hown
 ·exact ⟨hl, .inl h0⟩
 ·exact ⟨hl, .inr ⟨g, cap, cur, hv, hb, F.heap hgg (hS g hb (loh hgg)), rest⟩⟩
theorem slb_of_own {v : Value} (h : w.ownsRow base 5 1 v n (bs.map (Value.int .u8))) : ∃ a c, v = .slice a n c /\ SlB w a n c bs /\ (a = none \/ ∃ g, a = some ⟨g, 0, none⟩ /\ base <= g) := by
 have h' := h;obtain ⟨hl, ⟨rfl, rfl⟩ | ⟨g, cap, cur, rfl, hb, hg, _⟩⟩ := h'
 ·have : bs = [] := List.eq_nil_of_length_eq_zero (by simpa using hl);subst this;exact ⟨none, 0, rfl, (ByV.nil w).slb, .inl rfl⟩
 ·obtain ⟨g', cap', c', e, hg', hB⟩ := byts_of_own h (by intro e; cases e);cases e;exact ⟨_, _, rfl, ⟨hB, .inr ⟨_, rfl⟩⟩, .inr ⟨g, rfl, hb⟩⟩
end Go.Sg
namespace Go.Proofs.YtgdhaaokolfdoaaGreatDoor
open Go.RowKit Go.Sg
theorem number_ok (n k : Nat) (hk : k <= 8) (hn : n < 18446744073709551616) (w : World) :
  Calls Tryz.prog 238 #[.int .u64 n, .int .i64 k] w fun e w' => e = .returned (.slice (some ⟨w.heap.size, 0, none⟩) k k) /\ ByV w' (some ⟨w.heap.size, 0, none⟩) k k (Sg.leB n k) /\ Fq w w' := by
 obtain ⟨i0, hi, hz0, hz1, hz2⟩ := info_parts Tryz.info5;have hmk := fun W => run_make_len (P := Tryz.prog) 22 5 i0 _ Tryz.underlying22 hi hz0 k (by rw [hz2]; omega) (by omega) W
 rw [hz1] at hmk;clear hi hz0 hz1 hz2;go_enter Tryz.func238, Tryz.ntmps238;go_wp2
 go_loopw [0, 11] (fun m i wr => ∃ j : Nat, j <= k /\ i = .int .i64 j /\ m = .int .u64 ((n / 256 ^ j : Nat) : Int) /\ wr.heap[w.heap.size]? = some (.cells (ucells (nbytes n k j)) 5) /\ Fq w wr) (fun _ i _ => k - (intOf i).toNat)
 case atStart =>
  refine ⟨0, Nat.zero_le _, rfl, by simp, ?_, (Fr.refl _ _).alloc _⟩;rw [han];congr 2
  apply Array.toList_inj.1;rw [toList_madeCells_one];simp [ucells, nbytes, Sg.leB]
 case round =>
  obtain ⟨j, hj, rfl, rfl, hg, hF⟩ := hrel;by_cases hlt : j < k
  ·have hlen : (nbytes n k j).length = k := by simp [nbytes, leB_length]; omega
   have cj : wr.cell? ⟨w.heap.size, j, none⟩ = some (.int .u8 ((nbytes n k j).getD j 0)) := by
    rw [coh hg];simp [ucells, List.getD, gE (show j < (nbytes n k j).length by omega)]
   have zj := fun o => foh hg o
   have hlg := loh hg;have hjd : decide (j < k) = true := by simpa using hlt
   have HG := hid hg;have HF := hid hF;have HLN := hid hlen;clear hg hF hlen;go_wp2
   go_roundw;case rel =>
    refine ⟨j + 1, by omega, by go_num, ?_, ?_, ?_⟩
    ·rw [Nat.pow_succ, <- Nat.div_div_eq_div_mul]; simp
    ·rw [hsc _ _ _ _ HG.out, show ((n : Int) / 256 ^ j % 256) = ((n / 256 ^ j % 256 : Nat) : Int) by simp, ucells_set, nbytes_set n k j hlt]
    ·exact HF.out.setNew (nR _) _
   case measure => simp [intOf]; omega
  ·obtain rfl : j = k := by omega
   go_wp2
   go_ret;have e : nbytes n j j = Sg.leB n j := by simp [nbytes]
   rw [e] at hg;exact ⟨rfl, ByV.cells hg (leB_length _ _), hF⟩
theorem newwriter_ok (limit : Nat) (hl : limit <= 65536) (w : World) :
  Calls Tryz.prog 178 #[.int .i64 limit] w fun e w' => e = .returned (.pointer (some ⟨w.heap.size, 0, none⟩)) /\ WtAt w' w.heap.size w.heap.size [] limit /\ Fq w w' := by
 go_enter Tryz.func178, Tryz.ntmps178;go_wp2
 go_ret;exact ⟨rfl, ⟨⟨_, han _ _, World.ownsRow_nil _ _ _ _⟩, nR _, Nat.zero_le _, hl⟩, (Fr.refl _ _).alloc _⟩
variable {w : World} {base c limit n r : Nat} {bs xs : List Int} {a : Option Addr}
theorem own_block5 {size : Nat} {v : Value} {xs : List Value} (h : w.ownsRow base 5 size v n xs) {g : Nat} (hg : some g = v.ownBlock) : base <= g /\ ∃ c, w.heap[g]? = some (.cells c 5) := by
 obtain ⟨_, ⟨rfl, _⟩ | ⟨g', cap, cur, rfl, hb, hh, _⟩⟩ := h
 ·cases hg
 ·cases hg; exact ⟨hb, _, hh⟩
def WtS (w : World) (base r b : Nat) : Prop := base <= b /\ (b = r \/ ∃ c, w.heap[b]? = some (.cells c 5))
theorem raww_some (h : WtAt w base r bs limit) (hbase : base <= w.heap.size) {b off : Nat} (hx : ByV w (some ⟨b, off, none⟩) n c xs) (hroom : bs.length + n <= limit) :
  Calls Tryz.prog 237 #[.pointer (some ⟨r, 0, none⟩), .slice (some ⟨b, off, none⟩) n c] w fun e w' => e = .returned (.tuple #[]) /\ WtAt w' base r (bs ++ xs) limit /\ Fr (WtS w base r) w w' := by
 obtain ⟨i0, hi0, hz0, hz1, hz2⟩ := info_parts Tryz.info5;obtain ⟨⟨v, hr, hown⟩, hge, hle, hlim⟩ := h;obtain ⟨a, cv, rfl, _, _⟩ := slb_of_own hown;have c0 := coh hr 0;have c1 := coh hr 1;have c2 := coh hr 2;have cz := fun o => foh hr o
 simp at c0 c1 c2;have lt := loh hr;have hd : decide (((limit : Int) - (bs.length : Int)) < (n : Int)) = false := by simp; omega
 have hd2 : ¬ ((limit : Int) - (bs.length : Int)) < (n : Int) := by omega
 have hxl := hx.len;have HR := hid hr;have HO := hid hown;have HX := hid hx;have HXL := hid hxl;clear hr hown hx hxl;go_enter Tryz.func237, Tryz.ntmps237;go_wp2
 go_region
 obtain ⟨W1, hW1⟩ : ∃ W1, (w.setCell ⟨r, 2, none⟩ (.bool false)).drew = W1 := ⟨_, rfl⟩
 rw [hW1];have F1 : Fr (fun b => b = r) w W1 := by rw [<- hW1]; exact ((Fr.refl (fun b => b = r) _).setCell (a := ⟨r, 2, none⟩) (fun _ => rfl) _).drew
 have hr1 : W1.heap[r]? = some (.cells #[.slice a bs.length cv, .int .i64 limit, .bool false] 343) := by
  rw [<- hW1]; exact (hsc _ _ _ _ HR.out)
 have hs1 : W1.heap.size = w.heap.size := by rw [<- hW1]; simp
 have ne5 : ∀ g cs, w.heap[g]? = some (.cells cs 5) -> ¬ g = r := fun g cs hg e => by rw [e, HR.out] at hg; cases hg
 have hown1 : W1.ownsRow base 5 1 (.slice a bs.length cv) bs.length (bs.map (Value.int .u8)) := oRf HO.out F1 ne5;have hx1 : ByV W1 (some ⟨b, off, none⟩) n c xs := HX.out.fr F1 ne5;have e0 := coh hr1 0;have e1 := coh hr1 1;have e2 := coh hr1 2;have ez := fun o => foh hr1 o
 simp at e0 e1 e2;have lt1 := loh hr1;have hcell : ∀ (j : Nat) (u : Value), (xs.map (Value.int .u8))[j]? = some u -> W1.cell? ((⟨b, off, none⟩ : Addr).add j) = some u := fun j u hu => by
  rw [gP] at hu;cases hx : xs[j]? with
  | none => rw [hx] at hu; cases hu
  | some x =>
   rw [hx] at hu;cases hu;obtain ⟨b', off', e, hb, hc⟩ := hx1.by_.at_ j x hx;cases e;rw [addr_add];exact hc
 have HC := hid hcell;have HO1 := hid hown1;have HX1 := hid hx1;have HR1 := hid hr1;have HF1 := hid F1;clear hcell hown1 hx1 hr1 F1 hW1 c0 c1 c2 cz ne5;go_wp2_with (at_builtin; refine wpList_append_own_at _ rfl (.tmp 37) (.tmp 38) 22 rfl base 5 i0 _ 1 1 Tryz.underlying22 hi0 hz0 hz1 hz2 rfl (by decide) _ _ _ rfl HO1.out ⟨b, off, none⟩ n c (xs.map (Value.int .u8)) rfl (by have := HXL.out; simpa using this) HC.out ?c2 ?c3 ?c4 (by omega) ?_)
 case c2 => intro u hu; obtain ⟨x, _, rfl⟩ := List.mem_map.1 hu; rfl
 case c3 => simp [maxLen]; omega
 case c4 => omega
 intro v1 w2 hown2 hgrow hnil hat;have hr2 : w2.heap[r]? = some (.cells #[.slice a bs.length cv, .int .i64 limit, .bool false] 343) := by
  refine (hgrow.block r lt1 fun e => ?_).trans HR1.out;obtain ⟨_, cs, hc⟩ := own_block5 HO1.out e;rw [HR1.out] at hc; cases hc
 have F2 : Fr (fun b => base <= b /\ ∃ c, W1.heap[b]? = some (.cells c 5)) W1 w2 := ⟨hgrow.os, hgrow.tape, hgrow.output, hgrow.size, fun b hb hn => hgrow.block b hb fun e => hn (own_block5 HO1.out e)⟩;obtain ⟨a2, c2', rfl, _, _⟩ := slb_of_own (bs := bs ++ xs) (by simpa using hown2);have H2 := hi2 hown2 (aI hr2 F2);have x0 := coh hr2 0;have xz := fun o => foh hr2 o
 simp at x0;have lt2 := loh hr2;clear hown2 hgrow hnil hat hr2 F2;go_wp2
 go_end0
 obtain ⟨hown2, hr2, F2⟩ := H2.out;have F3 : Fr (fun b => b = r) w2 (w2.setCell ⟨r, 0, none⟩ (.slice a2 (bs.length + n) c2')) := (Fr.refl (fun b => b = r) _).setCell (a := ⟨r, 0, none⟩) (fun _ => rfl) _;have hlen : (bs ++ xs).length = bs.length + n := by rw [lA, HXL.out]
 refine ⟨rfl, ⟨⟨_, hsc _ _ _ _ hr2, ?_⟩, hge, by rw [hlen]; omega, hlim⟩, ?_⟩
 ·rw [hlen, List.map_append];exact oRf hown2 F3 (fun g cs hg e => by rw [e, hr2] at hg; cases hg)
 ·exact ((HF1.out.mono (S' := WtS w base r) (fun b _ e => ⟨by rw [e]; exact hge, .inl e⟩)).trans F2 (fun b hb h => ⟨h.1, by
   by_cases hbr : b = r
   ·exact .inl hbr
   ·obtain ⟨c, hc⟩ := h.2;exact .inr ⟨c, (HF1.out.block b hb hbr).symm.trans hc⟩⟩)).trans F3 (fun b _ e => ⟨by rw [e]; exact hge, .inl e⟩)
theorem raww_none (h : WtAt w base r bs limit) :
  Calls Tryz.prog 237 #[.pointer (some ⟨r, 0, none⟩), .slice none 0 0] w fun e w' => e = .returned (.tuple #[]) /\ WtAt w' base r bs limit /\ Fr (WtS w base r) w w' := by
 obtain ⟨⟨v, hr, hown⟩, hge, hle, hlim⟩ := h;obtain ⟨a, cv, rfl, _, _⟩ := slb_of_own hown;have c0 := coh hr 0;have c1 := coh hr 1;have c2 := coh hr 2;have cz := fun o => foh hr o
 simp at c0 c1 c2;have lt := loh hr;have hd : decide (((limit : Int) - (bs.length : Int)) < 0) = false := by simp; omega
 have hd2 : ¬ ((limit : Int) - (bs.length : Int)) < 0 := by omega
 have HR := hid hr;have HO := hid hown;clear hr hown;go_enter Tryz.func237, Tryz.ntmps237;go_wp2
 go_region
 obtain ⟨W1, hW1⟩ : ∃ W1, (w.setCell ⟨r, 2, none⟩ (.bool false)).drew = W1 := ⟨_, rfl⟩
 rw [hW1];have F1 : Fr (fun b => b = r) w W1 := by rw [<- hW1]; exact ((Fr.refl (fun b => b = r) _).setCell (a := ⟨r, 2, none⟩) (fun _ => rfl) _).drew
 have hr1 : W1.heap[r]? = some (.cells #[.slice a bs.length cv, .int .i64 limit, .bool false] 343) := by
  rw [<- hW1]; exact (hsc _ _ _ _ HR.out)
 have ne5 : ∀ g cs, w.heap[g]? = some (.cells cs 5) -> ¬ g = r := fun g cs hg e => by rw [e, HR.out] at hg; cases hg
 have hown1 : W1.ownsRow base 5 1 (.slice a bs.length cv) bs.length (bs.map (Value.int .u8)) := oRf HO.out F1 ne5;have e0 := coh hr1 0;have e2 := coh hr1 2;have ez := fun o => foh hr1 o
 simp at e0 e2;have lt1 := loh hr1;obtain ⟨i0, hi0, _⟩ := info_parts Tryz.info5;have HO1 := hid hown1;have HR1 := hid hr1;have HF1 := hid F1;clear hown1 hr1 F1 hW1 c0 c1 c2 cz ne5;go_wp2_with (at_builtin; refine wpList_append_own_none rfl (.tmp 37) (.tmp 38) 22 rfl base 5 i0 1 Tryz.underlying22 hi0 _ _ _ rfl HO1.out rfl ?_)
 go_end0
 have F3 : Fr (fun b => b = r) W1 (W1.setCell ⟨r, 0, none⟩ (.slice a bs.length cv)) := (Fr.refl (fun b => b = r) _).setCell (a := ⟨r, 0, none⟩) (fun _ => rfl) _;refine ⟨rfl, ⟨⟨_, hsc _ _ _ _ HR1.out, ?_⟩, hge, hle, hlim⟩, ?_⟩
 ·exact oRf HO1.out F3 (fun g cs hg e => by rw [e, HR1.out] at hg; cases hg)
 ·exact (HF1.out.mono (S' := WtS w base r) (fun b _ e => ⟨by rw [e]; exact hge, .inl e⟩)).trans F3 (fun b _ e => ⟨by rw [e]; exact hge, .inl e⟩)
theorem raww_ok2 (h : WtAt w base r bs limit) (hbase : base <= w.heap.size) (hx : ByV w a n c xs) (hroom : bs.length + n <= limit) :
  Calls Tryz.prog 237 #[.pointer (some ⟨r, 0, none⟩), .slice a n c] w fun e w' => e = .returned (.tuple #[]) /\ WtAt w' base r (bs ++ xs) limit /\ Fr (WtS w base r) w w' := by
 rcases hx.at_ with ⟨rfl, rfl, rfl⟩ | ⟨b, off, cs, rfl, _⟩
 ·have : xs = [] := List.eq_nil_of_length_eq_zero hx.len;subst this;rw [List.append_nil];exact raww_none h
 ·exact raww_some h hbase hx hroom
theorem wnum_ok2 (h : WtAt w base r bs limit) (hbase : base <= w.heap.size) (n k : Nat) (hk : k = 1 \/ k = 2 \/ k = 4 \/ k = 8) (hn : n < 18446744073709551616) (hroom : bs.length + k <= limit) :
  Calls Tryz.prog 179 #[.pointer (some ⟨r, 0, none⟩), .int .u64 n, .int .i64 k] w fun e w' => e = .returned (.tuple #[]) /\ WtAt w' base r (bs ++ Sg.leB n k) limit /\ Fr (WtS w base r) w w' := by
 have HM := hid (fun W => maynum k hk W);have HN := hid (number_ok n k (by omega) hn w);have H := hid h;clear h hk;go_enter Tryz.func179, Tryz.ntmps179;go_wp2_with (go_at_call 236; refine (HM.out _).mono ?_; rintro e w' ⟨rfl, rfl⟩)
 refine HN.out.mono ?_;rintro e w1 ⟨rfl, hb, F1⟩;have HF1 := hid F1;have HR := hid (raww_ok2 (H.out.fr F1 (fun _ _ _ h => h)) (nT hbase F1.size) hb hroom);clear hb F1;go_wp2_with fail
 refine HR.out.mono ?_;rintro e w2 ⟨rfl, hW, F2⟩;have HF2 := hi2 hW F2;clear hW F2;go_wp2
 go_end0
 exact ⟨rfl, HF2.out.1, (HF1.out.mono (S' := WtS w base r) (fun _ _ h => h.elim)).trans HF2.out.2 (fun b hb h => ⟨h.1, h.2.imp id fun ⟨c, hc⟩ => ⟨c, (HF1.out.block b hb (fun h => h)).symm.trans hc⟩⟩)⟩
theorem raww_ok (h : WtAt w base r bs limit) (hbase : base <= w.heap.size) (hx : ByV w a n c xs) (hroom : bs.length + n <= limit) :
  Calls Tryz.prog 237 #[.pointer (some ⟨r, 0, none⟩), .slice a n c] w fun e w' => e = .returned (.tuple #[]) /\ WtAt w' base r (bs ++ xs) limit /\ Fr (fun b => base <= b) w w' :=
 (raww_ok2 h hbase hx hroom).mono fun e w' ⟨he, hw, F⟩ => ⟨he, hw, F.mono fun _ _ h => h.1⟩
theorem wnum_ok (h : WtAt w base r bs limit) (hbase : base <= w.heap.size) (n k : Nat) (hk : k = 1 \/ k = 2 \/ k = 4 \/ k = 8) (hn : n < 18446744073709551616) (hroom : bs.length + k <= limit) :
  Calls Tryz.prog 179 #[.pointer (some ⟨r, 0, none⟩), .int .u64 n, .int .i64 k] w fun e w' => e = .returned (.tuple #[]) /\ WtAt w' base r (bs ++ Sg.leB n k) limit /\ Fr (fun b => base <= b) w w' :=
 (wnum_ok2 h hbase n k hk hn hroom).mono fun e w' ⟨he, hw, F⟩ => ⟨he, hw, F.mono fun _ _ h => h.1⟩
theorem wbytes_ok (h : WtAt w base r bs limit) :
  Calls Tryz.prog 180 #[.pointer (some ⟨r, 0, none⟩)] w fun e w' => ∃ a c, e = .returned (.slice a bs.length c) /\ (ByV w' a bs.length c bs /\ bs.length <= c) /\ Fq w w' := by
 obtain ⟨⟨v, hr, hown⟩, hge, hle, hlim⟩ := h;obtain ⟨a, cv, rfl, hs, _⟩ := slb_of_own hown;have c0 := coh hr 0;simp at c0;have HC := hid (clone_vc hs (by omega));clear hr hown hs;go_enter Tryz.func180, Tryz.ntmps180;go_wp2_with fail
 refine HC.out.mono ?_;rintro e w1 ⟨a', c', rfl, hb, F1⟩;have HB := hi2 hb F1;clear hb F1;go_wp2
 go_ret;exact ⟨a', c', rfl, HB.out.1, HB.out.2⟩
end Go.Proofs.YtgdhaaokolfdoaaGreatDoor
namespace Go.Sg
open Go.RowKit
theorem Fr.setCells {S : Nat -> Prop} {w : World} {b : Nat} (hb : w.heap.size <= b) (vs : List Value) : ∀ (o : Nat) (w1 : World), Fr S w w1 -> Fr S w (w1.setCells b o vs) := by
 induction vs with
 | nil => intro o w1 h; exact h
 | cons v vs ih => intro o w1 h; exact ih (o + 1) _ (h.setNew hb v)
theorem results_cell_mid {P : Program} {fn : Func} {p : Tmp} {ty : TypeId} (h : fn.results = #[.cell p ty]) (tmps : Array Value) (w : World) (g : Nat) (cs : List Value) (d : TypeDesc)
  (hp : tmps.getD p undef = .pointer (some ⟨g, 0, none⟩)) (hg : w.rangeAt g 0 cs) (hu : P.underlying ty = some d) (hd : d.isRow = true) (hi : (P.info? ty).map (·.size) = some cs.length) :
  (results fn tmps).run P w = .ok (.agg cs.toArray) w := by
 have hp' : tmps[p]?.getD undef = .pointer (some ⟨g, 0, none⟩) := by simpa using hp
 have h1 := run_loadVar_mid w g 0 ty cs d hg hu hd hi;simp [results, h, hp', asAddr, h1]
end Go.Sg
namespace Go.Proofs.YtgdhaaokolfdoaaGreatDoor
open Go.RowKit Go.Sg
abbrev bndL (p : Plan8) : List Value := [.int .i64 p.size, .int .i64 96, .int .i64 512, .int .i64 p.sectors, .int .i64 1, .int .i64 16384, .int .i64 p.regions, .int .i64 3, .int .i64 64, .int .i64 p.rsectors, .int .i64 1, .int .i64 32, .int .i64 p.log, .int .i64 4, .int .i64 256, .int .i64 p.depth, .int .i64 0, .int .i64 8, .int .i64 p.memory, .int .i64 8, .int .i64 256]
theorem Tryz.size327 : (Tryz.prog.info? 327).map (·.size) = some 21 := by kernel_rfl
abbrev zeros21 : Array Value := #[.int .i64 0, .int .i64 0, .int .i64 0, .int .i64 0, .int .i64 0, .int .i64 0, .int .i64 0, .int .i64 0, .int .i64 0, .int .i64 0, .int .i64 0, .int .i64 0, .int .i64 0, .int .i64 0, .int .i64 0, .int .i64 0, .int .i64 0, .int .i64 0, .int .i64 0, .int .i64 0, .int .i64 0]
theorem bounds_ok (p : Plan8) (w : World) : Calls Tryz.prog 222 #[p.val] w fun e w' => e = .returned (.agg (bndL p).toArray) /\ Fq w w' := by
 obtain ⟨a, b, c, d, f, g, h, s⟩ := p;obtain ⟨W, hW⟩ : ∃ W, (w.alloc (.cells #[.int .i64 a, .int .i64 b, .int .i64 c, .int .i64 d, .int .i64 f, .int .i64 g, .int .i64 h, .int .u64 s] 31)).alloc (.cells zeros21 327) = W := ⟨_, rfl⟩
 obtain ⟨b0, b1, F1⟩ := heap_two hW;have hs1 : w.heap.size + 1 < W.heap.size := loh b1;have ht : W.there (w.heap.size + 1) 0 21 := by
  intro j hj;refine ⟨?_, foh b1 _⟩;rw [coh b1];simp; omega
 have HT := hid ht;obtain ⟨w9, hw9⟩ : ∃ w9, W.setCells (w.heap.size + 1) 0 (bndL ⟨a, b, c, d, f, g, h, s⟩).toArray.toList = w9 := ⟨_, rfl⟩
 have hr9 : w9.rangeAt (w.heap.size + 1) 0 (bndL ⟨a, b, c, d, f, g, h, s⟩) := by
  rw [<- hw9];exact World.rangeAt_setCells_same _ _ _ _ ht
 have F9 : Fq w w9 := by
  rw [<- hw9];exact Fr.setCells (by omega) _ _ _ F1
 have c0 := coh b0 0;have c1 := coh b0 1;have c2 := coh b0 2;have c3 := coh b0 3;have c4 := coh b0 4;have c5 := coh b0 5;have c6 := coh b0 6;simp at c0 c1 c2 c3 c4 c5 c6;have HR := hid hr9;have HF := hid F9;have HW := hid hW;have HW9 := hid hw9;clear ht hw9 hr9 F9 hs1 hW b0 b1 F1;go_enter Tryz.func222, Tryz.ntmps222;go_upto_region 1 with (fail)
 simp only [HW.out];iterate 100 (first | (refine wpList_store_mid (by rfl) 327 (.tmp 2) (.tmp 24) (by rfl) (w.heap.size + 1) 0 (bndL ⟨a, b, c, d, f, g, h, s⟩).toArray (by rfl) (by rfl) HT.out (by rw [Tryz.size327]; rfl) (by simp [Value.oneCell']) ?_) | go_step | skip)
 have e9 : W.setCells (w.heap.size + 1) 0 (bndL ⟨a, b, c, d, f, g, h, s⟩) = w9 := HW9.out;rw [e9];exact bodyPost_ret (v := .agg (bndL ⟨a, b, c, d, f, g, h, s⟩).toArray) (results_cell_mid rfl _ _ (w.heap.size + 1) (bndL ⟨a, b, c, d, f, g, h, s⟩) _ rfl HR.out Tryz.underlying327 rfl (by rw [Tryz.size327]; rfl)) rfl ⟨rfl, HF.out⟩
end Go.Proofs.YtgdhaaokolfdoaaGreatDoor
namespace Go.Sg
def crcIt (i : Nat) : Nat -> Nat
 | 0 => i
 | m + 1 => crcStep (crcIt i m)
theorem crcTab_it (i : Nat) : crcTab i = crcIt i 8 := rfl
theorem crcStep_lt {n : Nat} (h : n < 4294967296) : crcStep n < 4294967296 := by
 unfold crcStep;refine Nat.xor_lt_two_pow (n := 32) (by omega) ?_;split <;> omega
theorem crcIt_lt {i : Nat} (h : i < 4294967296) : ∀ m, crcIt i m < 4294967296 := by
 intro m;induction m with
 | zero => exact h
 | succ m ih => exact crcStep_lt ih
theorem crcTab_lt {i : Nat} (h : i < 256) : crcTab i < 4294967296 := by rw [crcTab_it]; exact crcIt_lt (by omega) 8
def tabL (i : Nat) : List Value := (List.range 256).map fun j => .int .u32 ((if j < i then crcTab j else 0 : Nat) : Int)
theorem tabL_len (i : Nat) : (tabL i).length = 256 := by simp [tabL]
theorem tabL_set (i : Nat) (h : i < 256) : (tabL i).set i (.int .u32 (crcTab i : Nat)) = tabL (i + 1) := by
 apply List.ext_getElem?;intro j;by_cases hj : j < 256
 ·rw [List.getElem?_set];by_cases e : i = j
  ·subst e;simp [tabL, hj]
  ·rw [if_neg e];simp only [tabL, gP, List.getElem?_range hj, Option.map_some];congr 2
   by_cases h1 : j < i
   ·rw [if_pos h1, if_pos (by omega)]
   ·rw [if_neg h1, if_neg (by omega)]
 ·rw [List.getElem?_eq_none (by rw [List.length_set, tabL_len]; omega), List.getElem?_eq_none (by rw [tabL_len]; omega)]
end Go.Sg
namespace Go.Proofs.YtgdhaaokolfdoaaGreatDoor
open Go.RowKit Go.Sg
theorem zero396 : Tryz.zeroCells396 = (List.replicate 256 (Value.int .u32 0)).toArray := by kernel_rfl
theorem tabL_nought : tabL 0 = List.replicate 256 (Value.int .u32 0) := by
 rw [tabL, List.map_congr_left (g := fun _ => Value.int .u32 0) (fun j _ => by rw [if_neg (Nat.not_lt_zero j)]; rfl), List.map_const', List.length_range]
theorem tabL_zero : Tryz.zeroCells396 = (tabL 0).toArray := by rw [zero396, tabL_nought]
theorem table_ok (w : World) :
  Calls Tryz.prog 289 #[] w fun e w' => e = .returned (.agg (tabL 256).toArray) /\ Fq w w' := by
 go_enter Tryz.func289, Tryz.ntmps289;go_wp2
 rw [tabL_zero];go_loopw [5] (fun s wr => ∃ i : Nat, i <= 256 /\ s = .int .i64 i /\ wr.heap[w.heap.size + 1]? = some (.cells (tabL i).toArray 396) /\ wr.heap[w.heap.size]? = some (.cells (tabL 0).toArray 396) /\ Fq w wr) (fun s _ => 256 - (intOf s).toNat)
 case atStart =>
  obtain ⟨h0, h1, F⟩ := heap_two (w := w) (A := .cells (tabL 0).toArray 396) (B := .cells (tabL 0).toArray 396) rfl;exact ⟨0, Nat.zero_le _, rfl, h1, h0, F⟩
 case round =>
  obtain ⟨i, hi, rfl, h1, h0, hF⟩ := hrel;by_cases hlt : i < 256
  ·have cj : wr.cell? ⟨w.heap.size + 1, i, none⟩ = some (.int .u32 0) := by
    rw [coh h1];simp [tabL, hlt]
   have zj := fun o => foh h1 o
   have hlg := loh h1;have hid1 : decide (i < 256) = true := by simpa using hlt
   have hid2 : decide ((i : Int) < 256) = true := by simp; omega
   have H := hi2 h1 (aI h0 hF);clear h1 h0 hF;go_wp2
   obtain ⟨wo, rfl⟩ : ∃ wo : World, wo = wr := ⟨_, rfl⟩
   go_loop [3, 10] (fun n s => ∃ m : Nat, m <= 8 /\ s = .int .i64 m /\ n = .int .u32 (crcIt i m : Nat)) (fun _ s => 8 - (intOf s).toNat)
   case atStart => exact ⟨0, Nat.zero_le _, rfl, rfl⟩
   case round =>
    obtain ⟨m, hm, rfl, rfl⟩ := hrel;have hl := crcIt_lt (i := i) (by omega) m;by_cases hlm : m < 8
    ·have hd3 : decide ((m : Int) < 8) = true := (by simp; omega);go_wp2
     go_round
     case rel =>
      refine ⟨m + 1, by omega, by go_num, ?_⟩;have e1 : bits BinOp.and IntKind.u32 ((crcIt i m : Nat) : Int) 1 = ((crcIt i m % 2 : Nat) : Int) := by
       rw [show (1 : Int) = ((1 : Nat) : Int) from rfl, u32_and_nat _ _ hl (by decide), nat_mask1]
      rw [e1];have h2 : crcIt i m % 2 = 0 \/ crcIt i m % 2 = 1 := (by omega);have e2 : (2197175160 * ((crcIt i m % 2 : Nat) : Int) % 4294967296) = (((if crcIt i m % 2 = 1 then 2197175160 else 0) : Nat) : Int) := by
       rcases h2 with h2 | h2 <;> rw [h2] <;> rfl
      rw [e2, show ((crcIt i m : Nat) : Int) / 2 = ((crcIt i m / 2 : Nat) : Int) by simp, u32_xor_nat _ _ (by omega) (by split <;> omega)];rfl
     case measure => simp [intOf]; omega
    ·obtain rfl : m = 8 := by omega
     go_wp2
     go_roundw;case rel =>
      obtain ⟨h1, h0, hF⟩ := H.out;refine ⟨i + 1, by omega, by go_num, ?_, ?_, hF.setNew (by omega) _⟩
      ·rw [hsc _ _ _ _ h1];congr 2
       rw [<- crcTab_it, <- tabL_set i hlt];simp
      ·exact (heap_setCell_ne _ _ _ _ (by simp)).trans h0
     case measure => simp [intOf]; omega
  ·obtain rfl : i = 256 := by omega
   go_upto_region 13 with (fail)
   have hsz : (Tryz.prog.info? 396).map (·.size) = some (tabL 256).toArray.size := by rw [zA, tabL_len]; kernel_rfl
   have hsz2 : (Tryz.prog.info? 396).map (·.size) = some (tabL 256).length := by rw [tabL_len]; kernel_rfl
   have hu : Tryz.prog.underlying 396 = some (.array 256 373) := by kernel_rfl
   have ht : wr.there w.heap.size 0 (tabL 256).toArray.size := by
    intro j hj;refine ⟨?_, foh h0 _⟩;rw [coh h0];rw [zA, tabL_len] at hj;simp [tabL]; omega
   have h1c : (tabL 256).toArray.all (·.oneCell') = true := by simp [tabL, Value.oneCell']
   have hr9 : (wr.setCells w.heap.size 0 (tabL 256)).rangeAt w.heap.size 0 (tabL 256) := World.rangeAt_setCells_same _ _ _ _ (by simpa using ht);have F9 : Fq w (wr.setCells w.heap.size 0 (tabL 256)) := Fr.setCells (by omega) _ _ _ hF;iterate 60 (first | (refine wpList_load_row (by rfl) 396 (.tmp 1) (by rfl) (w.heap.size + 1) (by rfl) 396 (tabL 256).toArray (0, 0) (.array 256 373) h1 hu rfl hsz ?_) | (refine wpList_store_mid (by rfl) 396 (.tmp 0) (.tmp 24) (by rfl) w.heap.size 0 (tabL 256).toArray (by rfl) (by rfl) ht hsz h1c ?_) | go_step | skip)
   trace_state
   exact bodyPost_ret (v := .agg (tabL 256).toArray) (results_cell_mid rfl _ _ w.heap.size (tabL 256) _ rfl hr9 hu rfl hsz2) rfl ⟨rfl, F9⟩
end Go.Proofs.YtgdhaaokolfdoaaGreatDoor
