/- A pack of texts: By, Set, Bits, Shl, Tz. Conditions: those that each text names. -/
import Derived.Test.YtgdhaaokolfdoaaGreatDoorProg
import Derived.Test.YtgdhaaokolfdoaaGreatDoorNAA
import Derived.Deep.QuietTactic
import Derived.BigQuiet
import Derived.RegionTactic
import Derived.BigRegion
import Derived.Lib.SliceRun
import Derived.Maps.RangeWalk
import Derived.Lib.SlKeysI
import Derived.Deep.LoopGhost
import Derived.Laws.BitsAllLaws
import Derived.Shelf.Spec.TrailingZeros
import Derived.Shelf.SlIterI.Nil
import Derived.Shelf.SortM.Plain
import Derived.Shelf.SortM.SortNone
import Derived.Ground.GgzProg
import Derived.Ground.SlgmProg
import Derived.Ground.Names7Prog
set_option maxHeartbeats 16000000
set_option maxRecDepth 100000
set_option linter.all false
namespace Go.Sg
open Go.RowKit
structure Byts (w : World) (a : Option Addr) (n : Nat) (bs : List Int) : Prop where
 len : bs.length = n
 at_ : ∀ (i : Nat) (x : Int), bs[i]? = some x -> ∃ b off, a = some ⟨b, off, none⟩ /\ b < w.heap.size /\ w.cell? ⟨b, off + i, none⟩ = some (.int .u8 x)
variable {S : Nat -> Prop} {w w' : World} {a : Option Addr} {n : Nat} {bs : List Int}
theorem Byts.fr (h : Byts w a n bs) (F : Fr S w w') (hS : ∀ b off, a = some ⟨b, off, none⟩ -> b < w.heap.size -> ¬ S b) : Byts w' a n bs :=
 ⟨h.len, fun i x hx => by
  obtain ⟨b, off, e, hb, hc⟩ := h.at_ i x hx;exact ⟨b, off, e, nLL hb F.size, (F.cell (p := ⟨b, off + i, none⟩) hb (hS b off e hb)).trans hc⟩⟩
theorem Byts.frn (h : Byts w a n bs) (F : Fr S w w') (hS : ∀ b off, a = some ⟨b, off, none⟩ -> b < w.heap.size -> 0 < n -> ¬ S b) : Byts w' a n bs :=
 ⟨h.len, fun i x hx => by
  obtain ⟨b, off, e, hb, hc⟩ := h.at_ i x hx;have hn : 0 < n := by have := (gI.1 hx).1; have := h.len; omega
  exact ⟨b, off, e, nLL hb F.size, (F.cell (p := ⟨b, off + i, none⟩) hb (hS b off e hb hn)).trans hc⟩⟩
theorem own_lit0 (W : World) (e : TypeId) (size : Nat) (v : Value) (h : v = .slice (some ⟨W.heap.size, 0, none⟩) 0 0) : (W.alloc (.cells #[] e)).ownsRow 0 e size v 0 [] := by
 subst h;exact World.ownsRow_lit W #[] 0 (Nat.zero_le _) (Nat.zero_le _) (by simp)
theorem byts_of_own {base e : Nat} {v : Value} (h : w.ownsRow base e 1 v n (bs.map (Value.int .u8))) (hne : v ≠ .slice none 0 0) :
  ∃ g cap c, v = .slice (some ⟨g, 0, none⟩) n cap /\ w.heap[g]? = some (.cells c e) /\ Byts w (some ⟨g, 0, none⟩) n bs := by
 obtain ⟨hl, ⟨rfl, _⟩ | ⟨g, cap, cur, rfl, _, hg, _, _, _, ht⟩⟩ := h
 ·exact absurd rfl hne
 ·refine ⟨g, cap, cur, rfl, hg, by simpa using hl, fun i x hx => ⟨g, 0, rfl, loh hg, ?_⟩⟩;rw [Nat.zero_add, coh hg];have hi := (gI.1 hx).1;have hl' : bs.length = n * 1 := by simpa using hl
  have : (cur.toList.take (n * 1))[i]? = some (.int .u8 x) := by rw [ht, gP, hx]; rfl
  rw [gT, if_pos (by omega)] at this;simpa using this
end Go.Sg
namespace Go.Proofs.YtgdhaaokolfdoaaGreatDoor
open Go.RowKit Go.Sg
theorem Tryz.info5 : (Tryz.prog.info? 5).map (fun i => (i.zero, i.size, i.bytes)) = some (some (.int .u8 0), 1, 1) := by kernel_rfl
theorem clone_nil (w : World) : Calls Tryz.prog 83 #[.slice none 0 0] w fun e w' => e = .returned (.slice none 0 0) /\ w = w' := by
 have q22 : ∀ (w : World) (a : Option Addr) (n c n' c' : Nat), (binOp .eql 22 (.slice a n c) (.slice none n' c')).run Tryz.prog w = .ok (.bool a.isNone) w := fun w a n c n' c' => Lib.run_eql_slice_nil w _ _ a n c n' c' Tryz.underlying22
 go_enter Tryz.func83, Tryz.ntmps83;go_wp2
 go_ret;exact ⟨rfl, rfl⟩
theorem clone_at {w : World} {ad : Addr} {n cap : Nat} {bs : List Int} (h : Byts w (some ad) n bs) (hn : n <= 65536) :
  Calls Tryz.prog 83 #[.slice (some ad) n cap] w fun e w' => ∃ g cap' c, e = .returned (.slice (some ⟨g, 0, none⟩) n cap') /\ w'.heap[g]? = some (.cells c 5) /\ Byts w' (some ⟨g, 0, none⟩) n bs /\ w.heap.size <= g /\ Fq w w' := by
 obtain ⟨i0, hi0, hz0, hz1, hz2⟩ := info_parts Tryz.info5;have H := hid h;have hlen := h.len;have hcell : ∀ (o : Obj) (j : Nat) (u : Value), (bs.map (Value.int .u8))[j]? = some u -> (w.alloc o).cell? (ad.add j) = some u := fun o j u hu => by
  rw [gP] at hu;cases hx : bs[j]? with
  | none => rw [hx] at hu; cases hu
  | some x =>
   rw [hx] at hu;cases hu;obtain ⟨b', off', e, hb, hc⟩ := h.at_ j x hx;cases e;rw [show (⟨b', off', none⟩ : Addr).add j = ⟨b', off' + j, none⟩ by unfold Addr.add; split <;> simp_all];exact (((Fr.refl (fun _ => False) w).alloc o).cell (p := ⟨b', off' + j, none⟩) hb (fun h => h)).trans hc
 have HC := hid hcell;clear h hcell;have q22 : ∀ (w : World) (a : Option Addr) (n c n' c' : Nat), (binOp .eql 22 (.slice a n c) (.slice none n' c')).run Tryz.prog w = .ok (.bool a.isNone) w := fun w a n c n' c' => Lib.run_eql_slice_nil w _ _ a n c n' c' Tryz.underlying22
 go_enter Tryz.func83, Tryz.ntmps83;go_wp2_with (at_builtin; refine wpList_append_own_at _ rfl (.tmp 5) (.tmp 6) 22 rfl 0 5 i0 _ 1 1 Tryz.underlying22 hi0 hz0 hz1 hz2 rfl (by decide) _ _ _ rfl (own_lit0 _ _ _ _ (by simp [go_sem])) ad n cap (bs.map (Value.int .u8)) rfl (by simpa using hlen) ?c1 ?c2 ?c3 ?c4 (Nat.zero_le _) ?_)
 case c1 => exact HC.out _
 case c2 => intro u hu; obtain ⟨x, _, rfl⟩ := List.mem_map.1 hu; rfl
 case c3 => simp [maxLen]; omega
 case c4 => omega
 intro v1 w1 hown hgrow hnil hat;try simp only [List.nil_append, Nat.zero_add] at hown
 have F1 : Fq w w1 := ((Fr.refl (fun _ => False) w).alloc _).trans (S' := fun b => b = w.heap.size) (Fr.of_grownBy hgrow) (fun b hb h => by omega);obtain ⟨g, cap', c, rfl, hg, hB⟩ := byts_of_own hown hnil;have hgl : w.heap.size <= g := by
  rcases hat with h | h <;> simp [Value.ownBlock] at h <;> omega
 have HG := hi2 hg (aI hB (aI hgl F1));clear hown hgrow hat hg hB F1 hgl;go_wp2
 go_ret;exact ⟨g, cap', c, rfl, HG.out.1, HG.out.2.1, HG.out.2.2.1, HG.out.2.2.2⟩
end Go.Proofs.YtgdhaaokolfdoaaGreatDoor
namespace Go.Sg
open Go.RowKit
theorem borns_put (l : List Ent) (k : Int) (v : Value) (c : Nat) : (put l k v c).map (·.born) = if (look l k).isSome then l.map (·.born) else l.map (·.born) ++ [c] := by
 induction l with
 | nil => rfl
 | cons e l ih =>
  unfold put;by_cases hk : (e.k == k) = true
  ·have hk' : e.k = k := by simpa using hk
   simp [look, hk, hk']
  ·have hk' : (e.k == k) = false := by simpa using hk
   have e1 : look (e :: l) k = look l k := by simp [look, List.find?_cons, hk']
   rw [hk', e1];simp only [Bool.false_eq_true, if_false, List.map_cons];rw [ih];split <;> rfl
variable {l : List Ent} {b c ck n : Nat} {f : Int -> Bool} {S : Nat -> Prop} {w w' : World} {a : Option Addr} {bs : List Int}
theorem look_mem (h : (keys l).Nodup) {e : Ent} (he : e ∈ l) : look l e.k = some e.v := by
 induction l with
 | nil => cases he
 | cons a l ih =>
  have hn : (keys l).Nodup := by simp [keys] at h ⊢; exact h.2
  have ha : a.k ∉ keys l := by simp [keys] at h ⊢; exact h.1
  rcases List.mem_cons.1 he with rfl | he'
  ·simp [look]
  ·have : a.k ≠ e.k := by
    intro x;exact ha (by rw [x]; exact List.mem_map.2 ⟨e, he', rfl⟩)
   have := ih hn he';simp [look] at this ⊢;simp [List.find?_cons, *]
structure SetIs (l : List Ent) (ck : Nat) (f : Int -> Bool) : Prop where
 nd : (keys l).Nodup
 born : ∀ x ∈ l.map (·.born), x < ck
 bnd : (l.map (·.born)).Nodup
 at_ : ∀ k, look l k = if f k then some (.bool true) else none
def updI (f : Int -> Bool) (k : Int) (b : Bool) : Int -> Bool := fun j => if j = k then b else f j
theorem SetIs.made : SetIs [] 0 (fun _ => false) := ⟨by simp [keys], by simp, by simp, fun k => rfl⟩
theorem SetIs.isSome (h : SetIs l ck f) (k : Int) : (look l k).isSome = f k := by
 rw [h.at_]; cases f k <;> rfl
theorem SetIs.put {l : List Ent} {ck : Nat} {f : Int -> Bool} (h : SetIs l ck f) (k : Int) : SetIs (put l k (.bool true) ck) (bump l k ck) (updI f k true) := by
 refine ⟨nodup_put h.nd _ _ _, ?_, ?_, fun j => ?_⟩
 ·rw [borns_put];unfold bump;split
  ·exact h.born
  ·intro x hx;rcases List.mem_append.1 hx with hx | hx
   ·have := h.born x hx; omega
   ·simp at hx; omega
 ·rw [borns_put];split
  ·exact h.bnd
  ·rw [List.nodup_append];refine ⟨h.bnd, by simp, ?_⟩;rintro a ha b hb rfl;simp at hb;subst hb;exact absurd (h.born _ ha) (Nat.lt_irrefl _)
 ·rw [look_put, h.at_, updI];by_cases e : k = j
  ·subst e; simp
  ·have e' : ¬ j = k := fun x => e x.symm
   simp [e, e']
theorem SetIs.len (h : SetIs l ck f) (hn : ∀ k, f k = true -> 0 <= k /\ k < n) : l.length <= n := by
 rw [<- length_keys];have hsub : ∀ k ∈ keys l, k.toNat ∈ List.range n /\ 0 <= k := fun k hk => by
  have h1 : look l k ≠ none := fun e => (look_none l k).1 e hk
  rw [h.at_] at h1;have h2 : f k = true := by
   cases hf : f k with
   | true => rfl
   | false => rw [hf] at h1; simp at h1
  have := hn k h2;simp; omega
 have h1 : ((keys l).map Int.toNat).Nodup := by
  rw [List.Nodup, List.pairwise_map];refine List.Pairwise.imp_of_mem ?_ h.nd;intro a b ha hb hab;have := (hsub a ha).2;have := (hsub b hb).2;omega
 have h2 : ((keys l).map Int.toNat).length <= (List.range n).length := by
  refine List.Nodup.length_le_of_subset h1 ?_;intro x hx;obtain ⟨k, hk, rfl⟩ := List.mem_map.1 hx;exact (hsub k hk).1
 simpa using h2
structure SetAt (w : World) (b : Nat) (f : Int -> Bool) : Prop where
 ex : ∃ l ck, w.heap[b]? = some (.map (ents l) ck) /\ SetIs l ck f
theorem SetAt.fr (h : SetAt w b f) (F : Fr S w w') (hn : ¬ S b) : SetAt w' b f := by
 obtain ⟨l, ck, hm, hs⟩ := h.ex;exact ⟨l, ck, F.heap hm hn, hs⟩
theorem SetAt.made (h : w.heap[b]? = some (.map #[] 0)) : SetAt w b (fun _ => false) := ⟨[], 0, h, SetIs.made⟩
theorem insert_perm {H : Type} (x : Lit × DataW H) (l : List (Lit × DataW H)) : (DataW.insert x l).Perm (x :: l) := by
 induction l with
 | nil => exact List.Perm.refl _
 | cons y r ih =>
  unfold DataW.insert;split
  ·exact List.Perm.refl _
  ·exact (ih.cons y).trans (List.Perm.swap _ _ _)
theorem foldr_perm {H : Type} (l : List (Lit × DataW H)) : (l.foldr DataW.insert []).Perm l := by
 induction l with
 | nil => exact List.Perm.refl _
 | cons x l ih => exact (insert_perm _ _).trans (ih.cons x)
def boolD {H : Type} : DataW H := .lit (.bool true)
def setD {H : Type} (l : List Ent) : DataW H := .map ((l.map fun e => (Lit.int .i64 e.k, boolD)).foldr DataW.insert [])
theorem setD_keys {H : Type} (l : List Ent) : (intKeys (setD (H := H) l)).Perm (keys l) := by
 unfold setD intKeys;refine ((foldr_perm _).map _).trans ?_;rw [List.map_map];exact List.Perm.of_eq rfl
theorem setD_size {H : Type} (l : List Ent) : Maps.size (setD (H := H) l) = l.length := by
 rw [setD, Maps.size_eq, (foldr_perm _).length_eq, List.length_map]
theorem setD_has {H : Type} (l : List Ent) (k : Int) : Maps.has (setD (H := H) l) (.int .i64 k) = decide (k ∈ keys l) := by
 rw [setD, Maps.has_eq, Bool.eq_iff_iff];rw [List.any_eq_true];constructor
 ·rintro ⟨p, hp, hs⟩;have hp' := (foldr_perm _).mem_iff.1 hp;obtain ⟨e, he, rfl⟩ := List.mem_map.1 hp';have : e.k = k := by simpa [Lit.sameKey] using hs
  simp;rw [<- this];exact List.mem_map.2 ⟨e, he, rfl⟩
 ·intro h;have h' : k ∈ keys l := by simpa using h
  obtain ⟨e, he, rfl⟩ := List.mem_map.1 h';exact ⟨_, (foldr_perm _).mem_iff.2 (List.mem_map.2 ⟨e, he, rfl⟩), by simp [Lit.sameKey]⟩
open Go.WideElems in
theorem set_owns {H : Type} {P : Program} {K E : Nat} (hK : P.underlying K = some (.int .i64)) (hE : P.underlying E = some .bool)
  (hb : w.heap[b]? = some (.map (ents l) ck)) (hs : SetIs l ck f) (hw : ∀ k, f k = true -> (Lit.int .i64 k).wf = true) (hl : l.length <= maxLen) :
  w.ownsMap P K (plainElem (H := H) P E) b l.length (setD l) := by
 have hrd : ∀ e ∈ l, rd P K (plainElem (H := H) P E) e.entry = some (.int .i64 e.k, boolD) := fun e he => by
  have h1 := look_mem hs.nd he;rw [hs.at_] at h1;have hf : f e.k = true := by
   cases hf : f e.k with
   | true => rfl
   | false => rw [hf] at h1; simp at h1
  rw [hf] at h1;simp at h1;have : e.entry = ⟨.int .i64 e.k, .bool true, e.born⟩ := by rw [Ent.entry, <- h1]
  rw [this];exact rd_mk (Maps.keyOf_int_mk hK (hw _ hf)) (plainElem_bool hE true)
 refine ⟨ents l, ck, hb, ⟨by simp [ents]; exact hl, (MapKept.stamped_iff _ _).2 ⟨?_, ?_, ?_⟩, ?_⟩, by simp [ents], ?_⟩
 ·intro x hx;simp [ents] at hx;obtain ⟨e, he, rfl⟩ := hx;exact hs.born _ (List.mem_map.2 ⟨e, he, rfl⟩)
 ·have := hs.bnd;simpa [ents, Ent.entry, List.map_map, Function.comp_def] using this
 ·have := hs.nd;rw [keys, List.Nodup, List.pairwise_map] at this;simp only [ents, List.toList_toArray, List.pairwise_map, Ent.entry];refine this.imp ?_;intro a c h h';exact h (by simpa using h')
 ·intro x hx;simp [ents] at hx;obtain ⟨e, he, rfl⟩ := hx;exact ⟨_, hrd e he⟩
 ·rw [setD];congr 2
  simp only [ents, List.toList_toArray, List.map_map];refine List.map_congr_left fun e he => ?_
  simp only [Function.comp];rw [rg_of (hrd e he)]
structure SlB (w : World) (a : Option Addr) (n c : Nat) (bs : List Int) : Prop where
 by_ : Byts w a n bs
 at_ : (a = none /\ n = 0 /\ c = 0) \/ ∃ ad, a = some ad
structure ByV (w : World) (a : Option Addr) (n c : Nat) (bs : List Int) : Prop where
 by_ : Byts w a n bs
 at_ : (a = none /\ n = 0 /\ c = 0) \/ ∃ b off cs, a = some ⟨b, off, none⟩ /\ w.heap[b]? = some (.cells cs 5)
theorem ByV.slb (h : ByV w a n c bs) : SlB w a n c bs := by
 refine ⟨h.by_, ?_⟩;rcases h.at_ with h0 | ⟨b, off, cs, h1, _⟩
 ·exact .inl h0
 ·exact .inr ⟨_, h1⟩
theorem ByV.fr (h : ByV w a n c bs) (F : Fr S w w') (hS : ∀ b c, w.heap[b]? = some (.cells c 5) -> ¬ S b) : ByV w' a n c bs := by
 refine ⟨h.by_.fr F (fun b off e hb => ?_), ?_⟩
 ·rcases h.at_ with ⟨h0, _⟩ | ⟨b', off', cs, h1, h2⟩
  ·rw [h0] at e; cases e
  ·rw [h1] at e; cases e; exact hS _ _ h2
 ·rcases h.at_ with h0 | ⟨b', off', cs, h1, h2⟩
  ·exact .inl h0
  ·exact .inr ⟨b', off', cs, h1, F.heap h2 (hS _ _ h2)⟩
theorem ByV.nil (w : World) : ByV w none 0 0 [] := ⟨⟨rfl, fun i x h => by simp at h⟩, .inl ⟨rfl, rfl, rfl⟩⟩
theorem ByV.len (h : ByV w a n c bs) : bs.length = n := h.by_.len
end Go.Sg
namespace Go.Proofs.YtgdhaaokolfdoaaGreatDoor
open Go.RowKit Go.Sg
theorem clone_v {w : World} {a : Option Addr} {n c : Nat} {bs : List Int} (h : SlB w a n c bs) (hn : n <= 65536) :
  Calls Tryz.prog 83 #[.slice a n c] w fun e w' => ∃ a' c', e = .returned (.slice a' n c') /\ ByV w' a' n c' bs /\ Fq w w' := by
 rcases h.at_ with ⟨rfl, rfl, rfl⟩ | ⟨ad, rfl⟩
 ·refine (clone_nil w).mono fun e w' ⟨he, hw⟩ => ⟨none, 0, he, ?_, by rw [hw]; exact Fr.refl _ _⟩
  have : bs = [] := List.eq_nil_of_length_eq_zero h.by_.len;rw [this]; exact ByV.nil w'
 ·exact (clone_at h.by_ hn).mono fun e w' ⟨g, c', cs, he, hg, hB, _, hF⟩ => ⟨_, _, he, ⟨hB, .inr ⟨g, 0, cs, rfl, hg⟩⟩, hF⟩
end Go.Proofs.YtgdhaaokolfdoaaGreatDoor
namespace Go.Sg.Bits
open Go.RowKit
def bit (ws : List Nat) (i : Nat) : Bool := (ws.getD (i / 64) 0).testBit (i % 64)
def wcells (ws : List Nat) : Array Value := (ws.map (fun (x : Nat) => Value.int .u64 (x : Int))).toArray
structure BRaw (w : World) (bs bw n hand : Nat) (ws : List Nat) : Prop where
 s : w.heap[bs]? = some (.cells #[.int .i64 n, .int .i64 hand, .slice (some ⟨bw, 0, none⟩) ws.length ws.length] 256)
 w_ : w.heap[bw]? = some (.cells (wcells ws) 29)
 len : ws.length = (n + 63) / 64
 room : 1 <= n /\ n <= 65536
 hand : hand < n
 wf : ∀ x ∈ ws, x < 18446744073709551616
 pad : ∀ i, n <= i -> bit ws i = false
variable {S : Nat -> Prop} {w w' : World} {bs bw hand i k n x : Nat} {ws : List Nat}
theorem BRaw.fr (h : BRaw w bs bw n hand ws) (F : Fr S w w') (h1 : ¬ S bs) (h2 : ¬ S bw) : BRaw w' bs bw n hand ws :=
 ⟨F.heap h.s h1, F.heap h.w_ h2, h.len, h.room, h.hand, h.wf, h.pad⟩
theorem BRaw.word (h : BRaw w bs bw n hand ws) {j : Nat} (hj : ws[j]? = some x) : w.cell? ⟨bw, j, none⟩ = some (.int .u64 x) := by
 rw [coh h.w_];simp [wcells, hj]
theorem BRaw.get (h : BRaw w bs bw n hand ws) (hi : i < n) : ∃ x, ws[i / 64]? = some x /\ x < 18446744073709551616 /\ bit ws i = x.testBit (i % 64) := by
 have hl := h.len;have hlt : i / 64 < ws.length := by omega
 refine ⟨ws[i / 64], gE hlt, h.wf _ (List.getElem_mem hlt), ?_⟩;simp [bit, List.getD, gE hlt]
theorem shr_nat (x k : Nat) : (x : Int) / 2 ^ k = ((x / 2 ^ k : Nat) : Int) := by simp
theorem and_one (x k : Nat) (hx : x < 18446744073709551616) : (bits BinOp.and IntKind.u64 ((x : Int) / 2 ^ k) 1 == 1) = x.testBit k := by
 have h1 : x / 2 ^ k < 18446744073709551616 := Nat.lt_of_le_of_lt (Nat.div_le_self _ _) hx;rw [shr_nat, show (1 : Int) = ((1 : Nat) : Int) from rfl, u64_and_nat _ _ h1 (by decide), nat_mask1, Nat.testBit_eq_decide_div_mod_eq];have h2 : x / 2 ^ k % 2 = 0 \/ x / 2 ^ k % 2 = 1 := by omega
 rcases h2 with h2 | h2 <;> rw [h2] <;> rfl
theorem bit_set (hk : ws[k]? = some x) (y j : Nat) : bit (ws.set k y) j = if j / 64 = k then y.testBit (j % 64) else bit ws j := by
 have hl := (gI.1 hk).1;by_cases h : j / 64 = k
 ·subst h;simp [bit, List.getD, hl]
 ·rw [if_neg h];have h' : ¬ k = j / 64 := fun e => h e.symm
  simp [bit, List.getD, List.getElem?_set, h']
theorem bit_or (hx : ws[i / 64]? = some x) (j : Nat) : bit (ws.set (i / 64) (x ||| 2 ^ (i % 64))) j = if j = i then true else bit ws j := by
 rw [bit_set hx];split
 ·rename_i h;have hb : bit ws j = x.testBit (j % 64) := by simp [bit, List.getD, h, hx]
  rw [Nat.testBit_or, Nat.testBit_two_pow, hb];by_cases he : j = i
  ·subst he; simp
  ·rw [if_neg he];have : ¬ i % 64 = j % 64 := by omega
   simp [this]
 ·rename_i h;rw [if_neg (by rintro rfl; exact h rfl)]
theorem bit_andNot (hx : ws[i / 64]? = some x) (j : Nat) : bit (ws.set (i / 64) (x &&& (18446744073709551615 - 2 ^ (i % 64)))) j = if j = i then false else bit ws j := by
 rw [bit_set hx];have hm : j % 64 < 64 := by omega
 split
 ·rename_i h;have hb : bit ws j = x.testBit (j % 64) := by simp [bit, List.getD, h, hx]
  rw [Nat.testBit_and, show 18446744073709551615 - 2 ^ (i % 64) = 2 ^ 64 - (2 ^ (i % 64) + 1) by omega, Nat.testBit_two_pow_sub_succ (Nat.pow_lt_pow_right (by decide) (by omega)), Nat.testBit_two_pow, hb];by_cases he : j = i
  ·subst he; simp
  ·rw [if_neg he];have : ¬ i % 64 = j % 64 := by omega
   simp [this, hm]
 ·rename_i h;rw [if_neg (by rintro rfl; exact h rfl)]
theorem wcells_set (ws : List Nat) (k y : Nat) : (wcells ws).setIfInBounds k (.int .u64 y) = wcells (ws.set k y) := by simp [wcells]
theorem pow_lt (i : Nat) : 2 ^ (i % 64) < 18446744073709551616 := nLL (Nat.pow_lt_pow_right (a := 2) (m := i % 64) (n := 64) (by decide) (by omega)) (by decide)
theorem wrap_pow (i : Nat) : IntKind.u64.wrap (2 ^ (i % 64)) = ((2 ^ (i % 64) : Nat) : Int) := by
 have h := pow_lt i;have e : (2 : Int) ^ (i % 64) = ((2 ^ (i % 64) : Nat) : Int) := (Int.natCast_pow 2 (i % 64)).symm;rw [IntKind.wrap_u64, e];generalize 2 ^ (i % 64) = p at *
 omega
theorem BRaw.store (h : BRaw w bs bw n hand ws) {y : Nat} (hk : ws[k]? = some x) (hy : y < 18446744073709551616) (hp : ∀ i, n <= i -> bit (ws.set k y) i = false) :
  BRaw (w.setCell ⟨bw, k, none⟩ (.int .u64 y)) bs bw n hand (ws.set k y) := by
 have hne : bw ≠ bs := heap_ne h.w_ h.s (by simp);refine ⟨?_, ?_, by simpa using h.len, h.room, h.hand, ?_, hp⟩
 ·rw [heap_setCell_ne _ _ _ _ hne, h.s]; simp
 ·rw [hsc _ _ _ _ h.w_, wcells_set]
 ·intro z hz;rcases List.mem_or_eq_of_mem_set hz with hz | rfl
  ·exact h.wf z hz
  ·exact hy
structure BitsAt (w : World) (bs bw n hand : Nat) (t : Nat -> Bool) : Prop where
 ex : ∃ ws, BRaw w bs bw n hand ws /\ ∀ i, bit ws i = t i
theorem BitsAt.fr {t : Nat -> Bool} (h : BitsAt w bs bw n hand t) (F : Fr S w w') (h1 : ¬ S bs) (h2 : ¬ S bw) : BitsAt w' bs bw n hand t := by
 obtain ⟨ws, h, ht⟩ := h;exact ⟨ws, h.fr F h1 h2, ht⟩
def upd (t : Nat -> Bool) (i : Nat) (b : Bool) : Nat -> Bool := fun j => if j = i then b else t j
end Go.Sg.Bits
namespace Go.Proofs.YtgdhaaokolfdoaaGreatDoor
section
open Go.RowKit Go.Sg Go.Sg.Bits
variable {w : World} {bs bw hand n : Nat} {ws : List Nat} {t : Nat -> Bool}
theorem in_yes (h : BRaw w bs bw n hand ws) (i : Nat) (hi : i < n) :
  Calls Tryz.prog 157 #[.pointer (some ⟨bs, 0, none⟩), .int .i64 i] w fun e w' => e = .returned (.bool true) /\ w = w' := by
 have c0 := coh h.s 0;simp at c0;clear h;go_enter Tryz.func157, Tryz.ntmps157;go_wp2
 go_ret;exact ⟨rfl, rfl⟩
theorem has_yes (h : BRaw w bs bw n hand ws) (i : Nat) (hi : i < n) :
  Calls Tryz.prog 88 #[.pointer (some ⟨bs, 0, none⟩), .int .i64 i] w fun e w' => e = .returned (.bool (bit ws i)) /\ w = w' := by
 have c2 := coh h.s 2;simp at c2;obtain ⟨x, hx, hlt, hb⟩ := h.get hi;have cw := h.word hx;have hl := h.len;have hr := h.room;have H := hid h;have HB := hid hb;clear hx hb h;go_enter Tryz.func88, Tryz.ntmps88;go_wp2_with (go_at_call 157; refine (in_yes H.out i hi).mono ?_; rintro e w' ⟨rfl, rfl⟩)
 go_ret;exact ⟨by rw [HB.out, <- and_one x _ hlt]; rfl, rfl⟩
theorem has_at (h : BitsAt w bs bw n hand t) (i : Nat) (hi : i < n) :
  Calls Tryz.prog 88 #[.pointer (some ⟨bs, 0, none⟩), .int .i64 i] w fun e w' => e = .returned (.bool (t i)) /\ w = w' := by
 obtain ⟨ws, h, ht⟩ := h;rw [<- ht];exact has_yes h i hi
theorem mark_new (h : BitsAt w bs bw n hand t) (i : Nat) (hi : i < n) (hb : t i = false) :
  Calls Tryz.prog 90 #[.pointer (some ⟨bs, 0, none⟩), .int .i64 i] w fun e w' => e = .returned (.bool true) /\ BitsAt w' bs bw n hand (upd t i true) /\ Fr (fun b => b = bw) w w' := by
 obtain ⟨ws, h, ht⟩ := h;rw [<- ht] at hb;have c2 := coh h.s 2;simp at c2;obtain ⟨x, hx, hlt, hb2⟩ := h.get hi;have cw := h.word hx;have zw : ∀ o, w.frozen? ⟨bw, o, none⟩ = false := fun o => foh h.w_ o
 have hl := h.len;have hr := h.room;have H := hid h;have HB := hid hb;have HX := hid hx;have HT := hid ht;clear hx hb h hb2 ht;go_enter Tryz.func90, Tryz.ntmps90;go_wp2_with (first | (go_at_call 157; refine (in_yes H.out i hi).mono ?_; rintro e w' ⟨rfl, rfl⟩) | (go_at_call 88; refine (has_yes H.out i hi).mono ?_; rintro e w' ⟨rfl, rfl⟩; rw [HB.out]))
 go_region
 go_wp2
 go_ret;have hy : x ||| 2 ^ (i % 64) < 18446744073709551616 := Nat.or_lt_two_pow (n := 64) hlt (pow_lt i)
 refine ⟨rfl, ⟨ws.set (i / 64) (x ||| 2 ^ (i % 64)), ?_, fun j => ?_⟩, ((Fr.refl (fun b => b = bw) _).setCell (a := ⟨bw, i / 64, none⟩) (fun _ => rfl) _).drew⟩
 ·rw [wrap_pow, u64_or_nat _ _ hlt (pow_lt i)];exact (H.out.store HX.out hy fun j hj => by rw [bit_or HX.out, if_neg (by omega)]; exact H.out.pad j hj).fr ((Fr.refl (fun _ => False) _).drew) (fun h => h) (fun h => h)
 ·rw [bit_or HX.out, upd, HT.out]
theorem clear_there (h : BitsAt w bs bw n hand t) (i : Nat) (hi : i < n) (hb : t i = true) :
  Calls Tryz.prog 107 #[.pointer (some ⟨bs, 0, none⟩), .int .i64 i] w fun e w' => e = .returned (.bool true) /\ BitsAt w' bs bw n hand (upd t i false) /\ Fr (fun b => b = bw) w w' := by
 have H0 := hid h;obtain ⟨ws, h, ht⟩ := h;have c2 := coh h.s 2;simp at c2;obtain ⟨x, hx, hlt, hb2⟩ := h.get hi;have cw := h.word hx;have zw : ∀ o, w.frozen? ⟨bw, o, none⟩ = false := fun o => foh h.w_ o
 have hl := h.len;have hr := h.room;have H := hid h;have HB := hid hb;have HX := hid hx;have HT := hid ht;clear hx hb h hb2 ht;go_enter Tryz.func107, Tryz.ntmps107;go_wp2_with (go_at_call 88; refine (has_at H0.out i hi).mono ?_; rintro e w' ⟨rfl, rfl⟩; rw [HB.out])
 go_region
 go_wp2
 go_ret;have hy : x &&& (18446744073709551615 - 2 ^ (i % 64)) < 18446744073709551616 := Nat.lt_of_le_of_lt Nat.and_le_left hlt;refine ⟨rfl, ⟨ws.set (i / 64) (x &&& (18446744073709551615 - 2 ^ (i % 64))), ?_, fun j => ?_⟩, ((Fr.refl (fun b => b = bw) _).setCell (a := ⟨bw, i / 64, none⟩) (fun _ => rfl) _).drew⟩
 ·rw [wrap_pow, u64_andNot_nat _ _ hlt (pow_lt i)];exact (H.out.store HX.out hy fun j hj => by rw [bit_andNot HX.out, if_neg (by omega)]; exact H.out.pad j hj).fr ((Fr.refl (fun _ => False) _).drew) (fun h => h) (fun h => h)
 ·rw [bit_andNot HX.out, upd, HT.out]
end
section
open Go.Proofs Go.Shelf
def Tryz.tz_ren : Go.Shelf.Ren := ⟨fun | 29 => 214 | n => n, fun | 22 => 29 | 3 => 3 | 4 => 4 | 25 => 234 | 54 => 375 | 0 => 0 | 5 => 5 | n => n, fun | 1 => 0 | n => n⟩
theorem Tryz.tz : Go.Proofs.Lays7.n29 Tryz.prog Tryz.tz_ren := {
 mixed := by kernel_rfl
 f29 := Tryz.func214.trans (congrArg some (by kernel_rfl))
 t0 := Tryz.underlying0
 a0 := Tryz.isAgg0
 z0 := Tryz.sizeOf0
 v0 := Tryz.zeroValue0
 i0 := by kernel_rfl
 t3 := Tryz.underlying3
 a3 := Tryz.isAgg3
 z3 := Tryz.sizeOf3
 v3 := Tryz.zeroValue3
 i3 := by kernel_rfl
 t4 := Tryz.underlying4
 a4 := Tryz.isAgg4
 z4 := Tryz.sizeOf4
 v4 := Tryz.zeroValue4
 i4 := by kernel_rfl
 t5 := Tryz.underlying5
 a5 := Tryz.isAgg5
 z5 := Tryz.sizeOf5
 v5 := Tryz.zeroValue5
 i5 := by kernel_rfl
 t22 := Tryz.underlying29
 a22 := Tryz.isAgg29
 z22 := Tryz.sizeOf29
 v22 := Tryz.zeroValue29
 i22 := by kernel_rfl
 t25 := Tryz.underlying234
 a25 := Tryz.isAgg234
 z25 := Tryz.sizeOf234
 v25 := Tryz.zeroValue234
 i25 := by kernel_rfl
 t54 := Tryz.underlying375
 a54 := Tryz.isAgg375
 z54 := Tryz.sizeOf375
 g1 := by kernel_rfl }
def Tryz.keysA_ren : Go.Shelf.Ren := ⟨fun | 7 => 99 | 10 => 161 | n => n, fun | 23 => 153 | 26 => 3 | 3 => 4 | 28 => 177 | 0 => 0 | 27 => 176 | 33 => 74 | 4 => 4 | n => n, fun | n => n⟩
theorem Tryz.keysA : Go.Proofs.SlLaysZI.n7 Tryz.prog Tryz.keysA_ren := {
 mixed := by kernel_rfl
 f7 := ⟨Tryz.f99.name, by decide, Tryz.func99.trans (congrArg some (by kernel_rfl))⟩
 f10 := ⟨Tryz.f161.name, by decide, Tryz.func161.trans (congrArg some (by kernel_rfl))⟩
 t0 := Tryz.underlying0
 a0 := Tryz.isAgg0
 z0 := Tryz.sizeOf0
 v0 := Tryz.zeroValue0
 t4 := Tryz.underlying4
 a4 := Tryz.isAgg4
 z4 := Tryz.sizeOf4
 v4 := Tryz.zeroValue4
 t23 := Tryz.underlying153
 a23 := Tryz.isAgg153
 z23 := Tryz.sizeOf153
 v23 := Tryz.zeroValue153
 t26 := Tryz.underlying3
 a26 := Tryz.isAgg3
 z26 := Tryz.sizeOf3
 v26 := Tryz.zeroValue3
 t27 := Tryz.underlying176
 a27 := Tryz.isAgg176
 z27 := Tryz.sizeOf176
 v27 := Tryz.zeroValue176
 t28 := Tryz.underlying177
 a28 := Tryz.isAgg177
 z28 := Tryz.sizeOf177
 v28 := Tryz.zeroValue177
 t33 := Tryz.underlying74
 a33 := Tryz.isAgg74
 z33 := Tryz.sizeOf74
 v33 := Tryz.zeroValue74 }
def Tryz.sortedA_ren : Go.Shelf.Ren := ⟨fun | 6 => 98 | 8 => 160 | 9 => 141 | 11 => 223 | 13 => 204 | 12 => 203 | 23 => 264 | 24 => 265 | 14 => 255 | 15 => 256 | 16 => 257 | 17 => 258 | 18 => 259 | 19 => 260 | 20 => 261 | 21 => 262 | 22 => 263 | 25 => 279 | 26 => 280 | 27 => 281 | 28 => 282 | 29 => 283 | 30 => 276 | 31 => 287 | n => n, fun | 26 => 3 | 28 => 177 | 24 => 52 | 0 => 0 | 3 => 3 | 37 => 234 | 48 => 373 | 50 => 29 | 4 => 4 | 40 => 367 | 39 => 366 | 45 => 157 | 5 => 5 | 9 => 9 | 51 => 384 | 55 => 388 | 57 => 392 | 58 => 393 | 33 => 74 | n => n, fun | n => n⟩
theorem Tryz.sortedA : Go.Proofs.SlLaysZI.n6 Tryz.prog Tryz.sortedA_ren := {
 mixed := by kernel_rfl
 f6 := ⟨Tryz.f98.name, by decide, Tryz.func98.trans (congrArg some (by kernel_rfl))⟩
 f8 := ⟨Tryz.f160.name, by decide, Tryz.func160.trans (congrArg some (by kernel_rfl))⟩
 f11 := ⟨Tryz.f223.name, by decide, Tryz.func223.trans (congrArg some (by kernel_rfl))⟩
 t0 := Tryz.underlying0
 a0 := Tryz.isAgg0
 z0 := Tryz.sizeOf0
 v0 := Tryz.zeroValue0
 t24 := Tryz.underlying52
 a24 := Tryz.isAgg52
 z24 := Tryz.sizeOf52
 v24 := Tryz.zeroValue52
 t26 := Tryz.underlying3
 a26 := Tryz.isAgg3
 z26 := Tryz.sizeOf3
 v26 := Tryz.zeroValue3
 t28 := Tryz.underlying177
 a28 := Tryz.isAgg177
 z28 := Tryz.sizeOf177
 v28 := Tryz.zeroValue177
 i26 := by kernel_rfl }
def Tryz.sortA_ren : Go.Shelf.Ren := ⟨fun | 5 => 141 | 8 => 204 | 7 => 203 | 19 => 264 | 20 => 265 | 10 => 255 | 11 => 256 | 12 => 257 | 13 => 258 | 14 => 259 | 15 => 260 | 16 => 261 | 17 => 262 | 18 => 263 | 30 => 279 | 31 => 280 | 32 => 281 | 33 => 282 | 34 => 283 | 35 => 276 | 40 => 287 | n => n, fun | 23 => 52 | 25 => 3 | 3 => 3 | 32 => 234 | 22 => 52 | 0 => 0 | 44 => 373 | 46 => 29 | 4 => 4 | 36 => 367 | 35 => 366 | 41 => 157 | 5 => 5 | 9 => 9 | 53 => 384 | 57 => 388 | 63 => 392 | 64 => 393 | n => n, fun | n => n⟩
theorem Tryz.sortA : Go.Proofs.SlLaysM.n5 Tryz.prog Tryz.sortA_ren := {
 mixed := by kernel_rfl
 f5 := ⟨Tryz.f141.name, by decide, Tryz.func141.trans (congrArg some (by kernel_rfl))⟩
 f7 := ⟨Tryz.f203.name, by decide, Tryz.func203.trans (congrArg some (by kernel_rfl))⟩
 f8 := Tryz.func204.trans (congrArg some (by kernel_rfl))
 f10 := ⟨Tryz.f255.name, by decide, Tryz.func255.trans (congrArg some (by kernel_rfl))⟩
 f11 := ⟨Tryz.f256.name, by decide, Tryz.func256.trans (congrArg some (by kernel_rfl))⟩
 f12 := ⟨Tryz.f257.name, by decide, Tryz.func257.trans (congrArg some (by kernel_rfl))⟩
 f13 := ⟨Tryz.f258.name, by decide, Tryz.func258.trans (congrArg some (by kernel_rfl))⟩
 f14 := ⟨Tryz.f259.name, by decide, Tryz.func259.trans (congrArg some (by kernel_rfl))⟩
 f15 := ⟨Tryz.f260.name, by decide, Tryz.func260.trans (congrArg some (by kernel_rfl))⟩
 f16 := ⟨Tryz.f261.name, by decide, Tryz.func261.trans (congrArg some (by kernel_rfl))⟩
 f17 := ⟨Tryz.f262.name, by decide, Tryz.func262.trans (congrArg some (by kernel_rfl))⟩
 f18 := ⟨Tryz.f263.name, by decide, Tryz.func263.trans (congrArg some (by kernel_rfl))⟩
 f19 := Tryz.func264.trans (congrArg some (by kernel_rfl))
 f20 := Tryz.func265.trans (congrArg some (by kernel_rfl))
 f30 := ⟨Tryz.f279.name, by decide, Tryz.func279.trans (congrArg some (by kernel_rfl))⟩
 f31 := Tryz.func280.trans (congrArg some (by kernel_rfl))
 f32 := Tryz.func281.trans (congrArg some (by kernel_rfl))
 f33 := ⟨Tryz.f282.name, by decide, Tryz.func282.trans (congrArg some (by kernel_rfl))⟩
 f34 := ⟨Tryz.f283.name, by decide, Tryz.func283.trans (congrArg some (by kernel_rfl))⟩
 f35 := ⟨Tryz.f276.name, by decide, Tryz.func276.trans (congrArg some (by kernel_rfl))⟩
 f40 := ⟨Tryz.f287.name, by decide, Tryz.func287.trans (congrArg some (by kernel_rfl))⟩
 t0 := Tryz.underlying0
 a0 := Tryz.isAgg0
 z0 := Tryz.sizeOf0
 v0 := Tryz.zeroValue0
 t3 := Tryz.underlying3
 a3 := Tryz.isAgg3
 z3 := Tryz.sizeOf3
 v3 := Tryz.zeroValue3
 t4 := Tryz.underlying4
 a4 := Tryz.isAgg4
 z4 := Tryz.sizeOf4
 v4 := Tryz.zeroValue4
 t5 := Tryz.underlying5
 a5 := Tryz.isAgg5
 z5 := Tryz.sizeOf5
 v5 := Tryz.zeroValue5
 t9 := Tryz.underlying9
 a9 := Tryz.isAgg9
 z9 := Tryz.sizeOf9
 v9 := Tryz.zeroValue9
 t22 := Tryz.underlying52
 a22 := Tryz.isAgg52
 z22 := Tryz.sizeOf52
 v22 := Tryz.zeroValue52
 t23 := Tryz.underlying52
 a23 := Tryz.isAgg52
 z23 := Tryz.sizeOf52
 v23 := Tryz.zeroValue52
 t25 := Tryz.underlying3
 a25 := Tryz.isAgg3
 z25 := Tryz.sizeOf3
 v25 := Tryz.zeroValue3
 t32 := Tryz.underlying234
 a32 := Tryz.isAgg234
 z32 := Tryz.sizeOf234
 v32 := Tryz.zeroValue234
 t35 := Tryz.underlying366
 a35 := Tryz.isAgg366
 z35 := Tryz.sizeOf366
 v35 := Tryz.zeroValue366
 t36 := Tryz.underlying367
 a36 := Tryz.isAgg367
 z36 := Tryz.sizeOf367
 v36 := Tryz.zeroValue367
 t41 := Tryz.underlying157
 a41 := Tryz.isAgg157
 z41 := Tryz.sizeOf157
 v41 := Tryz.zeroValue157
 t44 := Tryz.underlying373
 a44 := Tryz.isAgg373
 z44 := Tryz.sizeOf373
 v44 := Tryz.zeroValue373
 t46 := Tryz.underlying29
 a46 := Tryz.isAgg29
 z46 := Tryz.sizeOf29
 v46 := Tryz.zeroValue29
 t53 := Tryz.underlying384
 a53 := Tryz.isAgg384
 z53 := Tryz.sizeOf384
 v53 := Tryz.zeroValue384
 t57 := Tryz.underlying388
 a57 := Tryz.isAgg388
 z57 := Tryz.sizeOf388
 v57 := Tryz.zeroValue388
 t63 := Tryz.underlying392
 a63 := Tryz.isAgg392
 z63 := Tryz.sizeOf392
 v63 := Tryz.zeroValue392
 t64 := Tryz.underlying393
 a64 := Tryz.isAgg393
 z64 := Tryz.sizeOf393
 v64 := Tryz.zeroValue393 }
end
end Go.Proofs.YtgdhaaokolfdoaaGreatDoor
namespace Go.Sg.Bits
open Go
variable {x : Nat}
theorem ctz_spec (h0 : x ≠ 0) (hx : x < 18446744073709551616) : ∃ m, x = 2 ^ Lib.ctz 64 x * (2 * m + 1) /\ Lib.ctz 64 x < 64 := by
 have := Lib.ctzFrom_spec 64 x (by omega) hx;simpa [Lib.ctz, h0] using this
theorem odd_bit (k m i : Nat) : (2 ^ k * (2 * m + 1)).testBit i = if i < k then false else if i = k then true else m.testBit (i - k - 1) := by
 have e : 2 ^ k * (2 * m + 1) = 2 ^ k * (2 * m + 1) + 0 := rfl;rw [Nat.mul_comm, Nat.testBit_mul_two_pow];by_cases h : i < k
 ·rw [if_pos h]; simp; omega
 ·rw [if_neg h];by_cases h2 : i = k
  ·subst h2; simp [Nat.testBit_zero]
  ·rw [if_neg h2];obtain ⟨d, rfl⟩ : ∃ d, i = k + (d + 1) := ⟨i - k - 1, by omega⟩
   have e1 : k + (d + 1) - k = d + 1 := by omega
   have e2 : k + (d + 1) - k - 1 = d := by omega
   rw [e1, show d + 1 - 1 = d by omega, Nat.testBit_succ, show (2 * m + 1) / 2 = m by omega];simp
theorem ctz_bit (h0 : x ≠ 0) (hx : x < 18446744073709551616) : Lib.ctz 64 x < 64 /\ x.testBit (Lib.ctz 64 x) = true /\ ∀ i, i < Lib.ctz 64 x -> x.testBit i = false := by
 obtain ⟨m, hm, hl⟩ := ctz_spec h0 hx;refine ⟨hl, ?_, fun i hi => ?_⟩
 ·generalize Lib.ctz 64 x = k at *
  rw [hm, odd_bit]; simp
 ·generalize Lib.ctz 64 x = k at *
  rw [hm, odd_bit, if_pos hi]
theorem drop_low (h0 : x ≠ 0) (hx : x < 18446744073709551616) (i : Nat) : (x &&& (x - 1)).testBit i = if i = Lib.ctz 64 x then false else x.testBit i := by
 obtain ⟨m, hm, hl⟩ := ctz_spec h0 hx;generalize Lib.ctz 64 x = k at *
 have e1 : x - 1 = 2 ^ k * (2 * m) + (2 ^ k - 1) := by
  have : 0 < 2 ^ k := Nat.two_pow_pos k;rw [hm, Nat.mul_add]; omega
 have hlt : 2 ^ k - 1 < 2 ^ k := by have : 0 < 2 ^ k := Nat.two_pow_pos k; omega
 rw [Nat.testBit_and, e1, Nat.testBit_two_pow_mul_add _ hlt, hm, odd_bit];by_cases h : i < k
 ·simp [h]
 ·rw [if_neg h, if_neg h];by_cases h2 : i = k
  ·subst h2; simp [Nat.testBit_zero]
  ·rw [if_neg h2, if_neg h2];obtain ⟨d, rfl⟩ : ∃ d, i = k + (d + 1) := ⟨i - k - 1, by omega⟩
   rw [show k + (d + 1) - k = d + 1 by omega, show d + 1 - 1 = d by omega, Nat.testBit_succ, show 2 * m / 2 = m by omega];simp
theorem xor_max (x : Nat) (hx : x < 18446744073709551616) : bits BinOp.xor IntKind.u64 IntKind.u64.max (x : Int) = ((18446744073709551615 ^^^ x : Nat) : Int) := by
 rw [show IntKind.u64.max = ((18446744073709551615 : Nat) : Int) from rfl];exact u64_xor_nat _ _ (by decide) hx
theorem xor_max_lt (x : Nat) (hx : x < 18446744073709551616) : 18446744073709551615 ^^^ x < 18446744073709551616 := Nat.xor_lt_two_pow (n := 64) (by decide) hx
theorem xor_max_bit (x i : Nat) : (18446744073709551615 ^^^ x).testBit i = (decide (i < 64) ^^ x.testBit i) := by
 rw [Nat.testBit_xor, show 18446744073709551615 = 2 ^ 64 - 1 from rfl, Nat.testBit_two_pow_sub_one]
theorem and_pred (h0 : x ≠ 0) (hx : x < 18446744073709551616) : bits BinOp.and IntKind.u64 (x : Int) ((x : Int) - 1) = ((x &&& (x - 1) : Nat) : Int) := by
 rw [show (x : Int) - 1 = ((x - 1 : Nat) : Int) by omega, u64_and_nat _ _ hx (by omega)]
end Go.Sg.Bits
namespace Go.Proofs.YtgdhaaokolfdoaaGreatDoor
section
open Go.Proofs Go.Shelf Go.Sg
def Tab (w : World) : Prop := TabAt 0 Lib.deBruijn64tab w
theorem Tab.lt {w : World} (h : Tab w) : 0 < w.heap.size := World.block_lt_of_cell? _ _ (h 0 (by decide))
theorem Tab.fr {S : Nat -> Prop} {w w' : World} (h : Tab w) (F : Fr S w w') (hS : ¬ S 0) : Tab w' := fun j hj => (F.cell (p := ⟨0, j, none⟩) h.lt hS).trans (h j hj)
theorem tz_at (x : Nat) (hx : x < 18446744073709551616) (w : World) (hT : Tab w) :
  Calls Tryz.prog 214 #[.int .u64 x] w fun e w' => e = .returned (.int .i64 (Lib.ctz 64 x)) /\ w = w' := by
 have h := Any7.bits_TrailingZeros64 Tryz.tz x hx w (fun _ => hT);change Calls Tryz.prog 214 _ _ _ at h;exact h.mono fun _ _ ⟨h1, h2⟩ => ⟨h1, h2.symm⟩
end
section
open Go.RowKit Go.Sg Go.Sg.Bits
def allTaken (t : Nat -> Bool) (n a b : Nat) : Prop := ∀ i, a <= i -> i < b -> i < n -> t i = true
def FreeIs (t : Nat -> Bool) (n a : Nat) (r : Int) : Prop := (r = -1 /\ allTaken t n a n) \/ ∃ i : Nat, r = i /\ a <= i /\ i < n /\ t i = false /\ allTaken t n a i
theorem free_at {w : World} {bs bw n hand : Nat} {t : Nat -> Bool} (h : BitsAt w bs bw n hand t) (hT : Tab w) (a : Nat) (ha : a <= n) :
  Calls Tryz.prog 153 #[.pointer (some ⟨bs, 0, none⟩), .int .i64 a] w fun e w' => ∃ r, FreeIs t n a r /\ e = .returned (.int .i64 r) /\ w = w' := by
 obtain ⟨ws, h, ht⟩ := h;have c0 := coh h.s 0;have c2 := coh h.s 2;simp at c0 c2;have hl := h.len;have hr := h.room;have H := hid h;have HT := hid ht;have HTab := hid hT;clear h ht hT;go_enter Tryz.func153, Tryz.ntmps153;go_wp2
 go_step3
 go_wp2
 go_step3
 go_wp2
 go_loop [5] (fun v => ∃ k : Nat, a / 64 <= k /\ k <= ws.length /\ v = .int .i64 k /\ allTaken t n a (64 * k)) (fun v => ws.length - (intOf v).toNat)
 case atStart => exact ⟨a / 64, nR _, by omega, by simp, fun i h1 h2 h3 => by omega⟩
 case round =>
  obtain ⟨k, hk1, hk2, rfl, hall⟩ := hrel;by_cases hlt : k < ws.length
  ·obtain ⟨x, hx⟩ : ∃ x, ws[k]? = some x := ⟨_, gE hlt⟩
   have cw := H.out.word hx;have hxl := H.out.wf x (gM hx);have HX := hid hx;clear hx;have hbk : ∀ m, m < 64 -> t (64 * k + m) = x.testBit m := fun m hm => by
    rw [<- HT.out, bit, show (64 * k + m) / 64 = k by omega, show (64 * k + m) % 64 = m by omega];simp [List.getD, HX.out]
   have HBK := hid hbk;have HALL := hid hall;clear hbk hall;go_wp2
   rw [xor_max x hxl];go_loopg [6] 64 (fun g v wr => ∃ (lft low : Nat), v = .int .u64 lft /\ lft < 18446744073709551616 /\ low <= 64 /\ g = 64 - low /\ (∀ m, m < 64 -> lft.testBit m = (decide (low <= m) && !x.testBit m)) /\ (∀ m, m < low -> x.testBit m = true \/ 64 * k + m < a) /\ wr = w)
   case atStart => exact ⟨_, 0, rfl, xor_max_lt x hxl, by omega, rfl, fun m hm => by rw [xor_max_bit]; simp [hm], fun m hm => by omega, rfl⟩
   case round =>
    obtain ⟨lft, low, rfl, hll, hlow, hg, hb, hpre, rfl⟩ := hrel;have HBb := hid hb;have HPre := hid hpre;clear hb hpre;by_cases hz : lft = 0
    ·subst hz;go_wp2
     go_round
     case rel =>
      refine ⟨k + 1, by omega, by omega, by simp, fun i h1 h2 h3 => ?_⟩;by_cases hik : i < 64 * k
      ·exact HALL.out i h1 hik h3
      ·have hm : i = 64 * k + (i - 64 * k) := (by omega);have hm2 : i - 64 * k < 64 := (by omega);rw [hm, HBK.out _ hm2];generalize i - 64 * k = m at *
       by_cases hlm : low <= m
       ·have := HBb.out m hm2;simp [hlm] at this;exact this
       ·rcases HPre.out m (by omega) with h | h
        ·exact h
        ·omega
     case measure => simp [intOf]; omega
    ·obtain ⟨hc1, hc2, hc3⟩ := ctz_bit hz hll;have hd := and_pred hz hll;have hdl := drop_low hz hll;have htz := hid (tz_at lft hll wr HTab.out);have hne : ((lft : Int) != 0) = true := (by simp; omega);generalize Lib.ctz 64 lft = m0 at *
     have hx0 : low <= m0 /\ x.testBit m0 = false := by
      have := HBb.out m0 hc1;rw [hc2] at this;simpa using this.symm
     have hbelow : ∀ m, m < m0 -> x.testBit m = true \/ 64 * k + m < a := fun m hm => by
      by_cases hlm : low <= m
      ·have := HBb.out m (by omega);rw [hc3 m hm] at this;simp [hlm] at this;exact .inl this
      ·exact HPre.out m (by omega)
     have hall2 : allTaken t n a (64 * k + m0) := fun i h1 h2 h3 => by
      by_cases hik : i < 64 * k
      ·exact HALL.out i h1 hik h3
      ·have hm : i = 64 * k + (i - 64 * k) := (by omega);have hm2 : i - 64 * k < 64 := (by omega);rw [hm, HBK.out _ hm2];rcases hbelow (i - 64 * k) (by omega) with h | h
       ·exact h
       ·omega
     have HB2 := hi2 hc2 (aI hc3 (aI hdl (aI hx0.2 (aI hbelow hall2))));have hx1 := hx0.1;have HD := hid hd;clear hc2 hc3 hdl hx0 hbelow hall2 hd;rcases (show n <= 64 * k + m0 \/ (64 * k + m0 < n /\ a <= 64 * k + m0) \/ (64 * k + m0 < n /\ 64 * k + m0 < a) by omega) with hc | ⟨hc, hc'⟩ | ⟨hc, hc'⟩
     ·go_wp2_with (go_at_call 214; refine htz.out.mono ?_; rintro e w' ⟨rfl, rfl⟩)
      rw [Exit.noGoto_ret];go_ret;obtain ⟨hc2, hc3, hdl, hx0, hbelow, hall2⟩ := HB2.out;exact ⟨-1, .inl ⟨rfl, fun i h1 h2 h3 => hall2 i h1 (by omega) h3⟩, rfl, rfl⟩
     ·go_wp2_with (go_at_call 214; refine htz.out.mono ?_; rintro e w' ⟨rfl, rfl⟩)
      rw [Exit.noGoto_ret];go_ret;obtain ⟨hc2, hc3, hdl, hx0, hbelow, hall2⟩ := HB2.out;exact ⟨(64 * k + m0 : Nat), .inr ⟨64 * k + m0, rfl, hc', hc, by rw [HBK.out m0 hc1]; exact hx0, hall2⟩, by simp [Int.mul_comm], rfl⟩
     ·go_wp2_with (go_at_call 214; refine htz.out.mono ?_; rintro e w' ⟨rfl, rfl⟩)
      rw [HD.out];obtain ⟨hc2, hc3, hdl, hx0, hbelow, hall2⟩ := HB2.out;go_roundg (64 - (m0 + 1))
      case measure => omega
      case rel =>
       refine ⟨lft &&& (lft - 1), m0 + 1, rfl, Nat.lt_of_le_of_lt Nat.and_le_left hll, by omega, rfl, fun m hm => ?_, fun m hm => ?_, rfl⟩
       ·rw [hdl];by_cases he : m = m0
        ·rw [if_pos he]; simp; omega
        ·rw [if_neg he, HBb.out m hm];by_cases hlm : m0 + 1 <= m
         ·have : low <= m := (by omega);simp [hlm, this]
         ·have h3 := hc3 m (by omega);rw [HBb.out m hm] at h3;simp [hlm];simpa using h3
       ·rcases Nat.lt_or_ge m m0 with h | h
        ·exact hbelow m h
        ·obtain rfl : m = m0 := by omega
         exact .inr hc'
  ·obtain rfl : k = ws.length := by omega
   go_wp2
   go_ret;exact ⟨-1, .inl ⟨rfl, fun i h1 h2 h3 => hall i h1 (by omega) h3⟩, rfl, rfl⟩
end
end Go.Proofs.YtgdhaaokolfdoaaGreatDoor
namespace Go.Sg.Bits
open Go.RowKit
variable {w : World} {bs bw hand n : Nat} {t : Nat -> Bool}
theorem BitsAt.room (h : BitsAt w bs bw n hand t) : (1 <= n /\ n <= 65536) /\ hand < n := by
 obtain ⟨ws, h, _⟩ := h; exact ⟨h.room, h.hand⟩
theorem BitsAt.cells (h : BitsAt w bs bw n hand t) : ∃ m, w.cell? ⟨bs, 0, none⟩ = some (.int .i64 n) /\ w.cell? ⟨bs, 1, none⟩ = some (.int .i64 hand) /\ w.cell? ⟨bs, 2, none⟩ = some (.slice (some ⟨bw, 0, none⟩) m m) /\ ∀ o, w.frozen? ⟨bs, o, none⟩ = false := by
 obtain ⟨ws, h, _⟩ := h;obtain ⟨c0, c1, c2, z, _⟩ := cells3 h.s;exact ⟨_, c0, c1, c2, z⟩
theorem BitsAt.turn (h : BitsAt w bs bw n hand t) {k : Nat} (hk : k < n) : BitsAt (w.setCell ⟨bs, 1, none⟩ (.int .i64 k)) bs bw n k t := by
 obtain ⟨ws, h, ht⟩ := h;have hne : bs ≠ bw := heap_ne h.s h.w_ (by simp);refine ⟨ws, ⟨?_, ?_, h.len, h.room, hk, h.wf, h.pad⟩, ht⟩
 ·rw [hsc _ _ _ _ h.s]; simp
 ·rw [heap_setCell_ne _ _ _ _ hne, h.w_]
theorem BitsAt.lts (h : BitsAt w bs bw n hand t) : bs < w.heap.size /\ bw < w.heap.size /\ bs ≠ bw := by
 obtain ⟨ws, h, ht⟩ := h;exact ⟨loh h.s, loh h.w_, heap_ne h.s h.w_ (by simp)⟩
end Go.Sg.Bits
namespace Go.Proofs.YtgdhaaokolfdoaaGreatDoor
section
open Go.RowKit Go.Sg Go.Sg.Bits
def TakeIs (t : Nat -> Bool) (n hand : Nat) (i : Nat) : Prop :=
 i < n /\ t i = false /\ ((hand <= i /\ allTaken t n hand i) \/ (allTaken t n hand n /\ allTaken t n 0 i))
def TakePost (t : Nat -> Bool) (bs bw n hand : Nat) (w : World) (e : Ending) (w' : World) : Prop :=
 ∃ i, TakeIs t n hand i /\ e = .returned (.tuple #[.int .i64 i, .bool true]) /\ BitsAt w' bs bw n ((i + 1) % n) (upd t i true) /\ Fr (fun b => b = bs \/ b = bw) w w'
theorem take_some {w : World} {bs bw n hand : Nat} {t : Nat -> Bool} (h : BitsAt w bs bw n hand t) (hT : Tab w) {j : Nat} (hj : j < n) (hfree : t j = false) :
  Calls Tryz.prog 81 #[.pointer (some ⟨bs, 0, none⟩)] w (TakePost t bs bw n hand w) := by
 obtain ⟨m, c0, c1, c2, z⟩ := h.cells;obtain ⟨hr, hh⟩ := h.room;obtain ⟨l1, l2, l3⟩ := h.lts;have H := hid h;have HT := hid hT;have HJ := hid hfree;clear h hT hfree;go_enter Tryz.func81, Tryz.ntmps81;go_wp2_with fail
 refine (free_at H.out HT.out hand (by omega)).mono ?_;rintro e w' ⟨r, hf, rfl, rfl⟩;rcases hf with ⟨rfl, hall⟩ | ⟨i, rfl, hhi, hi, hti, hall⟩
 ·have HALL := hid hall;clear hall;go_wp2_with fail
  refine (free_at H.out HT.out 0 (by omega)).mono ?_;rintro e w' ⟨r, hf, rfl, rfl⟩;rcases hf with ⟨rfl, hall⟩ | ⟨i, rfl, hhi, hi, hti, hall⟩
  ·have := hall j (Nat.zero_le _) hj hj;rw [HJ.out] at this; cases this
  ·have HI := hid (show TakeIs t n hand i from ⟨hi, hti, .inr ⟨HALL.out, hall⟩⟩);have HTI := hid hti;clear hall hti;go_wp2_with fail
   refine (mark_new H.out i hi HTI.out).mono ?_;rintro e w1 ⟨rfl, hB, F1⟩;obtain ⟨m', d0, d1, d2, dz⟩ := hB.cells;have HB := hid hB;have hmod := Nat.mod_lt (i + 1) (show 0 < n by omega);have hc1 : ((i : Int) + 1) % (n : Int) = (((i + 1) % n : Nat) : Int) := by simp
   have HC := hid hc1;clear hB hc1;go_wp2
   go_ret2;exact ⟨i, HI.out, rfl, by rw [HC.out]; exact HB.out.turn hmod, (F1.mono (fun b _ h => .inr h)).setCell (fun _ => .inl rfl) _⟩
 ·have HI := hid (show TakeIs t n hand i from ⟨hi, hti, .inl ⟨hhi, hall⟩⟩);have HTI := hid hti;clear hall hti;go_wp2_with fail
  refine (mark_new H.out i hi HTI.out).mono ?_;rintro e w1 ⟨rfl, hB, F1⟩;obtain ⟨m', d0, d1, d2, dz⟩ := hB.cells;have HB := hid hB;have hmod := Nat.mod_lt (i + 1) (show 0 < n by omega);have hc1 : ((i : Int) + 1) % (n : Int) = (((i + 1) % n : Nat) : Int) := by simp
  have HC := hid hc1;clear hB hc1;go_wp2
  go_ret2;exact ⟨i, HI.out, rfl, by rw [HC.out]; exact HB.out.turn hmod, (F1.mono (fun b _ h => .inr h)).setCell (fun _ => .inl rfl) _⟩
theorem info29 : (Tryz.prog.info? 29).map (fun i => (i.zero, i.size, i.bytes)) = some (some (.int .u64 0), 1, 8) := by kernel_rfl
theorem newbits_ok (n : Nat) (h1 : 1 <= n) (h2 : n <= 65536) (w : World) :
  Calls Tryz.prog 95 #[.int .i64 n] w fun e w' => ∃ bs bw, e = .returned (.pointer (some ⟨bs, 0, none⟩)) /\ BitsAt w' bs bw n 0 (fun _ => false) /\ w.heap.size <= bs /\ w.heap.size <= bw /\ Fq w w' := by
 obtain ⟨i0, hi, hz0, hz1, hz2⟩ := info_parts info29;have hmk := fun W => run_make_len (P := Tryz.prog) 254 29 i0 _ Tryz.underlying254 hi hz0 ((n + 63) / 64) (by rw [hz2]; omega) (by omega) W
 rw [hz1] at hmk;have e : (((n + 63) / 64 : Nat) : Int) = ((n : Int) + 64 - 1) / 64 := by omega
 simp only [e] at hmk;clear hi hz0 hz1 hz2 e;go_enter Tryz.func95, Tryz.ntmps95;go_wp2
 go_ret;have hz : madeCells #[Value.int IntKind.u64 0] ((n + 63) / 64) = wcells (List.replicate ((n + 63) / 64) 0) := by
  apply Array.ext
  ·rw [size_madeCells]; simp [wcells]
  ·intro i h1 h2;simp [madeCells, wcells, Nat.mod_one]
 refine ⟨w.heap.size + 1, w.heap.size, by simp, ⟨List.replicate ((n + 63) / 64) 0, ?_, fun i => ?_⟩, by omega, nR _, ((Fr.refl _ _).alloc _).alloc _⟩
 ·obtain ⟨g1, g2, _⟩ := heap_two (w := w) (A := .cells (madeCells #[.int .u64 0] ((n + 63) / 64)) 29) (B := .cells #[.int .i64 n, .int .i64 0, .slice (some ⟨w.heap.size, 0, none⟩) ((n + 63) / 64) ((n + 63) / 64)] 256) rfl;refine ⟨?_, ?_, by simp, ⟨h1, h2⟩, by omega, fun x hx => ?_, fun i _ => ?_⟩
  ·rw [List.length_replicate]; exact g2
  ·rw [<- hz]; exact g1
  ·rw [List.eq_of_mem_replicate hx]; decide
  ·simp [bit, List.getD, List.getElem?_replicate]; split <;> simp
 ·simp [bit, List.getD, List.getElem?_replicate]; split <;> simp
end
section
open Go.RowKit Go.Sg
theorem may_yes (s : Int) (h1 : 96 <= s) (h2 : s <= 512) (w : World) : Calls Tryz.prog 159 #[.int .i64 s] w fun e w' => e = .returned (.bool true) /\ w = w' := by
 go_enter Tryz.func159, Tryz.ntmps159;go_wp2
 go_ret;exact ⟨rfl, rfl⟩
theorem room_ok (s : Int) (h1 : 96 <= s) (h2 : s <= 512) (w : World) : Calls Tryz.prog 94 #[.int .i64 s] w fun e w' => e = .returned (.int .i64 (s - 19)) /\ w = w' := by
 go_enter Tryz.func94, Tryz.ntmps94;go_wp2_with (go_at_call 159; refine (may_yes s h1 h2 _).mono ?_; rintro e w' ⟨rfl, rfl⟩)
 go_ret;exact ⟨rfl, rfl⟩
end
end Go.Proofs.YtgdhaaokolfdoaaGreatDoor
