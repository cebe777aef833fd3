/- A pack of texts: DI. Conditions: those that each text names. -/
import Derived.Test.YtgdhaaokolfdoaaGreatDoorNAL
import Derived.Test.YtgdhaaokolfdoaaGreatDoorNAE
import Derived.Shelf.RegionOpen
set_option maxHeartbeats 16000000
set_option maxRecDepth 100000
set_option linter.all false
namespace Go.Proofs.YtgdhaaokolfdoaaGreatDoor
section
open Go.RowKit Go.Sg Go.Sg.Clk Go.Shelf CP
attribute [local go_sem] Oper.semAt_some
theorem dirty_any (a : Option Addr) (w : World) :
  Calls Tryz.prog 109 #[.pointer a] w fun e w' => e = .returned (.func (.func 168) #[] #[.pointer (some ⟨w.heap.size, 0, none⟩)]) /\ w.alloc (.cells #[.pointer a] 23) = w' := by
 go_enter Tryz.func109, Tryz.ntmps109;go_wp2
 go_ret;exact ⟨rfl, rfl⟩
abbrev Dty (m : Int -> Option Pg) := { p : Int × Pg // m p.1 = some p.2 /\ p.2.dirty = true }
abbrev encD {m : Int -> Option Pg} (x : Dty m) : Array Value := #[.int .i64 x.1.1, x.1.2.val]
def Pg.clean (q : Pg) : Pg := { q with dirty := false }
def cleaned (m : Int -> Option Pg) (L : List Int) : Int -> Option Pg := fun k => if k ∈ L then (m k).map Pg.clean else m k
def dks {m : Int -> Option Pg} (pre : List (Dty m)) : List Int := pre.map (·.1.1)
def DView (B : Blk) (m : Int -> Option Pg) (n bx : Nat) (pre : List (Dty m)) (W : World) : Prop :=
 W.heap[bx]? = some (.cells #[B.ptr] 23) /\ ∃ x, StoreAt W B x /\ x.places = n /\ x.mem = cleaned m (dks pre)
def KpI (A C : World) : Prop := ∀ (g : Nat) (c : Array Value) (f : Nat × Nat), A.heap[g]? = some (.cells c 3 f) -> C.heap[g]? = some (.cells c 3 f)
def AllD (m : Int -> Option Pg) (xs : List (Dty m)) : Prop := ∀ k q, m k = some q -> q.dirty = true -> k ∈ dks xs
theorem abides_fr {β : Type} {Bn : Nat} {J : β -> World -> Prop} (hJ : AbidesFrom Bn J) {s : β} {W W' : World} (h : J s W) (F : Fq W W') : J s W' :=
 hJ s W W' none h ⟨F.os, F.tape, F.output, F.size, fun b hb _ => F.block b hb (fun h => h)⟩ (fun r e => by cases e)
variable {A C w : World} {b n : Nat} {v : Value} {ks : List Int} {k : Int}
theorem ints_kp (h : A.ownsRow b 3 1 v ks.length (ks.map (Value.int .i64))) (K : KpI A C) : C.ownsRow b 3 1 v ks.length (ks.map (Value.int .i64)) := by
 obtain ⟨hl, h0 | ⟨g, cap, cur, hv, hb, hg, r⟩⟩ := h
 ·exact ⟨hl, .inl h0⟩
 ·exact ⟨hl, .inr ⟨g, cap, cur, hv, hb, K g cur _ hg, r⟩⟩
theorem KpI.fr (F : Fq A C) : KpI A C := fun _ _ _ hg => F.heap hg (fun h => h)
variable {m : Int -> Option Pg}
theorem cleaned_dirty {L : List Int} {q : Pg} (h : cleaned m L k = some q) (hd : q.dirty = true) : m k = some q /\ k ∉ L := by
 unfold cleaned at h;split at h
 ·cases hm : m k with
  | none => rw [hm] at h; cases h
  | some p => rw [hm] at h; simp at h; subst h; cases hd
 ·rename_i hk; exact ⟨h, hk⟩
theorem own_ints_cell {a : Option Addr} {c : Nat} (h : w.ownsRow b 3 1 (.slice a n c) ks.length (ks.map (Value.int .i64))) {i : Nat} (hk : ks[i]? = some k) : n = ks.length /\ ∃ g, a = some ⟨g, 0, none⟩ /\ w.cell? ⟨g, i, none⟩ = some (.int .i64 k) := by
 have hi := (gI.1 hk).1;obtain ⟨hl, ⟨_, h1⟩ | ⟨g, cap, cur, hv, hb, hg, hc, hm, hs, ht⟩⟩ := h
 ·omega
 ·cases hv;refine ⟨rfl, g, rfl, ?_⟩;rw [coh hg];have h2 : (cur.toList.take (ks.length * 1))[i]? = some (.int .i64 k) := by rw [ht, gP, hk]; rfl
  rw [gT, if_pos (by omega)] at h2;simpa using h2
theorem own_ints_slice (h : w.ownsRow b 3 1 v ks.length (ks.map (Value.int .i64))) : ∃ a c, v = .slice a ks.length c := by
 obtain ⟨hl, ⟨h0, h1⟩ | ⟨g, cap, cur, hv, r⟩⟩ := h
 ·exact ⟨none, 0, by rw [h0, h1]⟩
 ·exact ⟨_, _, hv⟩
def DRnd {m : Int -> Option Pg} (J : List (Dty m) -> World -> Prop) (_ : Int -> Option Pg) (ks : List Int) (ka : Option Addr) (kc b k : Nat) (wr : World) : Prop :=
 ∃ pre, J pre wr /\ wr.ownsRow b 3 1 (.slice ka ks.length kc) ks.length (ks.map (Value.int .i64)) /\ (∀ j ∈ dks pre, j ∈ ks.take k) /\ pre.length <= k /\ ∀ j q, m j = some q -> q.dirty = true -> j ∈ ks.take k -> j ∈ dks pre
theorem dirtyf_told {B : Blk} {bx : Nat} {I : List (Dty m) -> World -> Prop} (hn : n <= 100000) (hI : ∀ pre W, I pre W -> DView B m n bx pre W) :
  SeqTold Fence.wide 9 Tryz.prog 168 #[.pointer (some ⟨bx, 0, none⟩)] encD I KpI (fun xs => AllD m xs /\ xs.length <= n) (fun pre => pre.length <= n) n w := fun l J Jx W hJI hW hJ _ hY h0 => by
 obtain ⟨hbx, x0, hS0, hn0, hm0⟩ := hI _ _ (hJI _ _ h0);have cx := coh hbx 0;simp at cx;have c17 := hS0.sc.c17;have HK := hid (keysmem_at hS0.mem);have H0 := hi2 hbx (aI hS0 (aI hn0 (aI hm0 h0)));clear hbx hS0 hn0 hm0 h0;refine callsIn_of_wp Tryz.func168 rfl trivial ?_ rfl;simp only [Tryz.ntmps168, zA, lC, List.length_nil, Nat.reduceAdd, Nat.reduceSub, Array.replicate_succ, Array.replicate_zero, List.push_toArray, List.append_toArray, List.nil_append, List.cons_append];gi_wp2_with (fail)
 refine (callsIn_wide.2 HK.out).mono ?_;rintro e W1 ⟨v, ks, rfl, hks, hkm, hkn, hkl, F1⟩;obtain ⟨ka, kc, rfl⟩ := own_ints_slice hks;have hJ1 := abides_fr hJ H0.out.2.2.2.2 F1;have hkl' : ks.length <= n := by rw [<- H0.out.2.2.1]; exact hkl
 have HKS := hi2 hks (aI hkm hkn);have HJ1 := hid hJ1;clear hks hkm hkn hJ1 F1 hkl cx c17 HK;gi_wp2
 gi_loopw [13] (fun i wr => ∃ k : Nat, k <= ks.length /\ i = .int .i64 k /\ DRnd J m ks ka kc W.heap.size k wr) (fun i _ => ks.length - (intOf i).toNat)
 case atStart => exact ⟨0, Nat.zero_le _, rfl, [], HJ1.out, HKS.out.1, (fun j hj => by cases hj), nR _, fun j q _ _ hj => by simp at hj⟩
 case round =>
  obtain ⟨k, hk, rfl, pre, hJp, hown, hin, hlen, hcov⟩ := hrel;obtain ⟨hbx, x, hS, hxn, hxm⟩ := hI _ _ (hJI _ _ hJp);by_cases hlt : k < ks.length
  ·obtain ⟨key, hkey⟩ : ∃ key, ks[k]? = some key := ⟨_, gE hlt⟩
   obtain ⟨-, g, rfl, hcell⟩ := own_ints_cell hown hkey;have hnew : key ∉ ks.take k := fun hm => by
    obtain ⟨j, hj⟩ := List.mem_iff_getElem?.1 hm;rw [gT] at hj;split at hj
    ·rename_i hjk;have := (List.getElem?_inj (by omega) HKS.out.2.2).1 (hj.trans hkey.symm);omega
    ·cases hj
   have hnd : key ∉ dks pre := fun h => hnew (hin key h)
   obtain ⟨q, hq⟩ : ∃ q, m key = some q := by
    have h1 := (HKS.out.2.1 key).1 (gM hkey);rw [H0.out.2.2.2.1] at h1;simpa [cleaned, dks, Option.isSome_iff_exists] using h1
   have hxq : x.mem key = some q := by rw [hxm, cleaned, if_neg hnd]; exact hq
   have htk : ks.take (k + 1) = ks.take k ++ [key] := by rw [List.take_add_one, hkey]; rfl
   have cx := coh hbx 0;simp at cx;have c17 := hS.sc.c17;have HL := hid (lookmem_at hS.mem key);rw [hxq] at HL;have HR := hi2 hJp (aI hown (aI hin (aI hcov (aI htk (aI hq hxq)))));clear hbx hS hxn hxm hJp hown hin hcov hnew hnd htk hkey hxq;obtain ⟨sta, la, ll, lc, di⟩ := q;gi_wp2_with (fail)
   refine (callsIn_wide.2 HL.out).mono ?_;rintro e w2 ⟨rfl, F2⟩;have hJ2 := abides_fr hJ HR.out.1 (F2.alloc (.cells #[.int .i64 sta, .slice la ll lc, .bool di] 162));have hK2 : KpI wr (w2.alloc (.cells #[.int .i64 sta, .slice la ll lc, .bool di] 162)) := KpI.fr (F2.alloc _);have H2 := hi2 hJ2 (ints_kp HR.out.2.1 hK2);clear F2 hJ2 hK2 cx c17 hcell HL;simp only [Option.getD_some, Option.isSome_some];cases di with
   | false =>
    gi_wp2
    go_roundw;case rel =>
     obtain ⟨hJp, hown, hin, hcov, htk, hq, hxq⟩ := HR.out;refine ⟨k + 1, by omega, by go_num, pre, H2.out.1, H2.out.2, fun j hj => ?_, by omega, fun j q hj hd hjt => ?_⟩
     ·rw [htk]; exact List.mem_append_left _ (hin j hj)
     ·rw [htk] at hjt;rcases List.mem_append.1 hjt with hjt | hjt
      ·exact hcov j q hj hd hjt
      ·simp at hjt;subst hjt;rw [hq] at hj; cases hj; cases hd
    case measure => simp [intOf]; omega
   | true =>
    obtain ⟨fn, tmps, assign, body, hy, hRR⟩ := hY _ ⟨(key, ⟨sta, la, ll, lc, true⟩), HR.out.2.2.2.2.2.1, rfl⟩ _ H2.out.1 (by omega);dsimp only [encD] at hy;gi_wp2
    refine hRR.mono ?_;rintro e W3 (⟨rfl, hJ3, hk3⟩ | ⟨rfl, hJx3⟩)
    ·have H3 := hi2 hJ3 (ints_kp H2.out.2 hk3);clear hJ3 hk3;gi_wp2
     go_roundw;case rel =>
      obtain ⟨hJp, hown, hin, hcov, htk, hq, hxq⟩ := HR.out;refine ⟨k + 1, by omega, by go_num, _, H3.out.1, H3.out.2, fun j hj => ?_, by simp; omega, fun j q hj hd hjt => ?_⟩
      ·rw [htk];simp only [dks, List.map_append, List.map_cons, List.map_nil] at hj;rcases List.mem_append.1 hj with hj | hj
       ·exact List.mem_append_left _ (hin j hj)
       ·exact List.mem_append_right _ hj
      ·rw [htk] at hjt;simp only [dks, List.map_append, List.map_cons, List.map_nil];rcases List.mem_append.1 hjt with hjt | hjt
       ·exact List.mem_append_left _ (hcov j q hj hd hjt)
       ·exact List.mem_append_right _ hjt
     case measure => simp [intOf]; omega
    ·have H3 := hid hJx3;clear hJx3;gi_wp2
     refine bodyPost_ret (results_none rfl _ _ _) rfl ?_;exact ⟨⟨_, rfl⟩, .inr ⟨_, by simp; omega, H3.out⟩⟩
  ·obtain rfl : k = ks.length := by omega
   have HR := hi2 hJp (aI hin hcov);clear hbx hS hxn hxm hJp hown hin hcov;gi_wp2
   go_end0
   refine ⟨⟨_, rfl⟩, .inl ⟨pre, ⟨fun j q hj hd => ?_, by omega⟩, HR.out.1⟩⟩;refine HR.out.2.2 j q hj hd ?_;rw [List.take_length];refine (HKS.out.2.1 j).2 ?_;rw [H0.out.2.2.2.1];simp [cleaned, dks, hj]
end
section
open Go.RowKit Go.Sg Go.Sg.Bits Go.Sg.Clk Go.Shelf CP SF
attribute [local go_sem] Oper.semAt_some
def flX (x : Sto) (L : List Int) (D : Dev) : Sto := { x with mem := cleaned x.mem L, dev := D }
structure FlI (w0 : World) (B : Blk) (x : Sto) (c : Cont) (P : Prot) (a : Bool) (N b0 bx br : Nat) (L : List Int) (k : Nat) (W : World) : Prop where
 b0 : W.heap[b0]? = some (.cells #[B.ptr] 23)
 bx : W.heap[bx]? = some (.cells #[B.ptr] 23)
 br : W.heap[br]? = some (.cells #[.int .i64 0] 24)
 ex : ∃ D, StoreAt W B (flX x L D) /\ Holds W (flX x L D) c P /\ DevOk D P a (N + k) /\ D.down = false /\ D.sectors = x.dev.sectors /\ D.size = x.dev.size
 fr : FrB B w0 W
structure FlX (w0 : World) (B : Blk) (x : Sto) (P : Prot) (a : Bool) (N br : Nat) (k : Nat) (W : World) : Prop where
 br : W.heap[br]? = some (.cells #[.int .i64 4] 24)
 ex : ∃ D, DevAt W B.base B.d B.bf B.bq D /\ DevOk D P a (N + k) /\ D.down = true /\ D.sectors = x.dev.sectors /\ D.size = x.dev.size
 fr : FrB B w0 W
 arm : a = true
theorem own_of {β : Type} {B0 : Nat} {I : β -> World -> Prop} (h0 : ∀ s W W', I s W -> Fq W W' -> I s W')
  (h1 : ∀ s W W' k, I s W -> Fr (fun b => b = k) W W' -> B0 <= k -> (∀ c t f, W.heap[k]? ≠ some (.cells c t f)) -> I s W') : OwnFrom B0 I := by
 intro s W W' row hs hg hr;cases row with
 | none => exact h0 s W W' hs ⟨hg.os, hg.tape, hg.output, hg.size, fun b hb _ => hg.block b hb (by simp)⟩
 | some k =>
  obtain ⟨hk, o, ho, hc⟩ := hr k rfl;refine h1 s W W' k hs ⟨hg.os, hg.tape, hg.output, hg.size, fun b hb hn => hg.block b hb (fun e => hn (by cases e; rfl))⟩ hk fun c t f e => ?_
  rw [ho] at e; cases e; cases hc
variable {W w w0 : World} {x : Sto} {P : Prot} {k : Int} {a : Bool} {B0 N br kn st : Nat} {L bs : List Int}
theorem Holds.frK {w' : World} {c : Cont} (h : Holds w x c P) {k : Nat} (F : Fr (fun b => b = k) w w') (hk : ∀ cs t f, w.heap[k]? ≠ some (.cells cs t f)) : Holds w' x c P :=
 ⟨h.ok, fun j q hq => by obtain ⟨st, bs, h1, h2, h3, h4⟩ := h.mem j q hq; exact ⟨st, bs, h1, h2, h3.fr F (fun b cs hb e => by rw [e] at hb; exact hk _ _ _ hb), h4⟩, h.dev⟩
variable {B : Blk}
theorem fli_own {c : Cont} {b0 bx : Nat} (hb : ∀ r, B.at_ r < B0) (hw : w0.heap.size <= B0) : OwnFrom B0 (fun pre W => FlI w0 B x c P a N b0 bx br (dks (m := x.mem) pre) pre.length W) :=
 own_of (fun pre W W' h F => by
   obtain ⟨D, hS, hH, r⟩ := h.ex;exact ⟨F.heap h.b0 (fun h => h), F.heap h.bx (fun h => h), F.heap h.br (fun h => h), ⟨D, hS.fr0 F, hH.frB (B := B) (FrB.none F), r⟩, h.fr.trans (FrB.none F)⟩)
  (fun pre W W' k h F hk hc => by
   obtain ⟨D, hS, hH, r⟩ := h.ex;have n1 : ∀ b cs t f, W.heap[b]? = some (.cells cs t f) -> ¬ b = k := fun b cs t f hb e => by rw [e] at hb; exact hc _ _ _ hb
   exact ⟨F.heap h.b0 (n1 _ _ _ _ h.b0), F.heap h.bx (n1 _ _ _ _ h.bx), F.heap h.br (n1 _ _ _ _ h.br), ⟨D, hS.frK F (fun r e => by have := hb r; omega) (fun cs t => hc cs t _), hH.frK F hc, r⟩,
    ⟨F.os.trans h.fr.os, F.tape.trans h.fr.tape, F.output.trans h.fr.output, nT h.fr.size F.size, fun b hb' hn => (F.block b (nLL hb' h.fr.size) (by omega)).trans (h.fr.block b hb' hn)⟩⟩)
theorem flx_own (hb : ∀ r, B.at_ r < B0) (hw : w0.heap.size <= B0) : OwnFrom B0 (fun (pre : List (Dty x.mem)) W => FlX w0 B x P a N br pre.length W) :=
 own_of (fun pre W W' h F => by
   obtain ⟨D, hS, r⟩ := h.ex;exact ⟨F.heap h.br (fun h => h), ⟨D, hS.fr F (fun h => h) (fun h => h) (fun h => h) (fun _ _ _ _ _ h => h), r⟩, h.fr.trans (FrB.none F), h.arm⟩)
  (fun pre W W' k h F hk hc => by
   obtain ⟨D, hS, r⟩ := h.ex;have n1 : ∀ b cs t f, W.heap[b]? = some (.cells cs t f) -> ¬ b = k := fun b cs t f hb e => by rw [e] at hb; exact hc _ _ _ hb
   exact ⟨F.heap h.br (n1 _ _ _ _ h.br), ⟨D, hS.fr F (fun e => by have := hb .d; simp only [Blk.at_] at this; omega) (fun e => by have := hb .bf; simp only [Blk.at_] at this; omega) (fun e => by have := hb .bq; simp only [Blk.at_] at this; omega) (fun g cs t _ hg e => n1 _ _ _ _ hg e), r⟩,
    ⟨F.os.trans h.fr.os, F.tape.trans h.fr.tape, F.output.trans h.fr.output, nT h.fr.size F.size, fun b hb' hn => (F.block b (nLL hb' h.fr.size) (by omega)).trans (h.fr.block b hb' hn)⟩, h.arm⟩)
variable {m : Int -> Option Pg} {q : Pg}
theorem cleaned_put (hq : m k = some q) : putF (cleaned m L) k (Pg.clean q) none = cleaned m (L ++ [k]) := by
 funext j
 simp only [putF, Option.map_none];by_cases hj : j = k
 ·subst hj;rw [if_pos rfl, cleaned, if_pos (by simp), hq]; rfl
 ·rw [if_neg hj, if_neg (by simp)];unfold cleaned;by_cases h : j ∈ L
  ·rw [if_pos h, if_pos (by simp [h])]
  ·rw [if_neg h, if_neg (by simp [h, hj])]
theorem cleaned_none : cleaned m L k = none ↔ m k = none := by
 unfold cleaned; split <;> simp
variable {D : Dev}
theorem fl_step {W' : World} {c : Cont} (hH : Holds W (flX x L D) c P) (hq : x.mem kn = some q) (hc : c kn = some (st, bs)) (hz : D.size = x.dev.size) (F : FrB B W W') :
  Holds W' (flX x (L ++ [(kn : Int)]) (D.wrote (x.first + kn) (buildM x.dev.size 2 kn st bs))) c P := by
 have hsz : (D.wrote (x.first + kn) (buildM x.dev.size 2 kn st bs)).size = x.dev.size := hz;refine ⟨hH.ok, fun k p hp => ?_, fun k s b hk hm => ?_⟩
 ·have hp' : cleaned x.mem (L ++ [(kn : Int)]) k = some p := hp;rw [<- cleaned_put hq] at hp';show ∃ st bs, _ /\ _ /\ _ /\ (_ -> P (x.first + k) = none) /\ (_ -> (D.wrote _ _).sec (x.first + k) = buildM (D.wrote _ _).size 2 k.toNat st bs)
  rw [hsz, Dev.wrote_sec];by_cases hkn : k = kn
  ·subst hkn;simp only [putF, if_true, Option.some.injEq] at hp';subst hp';have hm : ∃ q', (flX x L D).mem kn = some q' /\ q'.stamp = q.stamp /\ q'.la = q.la /\ q'.ll = q.ll /\ q'.lc = q.lc := by
    show ∃ q', cleaned x.mem L kn = some q' /\ _
    unfold cleaned;split
    ·exact ⟨Pg.clean q, by rw [hq]; rfl, rfl, rfl, rfl, rfl⟩
    ·exact ⟨_, hq, rfl, rfl, rfl, rfl⟩
   obtain ⟨q', hq', e0, e1, e2, e3⟩ := hm;obtain ⟨s0, b0, a1, a2, a3, a4, a5⟩ := hH.mem kn q' hq';rw [hc] at a1; cases a1;refine ⟨st, bs, hc, by rw [<- a2]; exact e0.symm, ?_, fun h => (by cases h), fun _ => by rw [if_pos rfl]; simp⟩;rw [e1, e2, e3] at a3;exact a3.frB F
  ·simp only [putF, if_neg hkn, Option.map_none] at hp';rw [if_neg (by simp)] at hp';obtain ⟨s0, b0, a1, a2, a3, a4, a5⟩ := hH.mem k p hp';refine ⟨s0, b0, a1, a2, a3.frB F, a4, fun h => ?_⟩;rw [if_neg (by omega)];have := a5 h;rw [show (flX x L D).dev.size = x.dev.size from hz] at this;exact this
 ·have hm' : x.mem k = none := cleaned_none.1 hm;have hkn : k ≠ kn := by rintro rfl; rw [hq] at hm'; cases hm'
  show (D.wrote _ _).sec (x.first + k) = buildM (D.wrote _ _).size 2 k.toNat s b;rw [hsz, Dev.wrote_sec, if_neg (by omega)];have := hH.dev k s b hk (cleaned_none.2 hm');rw [show (flX x L D).dev.size = x.dev.size from hz] at this;exact this
theorem fl_fin {w2 W3 w4 : World} {c : Cont} {Bx : Nat} {la : Option Addr} {ll lc : Nat} {pre : List (Dty x.mem)} {g : Option (Int × Pg)}
  (hI : FlI w B x c P a N w.heap.size (w.heap.size + 2) (w.heap.size + 1) (dks pre) pre.length W) (hS : StoreAt W B (flX x (dks pre) D)) (hH : Holds W (flX x (dks pre) D) c P) (hdo : D.act.down = false) (hds : D.sectors = x.dev.sectors) (hdz : D.size = x.dev.size)
  (hq : x.mem kn = some ⟨st, la, ll, lc, true⟩) (hc : c kn = some (st, bs)) (hbv : ByV W la ll lc bs) (hbl : bs.length <= x.room) (hD2 : DevOk (D.wrote (x.first + kn) (buildM x.dev.size 2 kn st bs)) P a (N + pre.length + 1)) (F2 : FrB B W w2)
  (hx2 : w2.heap[Bx]? = some (.cells #[.int .i64 st, .slice la ll lc, .bool true] 162)) (hBx : w.heap.size <= Bx) (hB0 : ∀ r, B.at_ r < B0) (hB0x : B0 <= Bx)
  (hW3 : w2.setCell ⟨Bx, 2, none⟩ (.bool false) = W3) (hS3 : StoreAt W3 B { flX x (dks pre) D with dev := D.wrote (x.first + kn) (buildM x.dev.size 2 kn st bs) }) (FN : Fr (fun b => b = Bx) w2 W3)
  (hb0 : W3.heap[w.heap.size]? = some (.cells #[B.ptr] 23)) (hbx : W3.heap[w.heap.size + 2]? = some (.cells #[B.ptr] 23)) (hbr : W3.heap[w.heap.size + 1]? = some (.cells #[.int .i64 0] 24))
  (hg : GoneOk (flX x (dks pre) D).mem (flX x (dks pre) D).places kn g) (hm4 : MemAt w4 B.bc B.bp B.bm (flX x (dks pre) D).places (putF (flX x (dks pre) D).mem kn ⟨st, la, ll, lc, false⟩ g)) (F4 : Fr (fun b => b = B.bc \/ b = B.bp \/ b = B.bm) W3 w4) :
  KeepsFrom B0 W w4 /\ KpI W w4 /\ FlI w B x c P a N w.heap.size (w.heap.size + 2) (w.heap.size + 1) (dks (m := x.mem) (pre ++ [⟨((kn : Int), ⟨st, la, ll, lc, true⟩), hq, rfl⟩])) (pre ++ [(⟨((kn : Int), ⟨st, la, ll, lc, true⟩), hq, rfl⟩ : Dty x.mem)]).length w4 := by
 have hgn : g = none := by
  cases g with
  | none => rfl
  | some g =>
   have h1 := hg.2.2.1;have h2 : cleaned x.mem (dks pre) kn = none := h1;rw [cleaned_none, hq] at h2; cases h2
 subst hgn;have FR : FrR B [.bc, .bp, .bm] W3 w4 := F4.mono fun b _ h => clkR h
 have n5 : ∀ b cs t f, W3.heap[b]? = some (.cells cs t f) -> t ∉ mutT -> ¬ (b = B.bc \/ b = B.bp \/ b = B.bm) := fun b cs t f hb ht h => by
  obtain ⟨r, _, rfl⟩ := clkR h;exact ht ((hS3.heaps r).2.1 cs t f hb)
 have hS4 : StoreAt w4 B (flX x (dks pre ++ [(kn : Int)]) (D.wrote (x.first + kn) (buildM x.dev.size 2 kn st bs))) := by
  have h1 := hS3.withMem FR (m := putF (cleaned x.mem (dks pre)) kn ⟨st, la, ll, lc, false⟩ none) hm4 (load_putF hS3 FR (n := kn) (p := ⟨st, la, ll, lc, false⟩) (g := none) ⟨bs, (hbv.frB F2).frL FN hx2 (by decide), hbl⟩);rw [show (⟨st, la, ll, lc, false⟩ : Pg) = Pg.clean ⟨st, la, ll, lc, true⟩ from rfl, cleaned_put hq] at h1;exact h1
 have hL : dks (m := x.mem) (pre ++ [⟨((kn : Int), ⟨st, la, ll, lc, true⟩), hq, rfl⟩]) = dks pre ++ [(kn : Int)] := by simp [dks]
 have hlen : (pre ++ [(⟨((kn : Int), ⟨st, la, ll, lc, true⟩), hq, rfl⟩ : Dty x.mem)]).length = pre.length + 1 := by simp
 have hH4 := (((fl_step hH hq hc hdz F2).frL FN hx2 (by decide))).frB (hS3.frB FR);refine ⟨?_, ?_, ?_⟩
 ·have k1 := (F2.keeps hB0).trans (((KeepsOthers.setCell w2 ⟨Bx, 2, none⟩ (.bool false)).from B0));rw [hW3] at k1;refine k1.trans ⟨F4.size, fun k o hk ho hc => F4.heap ho fun h => ?_⟩;obtain ⟨r, _, rfl⟩ := clkR h;have := hB0 r; omega
 ·intro g' c' f' hg';have h2 := F2.heap hg' (by decide);have h3 := FN.heap h2 (fun e => by rw [e, hx2] at h2; cases h2);exact F4.heap h3 (n5 _ _ _ _ h3 (by decide))
 ·rw [hL, hlen];have F03 : FrB B w W3 := by
   rw [<- hW3];exact (hI.fr.trans F2).setCell (a := ⟨Bx, 2, none⟩) (fun h => absurd h (by simp; omega)) _
  exact ⟨F4.heap hb0 (n5 _ _ _ _ hb0 (by decide)), F4.heap hbx (n5 _ _ _ _ hbx (by decide)), F4.heap hbr (n5 _ _ _ _ hbr (by decide)),
   ⟨_, hS4, hH4, hD2, hdo, hds, hdz⟩, F03.trans (hS3.frB FR)⟩
theorem flush_ret {n : Nat} {R : Ending -> World -> Prop} {tmps : Array Value} {DD : Nat} {v : Int} (q : W.heap[br]? = some (.cells #[.int .i64 v] 24))
  (hK : W.heap[DD]? = some (.deferred (some []))) (hD : br < DD) (hR : R (.returned (.int .i64 v)) (W.putObj DD (.deferred none))) (t2 : tmps.getD 2 undef = .pointer (some ⟨br, 0, none⟩)) :
  bodyPostM Fence.wide n Tryz.prog Tryz.f39 R .ret { tmps := tmps, defers := [{ target := .collected DD, args := #[] }] } W := by
 have e1 : (W.putObj DD (.deferred none)).cell? ⟨br, 0, none⟩ = some (.int .i64 v) := by
  have := coh ((hpj W DD (.deferred none) br (by omega)).trans q) 0;simpa using this
 refine ⟨by simp, .inl ⟨_, _, rfl, run_takeDeferred hK, _, ?_, hR⟩⟩;rw [Array.getD_eq_getD_getElem?] at t2;simp [results, Tryz.results39, go_sem, t2, e1]
def FlushC (B : Blk) (x : Sto) (c : Cont) (P : Prot) (a : Bool) (N : Nat) (w : World) (e : Ending) (w' : World) : Prop :=
 ∃ err, e = .returned (.int .i64 err) /\ FrB B w w' /\
  ((err = 0 /\ ∃ L D, StoreAt w' B (flX x L D) /\ Holds w' (flX x L D) c P /\ DevOk D P a (N + x.places) /\ D.down = false /\ D.sectors = x.dev.sectors /\ D.size = x.dev.size /\ ∀ k q, cleaned x.mem L k = some q -> q.dirty = false) \/
   (err = 4 /\ a = true /\ ∃ D, DevAt w' B.base B.d B.bf B.bq D /\ DevOk D P a (N + x.places) /\ D.down = true /\ D.sectors = x.dev.sectors /\ D.size = x.dev.size))
theorem flush_at {c : Cont} (h : StoreAt w B x) (hi : Is w x c P a N) (hN : N + x.places <= 90000) :
  Calls Tryz.prog 39 #[B.ptr] w (FlushC B x c P a N w) := by
 refine (callsIn_wide (n := 10)).1 ?_;obtain ⟨W1, hW1⟩ : ∃ W1, (w.alloc (.cells #[B.ptr] 23)).alloc (.cells #[.int .i64 0] 24) = W1 := ⟨_, rfl⟩
 obtain ⟨x0, x1, F1⟩ := heap_two hW1;have s1 : W1.heap.size = w.heap.size + 2 := by rw [<- hW1]; simp
 have c0 := coh x0 0;simp at c0;have HDI := hid (dirty_any (some ⟨B.s, 0, none⟩) W1);have HX := hi2 x0 (aI x1 F1);have H := hi2 h hi;have HW1 := hid hW1;have l1 := loh x0;clear hW1 x0 x1 F1 h hi;refine callsIn_of_wp_marks Tryz.func39 rfl trivial ?_ rfl;simp only [Tryz.ntmps39, zA, lC, List.length_nil, Nat.reduceAdd, Nat.reduceSub, Array.replicate_succ, Array.replicate_zero, List.push_toArray, List.append_toArray, List.nil_append, List.cons_append];gi_wp2_with (fail)
 rw [HW1.out];refine (callsIn_wide.2 HDI.out).mono ?_;rintro e w' ⟨rfl, rfl⟩;gi_wp2_with (fail)
 obtain ⟨W0, hW0⟩ : ∃ W0, W1.alloc (.cells #[B.ptr] 23) = W0 := ⟨_, rfl⟩
 have F10 : Fq W1 W0 := by rw [<- hW0]; exact (Fr.refl _ _).alloc _
 have hbx : W0.heap[w.heap.size + 2]? = some (.cells #[B.ptr] 23) := by rw [<- hW0, <- s1]; exact han _ _
 have hF0 := HX.out.2.2.trans F10 (fun _ _ h => h);have hsz : W0.heap.size = w.heap.size + 3 := by rw [<- hW0]; simp; omega
 have hm0 : cleaned x.mem [] = x.mem := by funext k; simp [cleaned]
 have hX0 : flX x [] x.dev = x := by rw [flX, hm0]
 have hI0 : FlI w B x c P a N w.heap.size (w.heap.size + 2) (w.heap.size + 1) [] 0 W0 :=
  ⟨F10.heap HX.out.1 (fun h => h), hbx, F10.heap HX.out.2.1 (fun h => h), ⟨x.dev, by rw [hX0]; exact H.out.1.fr0 hF0, by rw [hX0]; exact H.out.2.holds.frB (B := B) (FrB.none hF0), H.out.2.dev, H.out.2.down, rfl, rfl⟩, FrB.none hF0⟩
 have hbl : ∀ r, B.at_ r < W0.heap.size := fun r => by have := (H.out.1.heaps r).2.2.1; omega
 rw [hW0];refine wpIn_range_told (F := Fence.wide) rfl (by omega) (gf := 168) (lb := #[.pointer (some ⟨w.heap.size + 2, 0, none⟩)]) rfl trivial (enters_of Tryz.func168 (by kernel_rfl) rfl)
  (fun pre W => FlI w B x c P a N w.heap.size (w.heap.size + 2) (w.heap.size + 1) (dks (m := x.mem) pre) pre.length W)
  (dirtyf_told (w := W0) (B := B) (n := x.places) (by omega) (fun pre W hI => ⟨hI.bx, by obtain ⟨D, hS, _⟩ := hI.ex; exact ⟨_, hS, rfl, rfl⟩⟩))
  (fun h k g c f hg => k g c f (h g c f hg)) (fun W l o o' hl ho hc _ g c f hg => by rw [hpj _ _ _ _ (by rintro rfl; rw [hg] at ho; cases ho; cases hc)]; exact hg) (Below.refl _ _) (fun _ => rfl)
  (fun cc pre W => cc = .ret /\ FlX w B x P a N (w.heap.size + 1) pre.length W)
  (fli_own hbl (by omega)) (fun cc => own_and (own_pure _ _) (flx_own hbl (by omega))) hI0
  (fun y a' W => ∃ Bx, (W0.heap.size <= Bx /\ W.heap[Bx]? = some (.cells #[.int .i64 y.1.2.stamp, .slice y.1.2.la y.1.2.ll y.1.2.lc, .bool y.1.2.dirty] 162)) /\ a' = { tmps := #[B.ptr, .pointer (some ⟨w.heap.size, 0, none⟩), .pointer (some ⟨w.heap.size + 1, 0, none⟩), .int .i64 y.1.1, .pointer (some ⟨Bx, 0, none⟩), undef, B.ptr, .bool false, B.ptr, .func (.func 168) #[] #[.pointer (some ⟨w.heap.size + 2, 0, none⟩)], .int .i64 y.1.1, y.1.2.val, undef, undef, undef, undef, undef, undef, undef, undef, undef, undef, undef, undef, undef, undef, undef], defers := [] })
  (fun x a' => own_ex fun Bx => own_and (own_and (own_pure _ _) (own_block _ _ _ (fun _ => .inl rfl))) (own_pure _ _))
  ?assign ?body ?done ?stop
 case assign =>
  rintro l pre ⟨⟨key, ⟨sta, la, ll, lc, di⟩⟩, hq, hd⟩ W K hI hK;simp only at hq hd;subst hd;have hsW : W0.heap.size <= W.heap.size := by have := loh hI.bx; omega
  have FN : Fq W (W.alloc (.cells #[.int .i64 sta, .slice la ll lc, .bool true] 162)) := (Fr.refl _ _).alloc _;have HI := hid hI;have HK := hid hK;clear hI hK;gi_wp2
  obtain ⟨h0, h1, h2, ⟨D, hS, hH, r⟩, hF⟩ := HI.out;exact HK.out _ _ ((KeepsOthers.alloc _ _).from _) (KpI.fr FN) ⟨FN.heap h0 (fun h => h), FN.heap h1 (fun h => h), FN.heap h2 (fun h => h), ⟨D, hS.fr0 FN, hH.frB (B := B) (FrB.none FN), r⟩, hF.trans (FrB.none FN)⟩ ⟨W.heap.size, ⟨hsW, han _ _⟩, rfl⟩
 case body =>
  rintro l pre ⟨⟨key, ⟨sta, la, ll, lc, di⟩⟩, hq, hd⟩ a' W hl ⟨r, hr⟩ hI ⟨Bx, ⟨hBx, hbX⟩, rfl⟩ hlen;simp only at hq hd hbX;subst hd;obtain ⟨D, hS, hH, hD, hdn, hds, hdz⟩ := hI.ex;obtain ⟨st, bs, hc, hst, _, hP, _⟩ := H.out.2.holds.mem key _ hq;obtain ⟨g1, g2, g3, g4⟩ := H.out.2.holds.ok key st bs hc;simp only at hst hP;subst hst;obtain ⟨kn, rfl⟩ := iZ g1.1;have hbv : ByV W la ll lc bs := by
   have hmk : ∃ q', (flX x (dks pre) D).mem kn = some q' /\ q'.la = la /\ q'.ll = ll /\ q'.lc = lc := by
    show ∃ q', cleaned x.mem (dks pre) kn = some q' /\ _
    unfold cleaned;split
    ·exact ⟨_, by rw [hq]; rfl, rfl, rfl, rfl⟩
    ·exact ⟨_, hq, rfl, rfl, rfl⟩
   obtain ⟨q', hq', rfl, rfl, rfl⟩ := hmk;obtain ⟨st', bs', hc', _, hb', _⟩ := hH.mem kn q' hq';rw [hc] at hc'; cases hc';exact hb'
  have hbl' := hbv.len;have hrg := hS.rg;have HO := hid (out_ok hS hdn (nT hD.acts (by omega)) hD.armed (nT hD.many (by omega)) kn (show kn < x.pages by omega) st g2 true hbv g4 (show ll <= x.room by omega));have HI := hi2 hI (aI hS (aI hH (aI hD (aI hdn (aI hds hdz)))));have HC := hi2 hc (aI (hP trivial) (aI g4 hbv));have HX2 := hid hbX;have y0 := coh hI.b0 0;obtain ⟨z0, z1, z2, zz, zl⟩ := cells3 hbX;simp at y0;clear hI hS hH hD hdn hds hdz hc hP hbv g4 hbX hr;gi_wp2_with (fail)
  refine (CallsIn.inRound l (callsIn_wide.2 HO.out)).mono ?_;rintro e w2 ⟨D2, err, rfl, hwr, hS2, F2⟩;obtain ⟨hI, hS, hH, hD, hdn, hds, hdz⟩ := HI.out;obtain ⟨hc, hPn, g4, hbv⟩ := HC.out;have hb2 : (buildM x.dev.size 2 kn st bs).length = x.dev.size := buildM_length (by have := H.out.1.rg.2.2.2.2; omega);have hwr' : (D2, err) = (D.wrote (x.first + kn) (buildM x.dev.size 2 kn st bs), if D.act.down then 4 else 0) := by
   rw [hwr];show D.write (x.first + kn) (buildM D.size 2 (kn : Int).toNat (st : Int).toNat bs) = _;rw [hdz];exact Dev.write_ok hdn (by have := H.out.1.rg; omega) (by rw [hdz]; exact hb2)
  obtain ⟨rfl, herr⟩ := Prod.mk.inj hwr';have hD2 := hD.wrote (at_ := x.first + kn) (bs := buildM x.dev.size 2 kn st bs) (by rw [hdz]; exact hb2) hPn (buildM_byte g4);have hx2 := F2.heap HX2.out (by decide);have hb02 := F2.heap hI.b0 (by decide);have hbx2 := F2.heap hI.bx (by decide);have hbr2 := F2.heap hI.br (by decide);have HK2 := hid (F2.keeps hbl);have HE := hid herr;have H2 := hi2 hS2 (aI hD2 (aI F2 (aI hx2 (aI hb02 (aI hbx2 hbr2)))));have nr : ∀ r, B.at_ r < w.heap.size := fun r => (H.out.1.heaps r).2.2.1
  have NR := hid nr;have sW := hI.fr.size;have hBw : W0.heap.size <= Bx := hBx;clear hI hS hH hD hdn hds hdz hc hPn g4 hbv hwr hwr' hS2 hD2 F2 herr nr;obtain ⟨y1, y2, y3, yz, yl⟩ := cells3 hx2;have u0 := coh hb02 0;have u1 := coh hbr2 0;have uz := foh hbr2 0;simp at u0 u1;clear hx2 hb02 hbx2 hbr2;by_cases hdo : D.act.down = true
  ·obtain rfl : err = 4 := by have := HE.out; rw [if_pos hdo] at this; exact this
   have HDO := hid hdo;clear hdo;gi_wp2
   obtain ⟨hS2, hD2, F2, hx2, hb02, hbx2, hbr2⟩ := H2.out;obtain ⟨hI, hS, hH, hD, hdn, hds, hdz⟩ := HI.out;have FL : Fr (fun b => b = w.heap.size + 1) w2 (w2.setCell ⟨w.heap.size + 1, 0, none⟩ (.int .i64 4)) := (Fr.refl (fun b => b = w.heap.size + 1) _).setCell (a := ⟨w.heap.size + 1, 0, none⟩) (fun _ => rfl) _;refine ⟨HK2.out.trans ((KeepsOthers.setCell _ _ _).from _), rfl, ?_⟩;refine ⟨by rw [hsc _ _ _ _ hbr2]; rfl, ⟨_, hS2.dev.fr FL (by have := NR.out .d; simp only [Blk.at_] at this; omega) (by have := NR.out .bf; simp only [Blk.at_] at this; omega) (by have := NR.out .bq; simp only [Blk.at_] at this; omega) (fun g cs t ht hg e => by rw [e, hbr2] at hg; cases hg; rcases ht with h | h | h <;> cases h), by simpa [Nat.add_assoc] using hD2, HDO.out, hds, hdz⟩, ?_, ?_⟩
   ·exact (hI.fr.trans F2).setCell (a := ⟨w.heap.size + 1, 0, none⟩) (fun h => absurd h (by simp)) _
   ·cases a with
    | true => rfl
    | false => have := HDO.out; rw [Dev.calm_up hdn (hD.calm rfl)] at this; cases this
  ·obtain rfl : err = 0 := by have := HE.out; rw [if_neg hdo] at this; exact this
   have HDO := hid hdo;clear hdo;obtain ⟨W3, hW3⟩ : ∃ W3, w2.setCell ⟨Bx, 2, none⟩ (.bool false) = W3 := ⟨_, rfl⟩
   have FN : Fr (fun b => b = Bx) w2 W3 := by rw [<- hW3]; exact (Fr.refl (fun b => b = Bx) _).setCell (a := ⟨Bx, 2, none⟩) (fun _ => rfl) _
   have hx3 : W3.heap[Bx]? = some (.cells #[.int .i64 st, .slice la ll lc, .bool false] 162) := by rw [<- hW3, hsc _ _ _ _ H2.out.2.2.2.1]; rfl
   have hb03 := FN.heap H2.out.2.2.2.2.1 (by omega);have hbx3 := FN.heap H2.out.2.2.2.2.2.1 (by omega);have hbr3 := FN.heap H2.out.2.2.2.2.2.2 (by omega);have hS3 := H2.out.1.frL FN H2.out.2.2.2.1 (by decide);have HPM := hid (fun Wd (F : Fq W3 Wd) => putmem_at ((hS3.fr0 F).mem) kn ⟨st, la, ll, lc, false⟩);obtain ⟨v1, v2, v3, vz, vl⟩ := cells3 hx3;have t0 := coh hb03 0;simp at t0;have c17 := hS3.sc.c17;have l3 := hS3.sc.lt;have HW3 := hid hW3;have H3 := hi2 hS3 (aI FN (aI hx3 (aI hb03 (aI hbx3 hbr3))));have hmix : Tryz.prog.follows .mixedOrders = true := by kernel_rfl
   have FIN := hid (fun (w4 : World) (g : Option (Int × Pg)) (hg : GoneOk (flX x (dks pre) D).mem (flX x (dks pre) D).places kn g) (hm4 : MemAt w4 B.bc B.bp B.bm (flX x (dks pre) D).places (putF (flX x (dks pre) D).mem kn ⟨st, la, ll, lc, false⟩ g)) (F4 : Fr (fun b => b = B.bc \/ b = B.bp \/ b = B.bm) W3 w4) =>
    fl_fin HI.out.1 HI.out.2.1 HI.out.2.2.1 (by simpa using HDO.out) HI.out.2.2.2.2.2.1 HI.out.2.2.2.2.2.2 hq HC.out.1 HC.out.2.2.2 g3 H2.out.2.1 H2.out.2.2.1 H2.out.2.2.2.1 (by omega) hbl hBw hW3 hS3 FN hb03 hbx3 hbr3 hg hm4 F4)
   clear hS3 FN hx3 hb03 hbx3 hbr3 hW3;gi_upto_region 10 with fail
   rw [HW3.out];clear y1 y2 y3 yz yl u0 u1 uz z0 z1 z2 zz y0;gi_region_with_o ((gi_at_call 111; refine (CallsIn.inRound l (callsIn_wide.2 (HPM.out _ (by first | exact Fr.refl _ _ | exact (Fr.refl _ _).drew)))).mono ?_; rintro e w4 ⟨g, hg, rfl, hm4, F4⟩))
   all_goals exact FIN.out w4 g hg hm4 (by first | with_reducible exact F4 | exact (Fr.refl _ _).drew.trans F4 (fun _ _ h => h))
 case done =>
  rintro DD xs W hDD ⟨hxs, hxl⟩ hI hK;have u1 := coh hI.br 0;have uz := foh hI.br 0;simp at u1;have HI := hi2 hI hK;clear hI hK;gi_wp2
  obtain ⟨hI, hK⟩ := HI.out;obtain ⟨D, hS, hH, hD, hdn, hds, hdz⟩ := hI.ex;obtain ⟨W3, hW3⟩ : ∃ W3, W.setCell ⟨w.heap.size + 1, 0, none⟩ (.int .i64 0) = W3 := ⟨_, rfl⟩
  have FL : Fr (fun b => b = w.heap.size + 1) W W3 := by rw [<- hW3]; exact (Fr.refl (fun b => b = w.heap.size + 1) _).setCell (a := ⟨w.heap.size + 1, 0, none⟩) (fun _ => rfl) _
  have hr3 : W3.heap[w.heap.size + 1]? = some (.cells #[.int .i64 0] 24) := by rw [<- hW3, hsc _ _ _ _ hI.br]; rfl
  have hK3 := FL.heap hK (by omega);have F03 : FrB B w W3 := by rw [<- hW3]; exact hI.fr.setCell (a := ⟨w.heap.size + 1, 0, none⟩) (fun h => absurd h (by simp)) _
  have hS3 := hS.frL FL hI.br (by decide);have hH3 := hH.frL FL hI.br (by decide);have FP : Fr (fun b => b = DD) W3 (W3.putObj DD (.deferred none)) := (Fr.refl (fun b => b = DD) _).putObj (fun _ => rfl) _;have nc : ∀ c t f, W3.heap[DD]? ≠ some (.cells c t f) := fun c t f e => by rw [hK3] at e; cases e
  rw [hW3];refine flush_ret hr3 hK3 (by omega) ⟨0, rfl, F03.putObj (fun h => absurd h (by omega)) _, .inl ⟨rfl, dks xs, D, hS3.frK FP (fun r e => by have := hbl r; omega) (fun cs t => nc cs t _), hH3.frK FP nc, hD.mono (by omega), hdn, hds, hdz, fun k q hk => ?_⟩⟩ rfl;cases hq : q.dirty with
  | false => rfl
  | true =>
   obtain ⟨h1, h2⟩ := cleaned_dirty hk hq;exact absurd (hxs k q h1 hq) h2
 case stop =>
  rintro DD cc pre W hDD hSp ⟨rfl, hX⟩ hK;have HX2 := hi2 hX hK;clear hX hK;gi_wp2
  obtain ⟨hX, hK⟩ := HX2.out;obtain ⟨D, hD, hok, hdn, hds, hdz⟩ := hX.ex;have FP : Fr (fun b => b = DD) W (W.putObj DD (.deferred none)) := (Fr.refl (fun b => b = DD) _).putObj (fun _ => rfl) _;have nc : ∀ g cs t f, W.heap[g]? = some (.cells cs t f) -> ¬ g = DD := fun g cs t f e e' => by rw [e', hK] at e; cases e
  refine flush_ret hX.br hK (by omega) ⟨4, rfl, hX.fr.putObj (fun h => absurd h (by omega)) _, .inr ⟨rfl, hX.arm, D, hD.fr FP (by have := hbl .d; simp only [Blk.at_] at this; omega) (by have := hbl .bf; simp only [Blk.at_] at this; omega) (by have := hbl .bq; simp only [Blk.at_] at this; omega) (fun g cs t _ hg => nc g cs t _ hg), hok.mono (by omega), hdn, hds, hdz⟩⟩ rfl
structure StoreL (l : Nat) (w : World) (B : Blk) (y : Cs) (P : Prot) (a : Bool) (N : Nat) : Prop where
 ex : ∃ x c, StoreAt w B x /\ y = x.cs c /\ Is w x c P a N /\ (1 <= l -> ∀ k q, x.mem k = some q -> q.dirty = false) /\ (2 <= l -> x.dev.loose = [])
 tab : Tab w
 base : 0 < B.base
theorem StoreL.c {l : Nat} {w : World} {B : Blk} {y : Cs} {P : Prot} {a : Bool} {N : Nat} (h : StoreL l w B y P a N) : StoreC w B y P a N := by
 obtain ⟨x, c, h1, h2, h3, _⟩ := h.ex;exact ⟨⟨x, c, h1, h2, h3⟩, h.tab, h.base⟩
def FlushY (B : Blk) (y : Cs) (P : Prot) (a : Bool) (N : Nat) (w : World) (e : Ending) (w' : World) : Prop :=
 ∃ err, e = .returned (.int .i64 err) /\ FrB B w w' /\ ((err = 0 /\ StoreL 1 w' B y P a (N + y.places)) \/ (err = 4 /\ a = true /\ DownC w' B y P (N + y.places)))
theorem flush_c {y : Cs} (h : StoreC w B y P a N) (hN : N + y.places <= 90000) : Calls Tryz.prog 39 #[B.ptr] w (FlushY B y P a N w) := by
 obtain ⟨⟨x, c, hS, rfl, hi⟩, hT, hb⟩ := h;refine (flush_at hS hi hN).mono ?_;rintro e w' ⟨err, he, F, ⟨rfl, L, D, hS', hH', hD', hdn, hds, hdz, hcl⟩ | ⟨rfl, ha, D, hA, hD', hdn, hds, hdz⟩⟩
 ·refine ⟨0, he, F, .inl ⟨rfl, ⟨⟨flX x L D, c, hS', ?_, ⟨hdn, hD', hH', hi.ptk, hi.apart, hN⟩, fun _ => hcl, fun h => absurd h (by omega)⟩, hT.fr F (fun h => by omega), hb⟩⟩⟩;simp [Sto.cs, flX, hds, hdz]
 ·subst ha;exact ⟨4, he, F, .inr ⟨rfl, rfl, ⟨D, hA, hD', hdn, hds, hdz⟩⟩⟩
end
end Go.Proofs.YtgdhaaokolfdoaaGreatDoor
