/- A pack of texts: HA, SYN, SYC, APX. Conditions: those that each text names. -/
import Derived.Test.YtgdhaaokolfdoaaGreatDoorNAM
import Derived.Test.YtgdhaaokolfdoaaGreatDoorNAN
import Derived.Test.YtgdhaaokolfdoaaGreatDoorNAQ
import Derived.Deep.RegionLaw
set_option maxHeartbeats 16000000
set_option maxRecDepth 100000
set_option linter.all false
namespace Go.Sg
open Go.RowKit
def updF (f : Int -> Option (List Int)) (k : Int) (bs : List Int) : Int -> Option (List Int) := fun j => if j = k then some bs else f j
def fastAll (f : Int -> Option (List Int)) (l : List (Int × List Int)) : Int -> Option (List Int) := l.foldl (fun f y => updF f y.1 y.2) f
theorem fastAll_snoc (f : Int -> Option (List Int)) (l : List (Int × List Int)) (y : Int × List Int) : fastAll f (l ++ [y]) = updF (fastAll f l) y.1 y.2 := by
 simp [fastAll]
theorem fastAll_get (f : Int -> Option (List Int)) (k : Int) (l : List (Int × List Int)) : fastAll f l.reverse k = ((l.find? (fun y => decide (y.1 = k))).map (·.2)).or (f k) := by
 induction l with
 | nil => rfl
 | cons y l ih =>
  rw [List.reverse_cons, fastAll_snoc, List.find?_cons];by_cases h : y.1 = k
  ·simp [updF, h]
  ·have h' : ¬ k = y.1 := fun e => h e.symm
   simp only [updF, if_neg h', decide_eq_false h];exact ih
def Dev.synced (D : Dev) : Dev := { D.act with fast := fastAll D.fast D.loose, loose := [] }
theorem Dev.synced_fast (D : Dev) (k : Int) : D.synced.fast k = ((D.loose.reverse.find? (fun y => decide (y.1 = k))).map (·.2)).or (D.fast k) := by
 have := fastAll_get D.fast k D.loose.reverse;rw [List.reverse_reverse] at this;exact this
theorem Dev.synced_sec (D : Dev) (k : Int) : D.synced.sec k = D.sec k := by
 have h1 : D.synced.sec k = (D.synced.fast k).getD (List.replicate D.size 0) := sec_miss (D := D.synced) (fun z hz => by cases hz);rw [h1, Dev.synced_fast, Dev.sec];cases D.loose.reverse.find? (fun y => decide (y.1 = k)) <;> rfl
theorem fast_calm {D : Dev} {k : Int} (h : ∀ y ∈ D.loose, y.1 ≠ k) : D.synced.fast k = D.fast k := by
 rw [Dev.synced_fast];rw [List.find?_eq_none.2 (fun y hy => by have := h y (List.mem_reverse.1 hy); simpa using this)];rfl
theorem DevOk.synced {D : Dev} {P : Int -> Option (List Int)} {a : Bool} {N : Nat} (h : DevOk D P a N) : DevOk D.synced P a (N + 1) := by
 refine ⟨Nat.succ_le_succ h.acts, by simp [Dev.synced], fun y hy => (by cases hy), fun k bs hk => ⟨?_, fun y hy => by cases hy⟩, ?_, fun ha => ?_, ⟨fun y hy => (by cases hy), fun k bs hk => ?_⟩⟩
 ·rw [fast_calm (h.prot k bs hk).2]; exact (h.prot k bs hk).1
 ·show D.armed - 1 <= _;have := h.armed; omega
 ·show D.armed - 1 = 0;rw [h.calm ha]
 ·rw [Dev.synced_fast] at hk;cases hf : D.loose.reverse.find? (fun y => decide (y.1 = k)) with
  | none => rw [hf] at hk; exact h.byt.2 k bs hk
  | some y =>
   rw [hf] at hk;cases hk;exact h.byt.1 y (List.mem_reverse.1 (List.mem_of_find?_eq_some hf))
structure CrashOf (D D' : Dev) : Prop where
 sectors : D'.sectors = D.sectors
 size : D'.size = D.size
 acts : D'.acts = D.acts
 loose : D'.loose = []
 armed : D'.armed = 0
 down : D'.down = false
 fast : ∀ k, (∀ y ∈ D.loose, y.1 ≠ k) -> D'.fast k = D.fast k
 byt : ((∀ y ∈ D.loose, ∀ x ∈ y.2, 0 <= x /\ x < 256) /\ ∀ k bs, D.fast k = some bs -> ∀ x ∈ bs, 0 <= x /\ x < 256) -> ∀ k bs, D'.fast k = some bs -> ∀ x ∈ bs, 0 <= x /\ x < 256
end Go.Sg
namespace Go.Proofs.YtgdhaaokolfdoaaGreatDoor
section
open Go.RowKit Go.Sg Go.Sg.Bits Go.Sg.Clk CP SF
end
section
open Go.RowKit Go.Sg
def SyncF (bf : Nat) (D : Dev) (w1 : World) (k : Nat) (wr : World) : Prop :=
 (∃ l ck, wr.heap[bf]? = some (.map (ents l) ck) /\ (keys l).Nodup /\ ∀ j, FastIs wr D.size (Sg.look l j) (fastAll D.fast (D.loose.take k) j)) /\ Fr (fun b => b = bf) w1 wr
variable {w w1 wr : World} {base bf bq d : Nat}
theorem _root_.Go.Sg.FastIs.fr {S : Nat -> Prop} {w' : World} {size : Nat} {v : Option Value} {bs : Option (List Int)} (h : FastIs w size v bs) (F : Fr S w w') (h5 : ∀ g c, w.heap[g]? = some (.cells c 5) -> ¬ S g) : FastIs w' size v bs := by
 cases v with
 | none => cases bs with
  | none => trivial
  | some b => exact h.elim
 | some v => cases bs with
  | none => exact h.elim
  | some b =>
   obtain ⟨g, off, cap, e, hb, hc⟩ := h;exact ⟨g, off, cap, e, hb.fr F h5, hc⟩
variable {D : Dev}
theorem sync_step {w2 : World} {k : Nat} {l : List Ent} {ck : Nat} (hl : wr.heap[bf]? = some (.map (ents l) ck)) (hn : (keys l).Nodup) (hf : ∀ j, FastIs wr D.size (Sg.look l j) (fastAll D.fast (D.loose.take k) j)) (F1 : Fr (fun b => b = bf) w1 wr)
  {at_ : Int} {bs : List Int} (hk : D.loose[k]? = some (at_, bs)) {ca : Option Addr} {cc : Nat} (hb : ByV w2 ca D.size cc bs) (hcc : D.size <= cc) (hz : 0 < D.size) (F : Fq wr w2) :
  SyncF bf D w1 (k + 1) (w2.putObj bf (.map (ents (Sg.put l at_ (.slice ca D.size cc) ck)) (bump l at_ ck))) := by
 have hl2 := F.heap hl (fun h => h);refine ⟨⟨_, _, heap_putObj_same _ _ _ (loh hl2), nodup_put hn _ _ _, fun j => ?_⟩, ?_⟩
 ·have F2 : Fr (fun b => b = bf) w2 (w2.putObj bf (.map (ents (Sg.put l at_ (.slice ca D.size cc) ck)) (bump l at_ ck))) := (Fr.refl (fun b => b = bf) _).putObj (fun _ => rfl) _;have h5 : ∀ g c, w2.heap[g]? = some (.cells c 5) -> ¬ g = bf := fun g c hg e => by rw [e, hl2] at hg; cases hg
  have et : D.loose.take (k + 1) = D.loose.take k ++ [(at_, bs)] := by rw [List.take_add_one, hk]; rfl
  rw [look_put, et, fastAll_snoc, updF];by_cases hj : at_ = j
  ·subst hj;rw [if_pos rfl, if_pos rfl];have hb' := hb.fr F2 h5;rcases hb.at_ with ⟨_, h0, _⟩ | ⟨b, off, cs, rfl, _⟩
   ·omega
   ·exact ⟨b, off, cc, rfl, hb', hcc⟩
  ·rw [if_neg hj, if_neg (fun e => hj e.symm)];exact ((hf j).fr F (fun _ _ _ h => h)).fr F2 h5
 ·exact (F1.trans F (fun _ _ h => h.elim)).putObj (fun _ => rfl) _
theorem wr_at {a : Option Addr} {c : Nat} {ws : List Wr} (h : w.ownsRow base 196 2 (.slice a ws.length c) ws.length (ws.flatMap Wr.cells)) {j : Nat} {x : Wr} (hx : ws[j]? = some x) :
  ∃ g, a = some ⟨g, 0, none⟩ /\ g < w.heap.size /\ w.cell? ⟨g, j * 2, none⟩ = some (.int .i64 x.at_) /\ w.cell? ⟨g, j * 2 + 1, none⟩ = some (.slice x.la x.ll x.lc) := by
 obtain ⟨k0, k1⟩ := wr_cells ws hx;rw [Nat.mul_comm] at k0 k1;obtain ⟨g, e, hg, h1⟩ := own_cell h k0;obtain ⟨g', e', _, h2⟩ := own_cell h k1;rw [e] at e'; cases e';exact ⟨g, e, hg, h1, h2⟩
def SyncP (base d bf bq : Nat) (D : Dev) (w : World) (e : Ending) (w' : World) : Prop :=
 (D.act.down = true /\ e = .returned (.int .i64 4) /\ DevAt w' base d bf bq D.act /\ Fr (fun b => b = d) w w') \/
 (D.act.down = false /\ e = .returned (.int .i64 0) /\ DevAt w' base d bf bq D.synced /\ Fr (fun b => b = d \/ b = bf) w w')
theorem sync_fin (h : DevAt w base d bf bq D) {lv : Value} (hd : w.heap[d]? = some (.cells (devC D bf bq lv) 151)) (hl : LooseAt w base lv D.loose) (hd1 : w1.heap[d]? = some (.cells (devC D.act bf bq lv) 151)) (F1 : Fr (fun b => b = d) w w1) (hS : SyncF bf D w1 D.loose.length wr) :
  DevAt (wr.setCell ⟨d, 3, none⟩ (.slice none 0 0)) base d bf bq D.synced /\ Fr (fun b => b = d \/ b = bf) w (wr.setCell ⟨d, 3, none⟩ (.slice none 0 0)) := by
 have h1 := dev_act h hd hl hd1 F1;obtain ⟨⟨l, ck, hf, hfn, hfs⟩, F2⟩ := hS;obtain ⟨l0, ck0, hf0, _⟩ := h1.fast;have ndf : ¬ d = bf := fun e => by rw [<- e, hd1] at hf0; cases hf0
 have hdr := F2.heap hd1 ndf;have F3 : Fr (fun b => b = d) wr (wr.setCell ⟨d, 3, none⟩ (.slice none 0 0)) := (Fr.refl (fun b => b = d) _).setCell (a := ⟨d, 3, none⟩) (fun _ => rfl) _;have F13 : Fr (fun b => b = d \/ b = bf) w1 (wr.setCell ⟨d, 3, none⟩ (.slice none 0 0)) := (F2.mono (fun _ _ h => .inr h)).trans F3 (fun _ _ h => .inl h);have n1 : ∀ g c t, t ≠ 151 -> w1.heap[g]? = some (.cells c t) -> ¬ (g = d \/ g = bf) := fun g c t ht hg e => by
  rcases e with e | e
  ·rw [e, hd1] at hg; cases hg; exact ht rfl
  ·rw [e, hf0] at hg; cases hg
 obtain ⟨l', ck', hq, hqn, hqs, hqd⟩ := h1.past;refine ⟨⟨⟨.slice none 0 0, ?_, [], World.ownsRow_nil _ _ _ _, rfl, fun i x y hx _ => by simp at hx⟩, ⟨l, ck, ?_, hfn, fun j => ?_⟩, ⟨l', ck', ?_, hqn, fun e he => ?_, hqd⟩, h1.ge, h1.ne, h1.rg⟩, (F1.mono (fun _ _ h => .inl h)).trans F13 (fun _ _ h => h)⟩
 ·rw [hsc _ _ _ _ hdr]; rfl
 ·exact F3.heap hf (fun e => ndf e.symm)
 ·have := hfs j;rw [List.take_length] at this;exact this.fr F3 (fun g c hg e => by rw [e, hdr] at hg; cases hg)
 ·exact F13.heap hq (fun e => by
   rcases e with e | e
   ·rw [e, hd1] at hq; cases hq
   ·exact h1.ne e.symm)
 ·exact PastV.fr (hqs e he) F13 (fun g c hg => n1 g c 22 (by decide) hg) (fun g c hg => n1 g c 5 (by decide) hg)
theorem sync_ok (h : DevAt w base d bf bq D) (hdown : D.down = false) (hacts : D.acts <= 1000000) (harm : D.armed <= 9223372036854775807) (hmany : D.loose.length <= 100000) (hlen : ∀ y ∈ D.loose, y.2.length = D.size) :
  Calls Tryz.prog 41 #[.pointer (some ⟨d, 0, none⟩)] w (SyncP base d bf bq D w) := by
 obtain ⟨lv, hd, hl⟩ := h.dc;have hz := h.rg.2;have c7 := coh hd 7;simp [hdown] at c7;have HACT := hid (act_at (lv := lv) hd hacts harm);have H := hi2 h (aI hd hl);have hlv : ∃ a c, lv = .slice a D.loose.length c := by
  obtain ⟨ws, hown, hwl, hws⟩ := hl;rw [<- hwl];obtain ⟨_, ⟨h1, h2⟩ | ⟨g, cap, cur, h1, _⟩⟩ := hown
  ·rw [h2]; exact ⟨_, _, h1⟩
  ·exact ⟨_, _, h1⟩
 obtain ⟨va, vc, rfl⟩ := hlv;obtain ⟨n, hn⟩ : ∃ n, D.loose.length = n := ⟨_, rfl⟩
 have hn9 : n <= 100000 := by omega
 have HN := hid hn;have HL := hid hlen;have ld := loh hd;clear h hd hl hlen hn hmany;cases hdn : D.act.down with
 | true =>
  have HDN := hid hdn;rw [hdn] at HACT;clear hdn;go_enter Tryz.func41, Tryz.ntmps41;go_wp2_with fail
  refine HACT.out.mono ?_;rintro e w1 ⟨rfl, hd1, F1⟩;have H1 := hi2 hd1 F1;clear hd1 F1;go_wp2_with fail
  go_ret;exact .inl ⟨HDN.out, rfl, dev_act H.out.1 H.out.2.1 H.out.2.2 H1.out.1 H1.out.2, H1.out.2⟩
 | false =>
  have HDN := hid hdn;rw [hdn] at HACT;clear hdn;go_enter Tryz.func41, Tryz.ntmps41;go_wp2_with fail
  refine HACT.out.mono ?_;rintro e w1 ⟨rfl, hd1, F1⟩;have H1 := hi2 hd1 F1;have c3 := coh hd1 3;simp at c3;rw [HN.out] at c3;have ld1 := loh hd1;obtain ⟨ws, hown, hwl, hws⟩ := H.out.2.2;have nd : ∀ g c t, t ≠ 151 -> w.heap[g]? = some (.cells c t) -> ¬ g = d := fun g c t ht hg e => by rw [e, H.out.2.1] at hg; cases hg; exact ht rfl
  obtain ⟨l0, ck0, hf0, hfn0, hfs0⟩ := H.out.1.fast;have hnf : ¬ bf = d := fun e => by rw [e, H.out.2.1] at hf0; cases hf0
  have hS0 : SyncF bf D w1 0 w1 := ⟨⟨l0, ck0, F1.heap hf0 hnf, hfn0, fun j => (hfs0 j).fr F1 (fun g c hg => nd g c _ (by decide) hg)⟩, Fr.refl _ _⟩;have HOW := hi2 (oRf hown F1 (fun g c hg => nd g c _ (by decide) hg)) (aI hwl (fun i x y hx hy => (⟨(hws i x y hx hy).1, (hws i x y hx hy).2.1.fr F1 (fun g c hg => nd g c _ (by decide) hg), (hws i x y hx hy).2.2⟩ : x.at_ = y.1 /\ (ByV w1 x.la x.ll x.lc y.2 /\ x.ll <= x.lc))));have HF0 := hid (F1.heap hf0 hnf);have HS0 := hid hS0;clear hd1 F1 hown hwl hws hf0 hfn0 hfs0 hS0 nd c7;go_wp2_with fail
  go_loopw [22] (fun i wr => ∃ k : Nat, k <= n /\ i = .int .i64 k /\ SyncF bf D w1 k wr) (fun i _ => n - (intOf i).toNat)
  case atStart => exact ⟨0, Nat.zero_le _, rfl, HS0.out⟩
  case round =>
   obtain ⟨k, hk, rfl, hS⟩ := hrel;have nc : ∀ g c t, w1.heap[g]? = some (.cells c t) -> ¬ g = bf := fun g c t hg e => by rw [e, HF0.out] at hg; cases hg
   by_cases hlt : k < n
   ·have hdk : decide ((k : Int) < (n : Int)) = true := (by simp; omega);have hki : (k : Int) < (n : Int) := (by omega);obtain ⟨⟨l, ck, hl, hfn, hfs⟩, FS⟩ := hS;obtain ⟨x, hx⟩ : ∃ x, ws[k]? = some x := ⟨_, gE (by rw [HOW.out.2.1, HN.out]; exact hlt)⟩
    obtain ⟨⟨ya, yb⟩, hy⟩ : ∃ y, D.loose[k]? = some y := ⟨_, gE (by rw [HN.out]; exact hlt)⟩
    obtain ⟨hxa, hxb, hxc⟩ := HOW.out.2.2 k x (ya, yb) hx hy;have hrow : wr.ownsRow base 196 2 (.slice va ws.length vc) ws.length (ws.flatMap Wr.cells) := by
     have := oRf HOW.out.1 FS (fun g c hg => nc g c _ hg);rw [HOW.out.2.1]; rw [HOW.out.2.1] at this; exact this
    obtain ⟨g, rfl, hg, u0, u1⟩ := wr_at hrow hx;have hyl : yb.length = D.size := HL.out _ (gM hy);have hxl : x.ll = D.size := (by rw [<- hxb.len]; exact hyl);simp only at hxa;rw [hxa] at u0;rw [hxl] at u1 hxb hxc;obtain ⟨W, hW⟩ : ∃ W, wr.alloc (.cells #[.int .i64 ya, .slice x.la D.size x.lc] 196) = W := ⟨_, rfl⟩
    have bW : W.heap[wr.heap.size]? = some (.cells #[.int .i64 ya, .slice x.la D.size x.lc] 196) := (by rw [<- hW]; exact han _ _);have FW : Fq wr W := (by rw [<- hW]; exact (Fr.refl _ _).alloc _);have hdW : W.heap[d]? = some (.cells (devC D.act bf bq (.slice (some ⟨g, 0, none⟩) D.loose.length vc)) 151) := FW.heap (FS.heap H1.out.1 (nc _ _ _ H1.out.1)) (fun h => h);have hlW := FW.heap hl (fun h => h);have HC := hid (fun V (F : Fq W V) => show (V.cell? ⟨wr.heap.size, 0, none⟩ = some (.int .i64 ya) /\ V.cell? ⟨wr.heap.size, 1, none⟩ = some (.slice x.la D.size x.lc)) /\ V.cell? ⟨d, 2, none⟩ = some (.map (some bf)) /\ (V.heap[bf]? = some (.map (ents l) ck) /\ wr.heap.size < V.heap.size /\ d < V.heap.size) by
     obtain ⟨t0, t1, tz, tl⟩ := cells2 (F.heap bW (fun h => h));have hdV := F.heap hdW (fun h => h);exact ⟨⟨t0, t1⟩, by simpa using coh hdV 2, F.heap hlW (fun h => h), tl, loh hdV⟩)
    have hxb' : ByV W x.la D.size x.lc yb := (hxb.fr FS (fun g c hg => nc g c _ hg)).fr FW (fun _ _ _ h => h);have HCL := hid (fun V (F : Fq W V) => clone_vc (hxb'.fr F (fun _ _ _ h => h)).slb (show D.size <= 65536 by omega));have HUP := hid (fun (V : World) (hV : V.heap[bf]? = some (.map (ents l) ck)) (v : Value) => run_mapUpdate (P := Tryz.prog) (T := 147) Tryz.underlying147 Tryz.underlying3 hV ya v);have HSy := hi2 hl (aI hfn (aI hfs (aI FS (aI hy FW))));have HW := hid hW;clear hl hfn hfs FS hx hy hxa hxb hxc hrow hyl hxl hW bW FW hdW hlW hxb' nc;go_upto_region 8 with fail
    rw [HW.out];obtain ⟨⟨t0, t1⟩, t2, t3, tl1, tl2⟩ := HC.out _ (Fr.refl _ _);have hup := HUP.out _ t3;have FG : Fq W W.drew := (Fr.refl _ _).drew;clear u0 u1;go_region_law (((try go_simp); go_at_call 83; refine (HCL.out _ FG).mono ?_; rintro e V1 ⟨ca, cc, rfl, ⟨hb1, hcc⟩, G1⟩; have FG := FG.trans G1 (fun _ _ h => h); obtain ⟨⟨t0, t1⟩, t2, t3, tl1, tl2⟩ := HC.out _ FG; have hup := HUP.out _ t3; have HB1 := hi2 hb1 (aI hcc FG); clear hb1 hcc G1))
    all_goals
     go_wp2_with fail
     go_roundw;case rel =>
      obtain ⟨hl, hfn, hfs, FS, hy, FW⟩ := HSy.out;obtain ⟨hb1, hcc, FG⟩ := HB1.out;exact ⟨k + 1, hlt, by go_num, sync_step hl hfn hfs FS hy hb1 hcc (by omega) (FW.trans FG (fun _ _ h => h))⟩
     case measure => simp [intOf]; omega
   ·obtain rfl : k = n := by omega
    have hdk : decide ((k : Int) < (k : Int)) = false := (by simp);have HSy := hid hS;have hdr := hS.2.heap H1.out.1 (nc _ _ _ H1.out.1);have HDR := hid hdr;have z := fun o => foh hdr o
    have ldr := loh hdr;have c3r := coh hdr 3;simp at c3r;clear hS hdr;go_wp2_with fail
    go_ret;obtain ⟨hD', F'⟩ := sync_fin H.out.1 H.out.2.1 H.out.2.2 H1.out.1 H1.out.2 (by rw [HN.out]; exact HSy.out);exact .inr ⟨HDN.out, rfl, hD', F'⟩
end
section
open Go.RowKit Go.Sg Go.Sg.Bits Go.Sg.Clk CP SF
variable {w w' : World} {B : Blk} {x : Sto} {a : Bool} {N : Nat}
theorem StoreAt.with_dev (h : StoreAt w B x) (F : Fr (fun b => b = B.d \/ b = B.bf) w w') {D : Dev} (hD : DevAt w' B.base B.d B.bf B.bq D) (e1 : D.sectors = x.dev.sectors) (e2 : D.size = x.dev.size) : StoreAt w' B { x with dev := D } /\ FrB B w w' := by
 have FR : FrR B [.d, .bf] w w' := F.mono (fun b _ hs => hs.elim (fun e => ⟨.d, by simp, e⟩) (fun e => ⟨.bf, by simp, e⟩));have S := h.stays FR;have hrg := h.rg;exact ⟨⟨S.s (by decide), hD, S.bits (by decide) (by decide), S.fr (by decide), S.dy (by decide), S.de (by decide), S.mem (by decide) (by decide) (by decide), S.load, h.ne, h.ge, ⟨hrg.1, hrg.2.1, hrg.2.2.1, by rw [e1]; exact hrg.2.2.2.1, by rw [e2]; exact hrg.2.2.2.2⟩, h.inr⟩, h.frB FR⟩
variable {P : Prot}
theorem D_down {c : Cont} (hi : Is w x c P a N) (hdn : x.dev.act.down = true) (hD : DevAt w' B.base B.d B.bf B.bq x.dev.act) : DownC w' B (x.cs c) P (N + 1) := by
 refine ⟨x.dev.act, hD, ⟨Nat.succ_le_succ hi.dev.acts, Nat.le_succ_of_le hi.dev.many, hi.dev.len, hi.dev.prot, ?_, fun h => (by cases h), hi.dev.byt⟩, hdn, rfl, rfl⟩;show x.dev.armed - 1 <= _;have := hi.dev.armed; omega
def SyncY (l : Nat) (B : Blk) (y : Cs) (P : Prot) (a : Bool) (N : Nat) (w : World) (e : Ending) (w' : World) : Prop :=
 FrB B w w' /\ ((e = .returned (.int .i64 0) /\ StoreL l w' B y P a (N + 1)) \/ (e = .returned (.int .i64 4) /\ a = true /\ DownC w' B y P (N + 1)))
theorem sync_c {y : Cs} (h : StoreL 1 w B y P a N) (hN : N + 1 <= 90000) : Calls Tryz.prog 41 #[.pointer (some ⟨B.d, 0, none⟩)] w (SyncY 2 B y P a N w) := by
 obtain ⟨⟨x, c, hS, rfl, hi, hcl, -⟩, hT, hb⟩ := h;have hfew := hi.few;refine (sync_ok hS.dev hi.down (nT hi.dev.acts (by omega)) hi.dev.armed (nT hi.dev.many (by omega)) hi.dev.len).mono ?_;rintro e w' (⟨hdn, rfl, hD, F⟩ | ⟨hdn, rfl, hD, F⟩)
 ·obtain ⟨hS', FB⟩ := hS.with_dev (F.mono fun _ _ h => .inl h) hD rfl rfl;refine ⟨FB, .inr ⟨rfl, ?_, D_down hi hdn hD⟩⟩;cases a with
  | true => rfl
  | false => rw [Dev.calm_up hi.down (hi.dev.calm rfl)] at hdn; cases hdn
 ·obtain ⟨hS', FB⟩ := hS.with_dev F hD rfl rfl;have hh := hi.holds.frB FB;exact ⟨FB, .inl ⟨rfl, ⟨⟨_, c, hS', rfl, ⟨hdn, hi.dev.synced, ⟨hh.ok, fun k q hq => (by
   obtain ⟨s0, b0, a1, a2, a3, a4, a5⟩ := hh.mem k q hq;exact ⟨s0, b0, a1, a2, a3, a4, fun hd => by rw [show ({ x with dev := x.dev.synced } : Sto).dev.sec _ = x.dev.sec _ from Dev.synced_sec _ _]; exact a5 hd⟩), fun k st bs hk hm => by
   rw [show ({ x with dev := x.dev.synced } : Sto).dev.sec _ = x.dev.sec _ from Dev.synced_sec _ _]; exact hh.dev k st bs hk hm⟩, hi.ptk, hi.apart, hN⟩, fun _ => hcl (by omega), fun _ => rfl⟩, hT.fr FB (fun h => by omega), hb⟩⟩⟩
end
section
open Go.RowKit Go.Sg
variable {w : World}
theorem own_mono {b b' e size n : Nat} {v : Value} {xs : List Value} (h : w.ownsRow b e size v n xs) (hb : b' <= b) : w.ownsRow b' e size v n xs := by
 obtain ⟨hl, h0 | ⟨g, cap, cur, hv, hg, r⟩⟩ := h
 ·exact ⟨hl, .inl h0⟩
 ·exact ⟨hl, .inr ⟨g, cap, cur, hv, nT hb hg, r⟩⟩
theorem sli_of_own {b n c : Nat} {a : Option Addr} {l : List Int} (h : w.ownsRow b 3 1 (.slice a n c) n (l.map (Value.int .i64))) (hl : l.length = n) : SlI w a n c l := by
 subst hl;obtain ⟨a', c', e, -, -, hnil, -⟩ := oSl h;cases e;refine ⟨rfl, fun i k hk => ?_, hnil⟩;obtain ⟨g, e', hg, h1⟩ := own_cell h (j := i) (u := .int .i64 k) (by rw [gP, hk]; rfl);exact ⟨g, 0, e', hg, by rw [Nat.zero_add]; exact h1⟩
end
end Go.Proofs.YtgdhaaokolfdoaaGreatDoor
namespace Go.Sg
structure Bt where
 hash : Nat
 rg : Int
 at_ : Int
 sz : Int
 deriving DecidableEq
inductive Tr where
 | leaf (r : Int × Int) (es : List Bt)
 | node (l r : Tr)
namespace Tr
def high : Tr -> Nat
 | leaf _ _ => 0
 | node l r => max l.high r.high + 1
def slots : Tr -> Nat -> List (Int × Int)
 | leaf r _, g => List.replicate (2 ^ g) r
 | node l r, g => l.slots (g - 1) ++ r.slots (g - 1)
def refs : Tr -> List (Int × Int)
 | leaf r _ => [r]
 | node l r => l.refs ++ r.refs
def at_ : Tr -> Nat -> Nat -> Nat -> Nat -> Nat × Nat × (Int × Int) × List Bt
 | leaf r es, _, _, d, p => (d, p, r, es)
 | node l r, g, k, d, p => if k < 2 ^ (g - 1) then l.at_ (g - 1) k (d + 1) (2 * p) else r.at_ (g - 1) (k - 2 ^ (g - 1)) (d + 1) (2 * p + 1)
def put : Tr -> Nat -> Nat -> ((Int × Int) -> List Bt -> Tr) -> Tr
 | leaf r es, _, _, f => f r es
 | node l r, g, k, f => if k < 2 ^ (g - 1) then node (l.put (g - 1) k f) r else node l (r.put (g - 1) (k - 2 ^ (g - 1)) f)
theorem slots_len : ∀ (t : Tr) (g : Nat), t.high <= g -> (t.slots g).length = 2 ^ g
 | leaf _ _, g, _ => by simp [slots]
 | node l r, g, h => by
  simp only [high] at h;rw [slots, lA, slots_len l (g - 1) (by omega), slots_len r (g - 1) (by omega)];obtain ⟨k, rfl⟩ : ∃ k, g = k + 1 := ⟨g - 1, by omega⟩
  simp only [Nat.add_sub_cancel, Nat.pow_succ]; omega
theorem two_pow {g : Nat} (h : 1 <= g) : 2 ^ g = 2 ^ (g - 1) + 2 ^ (g - 1) := by
 obtain ⟨k, rfl⟩ : ∃ k, g = k + 1 := ⟨g - 1, by omega⟩
 simp only [Nat.add_sub_cancel, Nat.pow_succ]; omega
theorem slots_at : ∀ (t : Tr) (g k d p : Nat), t.high <= g -> k < 2 ^ g -> (t.slots g)[k]? = some (t.at_ g k d p).2.2.1
 | leaf r es, g, k, d, p, _, hk => by
  simp only [slots, at_];rw [List.getElem?_replicate, if_pos hk]
 | node l r, g, k, d, p, h, hk => by
  simp only [high] at h;have h2 := two_pow (g := g) (by omega);have hl := slots_len l (g - 1) (by omega);simp only [slots, at_];by_cases hlt : k < 2 ^ (g - 1)
  ·rw [if_pos hlt, List.getElem?_append_left (by rw [hl]; exact hlt)];exact slots_at l (g - 1) k _ _ (by omega) hlt
  ·rw [if_neg hlt, List.getElem?_append_right (by rw [hl]; omega), hl];exact slots_at r (g - 1) _ _ _ (by omega) (by omega)
theorem at_depth : ∀ (t : Tr) (g k d p : Nat), (t.at_ g k d p).1 <= d + t.high
 | leaf _ _, _, _, d, _ => by simp [at_, high]
 | node l r, g, k, d, p => by
  simp only [at_, high];split
  ·have := at_depth l (g - 1) k (d + 1) (2 * p); omega
  ·have := at_depth r (g - 1) (k - 2 ^ (g - 1)) (d + 1) (2 * p + 1); omega
theorem at_ge : ∀ (t : Tr) (g k d p : Nat), d <= (t.at_ g k d p).1
 | leaf _ _, _, _, d, _ => by simp [at_]
 | node l r, g, k, d, p => by
  simp only [at_];split
  ·have := at_ge l (g - 1) k (d + 1) (2 * p); omega
  ·have := at_ge r (g - 1) (k - 2 ^ (g - 1)) (d + 1) (2 * p + 1); omega
theorem at_pre : ∀ (t : Tr) (g k d p : Nat), t.high <= g -> k < 2 ^ g -> (t.at_ g k d p).2.1 = (p * 2 ^ g + k) / 2 ^ (d + g - (t.at_ g k d p).1)
 | leaf _ _, g, k, d, p, _, hk => by
  simp only [at_];rw [show d + g - d = g by omega, Nat.mul_comm, Nat.mul_add_div (Nat.pow_pos (by decide)), Nat.div_eq_of_lt hk]; omega
 | node l r, g, k, d, p, h, hk => by
  simp only [high] at h;have h2 := two_pow (g := g) (by omega);simp only [at_];by_cases hlt : k < 2 ^ (g - 1)
  ·rw [if_pos hlt];have := at_pre l (g - 1) k (d + 1) (2 * p) (by omega) hlt;rw [this, show d + 1 + (g - 1) = d + g by omega];congr 1
   rw [h2, Nat.mul_add, Nat.mul_comm 2 p, Nat.mul_assoc, Nat.two_mul, Nat.mul_add]
  ·rw [if_neg hlt];have := at_pre r (g - 1) (k - 2 ^ (g - 1)) (d + 1) (2 * p + 1) (by omega) (by omega);rw [this, show d + 1 + (g - 1) = d + g by omega];congr 1
   rw [h2, Nat.add_mul, Nat.mul_add, Nat.mul_comm 2 p, Nat.mul_assoc, Nat.two_mul, Nat.mul_add];omega
theorem slots_dbl : ∀ (t : Tr) (g : Nat), t.high <= g -> t.slots (g + 1) = (t.slots g).flatMap fun r => [r, r]
 | leaf r _, g, _ => by
  simp only [slots];rw [Nat.pow_succ];generalize 2 ^ g = n;induction n with
  | zero => rfl
  | succ n ih => rw [List.replicate_succ, List.flatMap_cons, <- ih, show (n + 1) * 2 = n * 2 + 1 + 1 by omega]; rfl
 | node l r, g, h => by
  simp only [high] at h;obtain ⟨k, rfl⟩ : ∃ k, g = k + 1 := ⟨g - 1, by omega⟩
  simp only [slots, Nat.add_sub_cancel, List.flatMap_append];rw [slots_dbl l k (by omega), slots_dbl r k (by omega)]
end Tr
namespace Tr
def lo : Tr -> Nat -> Nat -> Nat
 | leaf _ _, _, _ => 0
 | node l r, g, k => if k < 2 ^ (g - 1) then l.lo (g - 1) k else 2 ^ (g - 1) + r.lo (g - 1) (k - 2 ^ (g - 1))
def wd : Tr -> Nat -> Nat -> Nat
 | leaf _ _, g, _ => g
 | node l r, g, k => if k < 2 ^ (g - 1) then l.wd (g - 1) k else r.wd (g - 1) (k - 2 ^ (g - 1))
theorem wd_depth : ∀ (t : Tr) (g k d p : Nat), t.high <= g -> (t.at_ g k d p).1 + t.wd g k = d + g
 | leaf _ _, g, _, d, _, _ => rfl
 | node l r, g, k, d, p, h => by
  simp only [high] at h;simp only [at_, wd];split
  ·have := wd_depth l (g - 1) k (d + 1) (2 * p) (by omega); omega
  ·have := wd_depth r (g - 1) (k - 2 ^ (g - 1)) (d + 1) (2 * p + 1) (by omega); omega
theorem lo_pre : ∀ (t : Tr) (g k d p : Nat), t.high <= g -> p * 2 ^ g + t.lo g k = (t.at_ g k d p).2.1 * 2 ^ t.wd g k
 | leaf _ _, g, _, d, p, _ => by simp [at_, lo, wd]
 | node l r, g, k, d, p, h => by
  simp only [high] at h;have h2 := two_pow (g := g) (by omega);simp only [at_, wd, lo];split
  ·have := lo_pre l (g - 1) k (d + 1) (2 * p) (by omega);rw [<- this, h2, Nat.mul_add, Nat.mul_comm 2 p, Nat.mul_assoc, Nat.two_mul, Nat.mul_add]
  ·have := lo_pre r (g - 1) (k - 2 ^ (g - 1)) (d + 1) (2 * p + 1) (by omega);rw [<- this, h2, Nat.add_mul, Nat.mul_add, Nat.mul_comm 2 p, Nat.mul_assoc, Nat.two_mul, Nat.mul_add];omega
theorem lo_le : ∀ (t : Tr) (g k : Nat), t.high <= g -> k < 2 ^ g -> t.lo g k <= k /\ k < t.lo g k + 2 ^ t.wd g k /\ t.lo g k + 2 ^ t.wd g k <= 2 ^ g
 | leaf _ _, g, k, _, hk => by simp [lo, wd]; exact hk
 | node l r, g, k, h, hk => by
  simp only [high] at h;have h2 := two_pow (g := g) (by omega);simp only [lo, wd];split
  ·have := lo_le l (g - 1) k (by omega) (by assumption); omega
  ·have := lo_le r (g - 1) (k - 2 ^ (g - 1)) (by omega) (by omega); omega
theorem slots_put (f : (Int × Int) -> List Bt -> Tr) : ∀ (t : Tr) (g k : Nat), t.high <= g -> k < 2 ^ g ->
  (t.put g k f).slots g = (t.slots g).take (t.lo g k) ++ (f (t.at_ g k 0 0).2.2.1 (t.at_ g k 0 0).2.2.2).slots (t.wd g k) ++ (t.slots g).drop (t.lo g k + 2 ^ t.wd g k) := by
 suffices H : ∀ (t : Tr) (g k d p : Nat), t.high <= g -> k < 2 ^ g ->
   (t.put g k f).slots g = (t.slots g).take (t.lo g k) ++ (f (t.at_ g k d p).2.2.1 (t.at_ g k d p).2.2.2).slots (t.wd g k) ++ (t.slots g).drop (t.lo g k + 2 ^ t.wd g k) from fun t g k => H t g k 0 0
 intro t;induction t with
 | leaf r es =>
  intro g k d p _ hk;simp only [put, slots, lo, wd, at_, List.take_zero, List.nil_append];rw [List.drop_eq_nil_of_le (by simp), List.append_nil]
 | node l r ihl ihr =>
  intro g k d p h hk;simp only [high] at h;have h2 := two_pow (g := g) (by omega);have hl := slots_len l (g - 1) (by omega);simp only [put, slots, lo, wd, at_];by_cases hlt : k < 2 ^ (g - 1)
  ·have hle := lo_le l (g - 1) k (by omega) hlt;rw [if_pos hlt, if_pos hlt, if_pos hlt, if_pos hlt];simp only [slots];rw [ihl (g - 1) k (d + 1) (2 * p) (by omega) hlt, List.take_append_of_le_length (by omega), List.drop_append_of_le_length (by omega)];simp only [List.append_assoc]
  ·have hle := lo_le r (g - 1) (k - 2 ^ (g - 1)) (by omega) (by omega);rw [if_neg hlt, if_neg hlt, if_neg hlt, if_neg hlt];simp only [slots];rw [ihr (g - 1) (k - 2 ^ (g - 1)) (d + 1) (2 * p + 1) (by omega) (by omega), <- hl, List.take_length_add_append, Nat.add_assoc, List.drop_length_add_append];simp only [List.append_assoc]
theorem slots_own : ∀ (t : Tr) (g k j : Nat), t.high <= g -> k < 2 ^ g -> t.lo g k <= j -> j < t.lo g k + 2 ^ t.wd g k -> t.at_ g j 0 0 = t.at_ g k 0 0 := by
 suffices H : ∀ (t : Tr) (g k j d p : Nat), t.high <= g -> k < 2 ^ g -> t.lo g k <= j -> j < t.lo g k + 2 ^ t.wd g k -> t.at_ g j d p = t.at_ g k d p from fun t g k j => H t g k j 0 0
 intro t;induction t with
 | leaf r es => intros; rfl
 | node l r ihl ihr =>
  intro g k j d p h hk h1 h2';simp only [high] at h;have h2 := two_pow (g := g) (by omega);simp only [lo, wd] at h1 h2';simp only [at_];by_cases hlt : k < 2 ^ (g - 1)
  ·rw [if_pos hlt] at h1;rw [if_pos hlt, if_pos hlt] at h2';have hle := lo_le l (g - 1) k (by omega) hlt;rw [if_pos hlt, if_pos (by omega)];exact ihl (g - 1) k j _ _ (by omega) hlt h1 h2'
  ·rw [if_neg hlt] at h1;rw [if_neg hlt, if_neg hlt] at h2';have hle := lo_le r (g - 1) (k - 2 ^ (g - 1)) (by omega) (by omega);rw [if_neg hlt, if_neg (by omega)];exact ihr (g - 1) _ _ _ _ (by omega) (by omega) (by omega) (by omega)
end Tr
end Go.Sg
namespace Go.Proofs.YtgdhaaokolfdoaaGreatDoor
open Go.RowKit Go.Sg CP SF
abbrev btC (e : Bt) : List Value := [.int .u64 e.hash, .int .i64 e.rg, .int .i64 e.at_, .int .i64 e.sz]
abbrev btV (e : Bt) : Value := .agg #[.int .u64 e.hash, .int .i64 e.rg, .int .i64 e.at_, .int .i64 e.sz]
abbrev bkV (d p : Int) (v : Value) : Value := .agg #[.int .i64 d, .int .i64 p, v]
abbrev OwnE (w : World) (base : Nat) (v : Value) (es : List Bt) : Prop := w.ownsRow base 118 4 v es.length (es.flatMap btC)
theorem btC_len (l : List Bt) : (l.flatMap btC).length = l.length * 4 := by
 induction l with
 | nil => rfl
 | cons x l ih => simp only [List.flatMap_cons, lA, ih, lC]; simp; omega
theorem btC_at (l : List Bt) : ∀ (i : Nat) (x : Bt), l[i]? = some x -> (l.flatMap btC)[i * 4]? = some (.int .u64 x.hash) /\ (l.flatMap btC)[i * 4 + 1]? = some (.int .i64 x.rg) /\ (l.flatMap btC)[i * 4 + 2]? = some (.int .i64 x.at_) /\ (l.flatMap btC)[i * 4 + 3]? = some (.int .i64 x.sz) := by
 induction l with
 | nil => intro i x h; simp at h
 | cons y l ih =>
  intro i x h;cases i with
  | zero => simp at h; subst h; simp [btC]
  | succ i =>
   rw [gS] at h;have := ih i x h;rw [show (i + 1) * 4 = i * 4 + 4 by omega];simpa [List.flatMap_cons, btC] using this
variable {w : World} {b b3 base bits e h j k n size y : Nat} {x : Bt} {v x0 x1 x2 : Value} {t : TypeId} {xs : List Value}
theorem ownE_at {c : Nat} {a : Option Addr} {l : List Bt} (h : OwnE w base (.slice a l.length c) l) (hx : l[k]? = some x) :
  ∃ g, a = some ⟨g, 0, none⟩ /\ g < w.heap.size /\ w.cell? ⟨g, k * 4, none⟩ = some (.int .u64 x.hash) /\ w.cell? ⟨g, k * 4 + 1, none⟩ = some (.int .i64 x.rg) /\ w.cell? ⟨g, k * 4 + 2, none⟩ = some (.int .i64 x.at_) /\ w.cell? ⟨g, k * 4 + 3, none⟩ = some (.int .i64 x.sz) := by
 obtain ⟨f0, f1, f2, f3⟩ := btC_at l k x hx;obtain ⟨g, e, hg, h0⟩ := own_cell h f0;obtain ⟨g1, e1, _, h1⟩ := own_cell h f1;obtain ⟨g2, e2, _, h2⟩ := own_cell h f2;obtain ⟨g3, e3, _, h3⟩ := own_cell h f3;rw [e] at e1 e2 e3; cases e1; cases e2; cases e3;exact ⟨g, e, hg, h0, h1, h2, h3⟩
def plI (es : List Bt) (h : Nat) : Nat := (es.takeWhile fun e => decide (e.hash < h)).length
def hasB (es : List Bt) (h : Nat) : Bool := es.any fun e => decide (e.hash = h)
def SortedB (es : List Bt) : Prop := es.Pairwise fun x y => x.hash < y.hash
theorem plI_le (es : List Bt) (h : Nat) : plI es h <= es.length := (List.takeWhile_prefix _).length_le
variable {es : List Bt}
theorem plI_lt (hs : SortedB es) (hx : es[k]? = some x) : k < plI es h ↔ x.hash < h := by
 induction es generalizing k with
 | nil => simp at hx
 | cons e es ih =>
  have hs' : SortedB es := (List.pairwise_cons.1 hs).2;have h1 := (List.pairwise_cons.1 hs).1;unfold plI;rw [List.takeWhile_cons];cases k with
  | zero =>
   simp at hx; subst hx;by_cases hh : e.hash < h
   ·simp [hh]
   ·simp [hh]
  | succ k =>
   rw [gS] at hx;by_cases hh : e.hash < h
   ·simp only [hh, decide_true, if_true, lC, Nat.add_lt_add_iff_right];exact ih hs' hx
   ·have := h1 x (gM hx);simp only [hh, decide_false, Bool.false_eq_true, if_false, List.length_nil, Nat.not_lt_zero, false_iff];omega
theorem plI_eq (hs : SortedB es) (hj : j <= es.length) (h1 : ∀ (k : Nat) (x : Bt), k < j -> es[k]? = some x -> x.hash < h) (h2 : ∀ (k : Nat) (x : Bt), j <= k -> es[k]? = some x -> ¬ x.hash < h) : plI es h = j := by
 have hle := plI_le es h;rcases Nat.lt_trichotomy (plI es h) j with hlt | rfl | hlt
 ·obtain ⟨x, hx⟩ : ∃ x, es[plI es h]? = some x := ⟨_, gE (by omega)⟩
  have := (plI_lt hs hx).2 (h1 _ x hlt hx);omega
 ·rfl
 ·obtain ⟨x, hx⟩ : ∃ x, es[j]? = some x := ⟨_, gE (by omega)⟩
  exact absurd ((plI_lt hs hx).1 hlt) (h2 j x (nR _) hx)
theorem hasB_iff (hs : SortedB es) : hasB es h = true ↔ ∃ x, es[plI es h]? = some x /\ x.hash = h := by
 unfold hasB;rw [List.any_eq_true];constructor
 ·rintro ⟨x, hx, he⟩;simp at he;obtain ⟨k, hk, hkx⟩ := List.getElem_of_mem hx;have hx' : es[k]? = some x := by rw [gE hk, hkx]
  have e : plI es h = k := plI_eq hs (by omega) (fun j y hj hy => by
   have := List.pairwise_iff_getElem.1 hs j k (by omega) hk hj;rw [gE (by omega)] at hy; cases hy;rw [hkx] at this; omega) (fun j y hj hy => by
   rcases Nat.lt_or_ge k j with hlt | hge
   ·have hjl := (gI.1 hy).1;have := List.pairwise_iff_getElem.1 hs k j hk hjl hlt;rw [gE hjl] at hy; cases hy;rw [hkx] at this; omega
   ·obtain rfl : j = k := by omega
    rw [hx'] at hy; cases hy; omega)
  rw [e]; exact ⟨x, hx', he⟩
 ·rintro ⟨x, hx, he⟩;exact ⟨x, gM hx, by simpa using he⟩
theorem sorted_lt (hs : SortedB es) {i : Nat} {y : Bt} (hx : es[i]? = some x) (hy : es[j]? = some y) (h : i < j) : x.hash < y.hash := by
 obtain ⟨h1, e1⟩ := gI.1 hx;obtain ⟨h2, e2⟩ := gI.1 hy;have := List.pairwise_iff_getElem.1 hs i j h1 h2 h;rw [e1, e2] at this; exact this
def BoolP (b : Bool) (w : World) (e : Ending) (w' : World) : Prop := e = .returned (.bool b) /\ w = w'
theorem within_b_ok (n m : Int) (w : World) : Calls Tryz.prog 241 #[.int .i64 n, .int .i64 m] w (BoolP (decide (0 <= n) && decide (n <= m)) w) := by
 by_cases h1 : 0 <= n
 ·have d1 : decide ((0 : Int) <= n) = true := decide_eq_true h1;by_cases h2 : n <= m
  ·have d2 : decide (n <= m) = true := decide_eq_true h2;rw [d1, d2];go_enter Tryz.func241, Tryz.ntmps241;go_wp2_with fail
   go_ret;exact ⟨rfl, rfl⟩
  ·have d2 : decide (n <= m) = false := decide_eq_false h2;rw [d1, d2];go_enter Tryz.func241, Tryz.ntmps241;go_wp2_with fail
   go_ret;exact ⟨rfl, rfl⟩
 ·have d1 : decide ((0 : Int) <= n) = false := decide_eq_false h1;rw [d1];go_enter Tryz.func241, Tryz.ntmps241;go_wp2_with fail
  go_ret;exact ⟨rfl, rfl⟩
theorem nan_u_ok (n : Nat) (w : World) : Calls Tryz.prog 277 #[.int .u64 n] w (BoolP false w) := by
 go_enter Tryz.func277, Tryz.ntmps277;go_wp2_with fail
 go_ret;exact ⟨rfl, rfl⟩
def cmpI (x y : Nat) : Int := if x < y then -1 else if y < x then 1 else 0
theorem cmp_u_ok (x y : Nat) (w : World) : Calls Tryz.prog 252 #[.int .u64 x, .int .u64 y] w (IntP (cmpI x y) w) := by
 have key : (decide (x < y) = true /\ cmpI x y = -1) \/ (decide (x < y) = false /\ decide (y < x) = true /\ cmpI x y = 1) \/ (decide (x < y) = false /\ decide (y < x) = false /\ cmpI x y = 0) := by
  unfold cmpI;by_cases h1 : x < y
  ·left; rw [if_pos h1]; exact ⟨by simp; omega, rfl⟩
  ·right;by_cases h2 : y < x
   ·left; rw [if_neg h1, if_pos h2]; exact ⟨by simp; omega, by simp; omega, rfl⟩
   ·right; rw [if_neg h1, if_neg h2]; exact ⟨by simp; omega, by simp; omega, rfl⟩
 rcases key with ⟨d1, e⟩ | ⟨d1, d2, e⟩ | ⟨d1, d2, e⟩
 all_goals
  rw [e];clear e;go_enter Tryz.func252, Tryz.ntmps252;go_wp2_with fail
  refine (nan_u_ok x w).mono ?_;rintro e _ ⟨rfl, rfl⟩;go_wp2_with fail
  refine (nan_u_ok y w).mono ?_;rintro e _ ⟨rfl, rfl⟩;go_wp2_with fail
  go_ret;exact ⟨rfl, rfl⟩
def ValP (v : Value) (w : World) (e : Ending) (w' : World) : Prop := e = .returned v /\ Fq w w'
theorem cmp_e_ok (x : Bt) (h : Nat) (w : World) : Calls Tryz.prog 251 #[btV x, .int .u64 h] w (ValP (.int .i64 (cmpI x.hash h)) w) := by
 obtain ⟨w1, hw1⟩ : ∃ w1, w.alloc (.cells #[.int .u64 x.hash, .int .i64 x.rg, .int .i64 x.at_, .int .i64 x.sz] 118) = w1 := ⟨_, rfl⟩
 have b1 : w1.heap[w.heap.size]? = some (.cells #[.int .u64 x.hash, .int .i64 x.rg, .int .i64 x.at_, .int .i64 x.sz] 118) := by rw [<- hw1]; exact han _ _
 have HF := hid (show Fq w w1 by rw [<- hw1]; exact (Fr.refl _ _).alloc _);have c0 : w1.cell? ⟨w.heap.size, 0, none⟩ = some (.int .u64 x.hash) := by simpa using coh b1 0
 have HW := hid hw1;clear hw1 b1;go_enter Tryz.func251, Tryz.ntmps251;go_upto_region 1 with fail
 rw [HW.out];go_wp2_with fail
 refine (cmp_u_ok x.hash h w1).mono ?_;rintro e _ ⟨rfl, rfl⟩;go_wp2_with fail
 go_ret;exact ⟨rfl, HF.out⟩
def SearchP (es : List Bt) (h : Nat) (w : World) (e : Ending) (w' : World) : Prop := e = .returned (.tuple #[.int .i64 (plI es h), .bool (hasB es h)]) /\ Fq w w'
theorem cmpI_lt {x : Nat} : decide (cmpI x y < 0) = decide (x < y) := by
 unfold cmpI;by_cases h1 : x < y
 ·simp [h1]
 ·by_cases h2 : y < x <;> simp [h1, h2]
theorem cmpI_eq {x : Nat} : decide (cmpI x y = 0) = decide (x = y) := by
 unfold cmpI;by_cases h1 : x < y
 ·have : ¬ x = y := by omega
  simp [h1, this]
 ·by_cases h2 : y < x
  ·have : ¬ x = y := by omega
   simp [h1, h2, this]
  ·have : x = y := by omega
   simp [this]
theorem search_ok (hE : OwnE w 0 v es) (hs : SortedB es) (hl : es.length <= 255) (h : Nat) :
  Calls Tryz.prog 250 #[v, .int .u64 h, .func (.func 251) #[] #[]] w (SearchP es h w) := by
 obtain ⟨va, vc, rfl, -, -, -, -⟩ := oSl hE;obtain ⟨n, hn⟩ : ∃ n, es.length = n := ⟨_, rfl⟩
 have hn9 : n <= 255 := by omega
 have HE := hid hE;have HN := hid hn;have HS := hid hs;rw [hn];clear hE hn hs hl;go_enter Tryz.func250, Tryz.ntmps250;go_wp2_with fail
 go_loopw [9, 10] (fun iv jv wr => ∃ i j : Nat, iv = .int .i64 i /\ jv = .int .i64 j /\ i <= j /\ j <= n /\ (∀ (k : Nat) (x : Bt), k < i -> es[k]? = some x -> x.hash < h) /\ (∀ (k : Nat) (x : Bt), j <= k -> es[k]? = some x -> ¬ x.hash < h) /\ Fq w wr) (fun iv jv _ => (intOf jv).toNat - (intOf iv).toNat)
 case atStart => exact ⟨0, n, rfl, rfl, Nat.zero_le _, nR _, fun k x hk => by omega, fun k x hk hx => by have := (gI.1 hx).1; rw [HN.out] at this; omega, Fr.refl _ _⟩
 case round =>
  obtain ⟨i, j, rfl, rfl, hij, hj, h1, h2, hF⟩ := hrel;have H12 := hi2 h1 (aI h2 hF);clear h1 h2 hF;by_cases hlt : i < j
  ·have hd : decide (i < j) = true := by simp [hlt]
   obtain ⟨m, hm⟩ : ∃ m : Nat, (i + j) / 2 = m := ⟨_, rfl⟩
   have hmi : i <= m /\ m < j := by omega
   obtain ⟨x, hx⟩ : ∃ x, es[m]? = some x := ⟨_, gE (by rw [HN.out]; omega)⟩
   have hmI : ((i : Int) + (j : Int)) / 2 = (m : Int) := by omega
   have hmn : (m : Int) < (n : Int) := by omega
   obtain ⟨g, rfl, hg, u0, u1, u2, u3⟩ := ownE_at (oN HE.out H12.out.2.2) hx;have HX := hid hx;have HM := hid hm;clear hx hm;by_cases hlx : x.hash < h
   ·have hdc : decide (cmpI x.hash h < 0) = true := (by rw [cmpI_lt]; simp [hlx]);have HC := hid hlx;clear hlx;go_wp2_with fail
    refine (cmp_e_ok x h wr).mono ?_;rintro e w2 ⟨rfl, F2⟩;have HF2 := hid F2;clear F2;go_wp2_with fail
    go_roundw;case rel =>
     obtain ⟨h1, h2, hF⟩ := H12.out;refine ⟨m + 1, j, by go_num, rfl, by omega, hj, fun k y hk hy => ?_, h2, hF.trans HF2.out (fun _ _ h => h)⟩;rcases Nat.lt_or_ge k m with hkm | hkm
     ·exact Nat.lt_trans (sorted_lt HS.out hy HX.out hkm) HC.out
     ·obtain rfl : k = m := by omega
      rw [HX.out] at hy; cases hy; exact HC.out
    case measure => simp [intOf]; omega
   ·have hdc : decide (cmpI x.hash h < 0) = false := (by rw [cmpI_lt]; simp; omega);have HC := hid hlx;clear hlx;go_wp2_with fail
    refine (cmp_e_ok x h wr).mono ?_;rintro e w2 ⟨rfl, F2⟩;have HF2 := hid F2;clear F2;go_wp2_with fail
    go_roundw;case rel =>
     obtain ⟨h1, h2, hF⟩ := H12.out;refine ⟨i, m, rfl, rfl, by omega, by omega, h1, fun k y hk hy => ?_, hF.trans HF2.out (fun _ _ h => h)⟩;rcases Nat.lt_or_ge m k with hkm | hkm
     ·have := sorted_lt HS.out HX.out hy hkm;have := HC.out;omega
     ·obtain rfl : k = m := by omega
      rw [HX.out] at hy; cases hy; exact HC.out
    case measure => simp [intOf]; omega
  ·obtain rfl : i = j := by omega
   have hd : decide (i < i) = false := by simp
   have hp : plI es h = i := plI_eq HS.out (by rw [HN.out]; exact hj) H12.out.1 H12.out.2.1;by_cases hin : i < n
   ·have hd2 : decide (i < n) = true := (by simp [hin]);obtain ⟨x, hx⟩ : ∃ x, es[i]? = some x := ⟨_, gE (by rw [HN.out]; omega)⟩
    have hmn : (i : Int) < (n : Int) := (by omega);obtain ⟨g, rfl, hg, u0, u1, u2, u3⟩ := ownE_at (oN HE.out H12.out.2.2) hx;have hb : hasB es h = decide (x.hash = h) := by
     rw [Bool.eq_iff_iff, hasB_iff HS.out, hp, hx];simp
    have HP := hi2 hp hb;obtain ⟨bb, hbb⟩ : ∃ bb, decide (x.hash = h) = bb := ⟨_, rfl⟩
    have hce : (cmpI x.hash h == 0) = bb := (by rw [<- hbb, <- cmpI_eq]; rfl);have HBB := hid hbb;clear hx hp hb hbb;go_wp2_with fail
    refine (cmp_e_ok x h wr).mono ?_;rintro e w2 ⟨rfl, F2⟩;have HF2 := hid F2;clear F2;go_wp2_with fail
    go_ret2;exact ⟨by rw [HP.out.1, HP.out.2, <- HBB.out]; rfl, H12.out.2.2.trans HF2.out (fun _ _ h => h)⟩
   ·have hd2 : decide (i < n) = false := (by simp; omega);have hb : hasB es h = false := by
     rw [Bool.eq_false_iff];intro hb;obtain ⟨x, hx, -⟩ := (hasB_iff HS.out).1 hb;rw [hp] at hx;have := (gI.1 hx).1;rw [HN.out] at this; omega
    have HP := hi2 hp hb;clear hp hb;go_wp2_with fail
    go_ret2;exact ⟨by rw [HP.out.1, HP.out.2]; rfl, H12.out.2.2⟩
theorem place_ok (hE : OwnE w 0 v es) (hs : SortedB es) (hl : es.length <= 255) (d p : Int) (h : Nat) :
  Calls Tryz.prog 199 #[bkV d p v, .int .u64 h] w (SearchP es h w) := by
 obtain ⟨w1, hw1⟩ : ∃ w1, w.alloc (.cells #[.int .i64 d, .int .i64 p, v] 129) = w1 := ⟨_, rfl⟩
 have b1 : w1.heap[w.heap.size]? = some (.cells #[.int .i64 d, .int .i64 p, v] 129) := by rw [<- hw1]; exact han _ _
 have F1 : Fq w w1 := by rw [<- hw1]; exact (Fr.refl _ _).alloc _
 have HF := hid F1;have c2 : w1.cell? ⟨w.heap.size, 2, none⟩ = some v := by simpa using coh b1 2
 have HS := hid (search_ok (oN hE F1) hs hl h);have HW := hid hw1;clear hw1 b1 F1 hE hs hl;go_enter Tryz.func199, Tryz.ntmps199;go_upto_region 1 with fail
 rw [HW.out];go_wp2_with fail
 refine HS.out.mono ?_;rintro e w2 ⟨rfl, F2⟩;have HF2 := hid F2;clear F2;go_wp2_with fail
 go_ret2;exact ⟨rfl, HF.out.trans HF2.out (fun _ _ h => h)⟩
theorem Tryz.info118 : (Tryz.prog.info? 118).map (fun i => (i.zero, i.size, i.bytes)) = some (some (.agg #[.int .u64 0, .int .i64 0, .int .i64 0, .int .i64 0]), 4, 32) := by kernel_rfl
theorem cells3 (h : w.heap[b]? = some (.cells #[x0, x1, x2] t)) :
  w.cell? ⟨b, 0, none⟩ = some x0 /\ w.cell? ⟨b, 1, none⟩ = some x1 /\ w.cell? ⟨b, 2, none⟩ = some x2 /\ (∀ o, w.frozen? ⟨b, o, none⟩ = false) /\ b < w.heap.size :=
 ⟨by simpa using coh h 0, by simpa using coh h 1, by simpa using coh h 2, fun o => foh h o, loh h⟩
theorem with_ok (d p : Int) (va : Option Addr) (vn vc : Nat) (ua : Option Addr) (un uc : Nat) (w : World) : Calls Tryz.prog 195 #[bkV d p (.slice va vn vc), .slice ua un uc] w (ValP (bkV d p (.slice ua un uc)) w) := by
 obtain ⟨w1, hw1⟩ : ∃ w1, (w.alloc (.cells #[.int .i64 d, .int .i64 p, .slice va vn vc] 129)).alloc (.cells #[.int .i64 0, .int .i64 0, .slice none 0 0] 129) = w1 := ⟨_, rfl⟩
 obtain ⟨b0, b1, F1⟩ := heap_two hw1;obtain ⟨x0, x1, x2, xz, xl⟩ := cells3 b0;obtain ⟨y0, y1, y2, yz, yl⟩ := cells3 b1;have HF := hid F1;have HW := hid hw1;have hs : w1.heap.size = w.heap.size + 2 := by rw [<- hw1]; simp
 have HS := hid hs;clear hw1 b0 b1 F1 hs;go_enter Tryz.func195, Tryz.ntmps195;go_upto_region 1 with fail
 rw [HW.out];go_wp2_with fail
 refine bodyPost_ret (v := bkV d p (.slice ua un uc)) (by simp [results, go_sem, *]) rfl ⟨rfl, ?_⟩;exact ((HF.out.setNew (by omega) _).setNew (by omega) _).setNew (by omega) _
def MadeE (es : List Bt) (w : World) (e : Ending) (w' : World) : Prop := ∃ v, e = .returned v /\ OwnE w' w.heap.size v es /\ Fq w w'
theorem clone_e_ok (hE : OwnE w 0 v es) (hl : es.length <= 255) : Calls Tryz.prog 200 #[v] w (MadeE es w) := by
 obtain ⟨i0, hi0, hz0, hz1, hz2⟩ := info_parts Tryz.info118;obtain ⟨va, vc, rfl, -, -, hnil, -⟩ := oSl hE;have q127 : ∀ (w : World) (a : Option Addr) (n c n' c' : Nat), (binOp .eql 127 (.slice a n c) (.slice none n' c')).run Tryz.prog w = .ok (.bool a.isNone) w := fun w a n c n' c' => Lib.run_eql_slice_nil w _ _ a n c n' c' Tryz.underlying127
 obtain ⟨n, hn⟩ : ∃ n, es.length = n := ⟨_, rfl⟩
 have hn9 : n <= 255 := by omega
 have HE := hid hE;have HN := hid hn;have HSr := hid (fun W (F : Fq w W) => own_src (oN hE F));cases va with
 | none =>
  have h0 : n = 0 := by rw [<- hn]; exact (hnil rfl).1
  have he : es = [] := List.eq_nil_of_length_eq_zero (by rw [hn]; exact h0);have hc : vc = 0 := (hnil rfl).2;subst h0 hc;rw [hn];have HEm := hid he;clear hE hn hnil hl he;go_enter Tryz.func200, Tryz.ntmps200;go_wp2_with fail
  go_ret;exact ⟨_, rfl, by rw [HEm.out]; exact World.ownsRow_nil _ _ _ _, Fr.refl _ _⟩
 | some ad =>
  rw [hn];clear hE hn hnil hl;go_enter Tryz.func200, Tryz.ntmps200;go_wp2_with (at_builtin; refine wpList_append_src rfl (.tmp 5) (.tmp 6) 127 rfl w.heap.size 118 i0 _ 4 32 Tryz.underlying127 hi0 hz0 hz1 hz2 rfl (by decide) _ _ _ rfl (own_litB _ _ (nR _) _ _ _ (by simp [go_sem])) (.slice (some ad) n vc) n (es.flatMap btC) rfl (by have := HSr.out _ ((Fr.refl _ _).alloc (.cells #[] 118)); rw [HN.out] at this; exact this) (by rw [btC_len, HN.out]) (by intro u hu; obtain ⟨x, _, hx⟩ := List.mem_flatMap.1 hu; simp [btC] at hx; rcases hx with rfl | rfl | rfl | rfl <;> rfl) (by simp [maxLen]; omega) (by omega) (by simp) ?_)
  intro v3 W3 hown3 hg3 hne3;try simp only [List.nil_append, Nat.zero_add] at hown3
  have F3 : Fq w W3 := ((Fr.refl (fun b => b = w.heap.size) _).alloc _).trans (Fr.of_grownBy hg3) (fun b _ h => h) |>.mono (fun b hb h => by omega)
  have H3 := hi2 (show OwnE W3 w.heap.size v3 es by unfold OwnE; rw [HN.out]; exact hown3) F3;clear hown3 hg3 hne3 F3;go_wp2_with fail
  go_ret;exact ⟨_, rfl, H3.out.1, H3.out.2⟩
def locV : Option Bt -> Value
 | none => .agg #[.int .i64 0, .int .i64 0, .int .i64 0]
 | some e => .agg #[.int .i64 e.rg, .int .i64 e.at_, .int .i64 e.sz]
def atB (es : List Bt) (h : Nat) : Option Bt := if hasB es h = true then es[plI es h]? else none
def FindP (es : List Bt) (h : Nat) (w : World) (e : Ending) (w' : World) : Prop := e = .returned (.tuple #[locV (atB es h), .bool (hasB es h)]) /\ Fq w w'
theorem find_ok (hE : OwnE w 0 v es) (hs : SortedB es) (hl : es.length <= 255) (d p : Int) (h : Nat) :
  Calls Tryz.prog 138 #[bkV d p v, .int .u64 h] w (FindP es h w) := by
 obtain ⟨va, vc, rfl, -, -, -, -⟩ := oSl hE;obtain ⟨n, hn⟩ : ∃ n, es.length = n := ⟨_, rfl⟩
 obtain ⟨w1, hw1⟩ : ∃ w1, (w.alloc (.cells #[.int .i64 d, .int .i64 p, .slice va n vc] 129)).alloc (.cells #[.int .i64 0, .int .i64 0, .int .i64 0] 116) = w1 := ⟨_, rfl⟩
 obtain ⟨b0, b1, F1⟩ := heap_two hw1;have HB := hid (fun W (F : Fq w1 W) => aI (cells3 (F.heap b0 (fun h => h))) (cells3 (F.heap b1 (fun h => h))));have HPl := hid (place_ok (oN hE F1) hs hl d p h);have HE := hid (oN hE F1);have HF1 := hid F1;have HN := hid hn;have HS := hid hs;have hsz : w1.heap.size = w.heap.size + 2 := by rw [<- hw1]; simp
 have HSz := hid hsz;obtain ⟨⟨x0, x1, x2, xz, xl⟩, ⟨y0, y1, y2, yz, yl⟩⟩ := HB.out _ (Fr.refl _ _);have HW := hid hw1;rw [hn] at HPl ⊢;clear hw1 b0 b1 F1 hE hs hl hn hsz;go_enter Tryz.func138, Tryz.ntmps138;go_upto_region 1 with fail
 rw [HW.out];go_wp2_with fail
 refine HPl.out.mono ?_;rintro e w2 ⟨rfl, F2⟩;have HF2 := hid F2;clear F2 x0 x1 x2 xz xl y0 y1 y2 yz yl;obtain ⟨⟨x0, x1, x2, xz, xl⟩, ⟨y0, y1, y2, yz, yl⟩⟩ := HB.out _ HF2.out;cases hb : hasB es h with
 | false =>
  have HH := hid hb;clear hb;go_wp2_with fail
  refine bodyPost_ret (v := .tuple #[.agg #[.int .i64 0, .int .i64 0, .int .i64 0], .bool false]) (by simp [results, go_sem, *]) rfl ⟨?_, ?_⟩
  ·unfold atB; rw [HH.out]; rfl
  ·exact ((((HF1.out.trans HF2.out (fun _ _ h => h))).setNew (by omega) _).setNew (by omega) _).setNew (by omega) _
 | true =>
  obtain ⟨x, hx, hxh⟩ := (hasB_iff HS.out).1 hb;obtain ⟨g, rfl, hg, u0, u1, u2, u3⟩ := ownE_at (oN HE.out HF2.out) hx;have hpl : plI es h < n := by rw [<- HN.out]; exact (gI.1 hx).1
  obtain ⟨q, hq⟩ : ∃ q, plI es h = q := ⟨_, rfl⟩
  rw [hq] at hpl u0 u1 u2 u3;have hqi : (q : Int) < (n : Int) := by omega
  have HX := hi2 hb (aI hx hq);rw [hq];clear hb hx hxh hq;go_wp2_with fail
  refine bodyPost_ret (v := .tuple #[.agg #[.int .i64 x.rg, .int .i64 x.at_, .int .i64 x.sz], .bool true]) (by simp [results, go_sem, *]) rfl ⟨?_, ?_⟩
  ·unfold atB; rw [HX.out.1, if_pos rfl, HX.out.2.1]; rfl
  ·exact ((((HF1.out.trans HF2.out (fun _ _ h => h))).setNew (by omega) _).setNew (by omega) _).setNew (by omega) _
def PartR (b0 : Nat) (f : Bt -> Bool) (es : List Bt) (w0 : World) (v1 v2 : Value) (w : World) : Prop :=
 (OwnE w b0 v1 (es.filter f) /\ OwnE w b0 v2 (es.filter fun x => !f x)) /\ (∀ g, v1.ownBlock = some g -> v2.ownBlock ≠ some g) /\ Fq w0 w
def PartP (f : Bt -> Bool) (es : List Bt) (w : World) (e : Ending) (w' : World) : Prop := ∃ v1 v2, e = .returned (.tuple #[v1, v2]) /\ PartR w.heap.size f es w v1 v2 w'
theorem cells4b {x3 : Value} (h : w.heap[b]? = some (.cells #[x0, x1, x2, x3] t)) :
  w.cell? ⟨b, 0, none⟩ = some x0 /\ w.cell? ⟨b, 1, none⟩ = some x1 /\ w.cell? ⟨b, 2, none⟩ = some x2 /\ w.cell? ⟨b, 3, none⟩ = some x3 /\ (∀ o, w.frozen? ⟨b, o, none⟩ = false) /\ b < w.heap.size :=
 ⟨by simpa using coh h 0, by simpa using coh h 1, by simpa using coh h 2, by simpa using coh h 3, fun o => foh h o, loh h⟩
theorem own_blkT {g : Nat} (h : w.ownsRow b e size v n xs) (hv : v.ownBlock = some g) : b <= g /\ g < w.heap.size := by
 obtain ⟨_, ⟨h0, _⟩ | ⟨g', cap', cur', h1, hb, hg', _⟩⟩ := h
 ·rw [h0] at hv; cases hv
 ·rw [h1] at hv;have e' : g' = g := Option.some.inj hv;subst e';exact ⟨hb, loh hg'⟩
theorem own_fr1 {S : Nat -> Prop} {w' : World} (h : w.ownsRow base e size v n xs) (F : Fr S w w') (hS : ∀ g, v.ownBlock = some g -> ¬ S g) : w'.ownsRow base e size v n xs := by
 obtain ⟨hl, h0 | ⟨g, cap, cur, hv, hb, hg, r⟩⟩ := h
 ·exact ⟨hl, .inl h0⟩
 ·exact ⟨hl, .inr ⟨g, cap, cur, hv, hb, F.heap hg (hS g (by rw [hv]; rfl)), r⟩⟩
theorem part_step {b0 : Nat} {w0 w1 : World} {v1 v2 v3 : Value} {l1 l2 : List Bt} (h1 : OwnE w b0 v1 l1) (h2 : OwnE w b0 v2 l2) (hd : ∀ g, v1.ownBlock = some g -> v2.ownBlock ≠ some g) (F : Fq w0 w) (hb : w0.heap.size <= b0) (o : Obj)
  (hg : (w.alloc o).grownBy w1 v1.ownBlock) (hat : v3.ownBlock = v1.ownBlock \/ v3.ownBlock = some (w.alloc o).heap.size) : OwnE w1 b0 v2 l2 /\ (∀ g, v3.ownBlock = some g -> v2.ownBlock ≠ some g) /\ Fq w0 w1 := by
 have F1 : Fr (fun b => v1.ownBlock = some b) (w.alloc o) w1 := ⟨hg.os, hg.tape, hg.output, hg.size, fun b hb hn => hg.block b hb (fun e => hn e.symm)⟩;have FA : Fq w (w.alloc o) := (Fr.refl _ _).alloc _;refine ⟨own_fr1 (oN h2 FA) F1 (fun g e2 e1 => hd g e1 e2), fun g hg3 hg2 => ?_, (F.trans FA (fun _ _ h => h)).trans F1 (fun b hb' hs => ?_)⟩
 ·rcases hat with hat | hat
  ·exact hd g (by rw [<- hat]; exact hg3) hg2
  ·rw [hg3] at hat;have e := Option.some.inj hat;have := (own_blkT h2 hg2).2;simp at e; omega
 ·have := (own_blkT h1 hs).1;omega
theorem parted194_ok (hE : OwnE w 0 v es) (hl : es.length <= 255) (cap : Addr) (f : Bt -> Bool) (hf : ∀ (x : Bt), x ∈ es -> ∀ (W : World), Fq w W -> Calls Tryz.prog 194 #[btV x, .pointer (some cap)] W (ValP (.bool (f x)) W)) :
  Calls Tryz.prog 193 #[v, .func (.func 194) #[] #[.pointer (some cap)]] w (PartP f es w) := by
 obtain ⟨i0, hi0, hz0, hz1, hz2⟩ := info_parts Tryz.info118;obtain ⟨va, vc, rfl, -, -, -, -⟩ := oSl hE;obtain ⟨n, hn⟩ : ∃ n, es.length = n := ⟨_, rfl⟩
 have hn9 : n <= 255 := by omega
 have HE := hid hE;have HN := hid hn;have HC := hid hf;rw [hn];clear hE hn hl hf;go_enter Tryz.func193, Tryz.ntmps193;go_wp2_with fail
 go_loopw [4, 5, 10] (fun v1 v2 iv wr => ∃ k : Nat, k <= n /\ iv = .int .i64 k /\ PartR w.heap.size f (es.take k) w v1 v2 wr) (fun _ _ iv _ => n - (intOf iv).toNat)
 case atStart => exact ⟨0, Nat.zero_le _, rfl, ⟨World.ownsRow_nil _ _ _ _, World.ownsRow_nil _ _ _ _⟩, (fun g h => by cases h), Fr.refl _ _⟩
 case round =>
  obtain ⟨k, hk, rfl, hP⟩ := hrel;have HP := hid hP;by_cases hlt : k < n
  ·have hd : decide (k < n) = true := by simp [hlt]
   have hki : (k : Int) < (n : Int) := by omega
   obtain ⟨x, hx⟩ : ∃ x, es[k]? = some x := ⟨_, gE (by rw [HN.out]; exact hlt)⟩
   obtain ⟨g, rfl, hg, u0, u1, u2, u3⟩ := ownE_at (oN HE.out hP.2.2) hx;obtain ⟨W, hW⟩ : ∃ W, wr.alloc (.cells #[.int .u64 x.hash, .int .i64 x.rg, .int .i64 x.at_, .int .i64 x.sz] 118) = W := ⟨_, rfl⟩
   have bW : W.heap[wr.heap.size]? = some (.cells #[.int .u64 x.hash, .int .i64 x.rg, .int .i64 x.at_, .int .i64 x.sz] 118) := by rw [<- hW]; exact han _ _
   have HFW := hid (show Fq wr W by rw [<- hW]; exact (Fr.refl _ _).alloc _);have HX := hid hx;have HW := hid hW;have HBW := hid bW;have HCx := hid (HC.out x (gM hx) W (hP.2.2.trans HFW.out (fun _ _ h => h)));clear hx hW bW hP;go_upto_region 4 with fail
   rw [HW.out];obtain ⟨t0, t1, t2, t3, tz, tl⟩ := cells4b HBW.out;clear u0 u1 u2 u3;go_wp2_with fail
   refine HCx.out.mono ?_;rintro e W2 ⟨rfl, F2⟩;obtain ⟨⟨h1, h2⟩, hdj, hFr⟩ := HP.out;have F02 : Fq wr W2 := HFW.out.trans F2 (fun _ _ h => h);have h1' := oN h1 F02;have h2' := oN h2 F02;obtain ⟨a1, c1, rfl, -, -, -, -⟩ := oSl h1';obtain ⟨a2, c2, rfl, -, -, -, -⟩ := oSl h2';obtain ⟨t0, t1, t2, t3, tz, tl⟩ := cells4b (F2.heap HBW.out (fun h => h));have hle1 : ((es.take k).filter f).length <= 255 := nT (List.length_filter_le _ _) (by rw [lT]; omega);have hle2 : ((es.take k).filter (fun x => !f x)).length <= 255 := nT (List.length_filter_le _ _) (by rw [lT]; omega);have hb0 : w.heap.size <= W2.heap.size := nT hFr.size F02.size;have htk : es.take (k + 1) = es.take k ++ [x] := by rw [List.take_add_one, HX.out]; rfl
   have HT := hid htk;have H12 := hi2 h1' (aI h2' (aI hdj (hFr.trans F02 (fun _ _ h => h))));have HO1 := hid h1';have HO2 := hid h2';have HL1 := hid hle1;have HL2 := hid hle2;clear h1 h2 h1' h2' hdj hFr F2 F02 htk hle1 hle2;cases hfx : f x with
   | true =>
    have HFX := hid hfx;clear hfx;go_wp2_with (at_builtin; refine wpList_append_own_at _ rfl (.tmp 17) (.tmp 19) 127 rfl w.heap.size 118 i0 _ 4 32 Tryz.underlying127 hi0 hz0 hz1 hz2 rfl (by decide) _ _ _ rfl (HO1.out.alloc _) ⟨W2.heap.size, 0, none⟩ 1 1 (btC x) rfl rfl (World.news_of_block (cs := #[.int .u64 x.hash, .int .i64 x.rg, .int .i64 x.at_, .int .i64 x.sz]) (t := 118) (fr := (0, 0)) (han _ _)) (by simp [Value.oneCell']) (by have := HL1.out; simp only [maxLen]; omega) (by have := HL1.out; omega) (by simp; omega) ?_)
    intro v3 W3 hown3 hg3 hnil3 hat3;have hst := part_step (v3 := v3) H12.out.1 H12.out.2.1 H12.out.2.2.1 H12.out.2.2.2 (nR _) _ hg3 (by simpa using hat3);have HQ := hid (show PartR w.heap.size f (es.take (k + 1)) w v3 (.slice a2 ((es.take k).filter (fun x => !f x)).length c2) W3 by
     have e1 : (es.take (k + 1)).filter f = (es.take k).filter f ++ [x] := (by rw [HT.out, List.filter_append]; simp [HFX.out]);have e2 : (es.take (k + 1)).filter (fun x => !f x) = (es.take k).filter (fun x => !f x) := (by rw [HT.out, List.filter_append]; simp [HFX.out]);refine ⟨⟨?_, by rw [e2]; exact hst.1⟩, hst.2.1, hst.2.2⟩;unfold OwnE;rw [e1, lA, List.flatMap_append];simpa using hown3)
    clear hst hown3 hg3 hnil3 hat3;go_wp2_with fail
    go_roundw;case rel => exact ⟨k + 1, hlt, by go_num, HQ.out⟩
    case measure => simp [intOf]; omega
   | false =>
    have HFX := hid hfx;clear hfx;go_wp2_with (at_builtin; refine wpList_append_own_at _ rfl (.tmp 21) (.tmp 23) 127 rfl w.heap.size 118 i0 _ 4 32 Tryz.underlying127 hi0 hz0 hz1 hz2 rfl (by decide) _ _ _ rfl (HO2.out.alloc _) ⟨W2.heap.size, 0, none⟩ 1 1 (btC x) rfl rfl (World.news_of_block (cs := #[.int .u64 x.hash, .int .i64 x.rg, .int .i64 x.at_, .int .i64 x.sz]) (t := 118) (fr := (0, 0)) (han _ _)) (by simp [Value.oneCell']) (by have := HL2.out; simp only [maxLen]; omega) (by have := HL2.out; omega) (by simp; omega) ?_)
    intro v3 W3 hown3 hg3 hnil3 hat3;have hst := part_step (v3 := v3) H12.out.2.1 H12.out.1 (fun g e2 e1 => H12.out.2.2.1 g e1 e2) H12.out.2.2.2 (nR _) _ hg3 (by simpa using hat3);have HQ := hid (show PartR w.heap.size f (es.take (k + 1)) w (.slice a1 ((es.take k).filter f).length c1) v3 W3 by
     have e1 : (es.take (k + 1)).filter f = (es.take k).filter f := (by rw [HT.out, List.filter_append]; simp [HFX.out]);have e2 : (es.take (k + 1)).filter (fun x => !f x) = (es.take k).filter (fun x => !f x) ++ [x] := (by rw [HT.out, List.filter_append]; simp [HFX.out]);refine ⟨⟨by rw [e1]; exact hst.1, ?_⟩, (fun g e1 e2 => hst.2.1 g e2 e1), hst.2.2⟩;unfold OwnE;rw [e2, lA, List.flatMap_append];simpa using hown3)
    clear hst hown3 hg3 hnil3 hat3;go_wp2_with fail
    go_roundw;case rel => exact ⟨k + 1, hlt, by go_num, HQ.out⟩
    case measure => simp [intOf]; omega
  ·obtain rfl : k = n := by omega
   have hd : decide (k < k) = false := by simp
   go_wp2_with fail
   go_ret2;rw [tL (by rw [HN.out]; exact nR _)] at HP;exact ⟨_, _, rfl, HP.out⟩
theorem parted247_ok (hE : OwnE w 0 v es) (hl : es.length <= 255) (cap : Addr) (f : Bt -> Bool) (hf : ∀ (x : Bt), x ∈ es -> ∀ (W : World), Fq w W -> Calls Tryz.prog 247 #[btV x, .pointer (some cap)] W (ValP (.bool (f x)) W)) :
  Calls Tryz.prog 193 #[v, .func (.func 247) #[] #[.pointer (some cap)]] w (PartP f es w) := by
 obtain ⟨i0, hi0, hz0, hz1, hz2⟩ := info_parts Tryz.info118;obtain ⟨va, vc, rfl, -, -, -, -⟩ := oSl hE;obtain ⟨n, hn⟩ : ∃ n, es.length = n := ⟨_, rfl⟩
 have hn9 : n <= 255 := by omega
 have HE := hid hE;have HN := hid hn;have HC := hid hf;rw [hn];clear hE hn hl hf;go_enter Tryz.func193, Tryz.ntmps193;go_wp2_with fail
 go_loopw [4, 5, 10] (fun v1 v2 iv wr => ∃ k : Nat, k <= n /\ iv = .int .i64 k /\ PartR w.heap.size f (es.take k) w v1 v2 wr) (fun _ _ iv _ => n - (intOf iv).toNat)
 case atStart => exact ⟨0, Nat.zero_le _, rfl, ⟨World.ownsRow_nil _ _ _ _, World.ownsRow_nil _ _ _ _⟩, (fun g h => by cases h), Fr.refl _ _⟩
 case round =>
  obtain ⟨k, hk, rfl, hP⟩ := hrel;have HP := hid hP;by_cases hlt : k < n
  ·have hd : decide (k < n) = true := by simp [hlt]
   have hki : (k : Int) < (n : Int) := by omega
   obtain ⟨x, hx⟩ : ∃ x, es[k]? = some x := ⟨_, gE (by rw [HN.out]; exact hlt)⟩
   obtain ⟨g, rfl, hg, u0, u1, u2, u3⟩ := ownE_at (oN HE.out hP.2.2) hx;obtain ⟨W, hW⟩ : ∃ W, wr.alloc (.cells #[.int .u64 x.hash, .int .i64 x.rg, .int .i64 x.at_, .int .i64 x.sz] 118) = W := ⟨_, rfl⟩
   have bW : W.heap[wr.heap.size]? = some (.cells #[.int .u64 x.hash, .int .i64 x.rg, .int .i64 x.at_, .int .i64 x.sz] 118) := by rw [<- hW]; exact han _ _
   have HFW := hid (show Fq wr W by rw [<- hW]; exact (Fr.refl _ _).alloc _);have HX := hid hx;have HW := hid hW;have HBW := hid bW;have HCx := hid (HC.out x (gM hx) W (hP.2.2.trans HFW.out (fun _ _ h => h)));clear hx hW bW hP;go_upto_region 4 with fail
   rw [HW.out];obtain ⟨t0, t1, t2, t3, tz, tl⟩ := cells4b HBW.out;clear u0 u1 u2 u3;go_wp2_with fail
   refine HCx.out.mono ?_;rintro e W2 ⟨rfl, F2⟩;obtain ⟨⟨h1, h2⟩, hdj, hFr⟩ := HP.out;have F02 : Fq wr W2 := HFW.out.trans F2 (fun _ _ h => h);have h1' := oN h1 F02;have h2' := oN h2 F02;obtain ⟨a1, c1, rfl, -, -, -, -⟩ := oSl h1';obtain ⟨a2, c2, rfl, -, -, -, -⟩ := oSl h2';obtain ⟨t0, t1, t2, t3, tz, tl⟩ := cells4b (F2.heap HBW.out (fun h => h));have hle1 : ((es.take k).filter f).length <= 255 := nT (List.length_filter_le _ _) (by rw [lT]; omega);have hle2 : ((es.take k).filter (fun x => !f x)).length <= 255 := nT (List.length_filter_le _ _) (by rw [lT]; omega);have hb0 : w.heap.size <= W2.heap.size := nT hFr.size F02.size;have htk : es.take (k + 1) = es.take k ++ [x] := by rw [List.take_add_one, HX.out]; rfl
   have HT := hid htk;have H12 := hi2 h1' (aI h2' (aI hdj (hFr.trans F02 (fun _ _ h => h))));have HO1 := hid h1';have HO2 := hid h2';have HL1 := hid hle1;have HL2 := hid hle2;clear h1 h2 h1' h2' hdj hFr F2 F02 htk hle1 hle2;cases hfx : f x with
   | true =>
    have HFX := hid hfx;clear hfx;go_wp2_with (at_builtin; refine wpList_append_own_at _ rfl (.tmp 17) (.tmp 19) 127 rfl w.heap.size 118 i0 _ 4 32 Tryz.underlying127 hi0 hz0 hz1 hz2 rfl (by decide) _ _ _ rfl (HO1.out.alloc _) ⟨W2.heap.size, 0, none⟩ 1 1 (btC x) rfl rfl (World.news_of_block (cs := #[.int .u64 x.hash, .int .i64 x.rg, .int .i64 x.at_, .int .i64 x.sz]) (t := 118) (fr := (0, 0)) (han _ _)) (by simp [Value.oneCell']) (by have := HL1.out; simp only [maxLen]; omega) (by have := HL1.out; omega) (by simp; omega) ?_)
    intro v3 W3 hown3 hg3 hnil3 hat3;have hst := part_step (v3 := v3) H12.out.1 H12.out.2.1 H12.out.2.2.1 H12.out.2.2.2 (nR _) _ hg3 (by simpa using hat3);have HQ := hid (show PartR w.heap.size f (es.take (k + 1)) w v3 (.slice a2 ((es.take k).filter (fun x => !f x)).length c2) W3 by
     have e1 : (es.take (k + 1)).filter f = (es.take k).filter f ++ [x] := (by rw [HT.out, List.filter_append]; simp [HFX.out]);have e2 : (es.take (k + 1)).filter (fun x => !f x) = (es.take k).filter (fun x => !f x) := (by rw [HT.out, List.filter_append]; simp [HFX.out]);refine ⟨⟨?_, by rw [e2]; exact hst.1⟩, hst.2.1, hst.2.2⟩;unfold OwnE;rw [e1, lA, List.flatMap_append];simpa using hown3)
    clear hst hown3 hg3 hnil3 hat3;go_wp2_with fail
    go_roundw;case rel => exact ⟨k + 1, hlt, by go_num, HQ.out⟩
    case measure => simp [intOf]; omega
   | false =>
    have HFX := hid hfx;clear hfx;go_wp2_with (at_builtin; refine wpList_append_own_at _ rfl (.tmp 21) (.tmp 23) 127 rfl w.heap.size 118 i0 _ 4 32 Tryz.underlying127 hi0 hz0 hz1 hz2 rfl (by decide) _ _ _ rfl (HO2.out.alloc _) ⟨W2.heap.size, 0, none⟩ 1 1 (btC x) rfl rfl (World.news_of_block (cs := #[.int .u64 x.hash, .int .i64 x.rg, .int .i64 x.at_, .int .i64 x.sz]) (t := 118) (fr := (0, 0)) (han _ _)) (by simp [Value.oneCell']) (by have := HL2.out; simp only [maxLen]; omega) (by have := HL2.out; omega) (by simp; omega) ?_)
    intro v3 W3 hown3 hg3 hnil3 hat3;have hst := part_step (v3 := v3) H12.out.2.1 H12.out.1 (fun g e2 e1 => H12.out.2.2.1 g e1 e2) H12.out.2.2.2 (nR _) _ hg3 (by simpa using hat3);have HQ := hid (show PartR w.heap.size f (es.take (k + 1)) w (.slice a1 ((es.take k).filter f).length c1) v3 W3 by
     have e1 : (es.take (k + 1)).filter f = (es.take k).filter f := (by rw [HT.out, List.filter_append]; simp [HFX.out]);have e2 : (es.take (k + 1)).filter (fun x => !f x) = (es.take k).filter (fun x => !f x) ++ [x] := (by rw [HT.out, List.filter_append]; simp [HFX.out]);refine ⟨⟨by rw [e1]; exact hst.1, ?_⟩, (fun g e1 e2 => hst.2.1 g e2 e1), hst.2.2⟩;unfold OwnE;rw [e2, lA, List.flatMap_append];simpa using hown3)
    clear hst hown3 hg3 hnil3 hat3;go_wp2_with fail
    go_roundw;case rel => exact ⟨k + 1, hlt, by go_num, HQ.out⟩
    case measure => simp [intOf]; omega
  ·obtain rfl : k = n := by omega
   have hd : decide (k < k) = false := by simp
   go_wp2_with fail
   go_ret2;rw [tL (by rw [HN.out]; exact nR _)] at HP;exact ⟨_, _, rfl, HP.out⟩
def freshB (oldest : Int) (x : Bt) : Bool := decide (oldest <= x.rg)
theorem bfresh1_ok {oldest : Int} (hb : w.heap[b3]? = some (.cells #[.int .i64 oldest] 3)) (x : Bt) :
  Calls Tryz.prog 194 #[btV x, .pointer (some ⟨b3, 0, none⟩)] w (ValP (.bool (freshB oldest x)) w) := by
 obtain ⟨w1, hw1⟩ : ∃ w1, w.alloc (.cells #[.int .u64 x.hash, .int .i64 x.rg, .int .i64 x.at_, .int .i64 x.sz] 118) = w1 := ⟨_, rfl⟩
 have b1 : w1.heap[w.heap.size]? = some (.cells #[.int .u64 x.hash, .int .i64 x.rg, .int .i64 x.at_, .int .i64 x.sz] 118) := by rw [<- hw1]; exact han _ _
 have F1 : Fq w w1 := by rw [<- hw1]; exact (Fr.refl _ _).alloc _
 have HF := hid F1;obtain ⟨t0, t1, t2, t3, tz, tl⟩ := cells4b b1;have c0 := coh (F1.heap hb (fun h => h)) 0;simp at c0;obtain ⟨bb, hbb⟩ : ∃ bb, decide (oldest <= x.rg) = bb := ⟨_, rfl⟩
 have hfb : freshB oldest x = bb := hbb;have HB := hid hfb;have HW := hid hw1;clear hw1 b1 F1 hb hfb;go_enter Tryz.func194, Tryz.ntmps194;go_upto_region 1 with fail
 rw [HW.out];go_wp2_with fail
 go_ret;exact ⟨by rw [HB.out]; rfl, HF.out⟩
def BkP (d p : Int) (es : List Bt) (w : World) (e : Ending) (w' : World) : Prop := ∃ a c, e = .returned (bkV d p (.slice a es.length c)) /\ OwnE w' w.heap.size (.slice a es.length c) es /\ Fq w w'
theorem bfresh_ok (hE : OwnE w 0 v es) (hl : es.length <= 255) (d p oldest : Int) :
  Calls Tryz.prog 132 #[bkV d p v, .int .i64 oldest] w (BkP d p (es.filter (freshB oldest)) w) := by
 obtain ⟨va, vc, rfl, -, -, -, -⟩ := oSl hE;obtain ⟨n, hn⟩ : ∃ n, es.length = n := ⟨_, rfl⟩
 obtain ⟨w1, hw1⟩ : ∃ w1, ((w.alloc (.cells #[.int .i64 d, .int .i64 p, .slice va n vc] 129)).alloc (.cells #[.int .i64 oldest] 3)).alloc (.cells #[.int .i64 0, .int .i64 0, .slice none 0 0] 129) = w1 := ⟨_, rfl⟩
 obtain ⟨b0, b1, b2, F1⟩ := heap_three hw1;have HB := hid (fun W (F : Fq w1 W) => aI (cells3 (F.heap b0 (fun h => h))) (cells3 (F.heap b2 (fun h => h))));have hE1 := oN hE F1;have HPt := hid (parted194_ok hE1 hl ⟨w.heap.size + 1, 0, none⟩ (freshB oldest) (fun x _ W F => bfresh1_ok (F.heap b1 (fun h => h)) x));have HF1 := hid F1;have HN := hid hn;have hsz : w1.heap.size = w.heap.size + 3 := by rw [<- hw1]; simp
 have HSz := hid hsz;obtain ⟨⟨x0, x1, x2, xz, xl⟩, ⟨y0, y1, y2, yz, yl⟩⟩ := HB.out _ (Fr.refl _ _);have HW := hid hw1;rw [hn] at HPt ⊢;clear hw1 b0 b1 b2 F1 hE hl hn hsz hE1;go_enter Tryz.func132, Tryz.ntmps132;go_upto_region 1 with fail
 rw [HW.out];go_wp2_with fail
 refine HPt.out.mono ?_;rintro e w2 ⟨v1, v2, rfl, ⟨h1, -⟩, -, F2⟩;obtain ⟨a1, c1, rfl, -, -, -, -⟩ := oSl h1;have H2 := hi2 h1 F2;clear h1 F2 x0 x1 x2 xz xl y0 y1 y2 yz yl;obtain ⟨⟨x0, x1, x2, xz, xl⟩, ⟨y0, y1, y2, yz, yl⟩⟩ := HB.out _ H2.out.2;go_wp2_with fail
 refine (with_ok d p va n vc a1 (es.filter (freshB oldest)).length c1 w2).mono ?_;rintro e w3 ⟨rfl, F3⟩;have HF3 := hid F3;have hs3 : w.heap.size + 2 < w3.heap.size := nLL yl F3.size;clear F3 x0 x1 x2 xz xl y0 y1 y2 yz yl;obtain ⟨⟨x0, x1, x2, xz, xl⟩, ⟨y0, y1, y2, yz, yl⟩⟩ := HB.out _ (H2.out.2.trans HF3.out (fun _ _ h => h));go_wp2_with fail
 have FS : ∀ (W : World) (o : Nat) (u : Value), Fr (fun b => b = w.heap.size + 2) W (W.setCell ⟨w.heap.size + 2, o, none⟩ u) := fun W o u => (Fr.refl (fun b => b = w.heap.size + 2) _).setCell (a := ⟨w.heap.size + 2, o, none⟩) (fun _ => rfl) u
 refine bodyPost_ret (v := bkV d p (.slice a1 (es.filter (freshB oldest)).length c1)) (by simp [results, go_sem, *]) rfl ⟨a1, c1, rfl, ?_, ?_⟩
 ·have hs := HSz.out;exact own_fr1 (own_mono (oN H2.out.1 HF3.out) (by omega)) (((FS _ _ _).trans (FS _ _ _) (fun _ _ h => h)).trans (FS _ _ _) (fun _ _ h => h)) (fun g hg e => by
   have := (own_blkT H2.out.1 hg).1;omega)
 ·exact ((((HF1.out.trans H2.out.2 (fun _ _ h => h)).trans HF3.out (fun _ _ h => h)).setNew (by omega) _).setNew (by omega) _).setNew (by omega) _
def preM (h bits : Nat) : Nat := if bits < 1 \/ 30 < bits then 0 else h / 2 ^ (64 - bits)
theorem pre_lt (hh : h < 18446744073709551616) (hb : bits <= 20) : preM h bits < 1048576 := by
 unfold preM;split
 ·omega
 ·have h1 : h / 2 ^ (64 - bits) <= h / 2 ^ 44 := Nat.div_le_div_left (Nat.pow_le_pow_right (by decide) (by omega)) (by decide);have h2 : h / 2 ^ 44 < 1048576 := by
   rw [show (2 : Nat) ^ 44 = 17592186044416 by decide]; omega
  omega
theorem pre_wrap (hh : h < 18446744073709551616) (hb : bits <= 20) (h0 : ¬ bits < 1) : wrap64 ((h : Int) / 2 ^ (64 - bits)) = (preM h bits : Int) := by
 have h1 := pre_lt hh hb;have e : (h : Int) / 2 ^ (64 - bits) = (preM h bits : Int) := by
  unfold preM;rw [if_neg (by omega)];simp
 rw [e];generalize preM h bits = z at *
 simp only [wrap64]; omega
theorem prefix_ok (h bits : Nat) (hh : h < 18446744073709551616) (hb : bits <= 20) (w : World) : Calls Tryz.prog 191 #[.int .u64 h, .int .i64 bits] w (IntP (preM h bits) w) := by
 by_cases h0 : bits < 1
 ·have d0 : decide (bits < 1) = true := by simp; omega
  have hp : preM h bits = 0 := by unfold preM; rw [if_pos (.inl h0)]
  rw [hp];obtain rfl : bits = 0 := by omega
  go_enter Tryz.func191, Tryz.ntmps191;go_wp2_with fail
  go_ret;exact ⟨rfl, rfl⟩
 ·have d0 : decide ((bits : Int) < 1) = false := by simp; omega
  have d1 : decide ((30 : Int) < (bits : Int)) = false := by simp; omega
  have hp : preM h bits = h / 2 ^ (64 - bits) := by unfold preM; rw [if_neg (by omega)]
  have HP := hid hp;clear hp;go_enter Tryz.func191, Tryz.ntmps191;go_wp2_with fail
  go_ret;exact ⟨by rw [<- pre_wrap hh hb h0]; rfl, rfl⟩
def halfB (d : Nat) (x : Bt) : Bool := decide (preM x.hash (d + 1) % 2 = 1)
theorem split1_ok {d : Nat} {p : Int} (hb : w.heap[b3]? = some (.cells #[.int .i64 d, .int .i64 p, v] 129)) (hd : d < 20) (x : Bt) (hx : x.hash < 18446744073709551616) :
  Calls Tryz.prog 247 #[btV x, .pointer (some ⟨b3, 0, none⟩)] w (ValP (.bool (halfB d x)) w) := by
 obtain ⟨w1, hw1⟩ : ∃ w1, w.alloc (.cells #[.int .u64 x.hash, .int .i64 x.rg, .int .i64 x.at_, .int .i64 x.sz] 118) = w1 := ⟨_, rfl⟩
 have b1 : w1.heap[w.heap.size]? = some (.cells #[.int .u64 x.hash, .int .i64 x.rg, .int .i64 x.at_, .int .i64 x.sz] 118) := by rw [<- hw1]; exact han _ _
 have F1 : Fq w w1 := by rw [<- hw1]; exact (Fr.refl _ _).alloc _
 have HF := hid F1;obtain ⟨t0, t1, t2, t3, tz, tl⟩ := cells4b b1;obtain ⟨c0, c1, c2, cz, cl⟩ := cells3 (F1.heap hb (fun h => h));have HP := hid (prefix_ok x.hash (d + 1) hx (by omega) w1);obtain ⟨q, hq⟩ : ∃ q, preM x.hash (d + 1) = q := ⟨_, rfl⟩
 obtain ⟨bb, hbb⟩ : ∃ bb, decide (q % 2 = 1) = bb := ⟨_, rfl⟩
 have hbq : ((q : Int) % 2 == 1) = bb := by
  rw [<- hbb, Bool.eq_iff_iff];simp;omega
 have hbt : ((q : Int).tmod 2 == 1) = bb := by
  rw [Int.tmod_eq_emod_of_nonneg (by omega)]; exact hbq
 have HB := hid (show halfB d x = bb by unfold halfB; rw [hq]; exact hbb);rw [hq] at HP;have HW := hid hw1;clear hw1 b1 F1 hb hq hbb;go_enter Tryz.func247, Tryz.ntmps247;go_upto_region 1 with fail
 rw [HW.out];go_wp2_with fail
 refine HP.out.mono ?_;rintro e _ ⟨rfl, rfl⟩;go_wp2_with fail
 go_ret;exact ⟨by rw [HB.out]; rfl, HF.out⟩
def SplitP (d p : Nat) (es : List Bt) (w : World) (e : Ending) (w' : World) : Prop :=
 ∃ a0 c0 a1 c1, e = .returned (.agg #[.int .i64 ((d + 1 : Nat) : Int), .int .i64 ((2 * p : Nat) : Int), .slice a0 (es.filter fun x => !halfB d x).length c0, .int .i64 ((d + 1 : Nat) : Int), .int .i64 ((2 * p + 1 : Nat) : Int), .slice a1 (es.filter (halfB d)).length c1]) /\
  OwnE w' w.heap.size (.slice a0 (es.filter fun x => !halfB d x).length c0) (es.filter fun x => !halfB d x) /\ OwnE w' w.heap.size (.slice a1 (es.filter (halfB d)).length c1) (es.filter (halfB d)) /\ Fq w w'
theorem bsplit_ok (hE : OwnE w 0 v es) (hl : es.length <= 255) (hx : ∀ x ∈ es, x.hash < 18446744073709551616) (d p : Nat) (hd : d < 20) (hp : p < 1048576) :
  Calls Tryz.prog 196 #[bkV d p v] w (SplitP d p es w) := by
 obtain ⟨va, vc, rfl, -, -, -, -⟩ := oSl hE;obtain ⟨n, hn⟩ : ∃ n, es.length = n := ⟨_, rfl⟩
 obtain ⟨w1, hw1⟩ : ∃ w1, (w.alloc (.cells #[.int .i64 d, .int .i64 p, .slice va n vc] 129)).alloc (.cells #[.int .i64 0, .int .i64 0, .slice none 0 0, .int .i64 0, .int .i64 0, .slice none 0 0] 301) = w1 := ⟨_, rfl⟩
 obtain ⟨b0, b1, F1⟩ := heap_two hw1;have HB := hid (fun W (F : Fq w1 W) => aI (cells3 (F.heap b0 (fun h => h))) (cells6 (F.heap b1 (fun h => h))));have hE1 := oN hE F1;have HPt := hid (parted247_ok hE1 hl ⟨w.heap.size, 0, none⟩ (halfB d) (fun x hxm W F => split1_ok (F.heap b0 (fun h => h)) hd x (hx x hxm)));have HF1 := hid F1;have HN := hid hn;have hsz : w1.heap.size = w.heap.size + 2 := by rw [<- hw1]; simp
 have HSz := hid hsz;obtain ⟨⟨x0, x1, x2, xz, xl⟩, ⟨y0, y1, y2, y3, y4, y5, yz, yl⟩⟩ := HB.out _ (Fr.refl _ _);have HW := hid hw1;rw [hn] at HPt ⊢;clear hw1 b0 b1 F1 hE hl hn hsz hE1 hx;go_enter Tryz.func196, Tryz.ntmps196;go_upto_region 1 with fail
 rw [HW.out];go_wp2_with fail
 refine HPt.out.mono ?_;rintro e w2 ⟨v1, v2, rfl, ⟨h1, h2⟩, -, F2⟩;obtain ⟨a1, c1, rfl, -, -, -, -⟩ := oSl h1;obtain ⟨a0, c0, rfl, -, -, -, -⟩ := oSl h2;have H2 := hi2 h1 (aI h2 F2);clear h1 h2 F2 x0 x1 x2 xz xl y0 y1 y2 y3 y4 y5 yz yl;obtain ⟨⟨x0, x1, x2, xz, xl⟩, ⟨y0, y1, y2, y3, y4, y5, yz, yl⟩⟩ := HB.out _ H2.out.2.2;go_wp2_with fail
 have FS : ∀ (W : World) (o : Nat) (u : Value), Fr (fun b => b = w.heap.size + 1) W (W.setCell ⟨w.heap.size + 1, o, none⟩ u) := fun W o u => (Fr.refl (fun b => b = w.heap.size + 1) _).setCell (a := ⟨w.heap.size + 1, o, none⟩) (fun _ => rfl) u
 have hs := HSz.out;have F6 : ∀ u0 u1 u2 u3 u4 u5 : Value, Fr (fun b => b = w.heap.size + 1) w2 ((((((w2.setCell ⟨w.heap.size + 1, 0, none⟩ u0).setCell ⟨w.heap.size + 1, 1, none⟩ u1).setCell ⟨w.heap.size + 1, 2, none⟩ u2).setCell ⟨w.heap.size + 1, 3, none⟩ u3).setCell ⟨w.heap.size + 1, 4, none⟩ u4).setCell ⟨w.heap.size + 1, 5, none⟩ u5) := fun u0 u1 u2 u3 u4 u5 =>
  ((((((FS _ _ _).trans (FS _ _ _) (fun _ _ h => h)).trans (FS _ _ _) (fun _ _ h => h)).trans (FS _ _ _) (fun _ _ h => h)).trans (FS _ _ _) (fun _ _ h => h)).trans (FS _ _ _) (fun _ _ h => h))
 have F0 := HF1.out.trans H2.out.2.2 (fun _ _ h => h);have HO := hid (fun (v : Value) (l : List Bt) (h : OwnE w2 w1.heap.size v l) (u0 u1 u2 u3 u4 u5 : Value) => (own_fr1 (own_mono h (by omega)) (F6 u0 u1 u2 u3 u4 u5) (fun g hg e => by
   have := (own_blkT h hg).1;omega) : OwnE _ w.heap.size v l))
 have HA := hid H2.out.1;have HB2 := hid H2.out.2.1;have HF6 := hid (fun u0 u1 u2 u3 u4 u5 => F0.trans (F6 u0 u1 u2 u3 u4 u5) (fun b hb e => by omega));clear FS F6 F0 hs;refine bodyPost_ret (v := .agg #[.int .i64 ((d : Int) + 1), .int .i64 (2 * (p : Int)), .slice a0 (es.filter fun x => !halfB d x).length c0, .int .i64 ((d : Int) + 1), .int .i64 (2 * (p : Int) + 1), .slice a1 (es.filter (halfB d)).length c1]) (by simp [results, go_sem, *]) rfl ⟨a0, c0, a1, c1, by simp, HO.out _ _ HB2.out _ _ _ _ _ _, HO.out _ _ HA.out _ _ _ _ _ _, HF6.out _ _ _ _ _ _⟩
end Go.Proofs.YtgdhaaokolfdoaaGreatDoor
