/- A pack of texts: Fl, Fr, St, Md, WR. Conditions: those that each text names. -/
import Derived.Test.YtgdhaaokolfdoaaGreatDoorNAB
import Derived.Test.YtgdhaaokolfdoaaGreatDoorNAA
import Derived.Laws.BitsAllLaws
import Derived.RangeFuncBox
import Derived.Outline
import Derived.Carry
import Derived.ProofKit
import Derived.OpenShut
import Derived.Deep.Slices
import Derived.Deep.Fields
import Derived.ChangeSame
set_option maxHeartbeats 16000000
set_option maxRecDepth 100000
set_option linter.all false
namespace Go.Proofs.YtgdhaaokolfdoaaGreatDoor
open Go.RowKit Go.Sg
variable {w : World} {d : Nat} {at_ n : Int}
theorem sectors_at (h : w.cell? ⟨d, 0, none⟩ = some (.int .i64 n)) :
  Calls Tryz.prog 92 #[.pointer (some ⟨d, 0, none⟩)] w fun e w' => e = .returned (.int .i64 n) /\ w = w' := by
 go_enter Tryz.func92, Tryz.ntmps92;go_wp2
 go_ret;exact ⟨rfl, rfl⟩
theorem size_at (h : w.cell? ⟨d, 1, none⟩ = some (.int .i64 n)) :
  Calls Tryz.prog 93 #[.pointer (some ⟨d, 0, none⟩)] w fun e w' => e = .returned (.int .i64 n) /\ w = w' := by
 go_enter Tryz.func93, Tryz.ntmps93;go_wp2
 go_ret;exact ⟨rfl, rfl⟩
theorem newdev_ok (s z : Int) (h1 : 1 <= s) (h2 : s <= 16384) (h3 : 96 <= z) (h4 : z <= 512) (w : World) :
  Calls Tryz.prog 20 #[.int .i64 s, .int .i64 z] w fun e w' => e = .returned (.pointer (some ⟨w.heap.size + 2, 0, none⟩)) /\
   w'.heap[w.heap.size]? = some (.map #[] 0) /\ w'.heap[w.heap.size + 1]? = some (.map #[] 0) /\
   w'.heap[w.heap.size + 1 + 1]? = some (.cells #[.int .i64 s, .int .i64 z, .map (some w.heap.size), .slice none 0 0, .map (some (w.heap.size + 1)), .int .i64 0, .int .i64 0, .bool false] 151) /\ Fq w w' := by
 have hmm := fun (t : TypeId) (W : World) => run_makeMap (P := Tryz.prog) t W
 go_enter Tryz.func20, Tryz.ntmps20;go_wp2
 go_ret;exact ⟨rfl, heap_three rfl⟩
theorem there_yes (h : w.cell? ⟨d, 0, none⟩ = some (.int .i64 n)) (h1 : 0 <= at_) (h2 : at_ < n) :
  Calls Tryz.prog 230 #[.pointer (some ⟨d, 0, none⟩), .int .i64 at_] w fun e w' => e = .returned (.bool true) /\ w = w' := by
 go_enter Tryz.func230, Tryz.ntmps230;go_wp2
 go_ret;exact ⟨rfl, rfl⟩
theorem ready_ok (h : w.cell? ⟨d, 0, none⟩ = some (.int .i64 n)) (hd : w.cell? ⟨d, 7, none⟩ = some (.bool false)) (h1 : 0 <= at_) (h2 : at_ < n) :
  Calls Tryz.prog 173 #[.pointer (some ⟨d, 0, none⟩), .int .i64 at_] w fun e w' => e = .returned (.int .i64 0) /\ w = w' := by
 have H := hid (there_yes h h1 h2);go_enter Tryz.func173, Tryz.ntmps173;go_wp2_with (go_at_call 230; refine H.out.mono ?_; rintro e w' ⟨rfl, rfl⟩)
 go_ret;exact ⟨rfl, rfl⟩
end Go.Proofs.YtgdhaaokolfdoaaGreatDoor
namespace Go.Sg
open Go.RowKit
def mutT : List Nat := [156, 151, 256, 29, 260, 264, 196, 22]
def Mut (w : World) (b : Nat) : Prop := ∀ c t f, w.heap[b]? = some (.cells c t f) -> t ∈ mutT
variable {w w' w1 : World} {b base bf bq d n : Nat} {c : Array Value} {t : TypeId} {f : Nat × Nat} {S : Nat -> Prop}
theorem Mut.cells (h : w.heap[b]? = some (.cells c t f)) (ht : t ∈ mutT) : Mut w b := by
 intro c' t' f' h';rw [h] at h'; cases h'; exact ht
theorem Mut.map {l : Array MapEntry} {ck : Nat} (h : w.heap[b]? = some (.map l ck)) : Mut w b := by
 intro c' t' f' h';rw [h] at h'; cases h'
structure Dev where
 sectors : Nat
 size : Nat
 fast : Int -> Option (List Int)
 loose : List (Int × List Int)
 armed : Nat
 acts : Nat
 down : Bool
def FastIs (w : World) (size : Nat) : Option Value -> Option (List Int) -> Prop
 | none, none => True
 | some v, some bs => ∃ b off cap, v = .slice (some ⟨b, off, none⟩) size cap /\ ByV w (some ⟨b, off, none⟩) size cap bs /\ size <= cap
 | _, _ => False
structure Wr where
 at_ : Int
 la : Option Addr
 ll : Nat
 lc : Nat
def Wr.cells (x : Wr) : List Value := [.int .i64 x.at_, .slice x.la x.ll x.lc]
def LooseAt (w : World) (base : Nat) (v : Value) (l : List (Int × List Int)) : Prop :=
 ∃ ws : List Wr, w.ownsRow base 196 2 v ws.length (ws.flatMap Wr.cells) /\ ws.length = l.length /\ ∀ (i : Nat) (x : Wr) (y : Int × List Int), ws[i]? = some x -> l[i]? = some y -> x.at_ = y.1 /\ (ByV w x.la x.ll x.lc y.2 /\ x.ll <= x.lc)
def PastV (w : World) (base N : Nat) (v : Value) : Prop :=
 ∃ n xs, n <= N /\ w.ownsRow base 22 1 v n xs /\ ∀ x ∈ xs, ∃ a k cap bs, x = .slice a k cap /\ ByV w a k cap bs /\ k <= 512
structure DevAt (w : World) (base d bf bq : Nat) (x : Dev) : Prop where
 dc : ∃ lv, w.heap[d]? = some (.cells #[.int .i64 x.sectors, .int .i64 x.size, .map (some bf), lv, .map (some bq), .int .i64 x.armed, .int .i64 x.acts, .bool x.down] 151) /\ LooseAt w base lv x.loose
 fast : ∃ l ck, w.heap[bf]? = some (.map (ents l) ck) /\ (keys l).Nodup /\ ∀ k, FastIs w x.size (look l k) (x.fast k)
 past : ∃ l ck, w.heap[bq]? = some (.map (ents l) ck) /\ (keys l).Nodup /\ (∀ e ∈ l, PastV w base x.acts e.v) /\ ∀ e ∈ l, ∀ e' ∈ l, ∀ g, e.v.ownBlock = some g -> e'.v.ownBlock = some g -> e.k = e'.k
 ge : base <= d /\ base <= bf /\ base <= bq
 ne : bf ≠ bq
 rg : (1 <= x.sectors /\ x.sectors <= 16384) /\ 96 <= x.size /\ x.size <= 512
variable {x : Dev}
theorem DevAt.lts (h : DevAt w base d bf bq x) : d < w.heap.size /\ bf < w.heap.size /\ bq < w.heap.size := by
 obtain ⟨lv, hd, _⟩ := h.dc;obtain ⟨l, ck, hf, _⟩ := h.fast;obtain ⟨l', ck', hq, _⟩ := h.past;exact ⟨loh hd, loh hf, loh hq⟩
theorem oRf {e size : Nat} {v : Value} {xs : List Value} (h : w.ownsRow base e size v n xs) (F : Fr S w w') (hS : ∀ g c, w.heap[g]? = some (.cells c e) -> ¬ S g) : w'.ownsRow base e size v n xs := by
 obtain ⟨hl, h0 | ⟨g, cap, cur, hv, hb, hg, r⟩⟩ := h
 ·exact ⟨hl, .inl h0⟩
 ·exact ⟨hl, .inr ⟨g, cap, cur, hv, hb, F.heap hg (hS g cur hg), r⟩⟩
theorem DevAt.fr (h : DevAt w base d bf bq x) (F : Fr S w w') (h1 : ¬ S d) (h2 : ¬ S bf) (h3 : ¬ S bq)
  (h4 : ∀ g c t, (t = 5 \/ t = 196 \/ t = 22) -> w.heap[g]? = some (.cells c t) -> ¬ S g) : DevAt w' base d bf bq x := by
 obtain ⟨lv, hd, ws, hown, hlen, hws⟩ := h.dc;obtain ⟨l, ck, hf, hfn, hfs⟩ := h.fast;obtain ⟨l', ck', hq, hqn, hqs, hqd⟩ := h.past;have hB : ∀ a n c bs, ByV w a n c bs -> ByV w' a n c bs := fun a n c bs hb => hb.fr F fun b c hc => h4 b c 5 (.inl rfl) hc
 refine ⟨⟨lv, F.heap hd h1, ws, oRf hown F fun g c hg => h4 g c _ (.inr (.inl rfl)) hg, hlen, fun i y z hy hz => ⟨(hws i y z hy hz).1, hB _ _ _ _ (hws i y z hy hz).2.1, (hws i y z hy hz).2.2⟩⟩,
  ⟨l, ck, F.heap hf h2, hfn, fun k => ?_⟩, ⟨l', ck', F.heap hq h3, hqn, fun e he => ?_, hqd⟩, h.ge, h.ne, h.rg⟩
 ·have := hfs k;cases hlk : look l k with
  | none => rw [hlk] at this; cases hx : x.fast k with
   | none => trivial
   | some bs => rw [hx] at this; exact this.elim
  | some v => rw [hlk] at this; cases hx : x.fast k with
   | none => rw [hx] at this; exact this.elim
   | some bs =>
    rw [hx] at this;obtain ⟨b, off, cap, e, hb, hcp⟩ := this;exact ⟨b, off, cap, e, hB _ _ _ _ hb, hcp⟩
 ·obtain ⟨n, xs, hnN, hx, hxs⟩ := hqs e he;refine ⟨n, xs, hnN, oRf hx F fun g c hg => h4 g c _ (.inr (.inr rfl)) hg, fun y hy => ?_⟩;obtain ⟨a, k, cap, bs, e, hb, hk⟩ := hxs y hy;exact ⟨a, k, cap, bs, e, hB _ _ _ _ hb, hk⟩
def Dev.fresh (s z : Nat) : Dev := ⟨s, z, fun _ => none, [], 0, 0, false⟩
structure Plan8 where
 sectors : Int
 size : Int
 regions : Int
 rsectors : Int
 log : Int
 depth : Int
 memory : Int
 seed : Int
abbrev Plan8.val (p : Plan8) : Value := .agg #[.int .i64 p.sectors, .int .i64 p.size, .int .i64 p.regions, .int .i64 p.rsectors, .int .i64 p.log, .int .i64 p.depth, .int .i64 p.memory, .int .u64 p.seed]
structure Blk where
 base : Nat
 s : Nat
 d : Nat
 bf : Nat
 bq : Nat
 bs : Nat
 bw : Nat
 fr : Nat
 dy : Nat
 de : Nat
 bc : Nat
 bp : Nat
 bm : Nat
structure Sto where
 plan : Plan8
 first : Int
 pages : Nat
 room : Nat
 gen : Nat
 hand : Nat
 taken : Nat -> Bool
 fresh : Int -> Bool
 dying : Int -> Bool
 dead : Int -> Bool
 mem : Int -> Option Clk.Pg
 places : Nat
 dev : Dev
def Blk.maps (B : Blk) : List Nat := [B.bf, B.bq, B.fr, B.dy, B.de, B.bm]
abbrev Blk.ptr (B : Blk) : Value := .pointer (some ⟨B.s, 0, none⟩)
inductive Role
 | s | d | bf | bq | bs | bw | fr | dy | de | bc | bp | bm
 deriving DecidableEq
def Role.kind : Role -> Nat
 | .s => 156 + 1
 | .d => 152
 | .bs => 257
 | .bw => 30
 | .bc => 261
 | .bp => 265
 | _ => 0
def Blk.at_ (B : Blk) : Role -> Nat
 | .s => B.s
 | .d => B.d
 | .bf => B.bf
 | .bq => B.bq
 | .bs => B.bs
 | .bw => B.bw
 | .fr => B.fr
 | .dy => B.dy
 | .de => B.de
 | .bc => B.bc
 | .bp => B.bp
 | .bm => B.bm
def MutB (B : Blk) (w : World) (b : Nat) : Prop := Mut w b /\ ((∃ c t f, w.heap[b]? = some (.cells c t f)) \/ ∃ r, b = B.at_ r)
abbrev FrB (B : Blk) (w w' : World) : Prop := Fr (fun b => B.base <= b /\ MutB B w b) w w'
theorem FrB.refl (B : Blk) (w : World) : FrB B w w := Fr.refl _ _
variable {B : Blk}
theorem FrB.trans {w2 : World} (h : FrB B w w1) (k : FrB B w1 w2) : FrB B w w2 := by
 refine Fr.trans h k fun b hb hs => ?_
 rcases Classical.em (B.base <= b /\ MutB B w b) with hm | hm
 ·exact hm
 ·have e := h.block b hb hm;refine ⟨hs.1, fun c t f hc => hs.2.1 c t f (e.trans hc), ?_⟩;rw [<- e]; exact hs.2.2
theorem FrB.none (h : Fq w w') : FrB B w w' := h.mono fun _ _ h => h.elim
theorem FrB.heap (h : FrB B w w') (hb : w.heap[b]? = some (.cells c t f)) (ht : t ∉ mutT) : w'.heap[b]? = some (.cells c t f) :=
 Fr.heap h hb fun hs => ht (hs.2.1 c t f hb)
theorem FrB.alloc (h : FrB B w w1) (o : Obj) : FrB B w (w1.alloc o) := Fr.alloc h o
theorem ByV.frB {a : Option Addr} {c : Nat} {bs : List Int} (h : ByV w a n c bs) (F : FrB B w w') : ByV w' a n c bs :=
 h.fr F fun b c hb hs => absurd (hs.2.1 c 5 _ hb) (by decide)
theorem FrB.keeps (h : FrB B w w') {B0 : Nat} (hB : ∀ r, B.at_ r < B0) : KeepsFrom B0 w w' := by
 refine ⟨h.size, fun k o hk ho hc => Fr.heap h ho fun hs => ?_⟩;rcases hs.2.2 with ⟨c, t, f, e⟩ | ⟨r, e⟩
 ·rw [ho] at e; cases e; cases hc
 ·have := hB r; omega
end Go.Sg
namespace Go.Proofs.YtgdhaaokolfdoaaGreatDoor
open Go.RowKit Go.Sg Go.Sg.Bits CP
structure StoreAt (w : World) (B : Blk) (x : Sto) : Prop where
 s : w.heap[B.s]? = some (.cells #[.pointer (some ⟨B.d, 0, none⟩), .int .i64 x.plan.sectors, .int .i64 x.plan.size, .int .i64 x.plan.regions, .int .i64 x.plan.rsectors, .int .i64 x.plan.log, .int .i64 x.plan.depth, .int .i64 x.plan.memory, .int .u64 x.plan.seed,
  .int .i64 x.first, .int .i64 x.pages, .int .i64 x.room, .int .i64 x.gen, .pointer (some ⟨B.bs, 0, none⟩), .map (some B.fr), .map (some B.dy), .map (some B.de), .pointer (some ⟨B.bc, 0, none⟩)] 156)
 dev : DevAt w B.base B.d B.bf B.bq x.dev
 bits : BitsAt w B.bs B.bw x.pages x.hand x.taken
 fr : SetAt w B.fr x.fresh
 dy : SetAt w B.dy x.dying
 de : SetAt w B.de x.dead
 mem : MemAt w B.bc B.bp B.bm x.places x.mem
 load : ∀ k p, x.mem k = some p -> ∃ bs, ByV w p.la p.ll p.lc bs /\ bs.length <= x.room
 ne : B.maps.Nodup
 ge : B.base <= B.s /\ B.base <= B.bs /\ B.base <= B.bw /\ B.base <= B.fr /\ B.base <= B.dy /\ B.base <= B.de /\ B.base <= B.bc /\ B.base <= B.bp /\ B.base <= B.bm
 rg : x.room <= 493 /\ (1 <= x.gen /\ x.gen <= 2199023255552) /\ 0 <= x.first /\ x.first + x.pages = x.dev.sectors /\ x.room + 19 = x.dev.size
 inr : (∀ k, x.fresh k = true -> 0 <= k /\ k < x.pages) /\ (∀ k, x.dying k = true -> 0 <= k /\ k < x.pages) /\ (∀ k, x.dead k = true -> 0 <= k /\ k < x.pages)
variable {w w' : World} {bs : List Int} {b k n : Nat} {t : TypeId} {c : Array Value} {f : Nat × Nat} {a : Option Addr}
theorem BitsAt_heaps {bs bw hand : Nat} {t : Nat -> Bool} (h : BitsAt w bs bw n hand t) : (∃ c, w.heap[bs]? = some (.cells c 256)) /\ ∃ c, w.heap[bw]? = some (.cells c 29) := by
 obtain ⟨ws, h, _⟩ := h;exact ⟨⟨_, h.s⟩, ⟨_, h.w_⟩⟩
def kd (w : World) (b : Nat) : Nat := match w.heap[b]? with
 | some (.cells _ t _) => t + 1
 | _ => 0
theorem kd_cells (h : w.heap[b]? = some (.cells c t f)) : kd w b = t + 1 := by rw [kd, h]
theorem kd_map {l : Array MapEntry} {ck : Nat} (h : w.heap[b]? = some (.map l ck)) : kd w b = 0 := by rw [kd, h]
variable {B : Blk} {x : Sto}
theorem StoreAt.heaps (h : StoreAt w B x) (r : Role) : B.base <= B.at_ r /\ Mut w (B.at_ r) /\ B.at_ r < w.heap.size /\ kd w (B.at_ r) = r.kind := by
 obtain ⟨g1, g2, g3, g4, g5, g6, g7, g8, g9⟩ := h.ge;obtain ⟨k1, k2, k3⟩ := h.dev.ge;obtain ⟨lv, hd, _⟩ := h.dev.dc;obtain ⟨l, ck, hf, _⟩ := h.dev.fast;obtain ⟨l', ck', hq, _⟩ := h.dev.past;obtain ⟨⟨_, hbs⟩, ⟨_, hbw⟩⟩ := BitsAt_heaps h.bits;obtain ⟨l1, c1, hfr, _⟩ := h.fr.ex;obtain ⟨l2, c2, hdy, _⟩ := h.dy.ex;obtain ⟨l3, c3, hde, _⟩ := h.de.ex;obtain ⟨⟨_, hbc⟩, ⟨_, hbp⟩, _, _, hbm⟩ := h.mem.heaps;cases r
 ·exact ⟨g1, Mut.cells h.s (by decide), loh h.s, kd_cells h.s⟩
 ·exact ⟨k1, Mut.cells hd (by decide), loh hd, kd_cells hd⟩
 ·exact ⟨k2, Mut.map hf, loh hf, kd_map hf⟩
 ·exact ⟨k3, Mut.map hq, loh hq, kd_map hq⟩
 ·exact ⟨g2, Mut.cells hbs (by decide), loh hbs, kd_cells hbs⟩
 ·exact ⟨g3, Mut.cells hbw (by decide), loh hbw, kd_cells hbw⟩
 ·exact ⟨g4, Mut.map hfr, loh hfr, kd_map hfr⟩
 ·exact ⟨g5, Mut.map hdy, loh hdy, kd_map hdy⟩
 ·exact ⟨g6, Mut.map hde, loh hde, kd_map hde⟩
 ·exact ⟨g7, Mut.cells hbc (by decide), loh hbc, kd_cells hbc⟩
 ·exact ⟨g8, Mut.cells hbp (by decide), loh hbp, kd_cells hbp⟩
 ·exact ⟨g9, Mut.map hbm, loh hbm, kd_map hbm⟩
variable {r : Role}
theorem StoreAt.inj (h : StoreAt w B x) {r' : Role} (e : B.at_ r = B.at_ r') : r = r' := by
 have hk : r.kind = r'.kind := by rw [<- (h.heaps r).2.2.2, <- (h.heaps r').2.2.2, e]
 have hn := h.ne;simp only [Blk.maps, List.nodup_cons, List.mem_cons, not_or, List.not_mem_nil, not_false_eq_true, List.nodup_nil, and_true] at hn;obtain ⟨⟨a1, a2, a3, a4, a5⟩, ⟨b1, b2, b3, b4⟩, ⟨c1, c2, c3⟩, ⟨d1, d2⟩, e1⟩ := hn;cases r <;> cases r' <;> first | rfl | (exact absurd hk (by decide)) | (exact absurd e (by assumption)) | (exact absurd e.symm (by assumption))
abbrev FrR (B : Blk) (L : List Role) (w w' : World) : Prop := Fr (fun b => ∃ r ∈ L, b = B.at_ r) w w'
variable {L : List Role}
theorem StoreAt.out (h : StoreAt w B x) (hr : r ∉ L) : ¬ ∃ r' ∈ L, B.at_ r = B.at_ r' := by
 rintro ⟨r', hL, e⟩;exact hr (by rw [h.inj e]; exact hL)
theorem StoreAt.outB (h : StoreAt w B x) (L : List Role) (hb : w.heap[b]? = some (.cells c t f)) (ht : t ∉ [156, 151, 256, 29, 260, 264]) : ¬ ∃ r ∈ L, b = B.at_ r := by
 rintro ⟨r, _, rfl⟩;have h1 := kd_cells hb;rw [(h.heaps r).2.2.2] at h1;cases r <;> simp [Role.kind] at h1 <;> (subst h1; simp at ht)
theorem StoreAt.frB (h : StoreAt w B x) (F : FrR B L w w') : FrB B w w' :=
 Fr.mono F fun b _ hs => by obtain ⟨r, _, rfl⟩ := hs; exact ⟨(h.heaps r).1, (h.heaps r).2.1, .inr ⟨r, rfl⟩⟩
structure Stays (w' : World) (B : Blk) (x : Sto) (L : List Role) : Prop where
 s : Role.s ∉ L -> w'.heap[B.s]? = some (.cells #[.pointer (some ⟨B.d, 0, none⟩), .int .i64 x.plan.sectors, .int .i64 x.plan.size, .int .i64 x.plan.regions, .int .i64 x.plan.rsectors, .int .i64 x.plan.log, .int .i64 x.plan.depth, .int .i64 x.plan.memory, .int .u64 x.plan.seed,
  .int .i64 x.first, .int .i64 x.pages, .int .i64 x.room, .int .i64 x.gen, .pointer (some ⟨B.bs, 0, none⟩), .map (some B.fr), .map (some B.dy), .map (some B.de), .pointer (some ⟨B.bc, 0, none⟩)] 156)
 dev : Role.d ∉ L -> Role.bf ∉ L -> Role.bq ∉ L -> DevAt w' B.base B.d B.bf B.bq x.dev
 bits : Role.bs ∉ L -> Role.bw ∉ L -> BitsAt w' B.bs B.bw x.pages x.hand x.taken
 fr : Role.fr ∉ L -> SetAt w' B.fr x.fresh
 dy : Role.dy ∉ L -> SetAt w' B.dy x.dying
 de : Role.de ∉ L -> SetAt w' B.de x.dead
 mem : Role.bc ∉ L -> Role.bp ∉ L -> Role.bm ∉ L -> MemAt w' B.bc B.bp B.bm x.places x.mem
 load : ∀ k p, x.mem k = some p -> ∃ bs, ByV w' p.la p.ll p.lc bs /\ bs.length <= x.room
theorem StoreAt.stays (h : StoreAt w B x) (F : FrR B L w w') : Stays w' B x L := by
 refine ⟨fun a => Fr.heap F h.s (h.out a), fun a b c => h.dev.fr F (h.out a) (h.out b) (h.out c) fun g c t ht hg => h.outB L hg ?_, fun a b => h.bits.fr F (h.out a) (h.out b), fun a => h.fr.fr F (h.out a), fun a => h.dy.fr F (h.out a), fun a => h.de.fr F (h.out a),
  fun a b c => h.mem.fr F (h.out a) (h.out b) (h.out c), fun k p hp => ?_⟩
 ·rcases ht with rfl | rfl | rfl <;> decide
 ·obtain ⟨bs, hb, hl⟩ := h.load k p hp;exact ⟨bs, hb.fr F fun b c hc => h.outB L hc (by decide), hl⟩
theorem StoreAt.byv (h : StoreAt w B x) (F : FrR B L w w') {c : Nat} (hb : ByV w a n c bs) : ByV w' a n c bs :=
 hb.fr F fun b c hc => h.outB L hc (by decide)
theorem StoreAt.frL (h : StoreAt w B x) (F : Fr (fun b => b = k) w w') (hk : w.heap[k]? = some (.cells c t)) (ht : t ∉ 5 :: mutT) : StoreAt w' B x := by
 have h1 : ∀ r, ¬ B.at_ r = k := fun r e => by
  have h2 := (h.heaps r).2.1 c t;rw [e] at h2;exact ht (List.mem_cons_of_mem _ (h2 _ hk))
 have h4 : ∀ g c' t', t' ∈ 5 :: mutT -> w.heap[g]? = some (.cells c' t') -> ¬ g = k := fun g c' t' h5 hg e => by
  rw [e, hk] at hg; cases hg; exact ht h5
 refine ⟨F.heap h.s (h1 .s), h.dev.fr F (h1 .d) (h1 .bf) (h1 .bq) fun g c' t' h5 hg => h4 g c' t' (by rcases h5 with rfl | rfl | rfl <;> decide) hg, h.bits.fr F (h1 .bs) (h1 .bw), h.fr.fr F (h1 .fr), h.dy.fr F (h1 .dy), h.de.fr F (h1 .de), h.mem.fr F (h1 .bc) (h1 .bp) (h1 .bm), fun k p hp => ?_, h.ne, h.ge, h.rg, h.inr⟩;obtain ⟨bs, hb, hl⟩ := h.load k p hp;exact ⟨bs, hb.fr F fun b c hc => h4 b c 5 (by decide) hc, hl⟩
theorem _root_.Go.Sg.ByV.frL {c : Nat} (h : ByV w a n c bs) (F : Fr (fun b => b = k) w w') {cs : Array Value} (hk : w.heap[k]? = some (.cells cs t)) (ht : t ≠ 5) : ByV w' a n c bs :=
 h.fr F fun b c hc e => by rw [e, hk] at hc; cases hc; exact ht rfl
theorem StoreAt.fr0 (h : StoreAt w B x) (F : Fq w w') : StoreAt w' B x := by
 have S := h.stays (L := []) (F.mono fun _ _ h => h.elim);exact ⟨S.s (by decide), S.dev (by decide) (by decide) (by decide), S.bits (by decide) (by decide), S.fr (by decide), S.dy (by decide), S.de (by decide), S.mem (by decide) (by decide) (by decide), S.load, h.ne, h.ge, h.rg, h.inr⟩
end Go.Proofs.YtgdhaaokolfdoaaGreatDoor
namespace Go.Sg
open Go.RowKit
def leB (n : Nat) : Nat -> List Int
 | 0 => []
 | k + 1 => ((n % 256 : Nat) : Int) :: leB (n / 256) k
theorem leB_length (k : Nat) : ∀ n, (leB n k).length = k := by
 induction k with
 | zero => intro n; rfl
 | succ k ih => intro n; simp [leB, ih]
def leV : List Int -> Nat
 | [] => 0
 | x :: l => x.toNat + 256 * leV l
theorem leV_leB (k : Nat) : ∀ n, n < 256 ^ k -> leV (leB n k) = n := by
 induction k with
 | zero => intro n h; simp at h; subst h; rfl
 | succ k ih =>
  intro n h;have h2 : n / 256 < 256 ^ k := by rw [Nat.pow_succ] at h; omega
  simp only [leB, leV, ih _ h2, Int.toNat_natCast];omega
def crcStep (n : Nat) : Nat := (n / 2) ^^^ (if n % 2 = 1 then 2197175160 else 0)
def crcTab (i : Nat) : Nat := crcStep (crcStep (crcStep (crcStep (crcStep (crcStep (crcStep (crcStep i)))))))
def crcNext (n : Nat) (x : Int) : Nat := (n / 256) ^^^ crcTab ((n % 256) ^^^ x.toNat)
def crcM (bs : List Int) : Nat := bs.foldl crcNext 4294967295 ^^^ 4294967295
def bodyM (size kind place stamp : Nat) (load : List Int) : List Int :=
 leB kind 1 ++ leB load.length 2 ++ leB place 4 ++ leB stamp 8 ++ load ++ List.replicate (size - 19 - load.length) 0
def buildM (size kind place stamp : Nat) (load : List Int) : List Int := bodyM size kind place stamp load ++ leB (crcM (bodyM size kind place stamp load)) 4
variable {kind place size stamp : Nat} {load : List Int}
theorem bodyM_length (h : load.length + 19 <= size) : (bodyM size kind place stamp load).length = size - 4 := by
 simp [bodyM, leB_length]; omega
theorem buildM_length (h : load.length + 19 <= size) : (buildM size kind place stamp load).length = size := by
 rw [buildM, lA, bodyM_length h, leB_length]; omega
def Dev.act (D : Dev) : Dev := { D with acts := D.acts + 1, armed := D.armed - 1, down := if D.armed = 0 then D.down else decide (D.armed = 1) }
def Dev.write (D : Dev) (at_ : Int) (bs : List Int) : Dev × Int :=
 if D.down then (D, 4) else if at_ < 0 \/ (D.sectors : Int) <= at_ then (D, 2) else if bs.length ≠ D.size then (D, 3)
 else ({ D.act with loose := D.loose ++ [(at_, bs)] }, if D.act.down then 4 else 0)
end Go.Sg
namespace Go.Proofs.YtgdhaaokolfdoaaGreatDoor
open Go.RowKit Go.Sg Go.Sg.Bits Go.Sg.Clk CP
def OutR (w : World) (x : Sto) (g : Option (Int × Pg)) (D : Dev) (err : Int) : Prop :=
 match g with
 | none => D = x.dev /\ err = 0
 | some (k, q) => if q.dirty = true then ∃ bs, ByV w q.la q.ll q.lc bs /\ (D, err) = x.dev.write (x.first + k) (buildM x.dev.size 2 k.toNat q.stamp.toNat bs) else D = x.dev /\ err = 0
def KeepOut (B : Blk) (x : Sto) (n : Int) (p : Pg) (w : World) (e : Ending) (w' : World) : Prop :=
 ∃ err g D, e = .returned (.int .i64 err) /\ GoneOk x.mem x.places n g /\ OutR w' x g D err /\ StoreAt w' B { x with mem := putF x.mem n p g, dev := D } /\ FrB B w w'
end Go.Proofs.YtgdhaaokolfdoaaGreatDoor
namespace Go.Sg
open Go.RowKit
structure RdAt (w : World) (r : Nat) (bs : List Int) (bad : Bool) : Prop where
 ex : ∃ a c, w.heap[r]? = some (.cells #[.slice a bs.length c, .bool bad] 377) /\ ByV w a bs.length c bs /\ bs.length <= c
 small : bs.length <= 65536
theorem addr_add (b off j : Nat) : (⟨b, off, none⟩ : Addr).add j = ⟨b, off + j, none⟩ := by unfold Addr.add; split <;> simp_all
variable {w : World} {a : Option Addr} {c m n : Nat} {bs : List Int}
theorem ByV.take (h : ByV w a n c bs) (hm : m <= n) : ByV w a m c (bs.take m) := by
 refine ⟨⟨by rw [lT, h.by_.len]; omega, fun i x hx => ?_⟩, ?_⟩
 ·rw [gT] at hx;split at hx
  ·exact h.by_.at_ i x hx
  ·cases hx
 ·rcases h.at_ with ⟨h0, h1, h2⟩ | h0
  ·exact .inl ⟨h0, by omega, h2⟩
  ·exact .inr h0
theorem ByV.drop (h : ByV w a n c bs) (hm : m <= n) (hc : n <= c) : ByV w (if c = m then a else a.map (·.add m)) (n - m) (c - m) (bs.drop m) := by
 rcases h.at_ with ⟨rfl, h1, h2⟩ | ⟨b, off, cs, rfl, h2⟩
 ·have h3 : m = 0 := by omega
  subst h3;subst h1 h2;have : bs = [] := List.eq_nil_of_length_eq_zero h.by_.len;subst this;exact ByV.nil w
 ·by_cases he : c = m
  ·rw [if_pos he];have hn : n - m = 0 := by omega
   have hd : bs.drop m = [] := List.drop_eq_nil_of_le (by rw [h.by_.len]; omega);rw [hn, hd];exact ⟨⟨rfl, fun i x hx => by simp at hx⟩, .inr ⟨b, off, cs, rfl, h2⟩⟩
  ·rw [if_neg he];refine ⟨⟨by rw [List.length_drop, h.by_.len], fun i x hx => ?_⟩, .inr ⟨b, off + m, cs, by simp [addr_add], h2⟩⟩;rw [List.getElem?_drop] at hx;obtain ⟨b', off', e, hb, hcell⟩ := h.by_.at_ _ x hx;cases e;exact ⟨b, off + m, by simp [addr_add], hb, by rw [Nat.add_assoc]; exact hcell⟩
theorem leV_take_lt (hb : ∀ x ∈ bs, 0 <= x /\ x < 256) : ∀ k, leV (bs.take k) < 256 ^ k := by
 intro k;induction bs generalizing k with
 | nil => simp [leV]; exact Nat.pow_pos (by decide)
 | cons x l ih =>
  cases k with
  | zero => simp [leV]
  | succ k =>
   have h1 := ih (fun y hy => hb y (by simp [hy])) k;have h2 := hb x (by simp);simp only [List.take_succ_cons, leV];rw [Nat.pow_succ];omega
theorem leV_snoc (l : List Int) (x : Int) : leV (l ++ [x]) = leV l + x.toNat * 256 ^ l.length := by
 induction l with
 | nil => simp [leV]
 | cons y l ih =>
  simp only [List.cons_append, leV, ih, lC, Nat.pow_succ];rw [Nat.mul_add, Nat.add_assoc, Nat.mul_comm 256 (x.toNat * _), Nat.mul_assoc]
theorem leV_next (hb : ∀ x ∈ bs, 0 <= x /\ x < 256) {k : Nat} {x : Int} (hx : bs[k]? = some x) : leV (bs.take (k + 1)) = leV (bs.take k) ||| x.toNat * 2 ^ (8 * k) := by
 have hk := (gI.1 hx).1;have e : bs.take (k + 1) = bs.take k ++ [x] := by rw [List.take_add_one, hx]; rfl
 have hl := leV_take_lt hb k;have e2 : (256 : Nat) ^ k = 2 ^ (8 * k) := by rw [Nat.pow_mul]
 rw [e, leV_snoc, lT, Nat.min_eq_left (Nat.le_of_lt hk), e2];rw [e2] at hl;rw [Nat.add_comm, Nat.or_comm, <- Nat.shiftLeft_eq, Nat.shiftLeft_add_eq_or_of_lt hl]
theorem byts_of_own' {base e : Nat} {v : Value} (h : w.ownsRow base e 1 v n (bs.map (Value.int .u8))) (hne : v ≠ .slice none 0 0) :
  ∃ g cap c, v = .slice (some ⟨g, 0, none⟩) n cap /\ w.heap[g]? = some (.cells c e) /\ Byts w (some ⟨g, 0, none⟩) n bs /\ n <= cap := by
 obtain ⟨g, cap, c, rfl, hg, hB⟩ := byts_of_own h hne;refine ⟨g, cap, c, rfl, hg, hB, ?_⟩;obtain ⟨_, ⟨h1, _⟩ | ⟨g', cap', cur, h1, _, _, h2, _⟩⟩ := h
 ·cases h1
 ·cases h1; exact h2
end Go.Sg
namespace Go.Proofs.YtgdhaaokolfdoaaGreatDoor
open Go.RowKit Go.Sg
theorem slice_to (a : Option Addr) (n c m : Nat) (h : m <= c) (W : World) : (Instr.slice 22 (.slice a n c) none (some (.int .i64 m)) none).run Tryz.prog W = .ok (.slice a m c) W := by
 rw [run_slice_h W 22 a n c (by kernel_rfl) .i64 m (by omega) (by omega)];have hs : (sizeOf (Tryz.prog.elem 22)).run Tryz.prog W = .ok 1 W := by kernel_rfl
 rw [hs];simp only [Result.andThen_ok, sliced, Int.toNat_natCast, Nat.zero_mul, Nat.sub_zero];cases a with
 | none => simp
 | some a => simp [Addr.add]
theorem slice_from (a : Option Addr) (n c m : Nat) (h : m <= n) (W : World) : (Instr.slice 22 (.slice a n c) (some (.int .i64 m)) none none).run Tryz.prog W = .ok (.slice (if c = m then a else a.map (·.add m)) (n - m) (c - m)) W := by
 rw [run_slice_l W 22 a n c (by kernel_rfl) .i64 m (by omega) (by omega)];have hs : (sizeOf (Tryz.prog.elem 22)).run Tryz.prog W = .ok 1 W := by kernel_rfl
 rw [hs];simp only [Result.andThen_ok, sliced, Int.toNat_natCast, Nat.mul_one]
variable {w : World} {c n r : Nat} {bs : List Int} {a : Option Addr} {bad : Bool}
theorem clone_c {ad : Addr} {cap : Nat} (h : Byts w (some ad) n bs) (hn : n <= 65536) :
  Calls Tryz.prog 83 #[.slice (some ad) n cap] w fun e w' => ∃ g cap' c, e = .returned (.slice (some ⟨g, 0, none⟩) n cap') /\ w'.heap[g]? = some (.cells c 5) /\ (Byts w' (some ⟨g, 0, none⟩) n bs /\ n <= cap') /\ w.heap.size <= g /\ Fq w w' := by
 obtain ⟨i0, hi0, hz0, hz1, hz2⟩ := info_parts Tryz.info5;have H := hid h;have hlen := h.len;have hcell : ∀ (o : Obj) (j : Nat) (u : Value), (bs.map (Value.int .u8))[j]? = some u -> (w.alloc o).cell? (ad.add j) = some u := fun o j u hu => by
  rw [gP] at hu;cases hx : bs[j]? with
  | none => rw [hx] at hu; cases hu
  | some x =>
   rw [hx] at hu;cases hu;obtain ⟨b', off', e, hb, hc⟩ := h.at_ j x hx;cases e;rw [addr_add];exact (((Fr.refl (fun _ => False) w).alloc o).cell (p := ⟨b', off' + j, none⟩) hb (fun h => h)).trans hc
 have HC := hid hcell;clear h hcell;have q22 : ∀ (w : World) (a : Option Addr) (n c n' c' : Nat), (binOp .eql 22 (.slice a n c) (.slice none n' c')).run Tryz.prog w = .ok (.bool a.isNone) w := fun w a n c n' c' => Lib.run_eql_slice_nil w _ _ a n c n' c' Tryz.underlying22
 go_enter Tryz.func83, Tryz.ntmps83;go_wp2_with (at_builtin; refine wpList_append_own_at _ rfl (.tmp 5) (.tmp 6) 22 rfl 0 5 i0 _ 1 1 Tryz.underlying22 hi0 hz0 hz1 hz2 rfl (by decide) _ _ _ rfl (own_lit0 _ _ _ _ (by simp [go_sem])) ad n cap (bs.map (Value.int .u8)) rfl (by simpa using hlen) ?c1 ?c2 ?c3 ?c4 (Nat.zero_le _) ?_)
 case c1 => exact HC.out _
 case c2 => intro u hu; obtain ⟨x, _, rfl⟩ := List.mem_map.1 hu; rfl
 case c3 => simp [maxLen]; omega
 case c4 => omega
 intro v1 w1 hown hgrow hnil hat;try simp only [List.nil_append, Nat.zero_add] at hown
 have F1 : Fq w w1 := ((Fr.refl (fun _ => False) w).alloc _).trans (S' := fun b => b = w.heap.size) (Fr.of_grownBy hgrow) (fun b hb h => by omega);obtain ⟨g, cap', c, rfl, hg, hB, hcp⟩ := byts_of_own' hown hnil;have hgl : w.heap.size <= g := by
  rcases hat with h | h <;> simp [Value.ownBlock] at h <;> omega
 have HG := hi2 hg (aI (aI hB hcp) (aI hgl F1));clear hown hgrow hat hg hB F1 hgl hcp;go_wp2
 go_ret;exact ⟨g, cap', c, rfl, HG.out.1, HG.out.2.1, HG.out.2.2.1, HG.out.2.2.2⟩
theorem clone_vc (h : SlB w a n c bs) (hn : n <= 65536) :
  Calls Tryz.prog 83 #[.slice a n c] w fun e w' => ∃ a' c', e = .returned (.slice a' n c') /\ (ByV w' a' n c' bs /\ n <= c') /\ Fq w w' := by
 rcases h.at_ with ⟨rfl, rfl, rfl⟩ | ⟨ad, rfl⟩
 ·refine (clone_nil w).mono fun e w' ⟨he, hw⟩ => ⟨none, 0, he, ⟨?_, nR _⟩, by rw [hw]; exact Fr.refl _ _⟩
  have : bs = [] := List.eq_nil_of_length_eq_zero h.by_.len;rw [this]; exact ByV.nil w'
 ·exact (clone_c h.by_ hn).mono fun e w' ⟨g, c', cs, he, hg, hB, _, hF⟩ => ⟨_, _, he, ⟨⟨hB.1, .inr ⟨g, 0, cs, rfl, hg⟩⟩, hB.2⟩, hF⟩
theorem newreader_ok (h : SlB w a n c bs) (hn : n <= 65536) :
  Calls Tryz.prog 215 #[.slice a n c] w fun e w' => ∃ r, e = .returned (.pointer (some ⟨r, 0, none⟩)) /\ RdAt w' r bs false /\ w.heap.size <= r /\ Fq w w' := by
 have HC := hid (clone_vc h hn);have hl := h.by_.len;have HL := hid hl;clear h hl;go_enter Tryz.func215, Tryz.ntmps215;go_wp2_with fail
 refine HC.out.mono ?_;rintro e w1 ⟨a', c', rfl, hb, F1⟩;have HB := hi2 hb F1;clear hb F1;go_wp2
 go_ret;have FN : Fq w1 (w1.alloc (.cells #[.slice a' n c', .bool false] 377)) := (Fr.refl _ _).alloc _;refine ⟨w1.heap.size, rfl, ⟨⟨a', c', by rw [HL.out]; exact han _ _, ?_, by rw [HL.out]; exact HB.out.1.2⟩, by rw [HL.out]; exact hn⟩, HB.out.2.size, HB.out.2.trans FN (fun _ _ h => h)⟩;rw [HL.out];exact HB.out.1.1.fr FN (fun _ _ _ h => h)
theorem raw_ok (h : RdAt w r bs bad) (m : Nat) (hm : m <= bs.length) :
  Calls Tryz.prog 217 #[.pointer (some ⟨r, 0, none⟩), .int .i64 m] w fun e w' => ∃ a' c', e = .returned (.slice a' m c') /\ ByV w' a' m c' (bs.take m) /\ RdAt w' r (bs.drop m) bad /\ Fr (fun b => b = r) w w' := by
 obtain ⟨⟨a, c, hr, hb, hcap⟩, hsm⟩ := h;obtain ⟨c0, c1, hz, hl⟩ := cells2 hr;have st := slice_to a bs.length c m (by omega);have sf := slice_from a bs.length c m hm;have hdr := hb.drop hm hcap;generalize ha2 : (if c = m then a else a.map (·.add m)) = a2 at sf hdr;have HD := hid hdr;have HB := hid hb;have HR := hid hr;have HC := hid (clone_v (w := w) (hb.take hm).slb (by omega));clear ha2 hdr hb hr;go_enter Tryz.func217, Tryz.ntmps217;go_wp2_with fail
 refine HC.out.mono ?_;rintro e w1 ⟨a', c', rfl, hb1, F1⟩;have hr1 := F1.heap HR.out (fun h => h);obtain ⟨d0, d1, dz, dl⟩ := cells2 hr1;have H1 := hi2 hb1 (aI F1 hr1);clear hb1 F1 hr1 c0 c1 hz hl;go_wp2
 go_ret;obtain ⟨hb1, F1, hr1⟩ := H1.out;have FS : Fr (fun b => b = r) w1 (w1.setCell ⟨r, 0, none⟩ (.slice a2 (bs.length - m) (c - m))) := (Fr.refl (fun b => b = r) _).setCell (a := ⟨r, 0, none⟩) (fun _ => rfl) _;have ne : ∀ b cs, w1.heap[b]? = some (.cells cs 5) -> ¬ b = r := fun b cs h e => by rw [e, hr1] at h; cases h
 refine ⟨a', c', rfl, hb1.fr FS ne, ⟨⟨a2, c - m, ?_, ?_, ?_⟩, ?_⟩, (F1.mono (fun _ _ h => h.elim)).trans FS (fun _ _ h => h)⟩
 ·rw [hsc _ _ _ _ hr1, List.length_drop]; rfl
 ·rw [List.length_drop]; exact (HD.out.fr F1 (fun _ _ _ h => h)).fr FS ne
 ·rw [List.length_drop]; omega
 ·rw [List.length_drop]; omega
theorem maynum (k : Nat) (hk : k = 1 \/ k = 2 \/ k = 4 \/ k = 8) (w : World) : Calls Tryz.prog 236 #[.int .i64 k] w fun e w' => e = .returned (.bool true) /\ w = w' := by
 rcases hk with rfl | rfl | rfl | rfl
 all_goals
  go_enter Tryz.func236, Tryz.ntmps236;go_wp2
  go_ret;exact ⟨rfl, rfl⟩
theorem num_ok (h : RdAt w r bs bad) (hby : ∀ x ∈ bs, 0 <= x /\ x < 256) (k : Nat) (hk : k = 1 \/ k = 2 \/ k = 4 \/ k = 8) (hm : k <= bs.length) :
  Calls Tryz.prog 216 #[.pointer (some ⟨r, 0, none⟩), .int .i64 k] w fun e w' => e = .returned (.int .u64 (leV (bs.take k))) /\ RdAt w' r (bs.drop k) bad /\ Fr (fun b => b = r) w w' := by
 have HM := hid (fun W => maynum k hk W);have HRw := hid (raw_ok h k hm);have HBY := hid (fun x (hx : x ∈ bs.take k) => hby x (List.mem_of_mem_take hx));have hk8 : k <= 8 := by omega
 have hlen : (bs.take k).length = k := by rw [lT]; omega
 generalize bs.take k = l at *
 clear h hby hk;go_enter Tryz.func216, Tryz.ntmps216;go_wp2_with (go_at_call 236; refine (HM.out _).mono ?_; rintro e w' ⟨rfl, rfl⟩)
 refine HRw.out.mono ?_;rintro e w1 ⟨a', c', rfl, hb1, hR, F1⟩;have HLEN := hid hlen;have HB1 := hid hb1;have HR1 := hi2 hR F1;clear hlen hb1 hR F1;go_wp2
 go_loop [5, 15] (fun n i => ∃ j : Nat, j <= k /\ i = .int .i64 j /\ n = .int .u64 (leV (l.take j))) (fun _ i => k - (intOf i).toNat)
 case atStart => exact ⟨0, Nat.zero_le _, rfl, by simp [leV]⟩
 case round =>
  obtain ⟨j, hj, rfl, rfl⟩ := hrel;by_cases hlt : j < k
  ·obtain ⟨x, hx⟩ : ∃ x, l[j]? = some x := ⟨l[j]'(by rw [HLEN.out]; exact hlt), gE _⟩
   obtain ⟨b, off, rfl, hbl, hcell⟩ := HB1.out.by_.at_ j x hx;have hx0 := HBY.out x (gM hx);have hn := leV_next HBY.out hx;have hlt2 := leV_take_lt HBY.out j;have HX := hi2 hx hn;have HN := hid hlt2;clear hx hn hlt2;have hjd : decide (j < k) = true := by simpa using hlt
   go_wp2
   go_round
   case rel =>
    refine ⟨j + 1, by omega, by go_num, ?_⟩;obtain ⟨y, rfl⟩ := iZ hx0.1;have hp : (2 : Nat) ^ (8 * j) <= 2 ^ 56 := Nat.pow_le_pow_right (by decide) (by omega);have h256 : (256 : Nat) ^ j = 2 ^ (8 * j) := (by rw [Nat.pow_mul]);have hl1 : leV (l.take j) < 18446744073709551616 := by
     have := HN.out;rw [h256] at this;omega
    have hy : y <= 255 := (by omega);have hl2 : y * 2 ^ (8 * j) < 18446744073709551616 := by
     have := Nat.mul_le_mul hy hp;omega
    have hw : IntKind.u64.wrap ((y : Int) * 2 ^ (8 * j)) = ((y * 2 ^ (8 * j) : Nat) : Int) := by
     rw [IntKind.wrap_u64, show (y : Int) * 2 ^ (8 * j) = ((y * 2 ^ (8 * j) : Nat) : Int) by simp];omega
    rw [hw, u64_or_nat _ _ hl1 hl2];have := HX.out.2;simp only [Int.ofNat_eq_natCast, Int.toNat_natCast] at this;rw [this]
   case measure => simp [intOf]; omega
  ·obtain rfl : j = k := by omega
   go_wp2
   go_ret;have e : l.take j = l := tL (by rw [HLEN.out]; exact nR _);rw [e];exact ⟨rfl, HR1.out⟩
end Go.Proofs.YtgdhaaokolfdoaaGreatDoor
namespace Go.Sg
open Go.RowKit
def Wr.zero : Wr := ⟨0, none, 0, 0⟩
def bk (ws : List Wr) (k : Nat) : List (Nat × Wr) := (List.range k).map fun j => (ws.length - 1 - j, ws.getD (ws.length - 1 - j) Wr.zero)
theorem bk_succ (ws : List Wr) (k : Nat) : bk ws (k + 1) = bk ws k ++ [(ws.length - 1 - k, ws.getD (ws.length - 1 - k) Wr.zero)] := by
 simp [bk, List.range_succ]
theorem bk_len (ws : List Wr) (k : Nat) : (bk ws k).length = k := by simp [bk]
variable {a b : Nat}
theorem bk_prefix (ws : List Wr) (h : a <= b) : bk ws a <+: bk ws b := by
  induction b with
  | zero => obtain rfl : a = 0 := by omega
            exact List.prefix_rfl
  | succ b ih =>
    by_cases hk : a = b + 1
    · subst hk; exact List.prefix_rfl
    · rw [bk_succ]; exact (ih (by omega)).trans (List.prefix_append _ _)
theorem bk_take (ws : List Wr) (h : a <= b) : (bk ws b).take a = bk ws a := by
 have h1 := bk_prefix ws h;have h2 := List.prefix_iff_eq_take.1 h1;rw [bk_len] at h2;exact h2.symm
variable {x : Wr}
theorem bk_mem (ws : List Wr) {i k : Nat} (hx : ws[i]? = some x) (hk : ws.length - 1 - i < k) : (i, x) ∈ bk ws k := by
 have hi := (gI.1 hx).1;refine List.mem_map.2 ⟨ws.length - 1 - i, by simpa using hk, ?_⟩;rw [show ws.length - 1 - (ws.length - 1 - i) = i by omega];simp [List.getD, hx]
theorem wr_cells (ws : List Wr) {j : Nat} (h : ws[j]? = some x) : (ws.flatMap Wr.cells)[2 * j]? = some (.int .i64 x.at_) /\ (ws.flatMap Wr.cells)[2 * j + 1]? = some (.slice x.la x.ll x.lc) := by
 induction ws generalizing j with
 | nil => simp at h
 | cons y l ih =>
  cases j with
  | zero => simp at h; subst h; exact ⟨rfl, rfl⟩
  | succ j =>
   simp at h;have := ih h;refine ⟨?_, ?_⟩
   ·rw [show 2 * (j + 1) = 2 * j + 2 by omega]; simpa [List.flatMap_cons, Wr.cells] using this.1
   ·rw [show 2 * (j + 1) + 1 = 2 * j + 1 + 2 by omega]; simpa [List.flatMap_cons, Wr.cells] using this.2
end Go.Sg
namespace Go.Proofs.YtgdhaaokolfdoaaGreatDoor
open Go.RowKit Go.Sg Go.Shelf
attribute [local go_sem] Oper.semAt_some
theorem backward_any (a : Option Addr) (n c : Nat) (w : World) :
  Calls Tryz.prog 174 #[.slice a n c] w fun e w' => e = .returned (.func (.func 231) #[] #[.pointer (some ⟨w.heap.size, 0, none⟩)]) /\ w.alloc (.cells #[.slice a n c] 149) = w' := by
 go_enter Tryz.func174, Tryz.ntmps174;go_wp2
 go_ret;exact ⟨rfl, rfl⟩
abbrev WrOk (ok : Nat -> Wr -> Prop) := { p : Nat × Wr // ok p.1 p.2 }
abbrev encB {ok : Nat -> Wr -> Prop} (x : WrOk ok) : Array Value := #[.int .i64 x.1.1, .agg #[.int .i64 x.1.2.at_, .slice x.1.2.la x.1.2.ll x.1.2.lc]]
def KpB (bx : Nat) (a : Option Addr) (W W' : World) : Prop := W'.heap[bx]? = W.heap[bx]? /\ ∀ g, a = some ⟨g, 0, none⟩ -> W'.heap[g]? = W.heap[g]?
variable {w : World} {base c : Nat} {a : Option Addr} {ws : List Wr}
theorem own_cells2 (h : w.ownsRow base 196 2 (.slice a ws.length c) ws.length (ws.flatMap Wr.cells)) {j : Nat} {x : Wr} (hx : ws[j]? = some x) :
  ∃ g cur, a = some ⟨g, 0, none⟩ /\ w.heap[g]? = some (.cells cur 196) /\ cur[2 * j]? = some (.int .i64 x.at_) /\ cur[2 * j + 1]? = some (.slice x.la x.ll x.lc) := by
 obtain ⟨hl, ⟨h1, h2⟩ | ⟨g, cap, cur, h1, _, hg, _, _, _, ht⟩⟩ := h
 ·have := (gI.1 hx).1; omega
 ·cases h1;obtain ⟨k0, k1⟩ := wr_cells ws hx;have hj := (gI.1 hx).1;rw [<- ht] at k0 k1;rw [gT, if_pos (by omega)] at k0 k1;exact ⟨g, cur, rfl, hg, by simpa using k0, by simpa using k1⟩
theorem backf_stops {ok : Nat -> Wr -> Prop} {bx : Nat} (h : w.ownsRow base 196 2 (.slice a ws.length c) ws.length (ws.flatMap Wr.cells)) (hlen : ws.length <= 100000) (hok : ∀ i x, ws[i]? = some x -> ok i x) (hx : w.heap[bx]? = some (.cells #[.slice a ws.length c] 149)) :
  SeqStopsK Fence.wide 9 Tryz.prog 231 #[.pointer (some ⟨bx, 0, none⟩)] (encB (ok := ok)) (KpB bx a) (fun xs => xs.map (·.1) = bk ws ws.length) (fun pre => pre.map (·.1) <+: bk ws ws.length) ws.length w := fun l J Jx W hW hJ _ hY h0 => by
 have hbx := loh hx;have hx' := (hW.block bx hbx).trans hx;have hcl : ∀ j x, ws[j]? = some x -> ∃ g cur, a = some ⟨g, 0, none⟩ /\ W.heap[g]? = some (.cells cur 196) /\ cur[2 * j]? = some (.int .i64 x.at_) /\ cur[2 * j + 1]? = some (.slice x.la x.ll x.lc) := fun j x hj => by
  obtain ⟨g, cur, e, hg, r⟩ := own_cells2 h hj;exact ⟨g, cur, e, (hW.block g (loh hg)).trans hg, r⟩
 have HCL := hid hcl;have HX := hid hx';have cx := coh hx' 0;simp at cx;clear hx hW h hcl hx';refine callsIn_of_wp Tryz.func231 rfl trivial ?_ rfl;simp only [Tryz.ntmps231, zA, lC, List.length_nil, Nat.reduceAdd, Nat.reduceSub, Array.replicate_succ, Array.replicate_zero, List.push_toArray, List.append_toArray, List.nil_append, List.cons_append];gi_wp2
 gi_loopw [3] (fun i wr => ∃ k : Nat, k <= ws.length /\ i = .int .i64 ((ws.length : Int) - 1 - k) /\ (∃ pre : List (WrOk ok), pre.map (·.1) = bk ws k /\ J pre wr) /\ KpB bx a W wr) (fun i _ => (intOf i + 1).toNat)
 case atStart => exact ⟨0, Nat.zero_le _, by simp, ⟨[], rfl, h0⟩, rfl, fun _ _ => rfl⟩
 case round =>
  obtain ⟨k, hk, rfl, ⟨pre, hpre, hJs⟩, hkp⟩ := hrel;have HPRE := hid hpre;have hplen : pre.length = k := by have := congrArg List.length hpre; rw [bk_len] at this; simpa using this
  have HPL := hid hplen;clear hpre hplen;have cb := coh (hkp.1.trans HX.out) 0;simp at cb;by_cases hlt : k < ws.length
  ·obtain ⟨j, hj⟩ : ∃ j : Nat, ws.length = j + 1 + k := ⟨ws.length - 1 - k, by omega⟩
   have ej : (ws.length : Int) - 1 - k = (j : Int) := by omega
   obtain ⟨x, hx⟩ : ∃ x, ws[j]? = some x := ⟨_, gE (by omega)⟩
   obtain ⟨g, cur, rfl, hg, h1, h2⟩ := HCL.out j x hx;have hg' := (hkp.2 g rfl).trans hg;have c1 : wr.cell? ⟨g, j * 2, none⟩ = some (.int .i64 x.at_) := (coh hg' (j * 2)).trans (by rw [Nat.mul_comm j 2]; exact h1);have c2 : wr.cell? ⟨g, j * 2 + 1, none⟩ = some (.slice x.la x.ll x.lc) := (coh hg' (j * 2 + 1)).trans (by rw [Nat.mul_comm j 2]; exact h2);have hs : bk ws (k + 1) = bk ws k ++ [(j, x)] := by
    rw [bk_succ, show ws.length - 1 - k = j by omega];simp [List.getD, hx]
   have HS := hid hs;have HOK := hok j x hx;have HK := hid hkp;have HEJ := hid ej;have HJL := hid hj;rw [ej];obtain ⟨xat, xa, xl, xc⟩ := x;clear hs hg hg' h1 h2 hx hkp ej hj;obtain ⟨fn, tmps, assign, body, hy, hR⟩ := hY _ ⟨(j, ⟨xat, xa, xl, xc⟩), HOK⟩ wr hJs (by rw [HPL.out]; exact hlt);dsimp only [encB] at hy;have hj0 : j < ws.length := by have := HJL.out; omega
   gi_wp2
   refine hR.mono ?_;rintro e W3 (⟨rfl, hJ3, hk3⟩ | ⟨rfl, hJx3⟩)
   ·have HJ3 := hid hJ3;have HK3 := hid hk3;clear hJ3 hk3;gi_wp2
    go_roundw;case rel => exact ⟨k + 1, by omega, by have := HEJ.out; go_num, ⟨_, by rw [HS.out, List.map_append, HPRE.out]; rfl, HJ3.out⟩, HK3.out.1.trans HK.out.1, fun g' e => (HK3.out.2 g' e).trans (HK.out.2 g' e)⟩
    case measure => simp [intOf]
   ·have HJX := hid hJx3;clear hJx3;gi_wp2
    refine bodyPost_ret (results_none rfl _ _ _) rfl ?_;exact ⟨⟨_, rfl⟩, .inr ⟨_, (by have := bk_prefix ws (a := k + 1) (b := ws.length) (by have := HJL.out; omega); rw [HS.out] at this; rw [List.map_append, HPRE.out]; exact this), HJX.out⟩⟩
  ·obtain rfl : k = ws.length := by omega
   have e1 : (ws.length : Int) - 1 - (ws.length : Int) = -1 := by omega
   rw [e1];gi_wp2
   go_end0
   exact ⟨⟨_, rfl⟩, .inl ⟨_, HPRE.out, hJs⟩⟩
end Go.Proofs.YtgdhaaokolfdoaaGreatDoor
namespace Go.Sg
section
open Go.RowKit Go.ChangeShapes
theorem trodAll_below {H : Type} {enc : TypeId × Value -> H} {P : Program} (hl : laidOutB P = true) {W W' : World} (hb : Below W.heap.size W W') :
  ∀ {ts : List TypeId} {vs : List Value} {ds : List (DataW H)} {ps : List MemPlace}, (∀ t ∈ ts, P.readableRec t = true /\ t < P.types.size) -> (∀ x ∈ ps, x.block < W.heap.size) ->
   DataW.TrodAll enc P W 0 (fun _ => true) true ts vs ds ps -> DataW.TrodAll enc P W' 0 (fun b => decide (b < W.heap.size)) true ts vs ds ps
 | [], vs, ds, ps, _, _, h => by obtain ⟨rfl, rfl, rfl⟩ := trodAll_nil h; exact h
 | t :: ts, vs, ds, ps, ht, hp, h => by
  obtain ⟨v, vs', d, ds', p, q, rfl, rfl, rfl, h0, r0⟩ := trodAll_cons h;exact ⟨p, q, Below.trod hl (ht t (by simp)).1 (ht t (by simp)).2 h0 hb (fun x hx => hp x (by simp [hx])),
   trodAll_below hl hb (fun u hu => ht u (by simp [hu])) (fun x hx => hp x (by simp [hx])) r0, rfl⟩
theorem law_post {H : Type} {enc : TypeId × Value -> H} {P : Program} {f : Func} {s : ChangeSpec} {apart : Bool} {W W' : World} {args : Array Value} {ds gs : List (DataW H)} {before : List MemPlace} {tb : TypeId}
  (hl : laidOutB P = true) (hts' : (f.params.toList.all fun t => P.readableRec t && decide (t < P.types.size)) = true) (hv : s.vars = []) (hr : f.resultTypes = #[tb]) (hu : P.underlying tb = some .bool)
  (hW : DataW.Whole enc P f.params.toList s.vars apart W args.toList ds gs before) (hb : Below W.heap.size W W') (hfn : s.fn H ds = { results := [.lit (.bool true)], args := ds }) :
  s.post enc P f apart true false false W args (.bool true) W' := by
 have hts : ∀ t ∈ f.params.toList, P.readableRec t = true /\ t < P.types.size := fun t ht => by
  have := List.all_eq_true.1 hts' t ht;simpa using this
 have hW0 := hW;have hlt := hW.lt;obtain ⟨p, q, hA, hV, rfl, _, _⟩ := hW;rw [hv] at hV;cases gs with
 | cons _ _ => simp [DataW.TrodVars] at hV
 | nil =>
  have hq : q = [] := hV;subst hq;have hfn : s.fn H (ds ++ []) = { results := [.lit (.bool true)], args := ds } := by rw [List.append_nil]; exact hfn
  refine ⟨ds, [], _, [], p, [], hW0, ?_, ?_, ?_, hb.frame _, fun h => by cases h⟩
  ·rw [hfn, hr];exact trodAll_mk1 (shut_bool hu true)
  ·rw [hfn];exact trodAll_below hl hb hts (fun x hx => hlt x (by simp [hx])) hA
  ·rw [hfn, hv]; rfl
end
section
open Go.RowKit Go.ChangeShapes Go.WideShapes Go.Deep
theorem spot_none {w : World} {a : Addr} {v : Value} (h : w.cell? a = some v) : a = ⟨a.block, a.off, none⟩ := by
 cases a with
 | mk b o s =>
  cases s with
  | none => rfl
  | some s => unfold World.cell? at h; split at h <;> simp at h
section
variable {H : Type} {enc : TypeId × Value -> H} {P : Program} {w : World}
end
end
section
open Go.RowKit
def Dev.sec (D : Dev) (at_ : Int) : List Int := match D.loose.reverse.find? (fun y => decide (y.1 = at_)) with
 | some y => y.2
 | none => (D.fast at_).getD (List.replicate D.size 0)
variable {D : Dev} {at_ : Int} {B n : Nat} {W W' : World}
theorem sec_hit {j : Nat} {y : Int × List Int} (hy : D.loose[j]? = some y) (h1 : y.1 = at_) (h2 : ∀ (i : Nat) z, j < i -> D.loose[i]? = some z -> z.1 ≠ at_) : D.sec at_ = y.2 := by
 have hj := (gI.1 hy).1;have e : D.loose = D.loose.take j ++ y :: D.loose.drop (j + 1) := by
  conv => lhs; rw [<- List.take_append_drop j D.loose]
  congr 1
  rw [List.drop_eq_getElem_cons hj];congr 1
  exact (gI.1 hy).2
 have hf : D.loose.reverse.find? (fun y => decide (y.1 = at_)) = some y := by
  rw [List.find?_eq_some_iff_append];refine ⟨by simpa using h1, (D.loose.drop (j + 1)).reverse, (D.loose.take j).reverse, ?_, ?_⟩
  ·conv => lhs; rw [e]
   simp
  ·intro a ha;obtain ⟨i, hi⟩ := List.mem_iff_getElem?.1 (List.mem_reverse.1 ha);rw [List.getElem?_drop] at hi;have := h2 (j + 1 + i) a (by omega) hi;simpa using this
 rw [Dev.sec, hf]
theorem sec_miss (h : ∀ z ∈ D.loose, z.1 ≠ at_) : D.sec at_ = (D.fast at_).getD (List.replicate D.size 0) := by
 have hf : D.loose.reverse.find? (fun y => decide (y.1 = at_)) = none := by
  rw [List.find?_eq_none];intro z hz;have := h z (List.mem_reverse.1 hz);simpa using this
 rw [Dev.sec, hf]
theorem keepsFrom_fr (F : Fq W W') : KeepsFrom B W W' := ⟨F.size, fun k o _ hk _ => F.heap hk (fun h => h)⟩
theorem own_byv {row : Option Nat} {a : Option Addr} {c : Nat} {bs : List Int} (h : ByV W a n c bs) (hg : W.grownBy W' row) (hr : ∀ r, row = some r -> B <= r /\ ∃ o : Obj, W.heap[r]? = some o /\ o.isCells = false) : ByV W' a n c bs := by
 refine h.fr (S := fun b => some b = row) ⟨hg.os, hg.tape, hg.output, hg.size, fun b hb hn => hg.block b hb hn⟩ fun b c hb e => ?_
 obtain ⟨_, o, ho, hc⟩ := hr b e.symm;rw [hb] at ho; cases ho; cases hc
theorem ByV.zeros {w : World} {g cap : Nat} {f : Nat × Nat} (h : w.heap[g]? = some (.cells (List.replicate n (Value.int .u8 0)).toArray 5)) : ByV w (some ⟨g, 0, none⟩) n cap (List.replicate n 0) := by
 refine ⟨⟨by simp, fun i x hx => ⟨g, 0, rfl, loh h, ?_⟩⟩, .inr ⟨g, 0, _, rfl, h⟩⟩;rw [coh h];rw [List.getElem?_replicate] at hx;split at hx
 ·cases hx;rename_i hi;simp [hi]
 ·cases hx
end
end Go.Sg
namespace Go.Proofs.YtgdhaaokolfdoaaGreatDoor
open Go.RowKit Go.Sg Go.Shelf
theorem Tryz.zero22 (w : World) : (zeroValue 22).run Tryz.prog w = .ok (.slice none 0 0) w := by kernel_rfl
variable {w : World} {base bf bq d : Nat} {D : Dev}
theorem kept_cap (h : DevAt w base d bf bq D) (k : Int) :
  Calls Tryz.prog 113 #[.pointer (some ⟨d, 0, none⟩), .int .i64 k] w fun e w' => ∃ a c, e = .returned (.slice a D.size c) /\ (ByV w' a D.size c ((D.fast k).getD (List.replicate D.size 0)) /\ D.size <= c) /\ Fq w w' := by
 obtain ⟨lv, hd, _⟩ := h.dc;obtain ⟨l, ck, hm, _, hf⟩ := h.fast;have c1 := coh hd 1;have c2 := coh hd 2;simp at c1 c2;have hl := run_lookup (P := Tryz.prog) (T := 147) true Tryz.underlying147 Tryz.underlying3 Tryz.zero22 hm k;have hk := hf k;have hz := h.rg.2;cases hlk : Sg.look l k with
 | some v =>
  rw [hlk] at hl hk;cases hfk : D.fast k with
  | none => rw [hfk] at hk; exact hk.elim
  | some bs =>
   rw [hfk] at hk;obtain ⟨b, off, cap, rfl, hb, hcp⟩ := hk;have HB := hi2 hb hcp;simp at hl;clear hlk hm hf hd hb hcp hfk h;go_enter Tryz.func113, Tryz.ntmps113;go_wp2
   go_ret;exact ⟨_, _, rfl, HB.out, Fr.refl _ _⟩
 | none =>
  rw [hlk] at hl hk;cases hfk : D.fast k with
  | some bs => rw [hfk] at hk; exact hk.elim
  | none =>
   simp at hl;obtain ⟨i0, hi, hz0, hz1, hz2⟩ := info_parts Tryz.info5;have hmk := fun W => run_make_len (P := Tryz.prog) 22 5 i0 _ Tryz.underlying22 hi hz0 D.size (by rw [hz2]; omega) (by omega) W
   rw [hz1] at hmk;clear hlk hm hf hd hfk h hi hz0 hz1 hz2 hk;go_enter Tryz.func113, Tryz.ntmps113;go_wp2
   go_ret;exact ⟨_, _, rfl, ⟨ByV.zeros (f := (0, 0)) (by rw [show (List.replicate D.size (Value.int .u8 0)).toArray = madeCells #[.int .u8 0] D.size by apply Array.toList_inj.1; rw [toList_madeCells_one]]; exact han _ _), nR _⟩, (Fr.refl _ _).alloc _⟩
theorem kept_at (h : DevAt w base d bf bq D) (k : Int) :
  Calls Tryz.prog 113 #[.pointer (some ⟨d, 0, none⟩), .int .i64 k] w fun e w' => ∃ a c, e = .returned (.slice a D.size c) /\ ByV w' a D.size c ((D.fast k).getD (List.replicate D.size 0)) /\ Fq w w' :=
 (kept_cap h k).mono fun e w' ⟨a, c, he, hb, F⟩ => ⟨a, c, he, hb.1, F⟩
attribute [local go_sem] Oper.semAt_some
def okW (w : World) (D : Dev) (i : Nat) (x : Wr) : Prop := ∃ y, D.loose[i]? = some y /\ x.at_ = y.1 /\ ByV w x.la x.ll x.lc y.2
def ReadI (w W0 : World) (D : Dev) (at_ : Nat) (pre : List (WrOk (okW w D))) (W : World) : Prop :=
 ((W.heap[w.heap.size]? = some (.cells #[.int .i64 at_] 3) /\ W.heap[w.heap.size + 1]? = some (.cells #[.slice none 0 0] 22)) /\ (W.heap[w.heap.size + 2]? = some (.cells #[.int .i64 0] 24) /\ Fq W0 W)) /\ ∀ y ∈ pre, y.1.2.at_ ≠ (at_ : Int)
def ReadX (w : World) (D : Dev) (at_ : Nat) (c : Code) (pre : List (WrOk (okW w D))) (W : World) : Prop :=
 (c = .ret /\ ∃ pre0 x, pre = pre0 ++ [x] /\ x.1.2.at_ = (at_ : Int) /\ (∀ y ∈ pre0, y.1.2.at_ ≠ (at_ : Int))) /\
  (∃ y : Int × List Int, (∃ x ∈ pre.getLast?, D.loose[x.1.1]? = some y) /\ ∃ a c, (W.heap[w.heap.size + 1]? = some (.cells #[.slice a y.2.length c] 22) /\ ByV W a y.2.length c y.2) /\ (W.heap[w.heap.size + 2]? = some (.cells #[.int .i64 0] 24) /\ Fq w W))
theorem devread_ret {n : Nat} {R : Ending -> World -> Prop} {tmps : Array Value} {DD b : Nat} {W : World} {a : Option Addr} {l c : Nat} (q1 : W.heap[b + 1]? = some (.cells #[.slice a l c] 22)) (q2 : W.heap[b + 2]? = some (.cells #[.int .i64 0] 24))
  (hK : W.heap[DD]? = some (.deferred (some []))) (hD : b + 2 < DD) (hR : R (.returned (.tuple #[.slice a l c, .int .i64 0])) (W.putObj DD (.deferred none))) (t4 : tmps.getD 4 undef = .pointer (some ⟨b + 1, 0, none⟩)) (t5 : tmps.getD 5 undef = .pointer (some ⟨b + 1 + 1, 0, none⟩)) :
  bodyPostM Fence.wide n Tryz.prog Tryz.f114 R .ret { tmps := tmps, defers := [{ target := .collected DD, args := #[] }] } W := by
 have e1 : (W.putObj DD (.deferred none)).cell? ⟨b + 1, 0, none⟩ = some (.slice a l c) := by
  have := coh ((hpj W DD (.deferred none) (b + 1) (by omega)).trans q1) 0;simpa using this
 have e2 : (W.putObj DD (.deferred none)).cell? ⟨b + 1 + 1, 0, none⟩ = some (.int .i64 0) := by
  have := coh ((hpj W DD (.deferred none) (b + 2) (by omega)).trans q2) 0;simpa using this
 refine ⟨by simp, .inl ⟨_, _, rfl, run_takeDeferred hK, _, ?_, hR⟩⟩;rw [Array.getD_eq_getD_getElem?] at t4 t5;simp [results, Tryz.results114, go_sem, t4, t5, e1, e2]
theorem devread_ok (h : DevAt w base d bf bq D) (hdown : D.down = false) (hlen : ∀ y ∈ D.loose, y.2.length = D.size) (hmany : D.loose.length <= 100000) (at_ : Nat) (hat : at_ < D.sectors) :
  Calls Tryz.prog 114 #[.pointer (some ⟨d, 0, none⟩), .int .i64 at_] w fun e w' => ∃ a c, e = .returned (.tuple #[.slice a D.size c, .int .i64 0]) /\ ByV w' a D.size c (D.sec at_) /\ Fq w w' := by
 refine (callsIn_wide (n := 10)).1 ?_;obtain ⟨lv, hd, ws, hown, hwl, hws⟩ := h.dc;have c3 := coh hd 3;simp at c3;have ld := loh hd;have hlv : ∃ a c, lv = .slice a ws.length c := by
  obtain ⟨_, ⟨h1, h2⟩ | ⟨g, cap, cur, h1, _⟩⟩ := hown
  ·rw [h2]; exact ⟨_, _, h1⟩
  ·exact ⟨_, _, h1⟩
 obtain ⟨la, lc, rfl⟩ := hlv;have HRD := hid (fun W (F : Fq w W) => ready_ok (w := W) (d := d) (n := D.sectors) (at_ := at_) (by have := coh (F.heap hd (fun h => h)) 0; simpa using this) (by have := coh (F.heap hd (fun h => h)) 7; simpa [hdown] using this) (by omega) (by omega));obtain ⟨W1, hW1⟩ : ∃ W1, ((w.alloc (.cells #[.int .i64 at_] 3)).alloc (.cells #[.slice none 0 0] 22)).alloc (.cells #[.int .i64 0] 24) = W1 := ⟨_, rfl⟩
 obtain ⟨x0, x1, x2, F1⟩ := heap_three hW1;have s1 : W1.heap.size = w.heap.size + 3 := by rw [<- hW1]; simp
 have y0 := coh x0 0;have y1 := coh x1 0;have y2 := coh x2 0;simp at y0 y1 y2;have d3 : W1.cell? ⟨d, 3, none⟩ = some (.slice la ws.length lc) := (F1.cell (p := ⟨d, 3, none⟩) ld (fun h => h)).trans c3;have HW1 := hid hW1;have HX := hi2 x0 (aI x1 x2);have HF1 := hid F1;have H := hid h;have HD := hid hd;have HOWN := hid hown;have HWS := hid hws;have HWL := hid hwl;have hwm : ws.length <= 100000 := by omega
 clear hW1 x0 x1 x2 F1 h hd hown hws hwl;refine callsIn_of_wp_marks Tryz.func114 rfl trivial ?_ rfl;simp only [Tryz.ntmps114, zA, lC, List.length_nil, Nat.reduceAdd, Nat.reduceSub, Array.replicate_succ, Array.replicate_zero, List.push_toArray, List.append_toArray, List.nil_append, List.cons_append];gi_wp2_with (fail)
 rw [HW1.out];refine (callsIn_wide.2 (HRD.out _ HF1.out)).mono ?_;rintro e w' ⟨rfl, rfl⟩;gi_wp2_with (fail)
 refine (callsIn_wide.2 (backward_any la ws.length lc _)).mono ?_;rintro e w' ⟨rfl, rfl⟩;gi_wp2_with (fail)
 obtain ⟨W0, hW0⟩ : ∃ W0, W1.alloc (.cells #[.slice la ws.length lc] 149) = W0 := ⟨_, rfl⟩
 have F10 : Fq W1 W0 := by rw [<- hW0]; exact (Fr.refl _ _).alloc _
 have hbx : W0.heap[w.heap.size + 3]? = some (.cells #[.slice la ws.length lc] 149) := by rw [<- hW0, <- s1]; exact han _ _
 have hF0 := HF1.out.trans F10 (fun _ _ h => h);have hsz : W0.heap.size = w.heap.size + 4 := by rw [<- hW0]; simp; omega
 have hown0 : W0.ownsRow base 196 2 (.slice la ws.length lc) ws.length (ws.flatMap Wr.cells) := oRf HOWN.out hF0 (fun _ _ _ h => h);have hI0 : ReadI w W0 D at_ [] W0 := ⟨⟨⟨F10.heap HX.out.1 (fun h => h), F10.heap HX.out.2.1 (fun h => h)⟩, F10.heap HX.out.2.2 (fun h => h), Fr.refl _ _⟩, fun _ h => by cases h⟩;have hla : ∀ g, la = some ⟨g, 0, none⟩ -> g < w.heap.size := fun g e => by
  obtain ⟨_, ⟨h1, h2⟩ | ⟨g', cap, cur, h1, _, hg, _⟩⟩ := HOWN.out
  ·obtain ⟨h3, _, _⟩ := Value.slice.inj h1;rw [h3] at e; cases e
  ·obtain ⟨h3, _, _⟩ := Value.slice.inj h1;rw [h3] at e; cases e; exact loh hg
 simp only [hW0];clear y0 y1 y2 d3 c3;have hok : ∀ i x, ws[i]? = some x -> okW w D i x := fun i x hx => by
  have hi := (gI.1 hx).1;have hy : D.loose[i]? = some (D.loose[i]'(by have := HWL.out; omega)) := gE _;exact ⟨_, hy, (HWS.out i x _ hx hy).1, (HWS.out i x _ hx hy).2.1⟩
 refine wpIn_rangeFunc_ownH (F := Fence.wide) rfl (by omega) (gf := 231) (lb := #[.pointer (some ⟨w.heap.size + 3, 0, none⟩)]) rfl trivial (enters_of Tryz.func231 (by kernel_rfl) rfl)
  (backf_stops hown0 hwm hok hbx) (fun h k => ⟨k.1.trans h.1, fun g e => (k.2 g e).trans (h.2 g e)⟩) (fun W l o o' hl _ _ _ => ⟨hpj _ _ _ _ (by omega), fun g e => hpj _ _ _ _ (by have := hla g e; omega)⟩) (Below.refl _ _) (fun _ => rfl)
  (ReadI w W0 D at_)
  (ReadX w D at_)
  (own_and (own_and (own_and (own_block _ _ _ (fun _ => .inl rfl)) (own_block _ _ _ (fun _ => .inl rfl))) (own_and (own_block _ _ _ (fun _ => .inl rfl)) (own_fr (by omega)))) (own_pure _ _))
  (fun c => own_and (own_pure _ _) (own_ex fun y => own_and (own_pure _ _) (own_ex fun a => own_ex fun cc => own_and (own_and (own_block _ _ _ (fun _ => .inl rfl)) (fun _ _ _ _ hs hg hr => own_byv hs hg hr)) (own_and (own_block _ _ _ (fun _ => .inl rfl)) (own_fr (by omega))))))
  hI0
  (fun x a' W => ∃ Bx, (w.heap.size + 4 <= Bx /\ W.heap[Bx]? = some (.cells #[.int .i64 x.1.2.at_, .slice x.1.2.la x.1.2.ll x.1.2.lc] 196)) /\ a' = { tmps := #[.pointer (some ⟨d, 0, none⟩), .int .i64 at_, undef, .pointer (some ⟨w.heap.size, 0, none⟩), .pointer (some ⟨w.heap.size + 1, 0, none⟩), .pointer (some ⟨w.heap.size + 1 + 1, 0, none⟩), .int .i64 0, undef, .pointer (some ⟨Bx, 0, none⟩), .pointer (some ⟨d, 0, none⟩), .int .i64 at_, .int .i64 0, .int .i64 0, .bool false, undef, .pointer (some ⟨d, 0, none⟩), .pointer (some ⟨d, 0, none⟩), .pointer (some ⟨d, 3, none⟩), .slice la ws.length lc, .func (.func 231) #[] #[.pointer (some ⟨w.heap.size + 3, 0, none⟩)], .int .i64 x.1.1, .agg #[.int .i64 x.1.2.at_, .slice x.1.2.la x.1.2.ll x.1.2.lc], undef, undef, undef, undef, undef, undef, undef, undef, undef, undef, undef, undef], defers := [] })
  (fun x a' => own_ex fun Bx => own_and (own_and (own_pure _ _) (own_block _ _ _ (fun _ => .inl rfl))) (own_pure _ _))
  ?assign ?body ?done ?stop
 case assign =>
  rintro l pre x W K hI hK;have hsW := hI.1.2.2.size;have FN : Fq W (W.alloc (.cells #[.int .i64 x.1.2.at_, .slice x.1.2.la x.1.2.ll x.1.2.lc] 196)) := (Fr.refl _ _).alloc _;have HI := hid hI;have HK := hid hK;clear hI hK;gi_wp2
  obtain ⟨⟨⟨h1, h2⟩, h3, hF⟩, h4⟩ := HI.out;refine HK.out _ _ ((KeepsOthers.alloc _ _).from _) ⟨FN.block _ (by omega) (fun h => h), fun g e => FN.block _ (by have := hla g e; omega) (fun h => h)⟩ ⟨⟨⟨FN.heap h1 (fun h => h), FN.heap h2 (fun h => h)⟩, FN.heap h3 (fun h => h), hF.trans FN (fun _ _ h => h)⟩, h4⟩ ⟨W.heap.size, ⟨by omega, han _ _⟩, rfl⟩
 case body =>
  rintro l pre ⟨⟨i, ⟨xat, xa, xl, xc⟩⟩, hp⟩ a' W hl ⟨r, hr⟩ ⟨⟨⟨h1, h2⟩, h3, hF⟩, h4⟩ ⟨Bx, ⟨hBx, hbX⟩, rfl⟩ hlt;have hp' := hp;obtain ⟨y, hy, hxy, hxb⟩ := hp';simp only at hy hxy hxb hbX;have z0 := coh h1 0;have z1 := coh hbX 0;have z2 := coh hbX 1;simp at z0 z1 z2;have u1 := coh h2 0;have u2 := coh h3 0;have f1 := foh h2 0;have f2 := foh h3 0;simp at u1 u2;have HX2 := hi2 h1 (aI h2 (aI h3 (aI hF h4)));have HY := hi2 hy (aI hxy hxb);have HBX := hid hbX;clear h1 h2 h3 hF h4 hy hxy hxb hbX;by_cases hx : xat = at_
  ·subst hx;have hlb : xl <= 512 := by
    have h1 := hlen y (gM HY.out.1);have h2 := HY.out.2.2.len;have h3 := H.out.rg.2.2;omega
   have HHP := hid hp;have hbW := (HY.out.2.2.fr (S := fun _ => False) (hF0.trans HX2.out.2.2.2.1 (fun _ _ h => h)) (fun _ _ _ h => h));have HC := hid (clone_v hbW.slb (by omega));have HBW := hid hbW;clear hbW;gi_wp2_with (fail)
   refine (CallsIn.inRound l (callsIn_wide.2 HC.out)).mono ?_;rintro e w2 ⟨a', c', rfl, hb2, F2⟩;have lW := HX2.out.2.2.2.1.size;obtain ⟨k1, k2, k3, k4, k5⟩ := HX2.out;have v1 := coh (F2.heap k2 (fun h => h)) 0;have v2 := coh (F2.heap k3 (fun h => h)) 0;have g1 := foh (F2.heap k2 (fun h => h)) 0;have g2 := foh (F2.heap k3 (fun h => h)) 0;simp at v1 v2;have H2 := hi2 hb2 F2;have K2 := hi2 (F2.heap k2 (fun h => h)) (F2.heap k3 (fun h => h));clear hb2 F2 k1 k2 k3 k4 k5;gi_wp2
   obtain ⟨k1, k2, k3, k4, k5⟩ := HX2.out;obtain ⟨hb2, F2⟩ := H2.out;have hyl : y.2.length = xl := HY.out.2.2.len;refine ⟨(keepsFrom_fr F2).trans (((KeepsOthers.setCell _ _ _).trans (KeepsOthers.setCell _ _ _)).from _), ⟨rfl, pre, _, rfl, rfl, k5⟩, y, ⟨_, by simp; rfl, HY.out.1⟩, a', c', ⟨?_, ?_⟩, ?_, ?_⟩
   ·rw [heap_setCell_ne _ _ _ _ (by simp), hsc _ _ _ _ K2.out.1, hyl]; rfl
   ·rw [hyl];refine hb2.fr (S := fun b => b = w.heap.size + 1 \/ b = w.heap.size + 2) (((Fr.refl (fun b => b = w.heap.size + 1 \/ b = w.heap.size + 2) _).setCell (a := ⟨w.heap.size + 1, 0, none⟩) (fun _ => .inl rfl) _).setCell (a := ⟨w.heap.size + 1 + 1, 0, none⟩) (fun _ => .inr rfl) _) fun b c hc e => ?_
    rcases e with rfl | rfl
    ·rw [K2.out.1] at hc; cases hc
    ·rw [K2.out.2] at hc; cases hc
   ·rw [hsc (w := w2.setCell ⟨w.heap.size + 1, 0, none⟩ _) _ _ _ ((heap_setCell_ne _ _ _ _ (by simp)).trans K2.out.2)]; rfl
   ·exact (((hF0.trans k4 (fun _ _ h => h)).trans F2 (fun _ _ h => h)).setNew (by omega) _).setNew (by omega) _
  ·have hd : (xat == (at_ : Int)) = false := by simpa using hx
   have HHP := hid hx;gi_wp2
   obtain ⟨k1, k2, k3, k4, k5⟩ := HX2.out;refine ⟨KeepsFrom.refl _ _, ⟨rfl, fun _ _ => rfl⟩, ⟨⟨k1, k2⟩, k3, k4⟩, fun z hz => ?_⟩;rcases List.mem_append.1 hz with hz | hz
   ·exact k5 z hz
   ·simp at hz;subst hz;exact HHP.out
 case done =>
  rintro DD ys W hD hys ⟨⟨⟨h1, h2⟩, h3, hF⟩, h4⟩ hK;have z0 := coh h1 0;have u1 := coh h2 0;have u2 := coh h3 0;have f1 := foh h2 0;have f2 := foh h3 0;simp at z0 u1 u2;have hFw := hF0.trans hF (fun _ _ h => h);have HM := hid (fun W' (F : Fq w W') => kept_at (H.out.fr F (fun h => h) (fun h => h) (fun h => h) (fun _ _ _ _ _ h => h)) at_);have hsec : D.sec at_ = (D.fast at_).getD (List.replicate D.size 0) := by
   refine sec_miss fun z hz => ?_
   obtain ⟨i, hi⟩ := List.mem_iff_getElem?.1 hz;have hil := (gI.1 hi).1;have hwi : ws[i]? = some (ws[i]'(by have := HWL.out; omega)) := gE _;have hm := bk_mem ws (k := ws.length) hwi (by have := HWL.out; omega);rw [<- hys] at hm;obtain ⟨q, hq, hqe⟩ := List.mem_map.1 hm;have := h4 q hq;rw [hqe] at this;rw [<- (HWS.out i _ z hwi hi).1];exact this
  have HSEC := hid hsec;have HB := hi2 h2 (aI h3 (aI hFw hK));clear h1 h2 h3 hF h4 hys hsec hK;gi_wp2_with (fail)
  refine (callsIn_wide.2 (HM.out _ hFw)).mono ?_;rintro e w2 ⟨a', c', rfl, hb2, F2⟩;have hzs := H.out.rg.2.2;have HC := hid (clone_v hb2.slb (by omega));have HB2 := hid F2;clear hb2 F2 z0 u1 u2 f1 f2;gi_wp2_with (fail)
  refine (callsIn_wide.2 HC.out).mono ?_;rintro e w3 ⟨a3, c3, rfl, hb3, F3⟩;have F23 := HB2.out.trans F3 (fun _ _ h => h);obtain ⟨k2, k3, k4, k5⟩ := HB.out;have j2 := F23.heap k2 (fun h => h);have j3 := F23.heap k3 (fun h => h);have u1 := coh j2 0;have u2 := coh j3 0;have f1 := foh j2 0;have f2 := foh j3 0;simp at u1 u2;have HJ := hi2 j2 (aI j3 (aI (k4.trans F23 (fun _ _ h => h)) (aI (F23.heap k5 (fun h => h)) hb3)));clear k2 k3 k4 k5 j2 j3 hb3 F3 F23;gi_wp2
  obtain ⟨j2, j3, j4, j5, hb3⟩ := HJ.out;obtain ⟨W3, hW3⟩ : ∃ W3, (w3.setCell ⟨w.heap.size + 1, 0, none⟩ (.slice a3 D.size c3)).setCell ⟨w.heap.size + 1 + 1, 0, none⟩ (.int .i64 0) = W3 := ⟨_, rfl⟩
  have q1 : W3.heap[w.heap.size + 1]? = some (.cells #[.slice a3 D.size c3] 22) := by
   rw [<- hW3, heap_setCell_ne _ _ _ _ (by simp), hsc _ _ _ _ j2]; rfl
  have q2 : W3.heap[w.heap.size + 2]? = some (.cells #[.int .i64 0] 24) := by
   rw [<- hW3, hsc (w := w3.setCell ⟨w.heap.size + 1, 0, none⟩ _) _ _ _ ((heap_setCell_ne _ _ _ _ (by simp)).trans j3)]; rfl
  have F33 : Fr (fun b => b = w.heap.size + 1 \/ b = w.heap.size + 2) w3 W3 := by
   rw [<- hW3];exact ((Fr.refl (fun b => b = w.heap.size + 1 \/ b = w.heap.size + 2) _).setCell (a := ⟨w.heap.size + 1, 0, none⟩) (fun _ => .inl rfl) _).setCell (a := ⟨w.heap.size + 1 + 1, 0, none⟩) (fun _ => .inr rfl) _
  have q3 := F33.heap j5 (by omega);have q4 : ByV W3 a3 D.size c3 (D.sec at_) := by
   rw [HSEC.out];refine hb3.fr F33 fun b c hc e => ?_
   rcases e with rfl | rfl
   ·rw [j2] at hc; cases hc
   ·rw [j3] at hc; cases hc
  rw [hW3];have FP : Fr (fun b => b = DD) W3 (W3.putObj DD (.deferred none)) := (Fr.refl (fun b => b = DD) _).putObj (fun _ => rfl) _;refine devread_ret (b := w.heap.size) q1 q2 q3 (by omega) ⟨a3, c3, rfl, q4.fr FP fun b c hc e => ?_, ?_⟩ rfl rfl
  ·rw [e, q3] at hc; cases hc
  ·exact (j4.trans (S' := fun b => b = w.heap.size + 1 \/ b = w.heap.size + 2) F33 (fun b hb h => by omega)).trans (S' := fun b => b = DD) FP (fun b hb h => by omega)
 case stop =>
  rintro DD c pre W hD hSp ⟨⟨rfl, pre0, x, rfl, hx, hpre0⟩, y, ⟨x', hx', hy⟩, a', c', ⟨h2, hb⟩, h3, hF⟩ hK;obtain rfl : x = x' := by simpa using hx'
  have hsec : D.sec at_ = y.2 := by
   have hm := List.prefix_iff_eq_take.1 hSp;have hlen2 : (pre0 ++ [x]).length <= ws.length := by have := hSp.length_le; rw [bk_len] at this; simpa using this
   rw [bk_take ws (by simpa using hlen2)] at hm;simp only [List.length_map, lA, lC, List.length_nil, List.map_append, List.map_cons, List.map_nil] at hm;rw [bk_succ] at hm;obtain ⟨hm1, hm2⟩ := List.append_inj' hm rfl;have hm3 := (List.cons.inj hm2).1;have hxi : x.1.1 = ws.length - 1 - pre0.length := by rw [hm3]
   have hl0 : pre0.length < ws.length := by simp at hlen2; omega
   refine sec_hit hy ?_ ?_
   ·obtain ⟨y', hy', e1, _⟩ := x.2;rw [hy] at hy';cases hy';rw [<- e1]; exact hx
   ·intro i z hi hz;have hil := (gI.1 hz).1;have hwi : ws[i]? = some (ws[i]'(by have := HWL.out; omega)) := gE _;have hmem := bk_mem ws (k := pre0.length) hwi (by have := HWL.out; omega);rw [<- hm1] at hmem;obtain ⟨q, hq, hqe⟩ := List.mem_map.1 hmem;have := hpre0 q hq;rw [hqe] at this;rw [<- (HWS.out i _ z hwi hz).1];exact this
  have hyl := hlen y (gM hy);rw [hyl] at h2 hb;have FP : Fr (fun b => b = DD) W (W.putObj DD (.deferred none)) := (Fr.refl (fun b => b = DD) _).putObj (fun _ => rfl) _;have HS := hi2 hsec (aI h2 (aI hb (aI h3 (aI hF (aI hK FP)))));clear hsec h2 hb h3 hF hK FP hSp hx hpre0 hy hyl hx';gi_wp2
  obtain ⟨hsec, h2, hb, h3, hF, hK, FP⟩ := HS.out;refine devread_ret (b := w.heap.size) h2 h3 hK (by omega) ⟨a', c', rfl, ?_, ?_⟩ rfl rfl
  ·rw [hsec];refine hb.fr FP fun b c hc e => ?_
   rw [e, hK] at hc; cases hc
  ·exact hF.trans (S' := fun b => b = DD) FP (fun b hb h => by omega)
end Go.Proofs.YtgdhaaokolfdoaaGreatDoor
