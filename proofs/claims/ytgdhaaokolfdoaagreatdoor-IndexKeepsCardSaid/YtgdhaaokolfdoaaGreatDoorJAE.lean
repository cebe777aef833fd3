/- A pack of texts: Fl, Fr, St, Md, WR. Conditions: those that each text names. -/
import Derived.Test.YtgdhaaokolfdoaaGreatDoorJAD
import Derived.Test.YtgdhaaokolfdoaaGreatDoorJAB
import Derived.Test.YtgdhaaokolfdoaaGreatDoorJAC
import Derived.Laws.BitsAllLaws
set_option linter.unusedVariables false
set_option linter.unusedSimpArgs false
set_option linter.unnecessarySimpa false
namespace Go.Proofs.YtgdhaaokolfdoaaGreatDoor
open Go.RowKit Go.Sg
theorem sectors_at {w : World} {d : Nat} {n : Int} (h : w.cell? ⟨d, 0, none⟩ = some (.int .i64 n)) :
    Calls Tryz.prog 92 #[.pointer (some ⟨d, 0, none⟩)] w fun e w' => e = .returned (.int .i64 n) ∧ w = w' := by
  go_enter Tryz.func92, Tryz.ntmps92
  go_wp2
  go_ret
  exact ⟨rfl, rfl⟩
theorem size_at {w : World} {d : Nat} {n : Int} (h : w.cell? ⟨d, 1, none⟩ = some (.int .i64 n)) :
    Calls Tryz.prog 93 #[.pointer (some ⟨d, 0, none⟩)] w fun e w' => e = .returned (.int .i64 n) ∧ w = w' := by
  go_enter Tryz.func93, Tryz.ntmps93
  go_wp2
  go_ret
  exact ⟨rfl, rfl⟩
set_option maxRecDepth 100000 in
theorem newdev_ok (s z : Int) (h1 : 1 ≤ s) (h2 : s ≤ 16384) (h3 : 96 ≤ z) (h4 : z ≤ 512) (w : World) :
    Calls Tryz.prog 20 #[.int .i64 s, .int .i64 z] w fun e w' => e = .returned (.pointer (some ⟨w.heap.size + 2, 0, none⟩)) ∧
      w'.heap[w.heap.size]? = some (.map #[] 0) ∧ w'.heap[w.heap.size + 1]? = some (.map #[] 0) ∧
      w'.heap[w.heap.size + 1 + 1]? = some (.cells #[.int .i64 s, .int .i64 z, .map (some w.heap.size), .slice none 0 0, .map (some (w.heap.size + 1)), .int .i64 0, .int .i64 0, .bool false] 151) ∧ Fr (fun _ => False) w w' := by
  have hmm := fun (t : TypeId) (W : World) => run_makeMap (P := Tryz.prog) t W
  go_enter Tryz.func20, Tryz.ntmps20
  go_wp2
  go_ret
  exact ⟨rfl, heap_three rfl⟩
end Go.Proofs.YtgdhaaokolfdoaaGreatDoor

namespace Go.Proofs.YtgdhaaokolfdoaaGreatDoor
open Go.RowKit Go.Sg
theorem there_yes {w : World} {d : Nat} {n at_ : Int} (h : w.cell? ⟨d, 0, none⟩ = some (.int .i64 n)) (h1 : 0 ≤ at_) (h2 : at_ < n) :
    Calls Tryz.prog 230 #[.pointer (some ⟨d, 0, none⟩), .int .i64 at_] w fun e w' => e = .returned (.bool true) ∧ w = w' := by
  go_enter Tryz.func230, Tryz.ntmps230
  go_wp2
  go_ret
  exact ⟨rfl, rfl⟩
theorem ready_ok {w : World} {d : Nat} {n at_ : Int} (h : w.cell? ⟨d, 0, none⟩ = some (.int .i64 n)) (hd : w.cell? ⟨d, 7, none⟩ = some (.bool false)) (h1 : 0 ≤ at_) (h2 : at_ < n) :
    Calls Tryz.prog 173 #[.pointer (some ⟨d, 0, none⟩), .int .i64 at_] w fun e w' => e = .returned (.int .i64 0) ∧ w = w' := by
  have H := hid (there_yes h h1 h2)
  go_enter Tryz.func173, Tryz.ntmps173
  go_wp2_with (go_at_call 230; refine H.out.mono ?_; rintro e w' ⟨rfl, rfl⟩)
  go_ret
  exact ⟨rfl, rfl⟩
end Go.Proofs.YtgdhaaokolfdoaaGreatDoor

namespace Go.Sg
open Go.RowKit
def mutT : List Nat := [156, 151, 256, 29, 260, 264, 196, 22]
def Mut (w : World) (b : Nat) : Prop := ∀ c t f, w.heap[b]? = some (.cells c t f) → t ∈ mutT
theorem Mut.cells {w : World} {b : Nat} {c : Array Value} {t : TypeId} {f : Nat × Nat} (h : w.heap[b]? = some (.cells c t f)) (ht : t ∈ mutT) : Mut w b := by
  intro c' t' f' h'
  rw [h] at h'; cases h'; exact ht
theorem Mut.map {w : World} {b : Nat} {l : Array MapEntry} {ck : Nat} (h : w.heap[b]? = some (.map l ck)) : Mut w b := by
  intro c' t' f' h'
  rw [h] at h'; cases h'

structure Dev where
  sectors : Nat
  size : Nat
  fast : Int → Option (List Int)
  loose : List (Int × List Int)
  armed : Nat
  acts : Nat
  down : Bool
def FastIs (w : World) (size : Nat) : Option Value → Option (List Int) → Prop
  | none, none => True
  | some v, some bs => ∃ b off cap, v = .slice (some ⟨b, off, none⟩) size cap ∧ ByV w (some ⟨b, off, none⟩) size cap bs ∧ size ≤ cap
  | _, _ => False
structure Wr where
  at_ : Int
  la : Option Addr
  ll : Nat
  lc : Nat
def Wr.cells (x : Wr) : List Value := [.int .i64 x.at_, .slice x.la x.ll x.lc]
def LooseAt (w : World) (base : Nat) (v : Value) (l : List (Int × List Int)) : Prop :=
  ∃ ws : List Wr, w.ownsRow base 196 2 v ws.length (ws.flatMap Wr.cells) ∧ ws.length = l.length ∧ ∀ (i : Nat) (x : Wr) (y : Int × List Int), ws[i]? = some x → l[i]? = some y → x.at_ = y.1 ∧ (ByV w x.la x.ll x.lc y.2 ∧ x.ll ≤ x.lc)
def PastV (w : World) (base N : Nat) (v : Value) : Prop :=
  ∃ n xs, n ≤ N ∧ w.ownsRow base 22 1 v n xs ∧ ∀ x ∈ xs, ∃ a k cap bs, x = .slice a k cap ∧ ByV w a k cap bs ∧ k ≤ 512
structure DevAt (w : World) (base d bf bq : Nat) (x : Dev) : Prop where
  dc : ∃ lv, w.heap[d]? = some (.cells #[.int .i64 x.sectors, .int .i64 x.size, .map (some bf), lv, .map (some bq), .int .i64 x.armed, .int .i64 x.acts, .bool x.down] 151) ∧ LooseAt w base lv x.loose
  fast : ∃ l ck, w.heap[bf]? = some (.map (ents l) ck) ∧ (keys l).Nodup ∧ ∀ k, FastIs w x.size (look l k) (x.fast k)
  past : ∃ l ck, w.heap[bq]? = some (.map (ents l) ck) ∧ (keys l).Nodup ∧ (∀ e ∈ l, PastV w base x.acts e.v) ∧ ∀ e ∈ l, ∀ e' ∈ l, ∀ g, e.v.ownBlock = some g → e'.v.ownBlock = some g → e.k = e'.k
  ge : base ≤ d ∧ base ≤ bf ∧ base ≤ bq
  ne : bf ≠ bq
  rg : (1 ≤ x.sectors ∧ x.sectors ≤ 16384) ∧ 96 ≤ x.size ∧ x.size ≤ 512
theorem DevAt.lts {w : World} {base d bf bq : Nat} {x : Dev} (h : DevAt w base d bf bq x) : d < w.heap.size ∧ bf < w.heap.size ∧ bq < w.heap.size := by
  obtain ⟨lv, hd, _⟩ := h.dc
  obtain ⟨l, ck, hf, _⟩ := h.fast
  obtain ⟨l', ck', hq, _⟩ := h.past
  exact ⟨lt_of_heap hd, lt_of_heap hf, lt_of_heap hq⟩
theorem ownsRow_fr {S : Nat → Prop} {w w' : World} {base e size n : Nat} {v : Value} {xs : List Value} (h : w.ownsRow base e size v n xs) (F : Fr S w w') (hS : ∀ g c, w.heap[g]? = some (.cells c e) → ¬ S g) : w'.ownsRow base e size v n xs := by
  obtain ⟨hl, h0 | ⟨g, cap, cur, hv, hb, hg, r⟩⟩ := h
  · exact ⟨hl, .inl h0⟩
  · exact ⟨hl, .inr ⟨g, cap, cur, hv, hb, F.heap hg (hS g cur hg), r⟩⟩
theorem DevAt.fr {S : Nat → Prop} {w w' : World} {base d bf bq : Nat} {x : Dev} (h : DevAt w base d bf bq x) (F : Fr S w w') (h1 : ¬ S d) (h2 : ¬ S bf) (h3 : ¬ S bq)
    (h4 : ∀ g c t, (t = 5 ∨ t = 196 ∨ t = 22) → w.heap[g]? = some (.cells c t) → ¬ S g) : DevAt w' base d bf bq x := by
  obtain ⟨lv, hd, ws, hown, hlen, hws⟩ := h.dc
  obtain ⟨l, ck, hf, hfn, hfs⟩ := h.fast
  obtain ⟨l', ck', hq, hqn, hqs, hqd⟩ := h.past
  have hB : ∀ a n c bs, ByV w a n c bs → ByV w' a n c bs := fun a n c bs hb => hb.fr F fun b c hc => h4 b c 5 (.inl rfl) hc
  refine ⟨⟨lv, F.heap hd h1, ws, ownsRow_fr hown F fun g c hg => h4 g c _ (.inr (.inl rfl)) hg, hlen, fun i y z hy hz => ⟨(hws i y z hy hz).1, hB _ _ _ _ (hws i y z hy hz).2.1, (hws i y z hy hz).2.2⟩⟩,
    ⟨l, ck, F.heap hf h2, hfn, fun k => ?_⟩, ⟨l', ck', F.heap hq h3, hqn, fun e he => ?_, hqd⟩, h.ge, h.ne, h.rg⟩
  · have := hfs k
    cases hlk : look l k with
    | none => rw [hlk] at this; cases hx : x.fast k with
      | none => trivial
      | some bs => rw [hx] at this; exact this.elim
    | some v => rw [hlk] at this; cases hx : x.fast k with
      | none => rw [hx] at this; exact this.elim
      | some bs =>
        rw [hx] at this
        obtain ⟨b, off, cap, e, hb, hcp⟩ := this
        exact ⟨b, off, cap, e, hB _ _ _ _ hb, hcp⟩
  · obtain ⟨n, xs, hnN, hx, hxs⟩ := hqs e he
    refine ⟨n, xs, hnN, ownsRow_fr hx F fun g c hg => h4 g c _ (.inr (.inr rfl)) hg, fun y hy => ?_⟩
    obtain ⟨a, k, cap, bs, e, hb, hk⟩ := hxs y hy
    exact ⟨a, k, cap, bs, e, hB _ _ _ _ hb, hk⟩
def Dev.fresh (s z : Nat) : Dev := ⟨s, z, fun _ => none, [], 0, 0, false⟩

structure Plan8 where
  sectors : Int
  size : Int
  regions : Int
  rsectors : Int
  log : Int
  depth : Int
  memory : Int
  seed : Int
abbrev Plan8.val (p : Plan8) : Value := .agg #[.int .i64 p.sectors, .int .i64 p.size, .int .i64 p.regions, .int .i64 p.rsectors, .int .i64 p.log, .int .i64 p.depth, .int .i64 p.memory, .int .u64 p.seed]
structure Blk where
  base : Nat
  s : Nat
  d : Nat
  bf : Nat
  bq : Nat
  bs : Nat
  bw : Nat
  fr : Nat
  dy : Nat
  de : Nat
  bc : Nat
  bp : Nat
  bm : Nat
structure Sto where
  plan : Plan8
  first : Int
  pages : Nat
  room : Nat
  gen : Nat
  hand : Nat
  taken : Nat → Bool
  fresh : Int → Bool
  dying : Int → Bool
  dead : Int → Bool
  mem : Int → Option Clk.Pg
  places : Nat
  dev : Dev
def Blk.maps (B : Blk) : List Nat := [B.bf, B.bq, B.fr, B.dy, B.de, B.bm]
abbrev Blk.ptr (B : Blk) : Value := .pointer (some ⟨B.s, 0, none⟩)
inductive Role
  | s | d | bf | bq | bs | bw | fr | dy | de | bc | bp | bm
  deriving DecidableEq
def Role.kind : Role → Nat
  | .s => 156 + 1
  | .d => 152
  | .bs => 257
  | .bw => 30
  | .bc => 261
  | .bp => 265
  | _ => 0
def Blk.at_ (B : Blk) : Role → Nat
  | .s => B.s
  | .d => B.d
  | .bf => B.bf
  | .bq => B.bq
  | .bs => B.bs
  | .bw => B.bw
  | .fr => B.fr
  | .dy => B.dy
  | .de => B.de
  | .bc => B.bc
  | .bp => B.bp
  | .bm => B.bm
def MutB (B : Blk) (w : World) (b : Nat) : Prop := Mut w b ∧ ((∃ c t f, w.heap[b]? = some (.cells c t f)) ∨ ∃ r, b = B.at_ r)
abbrev FrB (B : Blk) (w w' : World) : Prop := Fr (fun b => B.base ≤ b ∧ MutB B w b) w w'
theorem FrB.refl (B : Blk) (w : World) : FrB B w w := Fr.refl _ _
theorem FrB.trans {B : Blk} {w w1 w2 : World} (h : FrB B w w1) (k : FrB B w1 w2) : FrB B w w2 := by
  refine Fr.trans h k fun b hb hs => ?_
  rcases Classical.em (B.base ≤ b ∧ MutB B w b) with hm | hm
  · exact hm
  · have e := h.block b hb hm
    refine ⟨hs.1, fun c t f hc => hs.2.1 c t f (e.trans hc), ?_⟩
    rw [← e]; exact hs.2.2
theorem FrB.none {B : Blk} {w w' : World} (h : Fr (fun _ => False) w w') : FrB B w w' := h.mono fun _ _ h => h.elim
theorem FrB.heap {B : Blk} {w w' : World} (h : FrB B w w') {b : Nat} {c : Array Value} {t : TypeId} {f : Nat × Nat} (hb : w.heap[b]? = some (.cells c t f)) (ht : t ∉ mutT) : w'.heap[b]? = some (.cells c t f) :=
  Fr.heap h hb fun hs => ht (hs.2.1 c t f hb)
theorem FrB.alloc {B : Blk} {w w1 : World} (h : FrB B w w1) (o : Obj) : FrB B w (w1.alloc o) := Fr.alloc h o
theorem ByV.frB {B : Blk} {w w' : World} {a : Option Addr} {n c : Nat} {bs : List Int} (h : ByV w a n c bs) (F : FrB B w w') : ByV w' a n c bs :=
  h.fr F fun b c hb hs => absurd (hs.2.1 c 5 _ hb) (by decide)
theorem FrB.keeps {B : Blk} {w w' : World} (h : FrB B w w') {B0 : Nat} (hB : ∀ r, B.at_ r < B0) : KeepsFrom B0 w w' := by
  refine ⟨h.size, fun k o hk ho hc => Fr.heap h ho fun hs => ?_⟩
  rcases hs.2.2 with ⟨c, t, f, e⟩ | ⟨r, e⟩
  · rw [ho] at e; cases e; cases hc
  · have := hB r; omega
end Go.Sg
namespace Go.Proofs.YtgdhaaokolfdoaaGreatDoor
open Go.RowKit Go.Sg Go.Sg.Bits CP
structure StoreAt (w : World) (B : Blk) (x : Sto) : Prop where
  s : w.heap[B.s]? = some (.cells #[.pointer (some ⟨B.d, 0, none⟩), .int .i64 x.plan.sectors, .int .i64 x.plan.size, .int .i64 x.plan.regions, .int .i64 x.plan.rsectors, .int .i64 x.plan.log, .int .i64 x.plan.depth, .int .i64 x.plan.memory, .int .u64 x.plan.seed,
    .int .i64 x.first, .int .i64 x.pages, .int .i64 x.room, .int .i64 x.gen, .pointer (some ⟨B.bs, 0, none⟩), .map (some B.fr), .map (some B.dy), .map (some B.de), .pointer (some ⟨B.bc, 0, none⟩)] 156)
  dev : DevAt w B.base B.d B.bf B.bq x.dev
  bits : BitsAt w B.bs B.bw x.pages x.hand x.taken
  fr : SetAt w B.fr x.fresh
  dy : SetAt w B.dy x.dying
  de : SetAt w B.de x.dead
  mem : MemAt w B.bc B.bp B.bm x.places x.mem
  load : ∀ k p, x.mem k = some p → ∃ bs, ByV w p.la p.ll p.lc bs ∧ bs.length ≤ x.room
  ne : B.maps.Nodup
  ge : B.base ≤ B.s ∧ B.base ≤ B.bs ∧ B.base ≤ B.bw ∧ B.base ≤ B.fr ∧ B.base ≤ B.dy ∧ B.base ≤ B.de ∧ B.base ≤ B.bc ∧ B.base ≤ B.bp ∧ B.base ≤ B.bm
  rg : x.room ≤ 493 ∧ (1 ≤ x.gen ∧ x.gen ≤ 2199023255552) ∧ 0 ≤ x.first ∧ x.first + x.pages = x.dev.sectors ∧ x.room + 19 = x.dev.size
  inr : (∀ k, x.fresh k = true → 0 ≤ k ∧ k < x.pages) ∧ (∀ k, x.dying k = true → 0 ≤ k ∧ k < x.pages) ∧ (∀ k, x.dead k = true → 0 ≤ k ∧ k < x.pages)
theorem BitsAt_heaps {w : World} {bs bw n hand : Nat} {t : Nat → Bool} (h : BitsAt w bs bw n hand t) : (∃ c, w.heap[bs]? = some (.cells c 256)) ∧ ∃ c, w.heap[bw]? = some (.cells c 29) := by
  obtain ⟨ws, h, _⟩ := h
  exact ⟨⟨_, h.s⟩, ⟨_, h.w_⟩⟩
def kd (w : World) (b : Nat) : Nat := match w.heap[b]? with
  | some (.cells _ t _) => t + 1
  | _ => 0
theorem kd_cells {w : World} {b : Nat} {c : Array Value} {t : TypeId} {f : Nat × Nat} (h : w.heap[b]? = some (.cells c t f)) : kd w b = t + 1 := by rw [kd, h]
theorem kd_map {w : World} {b : Nat} {l : Array MapEntry} {ck : Nat} (h : w.heap[b]? = some (.map l ck)) : kd w b = 0 := by rw [kd, h]
theorem StoreAt.heaps {w : World} {B : Blk} {x : Sto} (h : StoreAt w B x) (r : Role) : B.base ≤ B.at_ r ∧ Mut w (B.at_ r) ∧ B.at_ r < w.heap.size ∧ kd w (B.at_ r) = r.kind := by
  obtain ⟨g1, g2, g3, g4, g5, g6, g7, g8, g9⟩ := h.ge
  obtain ⟨k1, k2, k3⟩ := h.dev.ge
  obtain ⟨lv, hd, _⟩ := h.dev.dc
  obtain ⟨l, ck, hf, _⟩ := h.dev.fast
  obtain ⟨l', ck', hq, _⟩ := h.dev.past
  obtain ⟨⟨_, hbs⟩, ⟨_, hbw⟩⟩ := BitsAt_heaps h.bits
  obtain ⟨l1, c1, hfr, _⟩ := h.fr.ex
  obtain ⟨l2, c2, hdy, _⟩ := h.dy.ex
  obtain ⟨l3, c3, hde, _⟩ := h.de.ex
  obtain ⟨⟨_, hbc⟩, ⟨_, hbp⟩, _, _, hbm⟩ := h.mem.heaps
  cases r
  · exact ⟨g1, Mut.cells h.s (by decide), lt_of_heap h.s, kd_cells h.s⟩
  · exact ⟨k1, Mut.cells hd (by decide), lt_of_heap hd, kd_cells hd⟩
  · exact ⟨k2, Mut.map hf, lt_of_heap hf, kd_map hf⟩
  · exact ⟨k3, Mut.map hq, lt_of_heap hq, kd_map hq⟩
  · exact ⟨g2, Mut.cells hbs (by decide), lt_of_heap hbs, kd_cells hbs⟩
  · exact ⟨g3, Mut.cells hbw (by decide), lt_of_heap hbw, kd_cells hbw⟩
  · exact ⟨g4, Mut.map hfr, lt_of_heap hfr, kd_map hfr⟩
  · exact ⟨g5, Mut.map hdy, lt_of_heap hdy, kd_map hdy⟩
  · exact ⟨g6, Mut.map hde, lt_of_heap hde, kd_map hde⟩
  · exact ⟨g7, Mut.cells hbc (by decide), lt_of_heap hbc, kd_cells hbc⟩
  · exact ⟨g8, Mut.cells hbp (by decide), lt_of_heap hbp, kd_cells hbp⟩
  · exact ⟨g9, Mut.map hbm, lt_of_heap hbm, kd_map hbm⟩
theorem StoreAt.inj {w : World} {B : Blk} {x : Sto} (h : StoreAt w B x) {r r' : Role} (e : B.at_ r = B.at_ r') : r = r' := by
  have hk : r.kind = r'.kind := by rw [← (h.heaps r).2.2.2, ← (h.heaps r').2.2.2, e]
  have hn := h.ne
  simp only [Blk.maps, List.nodup_cons, List.mem_cons, not_or, List.not_mem_nil, not_false_eq_true, List.nodup_nil, and_true] at hn
  obtain ⟨⟨a1, a2, a3, a4, a5⟩, ⟨b1, b2, b3, b4⟩, ⟨c1, c2, c3⟩, ⟨d1, d2⟩, e1⟩ := hn
  cases r <;> cases r' <;> first | rfl | (exact absurd hk (by decide)) | (exact absurd e (by assumption)) | (exact absurd e.symm (by assumption))
abbrev FrR (B : Blk) (L : List Role) (w w' : World) : Prop := Fr (fun b => ∃ r ∈ L, b = B.at_ r) w w'
theorem StoreAt.out {w : World} {B : Blk} {x : Sto} (h : StoreAt w B x) {L : List Role} {r : Role} (hr : r ∉ L) : ¬ ∃ r' ∈ L, B.at_ r = B.at_ r' := by
  rintro ⟨r', hL, e⟩
  exact hr (by rw [h.inj e]; exact hL)
theorem StoreAt.outB {w : World} {B : Blk} {x : Sto} (h : StoreAt w B x) (L : List Role) {b : Nat} {c : Array Value} {t : TypeId} {f : Nat × Nat} (hb : w.heap[b]? = some (.cells c t f)) (ht : t ∉ [156, 151, 256, 29, 260, 264]) : ¬ ∃ r ∈ L, b = B.at_ r := by
  rintro ⟨r, _, rfl⟩
  have h1 := kd_cells hb
  rw [(h.heaps r).2.2.2] at h1
  cases r <;> simp [Role.kind] at h1 <;> (subst h1; simp at ht)
theorem StoreAt.frB {w w' : World} {B : Blk} {x : Sto} (h : StoreAt w B x) {L : List Role} (F : FrR B L w w') : FrB B w w' :=
  Fr.mono F fun b _ hs => by obtain ⟨r, _, rfl⟩ := hs; exact ⟨(h.heaps r).1, (h.heaps r).2.1, .inr ⟨r, rfl⟩⟩
structure Stays (w' : World) (B : Blk) (x : Sto) (L : List Role) : Prop where
  s : Role.s ∉ L → w'.heap[B.s]? = some (.cells #[.pointer (some ⟨B.d, 0, none⟩), .int .i64 x.plan.sectors, .int .i64 x.plan.size, .int .i64 x.plan.regions, .int .i64 x.plan.rsectors, .int .i64 x.plan.log, .int .i64 x.plan.depth, .int .i64 x.plan.memory, .int .u64 x.plan.seed,
    .int .i64 x.first, .int .i64 x.pages, .int .i64 x.room, .int .i64 x.gen, .pointer (some ⟨B.bs, 0, none⟩), .map (some B.fr), .map (some B.dy), .map (some B.de), .pointer (some ⟨B.bc, 0, none⟩)] 156)
  dev : Role.d ∉ L → Role.bf ∉ L → Role.bq ∉ L → DevAt w' B.base B.d B.bf B.bq x.dev
  bits : Role.bs ∉ L → Role.bw ∉ L → BitsAt w' B.bs B.bw x.pages x.hand x.taken
  fr : Role.fr ∉ L → SetAt w' B.fr x.fresh
  dy : Role.dy ∉ L → SetAt w' B.dy x.dying
  de : Role.de ∉ L → SetAt w' B.de x.dead
  mem : Role.bc ∉ L → Role.bp ∉ L → Role.bm ∉ L → MemAt w' B.bc B.bp B.bm x.places x.mem
  load : ∀ k p, x.mem k = some p → ∃ bs, ByV w' p.la p.ll p.lc bs ∧ bs.length ≤ x.room
theorem StoreAt.stays {w w' : World} {B : Blk} {x : Sto} (h : StoreAt w B x) {L : List Role} (F : FrR B L w w') : Stays w' B x L := by
  refine ⟨fun a => Fr.heap F h.s (h.out a), fun a b c => h.dev.fr F (h.out a) (h.out b) (h.out c) fun g c t ht hg => h.outB L hg ?_, fun a b => h.bits.fr F (h.out a) (h.out b), fun a => h.fr.fr F (h.out a), fun a => h.dy.fr F (h.out a), fun a => h.de.fr F (h.out a),
    fun a b c => h.mem.fr F (h.out a) (h.out b) (h.out c), fun k p hp => ?_⟩
  · rcases ht with rfl | rfl | rfl <;> decide
  · obtain ⟨bs, hb, hl⟩ := h.load k p hp
    exact ⟨bs, hb.fr F fun b c hc => h.outB L hc (by decide), hl⟩
theorem StoreAt.byv {w w' : World} {B : Blk} {x : Sto} (h : StoreAt w B x) {L : List Role} (F : FrR B L w w') {a : Option Addr} {n c : Nat} {bs : List Int} (hb : ByV w a n c bs) : ByV w' a n c bs :=
  hb.fr F fun b c hc => h.outB L hc (by decide)
theorem StoreAt.frL {w w' : World} {B : Blk} {x : Sto} (h : StoreAt w B x) {k : Nat} (F : Fr (fun b => b = k) w w') {c : Array Value} {t : TypeId} (hk : w.heap[k]? = some (.cells c t)) (ht : t ∉ 5 :: mutT) : StoreAt w' B x := by
  have h1 : ∀ r, ¬ B.at_ r = k := fun r e => by
    have h2 := (h.heaps r).2.1 c t
    rw [e] at h2
    exact ht (List.mem_cons_of_mem _ (h2 _ hk))
  have h4 : ∀ g c' t', t' ∈ 5 :: mutT → w.heap[g]? = some (.cells c' t') → ¬ g = k := fun g c' t' h5 hg e => by
    rw [e, hk] at hg; cases hg; exact ht h5
  refine ⟨F.heap h.s (h1 .s), h.dev.fr F (h1 .d) (h1 .bf) (h1 .bq) fun g c' t' h5 hg => h4 g c' t' (by rcases h5 with rfl | rfl | rfl <;> decide) hg, h.bits.fr F (h1 .bs) (h1 .bw), h.fr.fr F (h1 .fr), h.dy.fr F (h1 .dy), h.de.fr F (h1 .de), h.mem.fr F (h1 .bc) (h1 .bp) (h1 .bm), fun k p hp => ?_, h.ne, h.ge, h.rg, h.inr⟩
  obtain ⟨bs, hb, hl⟩ := h.load k p hp
  exact ⟨bs, hb.fr F fun b c hc => h4 b c 5 (by decide) hc, hl⟩
theorem _root_.Go.Sg.ByV.frL {w w' : World} {a : Option Addr} {n c : Nat} {bs : List Int} (h : ByV w a n c bs) {k : Nat} (F : Fr (fun b => b = k) w w') {cs : Array Value} {t : TypeId} (hk : w.heap[k]? = some (.cells cs t)) (ht : t ≠ 5) : ByV w' a n c bs :=
  h.fr F fun b c hc e => by rw [e, hk] at hc; cases hc; exact ht rfl
theorem StoreAt.fr0 {w w' : World} {B : Blk} {x : Sto} (h : StoreAt w B x) (F : Fr (fun _ => False) w w') : StoreAt w' B x := by
  have S := h.stays (L := []) (F.mono fun _ _ h => h.elim)
  exact ⟨S.s (by decide), S.dev (by decide) (by decide) (by decide), S.bits (by decide) (by decide), S.fr (by decide), S.dy (by decide), S.de (by decide), S.mem (by decide) (by decide) (by decide), S.load, h.ne, h.ge, h.rg, h.inr⟩
end Go.Proofs.YtgdhaaokolfdoaaGreatDoor

namespace Go.Sg
open Go.RowKit
def leB (n : Nat) : Nat → List Int
  | 0 => []
  | k + 1 => ((n % 256 : Nat) : Int) :: leB (n / 256) k
theorem leB_length (k : Nat) : ∀ n, (leB n k).length = k := by
  induction k with
  | zero => intro n; rfl
  | succ k ih => intro n; simp [leB, ih]
def leV : List Int → Nat
  | [] => 0
  | x :: l => x.toNat + 256 * leV l
theorem leV_leB (k : Nat) : ∀ n, n < 256 ^ k → leV (leB n k) = n := by
  induction k with
  | zero => intro n h; simp at h; subst h; rfl
  | succ k ih =>
    intro n h
    have h2 : n / 256 < 256 ^ k := by rw [Nat.pow_succ] at h; omega
    simp only [leB, leV, ih _ h2, Int.toNat_natCast]
    omega
def crcStep (n : Nat) : Nat := (n / 2) ^^^ (if n % 2 = 1 then 2197175160 else 0)
def crcTab (i : Nat) : Nat := crcStep (crcStep (crcStep (crcStep (crcStep (crcStep (crcStep (crcStep i)))))))
def crcNext (n : Nat) (x : Int) : Nat := (n / 256) ^^^ crcTab ((n % 256) ^^^ x.toNat)
def crcM (bs : List Int) : Nat := bs.foldl crcNext 4294967295 ^^^ 4294967295
def bodyM (size kind place stamp : Nat) (load : List Int) : List Int :=
  leB kind 1 ++ leB load.length 2 ++ leB place 4 ++ leB stamp 8 ++ load ++ List.replicate (size - 19 - load.length) 0
def buildM (size kind place stamp : Nat) (load : List Int) : List Int := bodyM size kind place stamp load ++ leB (crcM (bodyM size kind place stamp load)) 4
theorem bodyM_length {size kind place stamp : Nat} {load : List Int} (h : load.length + 19 ≤ size) : (bodyM size kind place stamp load).length = size - 4 := by
  simp [bodyM, leB_length]; omega
theorem buildM_length {size kind place stamp : Nat} {load : List Int} (h : load.length + 19 ≤ size) : (buildM size kind place stamp load).length = size := by
  rw [buildM, List.length_append, bodyM_length h, leB_length]; omega
def Dev.act (D : Dev) : Dev := { D with acts := D.acts + 1, armed := D.armed - 1, down := if D.armed = 0 then D.down else decide (D.armed = 1) }
def Dev.write (D : Dev) (at_ : Int) (bs : List Int) : Dev × Int :=
  if D.down then (D, 4) else if at_ < 0 ∨ (D.sectors : Int) ≤ at_ then (D, 2) else if bs.length ≠ D.size then (D, 3)
  else ({ D.act with loose := D.loose ++ [(at_, bs)] }, if D.act.down then 4 else 0)
end Go.Sg
namespace Go.Proofs.YtgdhaaokolfdoaaGreatDoor
open Go.RowKit Go.Sg Go.Sg.Bits Go.Sg.Clk CP
def OutR (w : World) (x : Sto) (g : Option (Int × Pg)) (D : Dev) (err : Int) : Prop :=
  match g with
  | none => D = x.dev ∧ err = 0
  | some (k, q) => if q.dirty = true then ∃ bs, ByV w q.la q.ll q.lc bs ∧ (D, err) = x.dev.write (x.first + k) (buildM x.dev.size 2 k.toNat q.stamp.toNat bs) else D = x.dev ∧ err = 0
def KeepOut (B : Blk) (x : Sto) (n : Int) (p : Pg) (w : World) (e : Ending) (w' : World) : Prop :=
  ∃ err g D, e = .returned (.int .i64 err) ∧ GoneOk x.mem x.places n g ∧ OutR w' x g D err ∧ StoreAt w' B { x with mem := putF x.mem n p g, dev := D } ∧ FrB B w w'
end Go.Proofs.YtgdhaaokolfdoaaGreatDoor

namespace Go.Sg
open Go.RowKit
structure RdAt (w : World) (r : Nat) (bs : List Int) (bad : Bool) : Prop where
  ex : ∃ a c, w.heap[r]? = some (.cells #[.slice a bs.length c, .bool bad] 377) ∧ ByV w a bs.length c bs ∧ bs.length ≤ c
  small : bs.length ≤ 65536
theorem addr_add (b off j : Nat) : (⟨b, off, none⟩ : Addr).add j = ⟨b, off + j, none⟩ := by unfold Addr.add; split <;> simp_all
theorem ByV.take {w : World} {a : Option Addr} {n c : Nat} {bs : List Int} (h : ByV w a n c bs) {m : Nat} (hm : m ≤ n) : ByV w a m c (bs.take m) := by
  refine ⟨⟨by rw [List.length_take, h.by_.len]; omega, fun i x hx => ?_⟩, ?_⟩
  · rw [List.getElem?_take] at hx
    split at hx
    · exact h.by_.at_ i x hx
    · cases hx
  · rcases h.at_ with ⟨h0, h1, h2⟩ | h0
    · exact .inl ⟨h0, by omega, h2⟩
    · exact .inr h0
theorem ByV.drop {w : World} {a : Option Addr} {n c : Nat} {bs : List Int} (h : ByV w a n c bs) {m : Nat} (hm : m ≤ n) (hc : n ≤ c) : ByV w (if c = m then a else a.map (·.add m)) (n - m) (c - m) (bs.drop m) := by
  rcases h.at_ with ⟨rfl, h1, h2⟩ | ⟨b, off, cs, rfl, h2⟩
  · have h3 : m = 0 := by omega
    subst h3
    subst h1 h2
    have : bs = [] := List.eq_nil_of_length_eq_zero h.by_.len
    subst this
    exact ByV.nil w
  · by_cases he : c = m
    · rw [if_pos he]
      have hn : n - m = 0 := by omega
      have hd : bs.drop m = [] := List.drop_eq_nil_of_le (by rw [h.by_.len]; omega)
      rw [hn, hd]
      exact ⟨⟨rfl, fun i x hx => by simp at hx⟩, .inr ⟨b, off, cs, rfl, h2⟩⟩
    · rw [if_neg he]
      refine ⟨⟨by rw [List.length_drop, h.by_.len], fun i x hx => ?_⟩, .inr ⟨b, off + m, cs, by simp [addr_add], h2⟩⟩
      rw [List.getElem?_drop] at hx
      obtain ⟨b', off', e, hb, hcell⟩ := h.by_.at_ _ x hx
      cases e
      exact ⟨b, off + m, by simp [addr_add], hb, by rw [Nat.add_assoc]; exact hcell⟩
theorem leV_take_lt {bs : List Int} (hb : ∀ x ∈ bs, 0 ≤ x ∧ x < 256) : ∀ k, leV (bs.take k) < 256 ^ k := by
  intro k
  induction bs generalizing k with
  | nil => simp [leV]; exact Nat.pow_pos (by decide)
  | cons x l ih =>
    cases k with
    | zero => simp [leV]
    | succ k =>
      have h1 := ih (fun y hy => hb y (by simp [hy])) k
      have h2 := hb x (by simp)
      simp only [List.take_succ_cons, leV]
      rw [Nat.pow_succ]
      omega
theorem leV_snoc (l : List Int) (x : Int) : leV (l ++ [x]) = leV l + x.toNat * 256 ^ l.length := by
  induction l with
  | nil => simp [leV]
  | cons y l ih =>
    simp only [List.cons_append, leV, ih, List.length_cons, Nat.pow_succ]
    rw [Nat.mul_add, Nat.add_assoc, Nat.mul_comm 256 (x.toNat * _), Nat.mul_assoc]
theorem leV_next {bs : List Int} (hb : ∀ x ∈ bs, 0 ≤ x ∧ x < 256) {k : Nat} {x : Int} (hx : bs[k]? = some x) : leV (bs.take (k + 1)) = leV (bs.take k) ||| x.toNat * 2 ^ (8 * k) := by
  have hk := (List.getElem?_eq_some_iff.1 hx).1
  have e : bs.take (k + 1) = bs.take k ++ [x] := by rw [List.take_add_one, hx]; rfl
  have hl := leV_take_lt hb k
  have e2 : (256 : Nat) ^ k = 2 ^ (8 * k) := by rw [Nat.pow_mul]
  rw [e, leV_snoc, List.length_take, Nat.min_eq_left (Nat.le_of_lt hk), e2]
  rw [e2] at hl
  rw [Nat.add_comm, Nat.or_comm, ← Nat.shiftLeft_eq, Nat.shiftLeft_add_eq_or_of_lt hl]
theorem byts_of_own' {w : World} {base e n : Nat} {v : Value} {bs : List Int} (h : w.ownsRow base e 1 v n (bs.map (Value.int .u8))) (hne : v ≠ .slice none 0 0) :
    ∃ g cap c, v = .slice (some ⟨g, 0, none⟩) n cap ∧ w.heap[g]? = some (.cells c e) ∧ Byts w (some ⟨g, 0, none⟩) n bs ∧ n ≤ cap := by
  obtain ⟨g, cap, c, rfl, hg, hB⟩ := byts_of_own h hne
  refine ⟨g, cap, c, rfl, hg, hB, ?_⟩
  obtain ⟨_, ⟨h1, _⟩ | ⟨g', cap', cur, h1, _, _, h2, _⟩⟩ := h
  · cases h1
  · cases h1; exact h2
end Go.Sg
namespace Go.Proofs.YtgdhaaokolfdoaaGreatDoor
open Go.RowKit Go.Sg
theorem slice_to (a : Option Addr) (n c m : Nat) (h : m ≤ c) (W : World) : (Instr.slice 22 (.slice a n c) none (some (.int .i64 m)) none).run Tryz.prog W = .ok (.slice a m c) W := by
  rw [run_slice_h W 22 a n c (by kernel_rfl) .i64 m (by omega) (by omega)]
  have hs : (sizeOf (Tryz.prog.elem 22)).run Tryz.prog W = .ok 1 W := by kernel_rfl
  rw [hs]
  simp only [Result.andThen_ok, sliced, Int.toNat_natCast, Nat.zero_mul, Nat.sub_zero]
  cases a with
  | none => simp
  | some a => simp [Addr.add]
theorem slice_from (a : Option Addr) (n c m : Nat) (h : m ≤ n) (W : World) : (Instr.slice 22 (.slice a n c) (some (.int .i64 m)) none none).run Tryz.prog W = .ok (.slice (if c = m then a else a.map (·.add m)) (n - m) (c - m)) W := by
  rw [run_slice_l W 22 a n c (by kernel_rfl) .i64 m (by omega) (by omega)]
  have hs : (sizeOf (Tryz.prog.elem 22)).run Tryz.prog W = .ok 1 W := by kernel_rfl
  rw [hs]
  simp only [Result.andThen_ok, sliced, Int.toNat_natCast, Nat.mul_one]
set_option maxHeartbeats 1000000 in
set_option maxRecDepth 100000 in
theorem clone_c {w : World} {ad : Addr} {n cap : Nat} {bs : List Int} (h : Byts w (some ad) n bs) (hn : n ≤ 65536) :
    Calls Tryz.prog 83 #[.slice (some ad) n cap] w fun e w' => ∃ g cap' c, e = .returned (.slice (some ⟨g, 0, none⟩) n cap') ∧ w'.heap[g]? = some (.cells c 5) ∧ (Byts w' (some ⟨g, 0, none⟩) n bs ∧ n ≤ cap') ∧ w.heap.size ≤ g ∧ Fr (fun _ => False) w w' := by
  obtain ⟨i0, hi0, hz0, hz1, hz2⟩ := info_parts Tryz.info5
  have H := hid h
  have hlen := h.len
  have hcell : ∀ (o : Obj) (j : Nat) (u : Value), (bs.map (Value.int .u8))[j]? = some u → (w.alloc o).cell? (ad.add j) = some u := fun o j u hu => by
    rw [List.getElem?_map] at hu
    cases hx : bs[j]? with
    | none => rw [hx] at hu; cases hu
    | some x =>
      rw [hx] at hu
      cases hu
      obtain ⟨b', off', e, hb, hc⟩ := h.at_ j x hx
      cases e
      rw [addr_add]
      exact (((Fr.refl (fun _ => False) w).alloc o).cell (p := ⟨b', off' + j, none⟩) hb (fun h => h)).trans hc
  have HC := hid hcell
  clear h hcell
  have q22 : ∀ (w : World) (a : Option Addr) (n c n' c' : Nat), (binOp .eql 22 (.slice a n c) (.slice none n' c')).run Tryz.prog w = .ok (.bool a.isNone) w := fun w a n c n' c' => Lib.run_eql_slice_nil w _ _ a n c n' c' Tryz.underlying22
  go_enter Tryz.func83, Tryz.ntmps83
  go_wp2_with (at_builtin; refine wpList_append_own_at _ rfl (.tmp 5) (.tmp 6) 22 rfl 0 5 i0 _ 1 1 Tryz.underlying22 hi0 hz0 hz1 hz2 rfl (by decide) _ _ _ rfl (own_lit0 _ _ _ _ (by simp [go_sem])) ad n cap (bs.map (Value.int .u8)) rfl (by simpa using hlen) ?c1 ?c2 ?c3 ?c4 (Nat.zero_le _) ?_)
  case c1 => exact HC.out _
  case c2 => intro u hu; obtain ⟨x, _, rfl⟩ := List.mem_map.1 hu; rfl
  case c3 => simp [maxLen]; omega
  case c4 => omega
  intro v1 w1 hown hgrow hnil hat
  try simp only [List.nil_append, Nat.zero_add] at hown
  have F1 : Fr (fun _ => False) w w1 := ((Fr.refl (fun _ => False) w).alloc _).trans (S' := fun b => b = w.heap.size) (Fr.of_grownBy hgrow) (fun b hb h => by omega)
  obtain ⟨g, cap', c, rfl, hg, hB, hcp⟩ := byts_of_own' hown hnil
  have hgl : w.heap.size ≤ g := by
    rcases hat with h | h <;> simp [Value.ownBlock] at h <;> omega
  have HG := hid (And.intro hg (And.intro (And.intro hB hcp) (And.intro hgl F1)))
  clear hown hgrow hat hg hB F1 hgl hcp
  go_wp2
  go_ret
  exact ⟨g, cap', c, rfl, HG.out.1, HG.out.2.1, HG.out.2.2.1, HG.out.2.2.2⟩
theorem clone_vc {w : World} {a : Option Addr} {n c : Nat} {bs : List Int} (h : SlB w a n c bs) (hn : n ≤ 65536) :
    Calls Tryz.prog 83 #[.slice a n c] w fun e w' => ∃ a' c', e = .returned (.slice a' n c') ∧ (ByV w' a' n c' bs ∧ n ≤ c') ∧ Fr (fun _ => False) w w' := by
  rcases h.at_ with ⟨rfl, rfl, rfl⟩ | ⟨ad, rfl⟩
  · refine (clone_nil w).mono fun e w' ⟨he, hw⟩ => ⟨none, 0, he, ⟨?_, Nat.le_refl _⟩, by rw [hw]; exact Fr.refl _ _⟩
    have : bs = [] := List.eq_nil_of_length_eq_zero h.by_.len
    rw [this]; exact ByV.nil w'
  · exact (clone_c h.by_ hn).mono fun e w' ⟨g, c', cs, he, hg, hB, _, hF⟩ => ⟨_, _, he, ⟨⟨hB.1, .inr ⟨g, 0, cs, rfl, hg⟩⟩, hB.2⟩, hF⟩
set_option maxRecDepth 100000 in
theorem newreader_ok {w : World} {a : Option Addr} {n c : Nat} {bs : List Int} (h : SlB w a n c bs) (hn : n ≤ 65536) :
    Calls Tryz.prog 215 #[.slice a n c] w fun e w' => ∃ r, e = .returned (.pointer (some ⟨r, 0, none⟩)) ∧ RdAt w' r bs false ∧ w.heap.size ≤ r ∧ Fr (fun _ => False) w w' := by
  have HC := hid (clone_vc h hn)
  have hl := h.by_.len
  have HL := hid hl
  clear h hl
  go_enter Tryz.func215, Tryz.ntmps215
  go_wp2_with fail
  refine HC.out.mono ?_
  rintro e w1 ⟨a', c', rfl, hb, F1⟩
  have HB := hid (And.intro hb F1)
  clear hb F1
  go_wp2
  go_ret
  have FN : Fr (fun _ => False) w1 (w1.alloc (.cells #[.slice a' n c', .bool false] 377)) := (Fr.refl _ _).alloc _
  refine ⟨w1.heap.size, rfl, ⟨⟨a', c', by rw [HL.out]; exact heap_alloc_new _ _, ?_, by rw [HL.out]; exact HB.out.1.2⟩, by rw [HL.out]; exact hn⟩, HB.out.2.size, HB.out.2.trans FN (fun _ _ h => h)⟩
  rw [HL.out]
  exact HB.out.1.1.fr FN (fun _ _ _ h => h)
set_option maxHeartbeats 1000000 in
set_option maxRecDepth 100000 in
theorem raw_ok {w : World} {r : Nat} {bs : List Int} {bad : Bool} (h : RdAt w r bs bad) (m : Nat) (hm : m ≤ bs.length) :
    Calls Tryz.prog 217 #[.pointer (some ⟨r, 0, none⟩), .int .i64 m] w fun e w' => ∃ a' c', e = .returned (.slice a' m c') ∧ ByV w' a' m c' (bs.take m) ∧ RdAt w' r (bs.drop m) bad ∧ Fr (fun b => b = r) w w' := by
  obtain ⟨⟨a, c, hr, hb, hcap⟩, hsm⟩ := h
  obtain ⟨c0, c1, hz, hl⟩ := cells2 hr
  have st := slice_to a bs.length c m (by omega)
  have sf := slice_from a bs.length c m hm
  have hdr := hb.drop hm hcap
  generalize ha2 : (if c = m then a else a.map (·.add m)) = a2 at sf hdr
  have HD := hid hdr
  have HB := hid hb
  have HR := hid hr
  have HC := hid (clone_v (w := w) (hb.take hm).slb (by omega))
  clear ha2 hdr hb hr
  go_enter Tryz.func217, Tryz.ntmps217
  go_wp2_with fail
  refine HC.out.mono ?_
  rintro e w1 ⟨a', c', rfl, hb1, F1⟩
  have hr1 := F1.heap HR.out (fun h => h)
  obtain ⟨d0, d1, dz, dl⟩ := cells2 hr1
  have H1 := hid (And.intro hb1 (And.intro F1 hr1))
  clear hb1 F1 hr1 c0 c1 hz hl
  go_wp2
  go_ret
  obtain ⟨hb1, F1, hr1⟩ := H1.out
  have FS : Fr (fun b => b = r) w1 (w1.setCell ⟨r, 0, none⟩ (.slice a2 (bs.length - m) (c - m))) := (Fr.refl (fun b => b = r) _).setCell (a := ⟨r, 0, none⟩) (fun _ => rfl) _
  have ne : ∀ b cs, w1.heap[b]? = some (.cells cs 5) → ¬ b = r := fun b cs h e => by rw [e, hr1] at h; cases h
  refine ⟨a', c', rfl, hb1.fr FS ne, ⟨⟨a2, c - m, ?_, ?_, ?_⟩, ?_⟩, (F1.mono (fun _ _ h => h.elim)).trans FS (fun _ _ h => h)⟩
  · rw [heap_setCell_cells _ _ _ _ hr1, List.length_drop]; rfl
  · rw [List.length_drop]; exact (HD.out.fr F1 (fun _ _ _ h => h)).fr FS ne
  · rw [List.length_drop]; omega
  · rw [List.length_drop]; omega
theorem maynum (k : Nat) (hk : k = 1 ∨ k = 2 ∨ k = 4 ∨ k = 8) (w : World) : Calls Tryz.prog 236 #[.int .i64 k] w fun e w' => e = .returned (.bool true) ∧ w = w' := by
  rcases hk with rfl | rfl | rfl | rfl
  all_goals
    go_enter Tryz.func236, Tryz.ntmps236
    go_wp2
    go_ret
    exact ⟨rfl, rfl⟩
set_option maxHeartbeats 1000000 in
set_option maxRecDepth 100000 in
theorem num_ok {w : World} {r : Nat} {bs : List Int} {bad : Bool} (h : RdAt w r bs bad) (hby : ∀ x ∈ bs, 0 ≤ x ∧ x < 256) (k : Nat) (hk : k = 1 ∨ k = 2 ∨ k = 4 ∨ k = 8) (hm : k ≤ bs.length) :
    Calls Tryz.prog 216 #[.pointer (some ⟨r, 0, none⟩), .int .i64 k] w fun e w' => e = .returned (.int .u64 (leV (bs.take k))) ∧ RdAt w' r (bs.drop k) bad ∧ Fr (fun b => b = r) w w' := by
  have HM := hid (fun W => maynum k hk W)
  have HRw := hid (raw_ok h k hm)
  have HBY := hid (fun x (hx : x ∈ bs.take k) => hby x (List.mem_of_mem_take hx))
  have hk8 : k ≤ 8 := by omega
  have hlen : (bs.take k).length = k := by rw [List.length_take]; omega
  generalize bs.take k = l at *
  clear h hby hk
  go_enter Tryz.func216, Tryz.ntmps216
  go_wp2_with (go_at_call 236; refine (HM.out _).mono ?_; rintro e w' ⟨rfl, rfl⟩)
  refine HRw.out.mono ?_
  rintro e w1 ⟨a', c', rfl, hb1, hR, F1⟩
  have HLEN := hid hlen
  have HB1 := hid hb1
  have HR1 := hid (And.intro hR F1)
  clear hlen hb1 hR F1
  go_wp2
  go_loop [5, 15] (fun n i => ∃ j : Nat, j ≤ k ∧ i = .int .i64 j ∧ n = .int .u64 (leV (l.take j))) (fun _ i => k - (intOf i).toNat)
  case atStart => exact ⟨0, Nat.zero_le _, rfl, by simp [leV]⟩
  case round =>
    obtain ⟨j, hj, rfl, rfl⟩ := hrel
    by_cases hlt : j < k
    · obtain ⟨x, hx⟩ : ∃ x, l[j]? = some x := ⟨l[j]'(by rw [HLEN.out]; exact hlt), List.getElem?_eq_getElem _⟩
      obtain ⟨b, off, rfl, hbl, hcell⟩ := HB1.out.by_.at_ j x hx
      have hx0 := HBY.out x (List.mem_of_getElem? hx)
      have hn := leV_next HBY.out hx
      have hlt2 := leV_take_lt HBY.out j
      have HX := hid (And.intro hx hn)
      have HN := hid hlt2
      clear hx hn hlt2
      have hjd : decide (j < k) = true := by simpa using hlt
      go_wp2
      go_round
      case rel =>
        refine ⟨j + 1, by omega, by go_num, ?_⟩
        obtain ⟨y, rfl⟩ := Int.eq_ofNat_of_zero_le hx0.1
        have hp : (2 : Nat) ^ (8 * j) ≤ 2 ^ 56 := Nat.pow_le_pow_right (by decide) (by omega)
        have h256 : (256 : Nat) ^ j = 2 ^ (8 * j) := by rw [Nat.pow_mul]
        have hl1 : leV (l.take j) < 18446744073709551616 := by
          have := HN.out
          rw [h256] at this
          omega
        have hy : y ≤ 255 := by omega
        have hl2 : y * 2 ^ (8 * j) < 18446744073709551616 := by
          have := Nat.mul_le_mul hy hp
          omega
        have hw : IntKind.u64.wrap ((y : Int) * 2 ^ (8 * j)) = ((y * 2 ^ (8 * j) : Nat) : Int) := by
          rw [IntKind.wrap_u64, show (y : Int) * 2 ^ (8 * j) = ((y * 2 ^ (8 * j) : Nat) : Int) by simp]
          omega
        rw [hw, u64_or_nat _ _ hl1 hl2]
        have := HX.out.2
        simp only [Int.ofNat_eq_natCast, Int.toNat_natCast] at this
        rw [this]
      case measure => simp [intOf]; omega
    · obtain rfl : j = k := by omega
      go_wp2
      go_ret
      have e : l.take j = l := List.take_of_length_le (by rw [HLEN.out]; exact Nat.le_refl _)
      rw [e]
      exact ⟨rfl, HR1.out⟩
end Go.Proofs.YtgdhaaokolfdoaaGreatDoor
