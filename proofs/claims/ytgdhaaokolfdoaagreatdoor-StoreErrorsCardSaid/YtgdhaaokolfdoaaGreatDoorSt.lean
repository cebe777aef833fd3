/- How a device and a store lie in a world; which blocks their functions may turn. Conditions: none. -/
import Derived.Test.YtgdhaaokolfdoaaGreatDoorMA
import Derived.Test.YtgdhaaokolfdoaaGreatDoorSet
import Derived.Test.YtgdhaaokolfdoaaGreatDoorTake
import Derived.Test.YtgdhaaokolfdoaaGreatDoorFr
namespace Go.Sg
open Go.RowKit
/-- The types of the cells that a store's functions may turn. -/
def mutT : List Nat := [156, 151, 256, 29, 260, 264, 196, 22]
/-- Such a block: a map, or cells of these types. -/
def Mut (w : World) (b : Nat) : Prop := ∀ c t f, w.heap[b]? = some (.cells c t f) → t ∈ mutT
/-- Only such blocks from base on, and new ones, have turned. -/
abbrev FrB (base : Nat) (w w' : World) : Prop := Fr (fun b => base ≤ b ∧ Mut w b) w w'
theorem FrB.refl (base : Nat) (w : World) : FrB base w w := Fr.refl _ _
theorem FrB.trans {base : Nat} {w w1 w2 : World} (h : FrB base w w1) (k : FrB base w1 w2) : FrB base w w2 := by
  refine Fr.trans h k fun b hb hs => ⟨hs.1, fun c t f hc => ?_⟩
  rcases Classical.em (base ≤ b ∧ Mut w b) with hm | hm
  · exact hm.2 c t f hc
  · exact hs.2 c t f ((h.block b hb hm).trans hc)
theorem FrB.of {S : Nat → Prop} {base : Nat} {w w' : World} (h : Fr S w w') (hS : ∀ b, b < w.heap.size → S b → base ≤ b ∧ Mut w b) : FrB base w w' := h.mono hS
theorem FrB.none {base : Nat} {w w' : World} (h : Fr (fun _ => False) w w') : FrB base w w' := h.mono fun _ _ h => h.elim
theorem FrB.heap {base : Nat} {w w' : World} (h : FrB base w w') {b : Nat} {c : Array Value} {t : TypeId} {f : Nat × Nat} (hb : w.heap[b]? = some (.cells c t f)) (ht : t ∉ mutT) : w'.heap[b]? = some (.cells c t f) :=
  Fr.heap h hb fun hs => ht (hs.2 c t f hb)
theorem FrB.old {base : Nat} {w w' : World} (h : FrB base w w') {b : Nat} {o : Obj} (hb : w.heap[b]? = some o) (hlt : b < base) : w'.heap[b]? = some o := Fr.heap h hb fun hs => by omega
theorem FrB.all {base : Nat} {w0 w w' : World} (h : FrB base w w') (hb : w0.heap.size ≤ base) (F : Fr (fun _ => False) w0 w) : Fr (fun _ => False) w0 w' :=
  F.trans h fun b hb' hs => by omega
theorem FrB.alloc {base : Nat} {w w1 : World} (h : FrB base w w1) (o : Obj) : FrB base w (w1.alloc o) := Fr.alloc h o
theorem FrB.drew {base : Nat} {w w1 : World} (h : FrB base w w1) : FrB base w w1.drew := Fr.drew h
theorem FrB.drewN {base : Nat} {w w1 : World} (h : FrB base w w1) (n : Nat) : FrB base w (w1.drewN n) := Fr.drewN h n
theorem Mut.cells {w : World} {b : Nat} {c : Array Value} {t : TypeId} {f : Nat × Nat} (h : w.heap[b]? = some (.cells c t f)) (ht : t ∈ mutT) : Mut w b := by
  intro c' t' f' h'
  rw [h] at h'; cases h'; exact ht
theorem Mut.map {w : World} {b : Nat} {l : Array MapEntry} {ck : Nat} (h : w.heap[b]? = some (.map l ck)) : Mut w b := by
  intro c' t' f' h'
  rw [h] at h'; cases h'
theorem ByV.frB {base : Nat} {w w' : World} {a : Option Addr} {n c : Nat} {bs : List Int} (h : ByV w a n c bs) (F : FrB base w w') : ByV w' a n c bs :=
  h.fr F fun b c hb hs => absurd (hs.2 c 5 _ hb) (by decide)

/-! ### A device -/
structure Dev where
  sectors : Nat
  size : Nat
  fast : Int → Option (List Int)
  loose : List (Int × List Int)
  armed : Nat
  acts : Nat
  down : Bool
/-- What a fast sector's value reads as. -/
def FastIs (w : World) (size : Nat) : Option Value → Option (List Int) → Prop
  | none, none => True
  | some v, some bs => ∃ b off cap, v = .slice (some ⟨b, off, none⟩) size cap ∧ ByV w (some ⟨b, off, none⟩) size cap bs
  | _, _ => False
/-- A write that was made: its sector, its bytes. -/
structure Wr where
  at_ : Int
  la : Option Addr
  ll : Nat
  lc : Nat
def Wr.cells (x : Wr) : List Value := [.int .i64 x.at_, .slice x.la x.ll x.lc]
def LooseAt (w : World) (base : Nat) (v : Value) (l : List (Int × List Int)) : Prop :=
  ∃ ws : List Wr, w.ownsRow base 196 2 v ws.length (ws.flatMap Wr.cells) ∧ ws.length = l.length ∧ ∀ (i : Nat) (x : Wr) (y : Int × List Int), ws[i]? = some x → l[i]? = some y → x.at_ = y.1 ∧ ByV w x.la x.ll x.lc y.2
/-- A row of slices of bytes. -/
def PastV (w : World) (base : Nat) (v : Value) : Prop :=
  ∃ n xs, w.ownsRow base 22 1 v n xs ∧ ∀ x ∈ xs, ∃ a k cap bs, x = .slice a k cap ∧ ByV w a k cap bs
structure DevAt (w : World) (base d bf bq : Nat) (x : Dev) : Prop where
  dc : ∃ lv, w.heap[d]? = some (.cells #[.int .i64 x.sectors, .int .i64 x.size, .map (some bf), lv, .map (some bq), .int .i64 x.armed, .int .i64 x.acts, .bool x.down] 151) ∧ LooseAt w base lv x.loose
  fast : ∃ l ck, w.heap[bf]? = some (.map (ents l) ck) ∧ (keys l).Nodup ∧ ∀ k, FastIs w x.size (look l k) (x.fast k)
  past : ∃ l ck, w.heap[bq]? = some (.map (ents l) ck) ∧ (keys l).Nodup ∧ ∀ e ∈ l, PastV w base e.v
  ge : base ≤ d ∧ base ≤ bf ∧ base ≤ bq
  ne : bf ≠ bq
  rg : (1 ≤ x.sectors ∧ x.sectors ≤ 16384) ∧ 96 ≤ x.size ∧ x.size ≤ 512
theorem DevAt.lts {w : World} {base d bf bq : Nat} {x : Dev} (h : DevAt w base d bf bq x) : d < w.heap.size ∧ bf < w.heap.size ∧ bq < w.heap.size := by
  obtain ⟨lv, hd, _⟩ := h.dc
  obtain ⟨l, ck, hf, _⟩ := h.fast
  obtain ⟨l', ck', hq, _⟩ := h.past
  exact ⟨lt_of_heap hd, lt_of_heap hf, lt_of_heap hq⟩
theorem ownsRow_fr {S : Nat → Prop} {w w' : World} {base e size n : Nat} {v : Value} {xs : List Value} (h : w.ownsRow base e size v n xs) (F : Fr S w w') (hS : ∀ g c, w.heap[g]? = some (.cells c e) → ¬ S g) : w'.ownsRow base e size v n xs := by
  obtain ⟨hl, h0 | ⟨g, cap, cur, hv, hb, hg, r⟩⟩ := h
  · exact ⟨hl, .inl h0⟩
  · exact ⟨hl, .inr ⟨g, cap, cur, hv, hb, F.heap hg (hS g cur hg), r⟩⟩
/-- A device lies on while other blocks turn. -/
theorem DevAt.fr {S : Nat → Prop} {w w' : World} {base d bf bq : Nat} {x : Dev} (h : DevAt w base d bf bq x) (F : Fr S w w') (h1 : ¬ S d) (h2 : ¬ S bf) (h3 : ¬ S bq)
    (h4 : ∀ g c t, (t = 5 ∨ t = 196 ∨ t = 22) → w.heap[g]? = some (.cells c t) → ¬ S g) : DevAt w' base d bf bq x := by
  obtain ⟨lv, hd, ws, hown, hlen, hws⟩ := h.dc
  obtain ⟨l, ck, hf, hfn, hfs⟩ := h.fast
  obtain ⟨l', ck', hq, hqn, hqs⟩ := h.past
  have hB : ∀ a n c bs, ByV w a n c bs → ByV w' a n c bs := fun a n c bs hb => hb.fr F fun b c hc => h4 b c 5 (.inl rfl) hc
  refine ⟨⟨lv, F.heap hd h1, ws, ownsRow_fr hown F fun g c hg => h4 g c _ (.inr (.inl rfl)) hg, hlen, fun i y z hy hz => ⟨(hws i y z hy hz).1, hB _ _ _ _ (hws i y z hy hz).2⟩⟩,
    ⟨l, ck, F.heap hf h2, hfn, fun k => ?_⟩, ⟨l', ck', F.heap hq h3, hqn, fun e he => ?_⟩, h.ge, h.ne, h.rg⟩
  · have := hfs k
    cases hlk : look l k with
    | none => rw [hlk] at this; cases hx : x.fast k with
      | none => trivial
      | some bs => rw [hx] at this; exact this.elim
    | some v => rw [hlk] at this; cases hx : x.fast k with
      | none => rw [hx] at this; exact this.elim
      | some bs =>
        rw [hx] at this
        obtain ⟨b, off, cap, e, hb⟩ := this
        exact ⟨b, off, cap, e, hB _ _ _ _ hb⟩
  · obtain ⟨n, xs, hx, hxs⟩ := hqs e he
    refine ⟨n, xs, ownsRow_fr hx F fun g c hg => h4 g c _ (.inr (.inr rfl)) hg, fun y hy => ?_⟩
    obtain ⟨a, k, cap, bs, e, hb⟩ := hxs y hy
    exact ⟨a, k, cap, bs, e, hB _ _ _ _ hb⟩
def Dev.fresh (s z : Nat) : Dev := ⟨s, z, fun _ => none, [], 0, 0, false⟩

/-! ### A store -/
structure Plan8 where
  sectors : Int
  size : Int
  regions : Int
  rsectors : Int
  log : Int
  depth : Int
  memory : Int
  seed : Int
abbrev Plan8.val (p : Plan8) : Value := .agg #[.int .i64 p.sectors, .int .i64 p.size, .int .i64 p.regions, .int .i64 p.rsectors, .int .i64 p.log, .int .i64 p.depth, .int .i64 p.memory, .int .u64 p.seed]
/-- Where a store's blocks lie. -/
structure Blk where
  base : Nat
  s : Nat
  d : Nat
  bf : Nat
  bq : Nat
  bs : Nat
  bw : Nat
  fr : Nat
  dy : Nat
  de : Nat
  bc : Nat
  bp : Nat
  bm : Nat
structure Sto where
  plan : Plan8
  first : Int
  pages : Nat
  room : Nat
  gen : Nat
  hand : Nat
  taken : Nat → Bool
  fresh : Int → Bool
  dying : Int → Bool
  dead : Int → Bool
  mem : Int → Option Clk.Pg
  places : Nat
  dev : Dev
def Blk.maps (B : Blk) : List Nat := [B.bf, B.bq, B.fr, B.dy, B.de, B.bm]
abbrev Blk.ptr (B : Blk) : Value := .pointer (some ⟨B.s, 0, none⟩)
/-- What a block of a store is for. -/
inductive Role
  | s | d | bf | bq | bs | bw | fr | dy | de | bc | bp | bm
  deriving DecidableEq
def Role.kind : Role → Nat
  | .s => 156 + 1
  | .d => 152
  | .bs => 257
  | .bw => 30
  | .bc => 261
  | .bp => 265
  | _ => 0
def Blk.at_ (B : Blk) : Role → Nat
  | .s => B.s
  | .d => B.d
  | .bf => B.bf
  | .bq => B.bq
  | .bs => B.bs
  | .bw => B.bw
  | .fr => B.fr
  | .dy => B.dy
  | .de => B.de
  | .bc => B.bc
  | .bp => B.bp
  | .bm => B.bm
end Go.Sg
namespace Go.Proofs.YtgdhaaokolfdoaaGreatDoor
open Go.RowKit Go.Sg Go.Sg.Bits CP
structure StoreAt (w : World) (B : Blk) (x : Sto) : Prop where
  s : w.heap[B.s]? = some (.cells #[.pointer (some ⟨B.d, 0, none⟩), .int .i64 x.plan.sectors, .int .i64 x.plan.size, .int .i64 x.plan.regions, .int .i64 x.plan.rsectors, .int .i64 x.plan.log, .int .i64 x.plan.depth, .int .i64 x.plan.memory, .int .u64 x.plan.seed,
    .int .i64 x.first, .int .i64 x.pages, .int .i64 x.room, .int .i64 x.gen, .pointer (some ⟨B.bs, 0, none⟩), .map (some B.fr), .map (some B.dy), .map (some B.de), .pointer (some ⟨B.bc, 0, none⟩)] 156)
  dev : DevAt w B.base B.d B.bf B.bq x.dev
  bits : BitsAt w B.bs B.bw x.pages x.hand x.taken
  fr : SetAt w B.fr x.fresh
  dy : SetAt w B.dy x.dying
  de : SetAt w B.de x.dead
  mem : MemAt w B.bc B.bp B.bm x.places x.mem
  load : ∀ k p, x.mem k = some p → ∃ bs, ByV w p.la p.ll p.lc bs ∧ bs.length ≤ x.room
  ne : B.maps.Nodup
  ge : B.base ≤ B.s ∧ B.base ≤ B.bs ∧ B.base ≤ B.bw ∧ B.base ≤ B.fr ∧ B.base ≤ B.dy ∧ B.base ≤ B.de ∧ B.base ≤ B.bc ∧ B.base ≤ B.bp ∧ B.base ≤ B.bm
  rg : x.room ≤ 493 ∧ (1 ≤ x.gen ∧ x.gen ≤ 2199023255552) ∧ 0 ≤ x.first ∧ x.first + x.pages = x.dev.sectors ∧ x.room + 19 = x.dev.size
  inr : (∀ k, x.fresh k = true → 0 ≤ k ∧ k < x.pages) ∧ (∀ k, x.dying k = true → 0 ≤ k ∧ k < x.pages) ∧ (∀ k, x.dead k = true → 0 ≤ k ∧ k < x.pages)
theorem BitsAt_heaps {w : World} {bs bw n hand : Nat} {t : Nat → Bool} (h : BitsAt w bs bw n hand t) : (∃ c, w.heap[bs]? = some (.cells c 256)) ∧ ∃ c, w.heap[bw]? = some (.cells c 29) := by
  obtain ⟨ws, h, _⟩ := h
  exact ⟨⟨_, h.s⟩, ⟨_, h.w_⟩⟩
/-- What kind of block lies at b. -/
def kd (w : World) (b : Nat) : Nat := match w.heap[b]? with
  | some (.cells _ t _) => t + 1
  | _ => 0
theorem kd_cells {w : World} {b : Nat} {c : Array Value} {t : TypeId} {f : Nat × Nat} (h : w.heap[b]? = some (.cells c t f)) : kd w b = t + 1 := by rw [kd, h]
theorem kd_map {w : World} {b : Nat} {l : Array MapEntry} {ck : Nat} (h : w.heap[b]? = some (.map l ck)) : kd w b = 0 := by rw [kd, h]
theorem StoreAt.heaps {w : World} {B : Blk} {x : Sto} (h : StoreAt w B x) (r : Role) : B.base ≤ B.at_ r ∧ Mut w (B.at_ r) ∧ B.at_ r < w.heap.size ∧ kd w (B.at_ r) = r.kind := by
  obtain ⟨g1, g2, g3, g4, g5, g6, g7, g8, g9⟩ := h.ge
  obtain ⟨k1, k2, k3⟩ := h.dev.ge
  obtain ⟨lv, hd, _⟩ := h.dev.dc
  obtain ⟨l, ck, hf, _⟩ := h.dev.fast
  obtain ⟨l', ck', hq, _⟩ := h.dev.past
  obtain ⟨⟨_, hbs⟩, ⟨_, hbw⟩⟩ := BitsAt_heaps h.bits
  obtain ⟨l1, c1, hfr, _⟩ := h.fr.ex
  obtain ⟨l2, c2, hdy, _⟩ := h.dy.ex
  obtain ⟨l3, c3, hde, _⟩ := h.de.ex
  obtain ⟨⟨_, hbc⟩, ⟨_, hbp⟩, _, _, hbm⟩ := h.mem.heaps
  cases r
  · exact ⟨g1, Mut.cells h.s (by decide), lt_of_heap h.s, kd_cells h.s⟩
  · exact ⟨k1, Mut.cells hd (by decide), lt_of_heap hd, kd_cells hd⟩
  · exact ⟨k2, Mut.map hf, lt_of_heap hf, kd_map hf⟩
  · exact ⟨k3, Mut.map hq, lt_of_heap hq, kd_map hq⟩
  · exact ⟨g2, Mut.cells hbs (by decide), lt_of_heap hbs, kd_cells hbs⟩
  · exact ⟨g3, Mut.cells hbw (by decide), lt_of_heap hbw, kd_cells hbw⟩
  · exact ⟨g4, Mut.map hfr, lt_of_heap hfr, kd_map hfr⟩
  · exact ⟨g5, Mut.map hdy, lt_of_heap hdy, kd_map hdy⟩
  · exact ⟨g6, Mut.map hde, lt_of_heap hde, kd_map hde⟩
  · exact ⟨g7, Mut.cells hbc (by decide), lt_of_heap hbc, kd_cells hbc⟩
  · exact ⟨g8, Mut.cells hbp (by decide), lt_of_heap hbp, kd_cells hbp⟩
  · exact ⟨g9, Mut.map hbm, lt_of_heap hbm, kd_map hbm⟩
theorem StoreAt.inj {w : World} {B : Blk} {x : Sto} (h : StoreAt w B x) {r r' : Role} (e : B.at_ r = B.at_ r') : r = r' := by
  have hk : r.kind = r'.kind := by rw [← (h.heaps r).2.2.2, ← (h.heaps r').2.2.2, e]
  have hn := h.ne
  simp only [Blk.maps, List.nodup_cons, List.mem_cons, not_or, List.not_mem_nil, not_false_eq_true, List.nodup_nil, and_true] at hn
  obtain ⟨⟨a1, a2, a3, a4, a5⟩, ⟨b1, b2, b3, b4⟩, ⟨c1, c2, c3⟩, ⟨d1, d2⟩, e1⟩ := hn
  cases r <;> cases r' <;> first | rfl | (exact absurd hk (by decide)) | (exact absurd e (by assumption)) | (exact absurd e.symm (by assumption))
/-- Only the blocks of these roles, and new ones, have turned. -/
abbrev FrR (B : Blk) (L : List Role) (w w' : World) : Prop := Fr (fun b => ∃ r ∈ L, b = B.at_ r) w w'
theorem StoreAt.out {w : World} {B : Blk} {x : Sto} (h : StoreAt w B x) {L : List Role} {r : Role} (hr : r ∉ L) : ¬ ∃ r' ∈ L, B.at_ r = B.at_ r' := by
  rintro ⟨r', hL, e⟩
  exact hr (by rw [h.inj e]; exact hL)
theorem StoreAt.outB {w : World} {B : Blk} {x : Sto} (h : StoreAt w B x) (L : List Role) {b : Nat} {c : Array Value} {t : TypeId} {f : Nat × Nat} (hb : w.heap[b]? = some (.cells c t f)) (ht : t ∉ [156, 151, 256, 29, 260, 264]) : ¬ ∃ r ∈ L, b = B.at_ r := by
  rintro ⟨r, _, rfl⟩
  have h1 := kd_cells hb
  rw [(h.heaps r).2.2.2] at h1
  cases r <;> simp [Role.kind] at h1 <;> (subst h1; simp at ht)
theorem StoreAt.frB {w w' : World} {B : Blk} {x : Sto} (h : StoreAt w B x) {L : List Role} (F : FrR B L w w') : FrB B.base w w' :=
  Fr.mono F fun b _ hs => by obtain ⟨r, _, rfl⟩ := hs; exact ⟨(h.heaps r).1, (h.heaps r).2.1⟩
/-- What stays of a store while blocks of these roles turn. -/
structure Stays (w' : World) (B : Blk) (x : Sto) (L : List Role) : Prop where
  s : Role.s ∉ L → w'.heap[B.s]? = some (.cells #[.pointer (some ⟨B.d, 0, none⟩), .int .i64 x.plan.sectors, .int .i64 x.plan.size, .int .i64 x.plan.regions, .int .i64 x.plan.rsectors, .int .i64 x.plan.log, .int .i64 x.plan.depth, .int .i64 x.plan.memory, .int .u64 x.plan.seed,
    .int .i64 x.first, .int .i64 x.pages, .int .i64 x.room, .int .i64 x.gen, .pointer (some ⟨B.bs, 0, none⟩), .map (some B.fr), .map (some B.dy), .map (some B.de), .pointer (some ⟨B.bc, 0, none⟩)] 156)
  dev : Role.d ∉ L → Role.bf ∉ L → Role.bq ∉ L → DevAt w' B.base B.d B.bf B.bq x.dev
  bits : Role.bs ∉ L → Role.bw ∉ L → BitsAt w' B.bs B.bw x.pages x.hand x.taken
  fr : Role.fr ∉ L → SetAt w' B.fr x.fresh
  dy : Role.dy ∉ L → SetAt w' B.dy x.dying
  de : Role.de ∉ L → SetAt w' B.de x.dead
  mem : Role.bc ∉ L → Role.bp ∉ L → Role.bm ∉ L → MemAt w' B.bc B.bp B.bm x.places x.mem
  load : ∀ k p, x.mem k = some p → ∃ bs, ByV w' p.la p.ll p.lc bs ∧ bs.length ≤ x.room
theorem StoreAt.stays {w w' : World} {B : Blk} {x : Sto} (h : StoreAt w B x) {L : List Role} (F : FrR B L w w') : Stays w' B x L := by
  refine ⟨fun a => Fr.heap F h.s (h.out a), fun a b c => h.dev.fr F (h.out a) (h.out b) (h.out c) fun g c t ht hg => h.outB L hg ?_, fun a b => h.bits.fr F (h.out a) (h.out b), fun a => h.fr.fr F (h.out a), fun a => h.dy.fr F (h.out a), fun a => h.de.fr F (h.out a),
    fun a b c => h.mem.fr F (h.out a) (h.out b) (h.out c), fun k p hp => ?_⟩
  · rcases ht with rfl | rfl | rfl <;> decide
  · obtain ⟨bs, hb, hl⟩ := h.load k p hp
    exact ⟨bs, hb.fr F fun b c hc => h.outB L hc (by decide), hl⟩
theorem StoreAt.byv {w w' : World} {B : Blk} {x : Sto} (h : StoreAt w B x) {L : List Role} (F : FrR B L w w') {a : Option Addr} {n c : Nat} {bs : List Int} (hb : ByV w a n c bs) : ByV w' a n c bs :=
  hb.fr F fun b c hc => h.outB L hc (by decide)
/-- A store lies on while a block of the caller's own turns. -/
theorem StoreAt.frL {w w' : World} {B : Blk} {x : Sto} (h : StoreAt w B x) {k : Nat} (F : Fr (fun b => b = k) w w') {c : Array Value} {t : TypeId} (hk : w.heap[k]? = some (.cells c t)) (ht : t ∉ 5 :: mutT) : StoreAt w' B x := by
  have h1 : ∀ r, ¬ B.at_ r = k := fun r e => by
    have h2 := (h.heaps r).2.1 c t
    rw [e] at h2
    exact ht (List.mem_cons_of_mem _ (h2 _ hk))
  have h4 : ∀ g c' t', t' ∈ 5 :: mutT → w.heap[g]? = some (.cells c' t') → ¬ g = k := fun g c' t' h5 hg e => by
    rw [e, hk] at hg; cases hg; exact ht h5
  refine ⟨F.heap h.s (h1 .s), h.dev.fr F (h1 .d) (h1 .bf) (h1 .bq) fun g c' t' h5 hg => h4 g c' t' (by rcases h5 with rfl | rfl | rfl <;> decide) hg, h.bits.fr F (h1 .bs) (h1 .bw), h.fr.fr F (h1 .fr), h.dy.fr F (h1 .dy), h.de.fr F (h1 .de), h.mem.fr F (h1 .bc) (h1 .bp) (h1 .bm), fun k p hp => ?_, h.ne, h.ge, h.rg, h.inr⟩
  obtain ⟨bs, hb, hl⟩ := h.load k p hp
  exact ⟨bs, hb.fr F fun b c hc => h4 b c 5 (by decide) hc, hl⟩
theorem _root_.Go.Sg.ByV.frL {w w' : World} {a : Option Addr} {n c : Nat} {bs : List Int} (h : ByV w a n c bs) {k : Nat} (F : Fr (fun b => b = k) w w') {cs : Array Value} {t : TypeId} (hk : w.heap[k]? = some (.cells cs t)) (ht : t ≠ 5) : ByV w' a n c bs :=
  h.fr F fun b c hc e => by rw [e, hk] at hc; cases hc; exact ht rfl
/-- A store lies on while only new blocks are laid. -/
theorem StoreAt.fr0 {w w' : World} {B : Blk} {x : Sto} (h : StoreAt w B x) (F : Fr (fun _ => False) w w') : StoreAt w' B x := by
  have S := h.stays (L := []) (F.mono fun _ _ h => h.elim)
  exact ⟨S.s (by decide), S.dev (by decide) (by decide) (by decide), S.bits (by decide) (by decide), S.fr (by decide), S.dy (by decide), S.de (by decide), S.mem (by decide) (by decide) (by decide), S.load, h.ne, h.ge, h.rg, h.inr⟩
end Go.Proofs.YtgdhaaokolfdoaaGreatDoor
