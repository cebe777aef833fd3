/- A pack of texts: WF, E0, AP, RA, LV, GA. Conditions: those that each text names. -/
import Derived.Test.YtgdhaaokolfdoaaGreatDoorNAL
import Derived.Test.YtgdhaaokolfdoaaGreatDoorNAM
import Derived.Test.YtgdhaaokolfdoaaGreatDoorNAB
import Derived.Test.YtgdhaaokolfdoaaGreatDoorNAD
import Derived.Laws.AppendOwnNone
import Derived.Lib.SmallJoins
import Derived.Deep.Cut
set_option maxHeartbeats 16000000
set_option maxRecDepth 100000
set_option linter.all false
namespace Go.Proofs.YtgdhaaokolfdoaaGreatDoor
section
open Go.RowKit Go.Sg Go.Sg.Bits Go.Sg.Clk CP
namespace SF
end SF
end
section
open Go.RowKit Go.Sg Go.Sg.Bits Go.Sg.Clk CP SF
structure Like (y y' : Cs) : Prop where
 plan : y'.plan = y.plan
 first : y'.first = y.first
 pages : y'.pages = y.pages
 room : y'.room = y.room
 places : y'.places = y.places
 sectors : y'.sectors = y.sectors
 size : y'.size = y.size
theorem Like.refl (y : Cs) : Like y y := ⟨rfl, rfl, rfl, rfl, rfl, rfl, rfl⟩
variable {y : Cs} {w w' : World} {N : Nat}
theorem Like.trans {y1 y2 : Cs} (h : Like y y1) (k : Like y1 y2) : Like y y2 :=
 ⟨k.plan.trans h.plan, k.first.trans h.first, k.pages.trans h.pages, k.room.trans h.room, k.places.trans h.places, k.sectors.trans h.sectors, k.size.trans h.size⟩
variable {B : Blk}
theorem _root_.Go.Sg.FrB.trans' {S : Nat -> Prop} {w1 w2 : World} (h : FrB B w w1) (k : Fr S w1 w2) (hs : ∀ b, b < w.heap.size -> ¬ S b) : FrB B w w2 := Fr.trans h k fun b hb hb' => absurd hb' (hs b hb)
variable {P : Prot}
theorem DownC.mono {N' : Nat} (h : DownC w B y P N) (hN : N <= N') : DownC w B y P N' := by
 obtain ⟨D, h1, h2, h3⟩ := h.ex;exact ⟨D, h1, h2.mono hN, h3⟩
theorem DownC.frL (h : DownC w B y P N) {k : Nat} (F : Fr (fun b => b = k) w w') {c : Array Value} {t : TypeId} (hk : w.heap[k]? = some (.cells c t)) (ht : t ∉ 5 :: mutT) : DownC w' B y P N := by
 obtain ⟨D, h1, h2, h3⟩ := h.ex;have h1' := h1;obtain ⟨lv, hd, _⟩ := h1.dc;obtain ⟨l, ck, hf, _⟩ := h1.fast;obtain ⟨l', ck', hq, _⟩ := h1.past;refine ⟨D, h1'.fr F (fun e => ?_) (fun e => ?_) (fun e => ?_) (fun g c' t' ht' hg e => ?_), h2, h3⟩
 ·rw [e, hk] at hd; cases hd; exact ht (by decide)
 ·rw [e, hk] at hf; cases hf
 ·rw [e, hk] at hq; cases hq
 ·rw [e, hk] at hg; cases hg; rcases ht' with rfl | rfl | rfl <;> exact ht (by decide)
theorem DownC.fr0 (h : DownC w B y P N) (F : Fq w w') : DownC w' B y P N := by
 obtain ⟨D, h1, h2, h3⟩ := h.ex;exact ⟨D, h1.fr F (fun h => h) (fun h => h) (fun h => h) (fun _ _ _ _ _ h => h), h2, h3⟩
end
section
open Go.RowKit Go.Sg
theorem own_litB (W : World) (B : Nat) (hB : B <= W.heap.size) (e : TypeId) (size : Nat) (v : Value) (h : v = .slice (some ⟨W.heap.size, 0, none⟩) 0 0) : (W.alloc (.cells #[] e)).ownsRow B e size v 0 [] := by
 subst h;exact World.ownsRow_lit W #[] 0 hB (Nat.zero_le _) (by simp)
def SrcV (w : World) (v : Value) (m : Nat) (news : List Value) : Prop :=
 ∃ a c, v = .slice a m c /\ ((a = none /\ m = 0 /\ c = 0 /\ news = []) \/ ∃ ad, a = some ad /\ ∀ j u, news[j]? = some u -> w.cell? (ad.add j) = some u)
variable {w w' : World} {b e n size : Nat} {v : Value} {xs : List Value}
theorem wpList_append_src {P : Program} {ops : Array Oper} {rest : List Oper} {o : Oper} {a : Act} {Q : Exit -> Act -> World -> Prop} (hgd : o.guard = none) (s x : Operand) (t : TypeId)
  (ho : o.op = .call { callee := .builtin .append, args := #[s, x], argTypes := #[t, t] }) (base : Nat) (e : TypeId) (i : TypeInfo) (z : Value) (size bytes : Nat) (ht : P.underlying t = some (.slice e)) (hi : P.info? e = some i) (hz : i.zero = some z)
  (hsize : i.size = size) (hby : i.bytes = bytes) (hzs : z.cells.size = size) (hsz : 0 < size) (v : Value) (n : Nat) (xs : List Value) (hs : a.eval s = v) (hown : w.ownsRow base e size v n xs)
  (vx : Value) (m : Nat) (news : List Value) (hx : a.eval x = vx) (hsrc : SrcV w vx m news) (hl : news.length = m * size) (h1 : ∀ u ∈ news, u.oneCell' = true) (h63 : n + m <= maxLen) (hbytes : (n + m) * bytes <= 140737488355328) (hbase : base <= w.heap.size)
  (h : ∀ v' w', w'.ownsRow base e size v' (n + m) (xs ++ news) -> w.grownBy w' v.ownBlock -> (v ≠ .slice none 0 0 -> v' ≠ .slice none 0 0) -> wpList P ops Q rest (a.put o.dst v') w') : wpList P ops Q (o :: rest) a w := by
 obtain ⟨a', c, rfl, ⟨rfl, rfl, rfl, rfl⟩ | ⟨ad, rfl, hc⟩⟩ := hsrc
 ·exact wpList_append_own_none hgd s x t ho base e i size ht hi v n xs hs hown hx (h v w (by simpa using hown) ⟨rfl, rfl, rfl, nR _, fun _ _ _ => rfl⟩ id)
 ·exact wpList_append_own_at _ hgd s x t ho base e i z size bytes ht hi hz hsize hby hzs hsz v n xs hs hown ad m c news hx hl hc h1 h63 hbytes hbase fun v' w' h1 h2 h3 _ => h v' w' h1 h2 fun hv e => hv (h3.1 e).1
theorem addr_add0 (g off k : Nat) : (⟨g, off, none⟩ : Addr).add k = ⟨g, off + k, none⟩ := addr_add g off k
theorem oSl (h : w.ownsRow b e size v n xs) : ∃ a c, v = .slice a n c /\ n <= c /\ c <= maxLen /\ (a = none -> n = 0 /\ c = 0) /\ (∀ ad, a = some ad -> ∃ g, ad = ⟨g, 0, none⟩ /\ g < w.heap.size) := by
 obtain ⟨hl, ⟨rfl, rfl⟩ | ⟨g, cap, cur, rfl, hb, hg, hc, hm, r⟩⟩ := h
 ·exact ⟨none, 0, rfl, nR _, Nat.zero_le _, fun _ => ⟨rfl, rfl⟩, fun _ e => by cases e⟩
 ·exact ⟨_, cap, rfl, hc, hm, fun e => (by cases e), fun ad e => by cases e; exact ⟨g, rfl, loh hg⟩⟩
theorem own_cell {c : Nat} {a : Option Addr} (h : w.ownsRow b e size (.slice a n c) n xs) {j : Nat} {u : Value} (hj : xs[j]? = some u) : ∃ g, a = some ⟨g, 0, none⟩ /\ g < w.heap.size /\ w.cell? ⟨g, j, none⟩ = some u := by
 have hi := (gI.1 hj).1;obtain ⟨hl, ⟨h0, h1⟩ | ⟨g, cap, cur, hv, hb, hg, hc, hm, hs, ht⟩⟩ := h
 ·subst h1; simp at hl; subst hl; simp at hi
 ·cases hv;refine ⟨g, rfl, loh hg, ?_⟩;rw [coh hg];rw [<- ht, gT] at hj;split at hj
  ·simpa using hj
  ·cases hj
theorem own_src (h : w.ownsRow b e size v n xs) : SrcV w v n xs := by
 obtain ⟨a, c, rfl, hnc, _, h0, h1⟩ := oSl h;refine ⟨a, c, rfl, ?_⟩;cases a with
 | none =>
  obtain ⟨rfl, rfl⟩ := h0 rfl;exact .inl ⟨rfl, rfl, rfl, by have := h.1; simpa using this⟩
 | some ad =>
  obtain ⟨g, rfl, _⟩ := h1 ad rfl;refine .inr ⟨_, rfl, fun j u hj => ?_⟩;obtain ⟨g', e', _, hc⟩ := own_cell h hj;cases e';rw [addr_add0, Nat.zero_add]; exact hc
theorem slice_toG (t size : Nat) (hu : Tryz.prog.underlying t = some (.slice (Tryz.prog.elem t))) (hs : ∀ W, (sizeOf (Tryz.prog.elem t)).run Tryz.prog W = .ok size W) (a : Option Addr) (n c m : Nat) (h : m <= c) (W : World) : (Instr.slice t (.slice a n c) none (some (.int .i64 m)) none).run Tryz.prog W = .ok (.slice a m c) W := by
 rw [run_slice_h W t a n c hu .i64 m (by omega) (by omega)];rw [hs];simp only [Result.andThen_ok, sliced, Int.toNat_natCast, Nat.zero_mul, Nat.sub_zero];cases a with
 | none => simp
 | some a => simp [Addr.add]
theorem slice_fromG (t size : Nat) (hu : Tryz.prog.underlying t = some (.slice (Tryz.prog.elem t))) (hs : ∀ W, (sizeOf (Tryz.prog.elem t)).run Tryz.prog W = .ok size W) (a : Option Addr) (n c m : Nat) (h : m <= n) (W : World) : (Instr.slice t (.slice a n c) (some (.int .i64 m)) none none).run Tryz.prog W = .ok (.slice (if c = m then a else a.map (·.add (m * size))) (n - m) (c - m)) W := by
 rw [run_slice_l W t a n c hu .i64 m (by omega) (by omega)];rw [hs];simp only [Result.andThen_ok, sliced, Int.toNat_natCast]
theorem grown_fr' {base : Nat} (hown : w.ownsRow base e size v n xs) (hg : w.grownBy w' v.ownBlock) : Fr (fun b => base <= b) w w' :=
 ⟨hg.os, hg.tape, hg.output, hg.size, fun b hb hn => hg.block b hb (fun e => hn (hown.lt b e.symm).1)⟩
theorem to52 (a : Option Addr) (n c m : Nat) (h : m <= c) (W : World) : (Instr.slice 52 (.slice a n c) none (some (.int .i64 m)) none).run Tryz.prog W = .ok (.slice a m c) W := slice_toG 52 1 (by kernel_rfl) (fun W => by kernel_rfl) a n c m h W
theorem from52 (a : Option Addr) (n c m : Nat) (h : m <= n) (W : World) : (Instr.slice 52 (.slice a n c) (some (.int .i64 m)) none none).run Tryz.prog W = .ok (.slice (if c = m then a else a.map (·.add (m * 1))) (n - m) (c - m)) W := slice_fromG 52 1 (by kernel_rfl) (fun W => by kernel_rfl) a n c m h W
theorem oN (h : w.ownsRow b e size v n xs) (F : Fq w w') : w'.ownsRow b e size v n xs := oRf h F (fun _ _ _ h => h)
theorem own_frB {B : Blk} (h : w.ownsRow b e size v n xs) (he : e ∉ mutT) (F : FrB B w w') : w'.ownsRow b e size v n xs :=
 oRf h F fun g c hg hs => he (hs.2.1 c e _ hg)
theorem own_base (h : w.ownsRow b e size v n xs) : w.ownsRow 0 e size v n xs := by
 obtain ⟨hl, h0 | ⟨g, cap, cur, hv, hb, r⟩⟩ := h
 ·exact ⟨hl, .inl h0⟩
 ·exact ⟨hl, .inr ⟨g, cap, cur, hv, Nat.zero_le _, r⟩⟩
end
end Go.Proofs.YtgdhaaokolfdoaaGreatDoor
namespace Go.Sg
theorem one_missing (n : Nat) : ∀ L : List Nat, L.length < n -> ∃ j, j < n /\ j ∉ L := by
 induction n with
 | zero => intro L h; omega
 | succ n ih =>
  intro L h;by_cases hn : n ∈ L
  ·have hlt : (L.filter (fun k => k != n)).length < L.length := List.length_filter_lt_length_iff_exists.2 ⟨n, hn, by simp⟩;obtain ⟨j, hj, hm⟩ := ih (L.filter (fun k => k != n)) (by omega);refine ⟨j, by omega, fun hL => hm ?_⟩;simp only [List.mem_filter, hL, true_and, bne_iff_ne, ne_eq];omega
  ·exact ⟨n, by omega, hn⟩
def sw (n m k : Nat) : Nat := if k = n then m else k
variable {l : List Nat} {m n : Nat}
theorem filter_but (h : l.Nodup) (hn : n ∈ l) (p : Nat -> Bool) (hp : p n = true) : (l.filter (fun k => p k && k != n)).length + 1 = (l.filter p).length := by
 have h1 : l.filter (fun k => p k && k != n) = (l.filter p).erase n := by
  rw [List.Nodup.erase_eq_filter (h.filter p), List.filter_filter];congr 1; funext k; rw [Bool.and_comm]
 have hm : n ∈ l.filter p := List.mem_filter.2 ⟨hn, hp⟩;rw [h1, List.length_erase_of_mem hm];have := List.length_pos_of_mem hm;omega
theorem nodup_sw (h : l.Nodup) (hm : m = n \/ m ∉ l) : (l.map (sw n m)).Nodup := by
 rw [List.Nodup, List.pairwise_map];refine List.Pairwise.imp_of_mem ?_ h;intro a b ha hb hab;simp only [sw];rcases hm with rfl | hm
 ·split <;> split <;> omega
 ·split <;> split
  ·omega
  ·rintro rfl; exact hm hb
  ·rintro rfl; exact hm ha
  ·exact hab
theorem mem_sw {x : Nat} : x ∈ l.map (sw n m) ↔ (x = m /\ n ∈ l) \/ (x ∈ l /\ x ≠ n) := by
 simp only [List.mem_map, sw];constructor
 ·rintro ⟨a, ha, rfl⟩;split
  ·rename_i e; subst e; exact .inl ⟨rfl, ha⟩
  ·rename_i e; exact .inr ⟨ha, e⟩
 ·rintro (⟨rfl, h⟩ | ⟨h, e⟩)
  ·exact ⟨n, h, by simp⟩
  ·exact ⟨x, h, by simp [e]⟩
end Go.Sg
namespace Go.Proofs.YtgdhaaokolfdoaaGreatDoor
section
open Go.RowKit Go.Sg Go.Sg.Bits Go.Sg.Clk CP SF
structure Live (y : Cs) (own : List Nat) (M : Nat) : Prop where
 nd : own.Nodup
 lt : ∀ k ∈ own, k < y.pages
 tk : ∀ k ∈ own, y.taken k = true /\ y.dying k = false /\ y.dead k = false
 all : ∀ k, k < y.pages -> y.taken k = true -> k ∈ own \/ y.dying k = true \/ y.dead k = true
 dy : ∃ L : List Nat, (∀ k : Nat, y.dying k = true -> k ∈ L) /\ L.length + (own.filter (fun k : Nat => !y.fresh k)).length <= M
 de : ∃ L : List Nat, (∀ k : Nat, y.dead k = true -> k ∈ L) /\ L.length <= M
variable {y : Cs} {own : List Nat} {M N lc ll m n : Nat} {bs : List Int} {w : World} {a : Bool} {la : Option Addr}
theorem Live.perm {own' : List Nat} (h : Live y own M) (p : own.Perm own') : Live y own' M := by
 obtain ⟨L, h1, h2⟩ := h.dy;exact ⟨p.nodup_iff.1 h.nd, fun k hk => h.lt k (p.mem_iff.2 hk), fun k hk => h.tk k (p.mem_iff.2 hk), fun k hk ht => (h.all k hk ht).imp (fun h => p.mem_iff.1 h) id, ⟨L, h1, by rw [<- (p.filter _).length_eq]; exact h2⟩, h.de⟩
theorem Live.free (h : Live y own M) (hn : own.length + 2 * M < y.pages) : ∃ j, j < y.pages /\ y.taken j = false := by
 obtain ⟨L, h1, h2⟩ := h.dy;obtain ⟨L', h3, h4⟩ := h.de;obtain ⟨j, hj, hm⟩ := one_missing y.pages (own ++ L ++ L') (by simp; omega);refine ⟨j, hj, ?_⟩;cases ht : y.taken j with
 | false => rfl
 | true =>
  exfalso; apply hm;rcases h.all j hj ht with h | h | h
  ·simp [h]
  ·simp [h1 j h]
  ·simp [h3 j h]
def Cs.put (y : Cs) (n m : Nat) (bs : List Int) : Cs := if y.fresh n = true then { y with cont := updC y.cont n (some (y.gen, bs)) } else y.moved n m bs
theorem updI_of {f : Int -> Bool} {k : Nat} {b : Bool} : updI f n b k = if k = n then b else f k := by
 simp only [updI];by_cases h : k = n
 ·rw [if_pos h, if_pos (by omega)]
 ·rw [if_neg h, if_neg (by omega)]
theorem Live.new (h : Live y own M) (ap : Apart y.taken y.fresh y.dying y.dead) (hn : TakeIs y.taken y.pages y.hand n) : Live (y.new n bs) (own ++ [n]) M := by
 have hno : n ∉ own := fun hm => by have := (h.tk n hm).1; rw [hn.2.1] at this; cases this
 have ht : ∀ k, y.taken k = true -> (y.new n bs).taken k = true := fun k hk => by
  show upd y.taken n true k = true;simp only [upd]; split
  ·rfl
  ·exact hk
 have hdy : y.dying n = false := by
  cases e : y.dying n with
  | false => rfl
  | true => have := ap.yt n e; rw [hn.2.1] at this; cases this
 have hde : y.dead n = false := by
  cases e : y.dead n with
  | false => rfl
  | true => have := ap.et n e; rw [hn.2.1] at this; cases this
 obtain ⟨L, h1, h2⟩ := h.dy;refine ⟨?_, fun k hk => ?_, fun k hk => ?_, fun k hk hk2 => ?_, ⟨L, h1, ?_⟩, h.de⟩
 ·rw [List.nodup_append];exact ⟨h.nd, by simp, fun a ha b hb => by simp at hb; subst hb; rintro rfl; exact hno ha⟩
 ·rcases List.mem_append.1 hk with hk | hk
  ·exact h.lt k hk
  ·simp at hk; subst hk; exact hn.1
 ·rcases List.mem_append.1 hk with hk | hk
  ·exact ⟨ht k (h.tk k hk).1, (h.tk k hk).2⟩
  ·simp at hk; subst hk;exact ⟨by show upd y.taken k true k = true; simp [upd], hdy, hde⟩
 ·by_cases e : k = n
  ·subst e; simp
  ·have hk2' : upd y.taken n true k = true := hk2;simp only [upd, if_neg e] at hk2';exact (h.all k hk hk2').imp (fun h => List.mem_append_left _ h) id
 ·have e : (own ++ [n]).filter (fun k : Nat => !(y.new n bs).fresh k) = own.filter (fun k : Nat => !y.fresh k) := by
   rw [List.filter_append];have e1 : [n].filter (fun k : Nat => !(y.new n bs).fresh k) = [] := by
    simp [Cs.new, updI]
   rw [e1, List.append_nil];refine List.filter_congr fun k hk => ?_
   show (!(updI y.fresh n true k)) = _;rw [updI_of, if_neg (by rintro rfl; exact hno hk)]
  rw [e]; exact h2
theorem Live.put (h : Live y own M) (ap : Apart y.taken y.fresh y.dying y.dead) (hn : n ∈ own) (hm : y.fresh n = true /\ m = n \/ y.fresh n = false /\ TakeIs y.taken y.pages y.hand m) : Live (y.put n m bs) (own.map (sw n m)) M := by
 rcases hm with ⟨hf, rfl⟩ | ⟨hf, ht⟩
 ·rw [Cs.put, if_pos hf];have e : own.map (sw m m) = own := by
   have : sw m m = id := by funext k; simp only [sw, id]; split <;> omega
   rw [this, List.map_id]
  rw [e];exact ⟨h.nd, h.lt, h.tk, h.all, h.dy, h.de⟩
 ·rw [Cs.put, if_neg (by rw [hf]; decide)];have hno : m ∉ own := fun hm => by have := (h.tk m hm).1; rw [ht.2.1] at this; cases this
  have hmn : m ≠ n := by rintro rfl; exact hno hn
  have hdy : y.dying m = false := by
   cases e : y.dying m with
   | false => rfl
   | true => have := ap.yt m e; rw [ht.2.1] at this; cases this
  have hde : y.dead m = false := by
   cases e : y.dead m with
   | false => rfl
   | true => have := ap.et m e; rw [ht.2.1] at this; cases this
  have htk : ∀ k, (y.moved n m bs).taken k = if k = m then true else y.taken k := fun k => rfl
  have hyk : ∀ k : Nat, (y.moved n m bs).dying k = if k = n then true else y.dying k := fun k => by
   show updI y.dying n true k = _;exact updI_of
  have hfk : ∀ k : Nat, (y.moved n m bs).fresh k = if k = m then true else y.fresh k := fun k => by
   show updI y.fresh m true k = _;exact updI_of
  have hdk : ∀ k : Nat, (y.moved n m bs).dead k = y.dead k := fun k => rfl
  obtain ⟨L, h1, h2⟩ := h.dy;refine ⟨nodup_sw h.nd (.inr hno), fun k hk => ?_, fun k hk => ?_, fun k hk hk2 => ?_, ⟨n :: L, fun k hk => ?_, ?_⟩, h.de⟩
  ·rcases mem_sw.1 hk with ⟨rfl, _⟩ | ⟨hk, _⟩
   ·exact ht.1
   ·exact h.lt k hk
  ·rcases mem_sw.1 hk with ⟨rfl, _⟩ | ⟨hk, hkn⟩
   ·rw [htk, hyk, hdk, if_pos rfl, if_neg hmn];exact ⟨rfl, hdy, hde⟩
   ·have hkm : ¬ k = m := fun e => hno (by rw [<- e]; assumption)
    rw [htk, hyk, hdk, if_neg hkn, if_neg hkm];exact h.tk k (by assumption)
  ·rw [hyk, hdk, mem_sw];by_cases e : k = m
   ·exact .inl (.inl ⟨e, hn⟩)
   ·rw [htk, if_neg e] at hk2;by_cases e2 : k = n
    ·rw [if_pos e2]; exact .inr (.inl rfl)
    ·rw [if_neg e2];exact (h.all k hk hk2).imp (fun h => .inr ⟨h, e2⟩) id
  ·rw [hyk] at hk;split at hk
   ·rename_i e; subst e; simp
   ·exact List.mem_cons_of_mem _ (h1 k hk)
  ·have e : ((own.map (sw n m)).filter (fun k : Nat => !(y.moved n m bs).fresh k)).length + 1 = (own.filter (fun k : Nat => !y.fresh k)).length := by
    rw [List.filter_map, List.length_map, <- filter_but h.nd hn (fun k => !y.fresh k) (by simp [hf])];congr 2
    refine List.filter_congr fun k hk => ?_
    show (!(y.moved n m bs).fresh (sw n m k : Nat)) = _;rw [hfk];simp only [sw];by_cases e : k = n
    ·subst e; simp
    ·have hkm : k ≠ m := (by rintro rfl; exact hno hk);simp [e, hkm]
   simp only [lC];omega
theorem Live.commit (h : Live y own M) (hl : own.length <= M) : Live y.commit own M := by
 obtain ⟨L, h1, h2⟩ := h.dy;refine ⟨h.nd, h.lt, fun k hk => ?_, fun k hk ht => ?_, ⟨[], fun k hk => (by cases hk), ?_⟩, ⟨L, h1, by omega⟩⟩
 ·obtain ⟨a1, a2, a3⟩ := h.tk k hk;refine ⟨?_, rfl, a2⟩;show (y.taken k && !y.dead k) = true;rw [a1, a3]; rfl
 ·have ht' : (y.taken k && !y.dead k) = true := ht;rw [Bool.and_eq_true] at ht';rcases h.all k hk ht'.1 with h | h | h
  ·exact .inl h
  ·exact .inr (.inr h)
  ·rw [h] at ht'; cases ht'.2
 ·have e : own.filter (fun k : Nat => !y.commit.fresh k) = own := List.filter_eq_self.2 fun k _ => rfl
  rw [e]; simpa using hl
theorem put_cont (hm : y.fresh n = true /\ m = n \/ y.fresh n = false) : (y.put n m bs).cont = updC y.cont m (some (y.gen, bs)) := by
 rcases hm with ⟨hf, rfl⟩ | hf
 ·rw [Cs.put, if_pos hf]
 ·rw [Cs.put, if_neg (by rw [hf]; decide)]; rfl
theorem put_like (y : Cs) (n m : Nat) (bs : List Int) : Like y (y.put n m bs) /\ (y.put n m bs).gen = y.gen /\ (y.put n m bs).dead = y.dead := by
 rw [Cs.put];split
 ·exact ⟨⟨rfl, rfl, rfl, rfl, rfl, rfl, rfl⟩, rfl, rfl⟩
 ·exact ⟨⟨rfl, rfl, rfl, rfl, rfl, rfl, rfl⟩, rfl, rfl⟩
theorem updC_same (c : Cont) (k : Int) (v : Option (Nat × List Int)) : updC c k v k = v := by simp [updC]
theorem updC_ne {c : Cont} {k j : Int} {v : Option (Nat × List Int)} (h : j ≠ k) : updC c k v j = c j := by simp [updC, h]
variable {B : Blk} {P : Prot}
theorem StoreC.apart (h : StoreC w B y P a N) : Apart y.taken y.fresh y.dying y.dead := by
 obtain ⟨x, c, hS, rfl, hi⟩ := h.ex;exact hi.apart
def WriteL (B : Blk) (y : Cs) (P : Prot) (a : Bool) (N : Nat) (n : Nat) (bs : List Int) (w : World) (e : Ending) (w' : World) : Prop :=
 FrB B w w' /\ ((∃ m, (y.fresh n = true /\ m = n \/ y.fresh n = false /\ TakeIs y.taken y.pages y.hand m) /\ e = .returned (.tuple #[.agg #[.int .i64 m, .int .i64 y.gen], .int .i64 0]) /\ StoreC w' B (y.put n m bs) P a (N + 1)) \/
  (∃ p s, e = .returned (.tuple #[.agg #[.int .i64 p, .int .i64 s], .int .i64 4]) /\ a = true /\ DownC w' B y P (N + 1)))
theorem write_l (h : StoreC w B y P a N) (n : Nat) (st : Int) (hin : Inp w B la ll lc bs) (hby : ∀ b ∈ bs, 0 <= b /\ b < 256) (hl : ll <= y.room)
  (hp : n < y.pages) (ht : y.taken n = true) (hd : y.dead n = false) (hj : ∃ j, j < y.pages /\ y.taken j = false) (hN : N + 1 <= 90000) :
  Calls Tryz.prog 26 #[B.ptr, .agg #[.int .i64 n, .int .i64 st], .slice la ll lc] w (WriteL B y P a N n bs w) := by
 cases hf : y.fresh n with
 | true =>
  refine (wfresh_c h n st hin hby hl hp ht hf hN).mono ?_;rintro e w' ⟨err, rfl, ⟨rfl, hS⟩ | ⟨rfl, ha, hD⟩, F⟩
  ·exact ⟨F, .inl ⟨n, .inl ⟨hf, rfl⟩, rfl, by rw [Cs.put, if_pos hf]; exact hS⟩⟩
  ·exact ⟨F, .inr ⟨_, _, rfl, ha, hD⟩⟩
 | false =>
  obtain ⟨j, hj, hfree⟩ := hj;refine (wnew_c h n st hin hby hl hp ht hf hd hj hfree hN).mono ?_;rintro e w' ⟨m, err, hm, rfl, ⟨rfl, hS⟩ | ⟨rfl, ha, hD⟩, F⟩
  ·exact ⟨F, .inl ⟨m, .inr ⟨hf, hm⟩, rfl, by rw [Cs.put, if_neg (by rw [hf]; decide)]; exact hS⟩⟩
  ·exact ⟨F, .inr ⟨0, 0, rfl, ha, hD⟩⟩
def NewL (B : Blk) (y : Cs) (P : Prot) (a : Bool) (N : Nat) (bs : List Int) (w : World) (e : Ending) (w' : World) : Prop :=
 FrB B w w' /\ ((∃ m, TakeIs y.taken y.pages y.hand m /\ e = .returned (.tuple #[.agg #[.int .i64 m, .int .i64 y.gen], .int .i64 0]) /\ StoreC w' B (y.new m bs) P a (N + 1)) \/
  (∃ p s, e = .returned (.tuple #[.agg #[.int .i64 p, .int .i64 s], .int .i64 4]) /\ a = true /\ DownC w' B y P (N + 1)))
theorem new_l (h : StoreC w B y P a N) (hin : Inp w B la ll lc bs) (hby : ∀ b ∈ bs, 0 <= b /\ b < 256) (hl : ll <= y.room)
  (hj : ∃ j, j < y.pages /\ y.taken j = false) (hN : N + 1 <= 90000) : Calls Tryz.prog 22 #[B.ptr, .slice la ll lc] w (NewL B y P a N bs w) := by
 obtain ⟨j, hj, hfree⟩ := hj;refine (new_c h hin hby hl hj hfree hN).mono ?_;rintro e w' ⟨m, err, hm, rfl, ⟨rfl, hS⟩ | ⟨rfl, ha, hD⟩, F⟩
 ·exact ⟨F, .inl ⟨m, hm, rfl, hS⟩⟩
 ·exact ⟨F, .inr ⟨0, 0, rfl, ha, hD⟩⟩
def ReadL (B : Blk) (y : Cs) (P : Prot) (a : Bool) (N : Nat) (load : List Int) (w : World) (e : Ending) (w' : World) : Prop :=
 FrB B w w' /\ ((∃ la lc, e = .returned (.tuple #[.slice la load.length lc, .int .i64 0]) /\ ByV w' la load.length lc load /\ StoreC w' B y P a (N + 1)) \/
  (e = .returned (.tuple #[.slice none 0 0, .int .i64 4]) /\ a = true /\ DownC w' B y P (N + 1)))
theorem read_l (h : StoreC w B y P a N) (p stamp : Nat) {load : List Int} (hc : y.cont p = some (stamp, load)) (hN : N + 1 <= 90000) :
  Calls Tryz.prog 24 #[B.ptr, .agg #[.int .i64 p, .int .i64 stamp]] w (ReadL B y P a N load w) := by
 refine (read_c h p stamp hc hN).mono ?_;rintro e w' ⟨err, ⟨rfl, hS⟩ | ⟨rfl, ha, hD⟩, F, h1, -, h3⟩
 ·obtain ⟨la, lc, rfl, hb⟩ := h3 rfl rfl;exact ⟨F, .inl ⟨la, lc, rfl, hb, hS⟩⟩
 ·obtain rfl := h1 (by decide);exact ⟨F, .inr ⟨rfl, ha, hD⟩⟩
end
section
open Go.RowKit Go.Sg CP SF
structure DirD where
 per : Nat
 most : Nat
 depth : Nat
 rp : Int
 rs : Int
abbrev DirD.cells (x : DirD) (s : Nat) : Array Value := #[.pointer (some ⟨s, 0, none⟩), .int .i64 x.per, .int .i64 x.most, .int .i64 x.depth, .int .i64 x.rp, .int .i64 x.rs]
def DirAt (w : World) (bd s : Nat) (x : DirD) : Prop := w.heap[bd]? = some (.cells (x.cells s) 209)
variable {w : World} {bd d s : Nat}
theorem cells6 {b : Nat} {x0 x1 x2 x3 x4 x5 : Value} {t : TypeId} (h : w.heap[b]? = some (.cells #[x0, x1, x2, x3, x4, x5] t)) :
  w.cell? ⟨b, 0, none⟩ = some x0 /\ w.cell? ⟨b, 1, none⟩ = some x1 /\ w.cell? ⟨b, 2, none⟩ = some x2 /\ w.cell? ⟨b, 3, none⟩ = some x3 /\ w.cell? ⟨b, 4, none⟩ = some x4 /\ w.cell? ⟨b, 5, none⟩ = some x5 /\ (∀ o, w.frozen? ⟨b, o, none⟩ = false) /\ b < w.heap.size :=
 ⟨by simpa using coh h 0, by simpa using coh h 1, by simpa using coh h 2, by simpa using coh h 3, by simpa using coh h 4, by simpa using coh h 5, fun o => foh h o, loh h⟩
abbrev dptr (bd : Nat) : Value := .pointer (some ⟨bd, 0, none⟩)
abbrev ref2 (p s : Int) : Value := .agg #[.int .i64 p, .int .i64 s]
def rightM (p s : Int) : Bool := decide (0 <= p) && decide (p <= 2147483647) && decide (0 <= s)
def RightP (p s : Int) (w : World) (e : Ending) (w' : World) : Prop := e = .returned (.bool (rightM p s)) /\ Fq w w'
theorem right_dir_ok (p s : Int) (w : World) : Calls Tryz.prog 117 #[ref2 p s] w (RightP p s w) := by
 obtain ⟨w1, hw1⟩ : ∃ w1, w.alloc (.cells #[.int .i64 p, .int .i64 s] 35) = w1 := ⟨_, rfl⟩
 have b0 : w1.heap[w.heap.size]? = some (.cells #[.int .i64 p, .int .i64 s] 35) := by rw [<- hw1]; exact han _ _
 have HF := hid (show Fq w w1 by rw [<- hw1]; exact (Fr.refl _ _).alloc _);obtain ⟨c0, c1, cz, cl⟩ := cells2 b0;have HW := hid hw1;clear hw1 b0;go_enter Tryz.func117, Tryz.ntmps117;go_upto_region 1 with fail
 rw [HW.out];by_cases h1 : 0 <= p
 ·have d1 : decide ((0 : Int) <= p) = true := decide_eq_true h1;by_cases h2 : p <= 2147483647
  ·have d2 : decide (p <= (2147483647 : Int)) = true := decide_eq_true h2;by_cases h3 : 0 <= s
   ·have d3 : decide ((0 : Int) <= s) = true := decide_eq_true h3;go_wp2_with fail
    refine bodyPost_ret (v := .bool true) (by simp [results, go_sem, *]) rfl ⟨by simp [rightM, d1, d2, d3], HF.out⟩
   ·have d3 : decide ((0 : Int) <= s) = false := decide_eq_false h3;go_wp2_with fail
    refine bodyPost_ret (v := .bool false) (by simp [results, go_sem, *]) rfl ⟨by simp [rightM, d1, d2, d3], HF.out⟩
  ·have d2 : decide (p <= (2147483647 : Int)) = false := decide_eq_false h2;go_wp2_with fail
   refine bodyPost_ret (v := .bool false) (by simp [results, go_sem, *]) rfl ⟨by simp [rightM, d1, d2], HF.out⟩
 ·have d1 : decide ((0 : Int) <= p) = false := decide_eq_false h1;go_wp2_with fail
  refine bodyPost_ret (v := .bool false) (by simp [results, go_sem, *]) rfl ⟨by simp [rightM, d1], HF.out⟩
def DirD.slots (x : DirD) : Nat := 2 ^ x.depth
def DirD.leaves (x : DirD) : Nat := (x.slots + x.per - 1) / x.per
def DirD.in_ (x : DirD) (i : Nat) : Nat := min x.per (x.slots - i * x.per)
def QuietP (v : Value) (w : World) (e : Ending) (w' : World) : Prop := e = .returned v /\ ∃ m, w' = w.drewN m
theorem quiet_call {P : Program} {f : FuncId} {args : Array Value} {n : Nat} {v : Value} (h : Calls P f args (w.drewN n) (QuietP v (w.drewN n))) : Calls P f args (w.drewN n) fun e w'' => e = .returned v /\ ∃ m, w'' = w.drewN m :=
 h.mono fun _ _ ⟨he, m, hm⟩ => ⟨he, n + m, by rw [hm]; simp [World.drewN, Nat.add_assoc]⟩
theorem pow_small (h : d <= 20) : 2 ^ d <= 1048576 /\ 0 < 2 ^ d := ⟨nT (Nat.pow_le_pow_right (by decide) h) (by decide), Nat.pow_pos (by decide)⟩
theorem wrap_pow (h : d <= 20) : wrap64 (2 ^ d) = ((2 ^ d : Nat) : Int) := by
 obtain ⟨h1, h2⟩ := pow_small h;have e : (2 : Int) ^ d = ((2 ^ d : Nat) : Int) := by simp
 rw [e];generalize 2 ^ d = n at *
 simp only [wrap64]; omega
variable {x : DirD}
theorem slots_ok (h : DirAt w bd s x) (hd : x.depth <= 20) : Calls Tryz.prog 125 #[dptr bd] w (QuietP (.int .i64 x.slots) w) := by
 obtain ⟨c0, c1, c2, c3, c4, c5, cz, cl⟩ := cells6 h;have HP := hid (wrap_pow hd);clear h;go_enter Tryz.func125, Tryz.ntmps125;go_wp2_with fail
 rw [HP.out];go_ret;exact ⟨rfl, 0, rfl⟩
theorem slots_small (hd : x.depth <= 20) : x.slots <= 1048576 /\ 0 < x.slots := pow_small hd
theorem leaves_ok (h : DirAt w bd s x) (hd : x.depth <= 20) (hp : 0 < x.per) (hp' : x.per <= 65536) : Calls Tryz.prog 182 #[dptr bd] w (QuietP (.int .i64 x.leaves) w) := by
 obtain ⟨c0, c1, c2, c3, c4, c5, cz, cl⟩ := cells6 h;have HSl := hid (fun W (F : Fq w W) => slots_ok (F.heap h (fun h => h) : DirAt W bd s x) hd);obtain ⟨hs1, hs2⟩ := slots_small hd;have HL := hid (show (x.slots + x.per - 1) / x.per = x.leaves from rfl);clear h;generalize x.slots = n at *
 have e2 : ((n : Int) + (x.per : Int) - 1) / (x.per : Int) = (x.leaves : Int) := by
  rw [show (n : Int) + (x.per : Int) - 1 = ((n + x.per - 1 : Nat) : Int) by omega, <- HL.out]; simp
 have HE := hid e2;clear e2;go_enter Tryz.func182, Tryz.ntmps182;go_wp2_with fail
 go_quiet ((go_at_call 125; exact quiet_call (HSl.out _ ((Fr.refl _ _).drewN _))))
 go_wp2_with fail
 refine bodyPost_ret (v := .int .i64 x.leaves) (by simp [results, go_sem, HE.out]) rfl ⟨rfl, _, rfl⟩
theorem in_dir_ok (h : DirAt w bd s x) (hd : x.depth <= 20) (hp : 0 < x.per) (hp' : x.per <= 65536) (i : Nat) (hi : i * x.per <= x.slots) : Calls Tryz.prog 183 #[dptr bd, .int .i64 i] w (QuietP (.int .i64 (x.in_ i)) w) := by
 obtain ⟨c0, c1, c2, c3, c4, c5, cz, cl⟩ := cells6 h;have HSl := hid (fun W (F : Fq w W) => slots_ok (F.heap h (fun h => h) : DirAt W bd s x) hd);obtain ⟨hs1, hs2⟩ := slots_small hd;have HL := hid (show min x.per (x.slots - i * x.per) = x.in_ i from rfl);clear h;generalize x.slots = n at *
 obtain ⟨ip, hip⟩ : ∃ ip, i * x.per = ip := ⟨_, rfl⟩
 have e1 : (i : Int) * (x.per : Int) = (ip : Int) := by rw [<- hip]; simp
 rw [hip] at hi HL;have hw : wrap64 ((i : Int) * (x.per : Int)) = (ip : Int) := by rw [e1]; simp only [wrap64]; omega
 have HE := hid e1;clear hip;go_enter Tryz.func183, Tryz.ntmps183;go_wp2_with fail
 go_quiet ((go_at_call 125; exact quiet_call (HSl.out _ ((Fr.refl _ _).drewN _))))
 go_wp2_with fail
 have hm : min (x.per : Int) ((n : Int) - (ip : Int)) = (x.in_ i : Int) := by rw [<- HL.out]; omega
 refine bodyPost_ret (v := .int .i64 (x.in_ i)) (by simp [results, go_sem, hm]) rfl ⟨rfl, _, rfl⟩
def IntP (n : Int) (w : World) (e : Ending) (w' : World) : Prop := e = .returned (.int .i64 n) /\ w = w'
theorem depth_ok (h : DirAt w bd s x) : Calls Tryz.prog 56 #[dptr bd] w (IntP x.depth w) := by
 obtain ⟨c0, c1, c2, c3, c4, c5, cz, cl⟩ := cells6 h;clear h;go_enter Tryz.func56, Tryz.ntmps56;go_wp2_with fail
 go_ret;exact ⟨rfl, rfl⟩
end
end Go.Proofs.YtgdhaaokolfdoaaGreatDoor
namespace Go.Sg
def refB (x : Int × Int) : List Int := leB x.1.toNat 4 ++ leB x.2.toNat 8
def loadM (l : List (Int × Int)) : List Int := l.flatMap refB
theorem refB_len (x : Int × Int) : (refB x).length = 12 := by simp [refB, leB_length]
theorem loadM_len (l : List (Int × Int)) : (loadM l).length = 12 * l.length := by
 induction l with
 | nil => rfl
 | cons x l ih => simp only [loadM, List.flatMap_cons, lA, lC] at ih ⊢; rw [refB_len, ih]; omega
def rightR (x : Int × Int) : Prop := 0 <= x.1 /\ x.1 <= 2147483647 /\ 0 <= x.2 /\ x.2 < 9223372036854775808
structure RowR (w : World) (a : Option Addr) (l : List (Int × Int)) : Prop where
 at_ : ∀ (i : Nat) (x : Int × Int), l[i]? = some x -> ∃ b off, a = some ⟨b, off, none⟩ /\ b < w.heap.size /\ w.cell? ⟨b, off + i * 2, none⟩ = some (.int .i64 x.1) /\ w.cell? ⟨b, off + i * 2 + 1, none⟩ = some (.int .i64 x.2)
variable {w w' : World} {a : Option Addr} {l : List (Int × Int)}
theorem RowR.fr {S : Nat -> Prop} (h : RowR w a l) (F : Fr S w w') (hS : ∀ b off, a = some ⟨b, off, none⟩ -> b < w.heap.size -> l ≠ [] -> ¬ S b) : RowR w' a l :=
 ⟨fun i x hx => by
  obtain ⟨b, off, e, hb, h1, h2⟩ := h.at_ i x hx;have hn : l ≠ [] := by rintro rfl; simp at hx
  exact ⟨b, off, e, nLL hb F.size, (F.cell (p := ⟨b, off + i * 2, none⟩) hb (hS b off e hb hn)).trans h1, (F.cell (p := ⟨b, off + i * 2 + 1, none⟩) hb (hS b off e hb hn)).trans h2⟩⟩
theorem RowR.fr0 (h : RowR w a l) (F : Fq w w') : RowR w' a l := h.fr F (fun _ _ _ _ _ h => h)
end Go.Sg
namespace Go.Proofs.YtgdhaaokolfdoaaGreatDoor
section
open Go.RowKit Go.Sg CP SF
def LoadP (l : List (Int × Int)) (w : World) (e : Ending) (w' : World) : Prop := ∃ a c, e = .returned (.slice a (12 * l.length) c) /\ ByV w' a (12 * l.length) c (loadM l) /\ Fq w w'
def WNumP (base r limit : Nat) (bs : List Int) (n k : Nat) (w : World) (e : Ending) (w' : World) : Prop := e = .returned (.tuple #[]) /\ WtAt w' base r (bs ++ Sg.leB n k) limit /\ Fr (WtS w base r) w w'
def NewWtP (limit : Nat) (w : World) (e : Ending) (w' : World) : Prop := e = .returned (.pointer (some ⟨w.heap.size, 0, none⟩)) /\ WtAt w' w.heap.size w.heap.size [] limit /\ Fq w w'
def WBytP (bs : List Int) (w : World) (e : Ending) (w' : World) : Prop := ∃ a c, e = .returned (.slice a bs.length c) /\ (ByV w' a bs.length c bs /\ bs.length <= c) /\ Fq w w'
variable {w : World} {base limit r : Nat} {bs : List Int}
theorem wnum_p (h : WtAt w base r bs limit) (hbase : base <= w.heap.size) (n k : Nat) (kz : Int) (hkz : kz = k) (hk : k = 1 \/ k = 2 \/ k = 4 \/ k = 8) (hn : n < 18446744073709551616) (hroom : bs.length + k <= limit) :
  Calls Tryz.prog 179 #[.pointer (some ⟨r, 0, none⟩), .int .u64 n, .int .i64 kz] w (WNumP base r limit bs n k w) := by
 subst hkz; exact wnum_ok2 h hbase n k hk hn hroom
theorem newwt_p (limit : Nat) (z : Int) (hz : z = limit) (hl : limit <= 65536) (w : World) : Calls Tryz.prog 178 #[.int .i64 z] w (NewWtP limit w) := by
 subst hz; exact newwriter_ok limit hl w
theorem wbytes_p (h : WtAt w base r bs limit) : Calls Tryz.prog 180 #[.pointer (some ⟨r, 0, none⟩)] w (WBytP bs w) := wbytes_ok h
theorem load_ok {a : Option Addr} {c n : Nat} {l : List (Int × Int)} (h : RowR w a l) (hr : ∀ x ∈ l, rightR x) (hn : l.length = n) (hn1 : n <= 64) :
  Calls Tryz.prog 119 #[.slice a n c] w (LoadP l w) := by
 have H := hid h;have HR := hi2 hr hn;have HNW := hid (newwt_p (12 * n) (12 * (n : Int)) (by simp) (by omega) w);clear h hr hn;go_enter Tryz.func119, Tryz.ntmps119;go_wp2_with (go_at_call 178; refine HNW.out.mono ?_)
 rintro e w1 ⟨rfl, hW, F1⟩;have HW1 := hi2 hW F1;clear hW F1;go_wp2_with fail
 go_loopw [12] (fun i wr => ∃ k : Nat, k <= n /\ i = .int .i64 k /\ WtAt wr w.heap.size w.heap.size (loadM (l.take k)) (12 * n) /\ Fq w wr) (fun i _ => n - (intOf i).toNat)
 case atStart => exact ⟨0, Nat.zero_le _, rfl, HW1.out.1, HW1.out.2⟩
 case round =>
  obtain ⟨k, hk, rfl, hW, F⟩ := hrel;have HW := hi2 hW F;by_cases hlt : k < n
  ·have hx : l[k]? = some (l[k]'(by rw [HR.out.2]; exact hlt)) := gE _;generalize l[k]'(by rw [HR.out.2]; exact hlt) = x at hx;have hrx := HR.out.1 x (gM hx);obtain ⟨z1, z2⟩ := x;obtain ⟨p, rfl⟩ := iZ hrx.1;obtain ⟨q, rfl⟩ := iZ hrx.2.2.1;have hp1 : p <= 2147483647 := by have := hrx.2.1; simp only at this; omega
   have hq1 : q < 9223372036854775808 := by have := hrx.2.2.2; simp only at this; omega
   obtain ⟨b, off, rfl, hb, h0, h1⟩ := (H.out.fr0 F).at_ k _ hx;simp only at h0 h1;have hd : decide ((k : Int) < (n : Int)) = true := by simp; omega
   have hu1 : IntKind.u64.wrap (p : Int) = (p : Int) := by simp [IntKind.wrap, IntKind.signed, IntKind.bits]; omega
   have hu2 : IntKind.u64.wrap (q : Int) = (q : Int) := by simp [IntKind.wrap, IntKind.signed, IntKind.bits]; omega
   have hll : (loadM (l.take k)).length = 12 * k := by rw [loadM_len, lT, HR.out.2]; omega
   have HN1 := hid (fun W (F : Fq wr W) => wnum_p (hW.fr F (fun _ _ _ h => h)) (nT HW.out.2.size F.size) p 4 4 (by simp) (by omega) (by omega) (by rw [hll]; omega));have HX := hi2 hx hll;have hsz : w.heap.size < wr.heap.size := by obtain ⟨⟨v, hr, _⟩, _⟩ := HW.out.1; exact loh hr
   clear hx hrx hll hW F;go_upto_region 5 with fail
   obtain ⟨W2, hW2⟩ : ∃ W2, wr.alloc (.cells #[.int .i64 p, .int .i64 q] 35) = W2 := ⟨_, rfl⟩
   rw [hW2];have F2 : Fq wr W2 := by rw [<- hW2]; exact (Fr.refl _ _).alloc _
   have j9 : W2.heap[wr.heap.size]? = some (.cells #[.int .i64 p, .int .i64 q] 35) := by rw [<- hW2]; exact han _ _
   have H2 := hi2 F2 j9;obtain ⟨e0, e1, ez, el⟩ := cells2 j9;have HC := hid (HN1.out W2 F2);clear h0 h1 F2 j9 hW2 HN1;go_wp2_with (go_at_call 179; refine HC.out.mono ?_)
   rintro e W3 ⟨rfl, hW3, F3⟩;have j9 := F3.heap H2.out.2 (fun h => by
    rcases h.2 with h | ⟨c, h⟩
    ·omega
    ·rw [H2.out.2] at h; cases h)
   obtain ⟨e0, e1, ez, el⟩ := cells2 j9;have F03 : Fq w W3 := ((HW.out.2.trans H2.out.1 (fun _ _ h => h))).trans F3 (fun b hb h => by have := h.1; omega);have HC2 := hid (wnum_p hW3 F03.size q 8 8 (by simp) (by omega) (by omega) (by rw [lA, HX.out.2, leB_length]; omega));have H3 := hid F03;clear F3 hW3 F03 j9 HC;go_wp2_with (go_at_call 179; refine HC2.out.mono ?_)
   rintro e W4 ⟨rfl, hW4, F4⟩;have H4 := hi2 hW4 (H3.out.trans F4 (fun b hb h => by have := h.1; omega));clear F4 hW4;go_wp2_with fail
   go_roundw;case rel =>
    refine ⟨k + 1, hlt, by go_num, ?_, H4.out.2⟩;have e1 : loadM (l.take (k + 1)) = loadM (l.take k) ++ Sg.leB p 4 ++ Sg.leB q 8 := by
     rw [List.take_add_one, HX.out.1]; simp [loadM, refB]
    rw [e1]; exact H4.out.1
   case measure => simp [intOf]; omega
  ·obtain rfl : k = n := by omega
   have hd : decide ((k : Int) < (k : Int)) = false := by simp
   have HB := hid (wbytes_p hW);clear hW F;go_wp2_with (go_at_call 180; refine HB.out.mono ?_)
   rintro e W2 ⟨a2, c2, rfl, ⟨hb2, -⟩, F2⟩;have H2 := hi2 hb2 F2;clear hb2 F2;go_wp2_with fail
   refine bodyPost_ret (v := .slice a2 (loadM (l.take k)).length c2) (by simp [results, go_sem]) rfl ?_;have e1 : l.take k = l := tL (by rw [HR.out.2]; exact nR _);have hb := H2.out.1;rw [e1, loadM_len] at hb;rw [e1, loadM_len];exact ⟨a2, c2, rfl, hb, HW.out.2.trans H2.out.2 (fun _ _ h => h)⟩
end
section
open Go.RowKit Go.Sg Go.Sg.Bits Go.Sg.Clk CP SF
end
end Go.Proofs.YtgdhaaokolfdoaaGreatDoor
