/- The store: Commit. Conditions: the store lies in the world as StoreAt says. -/
import Derived.Test.YtgdhaaokolfdoaaGreatDoorSR
import Derived.Maps.RangeWalk
namespace Go.Proofs.YtgdhaaokolfdoaaGreatDoor
open Go.RowKit Go.Sg Go.Sg.Bits Go.Sg.Clk CP
namespace SF
theorem commit_nil (w : World) : Calls Tryz.prog 37 #[.pointer none] w fun e w' => e = .returned (.tuple #[]) ∧ w = w' := by
  go_enter Tryz.func37, Tryz.ntmps37
  go_wp2
  refine bodyPost_ret (results_none rfl _ _ _) rfl ?_
  exact ⟨rfl, rfl⟩
/-- A store behind a commit. -/
def commitX (x : Sto) : Sto :=
  { x with gen := x.gen + 1, taken := fun i => x.taken i && !x.dead i, mem := fun k => if x.dead k then none else x.mem k, fresh := fun _ => false, dying := fun _ => false, dead := x.dying }
/-- Where a store's blocks lie behind a commit. -/
def Blk.next (B : Blk) (n : Nat) : Blk := { B with de := B.dy, dy := n, fr := n + 1 }
/-- A store while a commit goes through what is dead. -/
def midX (x : Sto) (f : Int → Bool) : Sto := { x with taken := fun i => x.taken i && !f i, mem := fun k => if f k then none else x.mem k }
theorem _root_.Go.Proofs.YtgdhaaokolfdoaaGreatDoor.StoreAt.frK {w w' : World} {B : Blk} {x : Sto} (h : StoreAt w B x) {k : Nat} (F : Fr (fun b => b = k) w w') (h1 : ∀ r, ¬ B.at_ r = k) (hk : ∀ c t, w.heap[k]? ≠ some (.cells c t)) : StoreAt w' B x := by
  have h4 : ∀ (g : Nat) (c' : Array Value) (t' : TypeId), w.heap[g]? = some (.cells c' t') → ¬ g = k := fun g c' t' hg e => by
    rw [e] at hg; exact hk _ _ hg
  refine ⟨F.heap h.s (h1 .s), h.dev.fr F (h1 .d) (h1 .bf) (h1 .bq) fun g c' t' h5 hg => h4 g c' t' hg, h.bits.fr F (h1 .bs) (h1 .bw), h.fr.fr F (h1 .fr), h.dy.fr F (h1 .dy), h.de.fr F (h1 .de), h.mem.fr F (h1 .bc) (h1 .bp) (h1 .bm), fun k p hp => ?_, h.ne, h.ge, h.rg, h.inr⟩
  obtain ⟨bs, hb, hl⟩ := h.load k p hp
  exact ⟨bs, hb.fr F fun b c hc => h4 b c 5 hc, hl⟩
theorem ranges_fr {H : Type} {P : Program} {K : TypeId} {R : Value → Option (DataW H × List MemPlace)} {S : Nat → Prop} {w w' : World} {b r n : Nat} {D : DataW H} {left : Lit → Bool} {cnt : Nat} (h : w.ranges P K R b r n D left cnt) (F : Fr S w w') (h1 : ¬ S b) (h2 : ¬ S r) : w'.ranges P K R b r n D left cnt := by
  obtain ⟨es, clock, since, seen, c0, hb, Ft, hs, hD, hr, rest⟩ := h
  exact ⟨es, clock, since, seen, c0, F.heap hb h1, Ft, hs, hD, F.heap hr h2, rest⟩
theorem plainElem_bool_inv {H : Type} {P : Program} {e : TypeId} (h4 : P.underlying e = some .bool) {v : Value} {y : DataW H × List MemPlace} (h : plainElem (H := H) P e v = some y) : ∃ c, v = .bool c ∧ y.1 = .lit (.bool c) := by
  unfold plainElem at h
  rw [h4] at h
  cases v with
  | bool c =>
    simp only [Option.some.injEq] at h
    exact ⟨c, rfl, by rw [← h]⟩
  | _ => simp at h
theorem setD_at {H : Type} (l : List Ent) (k : Lit) (z : DataW H) : (setD l).atKey k z = z ∨ (setD l).atKey k z = boolD := by
  rw [setD, DataW.atKey]
  split
  · rename_i p hp
    right
    have := List.mem_of_find?_eq_some hp
    obtain ⟨e, _, rfl⟩ := List.mem_map.1 ((foldr_perm _).mem_iff.1 this)
    rfl
  · exact .inl rfl
/-- The step of a range over a set of numbers. -/
theorem wpList_next_set {w : World} {ops : Array Oper} {rest : List Oper} {o : Oper} {a : Act} {Q : Exit → Act → World → Prop} (hg : o.guard = none) (it : Operand) (hop : o.op = Op.next it false) (b r n : Nat) (l : List Ent) (left : Lit → Bool) (cnt : Nat)
    (hit : a.eval it = .pointer (some ⟨r, 0, none⟩)) (h : w.ranges Tryz.prog 3 (plainElem (H := Unit) Tryz.prog 4) b r n (setD l) left cnt)
    (hDone : cnt = 0 → (∀ kl, left kl = false) → wpList Tryz.prog ops Q rest (a.put o.dst (.tuple #[.bool false])) w)
    (hMore : ∀ (x : Int) (w' : World) (cnt' : Nat), left (.int .i64 x) = true → w'.ranges Tryz.prog 3 (plainElem (H := Unit) Tryz.prog 4) b r n (setD l) (fun z => left z && !z.sameKey (.int .i64 x)) cnt' → cnt' < cnt →
      w.grownBy w' (some r) → w'.heap.size = w.heap.size → (Instr.entry (.pointer (some ⟨r, 0, none⟩))).run Tryz.prog w' = .ok (.tuple #[.int .i64 x, .bool true]) w' → wpList Tryz.prog ops Q rest (a.put o.dst (.tuple #[.bool true, .int .i64 x, .bool true])) w') :
    wpList Tryz.prog ops Q (o :: rest) a w := by
  refine wpList_next_ranges w hg it hop 3 (Maps.int_keyed Tryz.underlying3) (plainElem (H := Unit) Tryz.prog 4) (Value.int .i64) Value.bool (fun key kl hkey => by obtain ⟨z, rfl, _⟩ := Maps.keyOf_int_inv Tryz.underlying3 hkey; exact ⟨z, rfl⟩) (fun v y hv => by obtain ⟨c, rfl, _⟩ := plainElem_bool_inv Tryz.underlying4 hv; exact ⟨c, rfl⟩) b r n _ left cnt hit h hDone ?_
  intro x c kl y w' cnt' hkey hlk hv hat hrg hlt hgr hsz hen
  obtain ⟨x', ex, rfl, hwx⟩ := Maps.keyOf_int_inv Tryz.underlying3 hkey
  cases ex
  obtain ⟨c', ec, hy⟩ := plainElem_bool_inv Tryz.underlying4 hv
  cases ec
  have hc : c = true := by
    have h1 := hat .nil
    rw [hy] at h1
    rcases setD_at (H := Unit) l (.int .i64 x) .nil with h2 | h2
    · rw [h2] at h1; cases h1
    · rw [h2] at h1; simp [boolD] at h1; exact h1
  subst hc
  exact hMore x w' cnt' hlk hrg hlt hgr hsz hen
theorem ranges_iter {H : Type} {P : Program} {K : TypeId} {R : Value → Option (DataW H × List MemPlace)} {w : World} {b r n : Nat} {D : DataW H} {left : Lit → Bool} {cnt : Nat} (h : w.ranges P K R b r n D left cnt) (c : Array Value) (t : TypeId) : w.heap[r]? ≠ some (.cells c t) := by
  obtain ⟨es, clock, since, seen, c0, hb, Ft, hs, hD, hr, rest⟩ := h
  rw [hr]; simp
set_option maxHeartbeats 2000000 in
theorem commit_at {w : World} {B : Blk} {x : Sto} (h : StoreAt w B x) (hd : ∀ k, x.dead k = true → x.taken k.toNat = true) (hg : x.gen < 2199023255552) :
    Calls Tryz.prog 37 #[B.ptr] w fun e w' => ∃ n, e = .returned (.tuple #[]) ∧ StoreAt w' (Blk.next B n) (commitX x) ∧ FrB B.base w w' ∧ w.heap.size ≤ n := by
  have c16 := h.sc.c16
  have ls := h.sc.lt
  obtain ⟨ld, cd, hdm, hds⟩ := h.de.ex
  have hown := set_owns (H := Unit) (P := Tryz.prog) (K := 3) (E := 4) Tryz.underlying3 Tryz.underlying4 hdm hds (fun k hk => by
    have := h.inr.2.2 k hk
    have := h.bits.room
    exact WalkArith.wf_i64 (by omega)) (by
    have := hds.len h.inr.2.2
    have := h.bits.room
    simp [maxLen]; omega)
  have HS := hid hds
  have H := hid h
  have HO := hid hown
  have HM := hid hdm
  clear hds hown hdm h
  go_enter Tryz.func37, Tryz.ntmps37
  go_wp2_with (first | (at_range; refine wpList_range_own _ rfl _ 153 rfl 3 4 (Maps.int_keyed Tryz.underlying3) Tryz.underlying153 _ B.de ld.length (setD ld) rfl HO.out ?_; intro w0 hrg0 hg0 hs0))
  go_frame
  have hlt : ∀ r, B.at_ r < w.heap.size := fun r => (H.out.heaps r).2.2.1
  have HLT := hid hlt
  have HD := hid hd
  have F00 : Fr (fun _ => False) w w0 := ⟨hg0.os, hg0.tape, hg0.output, hg0.size, fun b hb _ => hg0.block b hb (by simp)⟩
  have hS0 : StoreAt w0 B (midX x (fun k => x.dead k && !(Maps.has (setD (H := Unit) ld) (.int .i64 k)))) := by
    have e : midX x (fun k => x.dead k && !(Maps.has (setD (H := Unit) ld) (.int .i64 k))) = x := by
      have e1 : ∀ k, (x.dead k && !(Maps.has (setD (H := Unit) ld) (.int .i64 k))) = false := fun k => by
        rw [setD_has]
        cases hk : x.dead k with
        | false => rfl
        | true =>
          have : k ∈ keys ld := by
            refine Classical.byContradiction fun hn => ?_
            have := (look_none ld k).2 hn
            rw [HS.out.at_, hk] at this
            simp at this
          simp [this]
      simp [midX, e1]
    rw [e]; exact H.out.fr0 F00
  have HF00 := hid F00
  have HS0 := hid hS0
  have HR0 := hid hrg0
  clear F00 hS0 hrg0 hg0 hlt hd c16
  go_loopw [2] (fun _ wr => ∃ (left : Lit → Bool) (cnt : Nat), wr.ranges Tryz.prog 3 (plainElem (H := Unit) Tryz.prog 4) B.de w.heap.size ld.length (setD ld) left cnt ∧ (∀ k, left (.int .i64 k) = true → x.dead k = true) ∧
    StoreAt wr B (midX x (fun k => x.dead k && !left (.int .i64 k))) ∧ FrR B [.bs, .bw, .bp, .bm] w wr) (fun _ wr => wr.rangeLeft B.de w.heap.size)
  case atStart =>
    refine ⟨_, _, HR0.out, fun k hk => ?_, HS0.out, HF00.out.mono (fun _ _ h => h.elim)⟩
    rw [setD_has] at hk
    have hk' : k ∈ keys ld := by simpa using hk
    have : Sg.look ld k ≠ none := fun e => (look_none ld k).1 e hk'
    rw [HS.out.at_] at this
    cases hx : x.dead k with
    | true => rfl
    | false => rw [hx] at this; simp at this
  case round =>
    obtain ⟨left, cnt, hrg, hlf, hS, hF⟩ := hrel
    have HRG := hid hrg
    have HLF := hid hlf
    have HSr := hid hS
    have HFr := hid hF
    clear hrg hlf hS hF
    go_wp2_with (at_next; refine wpList_next_set rfl _ rfl B.de w.heap.size ld.length ld left cnt rfl HRG.out ?_ ?_)
    · intro hc0 hl0
      have hSd : StoreAt wr B (midX x x.dead) := by
        have e : (fun k => x.dead k && !left (.int .i64 k)) = x.dead := by funext k; rw [hl0]; simp
        have := HSr.out
        rw [e] at this
        exact this
      have HSd := hid hSd
      have c15 := hSd.sc.c15
      have c12 : wr.cell? ⟨B.s, 12, none⟩ = some (.int .i64 x.gen) := hSd.sc.c12
      have c14 := hSd.sc.c14
      have c16 := hSd.sc.c16
      have cz := hSd.sc.z
      have lsr := hSd.sc.lt
      have hmm := fun (t : TypeId) (W : World) => run_makeMap (P := Tryz.prog) t W
      clear hc0 hl0 hSd
      go_wp2
      go_end0
      have HF := HFr.out
      have hs := HSd.out.s
      obtain ⟨W, hW⟩ : ∃ W, ((((wr.setCell ⟨B.s, 16, none⟩ (.map (some B.dy))).setCell ⟨B.s, 15, none⟩ (.map (some wr.heap.size))).setCell ⟨B.s, 14, none⟩ (.map (some (wr.heap.size + 1)))).setCell ⟨B.s, 12, none⟩ (.int .i64 (x.gen + 1))) = W := ⟨_, rfl⟩
      have hWs : W.heap.size = wr.heap.size := by rw [← hW]; simp
      have FW : FrR B [.s] wr W := by
        rw [← hW]
        exact ((((Fr.refl _ _).setCell (a := ⟨B.s, 16, none⟩) (fun _ => ⟨.s, by simp, rfl⟩) _).setCell (a := ⟨B.s, 15, none⟩) (fun _ => ⟨.s, by simp, rfl⟩) _).setCell (a := ⟨B.s, 14, none⟩) (fun _ => ⟨.s, by simp, rfl⟩) _).setCell (a := ⟨B.s, 12, none⟩) (fun _ => ⟨.s, by simp, rfl⟩) _
      have hsW := heap_setCell_cells _ B.s 12 (.int .i64 (x.gen + 1)) (heap_setCell_cells _ B.s 14 (.map (some (wr.heap.size + 1))) (heap_setCell_cells _ B.s 15 (.map (some wr.heap.size)) (heap_setCell_cells _ B.s 16 (.map (some B.dy)) hs)))
      rw [hW] at hsW
      simp only [hW]
      have F2 : Fr (fun _ => False) W ((W.alloc (.map #[] 0)).alloc (.map #[] 0)) := ((Fr.refl _ _).alloc _).alloc _
      have hm1 : ((W.alloc (.map #[] 0)).alloc (.map #[] 0)).heap[wr.heap.size]? = some (.map #[] 0) := by
        rw [heap_alloc_lt _ _ _ (by simp; omega), ← hWs]; exact heap_alloc_new _ _
      have hm2 : ((W.alloc (.map #[] 0)).alloc (.map #[] 0)).heap[wr.heap.size + 1]? = some (.map #[] 0) := by
        have := heap_alloc_new (W.alloc (.map #[] 0)) (.map #[] 0)
        rw [World.size_alloc, hWs] at this
        exact this
      have FA : FrR B [.s] wr ((W.alloc (.map #[] 0)).alloc (.map #[] 0)) := Fr.alloc (Fr.alloc FW _) _
      have S := HSd.out.stays FA
      have hlw := HFr.out.size
      have hn := H.out.ne
      have hlt : ∀ r, B.at_ r < wr.heap.size := fun r => Nat.lt_of_lt_of_le (HLT.out r) hlw
      refine ⟨wr.heap.size, trivial, ⟨?_, S.dev (by decide) (by decide) (by decide), S.bits (by decide) (by decide), SetAt.made hm2, SetAt.made hm1, S.dy (by decide), S.mem (by decide) (by decide) (by decide), S.load, ?_, ?_, ?_, ?_⟩, ?_, hlw⟩
      · have := F2.heap hsW (fun h => h)
        simpa [commitX, Blk.next, midX] using this
      · simp only [Blk.maps, List.nodup_cons, List.mem_cons, not_or, List.not_mem_nil, not_false_eq_true, List.nodup_nil, and_true] at hn ⊢
        have e1 := hlt .bf
        have e2 := hlt .bq
        have e3 := hlt .dy
        have e4 := hlt .bm
        simp only [Blk.at_] at e1 e2 e3 e4
        obtain ⟨⟨a1, a2, a3, a4, a5⟩, ⟨b1, b2, b3, b4⟩, ⟨c1, c2, c3⟩, ⟨d1, d2⟩, e1'⟩ := hn
        refine ⟨⟨a1, ?_, ?_, a3, a5⟩, ⟨?_, ?_, b2, b4⟩, ⟨?_, ?_, ?_⟩, ⟨?_, ?_⟩, d2⟩ <;> simp only [Blk.next] <;> omega
      · have := H.out.ge
        have := H.out.dev.ge
        have := hlt .d
        simp only [Blk.at_, Blk.next] at *
        omega
      · have := H.out.rg
        simp only [commitX] at *
        omega
      · exact ⟨(fun k hk => by cases hk), (fun k hk => by cases hk), H.out.inr.2.1⟩
      · exact ((H.out.frB HF).trans (HSd.out.frB FA))
    · intro x' w1 cnt1 hlk hrg1 hlt1 hg1 hs1 hen
      have hdx := HLF.out _ hlk
      obtain ⟨hx0, hx1⟩ := H.out.inr.2.2 _ hdx
      obtain ⟨n, rfl⟩ := Int.eq_ofNat_of_zero_le hx0
      have F1 : Fr (fun b => b = w.heap.size) wr w1 := ⟨hg1.os, hg1.tape, hg1.output, hg1.size, fun b hb hn => hg1.block b hb (fun e => hn (by cases e; rfl))⟩
      have hS1 := HSr.out.frK F1 (fun r => Nat.ne_of_lt (HLT.out r)) (ranges_iter HRG.out)
      have g13 := hS1.sc.c13
      have ht : (midX x (fun k => x.dead k && !left (.int .i64 k))).taken n = true := by
        have := HD.out _ hdx
        simp [midX, hlk] at this ⊢
        exact this
      have HC := hid (clear_there hS1.bits n (by simpa [midX] using hx1) ht)
      have HS1 := hid hS1
      have HF1 := hid F1
      have HRG1 := hid hrg1
      have HLK := hid hlk
      have HDX := hid hdx
      clear hS1 F1 hrg1 hg1 hs1 hlk ht hdx
      go_wp2_with fail
      refine HC.out.mono ?_
      rintro e w2 ⟨rfl, hB2, F2⟩
      have FB2 : FrR B [.bw] w1 w2 := F2.mono (fun b _ h => ⟨.bw, by simp, h⟩)
      have S2 := HS1.out.stays FB2
      have s2 := S2.s (by decide)
      have g17 : w2.cell? ⟨B.s, 17, none⟩ = some (.pointer (some ⟨B.bc, 0, none⟩)) := by simpa using cell_of_heap s2 17
      have HDr := hid (dropmem_at (S2.mem (by decide) (by decide) (by decide)) n)
      have HB2 := hid hB2
      have HF2 := hid F2
      have HFB2 := hid FB2
      clear hB2 F2 FB2 S2 s2
      go_wp2_with fail
      refine HDr.out.mono ?_
      rintro e w3 ⟨rfl, hM3, F3⟩
      have HM3 := hid hM3
      have HF3 := hid F3
      clear hM3 F3
      go_wp2
      go_roundw
      case rel =>
        have nbw : ∀ r, B.at_ r ≠ w.heap.size := fun r => Nat.ne_of_lt (HLT.out r)
        have R2 := ranges_fr HRG1.out HF2.out (fun e => H.out.ner (r := .de) (r' := .bw) (by decide) e) (fun e => nbw .bw e.symm)
        have R3 := ranges_fr R2 HF3.out (fun e => by
          rcases e with e | e
          · exact H.out.ner (r := .de) (r' := .bp) (by decide) e
          · exact H.out.ner (r := .de) (r' := .bm) (by decide) e) (fun e => by
          rcases e with e | e
          · exact nbw .bp e.symm
          · exact nbw .bm e.symm)
        have F13 : FrR B [.bs, .bw, .bp, .bm] w1 w3 := (HFB2.out.mono (fun b _ ⟨r, hr, e⟩ => ⟨r, by simp at hr ⊢; simp [hr], e⟩)).trans HF3.out (fun b _ h => by
          rcases h with h | h
          · exact ⟨.bp, by simp, h⟩
          · exact ⟨.bm, by simp, h⟩)
        refine ⟨_, _, R3, fun k hk => HLF.out k (by simp at hk; exact hk.1), ?_, ?_⟩
        · have S3 := HS1.out.stays F13
          have eb : BitsAt w3 B.bs B.bw x.pages x.hand (upd (midX x (fun k => x.dead k && !left (.int .i64 k))).taken n false) := HB2.out.fr HF3.out (fun h => by
            rcases h with h | h
            · exact H.out.ner (r := .bs) (r' := .bp) (by decide) h
            · exact H.out.ner (r := .bs) (r' := .bm) (by decide) h) (fun h => by
            rcases h with h | h
            · exact H.out.ner (r := .bw) (r' := .bp) (by decide) h
            · exact H.out.ner (r := .bw) (r' := .bm) (by decide) h)
          have ef : ∀ k : Int, (x.dead k && !(left (.int .i64 k) && !(Lit.int .i64 k).sameKey (.int .i64 n))) = if k = n then true else (x.dead k && !left (.int .i64 k)) := fun k => by
            by_cases hk : k = n
            · subst hk; simp [Lit.sameKey, HDX.out]
            · simp [Lit.sameKey, hk]
          have e1 : upd (midX x (fun k => x.dead k && !left (.int .i64 k))).taken n false = (midX x (fun k => x.dead k && !(left (.int .i64 k) && !(Lit.int .i64 k).sameKey (.int .i64 n)))).taken := by
            funext i
            simp only [upd, midX, ef]
            by_cases hi : i = n
            · subst hi; simp
            · have : ¬ (i : Int) = n := by omega
              simp [hi, this]
          have e2 : updM (midX x (fun k => x.dead k && !left (.int .i64 k))).mem n none = (midX x (fun k => x.dead k && !(left (.int .i64 k) && !(Lit.int .i64 k).sameKey (.int .i64 n)))).mem := by
            funext k
            simp only [updM, midX, ef]
            by_cases hk : k = n
            · subst hk; simp
            · simp [hk]
          refine ⟨S3.s (by decide), S3.dev (by decide) (by decide) (by decide), by rw [← e1]; exact eb, S3.fr (by decide), S3.dy (by decide), S3.de (by decide), by rw [← e2]; exact HM3.out, fun k p hp => ?_, H.out.ne, H.out.ge, H.out.rg, H.out.inr⟩
          rw [← e2] at hp
          simp only [updM] at hp
          split at hp
          · cases hp
          · exact S3.load k p hp
        · exact (HFr.out.trans HF1.out (fun b hb h => by omega)).trans F13 (fun b _ h => h)
      case measure =>
        have nbw : ∀ r, B.at_ r ≠ w.heap.size := fun r => Nat.ne_of_lt (HLT.out r)
        have R2 := ranges_fr HRG1.out HF2.out (fun e => H.out.ner (r := .de) (r' := .bw) (by decide) e) (fun e => nbw .bw e.symm)
        have R3 := ranges_fr R2 HF3.out (fun e => by
          rcases e with e | e
          · exact H.out.ner (r := .de) (r' := .bp) (by decide) e
          · exact H.out.ner (r := .de) (r' := .bm) (by decide) e) (fun e => by
          rcases e with e | e
          · exact nbw .bp e.symm
          · exact nbw .bm e.symm)
        rw [R3.left_eq, HRG.out.left_eq]; omega
end SF
end Go.Proofs.YtgdhaaokolfdoaaGreatDoor
