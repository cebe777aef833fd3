/- A pack of texts: LP, OU, KD, SV, SR, RM. Conditions: those that each text names. -/
import Derived.Test.YtgdhaaokolfdoaaGreatDoorWAH
import Derived.Test.YtgdhaaokolfdoaaGreatDoorWAJ
import Derived.Test.YtgdhaaokolfdoaaGreatDoorWAG
set_option linter.unusedVariables false
set_option linter.unusedSimpArgs false
set_option linter.unnecessarySimpa false
/- leaf: Put. Conditions: the leaf is right for the device, which lies in the world as DevAt says and is not down. -/
namespace Go.Proofs.YtgdhaaokolfdoaaGreatDoor
open Go.RowKit Go.Sg
set_option maxHeartbeats 4000000 in
set_option maxRecDepth 100000 in
theorem put_ok {w : World} {base d bf bq : Nat} {D : Dev} (h : DevAt w base d bf bq D) (hbase : base ≤ w.heap.size) (hdown : D.down = false) (hacts : D.acts ≤ 1000000) (harm : D.armed ≤ 9223372036854775807) (hmany : D.loose.length ≤ 100000) (at_ : Nat) (hat : at_ < D.sectors)
    {la : Option Addr} {ll lc : Nat} {bs : List Int} (hb : ByV w la ll lc bs) (hby : ∀ x ∈ bs, 0 ≤ x ∧ x < 256) (kind place stamp : Nat) (hk : 1 ≤ kind ∧ kind ≤ 4) (hp : place ≤ 2147483647) (hs : stamp < 9223372036854775808) (hl : ll + 19 ≤ D.size) :
    Calls Tryz.prog 170 #[.pointer (some ⟨d, 0, none⟩), .int .i64 at_, .agg #[.int .i64 kind, .int .i64 place, .int .i64 stamp, .slice la ll lc]] w (WritePost base d bf bq D at_ (buildM D.size kind place stamp bs) w) := by
  obtain ⟨w1, hw1⟩ : ∃ w1, w.alloc (.cells #[.int .i64 kind, .int .i64 place, .int .i64 stamp, .slice la ll lc] 166) = w1 := ⟨_, rfl⟩
  have F1 : Fr (fun _ => False) w w1 := by rw [← hw1]; exact (Fr.refl _ _).alloc _
  have b1 : w1.heap[w.heap.size]? = some (.cells #[.int .i64 kind, .int .i64 place, .int .i64 stamp, .slice la ll lc] 166) := by rw [← hw1]; exact heap_alloc_new _ _
  obtain ⟨c0, c1, c2, c3⟩ : w1.cell? ⟨w.heap.size, 0, none⟩ = some (.int .i64 kind) ∧ w1.cell? ⟨w.heap.size, 1, none⟩ = some (.int .i64 place) ∧ w1.cell? ⟨w.heap.size, 2, none⟩ = some (.int .i64 stamp) ∧ w1.cell? ⟨w.heap.size, 3, none⟩ = some (.slice la ll lc) :=
    ⟨by simpa using cell_of_heap b1 0, by simpa using cell_of_heap b1 1, by simpa using cell_of_heap b1 2, by simpa using cell_of_heap b1 3⟩
  have lt1 := lt_of_heap b1
  have hz := h.rg.2
  have HSZ := hid (fun W (F : Fr (fun _ => False) w1 W) => size_at (w := W) (d := d) (n := D.size) (by obtain ⟨lv, hd, _⟩ := h.dc; have := cell_of_heap (F.heap (F1.heap hd (fun h => h)) (fun h => h)) 1; simpa using this))
  have HBU := hid (fun W (F : Fr (fun _ => False) w1 W) => (build_ok (hb.fr (F1.trans F (fun _ _ h => h)) (fun _ _ _ h => h)) hby D.size kind place stamp hz.1 hz.2 hk hp hs hl).mono (fun (e : Ending) W' ⟨a, c, he, hv, F'⟩ => (⟨a, c, he, hv, F.trans F' (fun _ _ h => h), F'⟩ : ∃ a c, e = Ending.returned (.tuple #[.slice a D.size c, .int .i64 0]) ∧ ByV W' a D.size c (buildM D.size kind place stamp bs) ∧ Fr (fun _ => False) w1 W' ∧ Fr (fun _ => False) W W')))
  have H := hid h
  have HF1 := hid F1
  have HW1 := hid hw1
  have HD := hid hdown
  clear h hb hby hw1 F1 b1 hdown
  go_enter Tryz.func170, Tryz.ntmps170
  go_wp2
  rw [HW1.out]
  go_region_held3 (fun W => W.cell? ⟨w.heap.size, 0, none⟩ = some (.int .i64 kind) ∧ W.cell? ⟨w.heap.size, 1, none⟩ = some (.int .i64 place) ∧ W.cell? ⟨w.heap.size, 2, none⟩ = some (.int .i64 stamp) ∧ W.cell? ⟨w.heap.size, 3, none⟩ = some (.slice la ll lc)) (go_keep)
    (first
      | (go_at_call 93; refine (HSZ.out _ (by first | exact Fr.refl _ _ | exact (Fr.refl _ _).drew)).mono ?_; rintro e w' ⟨rfl, rfl⟩)
      | (go_at_call 220; refine (HBU.out _ (by first | exact Fr.refl _ _ | exact (Fr.refl _ _).drew)).mono ?_; rintro e w2 ⟨ba, bc, rfl, hv, F2, F2'⟩; have c0 := (F2'.cell (p := ⟨w.heap.size, 0, none⟩) (by first | exact lt1 | (simp; omega)) (fun h => h)).trans c0; have c1 := (F2'.cell (p := ⟨w.heap.size, 1, none⟩) (by first | exact lt1 | (simp; omega)) (fun h => h)).trans c1; have c2 := (F2'.cell (p := ⟨w.heap.size, 2, none⟩) (by first | exact lt1 | (simp; omega)) (fun h => h)).trans c2; have c3 := (F2'.cell (p := ⟨w.heap.size, 3, none⟩) (by first | exact lt1 | (simp; omega)) (fun h => h)).trans c3; have H2 := hid (And.intro hv F2); clear hv F2 F2'))
  have F02 := HF1.out.trans H2.out.2 (fun _ _ h => h)
  have HWR := hid (devwrite_ok (H.out.fr F02 (fun h => h) (fun h => h) (fun h => h) (fun _ _ _ _ _ h => h)) (Nat.le_trans hbase F02.size) HD.out hacts harm hmany at_ hat H2.out.1)
  clear c0 c1 c2 c3 F02
  go_wp2_with fail
  refine HWR.out.mono ?_
  rintro e w3 ⟨rfl, hD3, F3⟩
  have H3 := hid (And.intro hD3 F3)
  clear hD3 F3
  generalize hif : (if D.act.down = true then (4 : Int) else 0) = er
  have HIF := hid hif
  clear hif
  go_wp2
  go_ret
  exact ⟨by rw [HIF.out]; rfl, H3.out.1, DevS.trans (w1 := w1) (HF1.out.mono (fun _ _ h => h.elim)) (DevS.trans (w1 := w2) (H2.out.2.mono (fun _ _ h => h.elim)) H3.out.2)⟩
end Go.Proofs.YtgdhaaokolfdoaaGreatDoor

/- The store: out, and keep where a dirty page goes. Conditions: the store lies in the world as StoreAt says, its device is not down. -/
namespace Go.Proofs.YtgdhaaokolfdoaaGreatDoor
open Go.RowKit Go.Sg Go.Sg.Bits Go.Sg.Clk CP
theorem StoreAt.not_devS {w : World} {B : Blk} {x : Sto} (h : StoreAt w B x) {r : Role} (h1 : r ≠ .d) (h2 : r ≠ .bq) : ¬ DevS w B.base B.d B.bq (B.at_ r) := by
  intro e
  rcases e with e | e | ⟨_, c, t, ht, hc⟩
  · exact h1 (h.inj (r' := .d) e)
  · exact h2 (h.inj (r' := .bq) e)
  · have hk := kd_cells hc
    rw [(h.heaps r).2.2.2] at hk
    rcases ht with rfl | rfl <;> cases r <;> simp [Role.kind] at hk
/-- A store behind a write to its device. -/
theorem StoreAt.dev_wrote {w w' : World} {B : Blk} {x : Sto} (h : StoreAt w B x) {D : Dev} (hD : DevAt w' B.base B.d B.bf B.bq D) (F : Fr (DevS w B.base B.d B.bq) w w') (h1 : D.sectors = x.dev.sectors) (h2 : D.size = x.dev.size) :
    StoreAt w' B { x with dev := D } ∧ FrB B w w' := by
  have nS := fun r (h1 : r ≠ Role.d) (h2 : r ≠ Role.bq) => h.not_devS h1 h2
  have n5 : ∀ g c, w.heap[g]? = some (.cells c 5) → ¬ DevS w B.base B.d B.bq g := fun g c hg e => by
    rcases e with e | e | ⟨_, c', t, ht, hc⟩
    · obtain ⟨lv, hd, _⟩ := h.dev.dc
      rw [e, hd] at hg; cases hg
    · obtain ⟨l, ck, hq, _⟩ := h.dev.past
      rw [e, hq] at hg; cases hg
    · rw [hg] at hc; cases hc; rcases ht with ht | ht <;> cases ht
  refine ⟨⟨F.heap h.s (nS .s (by decide) (by decide)), hD, h.bits.fr F (nS .bs (by decide) (by decide)) (nS .bw (by decide) (by decide)), h.fr.fr F (nS .fr (by decide) (by decide)), h.dy.fr F (nS .dy (by decide) (by decide)), h.de.fr F (nS .de (by decide) (by decide)),
    h.mem.fr F (nS .bc (by decide) (by decide)) (nS .bp (by decide) (by decide)) (nS .bm (by decide) (by decide)), fun k p hp => ?_, h.ne, h.ge, ?_, h.inr⟩, ?_⟩
  · obtain ⟨bs, hb, hl⟩ := h.load k p hp
    exact ⟨bs, hb.fr F n5, hl⟩
  · obtain ⟨a, b, c, d, e⟩ := h.rg
    exact ⟨a, b, c, by rw [show ({ x with dev := D } : Sto).dev.sectors = x.dev.sectors from h1]; exact d, by rw [show ({ x with dev := D } : Sto).dev.size = x.dev.size from h2]; exact e⟩
  · refine F.mono fun b hb e => ?_
    rcases e with e | e | ⟨e1, c, t, ht, hc⟩
    · rw [e]; exact ⟨(h.heaps .d).1, ⟨(h.heaps .d).2.1, .inr ⟨.d, rfl⟩⟩⟩
    · rw [e]; exact ⟨(h.heaps .bq).1, ⟨(h.heaps .bq).2.1, .inr ⟨.bq, rfl⟩⟩⟩
    · exact ⟨e1, Mut.cells hc (by rcases ht with rfl | rfl <;> decide), .inl ⟨c, t, _, hc⟩⟩
/-- What a write of a page does. -/
def OutPost (B : Blk) (x : Sto) (k : Int) (st : Int) (bs : List Int) (w : World) (e : Ending) (w' : World) : Prop :=
  ∃ D err, e = .returned (.int .i64 err) ∧ (D, err) = x.dev.write (x.first + k) (buildM x.dev.size 2 k.toNat st.toNat bs) ∧ StoreAt w' B { x with dev := D } ∧ FrB B w w'
namespace SF
set_option maxHeartbeats 4000000 in
set_option maxRecDepth 100000 in
theorem out_ok {w : World} {B : Blk} {x : Sto} (h : StoreAt w B x) (hdown : x.dev.down = false) (hacts : x.dev.acts ≤ 1000000) (harm : x.dev.armed ≤ 9223372036854775807) (hmany : x.dev.loose.length ≤ 100000) (n : Nat) (hn : n < x.pages) (st : Nat) (hst : st < 9223372036854775808)
    {la : Option Addr} {ll lc : Nat} {bs : List Int} (di : Bool) (hb : ByV w la ll lc bs) (hby : ∀ x ∈ bs, 0 ≤ x ∧ x < 256) (hl : ll ≤ x.room) :
    Calls Tryz.prog 110 #[B.ptr, .int .i64 n, .agg #[.int .i64 st, .slice la ll lc, .bool di]] w (OutPost B x n st bs w) := by
  obtain ⟨w1, hw1⟩ : ∃ w1, w.alloc (.cells #[.int .i64 st, .slice la ll lc, .bool di] 162) = w1 := ⟨_, rfl⟩
  have F1 : Fr (fun _ => False) w w1 := by rw [← hw1]; exact (Fr.refl _ _).alloc _
  have b1 : w1.heap[w.heap.size]? = some (.cells #[.int .i64 st, .slice la ll lc, .bool di] 162) := by rw [← hw1]; exact heap_alloc_new _ _
  obtain ⟨c0, c1, c2, cz, cl⟩ := cells3 b1
  have h1 := h.fr0 F1
  have q0 := h1.sc.c0
  have q9 := h1.sc.c9
  have ql := h1.sc.lt
  obtain ⟨at_, hat⟩ := Int.eq_ofNat_of_zero_le (show 0 ≤ x.first + n by have := h.rg.2.2.1; omega)
  have hats : at_ < x.dev.sectors := by have := h.rg.2.2.2.1; omega
  have hsec := h.dev.rg.1.2
  have hwr : IntKind.i64.wrap (x.first + (n : Int)) = (at_ : Int) := by rw [IntKind.wrap_i64]; omega
  have hBw : B.base ≤ w.heap.size := by have := (h.heaps .s); omega
  obtain ⟨er, her⟩ : ∃ er : Int, (if x.dev.act.down = true then (4 : Int) else 0) = er := ⟨_, rfl⟩
  have HP := hid (fun W (F : Fr (fun _ => False) w1 W) => (put_ok ((h1.fr0 F).dev) (Nat.le_trans hBw (F1.trans F (fun _ _ h => h)).size) hdown hacts harm hmany at_ hats (hb.fr (F1.trans F (fun _ _ h => h)) (fun _ _ _ h => h)) hby 2 n st (by omega) (by have := h.rg.2.2.2.1; have := h.rg.2.2.1; omega) hst (by have := h.rg.2.2.2.2; omega)).mono
    (fun (e : Ending) W' ⟨he, hD, hF⟩ => (⟨by rw [he, her], (h1.fr0 F).dev_wrote hD hF rfl rfl, F⟩ : e = Ending.returned (.int .i64 er) ∧ (StoreAt W' B { x with dev := { x.dev.act with loose := x.dev.loose ++ [((at_ : Int), buildM x.dev.size 2 n st bs)] } } ∧ FrB B W W') ∧ Fr (fun _ => False) w1 W)))
  have hwt : ({ x.dev.act with loose := x.dev.loose ++ [((at_ : Int), buildM x.dev.size 2 n st bs)] }, if x.dev.act.down = true then (4 : Int) else 0) = x.dev.write (x.first + n) (buildM x.dev.size 2 (n : Int).toNat (st : Int).toNat bs) := by
    rw [Dev.write, hdown, hat]
    have hbl := hb.len
    have h3 : (buildM x.dev.size 2 n st bs).length = x.dev.size := buildM_length (by have := h.rg.2.2.2.2; omega)
    simp only [Bool.false_eq_true, if_false, Int.toNat_natCast, Int.ofNat_eq_natCast]
    rw [if_neg (show ¬ ((at_ : Int) < 0 ∨ (x.dev.sectors : Int) ≤ (at_ : Int)) by omega), if_neg (show ¬ (buildM x.dev.size 2 n st bs).length ≠ x.dev.size by rw [h3]; simp)]
  rw [her] at hwt
  have HWT := hid hwt
  have HW1 := hid hw1
  have HF1 := hid F1
  have HB1 := hid b1
  clear hwt hw1 F1 b1 h h1 hb hby hdown hat her
  go_enter Tryz.func110, Tryz.ntmps110
  go_wp2
  rw [HW1.out]
  go_region_held3 (fun W => (W.cell? ⟨B.s, 0, none⟩ = some (.pointer (some ⟨B.d, 0, none⟩)) ∧ W.cell? ⟨B.s, 9, none⟩ = some (.int .i64 x.first)) ∧ (W.cell? ⟨w.heap.size, 0, none⟩ = some (.int .i64 st) ∧ W.cell? ⟨w.heap.size, 1, none⟩ = some (.slice la ll lc))) (go_keep)
    ((go_at_call 170; refine (HP.out _ (by first | exact Fr.refl _ _ | exact (Fr.refl _ _).drew)).mono ?_; rintro e w2 ⟨rfl, hS2, F2⟩; have H2 := hid (And.intro hS2 F2); have q0 := hS2.1.sc.c0; have q9 := hS2.1.sc.c9; obtain ⟨c0, c1, c2, cz, cl⟩ := cells3 (hS2.2.heap (F2.heap HB1.out (fun h => h)) (by decide)); clear hS2 F2))
  go_wp2
  go_ret
  exact ⟨_, er, rfl, HWT.out, H2.out.1.1, (FrB.none HF1.out).trans ((FrB.none H2.out.2).trans H2.out.1.2)⟩
end SF
end Go.Proofs.YtgdhaaokolfdoaaGreatDoor

/- The store: keep, whatever goes. Conditions: the store lies in the world as StoreAt says, its device is not down, what is in memory is a page of it. -/
namespace Go.Proofs.YtgdhaaokolfdoaaGreatDoor
open Go.RowKit Go.Sg Go.Sg.Bits Go.Sg.Clk CP
/-- What is in memory are pages of the store, their loads bytes. -/
def GoodMem (w : World) (x : Sto) : Prop := ∀ k q, x.mem k = some q → (0 ≤ k ∧ k < x.pages) ∧ (0 ≤ q.stamp ∧ q.stamp < 9223372036854775808) ∧ ∃ bs, ByV w q.la q.ll q.lc bs ∧ bs.length ≤ x.room ∧ ∀ b ∈ bs, 0 ≤ b ∧ b < 256
/-- The device can be written to. -/
structure DevUp (D : Dev) : Prop where
  down : D.down = false
  acts : D.acts ≤ 1000000
  armed : D.armed ≤ 9223372036854775807
  many : D.loose.length ≤ 100000
namespace SF
theorem keep_dev {w : World} {B : Blk} {x : Sto} (h : StoreAt w B x) (hg : GoodMem w x) (hu : DevUp x.dev) (n : Int) (p : Pg) (hp : ∃ bs, ByV w p.la p.ll p.lc bs ∧ bs.length ≤ x.room) :
    Calls Tryz.prog 82 #[B.ptr, .int .i64 n, p.val] w (KeepOut B x n p w) := by
  refine keep_any h n p ?_ ?_
  · intro W g hgo hd hm F
    refine ⟨0, g, x.dev, rfl, hgo, ?_, h.withMem F hm (load_putF h F hp), h.frB F⟩
    cases g with
    | none => exact ⟨rfl, rfl⟩
    | some g =>
      obtain ⟨k, q⟩ := g
      have hd' : q.dirty = false := hd
      show (if q.dirty = true then _ else _)
      rw [if_neg (by rw [hd']; decide)]
      exact ⟨rfl, rfl⟩
  · intro W g hgo hd hm F
    obtain ⟨k, q⟩ := g
    have hq : x.mem k = some q := hgo.2.1
    obtain ⟨⟨k0, k1⟩, ⟨s0, s1⟩, bs, hb, hbl, hby⟩ := hg k q hq
    obtain ⟨kn, rfl⟩ := Int.eq_ofNat_of_zero_le k0
    obtain ⟨st, la, ll, lc, di⟩ := q
    obtain ⟨sn, rfl⟩ := Int.eq_ofNat_of_zero_le s0
    have hS := h.withMem F hm (load_putF h F hp)
    have hll : bs.length = ll := hb.len
    have s1' : (sn : Int) < 9223372036854775808 := s1
    have k1' : (kn : Int) < x.pages := k1
    have hbl' : bs.length ≤ x.room := hbl
    refine (out_ok hS hu.down hu.acts hu.armed hu.many kn (by show kn < x.pages; omega) sn (by omega) di (h.byv F hb) hby (by show ll ≤ x.room; omega)).mono ?_
    rintro e W' ⟨D, err, rfl, hw, hS', hF'⟩
    refine ⟨err, rfl, err, some ((kn : Int), ⟨sn, la, ll, lc, di⟩), D, rfl, hgo, ?_, hS', (h.frB F).trans hF'⟩
    unfold OutR
    simp only
    rw [if_pos hd]
    exact ⟨bs, (h.byv F hb).frB hF', hw⟩
end SF
end Go.Proofs.YtgdhaaokolfdoaaGreatDoor

/- The store: Write where the page is of the last commit. Conditions: the store lies in the world as StoreAt says. -/
namespace Go.Proofs.YtgdhaaokolfdoaaGreatDoor
open Go.RowKit Go.Sg Go.Sg.Bits Go.Sg.Clk CP
namespace SF
/-- A store behind Write gave a page of the last commit another one. -/
def moved (x : Sto) (n m : Nat) (p : Pg) (g : Option (Int × Pg)) (D : Dev) (err : Int) : Sto :=
  if err = 0 then { tk x m with mem := putF x.mem m p g, dev := D, dying := updI x.dying n true } else { tk x m with mem := putF x.mem m p g, dev := D }
def WNew (B : Blk) (x : Sto) (n : Nat) (bs : List Int) (w : World) (e : Ending) (w' : World) : Prop :=
  ∃ m err g D p, TakeIs x.taken x.pages x.hand m ∧ e = .returned (.tuple #[refV err m x.gen, .int .i64 err]) ∧ GoneOk x.mem x.places m g ∧ OutR w' x g D err ∧
    StoreAt w' B (moved x n m p g D err) ∧ (p.stamp = x.gen ∧ p.dirty = true ∧ ByV w' p.la p.ll p.lc bs) ∧ FrB B w w'
set_option maxHeartbeats 2000000 in
theorem write_new {w : World} {B : Blk} {x : Sto} (h : StoreAt w B x) (n : Nat) (st : Int) {la : Option Addr} {ll lc : Nat} {bs : List Int} (hl : ll ≤ x.room) (hp : n < x.pages) (ht : x.taken n = true) (hf : x.fresh n = false)
    (hk : ∀ W, StoreAt W B x → Fr (fun _ => False) w W → Calls Tryz.prog 22 #[B.ptr, .slice la ll lc] W (NewPost B x bs W)) :
    Calls Tryz.prog 26 #[B.ptr, .agg #[.int .i64 n, .int .i64 st], .slice la ll lc] w (WNew B x n bs w) := by
  obtain ⟨w1, hw1⟩ : ∃ w1, (w.alloc (.cells #[.int .i64 n, .int .i64 st] 35)).alloc (.cells #[.int .i64 0, .int .i64 0] 35) = w1 := ⟨_, rfl⟩
  obtain ⟨b0, b1, F1⟩ := heap_two hw1
  obtain ⟨d0, d1, dz, dl⟩ := cells2 b0
  have c11 := h.sc.c11
  have l := h.sc.lt
  have HI := hid (in_ok (h.fr0 F1) n st (by omega) (by omega))
  have H1 := hid (h.fr0 F1)
  have HT := hid ht
  have HF := hid hf
  have HW := hid hw1
  have HB0 := hid b0
  have HB1 := hid b1
  have HF1 := hid F1
  have HK := hid hk
  clear hw1 b0 b1 F1 h ht hf hk
  go_enter Tryz.func26, Tryz.ntmps26
  go_wp2_with fail
  rw [HW.out]
  refine HI.out.mono ?_
  rintro e w2 ⟨rfl, F2⟩
  obtain ⟨e0, e1, ez, el⟩ := cells2 (F2.heap HB1.out (fun h => h))
  obtain ⟨f0, f1, fz, fl⟩ := cells2 (F2.heap HB0.out (fun h => h))
  have h2 := H1.out.fr0 F2
  have g13 := h2.sc.c13
  have g14 := h2.sc.c14
  have HH := hid (fun W (F : Fr (fun _ => False) w2 W) => (has_at (h2.bits.fr F (fun h => h) (fun h => h)) n hp))
  rw [HT.out] at HH
  obtain ⟨lf, cf, hfm, hfs⟩ := h2.fr.ex
  have hlk := fun (W : World) (hW : W.heap[B.fr]? = some (.map (ents lf) cf)) => run_lookup (P := Tryz.prog) (T := 153) false Tryz.underlying153 Tryz.underlying3 Tryz.zero4 hW n
  rw [hfs.at_, HF.out] at hlk
  simp only [Bool.false_eq_true, if_false, Option.getD_none] at hlk
  have HF2 := hid F2
  have H2 := hid h2
  clear F2 h2 hfs
  go_wp2
  go_quiet ((go_at_call 88; exact quiet_left (HH.out _ ((Fr.refl _ _).drewN _))))
  go_wp2
  go_quiet (fail)
  go_wp2_with fail
  have HBB := hid (And.intro (HF2.out.heap HB0.out (fun h => h)) (HF2.out.heap HB1.out (fun h => h)))
  have ls : B.s < w2.heap.size := H2.out.sc.lt
  have ms : ¬ w.heap.size + 1 = B.s := by omega
  have HK2 := hid (fun W (F : Fr (fun _ => False) w2 W) => (HK.out W (H2.out.fr0 F) ((HF1.out.trans HF2.out (fun _ _ h => h)).trans F (fun _ _ h => h))).mono
    (fun (e : Ending) W' hN => (⟨W, F, hN⟩ : ∃ W, Fr (fun _ => False) w2 W ∧ NewPost B x bs W e W')))
  clear hlk hfm HB0 HB1 d0 d1 dz c11 g13 g14 fz
  refine (HK2.out _ (by first | exact (Fr.refl _ _).drewN _ | exact ((Fr.refl _ _).drewN _).drew)).mono ?_
  rintro e w5 ⟨W, FW, m, err, g, D, p, hm, rfl, hg, ho, hS5, hpp, F5⟩
  obtain ⟨f0, f1, fz, fl⟩ := cells2 (F5.heap (FW.heap HBB.out.1 (fun h => h)) (by decide))
  have hb5 := F5.heap (FW.heap HBB.out.2 (fun h => h)) (by decide)
  have hb6 := F5.heap (FW.heap HBB.out.1 (fun h => h)) (by decide)
  have FF : FrB B w w5 := (FrB.none ((HF1.out.trans HF2.out (fun _ _ h => h)).trans FW (fun _ _ h => h))).trans F5
  have hmn : (tk x m).fresh n = false := by
    have : ¬ (n : Int) = (m : Int) := fun e => by
      have e' : n = m := by omega
      rw [e', hm.2.1] at HT
      cases HT.out
    simp [tk, updI, this, HF.out]
  have HMN := hid hmn
  have H5 := hid (And.intro hm (And.intro hg (And.intro ho (And.intro hS5 (And.intro hpp (And.intro FF (And.intro hb5 hb6)))))))
  have ms5 : ¬ w5.heap.size = w.heap.size := by omega
  have ms6 : ¬ w5.heap.size = w.heap.size + 1 := by have := lt_of_heap hb5; omega
  clear hm hg ho hS5 hpp F5 FW FF hb5 hb6 hmn
  by_cases he : err = 0
  · subst he
    simp only [refV, if_true]
    obtain ⟨w6, hw6⟩ : ∃ w6, w5.alloc (.cells #[.int .i64 m, .int .i64 x.gen] 35) = w6 := ⟨_, rfl⟩
    have F6 : Fr (fun _ => False) w5 w6 := by rw [← hw6]; exact (Fr.refl _ _).alloc _
    have b6 : w6.heap[w5.heap.size]? = some (.cells #[.int .i64 m, .int .i64 x.gen] 35) := by rw [← hw6]; exact heap_alloc_new _ _
    have HG := hid (gone_dying (H5.out.2.2.2.1.fr0 F6) (n := n) hp HMN.out)
    have H6 := hid (And.intro F6 b6)
    have HW6 := hid hw6
    clear hw6 F6 b6
    go_wp2_with fail
    rw [HW6.out]
    refine HG.out.mono ?_
    rintro e w7 ⟨rfl, hS7, F7⟩
    have F57 : FrB B w5 w7 := (FrB.none H6.out.1).trans ((H5.out.2.2.2.1.fr0 H6.out.1).frB F7)
    have F67 : FrB B w6 w7 := (H5.out.2.2.2.1.fr0 H6.out.1).frB F7
    obtain ⟨g0, g1, gz, gl⟩ := cells2 (F67.heap H6.out.2 (by decide))
    have hb7 := F57.heap H5.out.2.2.2.2.2.2.1 (by decide)
    obtain ⟨k0, k1, kz, kl⟩ := cells2 hb7
    have H7 := hid (And.intro hS7 (And.intro F57 hb7))
    clear hS7 F7 F57 F67 hb7
    go_wp2
    refine bodyPost_ret (v := .tuple #[.agg #[.int .i64 m, .int .i64 x.gen], .int .i64 0]) (by simp [results, go_sem, *]) rfl ?_
    obtain ⟨hS7, F57, hb7⟩ := H7.out
    obtain ⟨hm, hg, ho, hS5, hpp, FF, hb5, hb6⟩ := H5.out
    have FL : Fr (fun b => b = w.heap.size + 1) w7 ((w7.setCell ⟨w.heap.size + 1, 0, none⟩ (.int .i64 m)).setCell ⟨w.heap.size + 1, 1, none⟩ (.int .i64 x.gen)) := ((Fr.refl (fun b => b = w.heap.size + 1) _).setCell (a := ⟨w.heap.size + 1, 0, none⟩) (fun _ => rfl) _).setCell (a := ⟨w.heap.size + 1, 1, none⟩) (fun _ => rfl) _
    refine ⟨m, 0, g, D, p, hm, rfl, hg, OutR_frL (OutR_frB ho F57) FL hb7 (by decide), ?_, ⟨hpp.1, hpp.2.1, (hpp.2.2.frB F57).frL FL hb7 (by decide)⟩, ?_⟩
    · have e : moved x n m p g D 0 = goneX { tk x m with mem := putF x.mem m p g, dev := D } n := by
        have : ({ tk x m with mem := putF x.mem m p g, dev := D } : Sto).fresh n = false := HMN.out
        rw [goneX, this, moved, if_pos rfl]; rfl
      rw [e]
      exact hS7.frL FL hb7 (by decide)
    · exact ((FF.trans F57).setCell (a := ⟨w.heap.size + 1, 0, none⟩) (fun h => absurd h (by simp)) _).setCell (a := ⟨w.heap.size + 1, 1, none⟩) (fun h => absurd h (by simp)) _
  · have he2 : (err == 0) = false := by simpa using he
    simp only [refV, if_neg he]
    obtain ⟨k0, k1, kz, kl⟩ := cells2 H5.out.2.2.2.2.2.2.1
    go_wp2
    refine bodyPost_ret (v := .tuple #[.agg #[.int .i64 0, .int .i64 0], .int .i64 err]) (by simp [results, go_sem, *]) rfl ?_
    obtain ⟨hm, hg, ho, hS5, hpp, FF, hb5, hb6⟩ := H5.out
    have FL : Fr (fun b => b = w.heap.size + 1) w5 (((w5.setCell ⟨w.heap.size + 1, 0, none⟩ (.int .i64 0)).setCell ⟨w.heap.size + 1, 1, none⟩ (.int .i64 0)).alloc (.cells #[.int .i64 0, .int .i64 0] 35)) := (((Fr.refl (fun b => b = w.heap.size + 1) _).setCell (a := ⟨w.heap.size + 1, 0, none⟩) (fun _ => rfl) _).setCell (a := ⟨w.heap.size + 1, 1, none⟩) (fun _ => rfl) _).alloc _
    refine ⟨m, err, g, D, p, hm, by rw [refV, if_neg he], hg, OutR_frL ho FL hb5 (by decide), ?_, ⟨hpp.1, hpp.2.1, hpp.2.2.frL FL hb5 (by decide)⟩, ?_⟩
    · rw [moved, if_neg he]
      exact hS5.frL FL hb5 (by decide)
    · exact ((FF.setCell (a := ⟨w.heap.size + 1, 0, none⟩) (fun h => absurd h (by simp)) _).setCell (a := ⟨w.heap.size + 1, 1, none⟩) (fun h => absurd h (by simp)) _).alloc _
end SF
end Go.Proofs.YtgdhaaokolfdoaaGreatDoor

/- The store: Read. Conditions: the store lies in the world as StoreAt says. -/
namespace Go.Proofs.YtgdhaaokolfdoaaGreatDoor
open Go.RowKit Go.Sg Go.Sg.Bits Go.Sg.Clk CP
theorem StoreAt.fr_bp {w W : World} {B : Blk} {x : Sto} (h : StoreAt w B x) (F : FrR B [.bp] w W) (hm : MemAt W B.bc B.bp B.bm x.places x.mem) : StoreAt W B x := by
  have S := h.stays F
  exact ⟨S.s (by decide), S.dev (by decide) (by decide) (by decide), S.bits (by decide) (by decide), S.fr (by decide), S.dy (by decide), S.de (by decide), hm, S.load, h.ne, h.ge, h.rg, h.inr⟩
namespace SF
def ReadPost (B : Blk) (x : Sto) (q : Pg) (st : Int) (bs : List Int) (w : World) (e : Ending) (w' : World) : Prop :=
  (if q.stamp = st then ∃ a c, e = .returned (.tuple #[.slice a bs.length c, .int .i64 0]) ∧ ByV w' a bs.length c bs else e = .returned (.tuple #[.slice none 0 0, .int .i64 5])) ∧ StoreAt w' B x ∧ FrB B w w'
set_option maxHeartbeats 2000000 in
theorem read_hit {w : World} {B : Blk} {x : Sto} (h : StoreAt w B x) (p st : Int) (h0 : 0 ≤ p) (h1 : p < x.pages) {q : Pg} (hq : x.mem p = some q) {bs : List Int} (hb : ByV w q.la q.ll q.lc bs) :
    Calls Tryz.prog 24 #[B.ptr, .agg #[.int .i64 p, .int .i64 st]] w (ReadPost B x q st bs w) := by
  obtain ⟨qs, qa, ql, qc, qd⟩ := q
  obtain ⟨w1, hw1⟩ : ∃ w1, w.alloc (.cells #[.int .i64 p, .int .i64 st] 35) = w1 := ⟨_, rfl⟩
  have F1 : Fr (fun _ => False) w w1 := by rw [← hw1]; exact (Fr.refl _ _).alloc _
  have b1 : w1.heap[w.heap.size]? = some (.cells #[.int .i64 p, .int .i64 st] 35) := by rw [← hw1]; exact heap_alloc_new _ _
  obtain ⟨d0, d1, dz, dl⟩ := cells2 b1
  have HI := hid (in_ok (h.fr0 F1) p st h0 h1)
  have H1 := hid (h.fr0 F1)
  have hlen := hb.len
  have hlb : ql ≤ 493 := by
    obtain ⟨bs', hb', hl'⟩ := h.load p _ hq
    have := hb'.len
    have := h.rg.1
    simp only at *
    omega
  have HL := hid hlen
  have HB := hid (hb.frB (FrB.none (B := B) F1))
  have HQ := hid hq
  have HW := hid hw1
  have HB1 := hid b1
  have HF1 := hid F1
  clear hw1 F1 h hq hb hlen b1
  go_enter Tryz.func24, Tryz.ntmps24
  go_wp2_with fail
  rw [HW.out]
  refine HI.out.mono ?_
  rintro e w2 ⟨rfl, F2⟩
  obtain ⟨f0, f1, fz, fl⟩ := cells2 (F2.heap HB1.out (fun h => h))
  have h2 := H1.out.fr0 F2
  have g17 := h2.sc.c17
  have ls := h2.sc.lt
  have nl := h2.mem.lts
  have HG := hid (fun W (F : Fr (fun _ => False) w2 W) => (getmem_at (h2.mem.fr F (fun h => h) (fun h => h) (fun h => h)) p).mono
    (fun (e : Ending) W' ⟨he, hm, F'⟩ => (⟨by rw [he, HQ.out]; rfl, hm, Fr.trans (S := fun b => b = B.bp) (S' := fun b => b = B.bp) (F.mono (fun _ _ h => h.elim)) F' (fun _ _ h => h), F'⟩ :
      e = Ending.returned (.tuple #[.agg #[.int .i64 qs, .slice qa ql qc, .bool qd], .bool true]) ∧ MemAt W' B.bc B.bp B.bm x.places x.mem ∧ Fr (fun b => b = B.bp) w2 W' ∧ Fr (fun b => b = B.bp) W W')))
  have HB2 := hid (HB.out.frB (FrB.none (B := B) F2))
  have NX := hid (show ¬ w2.heap.size = B.bp by omega)
  have NS := hid (h2.ner (r := .s) (r' := .bp) (by decide))
  have NW := hid (show ¬ w.heap.size = B.bp by
    have := H1.out.heaps .bp
    have h3 := kd_cells HB1.out
    intro e
    rw [e] at h3
    have h4 := this.2.2.2
    simp only [Blk.at_] at h4
    rw [h4] at h3
    simp [Role.kind] at h3)
  have m1 : ¬ w2.heap.size = B.s := by omega
  have m2 : ¬ w2.heap.size = w.heap.size := by omega
  have H2 := hid h2
  have HF2 := hid F2
  clear h2 F2 nl
  go_wp2
  go_region_held3 (fun W => W.cell? ⟨B.s, 17, none⟩ = some (.pointer (some ⟨B.bc, 0, none⟩)) ∧ W.cell? ⟨w.heap.size, 0, none⟩ = some (.int .i64 p)) (go_keep)
    ((go_at_call 86; refine (HG.out _ (by first | exact ((Fr.refl _ _).alloc _) | exact (Fr.refl _ _) | exact ((Fr.refl _ _).drew) | exact ((Fr.refl _ _).alloc _).drew | exact ((Fr.refl _ _).drew.alloc _))).mono ?_; rintro e w7 ⟨rfl, hm, F7, F8⟩; have e0 := fun (i : Nat) (hh : w2.heap.size < _) => F8.cell (p := ⟨w2.heap.size, i, none⟩) hh NX.out; have ez := fun (i : Nat) (hh : w2.heap.size < _) => World.frozen?_of_block (a := ⟨w2.heap.size, i, none⟩) (F8.block w2.heap.size hh NX.out); have EB := hid (fun (hh : w2.heap.size < _) => F8.block w2.heap.size hh NX.out); have el := F8.size; have el7 := F7.size; have m3 : ¬ w7.heap.size = B.s := (by omega); have m4 : ¬ w7.heap.size = w.heap.size := (by omega); have g17 := (F7.cell (p := ⟨B.s, 17, none⟩) ls NS.out).trans g17; have f0 := (F7.cell (p := ⟨w.heap.size, 0, none⟩) fl NW.out).trans f0; have f1 := (F7.cell (p := ⟨w.heap.size, 1, none⟩) fl NW.out).trans f1; have HF7 := hid F7; have HM := hid hm; clear F7 hm F8))
  all_goals
    have lw7 : w.heap.size < w7.heap.size := by omega
    have FA : FrR B [.bp] w1 w7 := (HF2.out.mono (fun _ _ h => h.elim)).trans HF7.out (fun b _ h => ⟨.bp, by simp, h⟩)
    have hS7 : StoreAt w7 B x := H1.out.fr_bp FA HM.out
    have hbx := FrB.heap (B := B) (H1.out.frB FA) HB1.out (by decide)
    have hb7 := HB.out.frB (B := B) (H1.out.frB FA)
    have H7 := hid (And.intro hS7 (And.intro (show FrB B w w7 from (FrB.none HF1.out).trans (H1.out.frB FA)) hb7))
    clear FA hS7 hbx hb7 m3 m4 m1 m2
  · by_cases hst : qs = st
    · subst hst
      go_wp2_with fail
      have FN : Fr (fun _ => False) w7 (w7.alloc (.cells #[.int .i64 qs, .slice qa ql qc, .bool qd] 162)) := (Fr.refl _ _).alloc _
      refine (clone_v (H7.out.2.2.frB (B := B) (FrB.none FN)).slb (by omega)).mono ?_
      rintro e w9 ⟨a', c', rfl, hb9, F9⟩
      have H9 := hid (And.intro hb9 (FN.trans F9 (fun _ _ h => h)))
      clear hb9 F9 FN
      go_wp2
      go_ret2
      refine ⟨?_, H7.out.1.fr0 H9.out.2, H7.out.2.1.trans (FrB.none H9.out.2)⟩
      rw [if_pos rfl]
      exact ⟨a', c', by rw [HL.out]; rfl, by rw [HL.out]; exact H9.out.1⟩
    · have hne : (qs != st) = true := by simpa using hst
      go_wp2
      go_ret2
      have FN : Fr (fun _ => False) w7 (w7.alloc (.cells #[.int .i64 qs, .slice qa ql qc, .bool qd] 162)) := (Fr.refl _ _).alloc _
      refine ⟨?_, H7.out.1.fr0 FN, H7.out.2.1.trans (FrB.none FN)⟩
      rw [if_neg hst]; rfl
  · have hz7 : w7.heap[w2.heap.size]? = some (.cells #[.int .i64 0, .slice none 0 0, .bool false] 162) := (EB.out (by simp)).trans (heap_alloc_new _ _)
    have HZ7 := hid hz7
    clear hz7
    have FN : Fr (fun b => b = w2.heap.size) w7 (((w7.setCell ⟨w2.heap.size, 0, none⟩ (.int .i64 qs)).setCell ⟨w2.heap.size, 1, none⟩ (.slice qa ql qc)).setCell ⟨w2.heap.size, 2, none⟩ (.bool qd)) := Fr.set3 (S := fun b => b = w2.heap.size) (b := w2.heap.size) (Fr.refl _ _) rfl _ _ _
    have hS8 := H7.out.1.frL FN HZ7.out (by decide)
    have hb8 := H7.out.2.2.frL FN HZ7.out (by decide)
    have FF8 : FrB B w (((w7.setCell ⟨w2.heap.size, 0, none⟩ (.int .i64 qs)).setCell ⟨w2.heap.size, 1, none⟩ (.slice qa ql qc)).setCell ⟨w2.heap.size, 2, none⟩ (.bool qd)) := by
      have hlw : w.heap.size ≤ w2.heap.size := by omega
      exact ((H7.out.2.1.setCell (a := ⟨w2.heap.size, 0, none⟩) (fun h => absurd h (by simp; omega)) _).setCell (a := ⟨w2.heap.size, 1, none⟩) (fun h => absurd h (by simp; omega)) _).setCell (a := ⟨w2.heap.size, 2, none⟩) (fun h => absurd h (by simp; omega)) _
    have H8 := hid (And.intro hS8 (And.intro FF8 hb8))
    clear FN hS8 FF8 hb8
    by_cases hst : qs = st
    · subst hst
      go_wp2_with fail
      refine (clone_v H8.out.2.2.slb (by omega)).mono ?_
      rintro e w9 ⟨a', c', rfl, hb9, F9⟩
      have H9 := hid (And.intro hb9 F9)
      clear hb9 F9
      go_wp2
      go_ret2
      refine ⟨?_, H8.out.1.fr0 H9.out.2, H8.out.2.1.trans (FrB.none H9.out.2)⟩
      rw [if_pos rfl]
      exact ⟨a', c', by rw [HL.out]; rfl, by rw [HL.out]; exact H9.out.1⟩
    · have hne : (qs != st) = true := by simpa using hst
      go_wp2
      go_ret2
      refine ⟨?_, H8.out.1, H8.out.2.1⟩
      rw [if_neg hst]; rfl
end SF
end Go.Proofs.YtgdhaaokolfdoaaGreatDoor

/- The store where there is room in memory: New, Write. Conditions: the store lies in the world as StoreAt says, no page goes. -/
namespace Go.Proofs.YtgdhaaokolfdoaaGreatDoor
open Go.RowKit Go.Sg Go.Sg.Bits Go.Sg.Clk CP SF
theorem putF_none (m : Int → Option Pg) (k : Int) (x : Pg) : putF m k x none = updM m k (some x) := by
  funext j
  simp [putF, updM]
theorem outR_none {w : World} {x : Sto} {D : Dev} {err : Int} (h : OutR w x none D err) : D = x.dev ∧ err = 0 := h
/-- There is room for any page. -/
def Roomy (x : Sto) : Prop := ∃ L, Cover x.mem L ∧ L.length < x.places
def NewR (B : Blk) (x : Sto) (bs : List Int) (w : World) (e : Ending) (w' : World) : Prop :=
  ∃ (n : Nat) (p : Pg), TakeIs x.taken x.pages x.hand n ∧ e = .returned (.tuple #[.agg #[.int .i64 n, .int .i64 x.gen], .int .i64 0]) ∧
    StoreAt w' B { tk x n with mem := updM x.mem n (some p) } ∧ (p.stamp = x.gen ∧ p.dirty = true ∧ ByV w' p.la p.ll p.lc bs) ∧ FrB B w w'
def WFreshR (B : Blk) (x : Sto) (n : Nat) (bs : List Int) (w : World) (e : Ending) (w' : World) : Prop :=
  ∃ p : Pg, e = .returned (.tuple #[.agg #[.int .i64 n, .int .i64 x.gen], .int .i64 0]) ∧
    StoreAt w' B { x with mem := updM x.mem n (some p) } ∧ (p.stamp = x.gen ∧ p.dirty = true ∧ ByV w' p.la p.ll p.lc bs) ∧ FrB B w w'
def WNewR (B : Blk) (x : Sto) (n : Nat) (bs : List Int) (w : World) (e : Ending) (w' : World) : Prop :=
  ∃ (m : Nat) (p : Pg), TakeIs x.taken x.pages x.hand m ∧ e = .returned (.tuple #[.agg #[.int .i64 m, .int .i64 x.gen], .int .i64 0]) ∧
    StoreAt w' B { tk x m with mem := updM x.mem m (some p), dying := updI x.dying n true } ∧ (p.stamp = x.gen ∧ p.dirty = true ∧ ByV w' p.la p.ll p.lc bs) ∧ FrB B w w'
namespace SF
theorem newpost_room {B : Blk} {x : Sto} {bs : List Int} {w w' : World} {e : Ending} (hr : Roomy x) (h : NewPost B x bs w e w') : NewR B x bs w e w' := by
  obtain ⟨n, err, g, D, p, hn, he, hg, ho, hS, hp, hF⟩ := h
  obtain rfl := HasRoom.none (x := x) (n := n) (.inr hr) hg
  obtain ⟨rfl, rfl⟩ := outR_none ho
  refine ⟨n, p, hn, he, ?_, hp, hF⟩
  rw [putF_none] at hS
  exact hS
theorem new_room {w : World} {B : Blk} {x : Sto} (h : StoreAt w B x) (hT : Tab w) (hB0 : 0 < B.base) {la : Option Addr} {ll lc : Nat} {bs : List Int} (hin : Inp w B la ll lc bs) (hl : ll ≤ x.room) {j : Nat} (hj : j < x.pages) (hfree : x.taken j = false) (hr : Roomy x) :
    Calls Tryz.prog 22 #[B.ptr, .slice la ll lc] w (NewR B x bs w) :=
  (new_ok h hT hB0 hin hl hj hfree fun W p n hn hS hF hp => keep_room hS n p hp (.inr hr)).mono fun _ _ hP => newpost_room hr hP
theorem wfresh_room {w : World} {B : Blk} {x : Sto} (h : StoreAt w B x) (n : Nat) (st : Int) {la : Option Addr} {ll lc : Nat} {bs : List Int} (hin : Inp w B la ll lc bs) (hl : ll ≤ x.room) (hp : n < x.pages) (ht : x.taken n = true) (hf : x.fresh n = true) (hr : HasRoom x n) :
    Calls Tryz.prog 26 #[B.ptr, .agg #[.int .i64 n, .int .i64 st], .slice la ll lc] w (WFreshR B x n bs w) := by
  refine (write_fresh h n st hin hl hp ht hf fun W p hS hF hp => keep_room hS n p hp hr).mono ?_
  rintro e w' ⟨err, g, D, p, he, hg, ho, hS, hp, hF⟩
  obtain rfl := hr.none hg
  obtain ⟨rfl, rfl⟩ := outR_none ho
  rw [putF_none] at hS
  exact ⟨p, he, hS, hp, hF⟩
theorem Inp.fr0 {w w' : World} {B : Blk} {la : Option Addr} {ll lc : Nat} {bs : List Int} (h : Inp w B la ll lc bs) (F : Fr (fun _ => False) w w') (hB : B.base ≤ w.heap.size) : Inp w' B la ll lc bs := by
  refine ⟨⟨h.1.by_.fr F (fun _ _ _ _ h => h), h.1.at_⟩, fun b off e => ?_⟩
  rcases h.2 b off e with h0 | h1 | h1
  · exact .inl h0
  · exact .inr (.inl h1)
  · refine .inr (.inr ?_)
    cases hb : w.heap[b]? with
    | none => rw [kd, hb] at h1; cases h1
    | some o => rw [kd, F.heap hb (fun h => h)]; rw [kd, hb] at h1; exact h1
theorem wnew_room {w : World} {B : Blk} {x : Sto} (h : StoreAt w B x) (hT : Tab w) (hB0 : 0 < B.base) (n : Nat) (st : Int) {la : Option Addr} {ll lc : Nat} {bs : List Int} (hin : Inp w B la ll lc bs) (hl : ll ≤ x.room) (hp : n < x.pages) (ht : x.taken n = true) (hf : x.fresh n = false) {j : Nat} (hj : j < x.pages) (hfree : x.taken j = false) (hr : Roomy x) :
    Calls Tryz.prog 26 #[B.ptr, .agg #[.int .i64 n, .int .i64 st], .slice la ll lc] w (WNewR B x n bs w) := by
  have hBw : B.base ≤ w.heap.size := by have := (h.heaps .s); omega
  refine (write_new h n st (bs := bs) hl hp ht hf fun W hS F => new_ok hS (hT.fr F (fun h => h)) hB0 (Inp.fr0 hin F hBw) hl hj hfree fun W p n hn hS hF hp => keep_room hS n p hp (.inr hr)).mono ?_
  rintro e w' ⟨m, err, g, D, p, hm, he, hg, ho, hS, hp, hF⟩
  obtain rfl := HasRoom.none (x := x) (n := m) (.inr hr) hg
  obtain ⟨rfl, rfl⟩ := outR_none ho
  rw [moved, if_pos rfl, putF_none] at hS
  exact ⟨m, p, hm, he, hS, hp, hF⟩
end SF
end Go.Proofs.YtgdhaaokolfdoaaGreatDoor
