/- A pack of texts: Md, WR, DB, Lib2, DR, WW. Conditions: those that each text names. -/
import Derived.Test.YtgdhaaokolfdoaaGreatDoorWAC
import Derived.Laws.BitsAllLaws
import Derived.RangeFuncBox
import Derived.Outline
import Derived.Test.YtgdhaaokolfdoaaGreatDoorWAA
import Derived.Carry
import Derived.ProofKit
import Derived.OpenShut
import Derived.Deep.Slices
import Derived.Deep.Fields
import Derived.ChangeSame
import Derived.Laws.AppendOwnNone
set_option linter.unusedVariables false
set_option linter.unusedSimpArgs false
set_option linter.unnecessarySimpa false
/- The plain model of a sector's bytes and of a device's write. Conditions: none. -/
namespace Go.Sg
open Go.RowKit
/-- A number's bytes, the lowest first. -/
def leB (n : Nat) : Nat → List Int
  | 0 => []
  | k + 1 => ((n % 256 : Nat) : Int) :: leB (n / 256) k
theorem leB_length (k : Nat) : ∀ n, (leB n k).length = k := by
  induction k with
  | zero => intro n; rfl
  | succ k ih => intro n; simp [leB, ih]
/-- The number of bytes. -/
def leV : List Int → Nat
  | [] => 0
  | x :: l => x.toNat + 256 * leV l
theorem leV_leB (k : Nat) : ∀ n, n < 256 ^ k → leV (leB n k) = n := by
  induction k with
  | zero => intro n h; simp at h; subst h; rfl
  | succ k ih =>
    intro n h
    have h2 : n / 256 < 256 ^ k := by rw [Nat.pow_succ] at h; omega
    simp only [leB, leV, ih _ h2, Int.toNat_natCast]
    omega
def crcStep (n : Nat) : Nat := (n / 2) ^^^ (if n % 2 = 1 then 2197175160 else 0)
def crcTab (i : Nat) : Nat := crcStep (crcStep (crcStep (crcStep (crcStep (crcStep (crcStep (crcStep i)))))))
def crcNext (n : Nat) (x : Int) : Nat := (n / 256) ^^^ crcTab ((n % 256) ^^^ x.toNat)
def crcM (bs : List Int) : Nat := bs.foldl crcNext 4294967295 ^^^ 4294967295
/-- A leaf's sector but for its check. -/
def bodyM (size kind place stamp : Nat) (load : List Int) : List Int :=
  leB kind 1 ++ leB load.length 2 ++ leB place 4 ++ leB stamp 8 ++ load ++ List.replicate (size - 19 - load.length) 0
/-- A leaf's sector. -/
def buildM (size kind place stamp : Nat) (load : List Int) : List Int := bodyM size kind place stamp load ++ leB (crcM (bodyM size kind place stamp load)) 4
theorem bodyM_length {size kind place stamp : Nat} {load : List Int} (h : load.length + 19 ≤ size) : (bodyM size kind place stamp load).length = size - 4 := by
  simp [bodyM, leB_length]; omega
theorem buildM_length {size kind place stamp : Nat} {load : List Int} (h : load.length + 19 ≤ size) : (buildM size kind place stamp load).length = size := by
  rw [buildM, List.length_append, bodyM_length h, leB_length]; omega
/-- A write or a sync is counted. -/
def Dev.act (D : Dev) : Dev := { D with acts := D.acts + 1, armed := D.armed - 1, down := if D.armed = 0 then D.down else decide (D.armed = 1) }
/-- A write. -/
def Dev.write (D : Dev) (at_ : Int) (bs : List Int) : Dev × Int :=
  if D.down then (D, 4) else if at_ < 0 ∨ (D.sectors : Int) ≤ at_ then (D, 2) else if bs.length ≠ D.size then (D, 3)
  else ({ D.act with loose := D.loose ++ [(at_, bs)] }, if D.act.down then 4 else 0)
end Go.Sg
namespace Go.Proofs.YtgdhaaokolfdoaaGreatDoor
open Go.RowKit Go.Sg Go.Sg.Bits Go.Sg.Clk CP
/-- What a page that goes does to the device. -/
def OutR (w : World) (x : Sto) (g : Option (Int × Pg)) (D : Dev) (err : Int) : Prop :=
  match g with
  | none => D = x.dev ∧ err = 0
  | some (k, q) => if q.dirty = true then ∃ bs, ByV w q.la q.ll q.lc bs ∧ (D, err) = x.dev.write (x.first + k) (buildM x.dev.size 2 k.toNat q.stamp.toNat bs) else D = x.dev ∧ err = 0
/-- What keep does. -/
def KeepOut (B : Blk) (x : Sto) (n : Int) (p : Pg) (w : World) (e : Ending) (w' : World) : Prop :=
  ∃ err g D, e = .returned (.int .i64 err) ∧ GoneOk x.mem x.places n g ∧ OutR w' x g D err ∧ StoreAt w' B { x with mem := putF x.mem n p g, dev := D } ∧ FrB B w w'
end Go.Proofs.YtgdhaaokolfdoaaGreatDoor

/- wire: the reader. Conditions: the reader lies in the world as RdAt says, its bytes are bytes. -/
namespace Go.Sg
open Go.RowKit
/-- A reader lies at r with these bytes left. -/
structure RdAt (w : World) (r : Nat) (bs : List Int) (bad : Bool) : Prop where
  ex : ∃ a c, w.heap[r]? = some (.cells #[.slice a bs.length c, .bool bad] 377) ∧ ByV w a bs.length c bs ∧ bs.length ≤ c
  small : bs.length ≤ 65536
theorem addr_add (b off j : Nat) : (⟨b, off, none⟩ : Addr).add j = ⟨b, off + j, none⟩ := by unfold Addr.add; split <;> simp_all
theorem ByV.take {w : World} {a : Option Addr} {n c : Nat} {bs : List Int} (h : ByV w a n c bs) {m : Nat} (hm : m ≤ n) : ByV w a m c (bs.take m) := by
  refine ⟨⟨by rw [List.length_take, h.by_.len]; omega, fun i x hx => ?_⟩, ?_⟩
  · rw [List.getElem?_take] at hx
    split at hx
    · exact h.by_.at_ i x hx
    · cases hx
  · rcases h.at_ with ⟨h0, h1, h2⟩ | h0
    · exact .inl ⟨h0, by omega, h2⟩
    · exact .inr h0
theorem ByV.drop {w : World} {a : Option Addr} {n c : Nat} {bs : List Int} (h : ByV w a n c bs) {m : Nat} (hm : m ≤ n) (hc : n ≤ c) : ByV w (if c = m then a else a.map (·.add m)) (n - m) (c - m) (bs.drop m) := by
  rcases h.at_ with ⟨rfl, h1, h2⟩ | ⟨b, off, cs, rfl, h2⟩
  · have h3 : m = 0 := by omega
    subst h3
    subst h1 h2
    have : bs = [] := List.eq_nil_of_length_eq_zero h.by_.len
    subst this
    exact ByV.nil w
  · by_cases he : c = m
    · rw [if_pos he]
      have hn : n - m = 0 := by omega
      have hd : bs.drop m = [] := List.drop_eq_nil_of_le (by rw [h.by_.len]; omega)
      rw [hn, hd]
      exact ⟨⟨rfl, fun i x hx => by simp at hx⟩, .inr ⟨b, off, cs, rfl, h2⟩⟩
    · rw [if_neg he]
      refine ⟨⟨by rw [List.length_drop, h.by_.len], fun i x hx => ?_⟩, .inr ⟨b, off + m, cs, by simp [addr_add], h2⟩⟩
      rw [List.getElem?_drop] at hx
      obtain ⟨b', off', e, hb, hcell⟩ := h.by_.at_ _ x hx
      cases e
      exact ⟨b, off + m, by simp [addr_add], hb, by rw [Nat.add_assoc]; exact hcell⟩
theorem leV_take_lt {bs : List Int} (hb : ∀ x ∈ bs, 0 ≤ x ∧ x < 256) : ∀ k, leV (bs.take k) < 256 ^ k := by
  intro k
  induction bs generalizing k with
  | nil => simp [leV]; exact Nat.pow_pos (by decide)
  | cons x l ih =>
    cases k with
    | zero => simp [leV]
    | succ k =>
      have h1 := ih (fun y hy => hb y (by simp [hy])) k
      have h2 := hb x (by simp)
      simp only [List.take_succ_cons, leV]
      rw [Nat.pow_succ]
      omega
theorem leV_snoc (l : List Int) (x : Int) : leV (l ++ [x]) = leV l + x.toNat * 256 ^ l.length := by
  induction l with
  | nil => simp [leV]
  | cons y l ih =>
    simp only [List.cons_append, leV, ih, List.length_cons, Nat.pow_succ]
    rw [Nat.mul_add, Nat.add_assoc, Nat.mul_comm 256 (x.toNat * _), Nat.mul_assoc]
theorem leV_next {bs : List Int} (hb : ∀ x ∈ bs, 0 ≤ x ∧ x < 256) {k : Nat} {x : Int} (hx : bs[k]? = some x) : leV (bs.take (k + 1)) = leV (bs.take k) ||| x.toNat * 2 ^ (8 * k) := by
  have hk := (List.getElem?_eq_some_iff.1 hx).1
  have e : bs.take (k + 1) = bs.take k ++ [x] := by rw [List.take_add_one, hx]; rfl
  have hl := leV_take_lt hb k
  have e2 : (256 : Nat) ^ k = 2 ^ (8 * k) := by rw [Nat.pow_mul]
  rw [e, leV_snoc, List.length_take, Nat.min_eq_left (Nat.le_of_lt hk), e2]
  rw [e2] at hl
  rw [Nat.add_comm, Nat.or_comm, ← Nat.shiftLeft_eq, Nat.shiftLeft_add_eq_or_of_lt hl]
theorem byts_of_own' {w : World} {base e n : Nat} {v : Value} {bs : List Int} (h : w.ownsRow base e 1 v n (bs.map (Value.int .u8))) (hne : v ≠ .slice none 0 0) :
    ∃ g cap c, v = .slice (some ⟨g, 0, none⟩) n cap ∧ w.heap[g]? = some (.cells c e) ∧ Byts w (some ⟨g, 0, none⟩) n bs ∧ n ≤ cap := by
  obtain ⟨g, cap, c, rfl, hg, hB⟩ := byts_of_own h hne
  refine ⟨g, cap, c, rfl, hg, hB, ?_⟩
  obtain ⟨_, ⟨h1, _⟩ | ⟨g', cap', cur, h1, _, _, h2, _⟩⟩ := h
  · cases h1
  · cases h1; exact h2
end Go.Sg
namespace Go.Proofs.YtgdhaaokolfdoaaGreatDoor
open Go.RowKit Go.Sg
theorem slice_to (a : Option Addr) (n c m : Nat) (h : m ≤ c) (W : World) : (Instr.slice 22 (.slice a n c) none (some (.int .i64 m)) none).run Tryz.prog W = .ok (.slice a m c) W := by
  rw [run_slice_h W 22 a n c (by kernel_rfl) .i64 m (by omega) (by omega)]
  have hs : (sizeOf (Tryz.prog.elem 22)).run Tryz.prog W = .ok 1 W := by kernel_rfl
  rw [hs]
  simp only [Result.andThen_ok, sliced, Int.toNat_natCast, Nat.zero_mul, Nat.sub_zero]
  cases a with
  | none => simp
  | some a => simp [Addr.add]
theorem slice_from (a : Option Addr) (n c m : Nat) (h : m ≤ n) (W : World) : (Instr.slice 22 (.slice a n c) (some (.int .i64 m)) none none).run Tryz.prog W = .ok (.slice (if c = m then a else a.map (·.add m)) (n - m) (c - m)) W := by
  rw [run_slice_l W 22 a n c (by kernel_rfl) .i64 m (by omega) (by omega)]
  have hs : (sizeOf (Tryz.prog.elem 22)).run Tryz.prog W = .ok 1 W := by kernel_rfl
  rw [hs]
  simp only [Result.andThen_ok, sliced, Int.toNat_natCast, Nat.mul_one]
set_option maxHeartbeats 1000000 in
set_option maxRecDepth 100000 in
theorem clone_c {w : World} {ad : Addr} {n cap : Nat} {bs : List Int} (h : Byts w (some ad) n bs) (hn : n ≤ 65536) :
    Calls Tryz.prog 83 #[.slice (some ad) n cap] w fun e w' => ∃ g cap' c, e = .returned (.slice (some ⟨g, 0, none⟩) n cap') ∧ w'.heap[g]? = some (.cells c 5) ∧ (Byts w' (some ⟨g, 0, none⟩) n bs ∧ n ≤ cap') ∧ w.heap.size ≤ g ∧ Fr (fun _ => False) w w' := by
  obtain ⟨i0, hi0, hz0, hz1, hz2⟩ := info_parts Tryz.info5
  have H := hid h
  have hlen := h.len
  have hcell : ∀ (o : Obj) (j : Nat) (u : Value), (bs.map (Value.int .u8))[j]? = some u → (w.alloc o).cell? (ad.add j) = some u := fun o j u hu => by
    rw [List.getElem?_map] at hu
    cases hx : bs[j]? with
    | none => rw [hx] at hu; cases hu
    | some x =>
      rw [hx] at hu
      cases hu
      obtain ⟨b', off', e, hb, hc⟩ := h.at_ j x hx
      cases e
      rw [addr_add]
      exact (((Fr.refl (fun _ => False) w).alloc o).cell (p := ⟨b', off' + j, none⟩) hb (fun h => h)).trans hc
  have HC := hid hcell
  clear h hcell
  have q22 : ∀ (w : World) (a : Option Addr) (n c n' c' : Nat), (binOp .eql 22 (.slice a n c) (.slice none n' c')).run Tryz.prog w = .ok (.bool a.isNone) w := fun w a n c n' c' => Lib.run_eql_slice_nil w _ _ a n c n' c' Tryz.underlying22
  go_enter Tryz.func83, Tryz.ntmps83
  go_wp2_with (at_builtin; refine wpList_append_own_at _ rfl (.tmp 5) (.tmp 6) 22 rfl 0 5 i0 _ 1 1 Tryz.underlying22 hi0 hz0 hz1 hz2 rfl (by decide) _ _ _ rfl (own_lit0 _ _ _ _ (by simp [go_sem])) ad n cap (bs.map (Value.int .u8)) rfl (by simpa using hlen) ?c1 ?c2 ?c3 ?c4 (Nat.zero_le _) ?_)
  case c1 => exact HC.out _
  case c2 => intro u hu; obtain ⟨x, _, rfl⟩ := List.mem_map.1 hu; rfl
  case c3 => simp [maxLen]; omega
  case c4 => omega
  intro v1 w1 hown hgrow hnil hat
  try simp only [List.nil_append, Nat.zero_add] at hown
  have F1 : Fr (fun _ => False) w w1 := ((Fr.refl (fun _ => False) w).alloc _).trans (S' := fun b => b = w.heap.size) (Fr.of_grownBy hgrow) (fun b hb h => by omega)
  obtain ⟨g, cap', c, rfl, hg, hB, hcp⟩ := byts_of_own' hown hnil
  have hgl : w.heap.size ≤ g := by
    rcases hat with h | h <;> simp [Value.ownBlock] at h <;> omega
  have HG := hid (And.intro hg (And.intro (And.intro hB hcp) (And.intro hgl F1)))
  clear hown hgrow hat hg hB F1 hgl hcp
  go_wp2
  go_ret
  exact ⟨g, cap', c, rfl, HG.out.1, HG.out.2.1, HG.out.2.2.1, HG.out.2.2.2⟩
/-- bytes.Clone, with the capacity told. -/
theorem clone_vc {w : World} {a : Option Addr} {n c : Nat} {bs : List Int} (h : SlB w a n c bs) (hn : n ≤ 65536) :
    Calls Tryz.prog 83 #[.slice a n c] w fun e w' => ∃ a' c', e = .returned (.slice a' n c') ∧ (ByV w' a' n c' bs ∧ n ≤ c') ∧ Fr (fun _ => False) w w' := by
  rcases h.at_ with ⟨rfl, rfl, rfl⟩ | ⟨ad, rfl⟩
  · refine (clone_nil w).mono fun e w' ⟨he, hw⟩ => ⟨none, 0, he, ⟨?_, Nat.le_refl _⟩, by rw [hw]; exact Fr.refl _ _⟩
    have : bs = [] := List.eq_nil_of_length_eq_zero h.by_.len
    rw [this]; exact ByV.nil w'
  · exact (clone_c h.by_ hn).mono fun e w' ⟨g, c', cs, he, hg, hB, _, hF⟩ => ⟨_, _, he, ⟨⟨hB.1, .inr ⟨g, 0, cs, rfl, hg⟩⟩, hB.2⟩, hF⟩
set_option maxRecDepth 100000 in
theorem newreader_ok {w : World} {a : Option Addr} {n c : Nat} {bs : List Int} (h : SlB w a n c bs) (hn : n ≤ 65536) :
    Calls Tryz.prog 215 #[.slice a n c] w fun e w' => ∃ r, e = .returned (.pointer (some ⟨r, 0, none⟩)) ∧ RdAt w' r bs false ∧ w.heap.size ≤ r ∧ Fr (fun _ => False) w w' := by
  have HC := hid (clone_vc h hn)
  have hl := h.by_.len
  have HL := hid hl
  clear h hl
  go_enter Tryz.func215, Tryz.ntmps215
  go_wp2_with fail
  refine HC.out.mono ?_
  rintro e w1 ⟨a', c', rfl, hb, F1⟩
  have HB := hid (And.intro hb F1)
  clear hb F1
  go_wp2
  go_ret
  have FN : Fr (fun _ => False) w1 (w1.alloc (.cells #[.slice a' n c', .bool false] 377)) := (Fr.refl _ _).alloc _
  refine ⟨w1.heap.size, rfl, ⟨⟨a', c', by rw [HL.out]; exact heap_alloc_new _ _, ?_, by rw [HL.out]; exact HB.out.1.2⟩, by rw [HL.out]; exact hn⟩, HB.out.2.size, HB.out.2.trans FN (fun _ _ h => h)⟩
  rw [HL.out]
  exact HB.out.1.1.fr FN (fun _ _ _ h => h)
set_option maxHeartbeats 1000000 in
set_option maxRecDepth 100000 in
theorem raw_ok {w : World} {r : Nat} {bs : List Int} {bad : Bool} (h : RdAt w r bs bad) (m : Nat) (hm : m ≤ bs.length) :
    Calls Tryz.prog 217 #[.pointer (some ⟨r, 0, none⟩), .int .i64 m] w fun e w' => ∃ a' c', e = .returned (.slice a' m c') ∧ ByV w' a' m c' (bs.take m) ∧ RdAt w' r (bs.drop m) bad ∧ Fr (fun b => b = r) w w' := by
  obtain ⟨⟨a, c, hr, hb, hcap⟩, hsm⟩ := h
  obtain ⟨c0, c1, hz, hl⟩ := cells2 hr
  have st := slice_to a bs.length c m (by omega)
  have sf := slice_from a bs.length c m hm
  have hdr := hb.drop hm hcap
  generalize ha2 : (if c = m then a else a.map (·.add m)) = a2 at sf hdr
  have HD := hid hdr
  have HB := hid hb
  have HR := hid hr
  have HC := hid (clone_v (w := w) (hb.take hm).slb (by omega))
  clear ha2 hdr hb hr
  go_enter Tryz.func217, Tryz.ntmps217
  go_wp2_with fail
  refine HC.out.mono ?_
  rintro e w1 ⟨a', c', rfl, hb1, F1⟩
  have hr1 := F1.heap HR.out (fun h => h)
  obtain ⟨d0, d1, dz, dl⟩ := cells2 hr1
  have H1 := hid (And.intro hb1 (And.intro F1 hr1))
  clear hb1 F1 hr1 c0 c1 hz hl
  go_wp2
  go_ret
  obtain ⟨hb1, F1, hr1⟩ := H1.out
  have FS : Fr (fun b => b = r) w1 (w1.setCell ⟨r, 0, none⟩ (.slice a2 (bs.length - m) (c - m))) := (Fr.refl (fun b => b = r) _).setCell (a := ⟨r, 0, none⟩) (fun _ => rfl) _
  have ne : ∀ b cs, w1.heap[b]? = some (.cells cs 5) → ¬ b = r := fun b cs h e => by rw [e, hr1] at h; cases h
  refine ⟨a', c', rfl, hb1.fr FS ne, ⟨⟨a2, c - m, ?_, ?_, ?_⟩, ?_⟩, (F1.mono (fun _ _ h => h.elim)).trans FS (fun _ _ h => h)⟩
  · rw [heap_setCell_cells _ _ _ _ hr1, List.length_drop]; rfl
  · rw [List.length_drop]; exact (HD.out.fr F1 (fun _ _ _ h => h)).fr FS ne
  · rw [List.length_drop]; omega
  · rw [List.length_drop]; omega
theorem maynum (k : Nat) (hk : k = 1 ∨ k = 2 ∨ k = 4 ∨ k = 8) (w : World) : Calls Tryz.prog 236 #[.int .i64 k] w fun e w' => e = .returned (.bool true) ∧ w = w' := by
  rcases hk with rfl | rfl | rfl | rfl
  all_goals
    go_enter Tryz.func236, Tryz.ntmps236
    go_wp2
    go_ret
    exact ⟨rfl, rfl⟩
set_option maxHeartbeats 1000000 in
set_option maxRecDepth 100000 in
theorem num_ok {w : World} {r : Nat} {bs : List Int} {bad : Bool} (h : RdAt w r bs bad) (hby : ∀ x ∈ bs, 0 ≤ x ∧ x < 256) (k : Nat) (hk : k = 1 ∨ k = 2 ∨ k = 4 ∨ k = 8) (hm : k ≤ bs.length) :
    Calls Tryz.prog 216 #[.pointer (some ⟨r, 0, none⟩), .int .i64 k] w fun e w' => e = .returned (.int .u64 (leV (bs.take k))) ∧ RdAt w' r (bs.drop k) bad ∧ Fr (fun b => b = r) w w' := by
  have HM := hid (fun W => maynum k hk W)
  have HRw := hid (raw_ok h k hm)
  have HBY := hid (fun x (hx : x ∈ bs.take k) => hby x (List.mem_of_mem_take hx))
  have hk8 : k ≤ 8 := by omega
  have hlen : (bs.take k).length = k := by rw [List.length_take]; omega
  generalize bs.take k = l at *
  clear h hby hk
  go_enter Tryz.func216, Tryz.ntmps216
  go_wp2_with (go_at_call 236; refine (HM.out _).mono ?_; rintro e w' ⟨rfl, rfl⟩)
  refine HRw.out.mono ?_
  rintro e w1 ⟨a', c', rfl, hb1, hR, F1⟩
  have HLEN := hid hlen
  have HB1 := hid hb1
  have HR1 := hid (And.intro hR F1)
  clear hlen hb1 hR F1
  go_wp2
  go_loop [5, 15] (fun n i => ∃ j : Nat, j ≤ k ∧ i = .int .i64 j ∧ n = .int .u64 (leV (l.take j))) (fun _ i => k - (intOf i).toNat)
  case atStart => exact ⟨0, Nat.zero_le _, rfl, by simp [leV]⟩
  case round =>
    obtain ⟨j, hj, rfl, rfl⟩ := hrel
    by_cases hlt : j < k
    · obtain ⟨x, hx⟩ : ∃ x, l[j]? = some x := ⟨l[j]'(by rw [HLEN.out]; exact hlt), List.getElem?_eq_getElem _⟩
      obtain ⟨b, off, rfl, hbl, hcell⟩ := HB1.out.by_.at_ j x hx
      have hx0 := HBY.out x (List.mem_of_getElem? hx)
      have hn := leV_next HBY.out hx
      have hlt2 := leV_take_lt HBY.out j
      have HX := hid (And.intro hx hn)
      have HN := hid hlt2
      clear hx hn hlt2
      have hjd : decide (j < k) = true := by simpa using hlt
      go_wp2
      go_round
      case rel =>
        refine ⟨j + 1, by omega, by go_num, ?_⟩
        obtain ⟨y, rfl⟩ := Int.eq_ofNat_of_zero_le hx0.1
        have hp : (2 : Nat) ^ (8 * j) ≤ 2 ^ 56 := Nat.pow_le_pow_right (by decide) (by omega)
        have h256 : (256 : Nat) ^ j = 2 ^ (8 * j) := by rw [Nat.pow_mul]
        have hl1 : leV (l.take j) < 18446744073709551616 := by
          have := HN.out
          rw [h256] at this
          omega
        have hy : y ≤ 255 := by omega
        have hl2 : y * 2 ^ (8 * j) < 18446744073709551616 := by
          have := Nat.mul_le_mul hy hp
          omega
        have hw : IntKind.u64.wrap ((y : Int) * 2 ^ (8 * j)) = ((y * 2 ^ (8 * j) : Nat) : Int) := by
          rw [IntKind.wrap_u64, show (y : Int) * 2 ^ (8 * j) = ((y * 2 ^ (8 * j) : Nat) : Int) by simp]
          omega
        rw [hw, u64_or_nat _ _ hl1 hl2]
        have := HX.out.2
        simp only [Int.ofNat_eq_natCast, Int.toNat_natCast] at this
        rw [this]
      case measure => simp [intOf]; omega
    · obtain rfl : j = k := by omega
      go_wp2
      go_ret
      have e : l.take j = l := List.take_of_length_le (by rw [HLEN.out]; exact Nat.le_refl _)
      rw [e]
      exact ⟨rfl, HR1.out⟩
end Go.Proofs.YtgdhaaokolfdoaaGreatDoor

/- slices.Backward over a device's loose writes: the iterator. Conditions: the row lies in the world as ownsRow says. -/
namespace Go.Sg
open Go.RowKit
def Wr.zero : Wr := ⟨0, none, 0, 0⟩
/-- What has come of a row from behind after k rounds. -/
def bk (ws : List Wr) (k : Nat) : List (Nat × Wr) := (List.range k).map fun j => (ws.length - 1 - j, ws.getD (ws.length - 1 - j) Wr.zero)
theorem bk_succ (ws : List Wr) (k : Nat) : bk ws (k + 1) = bk ws k ++ [(ws.length - 1 - k, ws.getD (ws.length - 1 - k) Wr.zero)] := by
  simp [bk, List.range_succ]
theorem bk_len (ws : List Wr) (k : Nat) : (bk ws k).length = k := by simp [bk]
theorem bk_prefix (ws : List Wr) {a b : Nat} (h : a ≤ b) : bk ws a <+: bk ws b := by
  induction b with
  | zero => obtain rfl : a = 0 := by omega
            exact List.prefix_rfl
  | succ b ih =>
    by_cases hk : a = b + 1
    · subst hk; exact List.prefix_rfl
    · rw [bk_succ]; exact (ih (by omega)).trans (List.prefix_append _ _)
theorem bk_take (ws : List Wr) {a b : Nat} (h : a ≤ b) : (bk ws b).take a = bk ws a := by
  have h1 := bk_prefix ws h
  have h2 := List.prefix_iff_eq_take.1 h1
  rw [bk_len] at h2
  exact h2.symm
theorem bk_mem (ws : List Wr) {i k : Nat} {x : Wr} (hx : ws[i]? = some x) (hk : ws.length - 1 - i < k) : (i, x) ∈ bk ws k := by
  have hi := (List.getElem?_eq_some_iff.1 hx).1
  refine List.mem_map.2 ⟨ws.length - 1 - i, by simpa using hk, ?_⟩
  rw [show ws.length - 1 - (ws.length - 1 - i) = i by omega]
  simp [List.getD, hx]
theorem wr_cells (ws : List Wr) {j : Nat} {x : Wr} (h : ws[j]? = some x) : (ws.flatMap Wr.cells)[2 * j]? = some (.int .i64 x.at_) ∧ (ws.flatMap Wr.cells)[2 * j + 1]? = some (.slice x.la x.ll x.lc) := by
  induction ws generalizing j with
  | nil => simp at h
  | cons y l ih =>
    cases j with
    | zero => simp at h; subst h; exact ⟨rfl, rfl⟩
    | succ j =>
      simp at h
      have := ih h
      refine ⟨?_, ?_⟩
      · rw [show 2 * (j + 1) = 2 * j + 2 by omega]; simpa [List.flatMap_cons, Wr.cells] using this.1
      · rw [show 2 * (j + 1) + 1 = 2 * j + 1 + 2 by omega]; simpa [List.flatMap_cons, Wr.cells] using this.2
end Go.Sg
namespace Go.Proofs.YtgdhaaokolfdoaaGreatDoor
open Go.RowKit Go.Sg Go.Shelf
attribute [local go_sem] Oper.semAt_some
theorem backward_any (a : Option Addr) (n c : Nat) (w : World) :
    Calls Tryz.prog 174 #[.slice a n c] w fun e w' => e = .returned (.func (.func 231) #[] #[.pointer (some ⟨w.heap.size, 0, none⟩)]) ∧ w.alloc (.cells #[.slice a n c] 149) = w' := by
  go_enter Tryz.func174, Tryz.ntmps174
  go_wp2
  go_ret
  exact ⟨rfl, rfl⟩
/-- A write with its place in the row, of which something is known. -/
abbrev WrOk (ok : Nat → Wr → Prop) := { p : Nat × Wr // ok p.1 p.2 }
abbrev encB {ok : Nat → Wr → Prop} (x : WrOk ok) : Array Value := #[.int .i64 x.1.1, .agg #[.int .i64 x.1.2.at_, .slice x.1.2.la x.1.2.ll x.1.2.lc]]
def KpB (bx : Nat) (a : Option Addr) (W W' : World) : Prop := W'.heap[bx]? = W.heap[bx]? ∧ ∀ g, a = some ⟨g, 0, none⟩ → W'.heap[g]? = W.heap[g]?
theorem own_cells2 {w : World} {base : Nat} {a : Option Addr} {c : Nat} {ws : List Wr} (h : w.ownsRow base 196 2 (.slice a ws.length c) ws.length (ws.flatMap Wr.cells)) {j : Nat} {x : Wr} (hx : ws[j]? = some x) :
    ∃ g cur, a = some ⟨g, 0, none⟩ ∧ w.heap[g]? = some (.cells cur 196) ∧ cur[2 * j]? = some (.int .i64 x.at_) ∧ cur[2 * j + 1]? = some (.slice x.la x.ll x.lc) := by
  obtain ⟨hl, ⟨h1, h2⟩ | ⟨g, cap, cur, h1, _, hg, _, _, _, ht⟩⟩ := h
  · have := (List.getElem?_eq_some_iff.1 hx).1; omega
  · cases h1
    obtain ⟨k0, k1⟩ := wr_cells ws hx
    have hj := (List.getElem?_eq_some_iff.1 hx).1
    rw [← ht] at k0 k1
    rw [List.getElem?_take, if_pos (by omega)] at k0 k1
    exact ⟨g, cur, rfl, hg, by simpa using k0, by simpa using k1⟩
set_option maxRecDepth 100000 in
set_option maxHeartbeats 2000000 in
theorem backf_stops {ok : Nat → Wr → Prop} {w : World} {base bx : Nat} {a : Option Addr} {c : Nat} {ws : List Wr} (h : w.ownsRow base 196 2 (.slice a ws.length c) ws.length (ws.flatMap Wr.cells)) (hlen : ws.length ≤ 100000) (hok : ∀ i x, ws[i]? = some x → ok i x) (hx : w.heap[bx]? = some (.cells #[.slice a ws.length c] 149)) :
    SeqStopsK Fence.wide 9 Tryz.prog 231 #[.pointer (some ⟨bx, 0, none⟩)] (encB (ok := ok)) (KpB bx a) (fun xs => xs.map (·.1) = bk ws ws.length) (fun pre => pre.map (·.1) <+: bk ws ws.length) ws.length w := fun l J Jx W hW hJ _ hY h0 => by
  have hbx := lt_of_heap hx
  have hx' := (hW.block bx hbx).trans hx
  have hcl : ∀ j x, ws[j]? = some x → ∃ g cur, a = some ⟨g, 0, none⟩ ∧ W.heap[g]? = some (.cells cur 196) ∧ cur[2 * j]? = some (.int .i64 x.at_) ∧ cur[2 * j + 1]? = some (.slice x.la x.ll x.lc) := fun j x hj => by
    obtain ⟨g, cur, e, hg, r⟩ := own_cells2 h hj
    exact ⟨g, cur, e, (hW.block g (lt_of_heap hg)).trans hg, r⟩
  have HCL := hid hcl
  have HX := hid hx'
  have cx := cell_of_heap hx' 0
  simp at cx
  clear hx hW h hcl hx'
  refine callsIn_of_wp Tryz.func231 rfl trivial ?_ rfl
  simp only [Tryz.ntmps231, List.size_toArray, List.length_cons, List.length_nil, Nat.reduceAdd, Nat.reduceSub, Array.replicate_succ, Array.replicate_zero, List.push_toArray, List.append_toArray, List.nil_append, List.cons_append]
  gi_wp2
  gi_loopw [3] (fun i wr => ∃ k : Nat, k ≤ ws.length ∧ i = .int .i64 ((ws.length : Int) - 1 - k) ∧ (∃ pre : List (WrOk ok), pre.map (·.1) = bk ws k ∧ J pre wr) ∧ KpB bx a W wr) (fun i _ => (intOf i + 1).toNat)
  case atStart => exact ⟨0, Nat.zero_le _, by simp, ⟨[], rfl, h0⟩, rfl, fun _ _ => rfl⟩
  case round =>
    obtain ⟨k, hk, rfl, ⟨pre, hpre, hJs⟩, hkp⟩ := hrel
    have HPRE := hid hpre
    have hplen : pre.length = k := by have := congrArg List.length hpre; rw [bk_len] at this; simpa using this
    have HPL := hid hplen
    clear hpre hplen
    have cb := cell_of_heap (hkp.1.trans HX.out) 0
    simp at cb
    by_cases hlt : k < ws.length
    · obtain ⟨j, hj⟩ : ∃ j : Nat, ws.length = j + 1 + k := ⟨ws.length - 1 - k, by omega⟩
      have ej : (ws.length : Int) - 1 - k = (j : Int) := by omega
      obtain ⟨x, hx⟩ : ∃ x, ws[j]? = some x := ⟨_, List.getElem?_eq_getElem (by omega)⟩
      obtain ⟨g, cur, rfl, hg, h1, h2⟩ := HCL.out j x hx
      have hg' := (hkp.2 g rfl).trans hg
      have c1 : wr.cell? ⟨g, j * 2, none⟩ = some (.int .i64 x.at_) := (cell_of_heap hg' (j * 2)).trans (by rw [Nat.mul_comm j 2]; exact h1)
      have c2 : wr.cell? ⟨g, j * 2 + 1, none⟩ = some (.slice x.la x.ll x.lc) := (cell_of_heap hg' (j * 2 + 1)).trans (by rw [Nat.mul_comm j 2]; exact h2)
      have hs : bk ws (k + 1) = bk ws k ++ [(j, x)] := by
        rw [bk_succ, show ws.length - 1 - k = j by omega]
        simp [List.getD, hx]
      have HS := hid hs
      have HOK := hok j x hx
      have HK := hid hkp
      have HEJ := hid ej
      have HJL := hid hj
      rw [ej]
      obtain ⟨xat, xa, xl, xc⟩ := x
      clear hs hg hg' h1 h2 hx hkp ej hj
      obtain ⟨fn, tmps, assign, body, hy, hR⟩ := hY _ ⟨(j, ⟨xat, xa, xl, xc⟩), HOK⟩ wr hJs (by rw [HPL.out]; exact hlt)
      dsimp only [encB] at hy
      have hj0 : j < ws.length := by have := HJL.out; omega
      gi_wp2
      refine hR.mono ?_
      rintro e W3 (⟨rfl, hJ3, hk3⟩ | ⟨rfl, hJx3⟩)
      · have HJ3 := hid hJ3
        have HK3 := hid hk3
        clear hJ3 hk3
        gi_wp2
        go_roundw
        case rel => exact ⟨k + 1, by omega, by have := HEJ.out; go_num, ⟨_, by rw [HS.out, List.map_append, HPRE.out]; rfl, HJ3.out⟩, HK3.out.1.trans HK.out.1, fun g' e => (HK3.out.2 g' e).trans (HK.out.2 g' e)⟩
        case measure => simp [intOf]
      · have HJX := hid hJx3
        clear hJx3
        gi_wp2
        refine bodyPost_ret (results_none rfl _ _ _) rfl ?_
        exact ⟨⟨_, rfl⟩, .inr ⟨_, (by have := bk_prefix ws (a := k + 1) (b := ws.length) (by have := HJL.out; omega); rw [HS.out] at this; rw [List.map_append, HPRE.out]; exact this), HJX.out⟩⟩
    · obtain rfl : k = ws.length := by omega
      have e1 : (ws.length : Int) - 1 - (ws.length : Int) = -1 := by omega
      rw [e1]
      gi_wp2
      go_end0
      exact ⟨⟨_, rfl⟩, .inl ⟨_, HPRE.out, hJs⟩⟩
end Go.Proofs.YtgdhaaokolfdoaaGreatDoor

/- The frame of a law's proof: what a law's row asks behind its walk; slices of structs opened. -/
namespace Go.Sg
open Go.RowKit Go.ChangeShapes
theorem trodAll_below {H : Type} {enc : TypeId × Value → H} {P : Program} (hl : laidOutB P = true) {W W' : World} (hb : Below W.heap.size W W') :
    ∀ {ts : List TypeId} {vs : List Value} {ds : List (DataW H)} {ps : List MemPlace}, (∀ t ∈ ts, P.readableRec t = true ∧ t < P.types.size) → (∀ x ∈ ps, x.block < W.heap.size) →
      DataW.TrodAll enc P W 0 (fun _ => true) true ts vs ds ps → DataW.TrodAll enc P W' 0 (fun b => decide (b < W.heap.size)) true ts vs ds ps
  | [], vs, ds, ps, _, _, h => by obtain ⟨rfl, rfl, rfl⟩ := trodAll_nil h; exact h
  | t :: ts, vs, ds, ps, ht, hp, h => by
    obtain ⟨v, vs', d, ds', p, q, rfl, rfl, rfl, h0, r0⟩ := trodAll_cons h
    exact ⟨p, q, Below.trod hl (ht t (by simp)).1 (ht t (by simp)).2 h0 hb (fun x hx => hp x (by simp [hx])),
      trodAll_below hl hb (fun u hu => ht u (by simp [hu])) (fun x hx => hp x (by simp [hx])) r0, rfl⟩
/-- The post of a law: true; the arguments read as they did. -/
theorem law_post {H : Type} {enc : TypeId × Value → H} {P : Program} {f : Func} {s : ChangeSpec} {apart : Bool} {W W' : World} {args : Array Value} {ds gs : List (DataW H)} {before : List MemPlace} {tb : TypeId}
    (hl : laidOutB P = true) (hts' : (f.params.toList.all fun t => P.readableRec t && decide (t < P.types.size)) = true) (hv : s.vars = []) (hr : f.resultTypes = #[tb]) (hu : P.underlying tb = some .bool)
    (hW : DataW.Whole enc P f.params.toList s.vars apart W args.toList ds gs before) (hb : Below W.heap.size W W') (hfn : s.fn H ds = { results := [.lit (.bool true)], args := ds }) :
    s.post enc P f apart true false false W args (.bool true) W' := by
  have hts : ∀ t ∈ f.params.toList, P.readableRec t = true ∧ t < P.types.size := fun t ht => by
    have := List.all_eq_true.1 hts' t ht
    simpa using this
  have hW0 := hW
  have hlt := hW.lt
  obtain ⟨p, q, hA, hV, rfl, _, _⟩ := hW
  rw [hv] at hV
  cases gs with
  | cons _ _ => simp [DataW.TrodVars] at hV
  | nil =>
    have hq : q = [] := hV
    subst hq
    have hfn : s.fn H (ds ++ []) = { results := [.lit (.bool true)], args := ds } := by rw [List.append_nil]; exact hfn
    refine ⟨ds, [], _, [], p, [], hW0, ?_, ?_, ?_, hb.frame _, fun h => by cases h⟩
    · rw [hfn, hr]
      exact trodAll_mk1 (shut_bool hu true)
    · rw [hfn]
      exact trodAll_below hl hb hts (fun x hx => hlt x (by simp [hx])) hA
    · rw [hfn, hv]; rfl
end Go.Sg
namespace Go.Sg
open Go.RowKit Go.ChangeShapes Go.WideShapes Go.Deep
theorem add_plain (b o k : Nat) : (⟨b, o, none⟩ : Addr).add k = ⟨b, o + k, none⟩ := by
  unfold Addr.add; split <;> simp_all
theorem spot_none {w : World} {a : Addr} {v : Value} (h : w.cell? a = some v) : a = ⟨a.block, a.off, none⟩ := by
  cases a with
  | mk b o s =>
    cases s with
    | none => rfl
    | some s => unfold World.cell? at h; split at h <;> simp at h
section
variable {H : Type} {enc : TypeId × Value → H} {P : Program} {w : World}
end
end Go.Sg

/- flash: kept, Read. Conditions: the device lies in the world as DevAt says, it is not down, the sector is one of its. -/
namespace Go.Sg
open Go.RowKit
/-- What a sector holds. -/
def Dev.sec (D : Dev) (at_ : Int) : List Int := match D.loose.reverse.find? (fun y => decide (y.1 = at_)) with
  | some y => y.2
  | none => (D.fast at_).getD (List.replicate D.size 0)
theorem sec_hit {D : Dev} {at_ : Int} {j : Nat} {y : Int × List Int} (hy : D.loose[j]? = some y) (h1 : y.1 = at_) (h2 : ∀ (i : Nat) z, j < i → D.loose[i]? = some z → z.1 ≠ at_) : D.sec at_ = y.2 := by
  have hj := (List.getElem?_eq_some_iff.1 hy).1
  have e : D.loose = D.loose.take j ++ y :: D.loose.drop (j + 1) := by
    conv => lhs; rw [← List.take_append_drop j D.loose]
    congr 1
    rw [List.drop_eq_getElem_cons hj]
    congr 1
    exact (List.getElem?_eq_some_iff.1 hy).2
  have hf : D.loose.reverse.find? (fun y => decide (y.1 = at_)) = some y := by
    rw [List.find?_eq_some_iff_append]
    refine ⟨by simpa using h1, (D.loose.drop (j + 1)).reverse, (D.loose.take j).reverse, ?_, ?_⟩
    · conv => lhs; rw [e]
      simp
    · intro a ha
      obtain ⟨i, hi⟩ := List.mem_iff_getElem?.1 (List.mem_reverse.1 ha)
      rw [List.getElem?_drop] at hi
      have := h2 (j + 1 + i) a (by omega) hi
      simpa using this
  rw [Dev.sec, hf]
theorem sec_miss {D : Dev} {at_ : Int} (h : ∀ z ∈ D.loose, z.1 ≠ at_) : D.sec at_ = (D.fast at_).getD (List.replicate D.size 0) := by
  have hf : D.loose.reverse.find? (fun y => decide (y.1 = at_)) = none := by
    rw [List.find?_eq_none]
    intro z hz
    have := h z (List.mem_reverse.1 hz)
    simpa using this
  rw [Dev.sec, hf]
theorem keepsFrom_fr {B : Nat} {W W' : World} (F : Fr (fun _ => False) W W') : KeepsFrom B W W' := ⟨F.size, fun k o _ hk _ => F.heap hk (fun h => h)⟩
theorem own_byv {B : Nat} {W W' : World} {row : Option Nat} {a : Option Addr} {n c : Nat} {bs : List Int} (h : ByV W a n c bs) (hg : W.grownBy W' row) (hr : ∀ r, row = some r → B ≤ r ∧ ∃ o : Obj, W.heap[r]? = some o ∧ o.isCells = false) : ByV W' a n c bs := by
  refine h.fr (S := fun b => some b = row) ⟨hg.os, hg.tape, hg.output, hg.size, fun b hb hn => hg.block b hb hn⟩ fun b c hb e => ?_
  obtain ⟨_, o, ho, hc⟩ := hr b e.symm
  rw [hb] at ho; cases ho; cases hc
theorem ByV.zeros {w : World} {g n cap : Nat} {f : Nat × Nat} (h : w.heap[g]? = some (.cells (List.replicate n (Value.int .u8 0)).toArray 5)) : ByV w (some ⟨g, 0, none⟩) n cap (List.replicate n 0) := by
  refine ⟨⟨by simp, fun i x hx => ⟨g, 0, rfl, lt_of_heap h, ?_⟩⟩, .inr ⟨g, 0, _, rfl, h⟩⟩
  rw [cell_of_heap h]
  rw [List.getElem?_replicate] at hx
  split at hx
  · cases hx
    rename_i hi
    simp [hi]
  · cases hx
end Go.Sg
namespace Go.Proofs.YtgdhaaokolfdoaaGreatDoor
open Go.RowKit Go.Sg Go.Shelf
theorem Tryz.zero22 (w : World) : (zeroValue 22).run Tryz.prog w = .ok (.slice none 0 0) w := by kernel_rfl
set_option maxHeartbeats 1000000 in
theorem kept_cap {w : World} {base d bf bq : Nat} {D : Dev} (h : DevAt w base d bf bq D) (k : Int) :
    Calls Tryz.prog 113 #[.pointer (some ⟨d, 0, none⟩), .int .i64 k] w fun e w' => ∃ a c, e = .returned (.slice a D.size c) ∧ (ByV w' a D.size c ((D.fast k).getD (List.replicate D.size 0)) ∧ D.size ≤ c) ∧ Fr (fun _ => False) w w' := by
  obtain ⟨lv, hd, _⟩ := h.dc
  obtain ⟨l, ck, hm, _, hf⟩ := h.fast
  have c1 := cell_of_heap hd 1
  have c2 := cell_of_heap hd 2
  simp at c1 c2
  have hl := run_lookup (P := Tryz.prog) (T := 147) true Tryz.underlying147 Tryz.underlying3 Tryz.zero22 hm k
  have hk := hf k
  have hz := h.rg.2
  cases hlk : Sg.look l k with
  | some v =>
    rw [hlk] at hl hk
    cases hfk : D.fast k with
    | none => rw [hfk] at hk; exact hk.elim
    | some bs =>
      rw [hfk] at hk
      obtain ⟨b, off, cap, rfl, hb, hcp⟩ := hk
      have HB := hid (And.intro hb hcp)
      simp at hl
      clear hlk hm hf hd hb hcp hfk h
      go_enter Tryz.func113, Tryz.ntmps113
      go_wp2
      go_ret
      exact ⟨_, _, rfl, HB.out, Fr.refl _ _⟩
  | none =>
    rw [hlk] at hl hk
    cases hfk : D.fast k with
    | some bs => rw [hfk] at hk; exact hk.elim
    | none =>
      simp at hl
      obtain ⟨i0, hi, hz0, hz1, hz2⟩ := info_parts Tryz.info5
      have hmk := fun W => run_make_len (P := Tryz.prog) 22 5 i0 _ Tryz.underlying22 hi hz0 D.size (by rw [hz2]; omega) (by omega) W
      rw [hz1] at hmk
      clear hlk hm hf hd hfk h hi hz0 hz1 hz2 hk
      go_enter Tryz.func113, Tryz.ntmps113
      go_wp2
      go_ret
      exact ⟨_, _, rfl, ⟨ByV.zeros (f := (0, 0)) (by rw [show (List.replicate D.size (Value.int .u8 0)).toArray = madeCells #[.int .u8 0] D.size by apply Array.toList_inj.1; rw [toList_madeCells_one]]; exact heap_alloc_new _ _), Nat.le_refl _⟩, (Fr.refl _ _).alloc _⟩
theorem kept_at {w : World} {base d bf bq : Nat} {D : Dev} (h : DevAt w base d bf bq D) (k : Int) :
    Calls Tryz.prog 113 #[.pointer (some ⟨d, 0, none⟩), .int .i64 k] w fun e w' => ∃ a c, e = .returned (.slice a D.size c) ∧ ByV w' a D.size c ((D.fast k).getD (List.replicate D.size 0)) ∧ Fr (fun _ => False) w w' :=
  (kept_cap h k).mono fun e w' ⟨a, c, he, hb, F⟩ => ⟨a, c, he, hb.1, F⟩
attribute [local go_sem] Oper.semAt_some
/-- What is known of a write that comes. -/
def okW (w : World) (D : Dev) (i : Nat) (x : Wr) : Prop := ∃ y, D.loose[i]? = some y ∧ x.at_ = y.1 ∧ ByV w x.la x.ll x.lc y.2
def ReadI (w W0 : World) (D : Dev) (at_ : Nat) (pre : List (WrOk (okW w D))) (W : World) : Prop :=
  ((W.heap[w.heap.size]? = some (.cells #[.int .i64 at_] 3) ∧ W.heap[w.heap.size + 1]? = some (.cells #[.slice none 0 0] 22)) ∧ (W.heap[w.heap.size + 2]? = some (.cells #[.int .i64 0] 24) ∧ Fr (fun _ => False) W0 W)) ∧ ∀ y ∈ pre, y.1.2.at_ ≠ (at_ : Int)
/-- A slice of bytes, its capacity told. -/
abbrev ByC (w : World) (a : Option Addr) (n c : Nat) (bs : List Int) : Prop := ByV w a n c bs ∧ n ≤ c
def ReadX (w : World) (D : Dev) (at_ : Nat) (c : Code) (pre : List (WrOk (okW w D))) (W : World) : Prop :=
  (c = .ret ∧ ∃ pre0 x, pre = pre0 ++ [x] ∧ x.1.2.at_ = (at_ : Int) ∧ (∀ y ∈ pre0, y.1.2.at_ ≠ (at_ : Int))) ∧
    (∃ y : Int × List Int, (∃ x ∈ pre.getLast?, D.loose[x.1.1]? = some y) ∧ ∃ a c, (W.heap[w.heap.size + 1]? = some (.cells #[.slice a y.2.length c] 22) ∧ ByC W a y.2.length c y.2) ∧ (W.heap[w.heap.size + 2]? = some (.cells #[.int .i64 0] 24) ∧ Fr (fun _ => False) w W))
theorem devread_ret {n : Nat} {R : Ending → World → Prop} {tmps : Array Value} {DD b : Nat} {W : World} {a : Option Addr} {l c : Nat} (q1 : W.heap[b + 1]? = some (.cells #[.slice a l c] 22)) (q2 : W.heap[b + 2]? = some (.cells #[.int .i64 0] 24))
    (hK : W.heap[DD]? = some (.deferred (some []))) (hD : b + 2 < DD) (hR : R (.returned (.tuple #[.slice a l c, .int .i64 0])) (W.putObj DD (.deferred none))) (t4 : tmps.getD 4 undef = .pointer (some ⟨b + 1, 0, none⟩)) (t5 : tmps.getD 5 undef = .pointer (some ⟨b + 1 + 1, 0, none⟩)) :
    bodyPostM Fence.wide n Tryz.prog Tryz.f114 R .ret { tmps := tmps, defers := [{ target := .collected DD, args := #[] }] } W := by
  have e1 : (W.putObj DD (.deferred none)).cell? ⟨b + 1, 0, none⟩ = some (.slice a l c) := by
    have := cell_of_heap ((heap_putObj_ne W DD (.deferred none) (b + 1) (by omega)).trans q1) 0
    simpa using this
  have e2 : (W.putObj DD (.deferred none)).cell? ⟨b + 1 + 1, 0, none⟩ = some (.int .i64 0) := by
    have := cell_of_heap ((heap_putObj_ne W DD (.deferred none) (b + 2) (by omega)).trans q2) 0
    simpa using this
  refine ⟨by simp, .inl ⟨_, _, rfl, run_takeDeferred hK, _, ?_, hR⟩⟩
  rw [Array.getD_eq_getD_getElem?] at t4 t5
  simp [results, Tryz.results114, go_sem, t4, t5, e1, e2]
set_option maxRecDepth 100000 in
set_option maxHeartbeats 2000000 in
theorem devread_cap {w : World} {base d bf bq : Nat} {D : Dev} (h : DevAt w base d bf bq D) (hdown : D.down = false) (hlen : ∀ y ∈ D.loose, y.2.length = D.size) (hmany : D.loose.length ≤ 100000) (at_ : Nat) (hat : at_ < D.sectors) :
    Calls Tryz.prog 114 #[.pointer (some ⟨d, 0, none⟩), .int .i64 at_] w fun e w' => ∃ a c, e = .returned (.tuple #[.slice a D.size c, .int .i64 0]) ∧ ByC w' a D.size c (D.sec at_) ∧ Fr (fun _ => False) w w' := by
  refine (callsIn_wide (n := 10)).1 ?_
  obtain ⟨lv, hd, ws, hown, hwl, hws⟩ := h.dc
  have c3 := cell_of_heap hd 3
  simp at c3
  have ld := lt_of_heap hd
  have hlv : ∃ a c, lv = .slice a ws.length c := by
    obtain ⟨_, ⟨h1, h2⟩ | ⟨g, cap, cur, h1, _⟩⟩ := hown
    · rw [h2]; exact ⟨_, _, h1⟩
    · exact ⟨_, _, h1⟩
  obtain ⟨la, lc, rfl⟩ := hlv
  have HRD := hid (fun W (F : Fr (fun _ => False) w W) => ready_ok (w := W) (d := d) (n := D.sectors) (at_ := at_) (by have := cell_of_heap (F.heap hd (fun h => h)) 0; simpa using this) (by have := cell_of_heap (F.heap hd (fun h => h)) 7; simpa [hdown] using this) (by omega) (by omega))
  obtain ⟨W1, hW1⟩ : ∃ W1, ((w.alloc (.cells #[.int .i64 at_] 3)).alloc (.cells #[.slice none 0 0] 22)).alloc (.cells #[.int .i64 0] 24) = W1 := ⟨_, rfl⟩
  obtain ⟨x0, x1, x2, F1⟩ := heap_three hW1
  have s1 : W1.heap.size = w.heap.size + 3 := by rw [← hW1]; simp
  have y0 := cell_of_heap x0 0
  have y1 := cell_of_heap x1 0
  have y2 := cell_of_heap x2 0
  simp at y0 y1 y2
  have d3 : W1.cell? ⟨d, 3, none⟩ = some (.slice la ws.length lc) := (F1.cell (p := ⟨d, 3, none⟩) ld (fun h => h)).trans c3
  have HW1 := hid hW1
  have HX := hid (And.intro x0 (And.intro x1 x2))
  have HF1 := hid F1
  have H := hid h
  have HD := hid hd
  have HOWN := hid hown
  have HWS := hid hws
  have HWL := hid hwl
  have hwm : ws.length ≤ 100000 := by omega
  clear hW1 x0 x1 x2 F1 h hd hown hws hwl
  refine callsIn_of_wp_marks Tryz.func114 rfl trivial ?_ rfl
  simp only [Tryz.ntmps114, List.size_toArray, List.length_cons, List.length_nil, Nat.reduceAdd, Nat.reduceSub, Array.replicate_succ, Array.replicate_zero, List.push_toArray, List.append_toArray, List.nil_append, List.cons_append]
  gi_wp2_with (fail)
  rw [HW1.out]
  refine (callsIn_wide.2 (HRD.out _ HF1.out)).mono ?_
  rintro e w' ⟨rfl, rfl⟩
  gi_wp2_with (fail)
  refine (callsIn_wide.2 (backward_any la ws.length lc _)).mono ?_
  rintro e w' ⟨rfl, rfl⟩
  gi_wp2_with (fail)
  obtain ⟨W0, hW0⟩ : ∃ W0, W1.alloc (.cells #[.slice la ws.length lc] 149) = W0 := ⟨_, rfl⟩
  have F10 : Fr (fun _ => False) W1 W0 := by rw [← hW0]; exact (Fr.refl _ _).alloc _
  have hbx : W0.heap[w.heap.size + 3]? = some (.cells #[.slice la ws.length lc] 149) := by rw [← hW0, ← s1]; exact heap_alloc_new _ _
  have hF0 := HF1.out.trans F10 (fun _ _ h => h)
  have hsz : W0.heap.size = w.heap.size + 4 := by rw [← hW0]; simp; omega
  have hown0 : W0.ownsRow base 196 2 (.slice la ws.length lc) ws.length (ws.flatMap Wr.cells) := ownsRow_fr HOWN.out hF0 (fun _ _ _ h => h)
  have hI0 : ReadI w W0 D at_ [] W0 := ⟨⟨⟨F10.heap HX.out.1 (fun h => h), F10.heap HX.out.2.1 (fun h => h)⟩, F10.heap HX.out.2.2 (fun h => h), Fr.refl _ _⟩, fun _ h => by cases h⟩
  have hla : ∀ g, la = some ⟨g, 0, none⟩ → g < w.heap.size := fun g e => by
    obtain ⟨_, ⟨h1, h2⟩ | ⟨g', cap, cur, h1, _, hg, _⟩⟩ := HOWN.out
    · obtain ⟨h3, _, _⟩ := Value.slice.inj h1
      rw [h3] at e; cases e
    · obtain ⟨h3, _, _⟩ := Value.slice.inj h1
      rw [h3] at e; cases e; exact lt_of_heap hg
  simp only [hW0]
  clear y0 y1 y2 d3 c3
  have hok : ∀ i x, ws[i]? = some x → okW w D i x := fun i x hx => by
    have hi := (List.getElem?_eq_some_iff.1 hx).1
    have hy : D.loose[i]? = some (D.loose[i]'(by have := HWL.out; omega)) := List.getElem?_eq_getElem _
    exact ⟨_, hy, (HWS.out i x _ hx hy).1, (HWS.out i x _ hx hy).2.1⟩
  refine wpIn_rangeFunc_ownH (F := Fence.wide) rfl (by omega) (gf := 231) (lb := #[.pointer (some ⟨w.heap.size + 3, 0, none⟩)]) rfl trivial (enters_of Tryz.func231 (by kernel_rfl) rfl)
    (backf_stops hown0 hwm hok hbx) (fun h k => ⟨k.1.trans h.1, fun g e => (k.2 g e).trans (h.2 g e)⟩) (fun W l o o' hl _ _ _ => ⟨heap_putObj_ne _ _ _ _ (by omega), fun g e => heap_putObj_ne _ _ _ _ (by have := hla g e; omega)⟩) (Below.refl _ _) (fun _ => rfl)
    (ReadI w W0 D at_)
    (ReadX w D at_)
    (own_and (own_and (own_and (own_block _ _ _ (fun _ => .inl rfl)) (own_block _ _ _ (fun _ => .inl rfl))) (own_and (own_block _ _ _ (fun _ => .inl rfl)) (own_fr (by omega)))) (own_pure _ _))
    (fun c => own_and (own_pure _ _) (own_ex fun y => own_and (own_pure _ _) (own_ex fun a => own_ex fun cc => own_and (own_and (own_block _ _ _ (fun _ => .inl rfl)) (fun _ _ _ _ hs hg hr => ⟨own_byv hs.1 hg hr, hs.2⟩)) (own_and (own_block _ _ _ (fun _ => .inl rfl)) (own_fr (by omega))))))
    hI0
    (fun x a' W => ∃ Bx, (w.heap.size + 4 ≤ Bx ∧ W.heap[Bx]? = some (.cells #[.int .i64 x.1.2.at_, .slice x.1.2.la x.1.2.ll x.1.2.lc] 196)) ∧ a' = { tmps := #[.pointer (some ⟨d, 0, none⟩), .int .i64 at_, undef, .pointer (some ⟨w.heap.size, 0, none⟩), .pointer (some ⟨w.heap.size + 1, 0, none⟩), .pointer (some ⟨w.heap.size + 1 + 1, 0, none⟩), .int .i64 0, undef, .pointer (some ⟨Bx, 0, none⟩), .pointer (some ⟨d, 0, none⟩), .int .i64 at_, .int .i64 0, .int .i64 0, .bool false, undef, .pointer (some ⟨d, 0, none⟩), .pointer (some ⟨d, 0, none⟩), .pointer (some ⟨d, 3, none⟩), .slice la ws.length lc, .func (.func 231) #[] #[.pointer (some ⟨w.heap.size + 3, 0, none⟩)], .int .i64 x.1.1, .agg #[.int .i64 x.1.2.at_, .slice x.1.2.la x.1.2.ll x.1.2.lc], undef, undef, undef, undef, undef, undef, undef, undef, undef, undef, undef, undef], defers := [] })
    (fun x a' => own_ex fun Bx => own_and (own_and (own_pure _ _) (own_block _ _ _ (fun _ => .inl rfl))) (own_pure _ _))
    ?assign ?body ?done ?stop
  case assign =>
    rintro l pre x W K hI hK
    have hsW := hI.1.2.2.size
    have FN : Fr (fun _ => False) W (W.alloc (.cells #[.int .i64 x.1.2.at_, .slice x.1.2.la x.1.2.ll x.1.2.lc] 196)) := (Fr.refl _ _).alloc _
    have HI := hid hI
    have HK := hid hK
    clear hI hK
    gi_wp2
    obtain ⟨⟨⟨h1, h2⟩, h3, hF⟩, h4⟩ := HI.out
    refine HK.out _ _ ((KeepsOthers.alloc _ _).from _) ⟨FN.block _ (by omega) (fun h => h), fun g e => FN.block _ (by have := hla g e; omega) (fun h => h)⟩ ⟨⟨⟨FN.heap h1 (fun h => h), FN.heap h2 (fun h => h)⟩, FN.heap h3 (fun h => h), hF.trans FN (fun _ _ h => h)⟩, h4⟩ ⟨W.heap.size, ⟨by omega, heap_alloc_new _ _⟩, rfl⟩
  case body =>
    rintro l pre ⟨⟨i, ⟨xat, xa, xl, xc⟩⟩, hp⟩ a' W hl ⟨r, hr⟩ ⟨⟨⟨h1, h2⟩, h3, hF⟩, h4⟩ ⟨Bx, ⟨hBx, hbX⟩, rfl⟩ hlt
    have hp' := hp
    obtain ⟨y, hy, hxy, hxb⟩ := hp'
    simp only at hy hxy hxb hbX
    have z0 := cell_of_heap h1 0
    have z1 := cell_of_heap hbX 0
    have z2 := cell_of_heap hbX 1
    simp at z0 z1 z2
    have u1 := cell_of_heap h2 0
    have u2 := cell_of_heap h3 0
    have f1 := frozen_of_heap h2 0
    have f2 := frozen_of_heap h3 0
    simp at u1 u2
    have HX2 := hid (And.intro h1 (And.intro h2 (And.intro h3 (And.intro hF h4))))
    have HY := hid (And.intro hy (And.intro hxy hxb))
    have HBX := hid hbX
    clear h1 h2 h3 hF h4 hy hxy hxb hbX
    by_cases hx : xat = at_
    · subst hx
      have hlb : xl ≤ 512 := by
        have h1 := hlen y (List.mem_of_getElem? HY.out.1)
        have h2 := HY.out.2.2.len
        have h3 := H.out.rg.2.2
        omega
      have HHP := hid hp
      have hbW := (HY.out.2.2.fr (S := fun _ => False) (hF0.trans HX2.out.2.2.2.1 (fun _ _ h => h)) (fun _ _ _ h => h))
      have HC := hid (clone_vc hbW.slb (by omega))
      have HBW := hid hbW
      clear hbW
      gi_wp2_with (fail)
      refine (CallsIn.inRound l (callsIn_wide.2 HC.out)).mono ?_
      rintro e w2 ⟨a', c', rfl, hb2, F2⟩
      have lW := HX2.out.2.2.2.1.size
      obtain ⟨k1, k2, k3, k4, k5⟩ := HX2.out
      have v1 := cell_of_heap (F2.heap k2 (fun h => h)) 0
      have v2 := cell_of_heap (F2.heap k3 (fun h => h)) 0
      have g1 := frozen_of_heap (F2.heap k2 (fun h => h)) 0
      have g2 := frozen_of_heap (F2.heap k3 (fun h => h)) 0
      simp at v1 v2
      have H2 := hid (And.intro hb2 F2)
      have K2 := hid (And.intro (F2.heap k2 (fun h => h)) (F2.heap k3 (fun h => h)))
      clear hb2 F2 k1 k2 k3 k4 k5
      gi_wp2
      obtain ⟨k1, k2, k3, k4, k5⟩ := HX2.out
      obtain ⟨hb2, F2⟩ := H2.out
      have hyl : y.2.length = xl := HY.out.2.2.len
      refine ⟨(keepsFrom_fr F2).trans (((KeepsOthers.setCell _ _ _).trans (KeepsOthers.setCell _ _ _)).from _), ⟨rfl, pre, _, rfl, rfl, k5⟩, y, ⟨_, by simp; rfl, HY.out.1⟩, a', c', ⟨?_, ?_⟩, ?_, ?_⟩
      · rw [heap_setCell_ne _ _ _ _ (by simp), heap_setCell_cells _ _ _ _ K2.out.1, hyl]; rfl
      · rw [hyl]
        refine ⟨hb2.1.fr (S := fun b => b = w.heap.size + 1 ∨ b = w.heap.size + 2) (((Fr.refl (fun b => b = w.heap.size + 1 ∨ b = w.heap.size + 2) _).setCell (a := ⟨w.heap.size + 1, 0, none⟩) (fun _ => .inl rfl) _).setCell (a := ⟨w.heap.size + 1 + 1, 0, none⟩) (fun _ => .inr rfl) _) fun b c hc e => ?_, hb2.2⟩
        rcases e with rfl | rfl
        · rw [K2.out.1] at hc; cases hc
        · rw [K2.out.2] at hc; cases hc
      · rw [heap_setCell_cells (w := w2.setCell ⟨w.heap.size + 1, 0, none⟩ _) _ _ _ ((heap_setCell_ne _ _ _ _ (by simp)).trans K2.out.2)]; rfl
      · exact (((hF0.trans k4 (fun _ _ h => h)).trans F2 (fun _ _ h => h)).setNew (by omega) _).setNew (by omega) _
    · have hd : (xat == (at_ : Int)) = false := by simpa using hx
      have HHP := hid hx
      gi_wp2
      obtain ⟨k1, k2, k3, k4, k5⟩ := HX2.out
      refine ⟨KeepsFrom.refl _ _, ⟨rfl, fun _ _ => rfl⟩, ⟨⟨k1, k2⟩, k3, k4⟩, fun z hz => ?_⟩
      rcases List.mem_append.1 hz with hz | hz
      · exact k5 z hz
      · simp at hz
        subst hz
        exact HHP.out
  case done =>
    rintro DD ys W hD hys ⟨⟨⟨h1, h2⟩, h3, hF⟩, h4⟩ hK
    have z0 := cell_of_heap h1 0
    have u1 := cell_of_heap h2 0
    have u2 := cell_of_heap h3 0
    have f1 := frozen_of_heap h2 0
    have f2 := frozen_of_heap h3 0
    simp at z0 u1 u2
    have hFw := hF0.trans hF (fun _ _ h => h)
    have HM := hid (fun W' (F : Fr (fun _ => False) w W') => kept_at (H.out.fr F (fun h => h) (fun h => h) (fun h => h) (fun _ _ _ _ _ h => h)) at_)
    have hsec : D.sec at_ = (D.fast at_).getD (List.replicate D.size 0) := by
      refine sec_miss fun z hz => ?_
      obtain ⟨i, hi⟩ := List.mem_iff_getElem?.1 hz
      have hil := (List.getElem?_eq_some_iff.1 hi).1
      have hwi : ws[i]? = some (ws[i]'(by have := HWL.out; omega)) := List.getElem?_eq_getElem _
      have hm := bk_mem ws (k := ws.length) hwi (by have := HWL.out; omega)
      rw [← hys] at hm
      obtain ⟨q, hq, hqe⟩ := List.mem_map.1 hm
      have := h4 q hq
      rw [hqe] at this
      rw [← (HWS.out i _ z hwi hi).1]
      exact this
    have HSEC := hid hsec
    have HB := hid (And.intro h2 (And.intro h3 (And.intro hFw hK)))
    clear h1 h2 h3 hF h4 hys hsec hK
    gi_wp2_with (fail)
    refine (callsIn_wide.2 (HM.out _ hFw)).mono ?_
    rintro e w2 ⟨a', c', rfl, hb2, F2⟩
    have hzs := H.out.rg.2.2
    have HC := hid (clone_vc hb2.slb (by omega))
    have HB2 := hid F2
    clear hb2 F2 z0 u1 u2 f1 f2
    gi_wp2_with (fail)
    refine (callsIn_wide.2 HC.out).mono ?_
    rintro e w3 ⟨a3, c3, rfl, hb3, F3⟩
    have F23 := HB2.out.trans F3 (fun _ _ h => h)
    obtain ⟨k2, k3, k4, k5⟩ := HB.out
    have j2 := F23.heap k2 (fun h => h)
    have j3 := F23.heap k3 (fun h => h)
    have u1 := cell_of_heap j2 0
    have u2 := cell_of_heap j3 0
    have f1 := frozen_of_heap j2 0
    have f2 := frozen_of_heap j3 0
    simp at u1 u2
    have HJ := hid (And.intro j2 (And.intro j3 (And.intro (k4.trans F23 (fun _ _ h => h)) (And.intro (F23.heap k5 (fun h => h)) hb3))))
    clear k2 k3 k4 k5 j2 j3 hb3 F3 F23
    gi_wp2
    obtain ⟨j2, j3, j4, j5, hb3⟩ := HJ.out
    obtain ⟨W3, hW3⟩ : ∃ W3, (w3.setCell ⟨w.heap.size + 1, 0, none⟩ (.slice a3 D.size c3)).setCell ⟨w.heap.size + 1 + 1, 0, none⟩ (.int .i64 0) = W3 := ⟨_, rfl⟩
    have q1 : W3.heap[w.heap.size + 1]? = some (.cells #[.slice a3 D.size c3] 22) := by
      rw [← hW3, heap_setCell_ne _ _ _ _ (by simp), heap_setCell_cells _ _ _ _ j2]; rfl
    have q2 : W3.heap[w.heap.size + 2]? = some (.cells #[.int .i64 0] 24) := by
      rw [← hW3, heap_setCell_cells (w := w3.setCell ⟨w.heap.size + 1, 0, none⟩ _) _ _ _ ((heap_setCell_ne _ _ _ _ (by simp)).trans j3)]; rfl
    have F33 : Fr (fun b => b = w.heap.size + 1 ∨ b = w.heap.size + 2) w3 W3 := by
      rw [← hW3]
      exact ((Fr.refl (fun b => b = w.heap.size + 1 ∨ b = w.heap.size + 2) _).setCell (a := ⟨w.heap.size + 1, 0, none⟩) (fun _ => .inl rfl) _).setCell (a := ⟨w.heap.size + 1 + 1, 0, none⟩) (fun _ => .inr rfl) _
    have q3 := F33.heap j5 (by omega)
    have q4 : ByC W3 a3 D.size c3 (D.sec at_) := by
      rw [HSEC.out]
      refine ⟨hb3.1.fr F33 fun b c hc e => ?_, hb3.2⟩
      rcases e with rfl | rfl
      · rw [j2] at hc; cases hc
      · rw [j3] at hc; cases hc
    rw [hW3]
    have FP : Fr (fun b => b = DD) W3 (W3.putObj DD (.deferred none)) := (Fr.refl (fun b => b = DD) _).putObj (fun _ => rfl) _
    refine devread_ret (b := w.heap.size) q1 q2 q3 (by omega) ⟨a3, c3, rfl, ⟨q4.1.fr FP fun b c hc e => ?_, q4.2⟩, ?_⟩ rfl rfl
    · rw [e, q3] at hc; cases hc
    · exact (j4.trans (S' := fun b => b = w.heap.size + 1 ∨ b = w.heap.size + 2) F33 (fun b hb h => by omega)).trans (S' := fun b => b = DD) FP (fun b hb h => by omega)
  case stop =>
    rintro DD c pre W hD hSp ⟨⟨rfl, pre0, x, rfl, hx, hpre0⟩, y, ⟨x', hx', hy⟩, a', c', ⟨h2, hb⟩, h3, hF⟩ hK
    obtain rfl : x = x' := by simpa using hx'
    have hsec : D.sec at_ = y.2 := by
      have hm := List.prefix_iff_eq_take.1 hSp
      have hlen2 : (pre0 ++ [x]).length ≤ ws.length := by have := hSp.length_le; rw [bk_len] at this; simpa using this
      rw [bk_take ws (by simpa using hlen2)] at hm
      simp only [List.length_map, List.length_append, List.length_cons, List.length_nil, List.map_append, List.map_cons, List.map_nil] at hm
      rw [bk_succ] at hm
      obtain ⟨hm1, hm2⟩ := List.append_inj' hm rfl
      have hm3 := (List.cons.inj hm2).1
      have hxi : x.1.1 = ws.length - 1 - pre0.length := by rw [hm3]
      have hl0 : pre0.length < ws.length := by simp at hlen2; omega
      refine sec_hit hy ?_ ?_
      · obtain ⟨y', hy', e1, _⟩ := x.2
        rw [hy] at hy'
        cases hy'
        rw [← e1]; exact hx
      · intro i z hi hz
        have hil := (List.getElem?_eq_some_iff.1 hz).1
        have hwi : ws[i]? = some (ws[i]'(by have := HWL.out; omega)) := List.getElem?_eq_getElem _
        have hmem := bk_mem ws (k := pre0.length) hwi (by have := HWL.out; omega)
        rw [← hm1] at hmem
        obtain ⟨q, hq, hqe⟩ := List.mem_map.1 hmem
        have := hpre0 q hq
        rw [hqe] at this
        rw [← (HWS.out i _ z hwi hz).1]
        exact this
    have hyl := hlen y (List.mem_of_getElem? hy)
    rw [hyl] at h2 hb
    have FP : Fr (fun b => b = DD) W (W.putObj DD (.deferred none)) := (Fr.refl (fun b => b = DD) _).putObj (fun _ => rfl) _
    have HS := hid (And.intro hsec (And.intro h2 (And.intro hb (And.intro h3 (And.intro hF (And.intro hK FP))))))
    clear hsec h2 hb h3 hF hK FP hSp hx hpre0 hy hyl hx'
    gi_wp2
    obtain ⟨hsec, h2, hb, h3, hF, hK, FP⟩ := HS.out
    refine devread_ret (b := w.heap.size) h2 h3 hK (by omega) ⟨a', c', rfl, ?_, ?_⟩ rfl rfl
    · rw [hsec]
      refine ⟨hb.1.fr FP fun b c hc e => ?_, hb.2⟩
      rw [e, hK] at hc; cases hc
    · exact hF.trans (S' := fun b => b = DD) FP (fun b hb h => by omega)
theorem devread_ok {w : World} {base d bf bq : Nat} {D : Dev} (h : DevAt w base d bf bq D) (hdown : D.down = false) (hlen : ∀ y ∈ D.loose, y.2.length = D.size) (hmany : D.loose.length ≤ 100000) (at_ : Nat) (hat : at_ < D.sectors) :
    Calls Tryz.prog 114 #[.pointer (some ⟨d, 0, none⟩), .int .i64 at_] w fun e w' => ∃ a c, e = .returned (.tuple #[.slice a D.size c, .int .i64 0]) ∧ ByV w' a D.size c (D.sec at_) ∧ Fr (fun _ => False) w w' :=
  (devread_cap h hdown hlen hmany at_ hat).mono fun e w' ⟨a, c, he, hb, F⟩ => ⟨a, c, he, hb.1, F⟩
end Go.Proofs.YtgdhaaokolfdoaaGreatDoor

/- wire: number, the writer. Conditions: the writer lies in the world as WtAt says, there is room. -/
namespace Go.Sg
open Go.RowKit
theorem leB_snoc (k : Nat) : ∀ n, leB n (k + 1) = leB n k ++ [((n / 256 ^ k % 256 : Nat) : Int)] := by
  induction k with
  | zero => intro n; simp [leB]
  | succ k ih =>
    intro n
    have := ih (n / 256)
    rw [leB, this, leB]
    simp only [List.cons_append]
    rw [Nat.div_div_eq_div_mul, Nat.pow_succ, Nat.mul_comm 256]
theorem leB_byte (k : Nat) : ∀ n, ∀ x ∈ leB n k, 0 ≤ x ∧ x < 256 := by
  induction k with
  | zero => intro n x hx; cases hx
  | succ k ih =>
    intro n x hx
    simp only [leB, List.mem_cons] at hx
    rcases hx with rfl | hx
    · omega
    · exact ih _ x hx
/-- The bytes that are laid when j rounds are over. -/
def nbytes (n k j : Nat) : List Int := leB n j ++ List.replicate (k - j) 0
theorem nbytes_set (n k j : Nat) (h : j < k) : (nbytes n k j).set j ((n / 256 ^ j % 256 : Nat) : Int) = nbytes n k (j + 1) := by
  obtain ⟨d, hd⟩ : ∃ d, k - j = d + 1 := ⟨k - j - 1, by omega⟩
  have e : k - (j + 1) = d := by omega
  rw [nbytes, nbytes, hd, e, leB_snoc, List.replicate_succ, List.append_assoc]
  rw [List.set_append_right _ _ (by rw [leB_length]; exact Nat.le_refl _), leB_length, Nat.sub_self]
  rfl
def ucells (bs : List Int) : Array Value := (bs.map (Value.int .u8)).toArray
theorem ucells_set (bs : List Int) (j : Nat) (x : Int) : (ucells bs).setIfInBounds j (.int .u8 x) = ucells (bs.set j x) := by simp [ucells]
theorem ByV.cells {w : World} {g n c : Nat} {bs : List Int} (h : w.heap[g]? = some (.cells (ucells bs) 5)) (hn : bs.length = n) : ByV w (some ⟨g, 0, none⟩) n c bs := by
  refine ⟨⟨hn, fun i x hx => ⟨g, 0, rfl, lt_of_heap h, ?_⟩⟩, .inr ⟨g, 0, _, rfl, h⟩⟩
  rw [cell_of_heap h]; simp [ucells, hx]
/-- A writer lies at r, its bytes in a row of its own from base on. -/
structure WtAt (w : World) (base r : Nat) (bs : List Int) (limit : Nat) : Prop where
  ex : ∃ v, w.heap[r]? = some (.cells #[v, .int .i64 limit, .bool false] 343) ∧ w.ownsRow base 5 1 v bs.length (bs.map (Value.int .u8))
  ge : base ≤ r
  room : bs.length ≤ limit ∧ limit ≤ 65536
theorem WtAt.fr {S : Nat → Prop} {w w' : World} {base r : Nat} {bs : List Int} {limit : Nat} (h : WtAt w base r bs limit) (F : Fr S w w') (hS : ∀ b, base ≤ b → b < w.heap.size → ¬ S b) : WtAt w' base r bs limit := by
  obtain ⟨⟨v, hr, hown⟩, hg, hm⟩ := h
  refine ⟨⟨v, F.heap hr (hS r hg (lt_of_heap hr)), ?_⟩, hg, hm⟩
  obtain ⟨hl, h0 | ⟨g, cap, cur, hv, hb, hgg, rest⟩⟩ := hown
  · exact ⟨hl, .inl h0⟩
  · exact ⟨hl, .inr ⟨g, cap, cur, hv, hb, F.heap hgg (hS g hb (lt_of_heap hgg)), rest⟩⟩
theorem slb_of_own {w : World} {base n : Nat} {v : Value} {bs : List Int} (h : w.ownsRow base 5 1 v n (bs.map (Value.int .u8))) : ∃ a c, v = .slice a n c ∧ SlB w a n c bs ∧ (a = none ∨ ∃ g, a = some ⟨g, 0, none⟩ ∧ base ≤ g) := by
  have h' := h
  obtain ⟨hl, ⟨rfl, rfl⟩ | ⟨g, cap, cur, rfl, hb, hg, _⟩⟩ := h'
  · have : bs = [] := List.eq_nil_of_length_eq_zero (by simpa using hl)
    subst this
    exact ⟨none, 0, rfl, (ByV.nil w).slb, .inl rfl⟩
  · obtain ⟨g', cap', c', e, hg', hB⟩ := byts_of_own h (by intro e; cases e)
    cases e
    exact ⟨_, _, rfl, ⟨hB, .inr ⟨_, rfl⟩⟩, .inr ⟨g, rfl, hb⟩⟩
end Go.Sg
namespace Go.Proofs.YtgdhaaokolfdoaaGreatDoor
open Go.RowKit Go.Sg
set_option maxHeartbeats 1000000 in
set_option maxRecDepth 100000 in
theorem number_ok (n k : Nat) (hk : k ≤ 8) (hn : n < 18446744073709551616) (w : World) :
    Calls Tryz.prog 238 #[.int .u64 n, .int .i64 k] w fun e w' => e = .returned (.slice (some ⟨w.heap.size, 0, none⟩) k k) ∧ ByV w' (some ⟨w.heap.size, 0, none⟩) k k (Sg.leB n k) ∧ Fr (fun _ => False) w w' := by
  obtain ⟨i0, hi, hz0, hz1, hz2⟩ := info_parts Tryz.info5
  have hmk := fun W => run_make_len (P := Tryz.prog) 22 5 i0 _ Tryz.underlying22 hi hz0 k (by rw [hz2]; omega) (by omega) W
  rw [hz1] at hmk
  clear hi hz0 hz1 hz2
  go_enter Tryz.func238, Tryz.ntmps238
  go_wp2
  go_loopw [0, 11] (fun m i wr => ∃ j : Nat, j ≤ k ∧ i = .int .i64 j ∧ m = .int .u64 ((n / 256 ^ j : Nat) : Int) ∧ wr.heap[w.heap.size]? = some (.cells (ucells (nbytes n k j)) 5) ∧ Fr (fun _ => False) w wr) (fun _ i _ => k - (intOf i).toNat)
  case atStart =>
    refine ⟨0, Nat.zero_le _, rfl, by simp, ?_, (Fr.refl _ _).alloc _⟩
    rw [heap_alloc_new]
    congr 2
    apply Array.toList_inj.1
    rw [toList_madeCells_one]
    simp [ucells, nbytes, Sg.leB]
  case round =>
    obtain ⟨j, hj, rfl, rfl, hg, hF⟩ := hrel
    by_cases hlt : j < k
    · have hlen : (nbytes n k j).length = k := by simp [nbytes, leB_length]; omega
      have cj : wr.cell? ⟨w.heap.size, j, none⟩ = some (.int .u8 ((nbytes n k j).getD j 0)) := by
        rw [cell_of_heap hg]
        simp [ucells, List.getD, List.getElem?_eq_getElem (show j < (nbytes n k j).length by omega)]
      have zj := fun o => frozen_of_heap hg o
      have hlg := lt_of_heap hg
      have hjd : decide (j < k) = true := by simpa using hlt
      have HG := hid hg
      have HF := hid hF
      have HLN := hid hlen
      clear hg hF hlen
      go_wp2
      go_roundw
      case rel =>
        refine ⟨j + 1, by omega, by go_num, ?_, ?_, ?_⟩
        · rw [Nat.pow_succ, ← Nat.div_div_eq_div_mul]; simp
        · rw [heap_setCell_cells _ _ _ _ HG.out, show ((n : Int) / 256 ^ j % 256) = ((n / 256 ^ j % 256 : Nat) : Int) by simp, ucells_set, nbytes_set n k j hlt]
        · exact HF.out.setNew (Nat.le_refl _) _
      case measure => simp [intOf]; omega
    · obtain rfl : j = k := by omega
      go_wp2
      go_ret
      have e : nbytes n j j = Sg.leB n j := by simp [nbytes]
      rw [e] at hg
      exact ⟨rfl, ByV.cells hg (leB_length _ _), hF⟩
theorem newwriter_ok (limit : Nat) (hl : limit ≤ 65536) (w : World) :
    Calls Tryz.prog 178 #[.int .i64 limit] w fun e w' => e = .returned (.pointer (some ⟨w.heap.size, 0, none⟩)) ∧ WtAt w' w.heap.size w.heap.size [] limit ∧ Fr (fun _ => False) w w' := by
  go_enter Tryz.func178, Tryz.ntmps178
  go_wp2
  go_ret
  exact ⟨rfl, ⟨⟨_, heap_alloc_new _ _, World.ownsRow_nil _ _ _ _⟩, Nat.le_refl _, Nat.zero_le _, hl⟩, (Fr.refl _ _).alloc _⟩
theorem own_block5 {w : World} {base n size : Nat} {v : Value} {xs : List Value} (h : w.ownsRow base 5 size v n xs) {g : Nat} (hg : some g = v.ownBlock) : base ≤ g ∧ ∃ c, w.heap[g]? = some (.cells c 5) := by
  obtain ⟨_, ⟨rfl, _⟩ | ⟨g', cap, cur, rfl, hb, hh, _⟩⟩ := h
  · cases hg
  · cases hg; exact ⟨hb, _, hh⟩
/-- What a writer may turn. -/
def WtS (w : World) (base r b : Nat) : Prop := base ≤ b ∧ (b = r ∨ ∃ c, w.heap[b]? = some (.cells c 5))
set_option maxHeartbeats 2000000 in
set_option maxRecDepth 100000 in
theorem raww_some {w : World} {base r limit : Nat} {bs : List Int} (h : WtAt w base r bs limit) (hbase : base ≤ w.heap.size) {b off n c : Nat} {xs : List Int} (hx : ByV w (some ⟨b, off, none⟩) n c xs) (hroom : bs.length + n ≤ limit) :
    Calls Tryz.prog 237 #[.pointer (some ⟨r, 0, none⟩), .slice (some ⟨b, off, none⟩) n c] w fun e w' => e = .returned (.tuple #[]) ∧ WtAt w' base r (bs ++ xs) limit ∧ Fr (WtS w base r) w w' := by
  obtain ⟨i0, hi0, hz0, hz1, hz2⟩ := info_parts Tryz.info5
  obtain ⟨⟨v, hr, hown⟩, hge, hle, hlim⟩ := h
  obtain ⟨a, cv, rfl, _, _⟩ := slb_of_own hown
  have c0 := cell_of_heap hr 0
  have c1 := cell_of_heap hr 1
  have c2 := cell_of_heap hr 2
  have cz := fun o => frozen_of_heap hr o
  simp at c0 c1 c2
  have lt := lt_of_heap hr
  have hd : decide (((limit : Int) - (bs.length : Int)) < (n : Int)) = false := by simp; omega
  have hd2 : ¬ ((limit : Int) - (bs.length : Int)) < (n : Int) := by omega
  have hxl := hx.len
  have HR := hid hr
  have HO := hid hown
  have HX := hid hx
  have HXL := hid hxl
  clear hr hown hx hxl
  go_enter Tryz.func237, Tryz.ntmps237
  go_wp2
  go_region
  obtain ⟨W1, hW1⟩ : ∃ W1, (w.setCell ⟨r, 2, none⟩ (.bool false)).drew = W1 := ⟨_, rfl⟩
  rw [hW1]
  have F1 : Fr (fun b => b = r) w W1 := by rw [← hW1]; exact ((Fr.refl (fun b => b = r) _).setCell (a := ⟨r, 2, none⟩) (fun _ => rfl) _).drew
  have hr1 : W1.heap[r]? = some (.cells #[.slice a bs.length cv, .int .i64 limit, .bool false] 343) := by
    rw [← hW1]; exact (heap_setCell_cells _ _ _ _ HR.out)
  have hs1 : W1.heap.size = w.heap.size := by rw [← hW1]; simp
  have ne5 : ∀ g cs, w.heap[g]? = some (.cells cs 5) → ¬ g = r := fun g cs hg e => by rw [e, HR.out] at hg; cases hg
  have hown1 : W1.ownsRow base 5 1 (.slice a bs.length cv) bs.length (bs.map (Value.int .u8)) := ownsRow_fr HO.out F1 ne5
  have hx1 : ByV W1 (some ⟨b, off, none⟩) n c xs := HX.out.fr F1 ne5
  have e0 := cell_of_heap hr1 0
  have e1 := cell_of_heap hr1 1
  have e2 := cell_of_heap hr1 2
  have ez := fun o => frozen_of_heap hr1 o
  simp at e0 e1 e2
  have lt1 := lt_of_heap hr1
  have hcell : ∀ (j : Nat) (u : Value), (xs.map (Value.int .u8))[j]? = some u → W1.cell? ((⟨b, off, none⟩ : Addr).add j) = some u := fun j u hu => by
    rw [List.getElem?_map] at hu
    cases hx : xs[j]? with
    | none => rw [hx] at hu; cases hu
    | some x =>
      rw [hx] at hu
      cases hu
      obtain ⟨b', off', e, hb, hc⟩ := hx1.by_.at_ j x hx
      cases e
      rw [addr_add]
      exact hc
  have HC := hid hcell
  have HO1 := hid hown1
  have HX1 := hid hx1
  have HR1 := hid hr1
  have HF1 := hid F1
  clear hcell hown1 hx1 hr1 F1 hW1 c0 c1 c2 cz ne5
  go_wp2_with (at_builtin; refine wpList_append_own_at _ rfl (.tmp 37) (.tmp 38) 22 rfl base 5 i0 _ 1 1 Tryz.underlying22 hi0 hz0 hz1 hz2 rfl (by decide) _ _ _ rfl HO1.out ⟨b, off, none⟩ n c (xs.map (Value.int .u8)) rfl (by have := HXL.out; simpa using this) HC.out ?c2 ?c3 ?c4 (by omega) ?_)
  case c2 => intro u hu; obtain ⟨x, _, rfl⟩ := List.mem_map.1 hu; rfl
  case c3 => simp [maxLen]; omega
  case c4 => omega
  intro v1 w2 hown2 hgrow hnil hat
  have hr2 : w2.heap[r]? = some (.cells #[.slice a bs.length cv, .int .i64 limit, .bool false] 343) := by
    refine (hgrow.block r lt1 fun e => ?_).trans HR1.out
    obtain ⟨_, cs, hc⟩ := own_block5 HO1.out e
    rw [HR1.out] at hc; cases hc
  have F2 : Fr (fun b => base ≤ b ∧ ∃ c, W1.heap[b]? = some (.cells c 5)) W1 w2 := ⟨hgrow.os, hgrow.tape, hgrow.output, hgrow.size, fun b hb hn => hgrow.block b hb fun e => hn (own_block5 HO1.out e)⟩
  obtain ⟨a2, c2', rfl, _, _⟩ := slb_of_own (bs := bs ++ xs) (by simpa using hown2)
  have H2 := hid (And.intro hown2 (And.intro hr2 F2))
  have x0 := cell_of_heap hr2 0
  have xz := fun o => frozen_of_heap hr2 o
  simp at x0
  have lt2 := lt_of_heap hr2
  clear hown2 hgrow hnil hat hr2 F2
  go_wp2
  go_end0
  obtain ⟨hown2, hr2, F2⟩ := H2.out
  have F3 : Fr (fun b => b = r) w2 (w2.setCell ⟨r, 0, none⟩ (.slice a2 (bs.length + n) c2')) := (Fr.refl (fun b => b = r) _).setCell (a := ⟨r, 0, none⟩) (fun _ => rfl) _
  have hlen : (bs ++ xs).length = bs.length + n := by rw [List.length_append, HXL.out]
  refine ⟨rfl, ⟨⟨_, heap_setCell_cells _ _ _ _ hr2, ?_⟩, hge, by rw [hlen]; omega, hlim⟩, ?_⟩
  · rw [hlen, List.map_append]
    exact ownsRow_fr hown2 F3 (fun g cs hg e => by rw [e, hr2] at hg; cases hg)
  · exact ((HF1.out.mono (S' := WtS w base r) (fun b _ e => ⟨by rw [e]; exact hge, .inl e⟩)).trans F2 (fun b hb h => ⟨h.1, by
      by_cases hbr : b = r
      · exact .inl hbr
      · obtain ⟨c, hc⟩ := h.2
        exact .inr ⟨c, (HF1.out.block b hb hbr).symm.trans hc⟩⟩)).trans F3 (fun b _ e => ⟨by rw [e]; exact hge, .inl e⟩)
set_option maxHeartbeats 2000000 in
set_option maxRecDepth 100000 in
theorem raww_none {w : World} {base r limit : Nat} {bs : List Int} (h : WtAt w base r bs limit) :
    Calls Tryz.prog 237 #[.pointer (some ⟨r, 0, none⟩), .slice none 0 0] w fun e w' => e = .returned (.tuple #[]) ∧ WtAt w' base r bs limit ∧ Fr (WtS w base r) w w' := by
  obtain ⟨⟨v, hr, hown⟩, hge, hle, hlim⟩ := h
  obtain ⟨a, cv, rfl, _, _⟩ := slb_of_own hown
  have c0 := cell_of_heap hr 0
  have c1 := cell_of_heap hr 1
  have c2 := cell_of_heap hr 2
  have cz := fun o => frozen_of_heap hr o
  simp at c0 c1 c2
  have lt := lt_of_heap hr
  have hd : decide (((limit : Int) - (bs.length : Int)) < 0) = false := by simp; omega
  have hd2 : ¬ ((limit : Int) - (bs.length : Int)) < 0 := by omega
  have HR := hid hr
  have HO := hid hown
  clear hr hown
  go_enter Tryz.func237, Tryz.ntmps237
  go_wp2
  go_region
  obtain ⟨W1, hW1⟩ : ∃ W1, (w.setCell ⟨r, 2, none⟩ (.bool false)).drew = W1 := ⟨_, rfl⟩
  rw [hW1]
  have F1 : Fr (fun b => b = r) w W1 := by rw [← hW1]; exact ((Fr.refl (fun b => b = r) _).setCell (a := ⟨r, 2, none⟩) (fun _ => rfl) _).drew
  have hr1 : W1.heap[r]? = some (.cells #[.slice a bs.length cv, .int .i64 limit, .bool false] 343) := by
    rw [← hW1]; exact (heap_setCell_cells _ _ _ _ HR.out)
  have ne5 : ∀ g cs, w.heap[g]? = some (.cells cs 5) → ¬ g = r := fun g cs hg e => by rw [e, HR.out] at hg; cases hg
  have hown1 : W1.ownsRow base 5 1 (.slice a bs.length cv) bs.length (bs.map (Value.int .u8)) := ownsRow_fr HO.out F1 ne5
  have e0 := cell_of_heap hr1 0
  have e2 := cell_of_heap hr1 2
  have ez := fun o => frozen_of_heap hr1 o
  simp at e0 e2
  have lt1 := lt_of_heap hr1
  obtain ⟨i0, hi0, _⟩ := info_parts Tryz.info5
  have HO1 := hid hown1
  have HR1 := hid hr1
  have HF1 := hid F1
  clear hown1 hr1 F1 hW1 c0 c1 c2 cz ne5
  go_wp2_with (at_builtin; refine wpList_append_own_none rfl (.tmp 37) (.tmp 38) 22 rfl base 5 i0 1 Tryz.underlying22 hi0 _ _ _ rfl HO1.out rfl ?_)
  go_end0
  have F3 : Fr (fun b => b = r) W1 (W1.setCell ⟨r, 0, none⟩ (.slice a bs.length cv)) := (Fr.refl (fun b => b = r) _).setCell (a := ⟨r, 0, none⟩) (fun _ => rfl) _
  refine ⟨rfl, ⟨⟨_, heap_setCell_cells _ _ _ _ HR1.out, ?_⟩, hge, hle, hlim⟩, ?_⟩
  · exact ownsRow_fr HO1.out F3 (fun g cs hg e => by rw [e, HR1.out] at hg; cases hg)
  · exact (HF1.out.mono (S' := WtS w base r) (fun b _ e => ⟨by rw [e]; exact hge, .inl e⟩)).trans F3 (fun b _ e => ⟨by rw [e]; exact hge, .inl e⟩)
theorem raww_ok2 {w : World} {base r limit : Nat} {bs : List Int} (h : WtAt w base r bs limit) (hbase : base ≤ w.heap.size) {a : Option Addr} {n c : Nat} {xs : List Int} (hx : ByV w a n c xs) (hroom : bs.length + n ≤ limit) :
    Calls Tryz.prog 237 #[.pointer (some ⟨r, 0, none⟩), .slice a n c] w fun e w' => e = .returned (.tuple #[]) ∧ WtAt w' base r (bs ++ xs) limit ∧ Fr (WtS w base r) w w' := by
  rcases hx.at_ with ⟨rfl, rfl, rfl⟩ | ⟨b, off, cs, rfl, _⟩
  · have : xs = [] := List.eq_nil_of_length_eq_zero hx.len
    subst this
    rw [List.append_nil]
    exact raww_none h
  · exact raww_some h hbase hx hroom
set_option maxHeartbeats 1000000 in
theorem wnum_ok2 {w : World} {base r limit : Nat} {bs : List Int} (h : WtAt w base r bs limit) (hbase : base ≤ w.heap.size) (n k : Nat) (hk : k = 1 ∨ k = 2 ∨ k = 4 ∨ k = 8) (hn : n < 18446744073709551616) (hroom : bs.length + k ≤ limit) :
    Calls Tryz.prog 179 #[.pointer (some ⟨r, 0, none⟩), .int .u64 n, .int .i64 k] w fun e w' => e = .returned (.tuple #[]) ∧ WtAt w' base r (bs ++ Sg.leB n k) limit ∧ Fr (WtS w base r) w w' := by
  have HM := hid (fun W => maynum k hk W)
  have HN := hid (number_ok n k (by omega) hn w)
  have H := hid h
  clear h hk
  go_enter Tryz.func179, Tryz.ntmps179
  go_wp2_with (go_at_call 236; refine (HM.out _).mono ?_; rintro e w' ⟨rfl, rfl⟩)
  refine HN.out.mono ?_
  rintro e w1 ⟨rfl, hb, F1⟩
  have HF1 := hid F1
  have HR := hid (raww_ok2 (H.out.fr F1 (fun _ _ _ h => h)) (Nat.le_trans hbase F1.size) hb hroom)
  clear hb F1
  go_wp2_with fail
  refine HR.out.mono ?_
  rintro e w2 ⟨rfl, hW, F2⟩
  have HF2 := hid (And.intro hW F2)
  clear hW F2
  go_wp2
  go_end0
  exact ⟨rfl, HF2.out.1, (HF1.out.mono (S' := WtS w base r) (fun _ _ h => h.elim)).trans HF2.out.2 (fun b hb h => ⟨h.1, h.2.imp id fun ⟨c, hc⟩ => ⟨c, (HF1.out.block b hb (fun h => h)).symm.trans hc⟩⟩)⟩
theorem raww_ok {w : World} {base r limit : Nat} {bs : List Int} (h : WtAt w base r bs limit) (hbase : base ≤ w.heap.size) {a : Option Addr} {n c : Nat} {xs : List Int} (hx : ByV w a n c xs) (hroom : bs.length + n ≤ limit) :
    Calls Tryz.prog 237 #[.pointer (some ⟨r, 0, none⟩), .slice a n c] w fun e w' => e = .returned (.tuple #[]) ∧ WtAt w' base r (bs ++ xs) limit ∧ Fr (fun b => base ≤ b) w w' :=
  (raww_ok2 h hbase hx hroom).mono fun e w' ⟨he, hw, F⟩ => ⟨he, hw, F.mono fun _ _ h => h.1⟩
theorem wnum_ok {w : World} {base r limit : Nat} {bs : List Int} (h : WtAt w base r bs limit) (hbase : base ≤ w.heap.size) (n k : Nat) (hk : k = 1 ∨ k = 2 ∨ k = 4 ∨ k = 8) (hn : n < 18446744073709551616) (hroom : bs.length + k ≤ limit) :
    Calls Tryz.prog 179 #[.pointer (some ⟨r, 0, none⟩), .int .u64 n, .int .i64 k] w fun e w' => e = .returned (.tuple #[]) ∧ WtAt w' base r (bs ++ Sg.leB n k) limit ∧ Fr (fun b => base ≤ b) w w' :=
  (wnum_ok2 h hbase n k hk hn hroom).mono fun e w' ⟨he, hw, F⟩ => ⟨he, hw, F.mono fun _ _ h => h.1⟩
theorem wbytes_ok {w : World} {base r limit : Nat} {bs : List Int} (h : WtAt w base r bs limit) :
    Calls Tryz.prog 180 #[.pointer (some ⟨r, 0, none⟩)] w fun e w' => ∃ a c, e = .returned (.slice a bs.length c) ∧ (ByV w' a bs.length c bs ∧ bs.length ≤ c) ∧ Fr (fun _ => False) w w' := by
  obtain ⟨⟨v, hr, hown⟩, hge, hle, hlim⟩ := h
  obtain ⟨a, cv, rfl, hs, _⟩ := slb_of_own hown
  have c0 := cell_of_heap hr 0
  simp at c0
  have HC := hid (clone_vc hs (by omega))
  clear hr hown hs
  go_enter Tryz.func180, Tryz.ntmps180
  go_wp2_with fail
  refine HC.out.mono ?_
  rintro e w1 ⟨a', c', rfl, hb, F1⟩
  have HB := hid (And.intro hb F1)
  clear hb F1
  go_wp2
  go_ret
  exact ⟨a', c', rfl, HB.out.1, HB.out.2⟩
end Go.Proofs.YtgdhaaokolfdoaaGreatDoor
