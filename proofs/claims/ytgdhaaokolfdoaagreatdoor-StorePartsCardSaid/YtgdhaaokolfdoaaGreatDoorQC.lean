/- A pack of texts: CX, LR, SA, SK, SL, SG, SW. Conditions: those that each text names. -/
import Derived.Test.YtgdhaaokolfdoaaGreatDoorQB
import Derived.Shelf.RegionOpen
import Derived.Test.YtgdhaaokolfdoaaGreatDoorQA
import Derived.Deep.RegionHeld3
/- crc: all, more, Add, Sum. Conditions: the bytes lie in the world as Byts says, they are bytes. -/
namespace Go.Proofs.YtgdhaaokolfdoaaGreatDoor
open Go.RowKit Go.Sg Go.Shelf
attribute [local go_sem] Oper.semAt_some
theorem allb_any (a : Option Addr) (n c : Nat) (w : World) :
    Calls Tryz.prog 290 #[.slice a n c] w fun e w' => e = .returned (.func (.func 291) #[] #[.pointer (some ⟨w.heap.size, 0, none⟩)]) ∧ w.alloc (.cells #[.slice a n c] 203) = w' := by
  go_enter Tryz.func290, Tryz.ntmps290
  go_wp2
  go_ret
  exact ⟨rfl, rfl⟩
abbrev Byte := { x : Int // 0 ≤ x ∧ x < 256 }
abbrev encY (x : Byte) : Array Value := #[.int .u8 x.1]
def KpY (a : Option Addr) (W W' : World) : Prop := ∀ b off, a = some ⟨b, off, none⟩ → W'.heap[b]? = W.heap[b]?
set_option maxRecDepth 100000 in
set_option maxHeartbeats 2000000 in
theorem allb_stops {w : World} {bx g : Nat} {a : Option Addr} {n c : Nat} {bs : List Byte} (hx : w.heap[bx]? = some (.cells #[.slice (some ⟨g, 0, none⟩) 1 1] 203)) (hg : w.heap[g]? = some (.cells #[.slice a n c] 22)) (hb : Byts w a n (bs.map (·.1))) (hn : n ≤ 65536) :
    SeqStopsK Fence.wide 9 Tryz.prog 291 #[.pointer (some ⟨bx, 0, none⟩)] encY (KpY a) (fun xs => xs = bs) (fun pre => pre <+: bs) bs.length w := fun l J Jx W hW hJ _ hY h0 => by
  have cx := cell_of_heap ((hW.block bx (lt_of_heap hx)).trans hx) 0
  have cg := cell_of_heap ((hW.block g (lt_of_heap hg)).trans hg) 0
  simp at cx cg
  have hlen : bs.length = n := by have := hb.len; simpa using this
  have hcl : ∀ (i : Nat) (x : Byte), bs[i]? = some x → ∃ b off, a = some ⟨b, off, none⟩ ∧ W.cell? ⟨b, off + i, none⟩ = some (.int .u8 x.1) := fun i x hi => by
    obtain ⟨b, off, e, hlt, hc⟩ := hb.at_ i x.1 (by rw [List.getElem?_map, hi]; rfl)
    exact ⟨b, off, e, (hW.cell (p := ⟨b, off + i, none⟩) hlt).trans hc⟩
  have HCL := hid hcl
  have HLEN := hid hlen
  clear hx hg hb hW hcl hlen
  refine callsIn_of_wp Tryz.func291 rfl trivial ?_ rfl
  simp only [Tryz.ntmps291, List.size_toArray, List.length_cons, List.length_nil, Nat.reduceAdd, Nat.reduceSub, Array.replicate_succ, Array.replicate_zero, List.push_toArray, List.append_toArray, List.nil_append, List.cons_append]
  gi_wp2
  gi_loopw [9] (fun i wr => (i = .int .i64 0 ∧ J [] wr ∧ wr = W) ∨ (i = .int .i64 1 ∧ J bs wr)) (fun i _ => (1 - intOf i).toNat)
  case atStart => exact .inl ⟨rfl, h0, rfl⟩
  case round =>
    rcases hrel with ⟨rfl, hJs, rfl⟩ | ⟨rfl, hJs⟩
    · gi_wp2
      obtain ⟨wo, rfl⟩ : ∃ wo : World, wo = wr := ⟨_, rfl⟩
      gi_loopw [15] (fun i wr => ∃ k : Nat, k ≤ n ∧ i = .int .i64 k ∧ J (bs.take k) wr ∧ KpY a wo wr) (fun i _ => n - (intOf i).toNat)
      case atStart => exact ⟨0, Nat.zero_le _, rfl, hJs, fun _ _ _ => rfl⟩
      case round =>
        obtain ⟨k, hk, rfl, hJ2, hkp⟩ := hrel
        by_cases hlt : k < n
        · obtain ⟨x, hx⟩ : ∃ x, bs[k]? = some x := ⟨bs[k]'(by rw [HLEN.out]; exact hlt), List.getElem?_eq_getElem _⟩
          obtain ⟨b, off, rfl, hc⟩ := HCL.out k x hx
          have cb := (World.cell?_of_block (a := ⟨b, off + k, none⟩) (hkp b off rfl)).trans hc
          have hs : bs.take (k + 1) = bs.take k ++ [x] := by rw [List.take_add_one, hx]; rfl
          have hkl : (bs.take k).length = k := by rw [List.length_take]; have := HLEN.out; omega
          have HS := hid hs
          have HK := hid hkp
          have hkd : decide (k < n) = true := by simpa using hlt
          have hkd2 : decide ((k : Int) < (n : Int)) = true := by simpa using hlt
          clear hs hkp hx hc
          obtain ⟨fn, tmps, assign, body, hy, hR⟩ := hY _ x wr hJ2 (by rw [hkl, HLEN.out]; exact hlt)
          dsimp only [encY] at hy
          clear hkl
          gi_wp2
          refine hR.mono ?_
          rintro e W3 (⟨rfl, hJ3, hk3⟩ | ⟨rfl, hJx3⟩)
          · have HJ3 := hid hJ3
            have HK3 := hid hk3
            clear hJ3 hk3
            gi_wp2
            go_roundw
            case rel => exact ⟨k + 1, by omega, by go_num, by rw [HS.out]; exact HJ3.out, fun b' off' e => (HK3.out b' off' e).trans (HK.out b' off' e)⟩
            case measure => simp [intOf]; omega
          · have HJX := hid hJx3
            clear hJx3
            gi_wp2
            refine bodyPost_ret (results_none rfl _ _ _) rfl ?_
            exact ⟨⟨_, rfl⟩, .inr ⟨_, ⟨bs.drop (k + 1), by rw [← HS.out]; exact List.take_append_drop _ _⟩, HJX.out⟩⟩
        · obtain rfl : k = n := by omega
          have e : bs.take k = bs := List.take_of_length_le (by rw [HLEN.out]; exact Nat.le_refl _)
          rw [e] at hJ2
          gi_wp2
          go_roundw
          case rel => exact .inr ⟨rfl, hJ2⟩
          case measure => simp [intOf]
    · gi_wp2
      go_end0
      exact ⟨⟨_, rfl⟩, .inl ⟨_, rfl, hJs⟩⟩
theorem heap_setCells {b : Nat} {t : TypeId} (vs : List Value) : ∀ (o : Nat) (w : World) (c : Array Value), w.heap[b]? = some (.cells c t) → ∃ c', (w.setCells b o vs).heap[b]? = some (.cells c' t) := by
  induction vs with
  | nil => intro o w c h; exact ⟨c, h⟩
  | cons v vs ih => intro o w c h; exact ih (o + 1) _ _ (heap_setCell_cells _ _ _ _ h)
theorem wpListIn_store_mid {F : Fence} {n : Nat} {P : Program} {ops : Array Oper} {rest : List Oper} {op : Oper} {a : Act} {w : World} {Q : Exit → Act → World → Prop} (hgd : op.guard = none) (ty : TypeId) (x y : Operand) (ho : op.op = .store ty x y)
    (b o : Nat) (cells : Array Value) (hx : a.eval x = .pointer (some ⟨b, o, none⟩)) (hy : a.eval y = .agg cells)
    (ht : w.there b o cells.size) (hi : (P.info? ty).map (·.size) = some cells.size) (h1 : cells.all (·.oneCell') = true)
    (h : wpListIn F n P ops Q rest (a.put op.dst undef) (w.setCells b o cells.toList)) : wpListIn F n P ops Q (op :: rest) a w := by
  refine wpListIn_plain hgd fun K hK => ?_
  unfold Oper.wpIn
  refine ⟨?_, ?_⟩
  · simp [Oper.about, ho]
  · rw [Oper.semAt_plain F _ _ (by rw [ho]; intro c hc; cases hc)]
    unfold execOp
    simp only [ho, hx, hy, Instr.storeAt, Instr.sureAddr, Sem.run_bind, Sem.run_pure, Result.andThen_ok, run_storeVar_mid w b o ty cells ht hi h1]
    exact hK _ _ h
/-- What the check is when some bytes have come. -/
def crcAcc (s : Nat) (bs : List Int) : Nat := bs.foldl crcNext s
theorem crcAcc_snoc (s : Nat) (l : List Int) (x : Int) : crcAcc s (l ++ [x]) = crcNext (crcAcc s l) x := by simp [crcAcc]
theorem crcNext_lt {n : Nat} (hn : n < 4294967296) {x : Int} (h0 : 0 ≤ x) (h1 : x < 256) : crcNext n x < 4294967296 := by
  unfold crcNext
  refine Nat.xor_lt_two_pow (n := 32) (by omega) (crcTab_lt ?_)
  exact Nat.xor_lt_two_pow (n := 8) (by omega) (by omega)
theorem crcAcc_lt (bs : List Byte) {s : Nat} (hs : s < 4294967296) : crcAcc s (bs.map (·.1)) < 4294967296 := by
  induction bs generalizing s with
  | nil => exact hs
  | cons x l ih => exact ih (crcNext_lt hs x.2.1 x.2.2)
set_option maxRecDepth 100000 in
set_option maxHeartbeats 8000000 in
theorem more_ok {w : World} {s g : Nat} {a : Option Addr} {n c : Nat} {bs : List Byte} (hs : s < 4294967296) (hg : w.heap[g]? = some (.cells #[.slice a n c] 22)) (hb : Byts w a n (bs.map (·.1))) (hal : ∀ b off, a = some ⟨b, off, none⟩ → b < w.heap.size) (hn : n ≤ 65536) :
    Calls Tryz.prog 288 #[.int .u32 s, .slice (some ⟨g, 0, none⟩) 1 1] w fun e w' => e = .returned (.int .u32 ((4294967295 ^^^ crcAcc (4294967295 ^^^ s) (bs.map (·.1)) : Nat) : Int)) ∧ Fr (fun _ => False) w w' := by
  refine (callsIn_wide (n := 10)).1 ?_
  have HG := hid hg
  have HB := hid hb
  clear hg hb
  obtain ⟨tab, htab⟩ : ∃ tab : Array Value, (tabL 256).toArray = tab := ⟨_, rfl⟩
  have hT := table_ok w
  rw [htab] at hT
  have hsz : (Tryz.prog.info? 396).map (·.size) = some tab.size := by rw [← htab, List.size_toArray, tabL_len]; kernel_rfl
  have h1c : tab.all (·.oneCell') = true := by rw [← htab]; simp [tabL, Value.oneCell']
  have hts : tab.size = 256 := by rw [← htab, List.size_toArray, tabL_len]
  have htg : ∀ i, i < 256 → tab[i]? = some (.int .u32 (crcTab i : Nat)) := fun i hi => by rw [← htab]; simp [tabL, hi]
  obtain ⟨zs, hzs⟩ : ∃ zs : Array Value, Tryz.zeroCells396 = zs := ⟨_, rfl⟩
  have hzl : zs.size = 256 := by rw [← hzs, tabL_zero, List.size_toArray, tabL_len]
  have HT := hid hT
  have HTG := hid htg
  have HTS := hid hts
  have HZS := hid hzs
  clear htab hT htg hts hzs
  refine callsIn_of_wp_marks Tryz.func288 rfl trivial ?_ rfl
  simp only [Tryz.ntmps288, List.size_toArray, List.length_cons, List.length_nil, Nat.reduceAdd, Nat.reduceSub, Array.replicate_succ, Array.replicate_zero, List.push_toArray, List.append_toArray, List.nil_append, List.cons_append]
  gi_wp2_with (fail)
  refine (callsIn_wide.2 HT.out).mono ?_
  rintro e w1 ⟨rfl, F1⟩
  obtain ⟨w2, hw2⟩ : ∃ w2, w1.alloc (.cells zs 396) = w2 := ⟨_, rfl⟩
  have h2 : w2.heap[w1.heap.size]? = some (.cells zs 396) := by rw [← hw2]; exact heap_alloc_new _ _
  have F2 : Fr (fun _ => False) w1 w2 := by rw [← hw2]; exact (Fr.refl _ _).alloc _
  have ht : w2.there w1.heap.size 0 tab.size := by
    intro j hj
    refine ⟨?_, frozen_of_heap h2 _⟩
    rw [cell_of_heap h2]
    rw [HTS.out] at hj
    simp; omega
  have HTH := hid ht
  have HW2 := hid hw2
  have H2 := hid (And.intro h2 F2)
  clear ht hw2 h2 F2
  dsimp only
  iterate 8 (first | (rw [HZS.out, HW2.out]) | (refine wpListIn_store_mid (by rfl) 396 (.tmp 5) (.tmp 8) (by rfl) w1.heap.size 0 tab (by rfl) (by rfl) HTH.out hsz h1c ?_) | gi_step | gi_upon | skip)
  obtain ⟨w3, hw3⟩ : ∃ w3, w2.setCells w1.heap.size 0 tab.toList = w3 := ⟨_, rfl⟩
  rw [hw3]
  have ht3 : ∃ c3, w3.heap[w1.heap.size]? = some (.cells c3 396) ∧ ∀ i, i < 256 → c3[i]? = some (.int .u32 (crcTab i : Nat)) := by
    obtain ⟨c3, h3⟩ := heap_setCells (b := w1.heap.size) tab.toList 0 w2 _ H2.out.1
    rw [hw3] at h3
    refine ⟨c3, h3, fun i hi => ?_⟩
    have hr := World.rangeAt_setCells_same w2 w1.heap.size 0 tab.toList (by simpa using HTH.out)
    rw [hw3] at hr
    have := hr i (.int .u32 (crcTab i : Nat)) (by simpa using HTG.out i hi)
    rw [cell_of_heap h3, Nat.zero_add] at this
    exact this
  obtain ⟨c3, h3, hc3⟩ := ht3
  have F3 : Fr (fun _ => False) w w3 := by
    rw [← hw3]
    exact Fr.setCells F1.size _ _ _ (F1.trans H2.out.2 (fun _ _ h => h))
  have HC3 := hid hc3
  have H3 := hid (And.intro h3 F3)
  have l3 := lt_of_heap h3
  clear hw3 h3 F3 hc3 H2 HTH HW2 HZS HTG HTS hsz h1c HT
  have hx0 : bits BinOp.xor IntKind.u32 IntKind.u32.max (s : Int) = ((4294967295 ^^^ s : Nat) : Int) := by
    rw [show IntKind.u32.max = ((4294967295 : Nat) : Int) from rfl, u32_xor_nat _ _ (by decide) hs]
  obtain ⟨s0, hs0⟩ : ∃ s0, 4294967295 ^^^ s = s0 := ⟨_, rfl⟩
  have hs0l : s0 < 4294967296 := by rw [← hs0]; exact Nat.xor_lt_two_pow (n := 32) (by decide) hs
  rw [hs0] at hx0
  have HX0 := hid hx0
  have HS0 := hid hs0
  clear hx0 hs0
  gi_wp2_with (fail)
  rw [HX0.out]
  refine (callsIn_wide.2 (allb_any _ _ _ _)).mono ?_
  rintro e w' ⟨rfl, rfl⟩
  gi_wp2_with (fail)
  obtain ⟨W0, hW0⟩ : ∃ W0, (w3.alloc (.cells #[.int .u32 s0] 373)).alloc (.cells #[.slice (some ⟨g, 0, none⟩) 1 1] 203) = W0 := ⟨_, rfl⟩
  have hF0 : Fr (fun _ => False) w3 W0 := by rw [← hW0]; exact ((Fr.refl _ w3).alloc _).alloc _
  have hsz : W0.heap.size = w3.heap.size + 1 + 1 := by rw [← hW0]; simp
  have hnx : W0.heap[w3.heap.size]? = some (.cells #[.int .u32 s0] 373) := by rw [← hW0]; exact (heap_alloc_lt _ _ _ (by simp)).trans (heap_alloc_new _ _)
  have hbx : W0.heap[w3.heap.size + 1]? = some (.cells #[.slice (some ⟨g, 0, none⟩) 1 1] 203) := by rw [← hW0]; have := heap_alloc_new (w3.alloc (.cells #[.int .u32 s0] 373)) (.cells #[.slice (some ⟨g, 0, none⟩) 1 1] 203); simpa using this
  have hFw := H3.out.2.trans hF0 (fun _ _ h => h)
  have hT0 := hF0.heap H3.out.1 (fun h => h)
  have hg0 := hFw.heap HG.out (fun h => h)
  have hb0 := HB.out.fr hFw (fun _ _ _ _ h => h)
  have hw0 := H3.out.2.size
  have ha := hb0.len
  have hbl : bs.length = n := by simpa using ha
  simp only [World.size_alloc, hW0]
  refine wpIn_rangeFunc_ownG (F := Fence.wide) rfl (by omega) (gf := 291) (lb := #[.pointer (some ⟨w3.heap.size + 1, 0, none⟩)]) rfl trivial (enters_of Tryz.func291 (by kernel_rfl) rfl)
    (allb_stops hbx hg0 hb0 hn) (fun h k b off e => (k b off e).trans (h b off e)) (fun W l o o' hl _ _ _ b off e => heap_putObj_ne _ _ _ _ (by have := hal b off e; omega)) (Below.refl _ _) (fun _ => rfl)
    (fun pre W => (W.heap[w3.heap.size]? = some (.cells #[.int .u32 ((crcAcc s0 (pre.map (·.1)) : Nat) : Int)] 373) ∧ W.heap[w1.heap.size]? = some (.cells c3 396)) ∧ Fr (fun _ => False) w W)
    (fun _ _ _ => False)
    (own_and (own_and (own_block _ _ _ (fun _ => .inl rfl)) (own_block _ _ _ (fun _ => .inl rfl))) (own_fr (by omega)))
    (fun _ _ _ _ _ h => h.elim)
    ⟨⟨hnx, hT0⟩, hFw⟩
    (fun x => { tmps := #[.int .u32 s, .slice (some ⟨g, 0, none⟩) 1 1, undef, undef, .int .u32 0, .pointer (some ⟨w1.heap.size, 0, none⟩), .pointer (some ⟨w3.heap.size, 0, none⟩), .int .u8 x.1, .agg tab, .int .u32 s, .int .u32 s0, .slice (some ⟨g, 0, none⟩) 1 1, .func (.func 291) #[] #[.pointer (some ⟨w3.heap.size + 1, 0, none⟩)], .int .u8 x.1, undef, undef, undef, undef, undef, undef, undef, undef, undef, undef, undef], defers := [] }) ?assign ?body ?done ?stop
  case assign =>
    intro l x W K hK
    gi_wp2
    exact hK
  case body =>
    rintro l pre x W ⟨⟨h1, h2⟩, hF⟩ hlen
    have hac := crcAcc_lt pre hs0l
    have hmx : Tryz.prog.follows .mixedOrders = true := by kernel_rfl
    generalize hacc : crcAcc s0 (pre.map (·.1)) = acc at h1 hac
    have k0 := cell_of_heap h1 0
    have kz := frozen_of_heap h1 0
    simp at k0
    have hidx : ((acc % 256) ^^^ x.1.toNat) < 256 := Nat.xor_lt_two_pow (n := 8) (by omega) (by have := x.2; omega)
    have kt := (cell_of_heap h2 ((acc % 256) ^^^ x.1.toNat)).trans (HC3.out _ hidx)
    obtain ⟨ix, hix⟩ : ∃ ix : Nat, (acc % 256) ^^^ x.1.toNat = ix := ⟨_, rfl⟩
    rw [hix] at kt hidx
    have hxr : bits BinOp.xor IntKind.u8 ((acc : Int) % 256) x.1 = (ix : Int) := by
      obtain ⟨y, hy⟩ := Int.eq_ofNat_of_zero_le x.2.1
      have := x.2.2
      rw [hy] at this hix ⊢
      rw [show ((acc : Int) % 256) = ((acc % 256 : Nat) : Int) by simp, u8_xor_nat _ _ (by omega) (by omega)]
      simp at hix
      rw [hix]
    have hxr2 : bits BinOp.xor IntKind.u8 (IntKind.u8.wrap (acc : Int)) x.1 = (ix : Int) := by
      rw [IntKind.wrap_u8']; exact hxr
    have HIX := hid hix
    clear hix
    have HA := hid hacc
    have H12 := hid (And.intro h1 (And.intro h2 hF))
    clear hacc h1 h2 hF
    gi_wp2
    have fin : KeepsFrom W0.heap.size W (W.setCell ⟨w3.heap.size, 0, none⟩ (.int .u32 (bits BinOp.xor IntKind.u32 ((acc : Int) / 256) ((crcTab ix : Nat) : Int)))).drew ∧
        KpY a W (W.setCell ⟨w3.heap.size, 0, none⟩ (.int .u32 (bits BinOp.xor IntKind.u32 ((acc : Int) / 256) ((crcTab ix : Nat) : Int)))).drew ∧
        (((W.setCell ⟨w3.heap.size, 0, none⟩ (.int .u32 (bits BinOp.xor IntKind.u32 ((acc : Int) / 256) ((crcTab ix : Nat) : Int)))).drew.heap[w3.heap.size]? = some (.cells #[.int .u32 ((crcAcc s0 ((pre ++ [x]).map (·.1)) : Nat) : Int)] 373) ∧
          (W.setCell ⟨w3.heap.size, 0, none⟩ (.int .u32 (bits BinOp.xor IntKind.u32 ((acc : Int) / 256) ((crcTab ix : Nat) : Int)))).drew.heap[w1.heap.size]? = some (.cells c3 396)) ∧
          Fr (fun _ => False) w (W.setCell ⟨w3.heap.size, 0, none⟩ (.int .u32 (bits BinOp.xor IntKind.u32 ((acc : Int) / 256) ((crcTab ix : Nat) : Int)))).drew) := by
      obtain ⟨h1, h2, hF⟩ := H12.out
      have hnw : bits BinOp.xor IntKind.u32 ((acc : Int) / 256) ((crcTab ix : Nat) : Int) = ((crcAcc s0 ((pre ++ [x]).map (·.1)) : Nat) : Int) := by
        rw [show (acc : Int) / 256 = ((acc / 256 : Nat) : Int) by simp, u32_xor_nat _ _ (by omega) (crcTab_lt hidx)]
        rw [List.map_append, show List.map (fun y : Byte => y.1) [x] = [x.1] from rfl, crcAcc_snoc, HA.out, ← HIX.out]
        rfl
      rw [hnw]
      refine ⟨((KeepsOthers.setCell _ _ _).trans (KeepsOthers.drew _)).from _, fun b off e => heap_setCell_ne _ _ _ _ (by have := hal b off e; simp; omega), ⟨?_, (heap_setCell_ne _ _ _ _ (by simp; omega)).trans h2⟩, (hF.setNew (by omega) _).drew⟩
      rw [show (W.setCell ⟨w3.heap.size, 0, none⟩ (.int .u32 ((crcAcc s0 ((pre ++ [x]).map (·.1)) : Nat) : Int))).drew.heap = (W.setCell ⟨w3.heap.size, 0, none⟩ (.int .u32 ((crcAcc s0 ((pre ++ [x]).map (·.1)) : Nat) : Int))).heap from rfl, heap_setCell_cells _ _ _ _ h1]
      rfl
    gi_region_with_o (fail)
    all_goals exact fin
  case done =>
    rintro D ys W hD rfl ⟨⟨h1, h2⟩, hF⟩ hK
    have hac := crcAcc_lt ys hs0l
    generalize hacc : crcAcc s0 (ys.map (·.1)) = acc at h1 hac
    have k0 := cell_of_heap h1 0
    simp at k0
    have hx1 : bits BinOp.xor IntKind.u32 IntKind.u32.max (acc : Int) = ((4294967295 ^^^ acc : Nat) : Int) := by
      rw [show IntKind.u32.max = ((4294967295 : Nat) : Int) from rfl, u32_xor_nat _ _ (by decide) hac]
    have HA := hid (And.intro hacc hx1)
    have HF := hid hF
    clear hacc hx1 h1 h2 hF
    gi_wp2
    rw [HA.out.2]
    refine marks_ret1 (t := 4) rfl hK ⟨by rw [HS0.out, HA.out.1]; rfl, HF.out.putObj (fun hh => by omega) _⟩
  case stop => exact fun _ _ _ _ _ _ h => h.elim
theorem bytes_sub {bs : List Int} (h : ∀ x ∈ bs, 0 ≤ x ∧ x < 256) : ∃ l : List Byte, l.map (·.1) = bs := by
  induction bs with
  | nil => exact ⟨[], rfl⟩
  | cons x r ih =>
    obtain ⟨l, hl⟩ := ih fun y hy => h y (by simp [hy])
    exact ⟨⟨x, h x (by simp)⟩ :: l, by simp [hl]⟩
set_option maxRecDepth 100000 in
theorem sum_ok {w : World} {a : Option Addr} {n c : Nat} {bs : List Int} (hb : ByV w a n c bs) (hby : ∀ x ∈ bs, 0 ≤ x ∧ x < 256) (hn : n ≤ 65536) :
    Calls Tryz.prog 267 #[.slice a n c] w fun e w' => e = .returned (.int .u32 ((crcM bs : Nat) : Int)) ∧ Fr (fun _ => False) w w' := by
  obtain ⟨l, rfl⟩ := bytes_sub hby
  obtain ⟨w1, hw1⟩ : ∃ w1, w.alloc (.cells #[.slice a n c] 22) = w1 := ⟨_, rfl⟩
  have F1 : Fr (fun _ => False) w w1 := by rw [← hw1]; exact (Fr.refl _ _).alloc _
  have b1 : w1.heap[w.heap.size]? = some (.cells #[.slice a n c] 22) := by rw [← hw1]; exact heap_alloc_new _ _
  have hal : ∀ b off, a = some ⟨b, off, none⟩ → b < w1.heap.size := fun b off e => by
    have hs := F1.size
    rcases hb.at_ with ⟨h0, _⟩ | ⟨b', off', cs, h1, h2⟩
    · rw [h0] at e; cases e
    · rw [h1] at e; cases e; have := lt_of_heap h2; omega
  have HM := hid (more_ok (s := 0) (by decide) b1 (hb.by_.fr F1 (fun _ _ _ _ h => h)) hal hn)
  have HW := hid hw1
  have HF1 := hid F1
  clear hw1 F1 b1 hb hby hal
  have HA : Calls Tryz.prog 285 #[.int .u32 0, .slice a n c] w fun e w' => e = .returned (.int .u32 ((crcM (l.map (·.1)) : Nat) : Int)) ∧ Fr (fun _ => False) w w' := by
    go_enter Tryz.func285, Tryz.ntmps285
    go_wp2_with fail
    rw [HW.out]
    refine HM.out.mono ?_
    rintro e w2 ⟨rfl, F2⟩
    have HF2 := hid F2
    clear F2
    go_wp2
    go_ret
    refine ⟨?_, HF1.out.trans HF2.out (fun _ _ h => h)⟩
    rw [crcM, Nat.xor_comm]
    rfl
  have HA := hid HA
  clear HM HW HF1
  go_enter Tryz.func267, Tryz.ntmps267
  go_wp2_with fail
  refine HA.out.mono ?_
  rintro e w2 ⟨rfl, F2⟩
  have HF2 := hid F2
  clear F2
  go_wp2
  go_ret
  exact ⟨rfl, HF2.out⟩
end Go.Proofs.YtgdhaaokolfdoaaGreatDoor

/- leaf: right, Read, Get of a sector that was never written. Conditions: the sector's bytes are 0. -/
namespace Go.Sg
open Go.RowKit
theorem leV_zeros (n : Nat) : leV (List.replicate n 0) = 0 := by
  induction n with
  | zero => rfl
  | succ n ih => simp [List.replicate_succ, leV, ih]
/-- Within leaf.Read: the leaf that is being read, and the reader. -/
structure LRs (w0 w : World) (r bx : Nat) (bs : List Int) (k p s : Int) (l : Value) : Prop where
  x : w.heap[bx]? = some (.cells #[.int .i64 k, .int .i64 p, .int .i64 s, l] 166)
  rd : RdAt w r bs false
  f : Fr (fun _ => False) w0 w
  le : w0.heap.size ≤ r ∧ w0.heap.size ≤ bx
theorem LRs.ne {w0 w : World} {r bx : Nat} {bs : List Int} {k p s : Int} {l : Value} (h : LRs w0 w r bx bs k p s l) : bx ≠ r := by
  intro e
  obtain ⟨a, c, hr, _⟩ := h.rd.ex
  rw [← e, h.x] at hr; cases hr
theorem LRs.call {w0 w w' : World} {r bx : Nat} {bs bs' : List Int} {k p s : Int} {l : Value} (h : LRs w0 w r bx bs k p s l) (F : Fr (fun b => b = r) w w') (hr : RdAt w' r bs' false) : LRs w0 w' r bx bs' k p s l :=
  ⟨F.heap h.x h.ne, hr, h.f.trans (S' := fun b => b = r) F (fun b hb e => by have := h.le.1; omega), h.le⟩
theorem RdAt.fr {S : Nat → Prop} {w w' : World} {r : Nat} {bs : List Int} {bad : Bool} (h : RdAt w r bs bad) (F : Fr S w w') (h1 : ¬ S r) (h2 : ∀ b c, w.heap[b]? = some (.cells c 5) → ¬ S b) : RdAt w' r bs bad := by
  obtain ⟨⟨a, c, hr, hb, hc⟩, hs⟩ := h
  exact ⟨⟨a, c, F.heap hr h1, hb.fr F h2, hc⟩, hs⟩
theorem LRs.set {w0 w : World} {r bx : Nat} {bs : List Int} {k p s : Int} {l : Value} (h : LRs w0 w r bx bs k p s l) (o : Nat) (v : Value) {k' p' s' : Int} {l' : Value}
    (he : (#[.int .i64 k, .int .i64 p, .int .i64 s, l] : Array Value).setIfInBounds o v = #[.int .i64 k', .int .i64 p', .int .i64 s', l']) : LRs w0 (w.setCell ⟨bx, o, none⟩ v) r bx bs k' p' s' l' := by
  have F : Fr (fun b => b = bx) w (w.setCell ⟨bx, o, none⟩ v) := (Fr.refl (fun b => b = bx) _).setCell (a := ⟨bx, o, none⟩) (fun _ => rfl) _
  refine ⟨?_, h.rd.fr F (fun e => h.ne e.symm) (fun b c hc e => by rw [e, h.x] at hc; cases hc), h.f.trans (S' := fun b => b = bx) F (fun b hb e => by have := h.le.2; omega), h.le⟩
  rw [heap_setCell_cells _ _ _ _ h.x, he]
end Go.Sg
namespace Go.Proofs.YtgdhaaokolfdoaaGreatDoor
open Go.RowKit Go.Sg
theorem num_zero {w : World} {r n : Nat} (h : RdAt w r (List.replicate n 0) false) (k : Nat) (hk : k = 1 ∨ k = 2 ∨ k = 4 ∨ k = 8) (hm : k ≤ n) :
    Calls Tryz.prog 216 #[.pointer (some ⟨r, 0, none⟩), .int .i64 k] w fun e w' => e = .returned (.int .u64 0) ∧ RdAt w' r (List.replicate (n - k) 0) false ∧ Fr (fun b => b = r) w w' := by
  refine (num_ok h (fun x hx => by rw [List.mem_replicate] at hx; omega) k hk (by simpa using hm)).mono fun e w' ⟨he, hr, hF⟩ => ⟨?_, ?_, hF⟩
  · rw [he, List.take_replicate, leV_zeros]; rfl
  · rw [List.drop_replicate] at hr; exact hr
theorem raw_zero {w : World} {r n : Nat} (h : RdAt w r (List.replicate n 0) false) :
    Calls Tryz.prog 217 #[.pointer (some ⟨r, 0, none⟩), .int .i64 0] w fun e w' => ∃ a c, e = .returned (.slice a 0 c) ∧ RdAt w' r (List.replicate n 0) false ∧ Fr (fun b => b = r) w w' :=
  (raw_ok h 0 (Nat.zero_le _)).mono fun e w' ⟨a, c, he, _, hr, hF⟩ => ⟨a, c, he, by simpa using hr, hF⟩
theorem bad_at {w : World} {r : Nat} {bs : List Int} {bad : Bool} (h : RdAt w r bs bad) : Calls Tryz.prog 218 #[.pointer (some ⟨r, 0, none⟩)] w fun e w' => e = .returned (.bool bad) ∧ w = w' := by
  obtain ⟨⟨a, c, hr, hb, hc⟩, hs⟩ := h
  have c1 := cell_of_heap hr 1
  simp at c1
  clear hr hb hc hs
  go_enter Tryz.func218, Tryz.ntmps218
  go_wp2
  go_ret
  exact ⟨rfl, rfl⟩
set_option maxRecDepth 100000 in
theorem right_low (k p s : Int) (a : Option Addr) (n c : Nat) (z : Int) (h1 : 96 ≤ z) (h2 : z ≤ 512) (hk : k < 1) (w : World) :
    Calls Tryz.prog 219 #[.agg #[.int .i64 k, .int .i64 p, .int .i64 s, .slice a n c], .int .i64 z] w fun e w' => e = .returned (.int .i64 1) ∧ Fr (fun _ => False) w w' := by
  go_enter Tryz.func219, Tryz.ntmps219
  go_wp2_with (go_at_call 159; refine (may_yes z h1 h2 _).mono ?_; rintro e w' ⟨rfl, rfl⟩)
  go_ret
  exact ⟨rfl, (Fr.refl _ _).alloc _⟩
set_option maxHeartbeats 2000000 in
set_option maxRecDepth 100000 in
theorem leafread_zero {w : World} {a : Option Addr} {n c : Nat} (h : SlB w a n c (List.replicate n 0)) (h1 : 96 ≤ n) (h2 : n ≤ 512) :
    Calls Tryz.prog 156 #[.slice a n c] w fun e w' => e = .returned (.tuple #[.agg #[.int .i64 0, .int .i64 0, .int .i64 0, .slice none 0 0], .int .i64 5]) ∧ Fr (fun _ => False) w w' := by
  obtain ⟨w1, hw1⟩ : ∃ w1, w.alloc (.cells #[.int .i64 0, .int .i64 0, .int .i64 0, .slice none 0 0] 166) = w1 := ⟨_, rfl⟩
  have F1 : Fr (fun _ => False) w w1 := by rw [← hw1]; exact (Fr.refl _ _).alloc _
  have b1 : w1.heap[w.heap.size]? = some (.cells #[.int .i64 0, .int .i64 0, .int .i64 0, .slice none 0 0] 166) := by rw [← hw1]; exact heap_alloc_new _ _
  have s1 : w1.heap.size = w.heap.size + 1 := by rw [← hw1]; simp
  have HNR := hid (newreader_ok (w := w1) (a := a) (n := n) (c := c) (bs := List.replicate n 0) ⟨h.by_.fr F1 (fun _ _ _ _ h => h), h.at_⟩ (by omega))
  have HW1 := hid hw1
  have HB1 := hid (And.intro F1 b1)
  clear h hw1 F1 b1
  go_enter Tryz.func156, Tryz.ntmps156
  go_wp2_with fail
  rw [HW1.out]
  refine (may_yes n (by omega) (by omega) _).mono ?_
  rintro e w' ⟨rfl, rfl⟩
  go_wp2_with fail
  refine HNR.out.mono ?_
  rintro e w2 ⟨r, rfl, hr, hrl, F2⟩
  obtain ⟨w3, hw3⟩ : ∃ w3, w2.alloc (.cells #[.int .i64 0, .int .i64 0, .int .i64 0, .slice none 0 0] 166) = w3 := ⟨_, rfl⟩
  have F3 : Fr (fun _ => False) w2 w3 := by rw [← hw3]; exact (Fr.refl _ _).alloc _
  have hs2 := F2.size
  have L3 : LRs w1 w3 r w2.heap.size (List.replicate n 0) 0 0 0 (.slice none 0 0) := ⟨by rw [← hw3]; exact heap_alloc_new _ _, hr.fr F3 (fun h => h) (fun _ _ _ h => h), F2.trans F3 (fun _ _ h => h), hrl, hs2⟩
  have HL3 := hid L3
  have HW3 := hid hw3
  clear hw3 F3 L3 hr F2
  go_wp2_with fail
  rw [HW3.out]
  refine (num_zero HL3.out.rd 1 (by omega) (by omega)).mono ?_
  rintro e w4 ⟨rfl, hr4, F4⟩
  have HL4 := hid (HL3.out.call F4 hr4)
  have x4 := cell_of_heap HL4.out.x 0
  have f4 := frozen_of_heap HL4.out.x 0
  simp at x4
  obtain ⟨w5, hw5⟩ : ∃ w5, w4.setCell ⟨w2.heap.size, 0, none⟩ (.int .i64 0) = w5 := ⟨_, rfl⟩
  have HL5 := HL4.out.set 0 (.int .i64 0) rfl
  rw [hw5] at HL5
  have HL5 := hid HL5
  have HW5 := hid hw5
  clear hw5 F4 hr4
  go_wp2_with fail
  rw [HW5.out]
  clear x4 f4
  refine (num_zero HL5.out.rd 2 (by omega) (by omega)).mono ?_
  rintro e w6 ⟨rfl, hr6, F6⟩
  have HL6 := hid (HL5.out.call F6 hr6)
  clear F6 hr6
  go_wp2_with fail
  refine (num_zero HL6.out.rd 4 (by omega) (by omega)).mono ?_
  rintro e w7 ⟨rfl, hr7, F7⟩
  have HL7 := hid (HL6.out.call F7 hr7)
  have x7 := cell_of_heap HL7.out.x 1
  have f7 := frozen_of_heap HL7.out.x 1
  simp at x7
  obtain ⟨w8, hw8⟩ : ∃ w8, w7.setCell ⟨w2.heap.size, 1, none⟩ (.int .i64 0) = w8 := ⟨_, rfl⟩
  have HL8 := HL7.out.set 1 (.int .i64 0) rfl
  rw [hw8] at HL8
  have HL8 := hid HL8
  have HW8 := hid hw8
  clear hw8 F7 hr7
  go_wp2_with fail
  rw [HW8.out]
  clear x7 f7
  refine (num_zero HL8.out.rd 8 (by omega) (by omega)).mono ?_
  rintro e w9 ⟨rfl, hr9, F9⟩
  have HL9 := hid (HL8.out.call F9 hr9)
  have x9 := cell_of_heap HL9.out.x 2
  have f9 := frozen_of_heap HL9.out.x 2
  simp at x9
  obtain ⟨w10, hw10⟩ : ∃ w10, w9.setCell ⟨w2.heap.size, 2, none⟩ (.int .i64 0) = w10 := ⟨_, rfl⟩
  have HL10 := HL9.out.set 2 (.int .i64 0) rfl
  rw [hw10] at HL10
  have HL10 := hid HL10
  have HW10 := hid hw10
  clear hw10 F9 hr9
  go_wp2_with fail
  rw [HW10.out]
  clear x9 f9
  refine (raw_zero HL10.out.rd).mono ?_
  rintro e w11 ⟨la, lc, rfl, hr11, F11⟩
  have HL11 := hid (HL10.out.call F11 hr11)
  have x11 := cell_of_heap HL11.out.x 3
  have f11 := frozen_of_heap HL11.out.x 3
  simp at x11
  obtain ⟨w12, hw12⟩ : ∃ w12, w11.setCell ⟨w2.heap.size, 3, none⟩ (.slice la 0 lc) = w12 := ⟨_, rfl⟩
  have HL12 := HL11.out.set 3 (.slice la 0 lc) rfl
  rw [hw12] at HL12
  have HL12 := hid HL12
  have HW12 := hid hw12
  clear hw12 F11 hr11
  go_wp2_with fail
  rw [HW12.out]
  clear x11 f11
  refine (bad_at HL12.out.rd).mono ?_
  rintro e w' ⟨rfl, rfl⟩
  have y0 := cell_of_heap HL12.out.x 0
  have y1 := cell_of_heap HL12.out.x 1
  have y2 := cell_of_heap HL12.out.x 2
  have y3 := cell_of_heap HL12.out.x 3
  simp at y0 y1 y2 y3
  go_wp2_with fail
  refine (right_low 0 0 0 la 0 lc n (by omega) (by omega) (by omega) _).mono ?_
  rintro e w13 ⟨rfl, F13⟩
  have G := HB1.out.1.trans (HL12.out.f.trans F13 (fun _ _ h => h)) (fun _ _ h => h)
  have hb13 := (HL12.out.f.trans F13 (fun _ _ h => h)).heap HB1.out.2 (fun h => h)
  have e0 := cell_of_heap hb13 0
  have e1 := cell_of_heap hb13 1
  have e2 := cell_of_heap hb13 2
  have e3 := cell_of_heap hb13 3
  have z := fun o => frozen_of_heap hb13 o
  simp at e0 e1 e2 e3
  have lt := lt_of_heap hb13
  have HG := hid (And.intro G hb13)
  clear G hb13 F13 y0 y1 y2 y3
  go_wp2
  refine bodyPost_ret (v := .tuple #[.agg #[.int .i64 0, .int .i64 0, .int .i64 0, .slice none 0 0], .int .i64 5]) (by simp [results, go_sem, *]) rfl ⟨rfl, ?_⟩
  exact (((HG.out.1.setNew (Nat.le_refl _) _).setNew (Nat.le_refl _) _).setNew (Nat.le_refl _) _).setNew (Nat.le_refl _) _
set_option maxHeartbeats 2000000 in
set_option maxRecDepth 100000 in
theorem leafget_zero {w : World} {base d bf bq : Nat} {D : Dev} (h : DevAt w base d bf bq D) (hdown : D.down = false) (hlen : ∀ y ∈ D.loose, y.2.length = D.size) (hmany : D.loose.length ≤ 100000) (at_ : Nat) (hat : at_ < D.sectors)
    (hz : D.sec at_ = List.replicate D.size 0) (kind place : Int) :
    Calls Tryz.prog 87 #[.pointer (some ⟨d, 0, none⟩), .int .i64 at_, .int .i64 kind, .int .i64 place] w fun e w' => e = .returned (.tuple #[.agg #[.int .i64 0, .int .i64 0, .int .i64 0, .slice none 0 0], .int .i64 5]) ∧ Fr (fun _ => False) w w' := by
  obtain ⟨w1, hw1⟩ : ∃ w1, w.alloc (.cells #[.int .i64 0, .int .i64 0, .int .i64 0, .slice none 0 0] 166) = w1 := ⟨_, rfl⟩
  have F1 : Fr (fun _ => False) w w1 := by rw [← hw1]; exact (Fr.refl _ _).alloc _
  have b1 : w1.heap[w.heap.size]? = some (.cells #[.int .i64 0, .int .i64 0, .int .i64 0, .slice none 0 0] 166) := by rw [← hw1]; exact heap_alloc_new _ _
  have HR := hid (devread_ok (h.fr F1 (fun h => h) (fun h => h) (fun h => h) (fun _ _ _ _ _ h => h)) hdown hlen hmany at_ hat)
  have hr := h.rg.2
  have HZ := hid hz
  have HW1 := hid hw1
  have HB1 := hid (And.intro F1 b1)
  clear h hw1 F1 b1 hz hdown hlen hmany
  go_enter Tryz.func87, Tryz.ntmps87
  go_wp2_with fail
  rw [HW1.out]
  refine HR.out.mono ?_
  rintro e w2 ⟨a, c, rfl, hb, F2⟩
  rw [HZ.out] at hb
  have HLR := hid (leafread_zero hb.slb (by omega) (by omega))
  have HF2 := hid F2
  clear hb F2
  go_wp2_with fail
  refine HLR.out.mono ?_
  rintro e w3 ⟨rfl, F3⟩
  have F13 := HF2.out.trans F3 (fun _ _ h => h)
  have hb3 := F13.heap HB1.out.2 (fun h => h)
  have e0 := cell_of_heap hb3 0
  have e1 := cell_of_heap hb3 1
  have e2 := cell_of_heap hb3 2
  have e3 := cell_of_heap hb3 3
  have z := fun o => frozen_of_heap hb3 o
  simp at e0 e1 e2 e3
  have lt := lt_of_heap hb3
  have HG := hid (HB1.out.1.trans F13 (fun _ _ h => h))
  clear hb3 F13 F3
  go_wp2
  refine bodyPost_ret (v := .tuple #[.agg #[.int .i64 0, .int .i64 0, .int .i64 0, .slice none 0 0], .int .i64 5]) (by simp [results, go_sem, *]) rfl ⟨rfl, ?_⟩
  exact ((((HG.out.setNew (Nat.le_refl _) _).setNew (Nat.le_refl _) _).setNew (Nat.le_refl _) _).setNew (Nat.le_refl _) _).alloc _
end Go.Proofs.YtgdhaaokolfdoaaGreatDoor

/- The store: in, Gen, Held, Plan, Mark. Conditions: the store lies in the world as StoreAt says. -/
namespace Go.Proofs.YtgdhaaokolfdoaaGreatDoor
open Go.RowKit Go.Sg Go.Sg.Bits CP
/-- The cells of a store, one by one. -/
structure SC (w : World) (B : Blk) (x : Sto) : Prop where
  c0 : w.cell? ⟨B.s, 0, none⟩ = some (.pointer (some ⟨B.d, 0, none⟩))
  c9 : w.cell? ⟨B.s, 9, none⟩ = some (.int .i64 x.first)
  c10 : w.cell? ⟨B.s, 10, none⟩ = some (.int .i64 x.pages)
  c11 : w.cell? ⟨B.s, 11, none⟩ = some (.int .i64 x.room)
  c12 : w.cell? ⟨B.s, 12, none⟩ = some (.int .i64 x.gen)
  c13 : w.cell? ⟨B.s, 13, none⟩ = some (.pointer (some ⟨B.bs, 0, none⟩))
  c14 : w.cell? ⟨B.s, 14, none⟩ = some (.map (some B.fr))
  c15 : w.cell? ⟨B.s, 15, none⟩ = some (.map (some B.dy))
  c16 : w.cell? ⟨B.s, 16, none⟩ = some (.map (some B.de))
  c17 : w.cell? ⟨B.s, 17, none⟩ = some (.pointer (some ⟨B.bc, 0, none⟩))
  z : ∀ o, w.frozen? ⟨B.s, o, none⟩ = false
  lt : B.s < w.heap.size
theorem StoreAt.sc {w : World} {B : Blk} {x : Sto} (h : StoreAt w B x) : SC w B x :=
  ⟨by simpa using cell_of_heap h.s 0, by simpa using cell_of_heap h.s 9, by simpa using cell_of_heap h.s 10, by simpa using cell_of_heap h.s 11, by simpa using cell_of_heap h.s 12, by simpa using cell_of_heap h.s 13,
    by simpa using cell_of_heap h.s 14, by simpa using cell_of_heap h.s 15, by simpa using cell_of_heap h.s 16, by simpa using cell_of_heap h.s 17, fun o => frozen_of_heap h.s o, lt_of_heap h.s⟩
namespace SF
theorem in_ok {w : World} {B : Blk} {x : Sto} (h : StoreAt w B x) (p st : Int) (h0 : 0 ≤ p) (h1 : p < x.pages) :
    Calls Tryz.prog 85 #[B.ptr, .agg #[.int .i64 p, .int .i64 st]] w fun e w' => e = .returned (.int .i64 0) ∧ Fr (fun _ => False) w w' := by
  have c10 := h.sc.c10
  have l := h.sc.lt
  clear h
  go_enter Tryz.func85, Tryz.ntmps85
  go_wp2
  go_quiet (fail)
  go_wp2
  go_ret
  exact ⟨rfl, ((Fr.refl _ _).alloc _).drewN _⟩
theorem in_low {w : World} {B : Blk} {x : Sto} (h : StoreAt w B x) (p st : Int) (h0 : p < 0) :
    Calls Tryz.prog 85 #[B.ptr, .agg #[.int .i64 p, .int .i64 st]] w fun e w' => e = .returned (.int .i64 2) ∧ Fr (fun _ => False) w w' := by
  have c10 := h.sc.c10
  have l := h.sc.lt
  clear h
  go_enter Tryz.func85, Tryz.ntmps85
  go_wp2
  go_quiet (fail)
  go_wp2
  go_ret
  exact ⟨rfl, ((Fr.refl _ _).alloc _).drewN _⟩
theorem in_high {w : World} {B : Blk} {x : Sto} (h : StoreAt w B x) (p st : Int) (h0 : 0 ≤ p) (h1 : x.pages ≤ p) :
    Calls Tryz.prog 85 #[B.ptr, .agg #[.int .i64 p, .int .i64 st]] w fun e w' => e = .returned (.int .i64 2) ∧ Fr (fun _ => False) w w' := by
  have c10 := h.sc.c10
  have l := h.sc.lt
  clear h
  go_enter Tryz.func85, Tryz.ntmps85
  go_wp2
  go_quiet (fail)
  go_wp2
  go_ret
  exact ⟨rfl, ((Fr.refl _ _).alloc _).drewN _⟩
theorem in_no {w : World} {B : Blk} {x : Sto} (h : StoreAt w B x) (p st : Int) (h0 : p < 0 ∨ x.pages ≤ p) :
    Calls Tryz.prog 85 #[B.ptr, .agg #[.int .i64 p, .int .i64 st]] w fun e w' => e = .returned (.int .i64 2) ∧ Fr (fun _ => False) w w' := by
  rcases Int.lt_or_le p 0 with h1 | h1
  · exact in_low h p st h1
  · exact in_high h p st h1 (by omega)
theorem in_nil (p st : Int) (w : World) :
    Calls Tryz.prog 85 #[.pointer none, .agg #[.int .i64 p, .int .i64 st]] w fun e w' => e = .returned (.int .i64 1) ∧ Fr (fun _ => False) w w' := by
  go_enter Tryz.func85, Tryz.ntmps85
  go_wp2
  go_ret
  exact ⟨rfl, (Fr.refl _ _).alloc _⟩
theorem gen_at {w : World} {B : Blk} {x : Sto} (h : StoreAt w B x) : Calls Tryz.prog 31 #[B.ptr] w fun e w' => e = .returned (.int .i64 x.gen) ∧ w = w' := by
  have c := h.sc.c12
  clear h
  go_enter Tryz.func31, Tryz.ntmps31
  go_wp2
  go_ret
  exact ⟨rfl, rfl⟩
theorem gen_nil (w : World) : Calls Tryz.prog 31 #[.pointer none] w fun e w' => e = .returned (.int .i64 0) ∧ w = w' := by
  go_enter Tryz.func31, Tryz.ntmps31
  go_wp2
  go_ret
  exact ⟨rfl, rfl⟩
theorem held_at {w : World} {B : Blk} {x : Sto} (h : StoreAt w B x) : Calls Tryz.prog 23 #[B.ptr] w fun e w' => ∃ c : Nat, e = .returned (.int .i64 c) ∧ (c ≤ x.places ∧ ∀ L, Cover x.mem L → c ≤ L.length) ∧ w = w' := by
  have c := h.sc.c17
  have H := hid (lenmem_at h.mem)
  clear h
  go_enter Tryz.func23, Tryz.ntmps23
  go_wp2_with (go_at_call 84; refine H.out.mono ?_; rintro e w' ⟨c, rfl, hc, rfl⟩)
  go_ret
  exact ⟨c, rfl, hc, rfl⟩
theorem held_nil (w : World) : Calls Tryz.prog 23 #[.pointer none] w fun e w' => e = .returned (.int .i64 0) ∧ w = w' := by
  go_enter Tryz.func23, Tryz.ntmps23
  go_wp2
  go_ret
  exact ⟨rfl, rfl⟩
end SF
end Go.Proofs.YtgdhaaokolfdoaaGreatDoor

/- The store: keep. Conditions: the store lies in the world as StoreAt says. -/
namespace Go.Proofs.YtgdhaaokolfdoaaGreatDoor
open Go.RowKit Go.Sg Go.Sg.Bits Go.Sg.Clk CP
namespace SF
theorem clkR {B : Blk} {b : Nat} (h : b = B.bc ∨ b = B.bp ∨ b = B.bm) : ∃ r ∈ [Role.bc, Role.bp, Role.bm], b = B.at_ r := by
  rcases h with rfl | rfl | rfl
  · exact ⟨.bc, by simp, rfl⟩
  · exact ⟨.bp, by simp, rfl⟩
  · exact ⟨.bm, by simp, rfl⟩
set_option maxHeartbeats 2000000 in
theorem keep_any {R : Ending → World → Prop} {w : World} {B : Blk} {x : Sto} (h : StoreAt w B x) (n : Int) (p : Pg)
    (h0 : ∀ W g, GoneOk x.mem x.places n g → (gV g).dirty = false → MemAt W B.bc B.bp B.bm x.places (putF x.mem n p g) → FrR B [.bc, .bp, .bm] w W → R (.returned (.int .i64 0)) W)
    (h1 : ∀ W g, GoneOk x.mem x.places n (some g) → g.2.dirty = true → MemAt W B.bc B.bp B.bm x.places (putF x.mem n p (some g)) → FrR B [.bc, .bp, .bm] w W → Calls Tryz.prog 110 #[B.ptr, .int .i64 g.1, g.2.val] W fun e W' => ∃ err : Int, e = .returned (.int .i64 err) ∧ R e W') :
    Calls Tryz.prog 82 #[B.ptr, .int .i64 n, p.val] w R := by
  obtain ⟨st, la, ll, lc, di⟩ := p
  have c17 := h.sc.c17
  have l := h.sc.lt
  obtain ⟨w1, hw1⟩ : ∃ w1, w.alloc (.cells #[.int .i64 st, .slice la ll lc, .bool di] 162) = w1 := ⟨_, rfl⟩
  have F1 : Fr (fun _ => False) w w1 := by rw [← hw1]; exact (Fr.refl _ _).alloc _
  have b1 : w1.heap[w.heap.size]? = some (.cells #[.int .i64 st, .slice la ll lc, .bool di] 162) := by rw [← hw1]; exact heap_alloc_new _ _
  obtain ⟨d0, d1, d2, dz, dl⟩ := cells3 b1
  have c17' := (F1.cell (p := ⟨B.s, 17, none⟩) l (fun h => h)).trans c17
  have l' := Nat.lt_of_lt_of_le l F1.size
  have HP := hid (fun W (F : Fr (fun _ => False) w1 W) => (putmem_at (h.mem.fr (F1.trans F (fun _ _ h => h)) (fun h => h) (fun h => h) (fun h => h)) n ⟨st, la, ll, lc, di⟩).mono
    (fun (e : Ending) W' ⟨g, hg, he, hm, F'⟩ => (⟨g, hg, he, hm, Fr.trans (S := fun b => b = B.bc ∨ b = B.bp ∨ b = B.bm) (S' := fun b => b = B.bc ∨ b = B.bp ∨ b = B.bm) (F.mono (fun _ _ h => h.elim)) F' (fun _ _ h => h), F'⟩ :
      ∃ g, GoneOk x.mem x.places n g ∧ e = Ending.returned (.tuple #[.int .i64 (gK g), (gV g).val, .bool g.isSome]) ∧ MemAt W' B.bc B.bp B.bm x.places (putF x.mem n ⟨st, la, ll, lc, di⟩ g) ∧ Fr (fun b => b = B.bc ∨ b = B.bp ∨ b = B.bm) w1 W' ∧ Fr (fun b => b = B.bc ∨ b = B.bp ∨ b = B.bm) W W')))
  have nS : ¬ (B.s = B.bc ∨ B.s = B.bp ∨ B.s = B.bm) := by
    have a1 := h.out (L := [.bc, .bp, .bm]) (r := .s) (by decide)
    simpa [Blk.at_] using a1
  have nW : ¬ (w.heap.size = B.bc ∨ w.heap.size = B.bp ∨ w.heap.size = B.bm) := by
    have := h.mem.lts
    omega
  have NX := hid (show ¬ (w1.heap.size = B.bc ∨ w1.heap.size = B.bp ∨ w1.heap.size = B.bm) by have := h.mem.lts; omega)
  have NS := hid nS
  have NW := hid nW
  clear nS nW
  have m1 : ¬ w1.heap.size = B.s := by omega
  have m2 : ¬ w1.heap.size = w.heap.size := by omega
  have HW := hid hw1
  have H0 := hid h0
  have H1 := hid h1
  have HF1 := hid F1
  clear h h0 h1 c17 hw1 b1 F1
  go_enter Tryz.func82, Tryz.ntmps82
  go_wp2
  rw [HW.out]
  go_region_held3 (fun W => W.cell? ⟨B.s, 17, none⟩ = some (.pointer (some ⟨B.bc, 0, none⟩)) ∧ W.cell? ⟨w.heap.size, 0, none⟩ = some (.int .i64 st) ∧ W.cell? ⟨w.heap.size, 1, none⟩ = some (.slice la ll lc) ∧ W.cell? ⟨w.heap.size, 2, none⟩ = some (.bool di))
    (go_keep)
    ((go_at_call 111; refine (HP.out _ (by first | exact ((Fr.refl _ _).alloc _) | exact (Fr.refl _ _) | exact ((Fr.refl _ _).drew) | exact ((Fr.refl _ _).alloc _).drew | exact ((Fr.refl _ _).drew.alloc _))).mono ?_; rintro e w7 ⟨g, hg, rfl, hm, F7, F8⟩; have e0 := fun (i : Nat) (hh : w1.heap.size < _) => F8.cell (p := ⟨w1.heap.size, i, none⟩) hh NX.out; have ez := fun (i : Nat) (hh : w1.heap.size < _) => World.frozen?_of_block (a := ⟨w1.heap.size, i, none⟩) (F8.block w1.heap.size hh NX.out); have el := F8.size; have el7 := F7.size; have m3 : ¬ w7.heap.size = B.s := (by omega); have m4 : ¬ w7.heap.size = w.heap.size := (by omega); have c17' := (F7.cell (p := ⟨B.s, 17, none⟩) l' NS.out).trans c17'; have d0 := (F7.cell (p := ⟨w.heap.size, 0, none⟩) dl NW.out).trans d0; have d1 := (F7.cell (p := ⟨w.heap.size, 1, none⟩) dl NW.out).trans d1; have d2 := (F7.cell (p := ⟨w.heap.size, 2, none⟩) dl NW.out).trans d2; have HF7 := hid F7; have HM := hid hm; have HG := hid hg; clear F7 hm hg F8))
  all_goals clear m1 m2 m3 m4
  all_goals rcases g with _ | ⟨gk, ⟨gst, ga, gl, gc, gd⟩⟩
  all_goals try simp only [gK, gV, Option.map_none, Option.map_some, Option.getD_none, Option.getD_some, Option.isSome_none, Option.isSome_some, Pg.zero]
  all_goals have FA : FrR B [.bc, .bp, .bm] w w7 := (HF1.out.mono (fun _ _ h => h.elim)).trans HF7.out (fun b _ h => clkR h)
  all_goals have FA := hid FA
  · go_wp2
    exact H0.out _ none HG.out rfl (HM.out.fr ((Fr.refl (fun _ => False) _).alloc _) (fun h => h) (fun h => h) (fun h => h)) (FA.out.alloc _)
  · cases gd with
    | false =>
      go_wp2
      exact H0.out _ _ HG.out rfl (HM.out.fr ((Fr.refl (fun _ => False) _).alloc _) (fun h => h) (fun h => h) (fun h => h)) (FA.out.alloc _)
    | true =>
      go_wp2_with fail
      refine (H1.out _ _ HG.out rfl (HM.out.fr ((Fr.refl (fun _ => False) _).alloc _) (fun h => h) (fun h => h) (fun h => h)) (FA.out.alloc _)).mono ?_
      rintro e w9 ⟨err, rfl, hR⟩
      have HR := hid hR
      clear hR
      go_wp2
      exact HR.out
  · go_wp2
    exact H0.out _ none HG.out rfl (HM.out.fr (Fr.set3 (S := fun b => b = w1.heap.size) (b := w1.heap.size) (Fr.refl _ _) rfl _ _ _) (fun h => NX.out (.inl h.symm)) (fun h => NX.out (.inr (.inl h.symm))) (fun h => NX.out (.inr (.inr h.symm)))) (Fr.set3n FA.out (by omega) _ _ _)
  · cases gd with
    | false =>
      go_wp2
      exact H0.out _ _ HG.out rfl (HM.out.fr (Fr.set3 (S := fun b => b = w1.heap.size) (b := w1.heap.size) (Fr.refl _ _) rfl _ _ _) (fun h => NX.out (.inl h.symm)) (fun h => NX.out (.inr (.inl h.symm))) (fun h => NX.out (.inr (.inr h.symm)))) (Fr.set3n FA.out (by omega) _ _ _)
    | true =>
      go_wp2_with fail
      refine (H1.out _ _ HG.out rfl (HM.out.fr (Fr.set3 (S := fun b => b = w1.heap.size) (b := w1.heap.size) (Fr.refl _ _) rfl _ _ _) (fun h => NX.out (.inl h.symm)) (fun h => NX.out (.inr (.inl h.symm))) (fun h => NX.out (.inr (.inr h.symm)))) (Fr.set3n FA.out (by omega) _ _ _)).mono ?_
      rintro e w9 ⟨err, rfl, hR⟩
      have HR := hid hR
      clear hR
      go_wp2
      exact HR.out
end SF
end Go.Proofs.YtgdhaaokolfdoaaGreatDoor

/- The store: keep where nothing is written; New. Conditions: the store lies in the world as StoreAt says. -/
namespace Go.Proofs.YtgdhaaokolfdoaaGreatDoor
open Go.RowKit Go.Sg Go.Sg.Bits Go.Sg.Clk CP
theorem StoreAt.withMem {w W : World} {B : Blk} {x : Sto} (h : StoreAt w B x) (F : FrR B [.bc, .bp, .bm] w W) {m : Int → Option Pg} (hm : MemAt W B.bc B.bp B.bm x.places m)
    (hl : ∀ k p, m k = some p → ∃ bs, ByV W p.la p.ll p.lc bs ∧ bs.length ≤ x.room) : StoreAt W B { x with mem := m } := by
  have S := h.stays F
  exact ⟨S.s (by decide), S.dev (by decide) (by decide) (by decide), S.bits (by decide) (by decide), S.fr (by decide), S.dy (by decide), S.de (by decide), hm, hl, h.ne, h.ge, h.rg, h.inr⟩
theorem load_putF {w W : World} {B : Blk} {x : Sto} (h : StoreAt w B x) {L : List Role} (F : FrR B L w W) {n : Int} {p : Pg} {g : Option (Int × Pg)} (hp : ∃ bs, ByV w p.la p.ll p.lc bs ∧ bs.length ≤ x.room) :
    ∀ k q, putF x.mem n p g k = some q → ∃ bs, ByV W q.la q.ll q.lc bs ∧ bs.length ≤ x.room := by
  intro k q hq
  unfold putF at hq
  split at hq
  · cases hq
    obtain ⟨bs, hb, hl⟩ := hp
    exact ⟨bs, h.byv F hb, hl⟩
  · split at hq
    · cases hq
    · obtain ⟨bs, hb, hl⟩ := h.load k q hq
      exact ⟨bs, h.byv F hb, hl⟩
/-- There is room for one page more. -/
def HasRoom (x : Sto) (n : Int) : Prop := (x.mem n).isSome = true ∨ ∃ L, Cover x.mem L ∧ L.length < x.places
theorem HasRoom.none {x : Sto} {n : Int} (h : HasRoom x n) {g : Option (Int × Pg)} (hg : GoneOk x.mem x.places n g) : g = none := by
  cases g with
  | none => rfl
  | some g =>
    obtain ⟨h1, h2, h3, h4⟩ := hg
    rcases h with h | ⟨L, hL, hl⟩
    · rw [h3] at h; cases h
    · have := h4 L hL; omega
namespace SF
theorem keep_room {w : World} {B : Blk} {x : Sto} (h : StoreAt w B x) (n : Int) (p : Pg) (hp : ∃ bs, ByV w p.la p.ll p.lc bs ∧ bs.length ≤ x.room) (hr : HasRoom x n) :
    Calls Tryz.prog 82 #[B.ptr, .int .i64 n, p.val] w (KeepOut B x n p w) := by
  refine keep_any h n p ?_ ?_
  · intro W g hg hd hm F
    obtain rfl := hr.none hg
    exact ⟨0, none, x.dev, rfl, hg, ⟨rfl, rfl⟩, h.withMem F hm (load_putF h F hp), h.frB F⟩
  · intro W g hg
    cases hr.none hg
theorem OutR_frB {B : Blk} {w w' : World} {x : Sto} {g : Option (Int × Pg)} {D : Dev} {err : Int} (h : OutR w x g D err) (F : FrB B w w') : OutR w' x g D err := by
  cases g with
  | none => exact h
  | some g =>
    obtain ⟨k, q⟩ := g
    unfold OutR at h ⊢
    simp only at h ⊢
    split
    · rename_i hd
      rw [if_pos hd] at h
      obtain ⟨bs, hb, he⟩ := h
      exact ⟨bs, hb.frB F, he⟩
    · rename_i hd
      rw [if_neg hd] at h
      exact h
theorem OutR_frL {w w' : World} {x : Sto} {g : Option (Int × Pg)} {D : Dev} {err : Int} (h : OutR w x g D err) {k : Nat} (F : Fr (fun b => b = k) w w') {cs : Array Value} {t : TypeId} (hk : w.heap[k]? = some (.cells cs t)) (ht : t ≠ 5) : OutR w' x g D err := by
  cases g with
  | none => exact h
  | some g =>
    obtain ⟨k, q⟩ := g
    unfold OutR at h ⊢
    simp only at h ⊢
    split
    · rename_i hd
      rw [if_pos hd] at h
      obtain ⟨bs, hb, he⟩ := h
      exact ⟨bs, hb.frL F hk ht, he⟩
    · rename_i hd
      rw [if_neg hd] at h
      exact h
/-- Bytes that are handed in: they lie ahead of the store's blocks, or in a block of bytes. -/
def Inp (w : World) (B : Blk) (a : Option Addr) (n c : Nat) (bs : List Int) : Prop := SlB w a n c bs ∧ ∀ b off, a = some ⟨b, off, none⟩ → n = 0 ∨ b < B.base ∨ kd w b = 6
/-- A store behind a number was taken for a page that is made. -/
def tk (x : Sto) (n : Nat) : Sto := { x with taken := upd x.taken n true, hand := (n + 1) % x.pages, fresh := updI x.fresh n true }
def refV (err : Int) (n st : Int) : Value := if err = 0 then .agg #[.int .i64 n, .int .i64 st] else .agg #[.int .i64 0, .int .i64 0]
/-- What New does. -/
def NewPost (B : Blk) (x : Sto) (bs : List Int) (w : World) (e : Ending) (w' : World) : Prop :=
  ∃ n err g D p, TakeIs x.taken x.pages x.hand n ∧ e = .returned (.tuple #[refV err n x.gen, .int .i64 err]) ∧ GoneOk x.mem x.places n g ∧ OutR w' x g D err ∧
    StoreAt w' B { tk x n with mem := putF x.mem n p g, dev := D } ∧ (p.stamp = x.gen ∧ p.dirty = true ∧ ByV w' p.la p.ll p.lc bs) ∧ FrB B w w'
theorem new_nil (la : Option Addr) (ll lc : Nat) (w : World) : Calls Tryz.prog 22 #[.pointer none, .slice la ll lc] w fun e w' => e = .returned (.tuple #[.agg #[.int .i64 0, .int .i64 0], .int .i64 1]) ∧ Fr (fun _ => False) w w' := by
  go_enter Tryz.func22, Tryz.ntmps22
  go_wp2
  refine bodyPost_ret (v := .tuple #[.agg #[.int .i64 0, .int .i64 0], .int .i64 1]) (by simp [results, go_sem, *]) rfl ⟨rfl, ?_⟩
  exact (Fr.refl _ _).alloc _
theorem new_long {w : World} {B : Blk} {x : Sto} (h : StoreAt w B x) (la : Option Addr) (ll lc : Nat) (hl : x.room < ll) :
    Calls Tryz.prog 22 #[B.ptr, .slice la ll lc] w fun e w' => e = .returned (.tuple #[.agg #[.int .i64 0, .int .i64 0], .int .i64 9]) ∧ Fr (fun _ => False) w w' := by
  have c11 := h.sc.c11
  have l := h.sc.lt
  clear h
  go_enter Tryz.func22, Tryz.ntmps22
  go_wp2
  refine bodyPost_ret (v := .tuple #[.agg #[.int .i64 0, .int .i64 0], .int .i64 9]) (by simp [results, go_sem, *]) rfl ⟨rfl, (Fr.refl _ _).alloc _⟩
theorem new_full {w : World} {B : Blk} {x : Sto} (h : StoreAt w B x) (hT : Tab w) (la : Option Addr) (ll lc : Nat) (hl : ll ≤ x.room) (hall : allTaken x.taken x.pages 0 x.pages) :
    Calls Tryz.prog 22 #[B.ptr, .slice la ll lc] w fun e w' => e = .returned (.tuple #[.agg #[.int .i64 0, .int .i64 0], .int .i64 6]) ∧ Fr (fun _ => False) w w' := by
  have c11 := h.sc.c11
  have c13 := h.sc.c13
  have l := h.sc.lt
  have HK := hid (fun W (F : Fr (fun _ => False) w W) => take_none (h.bits.fr F (fun h => h) (fun h => h)) (hT.fr F (fun h => h)) hall)
  clear h hT hall
  go_enter Tryz.func22, Tryz.ntmps22
  go_wp2_with fail
  refine (HK.out _ ((Fr.refl _ _).alloc _)).mono ?_
  rintro e w' ⟨rfl, rfl⟩
  go_wp2
  refine bodyPost_ret (v := .tuple #[.agg #[.int .i64 0, .int .i64 0], .int .i64 6]) (by simp [results, go_sem, *]) rfl ⟨rfl, (Fr.refl _ _).alloc _⟩
set_option maxHeartbeats 2000000 in
theorem new_ok {w : World} {B : Blk} {x : Sto} (h : StoreAt w B x) (hT : Tab w) (hB0 : 0 < B.base) {la : Option Addr} {ll lc : Nat} {bs : List Int} (hin : Inp w B la ll lc bs) (hl : ll ≤ x.room) {j : Nat} (hj : j < x.pages) (hfree : x.taken j = false)
    (hk : ∀ W p n, TakeIs x.taken x.pages x.hand n → StoreAt W B (tk x n) → FrB B w W → (∃ bs, ByV W p.la p.ll p.lc bs ∧ bs.length ≤ x.room) → Calls Tryz.prog 82 #[B.ptr, .int .i64 n, p.val] W (KeepOut B (tk x n) n p W)) :
    Calls Tryz.prog 22 #[B.ptr, .slice la ll lc] w (NewPost B x bs w) := by
  have c11 := h.sc.c11
  have c12 := h.sc.c12
  have c13 := h.sc.c13
  have c14 := h.sc.c14
  have l := h.sc.lt
  have hlen := hin.1.by_.len
  have hrm := h.rg.1
  obtain ⟨w1, hw1⟩ : ∃ w1, w.alloc (.cells #[.int .i64 0, .int .i64 0] 35) = w1 := ⟨_, rfl⟩
  have F1 : Fr (fun _ => False) w w1 := by rw [← hw1]; exact (Fr.refl _ _).alloc _
  have b1 : w1.heap[w.heap.size]? = some (.cells #[.int .i64 0, .int .i64 0] 35) := by rw [← hw1]; exact heap_alloc_new _ _
  have HTK := hid (take_some (h.bits.fr F1 (fun h => h) (fun h => h)) (hT.fr F1 (fun h => h)) hj hfree)
  have H := hid h
  have HIN := hid hin
  have HK := hid hk
  have HW := hid hw1
  have HF1 := hid F1
  have HB1 := hid b1
  have HL := hid hlen
  clear h hT hin hk hw1 F1 b1 hfree hlen
  go_enter Tryz.func22, Tryz.ntmps22
  go_wp2_with fail
  rw [HW.out]
  refine HTK.out.mono ?_
  rintro e w2 ⟨n, hn, rfl, hbits, F2⟩
  have F02 : FrR B [.bs, .bw] w w2 := (HF1.out.mono (fun _ _ h => h.elim)).trans F2 (fun b _ h => by
    rcases h with rfl | rfl
    · exact ⟨.bs, by simp, rfl⟩
    · exact ⟨.bw, by simp, rfl⟩)
  have nbx : ∀ r, w.heap.size ≠ B.at_ r := fun r e => by have := (H.out.heaps r).2.2.1; omega
  have hb2 := F2.heap HB1.out (fun h => by rcases h with h | h; exact nbx .bs h; exact nbx .bw h)
  have S2 := H.out.stays F02
  have s2 := S2.s (by decide)
  obtain ⟨lf, ck, hfm, hfs⟩ := (S2.fr (by decide)).ex
  have e12 : w2.cell? ⟨B.s, 12, none⟩ = some (.int .i64 x.gen) := by simpa using cell_of_heap s2 12
  have e14 : w2.cell? ⟨B.s, 14, none⟩ = some (.map (some B.fr)) := by simpa using cell_of_heap s2 14
  have hup := fun (W : World) (hW : W.heap[B.fr]? = some (.map (ents lf) ck)) => run_mapUpdate (P := Tryz.prog) (T := 153) Tryz.underlying153 Tryz.underlying3 hW n (.bool true)
  have HB2 := hid hb2
  have NBX := hid nbx
  clear hb2 nbx
  have HN := hid hn
  have HBI := hid hbits
  have HF02 := hid F02
  have HS2 := hid S2
  have Hs2 := hid s2
  have HFS := hid hfs
  clear hn hbits F2 F02 S2 s2 hfs
  go_wp2
  obtain ⟨w3, hw3⟩ : ∃ w3, w2.putObj B.fr (.map (ents (put lf n (.bool true) ck)) (bump lf n ck)) = w3 := ⟨_, rfl⟩
  have F23 : Fr (fun b => b = B.fr) w2 w3 := by rw [← hw3]; exact (Fr.refl (fun b => b = B.fr) _).putObj (fun _ => rfl) _
  have hf3 : w3.heap[B.fr]? = some (.map (ents (put lf n (.bool true) ck)) (bump lf n ck)) := by rw [← hw3]; exact heap_putObj_same _ _ _ (lt_of_heap hfm)
  rw [hw3]
  have HB3 := hid (F23.heap HB2.out (NBX.out .fr))
  have F03 : FrR B [.bs, .bw, .fr] w w3 := (HF02.out.mono (fun b _ ⟨r, hr, e⟩ => ⟨r, by simp at hr ⊢; rcases hr with h | h <;> simp [h], e⟩)).trans F23 (fun b _ h => ⟨.fr, by simp, h⟩)
  have n1 : B.bs ≠ B.fr := fun e => by have := H.out.inj (r := .bs) (r' := .fr) e; cases this
  have n2 : B.bw ≠ B.fr := fun e => by have := H.out.inj (r := .bw) (r' := .fr) e; cases this
  have S3 := H.out.stays F03
  have nn := HN.out.1
  have hS3 : StoreAt w3 B (tk x n) := by
    refine ⟨S3.s (by decide), S3.dev (by decide) (by decide) (by decide), HBI.out.fr F23 n1 n2, ⟨_, _, hf3, HFS.out.put n⟩, S3.dy (by decide), S3.de (by decide), S3.mem (by decide) (by decide) (by decide), S3.load, H.out.ne, H.out.ge, H.out.rg, ?_, H.out.inr.2⟩
    intro k hk
    show 0 ≤ k ∧ k < x.pages
    by_cases hkn : k = n
    · omega
    · exact H.out.inr.1 k (by simpa [tk, updI, hkn] using hk)
  have e12 : w3.cell? ⟨B.s, 12, none⟩ = some (.int .i64 x.gen) := hS3.sc.c12
  have hsl : SlB w3 la ll lc bs := by
    refine ⟨HIN.out.1.by_.frn F03 ?_, HIN.out.1.at_⟩
    rintro b off e - hn0 ⟨r, _, rfl⟩
    have hh := H.out.heaps r
    rcases HIN.out.2 _ off e with h | h | h
    · omega
    · omega
    · rw [hh.2.2.2] at h; cases r <;> simp [Role.kind] at h
  have HC := hid (fun W (F : Fr (fun _ => False) w3 W) => (clone_v (w := W) ⟨hsl.by_.fr F (fun _ _ _ _ h => h), hsl.at_⟩ (by omega)).mono
    (fun (e : Ending) W' ⟨a', c', he, hb, F'⟩ => (⟨a', c', he, hb, F.trans F' (fun _ _ h => h)⟩ : ∃ a' c', e = Ending.returned (.slice a' ll c') ∧ ByV W' a' ll c' bs ∧ Fr (fun _ => False) w3 W')))
  have ls : B.s < w3.heap.size := hS3.sc.lt
  have HS3 := hid hS3
  have HF03 := hid F03
  clear hw3 F23 hf3 hup hfm F03 n1 n2 S3 hS3 hsl c11 c12 c13 c14 e14
  go_region_held3 (fun W => W.cell? ⟨B.s, 12, none⟩ = some (.int .i64 x.gen)) (go_keep)
    (first
      | (go_at_call 83; refine (HC.out _ (by first | exact Fr.refl _ _ | exact (Fr.refl _ _).drew)).mono ?_; rintro e w4 ⟨a', c', rfl, hb4, F4⟩; have e12 := (F4.cell (p := ⟨B.s, 12, none⟩) ls (fun h => h)).trans e12; have HB4 := hid hb4; have HF4 := hid F4; clear hb4 F4)
      | (go_at_call 82; refine (HK.out _ ⟨x.gen, a', ll, c', true⟩ n HN.out (HS3.out.fr0 HF4.out) ((H.out.frB HF03.out).trans (FrB.none HF4.out)) ⟨bs, HB4.out, by rw [HL.out]; exact hl⟩).mono ?_; rintro e w5 ⟨err, g, D, rfl, hg, ho, hS5, F5⟩; have e12 : w5.cell? ⟨B.s, 12, none⟩ = some (.int .i64 x.gen) := hS5.sc.c12; have H5 := hid (And.intro hg (And.intro ho (And.intro hS5 F5))); clear hg ho hS5 F5))
  obtain ⟨hg, ho, hS5, F5⟩ := H5.out
  have hb5 := F5.heap (FrB.heap (FrB.none HF4.out) (B := B) HB3.out (by decide)) (by decide)
  obtain ⟨f0, f1, fz, fl⟩ := cells2 hb5
  have c12 : w5.cell? ⟨B.s, 12, none⟩ = some (.int .i64 x.gen) := hS5.sc.c12
  have l5 := hS5.sc.lt
  have nb5 : ¬ w.heap.size = B.s := by omega
  have FF : FrB B w w5 := ((H.out.frB HF03.out).trans (FrB.none HF4.out)).trans F5
  have hbv5 := HB4.out.frB F5
  have H6 := hid (And.intro hg (And.intro ho (And.intro hS5 (And.intro FF (And.intro hbv5 hb5)))))
  clear hg ho hS5 F5 hb5 FF hbv5 H5
  by_cases he : err = 0
  · subst he
    go_wp2
    refine bodyPost_ret (v := .tuple #[.agg #[.int .i64 n, .int .i64 x.gen], .int .i64 0]) (by simp [results, go_sem, *]) rfl ?_
    obtain ⟨hg, ho, hS5, FF, hbv5, hb5⟩ := H6.out
    have FL : Fr (fun b => b = w.heap.size) w5 ((w5.setCell ⟨w.heap.size, 0, none⟩ (.int .i64 n)).setCell ⟨w.heap.size, 1, none⟩ (.int .i64 x.gen)) := ((Fr.refl (fun b => b = w.heap.size) _).setCell (a := ⟨w.heap.size, 0, none⟩) (fun _ => rfl) _).setCell (a := ⟨w.heap.size, 1, none⟩) (fun _ => rfl) _
    refine ⟨n, 0, g, D, ⟨x.gen, a', ll, c', true⟩, HN.out, rfl, hg, OutR_frL ho FL hb5 (by decide), hS5.frL FL hb5 (by decide), ⟨rfl, rfl, hbv5.frL FL hb5 (by decide)⟩, ?_⟩
    exact (FF.setCell (a := ⟨w.heap.size, 0, none⟩) (fun h => absurd h (Nat.lt_irrefl _)) _).setCell (a := ⟨w.heap.size, 1, none⟩) (fun h => absurd h (Nat.lt_irrefl _)) _
  · have he2 : (err != 0) = true := by simpa using he
    go_wp2
    refine bodyPost_ret (v := .tuple #[.agg #[.int .i64 0, .int .i64 0], .int .i64 err]) (by simp [results, go_sem, *]) rfl ?_
    obtain ⟨hg, ho, hS5, FF, hbv5, hb5⟩ := H6.out
    have FL : Fr (fun b => b = w.heap.size) w5 ((w5.setCell ⟨w.heap.size, 0, none⟩ (.int .i64 0)).setCell ⟨w.heap.size, 1, none⟩ (.int .i64 0)) := ((Fr.refl (fun b => b = w.heap.size) _).setCell (a := ⟨w.heap.size, 0, none⟩) (fun _ => rfl) _).setCell (a := ⟨w.heap.size, 1, none⟩) (fun _ => rfl) _
    refine ⟨n, err, g, D, ⟨x.gen, a', ll, c', true⟩, HN.out, by rw [refV, if_neg he], hg, OutR_frL ho FL hb5 (by decide), hS5.frL FL hb5 (by decide), ⟨rfl, rfl, hbv5.frL FL hb5 (by decide)⟩, ?_⟩
    exact (FF.setCell (a := ⟨w.heap.size, 0, none⟩) (fun h => absurd h (Nat.lt_irrefl _)) _).setCell (a := ⟨w.heap.size, 1, none⟩) (fun h => absurd h (Nat.lt_irrefl _)) _
end SF
end Go.Proofs.YtgdhaaokolfdoaaGreatDoor

/- The store: gone. Conditions: the store lies in the world as StoreAt says. -/
namespace Go.Proofs.YtgdhaaokolfdoaaGreatDoor
open Go.RowKit Go.Sg Go.Sg.Bits Go.Sg.Clk CP
theorem Tryz.zero4 (w : World) : (zeroValue 4).run Tryz.prog w = .ok (.bool false) w := by kernel_rfl
/-- A store behind a page that does not count any more. -/
def goneX (x : Sto) (n : Nat) : Sto :=
  if x.fresh n = true then { x with fresh := updI x.fresh n false, taken := upd x.taken n false, mem := updM x.mem n none } else { x with dying := updI x.dying n true }
theorem StoreAt.ner {w : World} {B : Blk} {x : Sto} (h : StoreAt w B x) {r r' : Role} (hr : r ≠ r') : B.at_ r ≠ B.at_ r' := fun e => hr (h.inj e)
namespace SF
set_option maxHeartbeats 1000000 in
theorem gone_dying {w : World} {B : Blk} {x : Sto} (h : StoreAt w B x) {n : Nat} (hn : n < x.pages) (hf : x.fresh n = false) :
    Calls Tryz.prog 89 #[B.ptr, .int .i64 n] w fun e w' => e = .returned (.tuple #[]) ∧ StoreAt w' B (goneX x n) ∧ FrR B [.dy] w w' := by
  have c14 := h.sc.c14
  have c15 := h.sc.c15
  obtain ⟨lf, cf, hfm, hfs⟩ := h.fr.ex
  obtain ⟨ld, cd, hdm, hds⟩ := h.dy.ex
  have hl := run_lookup (P := Tryz.prog) (T := 153) false Tryz.underlying153 Tryz.underlying3 Tryz.zero4 hfm n
  rw [hfs.at_, hf] at hl
  simp at hl
  have hup := run_mapUpdate (P := Tryz.prog) (T := 153) Tryz.underlying153 Tryz.underlying3 hdm n (.bool true)
  have H := hid h
  have HD := hid hds
  have HM := hid hdm
  have HF := hid hf
  clear h hfm hfs hds hf hdm
  go_enter Tryz.func89, Tryz.ntmps89
  go_wp2
  refine bodyPost_ret (results_none rfl _ _ _) rfl ?_
  have F : FrR B [.dy] w (w.putObj B.dy (.map (ents (put ld n (.bool true) cd)) (bump ld n cd))) := (Fr.refl _ _).putObj (fun _ => ⟨.dy, by simp, rfl⟩) _
  refine ⟨rfl, ?_, F⟩
  have S := H.out.stays F
  have e : goneX x n = { x with dying := updI x.dying n true } := by rw [goneX, HF.out]; rfl
  rw [e]
  refine ⟨S.s (by decide), S.dev (by decide) (by decide) (by decide), S.bits (by decide) (by decide), S.fr (by decide), ⟨_, _, heap_putObj_same _ _ _ (lt_of_heap HM.out), HD.out.put n⟩, S.de (by decide), S.mem (by decide) (by decide) (by decide), S.load, H.out.ne, H.out.ge, H.out.rg, H.out.inr.1, ?_, H.out.inr.2.2⟩
  intro k hk
  show 0 ≤ k ∧ k < x.pages
  by_cases hkn : k = n
  · omega
  · exact H.out.inr.2.1 k (by simpa [updI, hkn] using hk)
set_option maxRecDepth 100000 in
set_option maxHeartbeats 1000000 in
theorem gone_fresh {w : World} {B : Blk} {x : Sto} (h : StoreAt w B x) {n : Nat} (hn : n < x.pages) (hf : x.fresh n = true) (ht : x.taken n = true) :
    Calls Tryz.prog 89 #[B.ptr, .int .i64 n] w fun e w' => e = .returned (.tuple #[]) ∧ StoreAt w' B (goneX x n) ∧ FrR B [.fr, .bs, .bw, .bp, .bm] w w' := by
  have c14 := h.sc.c14
  have c13 := h.sc.c13
  have nfs : B.fr ≠ B.s := h.ner (r := .fr) (r' := .s) (by decide)
  obtain ⟨lf, cf, hfm, hfs⟩ := h.fr.ex
  have hl := run_lookup (P := Tryz.prog) (T := 153) false Tryz.underlying153 Tryz.underlying3 Tryz.zero4 hfm n
  rw [hfs.at_, hf] at hl
  simp at hl
  have hdel := run_delete (P := Tryz.prog) (T := 153) Tryz.underlying153 Tryz.underlying3 hfm n
  obtain ⟨w1, hw1⟩ : ∃ w1, w.putObj B.fr (.map (ents (del lf n)) cf) = w1 := ⟨_, rfl⟩
  have F1 : FrR B [.fr] w w1 := by rw [← hw1]; exact (Fr.refl _ _).putObj (fun _ => ⟨.fr, by simp, rfl⟩) _
  have hf1 : w1.heap[B.fr]? = some (.map (ents (del lf n)) cf) := by rw [← hw1]; exact heap_putObj_same _ _ _ (lt_of_heap hfm)
  have S1 := h.stays F1
  have hC := hid (clear_there (S1.bits (by decide) (by decide)) n hn ht)
  have s1 := S1.s (by decide)
  have d13 : w1.cell? ⟨B.s, 13, none⟩ = some (.pointer (some ⟨B.bs, 0, none⟩)) := by simpa using cell_of_heap s1 13
  have H := hid h
  have HS := hid hfs
  have HF1 := hid F1
  have HM1 := hid hf1
  have HF := hid hf
  have HW := hid hw1
  have Hs1 := hid s1
  clear h hfm hfs hf ht F1 hf1 S1 hw1 s1
  go_enter Tryz.func89, Tryz.ntmps89
  go_wp2_with fail
  rw [HW.out]
  refine hC.out.mono ?_
  rintro e w2 ⟨rfl, hB2, F2⟩
  have F02 : FrR B [.fr, .bs, .bw] w w2 := (HF1.out.mono (fun b _ ⟨r, hr, e⟩ => ⟨r, by simp at hr ⊢; exact .inl hr, e⟩)).trans F2 (fun b _ h => ⟨.bw, by simp, h⟩)
  have S2 := H.out.stays F02
  have s2 := S2.s (by decide)
  have d17 : w2.cell? ⟨B.s, 17, none⟩ = some (.pointer (some ⟨B.bc, 0, none⟩)) := by simpa using cell_of_heap s2 17
  have hD := hid (dropmem_at (S2.mem (by decide) (by decide) (by decide)) n)
  have HB2 := hid hB2
  have HF02 := hid F02
  have HF2 := hid F2
  clear S2 s2 hB2 F02 F2 hl hdel
  go_wp2_with fail
  refine hD.out.mono ?_
  rintro e w3 ⟨rfl, hM3, F3⟩
  have HM3 := hid hM3
  have HF3 := hid F3
  clear hM3 F3
  go_wp2
  go_end0
  have F03 : FrR B [.fr, .bs, .bw, .bp, .bm] w w3 := (HF02.out.mono (fun b _ ⟨r, hr, e⟩ => ⟨r, by simp at hr ⊢; rcases hr with h | h | h <;> simp [h], e⟩)).trans HF3.out (fun b _ h => by
    rcases h with h | h
    · exact ⟨.bp, by simp, h⟩
    · exact ⟨.bm, by simp, h⟩)
  refine ⟨rfl, ?_, F03⟩
  have S := H.out.stays F03
  have e : goneX x n = { x with fresh := updI x.fresh n false, taken := upd x.taken n false, mem := updM x.mem n none } := by rw [goneX, HF.out]; rfl
  rw [e]
  have ne1 : ¬ (B.fr = B.bp ∨ B.fr = B.bm) := fun h => by
    rcases h with h | h
    · exact H.out.ner (r := .fr) (r' := .bp) (by decide) h
    · exact H.out.ner (r := .fr) (r' := .bm) (by decide) h
  have ne2 : ¬ (B.bs = B.bp ∨ B.bs = B.bm) := fun h => by
    rcases h with h | h
    · exact H.out.ner (r := .bs) (r' := .bp) (by decide) h
    · exact H.out.ner (r := .bs) (r' := .bm) (by decide) h
  have ne3 : ¬ (B.bw = B.bp ∨ B.bw = B.bm) := fun h => by
    rcases h with h | h
    · exact H.out.ner (r := .bw) (r' := .bp) (by decide) h
    · exact H.out.ner (r := .bw) (r' := .bm) (by decide) h
  have ne4 : B.fr ≠ B.bw := H.out.ner (r := .fr) (r' := .bw) (by decide)
  refine ⟨S.s (by decide), S.dev (by decide) (by decide) (by decide), HB2.out.fr HF3.out ne2 ne3, ⟨_, _, HF3.out.heap (HF2.out.heap HM1.out ne4) ne1, HS.out.del n⟩, S.dy (by decide), S.de (by decide), HM3.out, ?_, H.out.ne, H.out.ge, H.out.rg, ?_, H.out.inr.2⟩
  · intro k p hp
    simp only [updM] at hp
    split at hp
    · cases hp
    · exact S.load k p hp
  · intro k hk
    show 0 ≤ k ∧ k < x.pages
    simp only [updI] at hk
    split at hk
    · cases hk
    · exact H.out.inr.1 k hk
end SF
end Go.Proofs.YtgdhaaokolfdoaaGreatDoor

/- The store: Write. Conditions: the store lies in the world as StoreAt says. -/
namespace Go.Sg
theorem quiet_left {P : Program} {f : FuncId} {args : Array Value} {w : World} {n : Nat} {v : Value}
    (h : Calls P f args (w.drewN n) fun e w' => e = .returned v ∧ w.drewN n = w') : Calls P f args (w.drewN n) fun e w'' => e = .returned v ∧ ∃ m, w'' = w.drewN m :=
  h.mono fun _ _ ⟨he, hm⟩ => ⟨he, n, hm.symm⟩
theorem quiet_add_left {P : Program} {f : FuncId} {args : Array Value} {w : World} {a n : Nat} {v : Value}
    (h : Calls P f args (w.drewN (a + n)) fun e w' => e = .returned v ∧ w.drewN (a + n) = w') :
    Calls P f args (w.drewN (a + n)) fun e w'' => e = .returned v ∧ ∃ m, w'' = w.drewN (a + m) :=
  h.mono fun _ _ ⟨he, hm⟩ => ⟨he, n, hm.symm⟩
end Go.Sg
namespace Go.Proofs.YtgdhaaokolfdoaaGreatDoor
open Go.RowKit Go.Sg Go.Sg.Bits Go.Sg.Clk CP
namespace SF
theorem write_nil (p st : Int) (la : Option Addr) (ll lc : Nat) (w : World) :
    Calls Tryz.prog 26 #[.pointer none, .agg #[.int .i64 p, .int .i64 st], .slice la ll lc] w fun e w' => e = .returned (.tuple #[.agg #[.int .i64 0, .int .i64 0], .int .i64 1]) ∧ Fr (fun _ => False) w w' := by
  obtain ⟨w1, hw1⟩ : ∃ w1, (w.alloc (.cells #[.int .i64 p, .int .i64 st] 35)).alloc (.cells #[.int .i64 0, .int .i64 0] 35) = w1 := ⟨_, rfl⟩
  obtain ⟨b0, b1, F1⟩ := heap_two hw1
  obtain ⟨d0, d1, dz, dl⟩ := cells2 b0
  have HW := hid hw1
  have HB1 := hid b1
  have HF1 := hid F1
  clear hw1 b0 b1 F1
  go_enter Tryz.func26, Tryz.ntmps26
  go_wp2_with fail
  rw [HW.out]
  refine (in_nil p st _).mono ?_
  rintro e w2 ⟨rfl, F2⟩
  obtain ⟨c0, c1, cz, cl⟩ := cells2 (F2.heap HB1.out (fun h => h))
  have HF2 := hid F2
  clear F2
  go_wp2
  refine bodyPost_ret (v := .tuple #[.agg #[.int .i64 0, .int .i64 0], .int .i64 1]) (by simp [results, go_sem, *]) rfl ⟨rfl, ?_⟩
  exact ((HF1.out.trans HF2.out (fun _ _ h => h)).setNew (b := w.heap.size + 1) (by omega) _).setNew (b := w.heap.size + 1) (by omega) _
theorem write_long {w : World} {B : Blk} {x : Sto} (h : StoreAt w B x) (p st : Int) (la : Option Addr) (ll lc : Nat) (hl : x.room < ll) :
    Calls Tryz.prog 26 #[B.ptr, .agg #[.int .i64 p, .int .i64 st], .slice la ll lc] w fun e w' => e = .returned (.tuple #[.agg #[.int .i64 0, .int .i64 0], .int .i64 9]) ∧ Fr (fun _ => False) w w' := by
  have c11 := h.sc.c11
  have l := h.sc.lt
  clear h
  go_enter Tryz.func26, Tryz.ntmps26
  go_wp2
  refine bodyPost_ret (v := .tuple #[.agg #[.int .i64 0, .int .i64 0], .int .i64 9]) (by simp [results, go_sem, *]) rfl ⟨rfl, ?_⟩
  exact ((Fr.refl _ _).alloc _).alloc _
theorem write_range {w : World} {B : Blk} {x : Sto} (h : StoreAt w B x) (p st : Int) (la : Option Addr) (ll lc : Nat) (hl : ll ≤ x.room) (hp : p < 0 ∨ x.pages ≤ p) :
    Calls Tryz.prog 26 #[B.ptr, .agg #[.int .i64 p, .int .i64 st], .slice la ll lc] w fun e w' => e = .returned (.tuple #[.agg #[.int .i64 0, .int .i64 0], .int .i64 2]) ∧ Fr (fun _ => False) w w' := by
  obtain ⟨w1, hw1⟩ : ∃ w1, (w.alloc (.cells #[.int .i64 p, .int .i64 st] 35)).alloc (.cells #[.int .i64 0, .int .i64 0] 35) = w1 := ⟨_, rfl⟩
  obtain ⟨b0, b1, F1⟩ := heap_two hw1
  obtain ⟨d0, d1, dz, dl⟩ := cells2 b0
  have c11 := h.sc.c11
  have l := h.sc.lt
  have HI := hid (in_no (h.fr0 F1) p st hp)
  have HW := hid hw1
  have HB1 := hid b1
  have HF1 := hid F1
  clear hw1 b0 b1 F1 h hp
  go_enter Tryz.func26, Tryz.ntmps26
  go_wp2_with fail
  rw [HW.out]
  refine HI.out.mono ?_
  rintro e w2 ⟨rfl, F2⟩
  obtain ⟨e0, e1, ez, el⟩ := cells2 (F2.heap HB1.out (fun h => h))
  have HF2 := hid F2
  clear F2
  go_wp2
  refine bodyPost_ret (v := .tuple #[.agg #[.int .i64 0, .int .i64 0], .int .i64 2]) (by simp [results, go_sem, *]) rfl ⟨rfl, ?_⟩
  exact ((HF1.out.trans HF2.out (fun _ _ h => h)).setNew (b := w.heap.size + 1) (by omega) _).setNew (b := w.heap.size + 1) (by omega) _
set_option maxHeartbeats 1000000 in
theorem write_none {w : World} {B : Blk} {x : Sto} (h : StoreAt w B x) (n : Nat) (st : Int) (la : Option Addr) (ll lc : Nat) (hl : ll ≤ x.room) (hp : n < x.pages) (ht : x.taken n = false) :
    Calls Tryz.prog 26 #[B.ptr, .agg #[.int .i64 n, .int .i64 st], .slice la ll lc] w fun e w' => e = .returned (.tuple #[.agg #[.int .i64 0, .int .i64 0], .int .i64 7]) ∧ Fr (fun _ => False) w w' := by
  obtain ⟨w1, hw1⟩ : ∃ w1, (w.alloc (.cells #[.int .i64 n, .int .i64 st] 35)).alloc (.cells #[.int .i64 0, .int .i64 0] 35) = w1 := ⟨_, rfl⟩
  obtain ⟨b0, b1, F1⟩ := heap_two hw1
  obtain ⟨d0, d1, dz, dl⟩ := cells2 b0
  have c11 := h.sc.c11
  have l := h.sc.lt
  have HI := hid (in_ok (h.fr0 F1) n st (by omega) (by omega))
  have H1 := hid (h.fr0 F1)
  have HT := hid ht
  have HW := hid hw1
  have HB0 := hid b0
  have HB1 := hid b1
  have HF1 := hid F1
  clear hw1 b0 b1 F1 h ht
  go_enter Tryz.func26, Tryz.ntmps26
  go_wp2_with fail
  rw [HW.out]
  refine HI.out.mono ?_
  rintro e w2 ⟨rfl, F2⟩
  obtain ⟨e0, e1, ez, el⟩ := cells2 (F2.heap HB1.out (fun h => h))
  obtain ⟨f0, f1, fz, fl⟩ := cells2 (F2.heap HB0.out (fun h => h))
  have h2 := H1.out.fr0 F2
  have g13 := h2.sc.c13
  have HH := hid (fun W (F : Fr (fun _ => False) w2 W) => (has_at (h2.bits.fr F (fun h => h) (fun h => h)) n hp))
  rw [HT.out] at HH
  have HF2 := hid F2
  clear F2 h2
  go_wp2
  go_quiet ((go_at_call 88; exact quiet_left (HH.out _ ((Fr.refl _ _).drewN _))))
  go_wp2
  refine bodyPost_ret (v := .tuple #[.agg #[.int .i64 0, .int .i64 0], .int .i64 7]) (by simp [results, go_sem, *]) rfl ⟨rfl, ?_⟩
  exact (((HF1.out.trans HF2.out (fun _ _ h => h)).drewN nq).setNew (b := w.heap.size + 1) (by omega) _).setNew (b := w.heap.size + 1) (by omega) _
/-- What Write does to a page that was made since the last commit. -/
def WFresh (B : Blk) (x : Sto) (n : Nat) (bs : List Int) (w : World) (e : Ending) (w' : World) : Prop :=
  ∃ err g D p, e = .returned (.tuple #[.agg #[.int .i64 n, .int .i64 x.gen], .int .i64 err]) ∧ GoneOk x.mem x.places n g ∧ OutR w' x g D err ∧
    StoreAt w' B { x with mem := putF x.mem n p g, dev := D } ∧ (p.stamp = x.gen ∧ p.dirty = true ∧ ByV w' p.la p.ll p.lc bs) ∧ FrB B w w'
set_option maxHeartbeats 2000000 in
theorem write_fresh {w : World} {B : Blk} {x : Sto} (h : StoreAt w B x) (n : Nat) (st : Int) {la : Option Addr} {ll lc : Nat} {bs : List Int} (hin : Inp w B la ll lc bs) (hl : ll ≤ x.room) (hp : n < x.pages) (ht : x.taken n = true) (hf : x.fresh n = true)
    (hk : ∀ W p, StoreAt W B x → FrB B w W → (∃ bs, ByV W p.la p.ll p.lc bs ∧ bs.length ≤ x.room) → Calls Tryz.prog 82 #[B.ptr, .int .i64 n, p.val] W (KeepOut B x n p W)) :
    Calls Tryz.prog 26 #[B.ptr, .agg #[.int .i64 n, .int .i64 st], .slice la ll lc] w (WFresh B x n bs w) := by
  obtain ⟨w1, hw1⟩ : ∃ w1, (w.alloc (.cells #[.int .i64 n, .int .i64 st] 35)).alloc (.cells #[.int .i64 0, .int .i64 0] 35) = w1 := ⟨_, rfl⟩
  obtain ⟨b0, b1, F1⟩ := heap_two hw1
  obtain ⟨d0, d1, dz, dl⟩ := cells2 b0
  have c11 := h.sc.c11
  have l := h.sc.lt
  have HI := hid (in_ok (h.fr0 F1) n st (by omega) (by omega))
  have H1 := hid (h.fr0 F1)
  have HT := hid ht
  have HF := hid hf
  have HW := hid hw1
  have HB0 := hid b0
  have HB1 := hid b1
  have HF1 := hid F1
  have HK := hid hk
  have HIN := hid hin
  have hrm := h.rg.1
  clear hw1 b0 b1 F1 h ht hf hk hin
  go_enter Tryz.func26, Tryz.ntmps26
  go_wp2_with fail
  rw [HW.out]
  refine HI.out.mono ?_
  rintro e w2 ⟨rfl, F2⟩
  obtain ⟨e0, e1, ez, el⟩ := cells2 (F2.heap HB1.out (fun h => h))
  obtain ⟨f0, f1, fz, fl⟩ := cells2 (F2.heap HB0.out (fun h => h))
  have h2 := H1.out.fr0 F2
  have g13 := h2.sc.c13
  have g14 := h2.sc.c14
  have HH := hid (fun W (F : Fr (fun _ => False) w2 W) => (has_at (h2.bits.fr F (fun h => h) (fun h => h)) n hp))
  rw [HT.out] at HH
  obtain ⟨lf, cf, hfm, hfs⟩ := h2.fr.ex
  have hlk := fun (W : World) (hW : W.heap[B.fr]? = some (.map (ents lf) cf)) => run_lookup (P := Tryz.prog) (T := 153) false Tryz.underlying153 Tryz.underlying3 Tryz.zero4 hW n
  rw [hfs.at_, HF.out] at hlk
  simp only [if_true, Option.getD_some, Bool.false_eq_true, if_false] at hlk
  have HF2 := hid F2
  have H2 := hid h2
  clear F2 h2 hfs
  go_wp2
  go_quiet ((go_at_call 88; exact quiet_left (HH.out _ ((Fr.refl _ _).drewN _))))
  go_wp2
  go_quiet (fail)
  go_wp2
  have e12 : w2.cell? ⟨B.s, 12, none⟩ = some (.int .i64 x.gen) := H2.out.sc.c12
  have hsl : SlB w2 la ll lc bs := ⟨(HIN.out.1.by_.fr HF1.out (fun _ _ _ _ h => h)).fr HF2.out (fun _ _ _ _ h => h), HIN.out.1.at_⟩
  have HL := hid hsl.by_.len
  have HC := hid (fun W (F : Fr (fun _ => False) w2 W) => (clone_v (w := W) ⟨hsl.by_.fr F (fun _ _ _ _ h => h), hsl.at_⟩ (by omega)).mono
    (fun (e : Ending) W' ⟨a', c', he, hb, F'⟩ => (⟨a', c', he, hb, F.trans F' (fun _ _ h => h)⟩ : ∃ a' c', e = Ending.returned (.slice a' ll c') ∧ ByV W' a' ll c' bs ∧ Fr (fun _ => False) w2 W')))
  have ls : B.s < w2.heap.size := H2.out.sc.lt
  have ms : ¬ w.heap.size + 1 = B.s := by omega
  have HBB := hid (And.intro (HF2.out.heap HB0.out (fun h => h)) (HF2.out.heap HB1.out (fun h => h)))
  clear hsl HB0 HB1 d0 d1 dz hlk hfm c11 g13 g14 fz
  go_region_held3 (fun W => W.cell? ⟨w.heap.size, 0, none⟩ = some (.int .i64 n) ∧ W.cell? ⟨B.s, 12, none⟩ = some (.int .i64 x.gen)) (go_keep)
    (first
      | (go_at_call 83; refine (HC.out _ (by first | exact (Fr.refl _ _).drewN _ | exact ((Fr.refl _ _).drewN _).drew)).mono ?_; rintro e w4 ⟨a', c', rfl, hb4, F4⟩; have e12 := (F4.cell (p := ⟨B.s, 12, none⟩) ls (fun h => h)).trans e12; have f0 := (F4.cell (p := ⟨w.heap.size, 0, none⟩) fl (fun h => h)).trans f0; have e0 := (F4.cell (p := ⟨w.heap.size + 1, 0, none⟩) el (fun h => h)).trans e0; have e1 := (F4.cell (p := ⟨w.heap.size + 1, 1, none⟩) el (fun h => h)).trans e1; have HB4 := hid hb4; have HF4 := hid F4; clear hb4 F4)
      | (go_at_call 82; refine (HK.out _ ⟨x.gen, a', ll, c', true⟩ (H2.out.fr0 HF4.out) (FrB.none ((HF1.out.trans HF2.out (fun _ _ h => h)).trans HF4.out (fun _ _ h => h))) ⟨bs, HB4.out, by rw [HL.out]; exact hl⟩).mono ?_; rintro e w5 ⟨err, g, D, rfl, hg, ho, hS5, F5⟩; have e12 : w5.cell? ⟨B.s, 12, none⟩ = some (.int .i64 x.gen) := hS5.sc.c12; obtain ⟨f0, f1, fz, fl⟩ := cells2 (F5.heap (HF4.out.heap HBB.out.1 (fun h => h)) (by decide)); have hb5 := F5.heap (HF4.out.heap HBB.out.2 (fun h => h)) (by decide); obtain ⟨e0, e1, ez, el⟩ := cells2 hb5; have H5 := hid (And.intro hg (And.intro ho (And.intro hS5 (And.intro F5 hb5)))); clear hg ho hS5 F5 hb5))
  go_wp2
  refine bodyPost_ret (v := .tuple #[.agg #[.int .i64 n, .int .i64 x.gen], .int .i64 err]) (by simp [results, go_sem, *]) rfl ?_
  obtain ⟨hg, ho, hS5, F5, hb5⟩ := H5.out
  have FL : Fr (fun b => b = w.heap.size + 1) w5 ((w5.setCell ⟨w.heap.size + 1, 0, none⟩ (.int .i64 n)).setCell ⟨w.heap.size + 1, 1, none⟩ (.int .i64 x.gen)) := ((Fr.refl (fun b => b = w.heap.size + 1) _).setCell (a := ⟨w.heap.size + 1, 0, none⟩) (fun _ => rfl) _).setCell (a := ⟨w.heap.size + 1, 1, none⟩) (fun _ => rfl) _
  refine ⟨err, g, D, ⟨x.gen, a', ll, c', true⟩, rfl, hg, OutR_frL ho FL hb5 (by decide), hS5.frL FL hb5 (by decide), ⟨rfl, rfl, (HB4.out.frB F5).frL FL hb5 (by decide)⟩, ?_⟩
  exact (((FrB.none ((HF1.out.trans HF2.out (fun _ _ h => h)).trans HF4.out (fun _ _ h => h))).trans F5).setCell (a := ⟨w.heap.size + 1, 0, none⟩) (fun h => absurd h (by simp)) _).setCell (a := ⟨w.heap.size + 1, 1, none⟩) (fun h => absurd h (by simp)) _
end SF
end Go.Proofs.YtgdhaaokolfdoaaGreatDoor
