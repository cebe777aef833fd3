/- A pack of texts: CX. Conditions: those that each text names. -/
import Derived.Test.YtgdhaaokolfdoaaGreatDoorWAE
import Derived.Shelf.RegionOpen
set_option linter.unusedVariables false
set_option linter.unusedSimpArgs false
set_option linter.unnecessarySimpa false
/- crc: all, more, Add, Sum. Conditions: the bytes lie in the world as Byts says, they are bytes. -/
namespace Go.Proofs.YtgdhaaokolfdoaaGreatDoor
open Go.RowKit Go.Sg Go.Shelf
attribute [local go_sem] Oper.semAt_some
theorem allb_any (a : Option Addr) (n c : Nat) (w : World) :
    Calls Tryz.prog 290 #[.slice a n c] w fun e w' => e = .returned (.func (.func 291) #[] #[.pointer (some ⟨w.heap.size, 0, none⟩)]) ∧ w.alloc (.cells #[.slice a n c] 203) = w' := by
  go_enter Tryz.func290, Tryz.ntmps290
  go_wp2
  go_ret
  exact ⟨rfl, rfl⟩
abbrev Byte := { x : Int // 0 ≤ x ∧ x < 256 }
abbrev encY (x : Byte) : Array Value := #[.int .u8 x.1]
def KpY (a : Option Addr) (W W' : World) : Prop := ∀ b off, a = some ⟨b, off, none⟩ → W'.heap[b]? = W.heap[b]?
set_option maxRecDepth 100000 in
set_option maxHeartbeats 2000000 in
theorem allb_stops {w : World} {bx g : Nat} {a : Option Addr} {n c : Nat} {bs : List Byte} (hx : w.heap[bx]? = some (.cells #[.slice (some ⟨g, 0, none⟩) 1 1] 203)) (hg : w.heap[g]? = some (.cells #[.slice a n c] 22)) (hb : Byts w a n (bs.map (·.1))) (hn : n ≤ 65536) :
    SeqStopsK Fence.wide 9 Tryz.prog 291 #[.pointer (some ⟨bx, 0, none⟩)] encY (KpY a) (fun xs => xs = bs) (fun pre => pre <+: bs) bs.length w := fun l J Jx W hW hJ _ hY h0 => by
  have cx := cell_of_heap ((hW.block bx (lt_of_heap hx)).trans hx) 0
  have cg := cell_of_heap ((hW.block g (lt_of_heap hg)).trans hg) 0
  simp at cx cg
  have hlen : bs.length = n := by have := hb.len; simpa using this
  have hcl : ∀ (i : Nat) (x : Byte), bs[i]? = some x → ∃ b off, a = some ⟨b, off, none⟩ ∧ W.cell? ⟨b, off + i, none⟩ = some (.int .u8 x.1) := fun i x hi => by
    obtain ⟨b, off, e, hlt, hc⟩ := hb.at_ i x.1 (by rw [List.getElem?_map, hi]; rfl)
    exact ⟨b, off, e, (hW.cell (p := ⟨b, off + i, none⟩) hlt).trans hc⟩
  have HCL := hid hcl
  have HLEN := hid hlen
  clear hx hg hb hW hcl hlen
  refine callsIn_of_wp Tryz.func291 rfl trivial ?_ rfl
  simp only [Tryz.ntmps291, List.size_toArray, List.length_cons, List.length_nil, Nat.reduceAdd, Nat.reduceSub, Array.replicate_succ, Array.replicate_zero, List.push_toArray, List.append_toArray, List.nil_append, List.cons_append]
  gi_wp2
  gi_loopw [9] (fun i wr => (i = .int .i64 0 ∧ J [] wr ∧ wr = W) ∨ (i = .int .i64 1 ∧ J bs wr)) (fun i _ => (1 - intOf i).toNat)
  case atStart => exact .inl ⟨rfl, h0, rfl⟩
  case round =>
    rcases hrel with ⟨rfl, hJs, rfl⟩ | ⟨rfl, hJs⟩
    · gi_wp2
      obtain ⟨wo, rfl⟩ : ∃ wo : World, wo = wr := ⟨_, rfl⟩
      gi_loopw [15] (fun i wr => ∃ k : Nat, k ≤ n ∧ i = .int .i64 k ∧ J (bs.take k) wr ∧ KpY a wo wr) (fun i _ => n - (intOf i).toNat)
      case atStart => exact ⟨0, Nat.zero_le _, rfl, hJs, fun _ _ _ => rfl⟩
      case round =>
        obtain ⟨k, hk, rfl, hJ2, hkp⟩ := hrel
        by_cases hlt : k < n
        · obtain ⟨x, hx⟩ : ∃ x, bs[k]? = some x := ⟨bs[k]'(by rw [HLEN.out]; exact hlt), List.getElem?_eq_getElem _⟩
          obtain ⟨b, off, rfl, hc⟩ := HCL.out k x hx
          have cb := (World.cell?_of_block (a := ⟨b, off + k, none⟩) (hkp b off rfl)).trans hc
          have hs : bs.take (k + 1) = bs.take k ++ [x] := by rw [List.take_add_one, hx]; rfl
          have hkl : (bs.take k).length = k := by rw [List.length_take]; have := HLEN.out; omega
          have HS := hid hs
          have HK := hid hkp
          have hkd : decide (k < n) = true := by simpa using hlt
          have hkd2 : decide ((k : Int) < (n : Int)) = true := by simpa using hlt
          clear hs hkp hx hc
          obtain ⟨fn, tmps, assign, body, hy, hR⟩ := hY _ x wr hJ2 (by rw [hkl, HLEN.out]; exact hlt)
          dsimp only [encY] at hy
          clear hkl
          gi_wp2
          refine hR.mono ?_
          rintro e W3 (⟨rfl, hJ3, hk3⟩ | ⟨rfl, hJx3⟩)
          · have HJ3 := hid hJ3
            have HK3 := hid hk3
            clear hJ3 hk3
            gi_wp2
            go_roundw
            case rel => exact ⟨k + 1, by omega, by go_num, by rw [HS.out]; exact HJ3.out, fun b' off' e => (HK3.out b' off' e).trans (HK.out b' off' e)⟩
            case measure => simp [intOf]; omega
          · have HJX := hid hJx3
            clear hJx3
            gi_wp2
            refine bodyPost_ret (results_none rfl _ _ _) rfl ?_
            exact ⟨⟨_, rfl⟩, .inr ⟨_, ⟨bs.drop (k + 1), by rw [← HS.out]; exact List.take_append_drop _ _⟩, HJX.out⟩⟩
        · obtain rfl : k = n := by omega
          have e : bs.take k = bs := List.take_of_length_le (by rw [HLEN.out]; exact Nat.le_refl _)
          rw [e] at hJ2
          gi_wp2
          go_roundw
          case rel => exact .inr ⟨rfl, hJ2⟩
          case measure => simp [intOf]
    · gi_wp2
      go_end0
      exact ⟨⟨_, rfl⟩, .inl ⟨_, rfl, hJs⟩⟩
theorem heap_setCells {b : Nat} {t : TypeId} (vs : List Value) : ∀ (o : Nat) (w : World) (c : Array Value), w.heap[b]? = some (.cells c t) → ∃ c', (w.setCells b o vs).heap[b]? = some (.cells c' t) := by
  induction vs with
  | nil => intro o w c h; exact ⟨c, h⟩
  | cons v vs ih => intro o w c h; exact ih (o + 1) _ _ (heap_setCell_cells _ _ _ _ h)
theorem wpListIn_store_mid {F : Fence} {n : Nat} {P : Program} {ops : Array Oper} {rest : List Oper} {op : Oper} {a : Act} {w : World} {Q : Exit → Act → World → Prop} (hgd : op.guard = none) (ty : TypeId) (x y : Operand) (ho : op.op = .store ty x y)
    (b o : Nat) (cells : Array Value) (hx : a.eval x = .pointer (some ⟨b, o, none⟩)) (hy : a.eval y = .agg cells)
    (ht : w.there b o cells.size) (hi : (P.info? ty).map (·.size) = some cells.size) (h1 : cells.all (·.oneCell') = true)
    (h : wpListIn F n P ops Q rest (a.put op.dst undef) (w.setCells b o cells.toList)) : wpListIn F n P ops Q (op :: rest) a w := by
  refine wpListIn_plain hgd fun K hK => ?_
  unfold Oper.wpIn
  refine ⟨?_, ?_⟩
  · simp [Oper.about, ho]
  · rw [Oper.semAt_plain F _ _ (by rw [ho]; intro c hc; cases hc)]
    unfold execOp
    simp only [ho, hx, hy, Instr.storeAt, Instr.sureAddr, Sem.run_bind, Sem.run_pure, Result.andThen_ok, run_storeVar_mid w b o ty cells ht hi h1]
    exact hK _ _ h
/-- What the check is when some bytes have come. -/
def crcAcc (s : Nat) (bs : List Int) : Nat := bs.foldl crcNext s
theorem crcAcc_snoc (s : Nat) (l : List Int) (x : Int) : crcAcc s (l ++ [x]) = crcNext (crcAcc s l) x := by simp [crcAcc]
theorem crcNext_lt {n : Nat} (hn : n < 4294967296) {x : Int} (h0 : 0 ≤ x) (h1 : x < 256) : crcNext n x < 4294967296 := by
  unfold crcNext
  refine Nat.xor_lt_two_pow (n := 32) (by omega) (crcTab_lt ?_)
  exact Nat.xor_lt_two_pow (n := 8) (by omega) (by omega)
theorem crcAcc_lt (bs : List Byte) {s : Nat} (hs : s < 4294967296) : crcAcc s (bs.map (·.1)) < 4294967296 := by
  induction bs generalizing s with
  | nil => exact hs
  | cons x l ih => exact ih (crcNext_lt hs x.2.1 x.2.2)
set_option maxRecDepth 100000 in
set_option maxHeartbeats 8000000 in
theorem more_ok {w : World} {s g : Nat} {a : Option Addr} {n c : Nat} {bs : List Byte} (hs : s < 4294967296) (hg : w.heap[g]? = some (.cells #[.slice a n c] 22)) (hb : Byts w a n (bs.map (·.1))) (hal : ∀ b off, a = some ⟨b, off, none⟩ → b < w.heap.size) (hn : n ≤ 65536) :
    Calls Tryz.prog 288 #[.int .u32 s, .slice (some ⟨g, 0, none⟩) 1 1] w fun e w' => e = .returned (.int .u32 ((4294967295 ^^^ crcAcc (4294967295 ^^^ s) (bs.map (·.1)) : Nat) : Int)) ∧ Fr (fun _ => False) w w' := by
  refine (callsIn_wide (n := 10)).1 ?_
  have HG := hid hg
  have HB := hid hb
  clear hg hb
  obtain ⟨tab, htab⟩ : ∃ tab : Array Value, (tabL 256).toArray = tab := ⟨_, rfl⟩
  have hT := table_ok w
  rw [htab] at hT
  have hsz : (Tryz.prog.info? 396).map (·.size) = some tab.size := by rw [← htab, List.size_toArray, tabL_len]; kernel_rfl
  have h1c : tab.all (·.oneCell') = true := by rw [← htab]; simp [tabL, Value.oneCell']
  have hts : tab.size = 256 := by rw [← htab, List.size_toArray, tabL_len]
  have htg : ∀ i, i < 256 → tab[i]? = some (.int .u32 (crcTab i : Nat)) := fun i hi => by rw [← htab]; simp [tabL, hi]
  obtain ⟨zs, hzs⟩ : ∃ zs : Array Value, Tryz.zeroCells396 = zs := ⟨_, rfl⟩
  have hzl : zs.size = 256 := by rw [← hzs, tabL_zero, List.size_toArray, tabL_len]
  have HT := hid hT
  have HTG := hid htg
  have HTS := hid hts
  have HZS := hid hzs
  clear htab hT htg hts hzs
  refine callsIn_of_wp_marks Tryz.func288 rfl trivial ?_ rfl
  simp only [Tryz.ntmps288, List.size_toArray, List.length_cons, List.length_nil, Nat.reduceAdd, Nat.reduceSub, Array.replicate_succ, Array.replicate_zero, List.push_toArray, List.append_toArray, List.nil_append, List.cons_append]
  gi_wp2_with (fail)
  refine (callsIn_wide.2 HT.out).mono ?_
  rintro e w1 ⟨rfl, F1⟩
  obtain ⟨w2, hw2⟩ : ∃ w2, w1.alloc (.cells zs 396) = w2 := ⟨_, rfl⟩
  have h2 : w2.heap[w1.heap.size]? = some (.cells zs 396) := by rw [← hw2]; exact heap_alloc_new _ _
  have F2 : Fr (fun _ => False) w1 w2 := by rw [← hw2]; exact (Fr.refl _ _).alloc _
  have ht : w2.there w1.heap.size 0 tab.size := by
    intro j hj
    refine ⟨?_, frozen_of_heap h2 _⟩
    rw [cell_of_heap h2]
    rw [HTS.out] at hj
    simp; omega
  have HTH := hid ht
  have HW2 := hid hw2
  have H2 := hid (And.intro h2 F2)
  clear ht hw2 h2 F2
  dsimp only
  iterate 8 (first | (rw [HZS.out, HW2.out]) | (refine wpListIn_store_mid (by rfl) 396 (.tmp 5) (.tmp 8) (by rfl) w1.heap.size 0 tab (by rfl) (by rfl) HTH.out hsz h1c ?_) | gi_step | gi_upon | skip)
  obtain ⟨w3, hw3⟩ : ∃ w3, w2.setCells w1.heap.size 0 tab.toList = w3 := ⟨_, rfl⟩
  rw [hw3]
  have ht3 : ∃ c3, w3.heap[w1.heap.size]? = some (.cells c3 396) ∧ ∀ i, i < 256 → c3[i]? = some (.int .u32 (crcTab i : Nat)) := by
    obtain ⟨c3, h3⟩ := heap_setCells (b := w1.heap.size) tab.toList 0 w2 _ H2.out.1
    rw [hw3] at h3
    refine ⟨c3, h3, fun i hi => ?_⟩
    have hr := World.rangeAt_setCells_same w2 w1.heap.size 0 tab.toList (by simpa using HTH.out)
    rw [hw3] at hr
    have := hr i (.int .u32 (crcTab i : Nat)) (by simpa using HTG.out i hi)
    rw [cell_of_heap h3, Nat.zero_add] at this
    exact this
  obtain ⟨c3, h3, hc3⟩ := ht3
  have F3 : Fr (fun _ => False) w w3 := by
    rw [← hw3]
    exact Fr.setCells F1.size _ _ _ (F1.trans H2.out.2 (fun _ _ h => h))
  have HC3 := hid hc3
  have H3 := hid (And.intro h3 F3)
  have l3 := lt_of_heap h3
  clear hw3 h3 F3 hc3 H2 HTH HW2 HZS HTG HTS hsz h1c HT
  have hx0 : bits BinOp.xor IntKind.u32 IntKind.u32.max (s : Int) = ((4294967295 ^^^ s : Nat) : Int) := by
    rw [show IntKind.u32.max = ((4294967295 : Nat) : Int) from rfl, u32_xor_nat _ _ (by decide) hs]
  obtain ⟨s0, hs0⟩ : ∃ s0, 4294967295 ^^^ s = s0 := ⟨_, rfl⟩
  have hs0l : s0 < 4294967296 := by rw [← hs0]; exact Nat.xor_lt_two_pow (n := 32) (by decide) hs
  rw [hs0] at hx0
  have HX0 := hid hx0
  have HS0 := hid hs0
  clear hx0 hs0
  gi_wp2_with (fail)
  rw [HX0.out]
  refine (callsIn_wide.2 (allb_any _ _ _ _)).mono ?_
  rintro e w' ⟨rfl, rfl⟩
  gi_wp2_with (fail)
  obtain ⟨W0, hW0⟩ : ∃ W0, (w3.alloc (.cells #[.int .u32 s0] 373)).alloc (.cells #[.slice (some ⟨g, 0, none⟩) 1 1] 203) = W0 := ⟨_, rfl⟩
  have hF0 : Fr (fun _ => False) w3 W0 := by rw [← hW0]; exact ((Fr.refl _ w3).alloc _).alloc _
  have hsz : W0.heap.size = w3.heap.size + 1 + 1 := by rw [← hW0]; simp
  have hnx : W0.heap[w3.heap.size]? = some (.cells #[.int .u32 s0] 373) := by rw [← hW0]; exact (heap_alloc_lt _ _ _ (by simp)).trans (heap_alloc_new _ _)
  have hbx : W0.heap[w3.heap.size + 1]? = some (.cells #[.slice (some ⟨g, 0, none⟩) 1 1] 203) := by rw [← hW0]; have := heap_alloc_new (w3.alloc (.cells #[.int .u32 s0] 373)) (.cells #[.slice (some ⟨g, 0, none⟩) 1 1] 203); simpa using this
  have hFw := H3.out.2.trans hF0 (fun _ _ h => h)
  have hT0 := hF0.heap H3.out.1 (fun h => h)
  have hg0 := hFw.heap HG.out (fun h => h)
  have hb0 := HB.out.fr hFw (fun _ _ _ _ h => h)
  have hw0 := H3.out.2.size
  have ha := hb0.len
  have hbl : bs.length = n := by simpa using ha
  simp only [World.size_alloc, hW0]
  refine wpIn_rangeFunc_ownG (F := Fence.wide) rfl (by omega) (gf := 291) (lb := #[.pointer (some ⟨w3.heap.size + 1, 0, none⟩)]) rfl trivial (enters_of Tryz.func291 (by kernel_rfl) rfl)
    (allb_stops hbx hg0 hb0 hn) (fun h k b off e => (k b off e).trans (h b off e)) (fun W l o o' hl _ _ _ b off e => heap_putObj_ne _ _ _ _ (by have := hal b off e; omega)) (Below.refl _ _) (fun _ => rfl)
    (fun pre W => (W.heap[w3.heap.size]? = some (.cells #[.int .u32 ((crcAcc s0 (pre.map (·.1)) : Nat) : Int)] 373) ∧ W.heap[w1.heap.size]? = some (.cells c3 396)) ∧ Fr (fun _ => False) w W)
    (fun _ _ _ => False)
    (own_and (own_and (own_block _ _ _ (fun _ => .inl rfl)) (own_block _ _ _ (fun _ => .inl rfl))) (own_fr (by omega)))
    (fun _ _ _ _ _ h => h.elim)
    ⟨⟨hnx, hT0⟩, hFw⟩
    (fun x => { tmps := #[.int .u32 s, .slice (some ⟨g, 0, none⟩) 1 1, undef, undef, .int .u32 0, .pointer (some ⟨w1.heap.size, 0, none⟩), .pointer (some ⟨w3.heap.size, 0, none⟩), .int .u8 x.1, .agg tab, .int .u32 s, .int .u32 s0, .slice (some ⟨g, 0, none⟩) 1 1, .func (.func 291) #[] #[.pointer (some ⟨w3.heap.size + 1, 0, none⟩)], .int .u8 x.1, undef, undef, undef, undef, undef, undef, undef, undef, undef, undef, undef], defers := [] }) ?assign ?body ?done ?stop
  case assign =>
    intro l x W K hK
    gi_wp2
    exact hK
  case body =>
    rintro l pre x W ⟨⟨h1, h2⟩, hF⟩ hlen
    have hac := crcAcc_lt pre hs0l
    have hmx : Tryz.prog.follows .mixedOrders = true := by kernel_rfl
    generalize hacc : crcAcc s0 (pre.map (·.1)) = acc at h1 hac
    have k0 := cell_of_heap h1 0
    have kz := frozen_of_heap h1 0
    simp at k0
    have hidx : ((acc % 256) ^^^ x.1.toNat) < 256 := Nat.xor_lt_two_pow (n := 8) (by omega) (by have := x.2; omega)
    have kt := (cell_of_heap h2 ((acc % 256) ^^^ x.1.toNat)).trans (HC3.out _ hidx)
    obtain ⟨ix, hix⟩ : ∃ ix : Nat, (acc % 256) ^^^ x.1.toNat = ix := ⟨_, rfl⟩
    rw [hix] at kt hidx
    have hxr : bits BinOp.xor IntKind.u8 ((acc : Int) % 256) x.1 = (ix : Int) := by
      obtain ⟨y, hy⟩ := Int.eq_ofNat_of_zero_le x.2.1
      have := x.2.2
      rw [hy] at this hix ⊢
      rw [show ((acc : Int) % 256) = ((acc % 256 : Nat) : Int) by simp, u8_xor_nat _ _ (by omega) (by omega)]
      simp at hix
      rw [hix]
    have hxr2 : bits BinOp.xor IntKind.u8 (IntKind.u8.wrap (acc : Int)) x.1 = (ix : Int) := by
      rw [IntKind.wrap_u8']; exact hxr
    have HIX := hid hix
    clear hix
    have HA := hid hacc
    have H12 := hid (And.intro h1 (And.intro h2 hF))
    clear hacc h1 h2 hF
    gi_wp2
    have fin : KeepsFrom W0.heap.size W (W.setCell ⟨w3.heap.size, 0, none⟩ (.int .u32 (bits BinOp.xor IntKind.u32 ((acc : Int) / 256) ((crcTab ix : Nat) : Int)))).drew ∧
        KpY a W (W.setCell ⟨w3.heap.size, 0, none⟩ (.int .u32 (bits BinOp.xor IntKind.u32 ((acc : Int) / 256) ((crcTab ix : Nat) : Int)))).drew ∧
        (((W.setCell ⟨w3.heap.size, 0, none⟩ (.int .u32 (bits BinOp.xor IntKind.u32 ((acc : Int) / 256) ((crcTab ix : Nat) : Int)))).drew.heap[w3.heap.size]? = some (.cells #[.int .u32 ((crcAcc s0 ((pre ++ [x]).map (·.1)) : Nat) : Int)] 373) ∧
          (W.setCell ⟨w3.heap.size, 0, none⟩ (.int .u32 (bits BinOp.xor IntKind.u32 ((acc : Int) / 256) ((crcTab ix : Nat) : Int)))).drew.heap[w1.heap.size]? = some (.cells c3 396)) ∧
          Fr (fun _ => False) w (W.setCell ⟨w3.heap.size, 0, none⟩ (.int .u32 (bits BinOp.xor IntKind.u32 ((acc : Int) / 256) ((crcTab ix : Nat) : Int)))).drew) := by
      obtain ⟨h1, h2, hF⟩ := H12.out
      have hnw : bits BinOp.xor IntKind.u32 ((acc : Int) / 256) ((crcTab ix : Nat) : Int) = ((crcAcc s0 ((pre ++ [x]).map (·.1)) : Nat) : Int) := by
        rw [show (acc : Int) / 256 = ((acc / 256 : Nat) : Int) by simp, u32_xor_nat _ _ (by omega) (crcTab_lt hidx)]
        rw [List.map_append, show List.map (fun y : Byte => y.1) [x] = [x.1] from rfl, crcAcc_snoc, HA.out, ← HIX.out]
        rfl
      rw [hnw]
      refine ⟨((KeepsOthers.setCell _ _ _).trans (KeepsOthers.drew _)).from _, fun b off e => heap_setCell_ne _ _ _ _ (by have := hal b off e; simp; omega), ⟨?_, (heap_setCell_ne _ _ _ _ (by simp; omega)).trans h2⟩, (hF.setNew (by omega) _).drew⟩
      rw [show (W.setCell ⟨w3.heap.size, 0, none⟩ (.int .u32 ((crcAcc s0 ((pre ++ [x]).map (·.1)) : Nat) : Int))).drew.heap = (W.setCell ⟨w3.heap.size, 0, none⟩ (.int .u32 ((crcAcc s0 ((pre ++ [x]).map (·.1)) : Nat) : Int))).heap from rfl, heap_setCell_cells _ _ _ _ h1]
      rfl
    gi_region_with_o (fail)
    all_goals exact fin
  case done =>
    rintro D ys W hD rfl ⟨⟨h1, h2⟩, hF⟩ hK
    have hac := crcAcc_lt ys hs0l
    generalize hacc : crcAcc s0 (ys.map (·.1)) = acc at h1 hac
    have k0 := cell_of_heap h1 0
    simp at k0
    have hx1 : bits BinOp.xor IntKind.u32 IntKind.u32.max (acc : Int) = ((4294967295 ^^^ acc : Nat) : Int) := by
      rw [show IntKind.u32.max = ((4294967295 : Nat) : Int) from rfl, u32_xor_nat _ _ (by decide) hac]
    have HA := hid (And.intro hacc hx1)
    have HF := hid hF
    clear hacc hx1 h1 h2 hF
    gi_wp2
    rw [HA.out.2]
    refine marks_ret1 (t := 4) rfl hK ⟨by rw [HS0.out, HA.out.1]; rfl, HF.out.putObj (fun hh => by omega) _⟩
  case stop => exact fun _ _ _ _ _ _ h => h.elim
theorem bytes_sub {bs : List Int} (h : ∀ x ∈ bs, 0 ≤ x ∧ x < 256) : ∃ l : List Byte, l.map (·.1) = bs := by
  induction bs with
  | nil => exact ⟨[], rfl⟩
  | cons x r ih =>
    obtain ⟨l, hl⟩ := ih fun y hy => h y (by simp [hy])
    exact ⟨⟨x, h x (by simp)⟩ :: l, by simp [hl]⟩
set_option maxRecDepth 100000 in
theorem sum_ok {w : World} {a : Option Addr} {n c : Nat} {bs : List Int} (hb : ByV w a n c bs) (hby : ∀ x ∈ bs, 0 ≤ x ∧ x < 256) (hn : n ≤ 65536) :
    Calls Tryz.prog 267 #[.slice a n c] w fun e w' => e = .returned (.int .u32 ((crcM bs : Nat) : Int)) ∧ Fr (fun _ => False) w w' := by
  obtain ⟨l, rfl⟩ := bytes_sub hby
  obtain ⟨w1, hw1⟩ : ∃ w1, w.alloc (.cells #[.slice a n c] 22) = w1 := ⟨_, rfl⟩
  have F1 : Fr (fun _ => False) w w1 := by rw [← hw1]; exact (Fr.refl _ _).alloc _
  have b1 : w1.heap[w.heap.size]? = some (.cells #[.slice a n c] 22) := by rw [← hw1]; exact heap_alloc_new _ _
  have hal : ∀ b off, a = some ⟨b, off, none⟩ → b < w1.heap.size := fun b off e => by
    have hs := F1.size
    rcases hb.at_ with ⟨h0, _⟩ | ⟨b', off', cs, h1, h2⟩
    · rw [h0] at e; cases e
    · rw [h1] at e; cases e; have := lt_of_heap h2; omega
  have HM := hid (more_ok (s := 0) (by decide) b1 (hb.by_.fr F1 (fun _ _ _ _ h => h)) hal hn)
  have HW := hid hw1
  have HF1 := hid F1
  clear hw1 F1 b1 hb hby hal
  have HA : Calls Tryz.prog 285 #[.int .u32 0, .slice a n c] w fun e w' => e = .returned (.int .u32 ((crcM (l.map (·.1)) : Nat) : Int)) ∧ Fr (fun _ => False) w w' := by
    go_enter Tryz.func285, Tryz.ntmps285
    go_wp2_with fail
    rw [HW.out]
    refine HM.out.mono ?_
    rintro e w2 ⟨rfl, F2⟩
    have HF2 := hid F2
    clear F2
    go_wp2
    go_ret
    refine ⟨?_, HF1.out.trans HF2.out (fun _ _ h => h)⟩
    rw [crcM, Nat.xor_comm]
    rfl
  have HA := hid HA
  clear HM HW HF1
  go_enter Tryz.func267, Tryz.ntmps267
  go_wp2_with fail
  refine HA.out.mono ?_
  rintro e w2 ⟨rfl, F2⟩
  have HF2 := hid F2
  clear F2
  go_wp2
  go_ret
  exact ⟨rfl, HF2.out⟩
end Go.Proofs.YtgdhaaokolfdoaaGreatDoor
