/- A pack of texts: CX. Conditions: those that each text names. -/
import Derived.Test.YtgdhaaokolfdoaaGreatDoorNAD
import Derived.Shelf.RegionOpen
import Derived.Test.YtgdhaaokolfdoaaGreatDoorNAC
import Derived.Deep.RegionHeld3
set_option maxHeartbeats 16000000
set_option maxRecDepth 100000
set_option linter.all false
namespace Go.Proofs.YtgdhaaokolfdoaaGreatDoor
open Go.RowKit Go.Sg Go.Shelf
attribute [local go_sem] Oper.semAt_some
theorem allb_any (a : Option Addr) (n c : Nat) (w : World) :
  Calls Tryz.prog 290 #[.slice a n c] w fun e w' => e = .returned (.func (.func 291) #[] #[.pointer (some ⟨w.heap.size, 0, none⟩)]) /\ w.alloc (.cells #[.slice a n c] 203) = w' := by
 go_enter Tryz.func290, Tryz.ntmps290;go_wp2
 go_ret;exact ⟨rfl, rfl⟩
abbrev Byte := { x : Int // 0 <= x /\ x < 256 }
abbrev encY (x : Byte) : Array Value := #[.int .u8 x.1]
def KpY (a : Option Addr) (W W' : World) : Prop := ∀ b off, a = some ⟨b, off, none⟩ -> W'.heap[b]? = W.heap[b]?
variable {w : World} {c g n s : Nat} {a : Option Addr} {bs : List Byte}
theorem allb_stops {bx : Nat} (hx : w.heap[bx]? = some (.cells #[.slice (some ⟨g, 0, none⟩) 1 1] 203)) (hg : w.heap[g]? = some (.cells #[.slice a n c] 22)) (hb : Byts w a n (bs.map (·.1))) (hn : n <= 65536) :
  SeqStopsK Fence.wide 9 Tryz.prog 291 #[.pointer (some ⟨bx, 0, none⟩)] encY (KpY a) (fun xs => xs = bs) (fun pre => pre <+: bs) bs.length w := fun l J Jx W hW hJ _ hY h0 => by
 have cx := coh ((hW.block bx (loh hx)).trans hx) 0;have cg := coh ((hW.block g (loh hg)).trans hg) 0;simp at cx cg;have hlen : bs.length = n := by have := hb.len; simpa using this
 have hcl : ∀ (i : Nat) (x : Byte), bs[i]? = some x -> ∃ b off, a = some ⟨b, off, none⟩ /\ W.cell? ⟨b, off + i, none⟩ = some (.int .u8 x.1) := fun i x hi => by
  obtain ⟨b, off, e, hlt, hc⟩ := hb.at_ i x.1 (by rw [gP, hi]; rfl);exact ⟨b, off, e, (hW.cell (p := ⟨b, off + i, none⟩) hlt).trans hc⟩
 have HCL := hid hcl;have HLEN := hid hlen;clear hx hg hb hW hcl hlen;refine callsIn_of_wp Tryz.func291 rfl trivial ?_ rfl;simp only [Tryz.ntmps291, zA, lC, List.length_nil, Nat.reduceAdd, Nat.reduceSub, Array.replicate_succ, Array.replicate_zero, List.push_toArray, List.append_toArray, List.nil_append, List.cons_append];gi_wp2
 gi_loopw [9] (fun i wr => (i = .int .i64 0 /\ J [] wr /\ wr = W) \/ (i = .int .i64 1 /\ J bs wr)) (fun i _ => (1 - intOf i).toNat)
 case atStart => exact .inl ⟨rfl, h0, rfl⟩
 case round =>
  rcases hrel with ⟨rfl, hJs, rfl⟩ | ⟨rfl, hJs⟩
  ·gi_wp2
   obtain ⟨wo, rfl⟩ : ∃ wo : World, wo = wr := ⟨_, rfl⟩
   gi_loopw [15] (fun i wr => ∃ k : Nat, k <= n /\ i = .int .i64 k /\ J (bs.take k) wr /\ KpY a wo wr) (fun i _ => n - (intOf i).toNat)
   case atStart => exact ⟨0, Nat.zero_le _, rfl, hJs, fun _ _ _ => rfl⟩
   case round =>
    obtain ⟨k, hk, rfl, hJ2, hkp⟩ := hrel;by_cases hlt : k < n
    ·obtain ⟨x, hx⟩ : ∃ x, bs[k]? = some x := ⟨bs[k]'(by rw [HLEN.out]; exact hlt), gE _⟩
     obtain ⟨b, off, rfl, hc⟩ := HCL.out k x hx;have cb := (World.cell?_of_block (a := ⟨b, off + k, none⟩) (hkp b off rfl)).trans hc;have hs : bs.take (k + 1) = bs.take k ++ [x] := (by rw [List.take_add_one, hx]; rfl);have hkl : (bs.take k).length = k := (by rw [lT]; have := HLEN.out; omega);have HS := hid hs;have HK := hid hkp;have hkd : decide (k < n) = true := (by simpa using hlt);have hkd2 : decide ((k : Int) < (n : Int)) = true := (by simpa using hlt);clear hs hkp hx hc;obtain ⟨fn, tmps, assign, body, hy, hR⟩ := hY _ x wr hJ2 (by rw [hkl, HLEN.out]; exact hlt);dsimp only [encY] at hy;clear hkl;gi_wp2
     refine hR.mono ?_;rintro e W3 (⟨rfl, hJ3, hk3⟩ | ⟨rfl, hJx3⟩)
     ·have HJ3 := hid hJ3;have HK3 := hid hk3;clear hJ3 hk3;gi_wp2
      go_roundw;case rel => exact ⟨k + 1, by omega, by go_num, by rw [HS.out]; exact HJ3.out, fun b' off' e => (HK3.out b' off' e).trans (HK.out b' off' e)⟩
      case measure => simp [intOf]; omega
     ·have HJX := hid hJx3;clear hJx3;gi_wp2
      refine bodyPost_ret (results_none rfl _ _ _) rfl ?_;exact ⟨⟨_, rfl⟩, .inr ⟨_, ⟨bs.drop (k + 1), by rw [<- HS.out]; exact List.take_append_drop _ _⟩, HJX.out⟩⟩
    ·obtain rfl : k = n := by omega
     have e : bs.take k = bs := tL (by rw [HLEN.out]; exact nR _);rw [e] at hJ2;gi_wp2
     go_roundw;case rel => exact .inr ⟨rfl, hJ2⟩
     case measure => simp [intOf]
  ·gi_wp2
   go_end0
   exact ⟨⟨_, rfl⟩, .inl ⟨_, rfl, hJs⟩⟩
theorem heap_setCells {b : Nat} {t : TypeId} (vs : List Value) : ∀ (o : Nat) (w : World) (c : Array Value), w.heap[b]? = some (.cells c t) -> ∃ c', (w.setCells b o vs).heap[b]? = some (.cells c' t) := by
 induction vs with
 | nil => intro o w c h; exact ⟨c, h⟩
 | cons v vs ih => intro o w c h; exact ih (o + 1) _ _ (hsc _ _ _ _ h)
theorem wpListIn_store_mid {F : Fence} {P : Program} {ops : Array Oper} {rest : List Oper} {op : Oper} {a : Act} {Q : Exit -> Act -> World -> Prop} (hgd : op.guard = none) (ty : TypeId) (x y : Operand) (ho : op.op = .store ty x y)
  (b o : Nat) (cells : Array Value) (hx : a.eval x = .pointer (some ⟨b, o, none⟩)) (hy : a.eval y = .agg cells)
  (ht : w.there b o cells.size) (hi : (P.info? ty).map (·.size) = some cells.size) (h1 : cells.all (·.oneCell') = true)
  (h : wpListIn F n P ops Q rest (a.put op.dst undef) (w.setCells b o cells.toList)) : wpListIn F n P ops Q (op :: rest) a w := by
 refine wpListIn_plain hgd fun K hK => ?_
 unfold Oper.wpIn;refine ⟨?_, ?_⟩
 ·simp [Oper.about, ho]
 ·rw [Oper.semAt_plain F _ _ (by rw [ho]; intro c hc; cases hc)];unfold execOp;simp only [ho, hx, hy, Instr.storeAt, Instr.sureAddr, Sem.run_bind, Sem.run_pure, Result.andThen_ok, run_storeVar_mid w b o ty cells ht hi h1];exact hK _ _ h
def crcAcc (s : Nat) (bs : List Int) : Nat := bs.foldl crcNext s
theorem crcAcc_snoc (s : Nat) (l : List Int) (x : Int) : crcAcc s (l ++ [x]) = crcNext (crcAcc s l) x := by simp [crcAcc]
theorem crcNext_lt (hn : n < 4294967296) {x : Int} (h0 : 0 <= x) (h1 : x < 256) : crcNext n x < 4294967296 := by
 unfold crcNext;refine Nat.xor_lt_two_pow (n := 32) (by omega) (crcTab_lt ?_);exact Nat.xor_lt_two_pow (n := 8) (by omega) (by omega)
theorem crcAcc_lt (bs : List Byte) (hs : s < 4294967296) : crcAcc s (bs.map (·.1)) < 4294967296 := by
 induction bs generalizing s with
 | nil => exact hs
 | cons x l ih => exact ih (crcNext_lt hs x.2.1 x.2.2)
theorem more_ok (hs : s < 4294967296) (hg : w.heap[g]? = some (.cells #[.slice a n c] 22)) (hb : Byts w a n (bs.map (·.1))) (hal : ∀ b off, a = some ⟨b, off, none⟩ -> b < w.heap.size) (hn : n <= 65536) :
  Calls Tryz.prog 288 #[.int .u32 s, .slice (some ⟨g, 0, none⟩) 1 1] w fun e w' => e = .returned (.int .u32 ((4294967295 ^^^ crcAcc (4294967295 ^^^ s) (bs.map (·.1)) : Nat) : Int)) /\ Fq w w' := by
 refine (callsIn_wide (n := 10)).1 ?_;have HG := hid hg;have HB := hid hb;clear hg hb;obtain ⟨tab, htab⟩ : ∃ tab : Array Value, (tabL 256).toArray = tab := ⟨_, rfl⟩
 have hT := table_ok w;rw [htab] at hT;have hsz : (Tryz.prog.info? 396).map (·.size) = some tab.size := by rw [<- htab, zA, tabL_len]; kernel_rfl
 have h1c : tab.all (·.oneCell') = true := by rw [<- htab]; simp [tabL, Value.oneCell']
 have hts : tab.size = 256 := by rw [<- htab, zA, tabL_len]
 have htg : ∀ i, i < 256 -> tab[i]? = some (.int .u32 (crcTab i : Nat)) := fun i hi => by rw [<- htab]; simp [tabL, hi]
 obtain ⟨zs, hzs⟩ : ∃ zs : Array Value, Tryz.zeroCells396 = zs := ⟨_, rfl⟩
 have hzl : zs.size = 256 := by rw [<- hzs, tabL_zero, zA, tabL_len]
 have HT := hid hT;have HTG := hid htg;have HTS := hid hts;have HZS := hid hzs;clear htab hT htg hts hzs;refine callsIn_of_wp_marks Tryz.func288 rfl trivial ?_ rfl;simp only [Tryz.ntmps288, zA, lC, List.length_nil, Nat.reduceAdd, Nat.reduceSub, Array.replicate_succ, Array.replicate_zero, List.push_toArray, List.append_toArray, List.nil_append, List.cons_append];gi_wp2_with (fail)
 refine (callsIn_wide.2 HT.out).mono ?_;rintro e w1 ⟨rfl, F1⟩;obtain ⟨w2, hw2⟩ : ∃ w2, w1.alloc (.cells zs 396) = w2 := ⟨_, rfl⟩
 have h2 : w2.heap[w1.heap.size]? = some (.cells zs 396) := by rw [<- hw2]; exact han _ _
 have F2 : Fq w1 w2 := by rw [<- hw2]; exact (Fr.refl _ _).alloc _
 have ht : w2.there w1.heap.size 0 tab.size := by
  intro j hj;refine ⟨?_, foh h2 _⟩;rw [coh h2];rw [HTS.out] at hj;simp; omega
 have HTH := hid ht;have HW2 := hid hw2;have H2 := hi2 h2 F2;clear ht hw2 h2 F2;dsimp only;iterate 8 (first | (rw [HZS.out, HW2.out]) | (refine wpListIn_store_mid (by rfl) 396 (.tmp 5) (.tmp 8) (by rfl) w1.heap.size 0 tab (by rfl) (by rfl) HTH.out hsz h1c ?_) | gi_step | gi_upon | skip)
 obtain ⟨w3, hw3⟩ : ∃ w3, w2.setCells w1.heap.size 0 tab.toList = w3 := ⟨_, rfl⟩
 rw [hw3];have ht3 : ∃ c3, w3.heap[w1.heap.size]? = some (.cells c3 396) /\ ∀ i, i < 256 -> c3[i]? = some (.int .u32 (crcTab i : Nat)) := by
  obtain ⟨c3, h3⟩ := heap_setCells (b := w1.heap.size) tab.toList 0 w2 _ H2.out.1;rw [hw3] at h3;refine ⟨c3, h3, fun i hi => ?_⟩;have hr := World.rangeAt_setCells_same w2 w1.heap.size 0 tab.toList (by simpa using HTH.out);rw [hw3] at hr;have := hr i (.int .u32 (crcTab i : Nat)) (by simpa using HTG.out i hi);rw [coh h3, Nat.zero_add] at this;exact this
 obtain ⟨c3, h3, hc3⟩ := ht3;have F3 : Fq w w3 := by
  rw [<- hw3];exact Fr.setCells F1.size _ _ _ (F1.trans H2.out.2 (fun _ _ h => h))
 have HC3 := hid hc3;have H3 := hi2 h3 F3;have l3 := loh h3;clear hw3 h3 F3 hc3 H2 HTH HW2 HZS HTG HTS hsz h1c HT;have hx0 : bits BinOp.xor IntKind.u32 IntKind.u32.max (s : Int) = ((4294967295 ^^^ s : Nat) : Int) := by
  rw [show IntKind.u32.max = ((4294967295 : Nat) : Int) from rfl, u32_xor_nat _ _ (by decide) hs]
 obtain ⟨s0, hs0⟩ : ∃ s0, 4294967295 ^^^ s = s0 := ⟨_, rfl⟩
 have hs0l : s0 < 4294967296 := by rw [<- hs0]; exact Nat.xor_lt_two_pow (n := 32) (by decide) hs
 rw [hs0] at hx0;have HX0 := hid hx0;have HS0 := hid hs0;clear hx0 hs0;gi_wp2_with (fail)
 rw [HX0.out];refine (callsIn_wide.2 (allb_any _ _ _ _)).mono ?_;rintro e w' ⟨rfl, rfl⟩;gi_wp2_with (fail)
 obtain ⟨W0, hW0⟩ : ∃ W0, (w3.alloc (.cells #[.int .u32 s0] 373)).alloc (.cells #[.slice (some ⟨g, 0, none⟩) 1 1] 203) = W0 := ⟨_, rfl⟩
 have hF0 : Fq w3 W0 := by rw [<- hW0]; exact ((Fr.refl _ w3).alloc _).alloc _
 have hsz : W0.heap.size = w3.heap.size + 1 + 1 := by rw [<- hW0]; simp
 have hnx : W0.heap[w3.heap.size]? = some (.cells #[.int .u32 s0] 373) := by rw [<- hW0]; exact (heap_alloc_lt _ _ _ (by simp)).trans (han _ _)
 have hbx : W0.heap[w3.heap.size + 1]? = some (.cells #[.slice (some ⟨g, 0, none⟩) 1 1] 203) := by rw [<- hW0]; have := han (w3.alloc (.cells #[.int .u32 s0] 373)) (.cells #[.slice (some ⟨g, 0, none⟩) 1 1] 203); simpa using this
 have hFw := H3.out.2.trans hF0 (fun _ _ h => h);have hT0 := hF0.heap H3.out.1 (fun h => h);have hg0 := hFw.heap HG.out (fun h => h);have hb0 := HB.out.fr hFw (fun _ _ _ _ h => h);have hw0 := H3.out.2.size;have ha := hb0.len;have hbl : bs.length = n := by simpa using ha
 simp only [World.size_alloc, hW0];refine wpIn_rangeFunc_ownG (F := Fence.wide) rfl (by omega) (gf := 291) (lb := #[.pointer (some ⟨w3.heap.size + 1, 0, none⟩)]) rfl trivial (enters_of Tryz.func291 (by kernel_rfl) rfl)
  (allb_stops hbx hg0 hb0 hn) (fun h k b off e => (k b off e).trans (h b off e)) (fun W l o o' hl _ _ _ b off e => hpj _ _ _ _ (by have := hal b off e; omega)) (Below.refl _ _) (fun _ => rfl)
  (fun pre W => (W.heap[w3.heap.size]? = some (.cells #[.int .u32 ((crcAcc s0 (pre.map (·.1)) : Nat) : Int)] 373) /\ W.heap[w1.heap.size]? = some (.cells c3 396)) /\ Fq w W)
  (fun _ _ _ => False)
  (own_and (own_and (own_block _ _ _ (fun _ => .inl rfl)) (own_block _ _ _ (fun _ => .inl rfl))) (own_fr (by omega)))
  (fun _ _ _ _ _ h => h.elim)
  ⟨⟨hnx, hT0⟩, hFw⟩
  (fun x => { tmps := #[.int .u32 s, .slice (some ⟨g, 0, none⟩) 1 1, undef, undef, .int .u32 0, .pointer (some ⟨w1.heap.size, 0, none⟩), .pointer (some ⟨w3.heap.size, 0, none⟩), .int .u8 x.1, .agg tab, .int .u32 s, .int .u32 s0, .slice (some ⟨g, 0, none⟩) 1 1, .func (.func 291) #[] #[.pointer (some ⟨w3.heap.size + 1, 0, none⟩)], .int .u8 x.1, undef, undef, undef, undef, undef, undef, undef, undef, undef, undef, undef], defers := [] }) ?assign ?body ?done ?stop
 case assign =>
  intro l x W K hK;gi_wp2
  exact hK
 case body =>
  rintro l pre x W ⟨⟨h1, h2⟩, hF⟩ hlen;have hac := crcAcc_lt pre hs0l;have hmx : Tryz.prog.follows .mixedOrders = true := by kernel_rfl
  generalize hacc : crcAcc s0 (pre.map (·.1)) = acc at h1 hac;have k0 := coh h1 0;have kz := foh h1 0;simp at k0;have hidx : ((acc % 256) ^^^ x.1.toNat) < 256 := Nat.xor_lt_two_pow (n := 8) (by omega) (by have := x.2; omega);have kt := (coh h2 ((acc % 256) ^^^ x.1.toNat)).trans (HC3.out _ hidx);obtain ⟨ix, hix⟩ : ∃ ix : Nat, (acc % 256) ^^^ x.1.toNat = ix := ⟨_, rfl⟩
  rw [hix] at kt hidx;have hxr : bits BinOp.xor IntKind.u8 ((acc : Int) % 256) x.1 = (ix : Int) := by
   obtain ⟨y, hy⟩ := iZ x.2.1;have := x.2.2;rw [hy] at this hix ⊢;rw [show ((acc : Int) % 256) = ((acc % 256 : Nat) : Int) by simp, u8_xor_nat _ _ (by omega) (by omega)];simp at hix;rw [hix]
  have hxr2 : bits BinOp.xor IntKind.u8 (IntKind.u8.wrap (acc : Int)) x.1 = (ix : Int) := by
   rw [IntKind.wrap_u8']; exact hxr
  have HIX := hid hix;clear hix;have HA := hid hacc;have H12 := hi2 h1 (aI h2 hF);clear hacc h1 h2 hF;gi_wp2
  have fin : KeepsFrom W0.heap.size W (W.setCell ⟨w3.heap.size, 0, none⟩ (.int .u32 (bits BinOp.xor IntKind.u32 ((acc : Int) / 256) ((crcTab ix : Nat) : Int)))).drew /\
    KpY a W (W.setCell ⟨w3.heap.size, 0, none⟩ (.int .u32 (bits BinOp.xor IntKind.u32 ((acc : Int) / 256) ((crcTab ix : Nat) : Int)))).drew /\
    (((W.setCell ⟨w3.heap.size, 0, none⟩ (.int .u32 (bits BinOp.xor IntKind.u32 ((acc : Int) / 256) ((crcTab ix : Nat) : Int)))).drew.heap[w3.heap.size]? = some (.cells #[.int .u32 ((crcAcc s0 ((pre ++ [x]).map (·.1)) : Nat) : Int)] 373) /\
     (W.setCell ⟨w3.heap.size, 0, none⟩ (.int .u32 (bits BinOp.xor IntKind.u32 ((acc : Int) / 256) ((crcTab ix : Nat) : Int)))).drew.heap[w1.heap.size]? = some (.cells c3 396)) /\
     Fq w (W.setCell ⟨w3.heap.size, 0, none⟩ (.int .u32 (bits BinOp.xor IntKind.u32 ((acc : Int) / 256) ((crcTab ix : Nat) : Int)))).drew) := by
   obtain ⟨h1, h2, hF⟩ := H12.out;have hnw : bits BinOp.xor IntKind.u32 ((acc : Int) / 256) ((crcTab ix : Nat) : Int) = ((crcAcc s0 ((pre ++ [x]).map (·.1)) : Nat) : Int) := by
    rw [show (acc : Int) / 256 = ((acc / 256 : Nat) : Int) by simp, u32_xor_nat _ _ (by omega) (crcTab_lt hidx)];rw [List.map_append, show List.map (fun y : Byte => y.1) [x] = [x.1] from rfl, crcAcc_snoc, HA.out, <- HIX.out];rfl
   rw [hnw];refine ⟨((KeepsOthers.setCell _ _ _).trans (KeepsOthers.drew _)).from _, fun b off e => heap_setCell_ne _ _ _ _ (by have := hal b off e; simp; omega), ⟨?_, (heap_setCell_ne _ _ _ _ (by simp; omega)).trans h2⟩, (hF.setNew (by omega) _).drew⟩;rw [show (W.setCell ⟨w3.heap.size, 0, none⟩ (.int .u32 ((crcAcc s0 ((pre ++ [x]).map (·.1)) : Nat) : Int))).drew.heap = (W.setCell ⟨w3.heap.size, 0, none⟩ (.int .u32 ((crcAcc s0 ((pre ++ [x]).map (·.1)) : Nat) : Int))).heap from rfl, hsc _ _ _ _ h1];rfl
  gi_region_with_o (fail)
  all_goals exact fin
 case done =>
  rintro D ys W hD rfl ⟨⟨h1, h2⟩, hF⟩ hK;have hac := crcAcc_lt ys hs0l;generalize hacc : crcAcc s0 (ys.map (·.1)) = acc at h1 hac;have k0 := coh h1 0;simp at k0;have hx1 : bits BinOp.xor IntKind.u32 IntKind.u32.max (acc : Int) = ((4294967295 ^^^ acc : Nat) : Int) := by
   rw [show IntKind.u32.max = ((4294967295 : Nat) : Int) from rfl, u32_xor_nat _ _ (by decide) hac]
  have HA := hi2 hacc hx1;have HF := hid hF;clear hacc hx1 h1 h2 hF;gi_wp2
  rw [HA.out.2];refine marks_ret1 (t := 4) rfl hK ⟨by rw [HS0.out, HA.out.1]; rfl, HF.out.putObj (fun hh => by omega) _⟩
 case stop => exact fun _ _ _ _ _ _ h => h.elim
theorem bytes_sub {bs : List Int} (h : ∀ x ∈ bs, 0 <= x /\ x < 256) : ∃ l : List Byte, l.map (·.1) = bs := by
 induction bs with
 | nil => exact ⟨[], rfl⟩
 | cons x r ih =>
  obtain ⟨l, hl⟩ := ih fun y hy => h y (by simp [hy])
  exact ⟨⟨x, h x (by simp)⟩ :: l, by simp [hl]⟩
theorem sum_ok {bs : List Int} (hb : ByV w a n c bs) (hby : ∀ x ∈ bs, 0 <= x /\ x < 256) (hn : n <= 65536) :
  Calls Tryz.prog 267 #[.slice a n c] w fun e w' => e = .returned (.int .u32 ((crcM bs : Nat) : Int)) /\ Fq w w' := by
 obtain ⟨l, rfl⟩ := bytes_sub hby
 obtain ⟨w1, hw1⟩ : ∃ w1, w.alloc (.cells #[.slice a n c] 22) = w1 := ⟨_, rfl⟩
 have F1 : Fq w w1 := by rw [<- hw1]; exact (Fr.refl _ _).alloc _
 have b1 : w1.heap[w.heap.size]? = some (.cells #[.slice a n c] 22) := by rw [<- hw1]; exact han _ _
 have hal : ∀ b off, a = some ⟨b, off, none⟩ -> b < w1.heap.size := fun b off e => by
  have hs := F1.size;rcases hb.at_ with ⟨h0, _⟩ | ⟨b', off', cs, h1, h2⟩
  ·rw [h0] at e; cases e
  ·rw [h1] at e; cases e; have := loh h2; omega
 have HM := hid (more_ok (s := 0) (by decide) b1 (hb.by_.fr F1 (fun _ _ _ _ h => h)) hal hn);have HW := hid hw1;have HF1 := hid F1;clear hw1 F1 b1 hb hby hal;have HA : Calls Tryz.prog 285 #[.int .u32 0, .slice a n c] w fun e w' => e = .returned (.int .u32 ((crcM (l.map (·.1)) : Nat) : Int)) /\ Fq w w' := by
  go_enter Tryz.func285, Tryz.ntmps285;go_wp2_with fail
  rw [HW.out];refine HM.out.mono ?_;rintro e w2 ⟨rfl, F2⟩;have HF2 := hid F2;clear F2;go_wp2
  go_ret;refine ⟨?_, HF1.out.trans HF2.out (fun _ _ h => h)⟩;rw [crcM, Nat.xor_comm];rfl
 have HA := hid HA;clear HM HW HF1;go_enter Tryz.func267, Tryz.ntmps267;go_wp2_with fail
 refine HA.out.mono ?_;rintro e w2 ⟨rfl, F2⟩;have HF2 := hid F2;clear F2;go_wp2
 go_ret;exact ⟨rfl, HF2.out⟩
end Go.Proofs.YtgdhaaokolfdoaaGreatDoor
namespace Go.Sg
open Go.RowKit
structure LRs (w0 w : World) (r bx : Nat) (bs : List Int) (k p s : Int) (l : Value) : Prop where
 x : w.heap[bx]? = some (.cells #[.int .i64 k, .int .i64 p, .int .i64 s, l] 166)
 rd : RdAt w r bs false
 f : Fq w0 w
 le : w0.heap.size <= r /\ w0.heap.size <= bx
variable {w w' w0 : World} {bx r : Nat} {bs : List Int} {k p s : Int} {l : Value}
theorem LRs.ne (h : LRs w0 w r bx bs k p s l) : bx ≠ r := by
 intro e;obtain ⟨a, c, hr, _⟩ := h.rd.ex;rw [<- e, h.x] at hr; cases hr
theorem LRs.call {bs' : List Int} (h : LRs w0 w r bx bs k p s l) (F : Fr (fun b => b = r) w w') (hr : RdAt w' r bs' false) : LRs w0 w' r bx bs' k p s l :=
 ⟨F.heap h.x h.ne, hr, h.f.trans (S' := fun b => b = r) F (fun b hb e => by have := h.le.1; omega), h.le⟩
theorem RdAt.fr {S : Nat -> Prop} {bad : Bool} (h : RdAt w r bs bad) (F : Fr S w w') (h1 : ¬ S r) (h2 : ∀ b c, w.heap[b]? = some (.cells c 5) -> ¬ S b) : RdAt w' r bs bad := by
 obtain ⟨⟨a, c, hr, hb, hc⟩, hs⟩ := h;exact ⟨⟨a, c, F.heap hr h1, hb.fr F h2, hc⟩, hs⟩
theorem LRs.set (h : LRs w0 w r bx bs k p s l) (o : Nat) (v : Value) {k' p' s' : Int} {l' : Value}
  (he : (#[.int .i64 k, .int .i64 p, .int .i64 s, l] : Array Value).setIfInBounds o v = #[.int .i64 k', .int .i64 p', .int .i64 s', l']) : LRs w0 (w.setCell ⟨bx, o, none⟩ v) r bx bs k' p' s' l' := by
 have F : Fr (fun b => b = bx) w (w.setCell ⟨bx, o, none⟩ v) := (Fr.refl (fun b => b = bx) _).setCell (a := ⟨bx, o, none⟩) (fun _ => rfl) _;refine ⟨?_, h.rd.fr F (fun e => h.ne e.symm) (fun b c hc e => by rw [e, h.x] at hc; cases hc), h.f.trans (S' := fun b => b = bx) F (fun b hb e => by have := h.le.2; omega), h.le⟩;rw [hsc _ _ _ _ h.x, he]
end Go.Sg
namespace Go.Proofs.YtgdhaaokolfdoaaGreatDoor
section
open Go.RowKit Go.Sg
theorem bad_at {w : World} {r : Nat} {bs : List Int} {bad : Bool} (h : RdAt w r bs bad) : Calls Tryz.prog 218 #[.pointer (some ⟨r, 0, none⟩)] w fun e w' => e = .returned (.bool bad) /\ w = w' := by
 obtain ⟨⟨a, c, hr, hb, hc⟩, hs⟩ := h;have c1 := coh hr 1;simp at c1;clear hr hb hc hs;go_enter Tryz.func218, Tryz.ntmps218;go_wp2
 go_ret;exact ⟨rfl, rfl⟩
end
section
open Go.RowKit Go.Sg Go.Sg.Bits CP
structure SC (w : World) (B : Blk) (x : Sto) : Prop where
 c0 : w.cell? ⟨B.s, 0, none⟩ = some (.pointer (some ⟨B.d, 0, none⟩))
 c9 : w.cell? ⟨B.s, 9, none⟩ = some (.int .i64 x.first)
 c10 : w.cell? ⟨B.s, 10, none⟩ = some (.int .i64 x.pages)
 c11 : w.cell? ⟨B.s, 11, none⟩ = some (.int .i64 x.room)
 c12 : w.cell? ⟨B.s, 12, none⟩ = some (.int .i64 x.gen)
 c13 : w.cell? ⟨B.s, 13, none⟩ = some (.pointer (some ⟨B.bs, 0, none⟩))
 c14 : w.cell? ⟨B.s, 14, none⟩ = some (.map (some B.fr))
 c15 : w.cell? ⟨B.s, 15, none⟩ = some (.map (some B.dy))
 c16 : w.cell? ⟨B.s, 16, none⟩ = some (.map (some B.de))
 c17 : w.cell? ⟨B.s, 17, none⟩ = some (.pointer (some ⟨B.bc, 0, none⟩))
 z : ∀ o, w.frozen? ⟨B.s, o, none⟩ = false
 lt : B.s < w.heap.size
theorem StoreAt.sc {w : World} {B : Blk} {x : Sto} (h : StoreAt w B x) : SC w B x :=
 ⟨by simpa using coh h.s 0, by simpa using coh h.s 9, by simpa using coh h.s 10, by simpa using coh h.s 11, by simpa using coh h.s 12, by simpa using coh h.s 13,
  by simpa using coh h.s 14, by simpa using coh h.s 15, by simpa using coh h.s 16, by simpa using coh h.s 17, fun o => foh h.s o, loh h.s⟩
namespace SF
theorem in_ok {w : World} {B : Blk} {x : Sto} (h : StoreAt w B x) (p st : Int) (h0 : 0 <= p) (h1 : p < x.pages) :
  Calls Tryz.prog 85 #[B.ptr, .agg #[.int .i64 p, .int .i64 st]] w fun e w' => e = .returned (.int .i64 0) /\ Fq w w' := by
 have c10 := h.sc.c10;have l := h.sc.lt;clear h;go_enter Tryz.func85, Tryz.ntmps85;go_wp2
 go_quiet (fail)
 go_wp2
 go_ret;exact ⟨rfl, ((Fr.refl _ _).alloc _).drewN _⟩
end SF
end
section
open Go.RowKit Go.Sg Go.Sg.Bits Go.Sg.Clk CP
namespace SF
theorem clkR {B : Blk} {b : Nat} (h : b = B.bc \/ b = B.bp \/ b = B.bm) : ∃ r ∈ [Role.bc, Role.bp, Role.bm], b = B.at_ r := by
 rcases h with rfl | rfl | rfl
 ·exact ⟨.bc, by simp, rfl⟩
 ·exact ⟨.bp, by simp, rfl⟩
 ·exact ⟨.bm, by simp, rfl⟩
theorem keep_any {R : Ending -> World -> Prop} {w : World} {B : Blk} {x : Sto} (h : StoreAt w B x) (n : Int) (p : Pg)
  (h0 : ∀ W g, GoneOk x.mem x.places n g -> (gV g).dirty = false -> MemAt W B.bc B.bp B.bm x.places (putF x.mem n p g) -> FrR B [.bc, .bp, .bm] w W -> R (.returned (.int .i64 0)) W)
  (h1 : ∀ W g, GoneOk x.mem x.places n (some g) -> g.2.dirty = true -> MemAt W B.bc B.bp B.bm x.places (putF x.mem n p (some g)) -> FrR B [.bc, .bp, .bm] w W -> Calls Tryz.prog 110 #[B.ptr, .int .i64 g.1, g.2.val] W fun e W' => ∃ err : Int, e = .returned (.int .i64 err) /\ R e W') :
  Calls Tryz.prog 82 #[B.ptr, .int .i64 n, p.val] w R := by
 obtain ⟨st, la, ll, lc, di⟩ := p;have c17 := h.sc.c17;have l := h.sc.lt;obtain ⟨w1, hw1⟩ : ∃ w1, w.alloc (.cells #[.int .i64 st, .slice la ll lc, .bool di] 162) = w1 := ⟨_, rfl⟩
 have F1 : Fq w w1 := by rw [<- hw1]; exact (Fr.refl _ _).alloc _
 have b1 : w1.heap[w.heap.size]? = some (.cells #[.int .i64 st, .slice la ll lc, .bool di] 162) := by rw [<- hw1]; exact han _ _
 obtain ⟨d0, d1, d2, dz, dl⟩ := cells3 b1;have c17' := (F1.cell (p := ⟨B.s, 17, none⟩) l (fun h => h)).trans c17;have l' := nLL l F1.size;have HP := hid (fun W (F : Fq w1 W) => (putmem_at (h.mem.fr (F1.trans F (fun _ _ h => h)) (fun h => h) (fun h => h) (fun h => h)) n ⟨st, la, ll, lc, di⟩).mono
  (fun (e : Ending) W' ⟨g, hg, he, hm, F'⟩ => (⟨g, hg, he, hm, Fr.trans (S := fun b => b = B.bc \/ b = B.bp \/ b = B.bm) (S' := fun b => b = B.bc \/ b = B.bp \/ b = B.bm) (F.mono (fun _ _ h => h.elim)) F' (fun _ _ h => h), F'⟩ :
   ∃ g, GoneOk x.mem x.places n g /\ e = Ending.returned (.tuple #[.int .i64 (gK g), (gV g).val, .bool g.isSome]) /\ MemAt W' B.bc B.bp B.bm x.places (putF x.mem n ⟨st, la, ll, lc, di⟩ g) /\ Fr (fun b => b = B.bc \/ b = B.bp \/ b = B.bm) w1 W' /\ Fr (fun b => b = B.bc \/ b = B.bp \/ b = B.bm) W W')))
 have nS : ¬ (B.s = B.bc \/ B.s = B.bp \/ B.s = B.bm) := by
  have a1 := h.out (L := [.bc, .bp, .bm]) (r := .s) (by decide);simpa [Blk.at_] using a1
 have nW : ¬ (w.heap.size = B.bc \/ w.heap.size = B.bp \/ w.heap.size = B.bm) := by
  have := h.mem.lts;omega
 have NX := hid (show ¬ (w1.heap.size = B.bc \/ w1.heap.size = B.bp \/ w1.heap.size = B.bm) by have := h.mem.lts; omega);have NS := hid nS;have NW := hid nW;clear nS nW;have m1 : ¬ w1.heap.size = B.s := by omega
 have m2 : ¬ w1.heap.size = w.heap.size := by omega
 have HW := hid hw1;have H0 := hid h0;have H1 := hid h1;have HF1 := hid F1;clear h h0 h1 c17 hw1 b1 F1;go_enter Tryz.func82, Tryz.ntmps82;go_wp2
 rw [HW.out];go_region_held3 (fun W => W.cell? ⟨B.s, 17, none⟩ = some (.pointer (some ⟨B.bc, 0, none⟩)) /\ W.cell? ⟨w.heap.size, 0, none⟩ = some (.int .i64 st) /\ W.cell? ⟨w.heap.size, 1, none⟩ = some (.slice la ll lc) /\ W.cell? ⟨w.heap.size, 2, none⟩ = some (.bool di))
  (go_keep)
  ((go_at_call 111; refine (HP.out _ (by first | exact ((Fr.refl _ _).alloc _) | exact (Fr.refl _ _) | exact ((Fr.refl _ _).drew) | exact ((Fr.refl _ _).alloc _).drew | exact ((Fr.refl _ _).drew.alloc _))).mono ?_; rintro e w7 ⟨g, hg, rfl, hm, F7, F8⟩; have e0 := fun (i : Nat) (hh : w1.heap.size < _) => F8.cell (p := ⟨w1.heap.size, i, none⟩) hh NX.out; have ez := fun (i : Nat) (hh : w1.heap.size < _) => World.frozen?_of_block (a := ⟨w1.heap.size, i, none⟩) (F8.block w1.heap.size hh NX.out); have el := F8.size; have el7 := F7.size; have m3 : ¬ w7.heap.size = B.s := (by omega); have m4 : ¬ w7.heap.size = w.heap.size := (by omega); have c17' := (F7.cell (p := ⟨B.s, 17, none⟩) l' NS.out).trans c17'; have d0 := (F7.cell (p := ⟨w.heap.size, 0, none⟩) dl NW.out).trans d0; have d1 := (F7.cell (p := ⟨w.heap.size, 1, none⟩) dl NW.out).trans d1; have d2 := (F7.cell (p := ⟨w.heap.size, 2, none⟩) dl NW.out).trans d2; have HF7 := hid F7; have HM := hid hm; have HG := hid hg; clear F7 hm hg F8))
 all_goals clear m1 m2 m3 m4
 all_goals rcases g with _ | ⟨gk, ⟨gst, ga, gl, gc, gd⟩⟩
 all_goals try simp only [gK, gV, Option.map_none, Option.map_some, Option.getD_none, Option.getD_some, Option.isSome_none, Option.isSome_some, Pg.zero]
 all_goals have FA : FrR B [.bc, .bp, .bm] w w7 := (HF1.out.mono (fun _ _ h => h.elim)).trans HF7.out (fun b _ h => clkR h)
 all_goals have FA := hid FA
 ·go_wp2
  exact H0.out _ none HG.out rfl (HM.out.fr ((Fr.refl (fun _ => False) _).alloc _) (fun h => h) (fun h => h) (fun h => h)) (FA.out.alloc _)
 ·cases gd with
  | false =>
   go_wp2
   exact H0.out _ _ HG.out rfl (HM.out.fr ((Fr.refl (fun _ => False) _).alloc _) (fun h => h) (fun h => h) (fun h => h)) (FA.out.alloc _)
  | true =>
   go_wp2_with fail
   refine (H1.out _ _ HG.out rfl (HM.out.fr ((Fr.refl (fun _ => False) _).alloc _) (fun h => h) (fun h => h) (fun h => h)) (FA.out.alloc _)).mono ?_;rintro e w9 ⟨err, rfl, hR⟩;have HR := hid hR;clear hR;go_wp2
   exact HR.out
 ·go_wp2
  exact H0.out _ none HG.out rfl (HM.out.fr (Fr.set3 (S := fun b => b = w1.heap.size) (b := w1.heap.size) (Fr.refl _ _) rfl _ _ _) (fun h => NX.out (.inl h.symm)) (fun h => NX.out (.inr (.inl h.symm))) (fun h => NX.out (.inr (.inr h.symm)))) (Fr.set3n FA.out (by omega) _ _ _)
 ·cases gd with
  | false =>
   go_wp2
   exact H0.out _ _ HG.out rfl (HM.out.fr (Fr.set3 (S := fun b => b = w1.heap.size) (b := w1.heap.size) (Fr.refl _ _) rfl _ _ _) (fun h => NX.out (.inl h.symm)) (fun h => NX.out (.inr (.inl h.symm))) (fun h => NX.out (.inr (.inr h.symm)))) (Fr.set3n FA.out (by omega) _ _ _)
  | true =>
   go_wp2_with fail
   refine (H1.out _ _ HG.out rfl (HM.out.fr (Fr.set3 (S := fun b => b = w1.heap.size) (b := w1.heap.size) (Fr.refl _ _) rfl _ _ _) (fun h => NX.out (.inl h.symm)) (fun h => NX.out (.inr (.inl h.symm))) (fun h => NX.out (.inr (.inr h.symm)))) (Fr.set3n FA.out (by omega) _ _ _)).mono ?_;rintro e w9 ⟨err, rfl, hR⟩;have HR := hid hR;clear hR;go_wp2
   exact HR.out
end SF
end
end Go.Proofs.YtgdhaaokolfdoaaGreatDoor
