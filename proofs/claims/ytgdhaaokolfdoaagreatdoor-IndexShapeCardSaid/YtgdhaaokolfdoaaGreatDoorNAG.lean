/- A pack of texts: BU, BE, LG, GM. Conditions: those that each text names. -/
import Derived.Test.YtgdhaaokolfdoaaGreatDoorNAE
import Derived.Test.YtgdhaaokolfdoaaGreatDoorNAF
import Derived.Laws.BytesArg
import Derived.Test.YtgdhaaokolfdoaaGreatDoorNAC
import Derived.Deep.RegionHeld3
import Derived.Deep.AppendLies
import Derived.Deep.RegionLaw
import Derived.Deep.Cut
import Derived.Deep.CutRange
set_option maxHeartbeats 16000000
set_option maxRecDepth 100000
set_option linter.all false
namespace Go.Sg
open Go.RowKit
structure BSt (w0 w : World) (bx base r : Nat) (cs : Array Value) (bs : List Int) (limit : Nat) : Prop where
 box : w.heap[bx]? = some (.cells cs 166)
 wt : WtAt w base r bs limit
 f : Fq w0 w
 le : w0.heap.size <= base /\ base <= w.heap.size /\ bx < base
variable {w w' w0 : World} {base bx limit r : Nat} {cs : Array Value} {bs : List Int}
theorem BSt.step {bs' : List Int} (h : BSt w0 w bx base r cs bs limit) (hw : WtAt w' base r bs' limit) (F : Fr (fun b => base <= b) w w') : BSt w0 w' bx base r cs bs' limit :=
 ⟨F.heap h.box (by have := h.le.2.2; omega), hw, h.f.trans F (fun b hb e => by have := h.le.1; omega), h.le.1, nT h.le.2.1 F.size, h.le.2.2⟩
theorem BSt.fr (h : BSt w0 w bx base r cs bs limit) (F : Fq w w') : BSt w0 w' bx base r cs bs limit :=
 ⟨F.heap h.box (fun h => h), h.wt.fr F (fun _ _ _ h => h), h.f.trans F (fun _ _ h => h), h.le.1, nT h.le.2.1 F.size, h.le.2.2⟩
end Go.Sg
namespace Go.Proofs.YtgdhaaokolfdoaaGreatDoor
open Go.RowKit Go.Sg
theorem right_ok (k p s : Int) (a : Option Addr) (n c : Nat) (z : Int) (h1 : 96 <= z) (h2 : z <= 512) (hk : 1 <= k /\ k <= 4) (hp : 0 <= p /\ p <= 2147483647) (hs : 0 <= s) (hn : (n : Int) <= z - 19) (w : World) :
  Calls Tryz.prog 219 #[.agg #[.int .i64 k, .int .i64 p, .int .i64 s, .slice a n c], .int .i64 z] w fun e w' => e = .returned (.int .i64 0) /\ Fq w w' := by
 obtain ⟨k1, k2⟩ := hk;obtain ⟨p1, p2⟩ := hp;have hd : decide (z - 19 < (n : Int)) = false := by simp; omega
 have hd2 : ¬ z - 19 < (n : Int) := by omega
 go_enter Tryz.func219, Tryz.ntmps219;go_wp2_with (go_at_call 159; refine (may_yes z h1 h2 _).mono ?_; rintro e w' ⟨rfl, rfl⟩)
 go_quiet ((go_at_call 94; exact quiet_left (room_ok z h1 h2 _)))
 go_wp2
 go_ret;exact ⟨rfl, ((Fr.refl _ _).alloc _).drewN _⟩
variable {w : World} {bs : List Int}
theorem raww_zeros {W1 : World} {base r limit : Nat} (h : WtAt w base r bs limit) (hbase : base <= w.heap.size) (m : Nat) (hroom : bs.length + m <= limit) (F1 : Fq (w.alloc (.cells (madeCells #[.int .u8 0] m) 5)) W1) :
  Calls Tryz.prog 237 #[.pointer (some ⟨r, 0, none⟩), .slice (some ⟨w.heap.size, 0, none⟩) m m] W1 fun e w' => e = .returned (.tuple #[]) /\ WtAt w' base r (bs ++ List.replicate m 0) limit /\ Fr (fun b => base <= b) w w' := by
 have FN : Fq w (w.alloc (.cells (madeCells #[.int .u8 0] m) 5)) := (Fr.refl _ _).alloc _;have FN1 := FN.trans F1 (fun _ _ h => h);have hz := ByV.zeros (w := w.alloc (.cells (madeCells #[.int .u8 0] m) 5)) (g := w.heap.size) (n := m) (cap := m) (f := (0, 0)) (by rw [show (List.replicate m (Value.int .u8 0)).toArray = madeCells #[.int .u8 0] m by apply Array.toList_inj.1; rw [toList_madeCells_one]]; exact han _ _);exact (raww_ok (h.fr FN1 (fun _ _ _ h => h)) (nT hbase FN1.size) (hz.fr F1 (fun _ _ _ h => h)) hroom).mono fun e w' ⟨he, hw, F⟩ => ⟨he, hw, (FN1.mono (fun _ _ h => h.elim)).trans F (fun _ _ h => h)⟩
theorem build_ok {la : Option Addr} {ll lc : Nat} (hb : ByV w la ll lc bs) (hby : ∀ x ∈ bs, 0 <= x /\ x < 256) (size kind place stamp : Nat) (h1 : 96 <= size) (h2 : size <= 512) (hk : 1 <= kind /\ kind <= 4) (hp : place <= 2147483647) (hs : stamp < 9223372036854775808) (hl : ll + 19 <= size) :
  Calls Tryz.prog 220 #[.int .i64 size, .agg #[.int .i64 kind, .int .i64 place, .int .i64 stamp, .slice la ll lc]] w fun e w' => ∃ a c, e = .returned (.tuple #[.slice a size c, .int .i64 0]) /\ ByV w' a size c (buildM size kind place stamp bs) /\ Fq w w' := by
 obtain ⟨k1, k2⟩ := hk;have hbl := hb.len;obtain ⟨m, hm⟩ : ∃ m : Nat, size - 19 - ll = m := ⟨_, rfl⟩
 have hmi : (size : Int) - 19 - (ll : Int) = (m : Int) := by omega
 obtain ⟨w1, hw1⟩ : ∃ w1, w.alloc (.cells #[.int .i64 kind, .int .i64 place, .int .i64 stamp, .slice la ll lc] 166) = w1 := ⟨_, rfl⟩
 have F1 : Fq w w1 := by rw [<- hw1]; exact (Fr.refl _ _).alloc _
 have b1 : w1.heap[w.heap.size]? = some (.cells #[.int .i64 kind, .int .i64 place, .int .i64 stamp, .slice la ll lc] 166) := by rw [<- hw1]; exact han _ _
 obtain ⟨c0, c1, c2, c3⟩ : w1.cell? ⟨w.heap.size, 0, none⟩ = some (.int .i64 kind) /\ w1.cell? ⟨w.heap.size, 1, none⟩ = some (.int .i64 place) /\ w1.cell? ⟨w.heap.size, 2, none⟩ = some (.int .i64 stamp) /\ w1.cell? ⟨w.heap.size, 3, none⟩ = some (.slice la ll lc) :=
  ⟨by simpa using coh b1 0, by simpa using coh b1 1, by simpa using coh b1 2, by simpa using coh b1 3⟩
 have HB := hid hb;have HBL := hid hbl;have HM := hid hm;have HMI := hid hmi;have HW1 := hid hw1;have HB1 := hi2 F1 b1;have hkk : (kind : Int) <= 4 := by omega
 have hk1 : 1 <= (kind : Int) := by omega
 have hpp : (place : Int) <= 2147483647 := by omega
 have hss : (stamp : Int) < 9223372036854775808 := by omega
 clear hb hbl hm hmi hw1 F1 b1;go_enter Tryz.func220, Tryz.ntmps220;go_wp2_with fail
 rw [HW1.out];refine (right_ok kind place stamp la ll lc size (by omega) (by omega) ⟨by omega, by omega⟩ ⟨by omega, by omega⟩ (by omega) (by omega) _).mono ?_;rintro e w2 ⟨rfl, F2⟩;have HF2 := hid F2;have lt2 : w.heap.size < w2.heap.size := loh (F2.heap HB1.out.2 (fun h => h));clear F2 c0 c1 c2 c3;go_wp2_with fail
 refine (newwriter_ok size (by omega) w2).mono ?_;rintro e w3 ⟨rfl, hW, F3⟩;have HS3 : BSt w w3 w.heap.size w2.heap.size w2.heap.size #[.int .i64 kind, .int .i64 place, .int .i64 stamp, .slice la ll lc] [] size :=
  ⟨F3.heap (HF2.out.heap HB1.out.2 (fun h => h)) (fun h => h), hW, (HB1.out.1.trans HF2.out (fun _ _ h => h)).trans F3 (fun _ _ h => h), (HB1.out.1.trans HF2.out (fun _ _ h => h)).size, F3.size, lt2⟩
 have HS3 := hid HS3;clear hW F3;obtain ⟨c0, c1, c2, c3⟩ : w3.cell? ⟨w.heap.size, 0, none⟩ = some (.int .i64 kind) /\ w3.cell? ⟨w.heap.size, 1, none⟩ = some (.int .i64 place) /\ w3.cell? ⟨w.heap.size, 2, none⟩ = some (.int .i64 stamp) /\ w3.cell? ⟨w.heap.size, 3, none⟩ = some (.slice la ll lc) :=
  ⟨by simpa using coh HS3.out.box 0, by simpa using coh HS3.out.box 1, by simpa using coh HS3.out.box 2, by simpa using coh HS3.out.box 3⟩
 go_wp2_with fail
 refine (wnum_ok HS3.out.wt HS3.out.le.2.1 kind 1 (by omega) (by omega) (by simp [Sg.leB_length]; omega)).mono ?_;rintro e w4 ⟨rfl, hW, F⟩;have HS4 := hid (HS3.out.step hW F);clear hW F c0 c1 c2 c3;obtain ⟨c0, c1, c2, c3⟩ : w4.cell? ⟨w.heap.size, 0, none⟩ = some (.int .i64 kind) /\ w4.cell? ⟨w.heap.size, 1, none⟩ = some (.int .i64 place) /\ w4.cell? ⟨w.heap.size, 2, none⟩ = some (.int .i64 stamp) /\ w4.cell? ⟨w.heap.size, 3, none⟩ = some (.slice la ll lc) :=
  ⟨by simpa using coh HS4.out.box 0, by simpa using coh HS4.out.box 1, by simpa using coh HS4.out.box 2, by simpa using coh HS4.out.box 3⟩
 go_wp2_with fail
 refine (wnum_ok HS4.out.wt HS4.out.le.2.1 ll 2 (by omega) (by omega) (by simp [Sg.leB_length]; omega)).mono ?_;rintro e w5 ⟨rfl, hW, F⟩;have HS5 := hid (HS4.out.step hW F);clear hW F c0 c1 c2 c3;obtain ⟨c0, c1, c2, c3⟩ : w5.cell? ⟨w.heap.size, 0, none⟩ = some (.int .i64 kind) /\ w5.cell? ⟨w.heap.size, 1, none⟩ = some (.int .i64 place) /\ w5.cell? ⟨w.heap.size, 2, none⟩ = some (.int .i64 stamp) /\ w5.cell? ⟨w.heap.size, 3, none⟩ = some (.slice la ll lc) :=
  ⟨by simpa using coh HS5.out.box 0, by simpa using coh HS5.out.box 1, by simpa using coh HS5.out.box 2, by simpa using coh HS5.out.box 3⟩
 go_wp2_with fail
 refine (wnum_ok HS5.out.wt HS5.out.le.2.1 place 4 (by omega) (by omega) (by simp [Sg.leB_length]; omega)).mono ?_;rintro e w6 ⟨rfl, hW, F⟩;have HS6 := hid (HS5.out.step hW F);clear hW F c0 c1 c2 c3;obtain ⟨c0, c1, c2, c3⟩ : w6.cell? ⟨w.heap.size, 0, none⟩ = some (.int .i64 kind) /\ w6.cell? ⟨w.heap.size, 1, none⟩ = some (.int .i64 place) /\ w6.cell? ⟨w.heap.size, 2, none⟩ = some (.int .i64 stamp) /\ w6.cell? ⟨w.heap.size, 3, none⟩ = some (.slice la ll lc) :=
  ⟨by simpa using coh HS6.out.box 0, by simpa using coh HS6.out.box 1, by simpa using coh HS6.out.box 2, by simpa using coh HS6.out.box 3⟩
 go_wp2_with fail
 refine (wnum_ok HS6.out.wt HS6.out.le.2.1 stamp 8 (by omega) (by omega) (by simp [Sg.leB_length]; omega)).mono ?_;rintro e w7 ⟨rfl, hW, F⟩;have HS7 := hid (HS6.out.step hW F);clear hW F c0 c1 c2 c3;obtain ⟨c0, c1, c2, c3⟩ : w7.cell? ⟨w.heap.size, 0, none⟩ = some (.int .i64 kind) /\ w7.cell? ⟨w.heap.size, 1, none⟩ = some (.int .i64 place) /\ w7.cell? ⟨w.heap.size, 2, none⟩ = some (.int .i64 stamp) /\ w7.cell? ⟨w.heap.size, 3, none⟩ = some (.slice la ll lc) :=
  ⟨by simpa using coh HS7.out.box 0, by simpa using coh HS7.out.box 1, by simpa using coh HS7.out.box 2, by simpa using coh HS7.out.box 3⟩
 go_wp2_with fail
 refine (raww_ok HS7.out.wt HS7.out.le.2.1 (HB.out.fr HS7.out.f (fun _ _ _ h => h)) (by simp [Sg.leB_length]; omega)).mono ?_;rintro e w8 ⟨rfl, hW, F⟩;have HS8 := hid (HS7.out.step hW F);clear hW F c0 c1 c2 c3;obtain ⟨c0, c1, c2, c3⟩ : w8.cell? ⟨w.heap.size, 0, none⟩ = some (.int .i64 kind) /\ w8.cell? ⟨w.heap.size, 1, none⟩ = some (.int .i64 place) /\ w8.cell? ⟨w.heap.size, 2, none⟩ = some (.int .i64 stamp) /\ w8.cell? ⟨w.heap.size, 3, none⟩ = some (.slice la ll lc) :=
  ⟨by simpa using coh HS8.out.box 0, by simpa using coh HS8.out.box 1, by simpa using coh HS8.out.box 2, by simpa using coh HS8.out.box 3⟩
 obtain ⟨i0, hi, hz0, hz1, hz2⟩ := info_parts Tryz.info5;have hmb : m <= 512 := by have := HM.out; omega
 have hmk := fun W => run_make_len (P := Tryz.prog) 22 5 i0 _ Tryz.underlying22 hi hz0 m (by rw [hz2]; omega) (by omega) W
 rw [hz1] at hmk;have hwm : IntKind.i64.wrap (m : Int) = (m : Int) := by rw [IntKind.wrap_i64]; omega
 have hmi := HMI.out;have lbx := loh HS8.out.box;have HZ := hid (fun W1 F => raww_zeros (W1 := W1) HS8.out.wt HS8.out.le.2.1 m (by simp [Sg.leB_length]; have := HM.out; have := HBL.out; omega) F);clear hi hz0 hz1 hz2 c0 c1 c2;go_wp2
 go_region_held3 (fun W => W.cell? ⟨w.heap.size, 3, none⟩ = some (.slice la ll lc)) (go_keep)
  (first
   | (go_at_call 94; refine (room_ok size (by omega) (by omega) _).mono ?_; rintro e w' ⟨rfl, rfl⟩)
   | (go_at_call 237; refine (HZ.out _ (by first | exact Fr.refl _ _ | exact (Fr.refl _ _).drew)).mono ?_; rintro e w9 ⟨rfl, hW, F9⟩; have c3 : w9.cell? ⟨w.heap.size, 3, none⟩ = some (.slice la ll lc) := (F9.cell (p := ⟨w.heap.size, 3, none⟩) lbx (by have := HS8.out.le.2.2; simp; omega)).trans c3; have HF9 := hid F9; have HW9 := hid hW; clear F9 hW))
 have HS9 := HS8.out.step HW9.out HF9.out;have hbody : [] ++ Sg.leB kind 1 ++ Sg.leB ll 2 ++ Sg.leB place 4 ++ Sg.leB stamp 8 ++ bs ++ List.replicate m 0 = bodyM size kind place stamp bs := by
  rw [bodyM, HBL.out, HM.out, List.nil_append]
 rw [hbody] at HS9;have hlen : (bodyM size kind place stamp bs).length = size - 4 := bodyM_length (by rw [HBL.out]; exact hl);have hbyt : ∀ x ∈ bodyM size kind place stamp bs, 0 <= x /\ x < 256 := by
  intro x hx;simp only [bodyM, List.mem_append, List.mem_replicate] at hx;rcases hx with ((((hx | hx) | hx) | hx) | hx) | hx
  ·exact leB_byte _ _ x hx
  ·exact leB_byte _ _ x hx
  ·exact leB_byte _ _ x hx
  ·exact leB_byte _ _ x hx
  ·exact hby x hx
  ·omega
 have hbm : buildM size kind place stamp bs = bodyM size kind place stamp bs ++ Sg.leB (crcM (bodyM size kind place stamp bs)) 4 := rfl;have hcl : crcM (bodyM size kind place stamp bs) < 4294967296 := by
  obtain ⟨l, hl⟩ := bytes_sub hbyt;rw [<- hl];exact Nat.xor_lt_two_pow (n := 32) (crcAcc_lt l (by decide)) (by decide)
 obtain ⟨body, hbo⟩ : ∃ body, bodyM size kind place stamp bs = body := ⟨_, rfl⟩
 rw [hbo] at HS9 hlen hbyt hbm hcl;have HBM := hid hbm;have HS9 := hid HS9;have HLEN := hid hlen;clear hbody hlen hmk hwm hmi c3 hbm hbo;go_wp2_with fail
 refine (wbytes_ok HS9.out.wt).mono ?_;rintro e w10 ⟨ba, bc, rfl, hb10, F10⟩;have HS10 := hid (HS9.out.fr F10);have HSUM := hid (sum_ok hb10.1 hbyt (by rw [HLEN.out]; omega));clear hb10 F10;go_wp2_with fail
 refine HSUM.out.mono ?_;rintro e w11 ⟨rfl, F11⟩;have HS11 := hid (HS10.out.fr F11);clear F11;go_wp2_with fail
 refine (wnum_ok HS11.out.wt HS11.out.le.2.1 (crcM body) 4 (by omega) (by omega) (by rw [HLEN.out]; omega)).mono ?_;rintro e w12 ⟨rfl, hW, F⟩;have HS12 := hid (HS11.out.step hW F);clear hW F;go_wp2_with fail
 refine (wbytes_ok HS12.out.wt).mono ?_;rintro e w13 ⟨ra, rc, rfl, hb13, F13⟩;have hl2 : (body ++ Sg.leB (crcM body) 4).length = size := by rw [lA, HLEN.out, leB_length]; omega
 rw [hl2] at hb13;have HF := hi2 hb13.1 (HS12.out.f.trans F13 (fun _ _ h => h));have HL2 := hid hl2;clear hb13 F13 hl2;go_wp2
 go_ret2;exact ⟨ra, rc, by have h := HL2.out; rw [lA] at h; rw [h]; rfl, by rw [HBM.out]; exact HF.out.1, HF.out.2⟩
end Go.Proofs.YtgdhaaokolfdoaaGreatDoor
namespace Go.Sg
open Go.RowKit
end Go.Sg
namespace Go.Proofs.YtgdhaaokolfdoaaGreatDoor
open Go.RowKit Go.Sg
variable {w : World} {a a' : Option Addr} {c d m n : Nat} {xs : List Int}
theorem conv_byt (h : ByV w a n c xs) : (convert 22 9 (.slice a n c)).run Tryz.prog w = .ok (.string (strOfNums xs)) w := by
 have hl := h.by_.len;rcases h.at_ with ⟨rfl, rfl, _⟩ | ⟨b, off, cs, rfl, _⟩
 ·obtain rfl : xs = [] := List.eq_nil_of_length_eq_zero hl;exact run_convert_bytes_nil (P := Tryz.prog) w 22 5 Tryz.underlying22 Tryz.underlying5 0 c 9 Tryz.underlying9
 ·refine run_convert_bytes_arg (P := Tryz.prog) w 22 5 Tryz.underlying22 Tryz.underlying5 b off n c xs hl (fun i hi => ?_) 9 Tryz.underlying9;have hi' : i < xs.length := by omega
  obtain ⟨b', off', e, _, hc⟩ := h.by_.at_ i (xs[i]) (gE hi');cases e;rw [hc];simp [List.getD, gE hi']
theorem equal_ok {ys : List Int} (h : ByV w a n c xs) (h' : ByV w a' m d ys) :
  Calls Tryz.prog 221 #[.slice a n c, .slice a' m d] w fun e w' => e = .returned (.bool ((strOfNums xs).toList == (strOfNums ys).toList)) /\ w' = w := by
 have k1 := conv_byt h;have k2 := conv_byt h';clear h h';go_enter Tryz.func221, Tryz.ntmps221;go_wp2
 go_ret;exact ⟨rfl, rfl⟩
theorem equal_same (h : ByV w a n c xs) (h' : ByV w a' m d xs) :
  Calls Tryz.prog 221 #[.slice a n c, .slice a' m d] w fun e w' => e = .returned (.bool true) /\ w' = w :=
 (equal_ok h h').mono fun e w' ⟨he, hw⟩ => ⟨by rw [he]; simp, hw⟩
end Go.Proofs.YtgdhaaokolfdoaaGreatDoor
namespace Go.Sg
open Go.RowKit
variable {kind place size stamp : Nat} {load : List Int}
theorem bodyM_byte (hl : ∀ x ∈ load, 0 <= x /\ x < 256) : ∀ x ∈ bodyM size kind place stamp load, 0 <= x /\ x < 256 := by
 intro x hx;simp only [bodyM, List.mem_append, List.mem_replicate] at hx;rcases hx with ((((h | h) | h) | h) | h) | h
 ·exact leB_byte _ _ _ h
 ·exact leB_byte _ _ _ h
 ·exact leB_byte _ _ _ h
 ·exact leB_byte _ _ _ h
 ·exact hl _ h
 ·omega
theorem buildM_byte (hl : ∀ x ∈ load, 0 <= x /\ x < 256) : ∀ x ∈ buildM size kind place stamp load, 0 <= x /\ x < 256 := by
 intro x hx;rcases List.mem_append.1 hx with h | h
 ·exact bodyM_byte hl _ h
 ·exact leB_byte _ _ _ h
def tailM (size kind place stamp : Nat) (load : List Int) : List Int := List.replicate (size - 19 - load.length) 0 ++ leB (crcM (bodyM size kind place stamp load)) 4
theorem buildM_parts (size kind place stamp : Nat) (load : List Int) :
  buildM size kind place stamp load = leB kind 1 ++ (leB load.length 2 ++ (leB place 4 ++ (leB stamp 8 ++ (load ++ tailM size kind place stamp load)))) := by
 simp [buildM, tailM, bodyM]
end Go.Sg
namespace Go.Proofs.YtgdhaaokolfdoaaGreatDoor
open Go.RowKit Go.Sg
variable {w w1 : World} {base bf bq c cap cc cl d gg n r : Nat} {at_ k : Int} {bs rest : List Int} {lv v : Value} {ca : Option Addr}
theorem num_at {k : Nat} (h : RdAt w r (Go.Sg.leB n k ++ rest) false) (hby : ∀ x ∈ rest, 0 <= x /\ x < 256) (hk : k = 1 \/ k = 2 \/ k = 4 \/ k = 8) (hn : n < 256 ^ k) :
  Calls Tryz.prog 216 #[.pointer (some ⟨r, 0, none⟩), .int .i64 k] w fun e w' => e = .returned (.int .u64 n) /\ RdAt w' r rest false /\ Fr (fun b => b = r) w w' := by
 refine (num_ok h (fun x hx => by
  rcases List.mem_append.1 hx with h | h
  ·exact Go.Sg.leB_byte _ _ _ h
  ·exact hby _ h) k hk (by rw [lA, Go.Sg.leB_length]; omega)).mono fun e w' ⟨he, hr, hF⟩ => ⟨?_, ?_, hF⟩
 ·rw [he, List.take_append_of_le_length (Nat.le_of_eq (Go.Sg.leB_length _ _).symm), tL (Nat.le_of_eq (Go.Sg.leB_length _ _)), Go.Sg.leV_leB k n hn]
 ·rw [List.drop_append_of_le_length (Nat.le_of_eq (Go.Sg.leB_length _ _).symm), List.drop_of_length_le (Nat.le_of_eq (Go.Sg.leB_length _ _))] at hr; exact hr
theorem raw_at (h : RdAt w r (bs ++ rest) false) :
  Calls Tryz.prog 217 #[.pointer (some ⟨r, 0, none⟩), .int .i64 bs.length] w fun e w' => ∃ a c, e = .returned (.slice a bs.length c) /\ ByV w' a bs.length c bs /\ RdAt w' r rest false /\ Fr (fun b => b = r) w w' :=
 (raw_ok h bs.length (by rw [lA]; omega)).mono fun e w' ⟨a, c, he, hb, hr, hF⟩ => ⟨a, c, he, by simpa using hb, by simpa using hr, hF⟩
theorem leafread_made {a : Option Addr} {size kind place stamp : Nat} {load : List Int} (h : ByV w a size c (buildM size kind place stamp load)) (hby : ∀ x ∈ load, 0 <= x /\ x < 256) (h1 : 96 <= size) (h2 : size <= 512) (hk : 1 <= kind /\ kind <= 4) (hp : place <= 2147483647) (hs : stamp < 9223372036854775808) (hl : load.length + 19 <= size) :
  Calls Tryz.prog 156 #[.slice a size c] w fun e w' => ∃ la lc, e = .returned (.tuple #[.agg #[.int .i64 kind, .int .i64 place, .int .i64 stamp, .slice la load.length lc], .int .i64 0]) /\ ByV w' la load.length lc load /\ Fq w w' := by
 obtain ⟨ll, hll⟩ : ∃ ll, load.length = ll := ⟨_, rfl⟩
 obtain ⟨tl, htl⟩ : ∃ tl, tailM size kind place stamp load = tl := ⟨_, rfl⟩
 have hparts := buildM_parts size kind place stamp load;have hall := buildM_byte (size := size) (kind := kind) (place := place) (stamp := stamp) hby
 have hlen : (buildM size kind place stamp load).length = size := buildM_length hl;rw [hparts] at hall;rw [htl, hll] at hparts hall;have hb5 : ∀ x ∈ load ++ tl, 0 <= x /\ x < 256 := fun x hx => hall x (by simp only [List.mem_append] at hx ⊢; simp [hx])
 have hb4 : ∀ x ∈ Go.Sg.leB stamp 8 ++ (load ++ tl), 0 <= x /\ x < 256 := fun x hx => hall x (by simp only [List.mem_append] at hx ⊢; simp [hx])
 have hb3 : ∀ x ∈ Go.Sg.leB place 4 ++ (Go.Sg.leB stamp 8 ++ (load ++ tl)), 0 <= x /\ x < 256 := fun x hx => hall x (by simp only [List.mem_append] at hx ⊢; simp [hx])
 have hb2 : ∀ x ∈ Go.Sg.leB ll 2 ++ (Go.Sg.leB place 4 ++ (Go.Sg.leB stamp 8 ++ (load ++ tl))), 0 <= x /\ x < 256 := fun x hx => hall x (by simp only [List.mem_append] at hx ⊢; simp [hx])
 obtain ⟨w1, hw1⟩ : ∃ w1, w.alloc (.cells #[.int .i64 0, .int .i64 0, .int .i64 0, .slice none 0 0] 166) = w1 := ⟨_, rfl⟩
 have F1 : Fq w w1 := by rw [<- hw1]; exact (Fr.refl _ _).alloc _
 have b1 : w1.heap[w.heap.size]? = some (.cells #[.int .i64 0, .int .i64 0, .int .i64 0, .slice none 0 0] 166) := by rw [<- hw1]; exact han _ _
 have hB1 := h.fr F1 (fun _ _ _ h => h);have HNR := hid (newreader_ok (w := w1) (a := a) (n := size) (c := c) (bs := buildM size kind place stamp load) hB1.slb (by omega));rw [hparts] at HNR;have HA := hi2 hB1 (aI hlen hparts);have HBS := hi2 hb2 (aI hb3 (aI hb4 hb5));have HN := hi2 hk (aI hp (aI hs (aI hl hll)));have HLD := hid hby
 have HW1 := hid hw1;have HB1 := hi2 F1 b1;clear h hw1 F1 b1 hB1 hlen hparts hb2 hb3 hb4 hb5 hk hp hs hl hll hby hall htl;go_enter Tryz.func156, Tryz.ntmps156;go_wp2_with fail
 rw [HW1.out];refine (may_yes size (by omega) (by omega) _).mono ?_;rintro e w' ⟨rfl, rfl⟩;go_wp2_with fail
 refine HNR.out.mono ?_;rintro e w2 ⟨r, rfl, hr, hrl, F2⟩;obtain ⟨w3, hw3⟩ : ∃ w3, w2.alloc (.cells #[.int .i64 0, .int .i64 0, .int .i64 0, .slice none 0 0] 166) = w3 := ⟨_, rfl⟩
 have F3 : Fq w2 w3 := by rw [<- hw3]; exact (Fr.refl _ _).alloc _
 have hs2 := F2.size;have L3 : LRs w1 w3 r w2.heap.size _ 0 0 0 (.slice none 0 0) := ⟨by rw [<- hw3]; exact han _ _, hr.fr F3 (fun h => h) (fun _ _ _ h => h), F2.trans F3 (fun _ _ h => h), hrl, hs2⟩;have HL3 := hid L3;have HW3 := hid hw3;clear hw3 F3 L3 hr F2;go_wp2_with fail
 rw [HW3.out];refine (num_at HL3.out.rd HBS.out.1 (by omega) (by have := HN.out.1; omega)).mono ?_;rintro e w4 ⟨rfl, hr4, F4⟩;have HL4 := hid (HL3.out.call F4 hr4);have x4 := coh HL4.out.x 0;have f4 := foh HL4.out.x 0;simp at x4;have kw : IntKind.wrap .i64 (kind : Int) = (kind : Int) := by have := HN.out.1; rw [IntKind.wrap_i64]; omega
 obtain ⟨w5, hw5⟩ : ∃ w5, w4.setCell ⟨w2.heap.size, 0, none⟩ (.int .i64 kind) = w5 := ⟨_, rfl⟩
 have HL5 := HL4.out.set 0 (.int .i64 kind) rfl;rw [hw5] at HL5;have HL5 := hid HL5;have HW5 := hid hw5;clear hw5 F4 hr4;go_wp2_with fail
 rw [HW5.out];clear x4 f4 kw;have kl : IntKind.wrap .i64 (ll : Int) = (ll : Int) := by have := HN.out.2.2.2; rw [IntKind.wrap_i64]; omega
 have kp : IntKind.wrap .i64 (place : Int) = (place : Int) := by have := HN.out.2.1; rw [IntKind.wrap_i64]; omega
 have ks : IntKind.wrap .i64 (stamp : Int) = (stamp : Int) := by have := HN.out.2.2.1; rw [IntKind.wrap_i64]; omega
 refine (num_at HL5.out.rd HBS.out.2.1 (by omega) (by have := HN.out.2.2.2; omega)).mono ?_;rintro e w6 ⟨rfl, hr6, F6⟩;have HL6 := hid (HL5.out.call F6 hr6);clear F6 hr6;go_wp2_with fail
 refine (num_at HL6.out.rd HBS.out.2.2.1 (by omega) (by have := HN.out.2.1; omega)).mono ?_;rintro e w7 ⟨rfl, hr7, F7⟩;have HL7 := hid (HL6.out.call F7 hr7);have x7 := coh HL7.out.x 1;have f7 := foh HL7.out.x 1;simp at x7;obtain ⟨w8, hw8⟩ : ∃ w8, w7.setCell ⟨w2.heap.size, 1, none⟩ (.int .i64 place) = w8 := ⟨_, rfl⟩
 have HL8 := HL7.out.set 1 (.int .i64 place) rfl;rw [hw8] at HL8;have HL8 := hid HL8;have HW8 := hid hw8;clear hw8 F7 hr7;go_wp2_with fail
 rw [HW8.out];clear x7 f7;refine (num_at HL8.out.rd HBS.out.2.2.2 (by omega) (by have := HN.out.2.2.1; omega)).mono ?_;rintro e w9 ⟨rfl, hr9, F9⟩;have HL9 := hid (HL8.out.call F9 hr9);have x9 := coh HL9.out.x 2;have f9 := foh HL9.out.x 2;simp at x9;obtain ⟨w10, hw10⟩ : ∃ w10, w9.setCell ⟨w2.heap.size, 2, none⟩ (.int .i64 stamp) = w10 := ⟨_, rfl⟩
 have HL10 := HL9.out.set 2 (.int .i64 stamp) rfl;rw [hw10] at HL10;have HL10 := hid HL10;have HW10 := hid hw10;clear hw10 F9 hr9;go_wp2_with fail
 rw [HW10.out];clear x9 f9 kl kp ks;have HR := raw_at HL10.out.rd;rw [HN.out.2.2.2.2] at HR;refine HR.mono ?_;rintro e w11 ⟨la, lc, rfl, hb11, hr11, F11⟩;have HL11 := hid (HL10.out.call F11 hr11);have x11 := coh HL11.out.x 3;have f11 := foh HL11.out.x 3;simp at x11;obtain ⟨w12, hw12⟩ : ∃ w12, w11.setCell ⟨w2.heap.size, 3, none⟩ (.slice la ll lc) = w12 := ⟨_, rfl⟩
 have HL12 := HL11.out.set 3 (.slice la ll lc) rfl;rw [hw12] at HL12;have hb12 := hb11.fr (S := fun b => b = w2.heap.size) (w' := w12) (by rw [<- hw12]; exact (Fr.refl (fun b => b = w2.heap.size) _).setCell (a := ⟨w2.heap.size, 3, none⟩) (fun _ => rfl) _) (fun b c hc e => by rw [e, HL11.out.x] at hc; cases hc);have HL12 := hid HL12;have HBL := hid hb12;have HW12 := hid hw12;clear hw12 F11 hr11 hb11 hb12 HR;go_wp2_with fail
 rw [HW12.out];clear x11 f11;refine (bad_at HL12.out.rd).mono ?_;rintro e w' ⟨rfl, rfl⟩;have y0 := coh HL12.out.x 0;have y1 := coh HL12.out.x 1;have y2 := coh HL12.out.x 2;have y3 := coh HL12.out.x 3;simp at y0 y1 y2 y3;go_wp2_with fail
 refine (right_ok kind place stamp la ll lc size (by omega) (by omega) (by have := HN.out.1; omega) (by have := HN.out.2.1; omega) (by omega) (by have := HN.out.2.2.2; omega) _).mono ?_;rintro e w13 ⟨rfl, F13⟩;have F113 := HL12.out.f.trans F13 (fun _ _ h => h);have hx13 := F13.heap HL12.out.x (fun h => h);have z0 := coh hx13 0;have z1 := coh hx13 1;have z2 := coh hx13 2;have z3 := coh hx13 3;simp at z0 z1 z2 z3;have HBO := hid (build_ok (HBL.out.fr F13 (fun _ _ _ h => h)) HLD.out size kind place stamp (by omega) (by omega) HN.out.1 HN.out.2.1 HN.out.2.2.1 (by have := HN.out.2.2.2; omega));have HF13 := hi2 F13 (aI F113 hx13);clear F13 F113 hx13 y0 y1 y2 y3;go_wp2_with fail
 refine HBO.out.mono ?_;rintro e w14 ⟨ma, mc, rfl, hm, F14⟩;have HEQ := hid (equal_same hm ((HA.out.1.fr HF13.out.2.1 (fun _ _ _ h => h)).fr F14 (fun _ _ _ h => h)));have hx14 := F14.heap HF13.out.2.2 (fun h => h);have HF14 := hi2 F14 hx14;clear F14 hx14 hm z0 z1 z2 z3;go_wp2_with fail
 refine HEQ.out.mono ?_;rintro e w' ⟨rfl, rfl⟩;have y0 := coh HF14.out.2 0;have y1 := coh HF14.out.2 1;have y2 := coh HF14.out.2 2;have y3 := coh HF14.out.2 3;simp at y0 y1 y2 y3;have G := HB1.out.1.trans (HF13.out.2.1.trans HF14.out.1 (fun _ _ h => h)) (fun _ _ h => h);have hb15 := (HF13.out.2.1.trans HF14.out.1 (fun _ _ h => h)).heap HB1.out.2 (fun h => h);have e0 := coh hb15 0;have e1 := coh hb15 1;have e2 := coh hb15 2;have e3 := coh hb15 3;have z := fun o => foh hb15 o
 simp at e0 e1 e2 e3;have lt := loh hb15;have HG := hi2 G hb15;clear G hb15;go_wp2
 have HLN := HN.out.2.2.2.2;have hbl := (HBL.out.fr HF13.out.1 (fun _ _ _ h => h)).fr HF14.out.1 (fun _ _ _ h => h);refine bodyPost_ret (v := .tuple #[.agg #[.int .i64 kind, .int .i64 place, .int .i64 stamp, .slice la ll lc], .int .i64 0]) (by simp [results, go_sem, *]) rfl ⟨la, lc, by rw [HLN], ?_, ?_⟩
 ·rw [HLN];refine hbl.fr (S := fun b => b = w.heap.size) (((((Fr.refl (fun b => b = w.heap.size) _).setCell (a := ⟨w.heap.size, 0, none⟩) (fun _ => rfl) _).setCell (a := ⟨w.heap.size, 1, none⟩) (fun _ => rfl) _).setCell (a := ⟨w.heap.size, 2, none⟩) (fun _ => rfl) _).setCell (a := ⟨w.heap.size, 3, none⟩) (fun _ => rfl) _) (fun b c hc e => by rw [e, HG.out.2] at hc; cases hc)
 ·exact (((HG.out.1.setNew (nR _) _).setNew (nR _) _).setNew (nR _) _).setNew (nR _) _
variable {D : Dev}
theorem leafget_made (h : DevAt w base d bf bq D) (hdown : D.down = false) (hlen : ∀ y ∈ D.loose, y.2.length = D.size) (hmany : D.loose.length <= 100000) (at_ : Nat) (hat : at_ < D.sectors)
  (kind place stamp : Nat) (load : List Int) (hz : D.sec at_ = buildM D.size kind place stamp load) (hby : ∀ x ∈ load, 0 <= x /\ x < 256) (hk : 1 <= kind /\ kind <= 4) (hp : place <= 2147483647) (hs : stamp < 9223372036854775808) (hl : load.length + 19 <= D.size) :
  Calls Tryz.prog 87 #[.pointer (some ⟨d, 0, none⟩), .int .i64 at_, .int .i64 kind, .int .i64 place] w fun e w' => ∃ la lc, e = .returned (.tuple #[.agg #[.int .i64 kind, .int .i64 place, .int .i64 stamp, .slice la load.length lc], .int .i64 0]) /\ ByV w' la load.length lc load /\ Fq w w' := by
 obtain ⟨w1, hw1⟩ : ∃ w1, w.alloc (.cells #[.int .i64 0, .int .i64 0, .int .i64 0, .slice none 0 0] 166) = w1 := ⟨_, rfl⟩
 have F1 : Fq w w1 := by rw [<- hw1]; exact (Fr.refl _ _).alloc _
 have b1 : w1.heap[w.heap.size]? = some (.cells #[.int .i64 0, .int .i64 0, .int .i64 0, .slice none 0 0] 166) := by rw [<- hw1]; exact han _ _
 have HR := hid (devread_ok (h.fr F1 (fun h => h) (fun h => h) (fun h => h) (fun _ _ _ _ _ h => h)) hdown hlen hmany at_ hat);have hr := h.rg.2;have HZ := hid hz;have HW1 := hid hw1;have HB1 := hi2 F1 b1;have HN := hi2 hby (aI hk (aI hp (aI hs hl)));clear h hw1 F1 b1 hz hdown hlen hmany hby hk hp hs hl;go_enter Tryz.func87, Tryz.ntmps87;go_wp2_with fail
 rw [HW1.out];refine HR.out.mono ?_;rintro e w2 ⟨a, c, rfl, hb, F2⟩;rw [HZ.out] at hb;have HLR := hid (leafread_made hb HN.out.1 (by omega) (by omega) HN.out.2.1 HN.out.2.2.1 HN.out.2.2.2.1 HN.out.2.2.2.2);have HF2 := hid F2;clear hb F2;go_wp2_with fail
 refine HLR.out.mono ?_;rintro e w3 ⟨la, lc, rfl, hb3, F3⟩;have F13 := HF2.out.trans F3 (fun _ _ h => h);have HBL := hid hb3;have hx3 := F13.heap HB1.out.2 (fun h => h);have e0 := coh hx3 0;have e1 := coh hx3 1;have e2 := coh hx3 2;have e3 := coh hx3 3;have z := fun o => foh hx3 o
 simp at e0 e1 e2 e3;have lt := loh hx3;have HG := hi2 (HB1.out.1.trans F13 (fun _ _ h => h)) hx3;have HBL := hid hb3;have ne1 : ¬ w3.heap.size = w.heap.size := by omega
 have ne2 : ¬ w.heap.size = w3.heap.size := by omega
 clear hx3 F13 F3 hb3;go_wp2
 refine bodyPost_ret (v := .tuple #[.agg #[.int .i64 kind, .int .i64 place, .int .i64 stamp, .slice la load.length lc], .int .i64 0]) (by simp [results, go_sem, *]) rfl ⟨la, lc, rfl, ?_, ?_⟩
 ·exact (HBL.out.fr (S := fun b => b = w.heap.size) (((((Fr.refl (fun b => b = w.heap.size) _).setCell (a := ⟨w.heap.size, 0, none⟩) (fun _ => rfl) _).setCell (a := ⟨w.heap.size, 1, none⟩) (fun _ => rfl) _).setCell (a := ⟨w.heap.size, 2, none⟩) (fun _ => rfl) _).setCell (a := ⟨w.heap.size, 3, none⟩) (fun _ => rfl) _) (fun b c hc e => by rw [e, HG.out.2] at hc; cases hc)).fr ((Fr.refl (fun _ => False) _).alloc _) (fun _ _ _ h => h)
 ·exact ((((HG.out.1.setNew (nR _) _).setNew (nR _) _).setNew (nR _) _).setNew (nR _) _).alloc _
abbrev devC (D : Dev) (bf bq : Nat) (lv : Value) : Array Value := #[.int .i64 D.sectors, .int .i64 D.size, .map (some bf), lv, .map (some bq), .int .i64 D.armed, .int .i64 D.acts, .bool D.down]
theorem act_at (h : w.heap[d]? = some (.cells (devC D bf bq lv) 151)) (hacts : D.acts <= 1000000) (harm : D.armed <= 9223372036854775807) :
  Calls Tryz.prog 112 #[.pointer (some ⟨d, 0, none⟩)] w fun e w' => e = .returned (.bool D.act.down) /\ w'.heap[d]? = some (.cells (devC D.act bf bq lv) 151) /\ Fr (fun b => b = d) w w' := by
 have c5 := coh h 5;have c6 := coh h 6;have c7 := coh h 7;have z := fun o => foh h o
 have l := loh h;simp at c5 c6 c7;have H := hid h;clear h;by_cases ha : D.armed = 0
 ·have ha' : ¬ (0 : Int) < (D.armed : Int) := by omega
  have HA := hid ha;clear ha;go_enter Tryz.func112, Tryz.ntmps112;go_wp2
  go_ret;refine ⟨?_, ?_, (Fr.refl (fun b => b = d) _).setCell (a := ⟨d, 6, none⟩) (fun _ => rfl) _⟩
  ·simp [Dev.act, HA.out]
  ·rw [hsc _ _ _ _ H.out];simp [Dev.act, HA.out]
 ·have ha' : (0 : Int) < (D.armed : Int) := by omega
  have HA := hid ha;clear ha;go_enter Tryz.func112, Tryz.ntmps112;go_wp2
  go_ret;have hb : (((D.armed : Int) - 1) == 0) = D.act.down := by
   have h0 := HA.out;by_cases h1 : D.armed = 1
   ·simp [Dev.act, h1]
   ·have : ¬ ((D.armed : Int) - 1 = 0) := (by omega);simp [Dev.act, h0, h1, this]
  refine ⟨by rw [hb]; rfl, ?_, (((Fr.refl (fun b => b = d) _).setCell (a := ⟨d, 6, none⟩) (fun _ => rfl) _).setCell (a := ⟨d, 5, none⟩) (fun _ => rfl) _).setCell (a := ⟨d, 7, none⟩) (fun _ => rfl) _⟩;rw [hb];have h6 := hsc w d 6 (.int .i64 ((D.acts : Int) + 1)) H.out;have h5 := hsc _ d 5 (.int .i64 ((D.armed : Int) - 1)) h6;have h7 := hsc _ d 7 (.bool D.act.down) h5;rw [h7];have e1 : ((D.armed : Int) - 1) = ((D.armed - 1 : Nat) : Int) := by omega
  rw [e1];simp [Dev.act]
theorem Tryz.zero203 (w : World) : (zeroValue 203).run Tryz.prog w = .ok (.slice none 0 0) w := by kernel_rfl
theorem Tryz.info196 : (Tryz.prog.info? 196).map (fun i => (i.zero, i.size, i.bytes)) = some (some (.agg #[.int .i64 0, .slice none 0 0]), 2, 32) := by kernel_rfl
theorem Tryz.info22 : (Tryz.prog.info? 22).map (fun i => (i.zero, i.size, i.bytes)) = some (some (.slice none 0 0), 1, 24) := by kernel_rfl
def DevS (w : World) (base d bq : Nat) (b : Nat) : Prop := b = d \/ b = bq \/ (base <= b /\ ∃ c t, (t = 196 \/ t = 22) /\ w.heap[b]? = some (.cells c t))
def DevL (w : World) (base d : Nat) (b : Nat) : Prop := b = d \/ (base <= b /\ ∃ c, w.heap[b]? = some (.cells c 196))
theorem PastV.fr {S : Nat -> Prop} {w' : World} {N : Nat} (h : PastV w base N v) (F : Fr S w w') (h22 : ∀ g c, w.heap[g]? = some (.cells c 22) -> ¬ S g) (h5 : ∀ g c, w.heap[g]? = some (.cells c 5) -> ¬ S g) : PastV w' base N v := by
 obtain ⟨n, xs, hn, hx, hxs⟩ := h;refine ⟨n, xs, hn, oRf hx F h22, fun y hy => ?_⟩;obtain ⟨a, k, cap, bs, e, hb, hk⟩ := hxs y hy;exact ⟨a, k, cap, bs, e, hb.fr F h5, hk⟩
theorem dev_append {w4 : World} (h : DevAt w base d bf bq D) (hbase : base <= w.heap.size) {ws : List Wr} (hd : w.heap[d]? = some (.cells (devC D bf bq lv) 151)) (hown : w.ownsRow base 196 2 lv ws.length (ws.flatMap Wr.cells)) (hwl : ws.length = D.loose.length)
  (hws : ∀ (i : Nat) (x : Wr) (y : Int × List Int), ws[i]? = some x -> D.loose[i]? = some y -> x.at_ = y.1 /\ (ByV w x.la x.ll x.lc y.2 /\ x.ll <= x.lc)) (hb : ByV w ca cl cc bs) (hcc : cl <= cc)
  (hown4 : w4.ownsRow base 196 2 (.slice (some ⟨gg, 0, none⟩) (ws.length + 1) cap) (ws.length + 1) (ws.flatMap Wr.cells ++ [.int .i64 at_, .slice ca cl cc]))
  (hgrow : (w.alloc (.cells #[.int .i64 at_, .slice ca cl cc] 196)).drew.grownBy w4 lv.ownBlock) (hat : lv.ownBlock = some gg \/ gg = w.heap.size + 1) :
  DevAt (w4.setCell ⟨d, 3, none⟩ (.slice (some ⟨gg, 0, none⟩) (ws.length + 1) cap)) base d bf bq { D with loose := D.loose ++ [(at_, bs)] } /\
   Fr (DevL w base d) w (w4.setCell ⟨d, 3, none⟩ (.slice (some ⟨gg, 0, none⟩) (ws.length + 1) cap)) := by
 have hob : ∀ b, some b = lv.ownBlock -> base <= b /\ ∃ c, w.heap[b]? = some (.cells c 196) := fun b e => by
  obtain ⟨_, ⟨h1, _⟩ | ⟨g', cap', cur', h1, hb', hg', _⟩⟩ := hown
  ·rw [h1] at e; cases e
  ·rw [h1] at e;have e2 : b = g' := Option.some.inj e;rw [e2]; exact ⟨hb', _, hg'⟩
 have FA : Fr (fun b => some b = lv.ownBlock) w (w.alloc (.cells #[.int .i64 at_, .slice ca cl cc] 196)).drew := ((Fr.refl _ _).alloc _).drew;have F4 : Fr (fun b => some b = lv.ownBlock) w w4 := FA.trans (S' := fun b => some b = lv.ownBlock) ⟨hgrow.os, hgrow.tape, hgrow.output, hgrow.size, fun b hb hn => hgrow.block b hb hn⟩ (fun _ _ h => h);have nd : ¬ some d = lv.ownBlock := fun e => by obtain ⟨_, c, hc⟩ := hob d e; rw [hd] at hc; cases hc
 have hd4 := F4.heap hd nd;have F5 : Fr (fun b => b = d) w4 (w4.setCell ⟨d, 3, none⟩ (.slice (some ⟨gg, 0, none⟩) (ws.length + 1) cap)) := (Fr.refl (fun b => b = d) _).setCell (a := ⟨d, 3, none⟩) (fun _ => rfl) _;have F45 : Fr (fun b => some b = lv.ownBlock \/ b = d) w (w4.setCell ⟨d, 3, none⟩ (.slice (some ⟨gg, 0, none⟩) (ws.length + 1) cap)) := (F4.mono (fun _ _ h => .inl h)).trans F5 (fun _ _ h => .inr h);have n5 : ∀ g c t, t ≠ 196 -> t ≠ 151 -> w.heap[g]? = some (.cells c t) -> ¬ (some g = lv.ownBlock \/ g = d) := fun g c t h1 h2 hg e => by
  rcases e with e | e
  ·obtain ⟨_, c', hc⟩ := hob g e; rw [hg] at hc; cases hc; exact h1 rfl
  ·rw [e, hd] at hg; cases hg; exact h2 rfl
 have nm : ∀ g l ck, w.heap[g]? = some (.map l ck) -> ¬ (some g = lv.ownBlock \/ g = d) := fun g l ck hg e => by
  rcases e with e | e
  ·obtain ⟨_, c', hc⟩ := hob g e; rw [hg] at hc; cases hc
  ·rw [e, hd] at hg; cases hg
 have hB : ∀ {a n c bs}, ByV w a n c bs -> ByV (w4.setCell ⟨d, 3, none⟩ (.slice (some ⟨gg, 0, none⟩) (ws.length + 1) cap)) a n c bs := fun hb => hb.fr F45 fun b c hc => n5 b c 5 (by decide) (by decide) hc
 have hd5 : (w4.setCell ⟨d, 3, none⟩ (.slice (some ⟨gg, 0, none⟩) (ws.length + 1) cap)).heap[d]? = some (.cells (devC D bf bq (.slice (some ⟨gg, 0, none⟩) (ws.length + 1) cap)) 151) := by
  rw [hsc _ _ _ _ hd4]; rfl
 obtain ⟨l, ck, hf, hfn, hfs⟩ := h.fast;obtain ⟨l', ck', hq, hqn, hqs, hqd⟩ := h.past;refine ⟨⟨⟨_, hd5, ws ++ [⟨at_, ca, cl, cc⟩], ?_, by simp [hwl], fun i x y hx hy => ?_⟩, ⟨l, ck, F45.heap hf (nm _ _ _ hf), hfn, fun k => ?_⟩, ⟨l', ck', F45.heap hq (nm _ _ _ hq), hqn, fun e he => ?_, hqd⟩, h.ge, h.ne, h.rg⟩, ?_⟩
 ·have e1 : (ws ++ [(⟨at_, ca, cl, cc⟩ : Wr)]).flatMap Wr.cells = ws.flatMap Wr.cells ++ [.int .i64 at_, .slice ca cl cc] := by simp [Wr.cells]
  rw [e1, lA];refine oRf hown4 F5 (fun g c hg e => ?_);rw [e, hd4] at hg; cases hg
 ·by_cases hi : i < ws.length
  ·rw [List.getElem?_append_left hi] at hx;rw [List.getElem?_append_left (by omega)] at hy;exact ⟨(hws i x y hx hy).1, hB (hws i x y hx hy).2.1, (hws i x y hx hy).2.2⟩
  ·have hx' := hx;have hlt := (gI.1 hx).1;simp at hlt;obtain rfl : i = ws.length := by omega
   rw [List.getElem?_append_right (nR _), Nat.sub_self] at hx;rw [hwl, List.getElem?_append_right (nR _), Nat.sub_self] at hy;simp at hx hy;subst hx hy;exact ⟨rfl, hB hb, hcc⟩
 ·have := hfs k;cases hlk : Sg.look l k with
  | none => rw [hlk] at this; cases hx : D.fast k with
   | none => trivial
   | some bs => rw [hx] at this; exact this.elim
  | some v => rw [hlk] at this; cases hx : D.fast k with
   | none => rw [hx] at this; exact this.elim
   | some bs =>
    rw [hx] at this;obtain ⟨b, off, cap, e, hb, hcp⟩ := this;exact ⟨b, off, cap, e, hB hb, hcp⟩
 ·obtain ⟨n, xs, hnN, hx, hxs⟩ := hqs e he;refine ⟨n, xs, hnN, oRf hx F45 fun g c hg => n5 g c 22 (by decide) (by decide) hg, fun y hy => ?_⟩;obtain ⟨a, k, cap, bs, e, hb, hk⟩ := hxs y hy;exact ⟨a, k, cap, bs, e, hB hb, hk⟩
 ·refine F45.mono fun b hb e => ?_
  rcases e with e | e
  ·obtain ⟨h1, c, h2⟩ := hob b e;exact .inr ⟨h1, c, h2⟩
  ·exact .inl e
theorem dev_act (h : DevAt w base d bf bq D) (hd : w.heap[d]? = some (.cells (devC D bf bq lv) 151)) (hl : LooseAt w base lv D.loose) (hd1 : w1.heap[d]? = some (.cells (devC D.act bf bq lv) 151)) (F : Fr (fun b => b = d) w w1) : DevAt w1 base d bf bq D.act := by
 have n5 : ∀ g c t, t ≠ 151 -> w.heap[g]? = some (.cells c t) -> ¬ g = d := fun g c t h2 hg e => by rw [e, hd] at hg; cases hg; exact h2 rfl
 have nm : ∀ g l ck, w.heap[g]? = some (.map l ck) -> ¬ g = d := fun g l ck hg e => by rw [e, hd] at hg; cases hg
 have hB : ∀ {a n c bs}, ByV w a n c bs -> ByV w1 a n c bs := fun hb => hb.fr F fun b c hc => n5 b c 5 (by decide) hc
 obtain ⟨l, ck, hf, hfn, hfs⟩ := h.fast;obtain ⟨l', ck', hq, hqn, hqs, hqd⟩ := h.past;obtain ⟨ws, hown, hwl, hws⟩ := hl;refine ⟨⟨_, hd1, ws, oRf hown F (fun g c hg => n5 g c 196 (by decide) hg), hwl, fun i x y hx hy => ⟨(hws i x y hx hy).1, hB (hws i x y hx hy).2.1, (hws i x y hx hy).2.2⟩⟩, ⟨l, ck, F.heap hf (nm _ _ _ hf), hfn, fun k => ?_⟩, ⟨l', ck', F.heap hq (nm _ _ _ hq), hqn, fun e he => ?_, hqd⟩, h.ge, h.ne, h.rg⟩
 ·have := hfs k;show FastIs w1 D.size _ (D.fast k);cases hlk : Sg.look l k with
  | none => rw [hlk] at this; cases hx : D.fast k with
   | none => trivial
   | some bs => rw [hx] at this; exact this.elim
  | some v => rw [hlk] at this; cases hx : D.fast k with
   | none => rw [hx] at this; exact this.elim
   | some bs =>
    rw [hx] at this;obtain ⟨b, off, cap, e, hb, hcp⟩ := this;exact ⟨b, off, cap, e, hB hb, hcp⟩
 ·obtain ⟨n, xs, hnN, hx, hxs⟩ := hqs e he;refine ⟨n, xs, Nat.le_succ_of_le hnN, oRf hx F fun g c hg => n5 g c 22 (by decide) hg, fun y hy => ?_⟩;obtain ⟨a, k, cap, bs, e, hb, hk⟩ := hxs y hy;exact ⟨a, k, cap, bs, e, hB hb, hk⟩
variable {l : List Ent}
theorem mem_put (hn : (keys l).Nodup) {e : Ent} (he : e ∈ Sg.put l k v c) : (e.k = k /\ e.v = v) \/ (e.k ≠ k /\ e ∈ l) := by
 induction l with
 | nil => simp [Sg.put] at he; subst he; exact .inl ⟨rfl, rfl⟩
 | cons x r ih =>
  have hn' : (keys r).Nodup := by simp [keys] at hn ⊢; exact hn.2
  have hx : ∀ y ∈ r, y.k ≠ x.k := by
   intro y hy e;simp [keys] at hn;exact hn.1 y hy e
  unfold Sg.put at he;split at he
  ·rename_i hk;have hk' : x.k = k := by simpa using hk
   rcases List.mem_cons.1 he with rfl | he
   ·exact .inl ⟨by simp, rfl⟩
   ·exact .inr ⟨fun e2 => hx e he (by rw [e2, hk']), List.mem_cons_of_mem _ he⟩
  ·rename_i hk;have hk' : ¬ x.k = k := by simpa using hk
   rcases List.mem_cons.1 he with rfl | he
   ·exact .inr ⟨hk', by simp⟩
   ·rcases ih hn' he with h | ⟨h1, h2⟩
    ·exact .inl h
    ·exact .inr ⟨h1, List.mem_cons_of_mem _ h2⟩
theorem own_mem (h : Sg.look l k = some v) : ∃ e ∈ l, e.k = k /\ e.v = v := by
 unfold Sg.look at h;cases hf : l.find? (·.k == k) with
 | none => rw [hf] at h; cases h
 | some e =>
  rw [hf] at h;have h1 := List.find?_some hf;exact ⟨e, List.mem_of_find?_eq_some hf, by simpa using h1, by simpa using h⟩
theorem dev_past {w6 : World} (h : DevAt w base d bf bq D) (hbase : base <= w.heap.size) {ck : Nat} (hq : w.heap[bq]? = some (.map (ents l) ck)) (hqn : (keys l).Nodup) (hqs : ∀ e ∈ l, PastV w base D.acts e.v)
  (hqd : ∀ e ∈ l, ∀ e' ∈ l, ∀ g, e.v.ownBlock = some g -> e'.v.ownBlock = some g -> e.k = e'.k) {pv : Value} (hpv : Sg.look l at_ = some pv \/ pv = .slice none 0 0) {xs : List Value} (hown : w.ownsRow base 22 1 pv n xs)
  (hxs : ∀ x ∈ xs, ∃ a k cap bs, x = .slice a k cap /\ ByV w a k cap bs /\ k <= 512) (hn : n + 1 <= D.acts) (hb : ByV w ca cl cc bs) (hcl : cl <= 512)
  (hown6 : w6.ownsRow base 22 1 (.slice (some ⟨gg, 0, none⟩) (n + 1) cap) (n + 1) (xs ++ [.slice ca cl cc]))
  (hgrow : (w.alloc (.cells #[.slice ca cl cc] 22)).drew.grownBy w6 pv.ownBlock) (hat : pv.ownBlock = some gg \/ gg = w.heap.size + 1) :
  DevAt (w6.putObj bq (.map (ents (Sg.put l at_ (.slice (some ⟨gg, 0, none⟩) (n + 1) cap) ck)) (bump l at_ ck))) base d bf bq D /\
   Fr (DevS w base d bq) w (w6.putObj bq (.map (ents (Sg.put l at_ (.slice (some ⟨gg, 0, none⟩) (n + 1) cap) ck)) (bump l at_ ck))) := by
 have hob : ∀ b, some b = pv.ownBlock -> base <= b /\ ∃ c, w.heap[b]? = some (.cells c 22) := fun b e => by
  obtain ⟨_, ⟨h1, _⟩ | ⟨g', cap', cur', h1, hb', hg', _⟩⟩ := hown
  ·rw [h1] at e; cases e
  ·rw [h1] at e;have e2 : b = g' := Option.some.inj e;rw [e2]; exact ⟨hb', _, hg'⟩
 have FA : Fr (fun b => some b = pv.ownBlock) w (w.alloc (.cells #[.slice ca cl cc] 22)).drew := ((Fr.refl _ _).alloc _).drew;have F6 : Fr (fun b => some b = pv.ownBlock) w w6 := FA.trans (S' := fun b => some b = pv.ownBlock) ⟨hgrow.os, hgrow.tape, hgrow.output, hgrow.size, fun b hb hn => hgrow.block b hb hn⟩ (fun _ _ h => h);have hq6 := F6.heap hq (fun e => by obtain ⟨_, c, hc⟩ := hob bq e; rw [hq] at hc; cases hc);obtain ⟨W, hW⟩ : ∃ W, w6.putObj bq (.map (ents (Sg.put l at_ (.slice (some ⟨gg, 0, none⟩) (n + 1) cap) ck)) (bump l at_ ck)) = W := ⟨_, rfl⟩
 have hqW : W.heap[bq]? = some (.map (ents (Sg.put l at_ (.slice (some ⟨gg, 0, none⟩) (n + 1) cap) ck)) (bump l at_ ck)) := by rw [<- hW]; exact heap_putObj_same _ _ _ (loh hq6)
 have F67 : Fr (fun b => b = bq) w6 W := by rw [<- hW]; exact (Fr.refl (fun b => b = bq) _).putObj (fun _ => rfl) _
 rw [hW];have F : Fr (fun b => some b = pv.ownBlock \/ b = bq) w W := (F6.mono (fun _ _ h => .inl h)).trans F67 (fun _ _ h => .inr h);have n5 : ∀ g c t, t ≠ 22 -> w.heap[g]? = some (.cells c t) -> ¬ (some g = pv.ownBlock \/ g = bq) := fun g c t h1 hg e => by
  rcases e with e | e
  ·obtain ⟨_, c', hc⟩ := hob g e; rw [hg] at hc; cases hc; exact h1 rfl
  ·rw [e, hq] at hg; cases hg
 have hB : ∀ {a n c bs}, ByV w a n c bs -> ByV W a n c bs := fun hb => hb.fr F fun b c hc => n5 b c 5 (by decide) hc
 obtain ⟨lv, hd, ws, hownL, hwl, hws⟩ := h.dc;obtain ⟨l0, ck0, hf, hfn, hfs⟩ := h.fast;refine ⟨⟨⟨lv, F.heap hd (n5 _ _ 151 (by decide) hd), ws, oRf hownL F (fun g c hg => n5 g c 196 (by decide) hg), hwl, fun i x y hx hy => ⟨(hws i x y hx hy).1, hB (hws i x y hx hy).2.1, (hws i x y hx hy).2.2⟩⟩, ⟨l0, ck0, F.heap hf ?_, hfn, fun k => ?_⟩, ⟨_, _, hqW, nodup_put hqn _ _ _, fun e he => ?_, fun e he e' he' g hg hg' => ?_⟩, h.ge, h.ne, h.rg⟩, ?_⟩
 ·intro e;rcases e with e | e
  ·obtain ⟨_, c', hc⟩ := hob bf e; rw [hf] at hc; cases hc
  ·exact h.ne e
 ·have := hfs k;cases hlk : Sg.look l0 k with
  | none => rw [hlk] at this; cases hx : D.fast k with
   | none => trivial
   | some bs => rw [hx] at this; exact this.elim
  | some v => rw [hlk] at this; cases hx : D.fast k with
   | none => rw [hx] at this; exact this.elim
   | some bs =>
    rw [hx] at this;obtain ⟨b, off, cap, e, hb, hcp⟩ := this;exact ⟨b, off, cap, e, hB hb, hcp⟩
 ·rcases mem_put hqn he with ⟨_, hv⟩ | ⟨hk, hm⟩
  ·rw [hv];refine ⟨n + 1, _, hn, oRf hown6 F67 (fun g c hg e => by rw [e, hq6] at hg; cases hg), fun x hx => ?_⟩;rcases List.mem_append.1 hx with hx | hx
   ·obtain ⟨a, k, cap, bs, e, hb, hk⟩ := hxs x hx;exact ⟨a, k, cap, bs, e, hB hb, hk⟩
   ·simp at hx;subst hx;exact ⟨_, _, _, _, rfl, hB hb, hcl⟩
  ·obtain ⟨m, ys, hm2, hy, hys⟩ := hqs e hm;refine ⟨m, ys, hm2, ?_, fun y hy => ?_⟩
   ·have hy' := hy;obtain ⟨hl1, h0 | ⟨g, cap', cur, hv, hbg, hgg, rest⟩⟩ := hy
    ·exact ⟨hl1, .inl h0⟩
    ·refine ⟨hl1, .inr ⟨g, cap', cur, hv, hbg, F.heap hgg ?_, rest⟩⟩;intro e2;rcases e2 with e2 | e2
     ·rcases hpv with hpv | hpv
      ·obtain ⟨e0, h01, h02, h03⟩ := own_mem hpv;have := hqd e0 h01 e hm g (by rw [h03]; exact e2.symm) (by rw [hv]; rfl);exact hk (by rw [<- this, h02])
      ·rw [hpv] at e2; cases e2
     ·rw [e2, hq] at hgg; cases hgg
   ·obtain ⟨a, k, cap, bs, e, hb, hk⟩ := hys y hy;exact ⟨a, k, cap, bs, e, hB hb, hk⟩
 ·have key : ∀ e1 ∈ l, e1.k ≠ at_ -> e1.v.ownBlock = some gg -> False := fun e1 h1 h2 h3 => by
   rcases hat with hat | hat
   ·rcases hpv with hpv | hpv
    ·obtain ⟨e0, h01, h02, h03⟩ := own_mem hpv;have := hqd e0 h01 e1 h1 gg (by rw [h03]; exact hat) h3;exact h2 (by rw [<- this, h02])
    ·rw [hpv] at hat; cases hat
   ·obtain ⟨m, ys, hm2, ⟨hl1, ⟨h0, _⟩ | ⟨g', cap', cur, hv, hbg, hgg, _⟩⟩, _⟩ := hqs e1 h1
    ·rw [h0] at h3; cases h3
    ·rw [hv] at h3;have : g' = gg := Option.some.inj h3;have := loh hgg;omega
  rcases mem_put hqn he with ⟨hk, hv⟩ | ⟨hk, hm⟩ <;> rcases mem_put hqn he' with ⟨hk', hv'⟩ | ⟨hk', hm'⟩
  ·rw [hk, hk']
  ·rw [hv] at hg;have : gg = g := Option.some.inj hg;subst this;exact (key e' hm' hk' hg').elim
  ·rw [hv'] at hg';have : gg = g := Option.some.inj hg';subst this;exact (key e hm hk hg).elim
  ·exact hqd e hm e' hm' g hg hg'
 ·refine F.mono fun b hb e => ?_
  rcases e with e | e
  ·obtain ⟨h1, c, h2⟩ := hob b e;exact .inr (.inr ⟨h1, c, 22, .inr rfl, h2⟩)
  ·exact .inr (.inl e)
theorem DevS.trans {w2 : World} (h : Fr (DevS w base d bq) w w1) (k : Fr (DevS w1 base d bq) w1 w2) : Fr (DevS w base d bq) w w2 :=
 Fr.trans h k fun b hb hs => by
  rcases Classical.em (DevS w base d bq b) with hm | hm
  ·exact hm
  ·have e := h.block b hb hm;rcases hs with hs | hs | ⟨h1, c, t, ht, hc⟩
   ·exact .inl hs
   ·exact .inr (.inl hs)
   ·exact .inr (.inr ⟨h1, c, t, ht, by rw [<- e]; exact hc⟩)
def Mid (base d bf bq : Nat) (D : Dev) (bx : Nat) (v : Value) (w3 w : World) : Prop := DevAt w base d bf bq D /\ Fr (DevL w3 base d) w3 w /\ w.cell? ⟨bx, 1, none⟩ = some v
def WritePost (base d bf bq : Nat) (D : Dev) (at_ : Nat) (bs : List Int) (w : World) (e : Ending) (w' : World) : Prop :=
 e = .returned (.int .i64 (if D.act.down = true then 4 else 0)) /\ DevAt w' base d bf bq { D.act with loose := D.loose ++ [((at_ : Int), bs)] } /\ Fr (DevS w base d bq) w w'
theorem devwrite_ok (h : DevAt w base d bf bq D) (hbase : base <= w.heap.size) (hdown : D.down = false) (hacts : D.acts <= 1000000) (harm : D.armed <= 9223372036854775807) (hmany : D.loose.length <= 100000) (at_ : Nat) (hat : at_ < D.sectors)
   {la : Option Addr} {lc : Nat} (hb : ByV w la D.size lc bs) :
   Calls Tryz.prog 229 #[.pointer (some ⟨d, 0, none⟩), .int .i64 at_, .slice la D.size lc] w (WritePost base d bf bq D at_ bs w) := by
 obtain ⟨i0, hi0, hz0, hz1, hz2⟩ := info_parts Tryz.info196;obtain ⟨j0, hj0, jz0, jz1, jz2⟩ := info_parts Tryz.info22;obtain ⟨lv, hd, ws, hown, hwl, hws⟩ := h.dc;have hz := h.rg.2;have c0 := coh hd 0;have c1 := coh hd 1;have c7 := coh hd 7;simp [hdown] at c0 c1 c7;have hlv : ∃ a c, lv = .slice a ws.length c := by
   obtain ⟨_, ⟨h1, h2⟩ | ⟨g, cap, cur, h1, _⟩⟩ := hown
   · rw [h2]; exact ⟨_, _, h1⟩
   · exact ⟨_, _, h1⟩
 obtain ⟨va, vc, rfl⟩ := hlv;have HRD := hid (ready_ok (w := w) (d := d) (n := D.sectors) (at_ := at_) c0 c7 (by omega) (by omega));have HACT := hid (act_at (lv := .slice va ws.length vc) hd hacts (by omega));have H := hid h;have HB := hid hb;have HBL := hid hb.len;have HOWN := hid hown;have HW := hi2 hwl hws;have HD0 := hid hd;clear h hb hown hwl hws hd hdown;go_enter Tryz.func229, Tryz.ntmps229;go_wp2_with fail
 refine HRD.out.mono ?_;rintro e w' ⟨rfl, rfl⟩;go_wp2_with fail
 refine HACT.out.mono ?_;rintro e w1 ⟨rfl, hd1, F1⟩;generalize hdn : D.act.down = dn;have HDN := hid hdn;have ne5 : ∀ g cs, w.heap[g]? = some (.cells cs 5) -> ¬ g = d := fun g cs hg e => by
   obtain ⟨lv', hd', _⟩ := H.out.dc;rw [e, hd'] at hg; cases hg
 have hb1 := HB.out.fr F1 ne5;have HCL := hid (clone_vc hb1.slb (by omega));have hown1 := oRf HOWN.out F1 (fun g c hg e => by
   obtain ⟨lv', hd', _⟩ := H.out.dc;rw [e, hd'] at hg; cases hg)
 have HD1 := hi2 hd1 (aI F1 hown1);have hdc1 := coh hd1 1;simp at hdc1;have hda1 : D.act.size = D.size := rfl;rw [hda1] at hdc1;clear hb1 hd1 F1 hown1 ne5 c0 c1 c7 hda1 hdn;go_wp2_with fail
 refine HCL.out.mono ?_;rintro e w2 ⟨ca, cc, rfl, ⟨hb2, hcc⟩, F2⟩;have HCC := hid hcc;clear hcc;obtain ⟨w3, hw3⟩ : ∃ w3, w2.alloc (.cells #[.int .i64 at_, .slice ca D.size cc] 196) = w3 := ⟨_, rfl⟩
 have F23 : Fq w2 w3 := by rw [<- hw3]; exact (Fr.refl _ _).alloc _
 have F13 := F2.trans F23 (fun _ _ h => h);have hx3 : w3.heap[w2.heap.size]? = some (.cells #[.int .i64 at_, .slice ca D.size cc] 196) := by rw [<- hw3]; exact han _ _
 have hd3 := F13.heap HD1.out.1 (fun h => h);have hown3 := oRf HD1.out.2.2 F13 (fun _ _ _ h => h);have d3 := coh hd3 3;have dz := fun o => foh hd3 o
 have x0 := coh hx3 0;have x1 := coh hx3 1;simp at d3 x0 x1;have ld := loh hd3;have lx := loh hx3;have nd : ∀ {W : World} {v : Value} {n : Nat} {xs : List Value} {c : Array Value}, W.ownsRow base 196 2 v n xs -> W.heap[d]? = some (.cells c 151) -> v.ownBlock ≠ some d := fun ho hh e => by
   obtain ⟨_, ⟨rfl, _⟩ | ⟨g', cap, cur, rfl, hb, hg, _⟩⟩ := ho
   · cases e
   · cases e; rw [hg] at hh; cases hh
 have ND := hid (nd hown3 hd3);have NX := hid (show (Value.slice va ws.length vc).ownBlock ≠ some w2.heap.size from fun e => by
   obtain ⟨_, ⟨h1, _⟩ | ⟨g', cap, cur, h1, hb, hg, _⟩⟩ := HOWN.out
   · rw [h1] at e; cases e
   · rw [h1] at e;have e2 : g' = w2.heap.size := Option.some.inj e;rw [e2] at hg;have := loh hg;have := HD1.out.2.1.size;have := F2.size;omega)
 have NDX := hid (show ¬ d = w2.heap.size by have := loh HD0.out; have := HD1.out.2.1.size; have := F2.size; omega);have hs3 : w.heap.size <= w3.heap.size := nT HD1.out.2.1.size F13.size;have HO3 := hid hown3;have H3 := hi2 hd3 (aI hx3 (aI F13 (hb2.fr F23 (fun _ _ _ h => h))));have HW3 := hid hw3;clear hw3 F23 F13 hx3 hd3 hown3 hb2 F2 hdc1 nd;have hwl : ws.length <= 100000 := by have := HW.out.1; omega
 have HDEV := hid ((dev_act H.out HD0.out ⟨ws, HOWN.out, HW.out.1, HW.out.2⟩ HD1.out.1 HD1.out.2.1).fr H3.out.2.2.1 (fun h => h) (fun h => h) (fun h => h) (fun _ _ _ _ _ h => h));have F1w := HD1.out.2.1;have HWS3 := hid (fun (i : Nat) (x : Wr) (y : Int × List Int) (hx : ws[i]? = some x) (hy : D.loose[i]? = some y) => (⟨(HW.out.2 i x y hx hy).1, ((HW.out.2 i x y hx hy).2.1.fr F1w (fun g c hg e => by rw [e, HD0.out] at hg; cases hg)).fr H3.out.2.2.1 (fun _ _ _ h => h), (HW.out.2 i x y hx hy).2.2⟩ : x.at_ = y.1 /\ (ByV w3 x.la x.ll x.lc y.2 /\ x.ll <= x.lc)));obtain ⟨pl, pck, hq, hqn, hqs, hqd⟩ := H.out.past;have HPQ := hi2 (H3.out.2.2.1.heap (F1w.heap hq (fun e => by rw [e, HD0.out] at hq; cases hq)) (fun h => h)) (aI hqn (aI (fun x (he : x ∈ pl) => (PastV.fr (PastV.fr (hqs x he) F1w (fun g c hg e => by rw [e, HD0.out] at hg; cases hg) (fun g c hg e => by rw [e, HD0.out] at hg; cases hg)) H3.out.2.2.1 (fun _ _ _ h => h) (fun _ _ _ h => h) : PastV w3 base D.acts x.v)) hqd));clear hq hqn hqs hqd F1w;go_upto_region 8 with fail
 rw [HW3.out];go_cut [8] from 30 to 39 (fun v wx => v = .bool dn /\ Mid base d bf bq { D.act with loose := D.loose ++ [((at_ : Int), bs)] } w2.heap.size (.slice ca D.size cc) w3 wx)
 case first =>
  go_region_law
    ((refine step_append_lies _ (by rfl) _ _ _ (by rfl) base 196 i0 _ 2 32 Tryz.underlying149 hi0 hz0 hz1 hz2 rfl (by omega) (.slice va ws.length vc) ws.length (ws.flatMap Wr.cells) (by rfl) ((HO3.out.alloc _).drew)
        ⟨w3.heap.size, 0, none⟩ 1 1 [.int .i64 at_, .slice ca D.size cc] (by rfl) (by rfl) (World.news_of_block (cs := #[.int .i64 at_, .slice ca D.size cc]) (t := 196) (fr := (0, 0)) (han w3 _)) (by simp [Value.oneCell'])
        (by omega) (by unfold maxLen; omega) (by omega) (by simp; omega) (w3.heap.size + 1) (by simp) ?_; intro gg cap w4 hown4 hgrow hat4 hlt4;
       have HG4 := hi2 hown4 (aI hgrow hat4);
       have d3 : w4.cell? ⟨d, 3, none⟩ = some (.slice va ws.length vc) := (hgrow.cell_far ⟨d, 3, none⟩ (by simp; omega) (Ne.symm ND.out)).trans (by simp [go_sem, d3, ld]);
       have x0 : w4.cell? ⟨w2.heap.size, 0, none⟩ = some (.int .i64 at_) := (hgrow.cell_far ⟨w2.heap.size, 0, none⟩ (by simp; omega) (Ne.symm NX.out)).trans (by simp [go_sem, x0, lx]);
       have x1 : w4.cell? ⟨w2.heap.size, 1, none⟩ = some (.slice ca D.size cc) := (hgrow.cell_far ⟨w2.heap.size, 1, none⟩ (by simp; omega) (Ne.symm NX.out)).trans (by simp [go_sem, x1, lx]);
       have dz : w4.frozen? ⟨d, 3, none⟩ = false := (hgrow.frozen_far ⟨d, 3, none⟩ (by simp; omega) (Ne.symm ND.out)).trans (by simp [go_sem, dz, ld]);
       clear hown4 hgrow hat4))
  all_goals
   obtain ⟨hown4, hgrow4, hat4⟩ := HG4.out;obtain ⟨hd3', hx3, F13, hb3⟩ := H3.out;obtain ⟨hD5, F5⟩ := dev_append HDEV.out (by omega) hd3' HO3.out HW.out.1 HWS3.out hb3 HCC.out hown4 hgrow4 hat4;have y1 : (w4.setCell ⟨d, 3, none⟩ (.slice (some ⟨gg, 0, none⟩) (ws.length + 1) cap)).cell? ⟨w2.heap.size, 1, none⟩ = some (.slice ca D.size cc) := by
     rw [World.cell?_of_block (heap_setCell_ne _ _ _ _ (by simpa using NDX.out))]; exact x1
   have HM := hid (show Mid base d bf bq { D.act with loose := D.loose ++ [((at_ : Int), bs)] } w2.heap.size (.slice ca D.size cc) w3 _ from ⟨hD5, F5, y1⟩);clear hD5 F5 y1 hown4 hgrow4 hat4 hd3' hx3 F13 hb3 HG4;go_wp2_with fail
   go_meet
   case rel => exact ⟨rfl, HM.out⟩
 case rest =>
   obtain ⟨rfl, hD5, F5, y1⟩ := hcut;obtain ⟨hd3', hx3, F13, hb3⟩ := H3.out;have n196 : ∀ g c t, t ≠ 196 -> t ≠ 151 -> w3.heap[g]? = some (.cells c t) -> ¬ DevL w3 base d g := fun g c t h1 h2 hg e => by
     rcases e with e | ⟨_, c', e⟩
     ·rw [e, hd3'] at hg; cases hg; exact h2 rfl
     ·rw [hg] at e; cases e; exact h1 rfl
   obtain ⟨hq3, hqn, hqs3, hqd⟩ := HPQ.out;have hq5 : wc.heap[bq]? = some (.map (ents pl) pck) := F5.heap hq3 (fun e => by
     rcases e with e | ⟨_, c', e⟩
     ·rw [e, hd3'] at hq3; cases hq3
     ·rw [hq3] at e; cases e)
   have hqs5 : ∀ x ∈ pl, PastV wc base D.acts x.v := fun x hx => PastV.fr (hqs3 x hx) F5 (fun g c hg => n196 g c 22 (by decide) (by decide) hg) (fun g c hg => n196 g c 5 (by decide) (by decide) hg)
   have hb5 : ByV wc ca D.size cc bs := hb3.fr F5 (fun g c hg => n196 g c 5 (by decide) (by decide) hg);have hlk := fun (W : World) (hW : W.heap[bq]? = some (.map (ents pl) pck)) => run_lookup (P := Tryz.prog) (T := 148) false Tryz.underlying148 Tryz.underlying3 Tryz.zero203 hW (at_ : Int)
   have hpv : Sg.look pl at_ = some ((Sg.look pl at_).getD (.slice none 0 0)) \/ (Sg.look pl at_).getD (.slice none 0 0) = .slice none 0 0 := by
     cases Sg.look pl at_ with
     | none => exact .inr rfl
     | some v => exact .inl rfl
   have hpx : PastV wc base D.acts ((Sg.look pl at_).getD (.slice none 0 0)) := by
     cases hl : Sg.look pl at_ with
     | none => exact ⟨0, [], Nat.zero_le _, World.ownsRow_nil _ _ _ _, fun x hx => by cases hx⟩
     | some v =>
      obtain ⟨e0, h1, _, h3⟩ := own_mem hl;have := hqs5 e0 h1;rw [h3] at this;exact this
   simp only [Bool.false_eq_true, if_false] at hlk;generalize (Sg.look pl at_).getD (.slice none 0 0) = pv at hlk hpv hpx;obtain ⟨pn, pxs, hpn, hpown, hpxs⟩ := hpx;have hup := fun (W : World) (v : Value) (hW : W.heap[bq]? = some (.map (ents pl) pck)) => run_mapUpdate (P := Tryz.prog) (T := 148) Tryz.underlying148 Tryz.underlying3 hW (at_ : Int) v
   have k4 : wc.cell? ⟨d, 4, none⟩ = some (.map (some bq)) := by
     obtain ⟨lv', hd5, _⟩ := hD5.dc;simpa using coh hd5 4
   have l5d : d < wc.heap.size := World.block_lt_of_cell? _ _ k4;have l5x := World.block_lt_of_cell? _ _ y1;have l5q := loh hq5;have s5 := F5.size;have NPQ := hid (show pv.ownBlock ≠ some bq from fun e => by
     obtain ⟨_, ⟨h1, _⟩ | ⟨g', cap', cur', h1, _, hg', _⟩⟩ := hpown
     ·rw [h1] at e; cases e
     ·rw [h1] at e;have e2 : g' = bq := Option.some.inj e;rw [e2, hq5] at hg'; cases hg')
   have NPD := hid (show pv.ownBlock ≠ some d from fun e => by
     obtain ⟨_, ⟨h1, _⟩ | ⟨g', cap', cur', h1, _, hg', _⟩⟩ := hpown
     ·rw [h1] at e; cases e
     ·rw [h1] at e;have e2 : g' = d := Option.some.inj e;obtain ⟨lv', hd5, _⟩ := hD5.dc;rw [e2, hd5] at hg'; cases hg')
   have HP := hi2 hpown (aI hpxs hpv);have HFT := hid (show Fr (DevS w base d bq) w wc from DevS.trans (w1 := w1) (HD1.out.2.1.mono (fun b _ e => .inl e)) (DevS.trans (w1 := w3) (F13.mono (fun _ _ h => h.elim)) (F5.mono (fun b _ e => by
     rcases e with e | ⟨e1, c, e2⟩
     ·exact .inl e
     ·exact .inr (.inr ⟨e1, c, 196, .inl rfl, e2⟩)))))
   have hbc : base <= wc.heap.size := by omega
   have HQ5 := hi2 hq5 (aI hqn (aI hqs5 hqd));have H5 := hi2 hD5 (aI F5 hb5);clear hpown hpxs hpv hqn hqs5 hqd hD5 F5 hb5 hd3' hx3 F13 hb3 n196 hq3 hqs3;have hl1 := hlk wc.drew hq5;have hl2 := hlk (wc.alloc (.cells #[.slice ca D.size cc] 22)).drew ((heap_alloc_lt _ _ _ l5q).trans hq5);have HUP := hid hup;clear hlk hup;go_wp2
   go_region_law
     ((refine step_append_lies _ (by rfl) _ _ _ (by rfl) base 22 j0 _ 1 24 Tryz.underlying203 hj0 jz0 jz1 jz2 rfl (by omega) pv pn pxs (by rfl) ((HP.out.1.alloc _).drew)
        ⟨wc.heap.size, 0, none⟩ 1 1 [.slice ca D.size cc] (by rfl) (by rfl) (World.news_of_block (cs := #[.slice ca D.size cc]) (t := 22) (fr := (0, 0)) (han wc _)) (by simp [Value.oneCell'])
        (by omega) (by unfold maxLen; omega) (by omega) (by simp; omega) (wc.heap.size + 1) (by simp) ?_; intro g6 cap6 w6 hown6 hgrow6 hat6 hlt6;
       have HE := hid (dev_past H5.out.1 hbc HQ5.out.1 HQ5.out.2.1 (fun x hx => (HQ5.out.2.2.1 x hx).imp fun n ⟨xs, h1, h2⟩ => ⟨xs, Nat.le_succ_of_le h1, h2⟩) HQ5.out.2.2.2 HP.out.2.2 HP.out.1 HP.out.2.1 (Nat.succ_le_succ hpn) H5.out.2.2 hz.2 hown6 hgrow6 hat6);
       have hq5 : w6.heap[bq]? = some (.map (ents pl) pck) := (hgrow6.block bq (by simp; omega) (Ne.symm NPQ.out)).trans ((heap_alloc_lt _ _ _ l5q).trans HQ5.out.1);
       have hup6 := fun v => HUP.out w6 v hq5;
       have k46 : w6.cell? ⟨d, 4, none⟩ = some (.map (some bq)) := (hgrow6.cell_far ⟨d, 4, none⟩ (by simp; omega) (Ne.symm NPD.out)).trans (by simp [go_sem, k4, l5d]);
       clear hown6 hgrow6 hat6))
   all_goals
     cases dn;all_goals
      go_wp2
      go_ret;exact ⟨by rw [HDN.out]; rfl, HE.out.1, DevS.trans HFT.out HE.out.2⟩
end Go.Proofs.YtgdhaaokolfdoaaGreatDoor
