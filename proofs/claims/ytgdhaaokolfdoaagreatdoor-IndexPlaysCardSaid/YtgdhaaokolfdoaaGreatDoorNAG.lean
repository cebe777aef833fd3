/- A pack of texts. Conditions: those that each names. -/
import Derived.Test.YtgdhaaokolfdoaaGreatDoorNAF
import Derived.Test.YtgdhaaokolfdoaaGreatDoorNAE
set_option maxHeartbeats 16000000
set_option maxRecDepth 100000
set_option linter.all false
namespace Go.Sg
theorem co0 {P:Program}{f:FuncId}{args:Array Value}{w:World}{n:Nat}{v:Value}
  (h:Calls P f args (w.drewN n) fun e w'=>e = .returned v/\w.drewN n=w'):Calls P f args (w.drewN n) fun e w''=>e = .returned v/\∃ m,w''=w.drewN m:=
 h.mono fun _ _ ⟨he,hm⟩=>⟨he,n,hm.symm⟩
end Go.Sg
namespace Go.Proofs.YtgdhaaokolfdoaaGreatDoor
open Go.RowKit Go.Sg Go.Sg.Bits Go.Sg.Clk CP
namespace SF
def yX0 (B:Blk)(x:Sto)(n:Nat)(bs:List Int)(w:World)(e:Ending)(w':World):Prop:=
 ∃ err g D p,e = .returned (.tuple #[.agg #[.int .i64 n,.int .i64 x.gen],.int .i64 err])/\cc0 x.mem x.places n g/\lG0 w' x g D err /\
  ax0 w' B { x with mem:=ej0 x.mem n p g,dev:=D }/\(p.stamp=x.gen/\p.dirty=true/\ByV w' p.la p.ll p.lc bs)/\FrB B w w'
theorem nl0 {w:World}{B:Blk}{x:Sto}(h:ax0 w B x)(n:Nat)(st:Int){la:Option Addr}{ll lc:Nat}{bs:List Int}(hin:Inp w B la ll lc bs)(hl:ll<=x.room)(hp:n<x.pages)(ht:x.taken n=true)(hf:x.fresh n=true)
  (hk:∀ W p,ax0 W B x->FrB B w W->(∃ bs,ByV W p.la p.ll p.lc bs/\bs.length<=x.room)->Calls Tryz.prog 82 #[B.ptr,.int .i64 n,p.val] W (lE0 B x n p W)) :
  Calls Tryz.prog 26 #[B.ptr,.agg #[.int .i64 n,.int .i64 st],.slice la ll lc] w (yX0 B x n bs w):=by
 obtain⟨w1,hw1⟩:=eX ((w.alloc (.cells #[.int .i64 n,.int .i64 st] 35)).alloc (.cells #[.int .i64 0,.int .i64 0] 35))
 obtain⟨b0,b1,F1⟩:=ai0 hw1;obtain⟨d0,d1,dz,dl⟩:=cells2 b0;have c11:=h.sc.c11;have l:=h.sc.lt;have HI:=hid (rm0 (h.fr0 F1) n st oM oM);have H1:=hid (h.fr0 F1);have HT:=hid ht;have HF:=hid hf;have HW:=hid hw1;have HB0:=hid b0;have HB1:=hid b1;have HF1:=hid F1;have HK:=hid hk;have HIN:=hid hin;have hrm:=h.rg.1;clear hw1 b0 b1 F1 h ht hf hk hin;go_enter Tryz.func26,Tryz.ntmps26;go_wp2_with fail
 rw[HW.out];refine HI.out.mono ?_;rintro e w2 ⟨rfl,F2⟩;obtain⟨e0,e1,ez,el⟩:=cells2 (F2.heap HB1.out id);obtain⟨f0,f1,fz,fl⟩:=cells2 (F2.heap HB0.out id);have h2:=H1.out.fr0 F2;have g13:=h2.sc.c13;have g14:=h2.sc.c14;have HH:=hid (fun W (F:Fq w2 W)=>(rs0 (h2.bits.fr F id id) n hp));rw[HT.out] at HH;obtain⟨lf,cf,hfm,hfs⟩:=h2.fr.ex;have hlk:=fun (W:World) (hW:W.heap[B.fr]?=some (.map (ents lf) cf))=>bF0 (P:=Tryz.prog) (T:=153) false Tryz.underlying153 Tryz.underlying3 Tryz.xJ0 hW n
 rw[hfs.at_,HF.out] at hlk;simp only[if_true,nr9,lI9,if_false] at hlk;have HF2:=hid F2;have H2:=hid h2;clear F2 h2 hfs;go_wp2
 go_quiet ((go_at_call 88;exact co0 (HH.out _ ((Fr.refl _ _).drewN _))))
 go_wp2
 go_quiet (fail)
 go_wp2
 have e12:w2.cell? ⟨B.s,12,none⟩=some (.int .i64 x.gen):=H2.out.sc.c12;have hsl:SlB w2 la ll lc bs:=⟨(HIN.out.1.by_.fr HF1.out (fun _ _ _ _ h=>h)).fr HF2.out (fun _ _ _ _ h=>h),HIN.out.1.at_⟩;have HL:=hid hsl.by_.len;have HC:=hid (fun W (F:Fq w2 W)=>(fi0 (w:=W) ⟨hsl.by_.fr F (fun _ _ _ _ h=>h),hsl.at_⟩ oM).mono
  (fun (e:Ending) W' ⟨a',c',he,hb,F'⟩=>(⟨a',c',he,hb,F.trans F' nI⟩:∃ a' c',e=Ending.returned (.slice a' ll c')/\ByV W' a' ll c' bs/\Fq w2 W')))
 have ls:B.s<w2.heap.size:=H2.out.sc.lt;have ms:¬ w.heap.size+1=B.s:=oM
 have HBB:=hi2 (HF2.out.heap HB0.out id) (HF2.out.heap HB1.out id);clear hsl HB0 HB1 d0 d1 dz hlk hfm c11 g13 g14 fz;go_region_held3 (fun W=>W.cell? ⟨w.heap.size,0,none⟩=some (.int .i64 n)/\W.cell? ⟨B.s,12,none⟩=some (.int .i64 x.gen)) (go_keep)
  (first
   | (go_at_call 83;refine (HC.out _ (by first|exact (Fr.refl _ _).drewN _|exact ((Fr.refl _ _).drewN _).drew)).mono ?_;rintro e w4 ⟨a',c',rfl,hb4,F4⟩;have e12:=(F4.cell (p:=⟨B.s,12,none⟩) ls id).trans e12;have f0:=(F4.cell (p:=⟨w.heap.size,0,none⟩) fl id).trans f0;have e0:=(F4.cell (p:=⟨w.heap.size+1,0,none⟩) el id).trans e0;have e1:=(F4.cell (p:=⟨w.heap.size+1,1,none⟩) el id).trans e1;have HB4:=hid hb4;have HF4:=hid F4;clear hb4 F4)
   | (go_at_call 82;refine (HK.out _ ⟨x.gen,a',ll,c',true⟩ (H2.out.fr0 HF4.out) (FrB.none ((HF1.out.trans HF2.out nI).trans HF4.out nI)) ⟨bs,HB4.out,by rw[HL.out];exact hl⟩).mono ?_;rintro e w5 ⟨err,g,D,rfl,hg,ho,hS5,F5⟩;have e12:w5.cell? ⟨B.s,12,none⟩=some (.int .i64 x.gen):=hS5.sc.c12;obtain⟨f0,f1,fz,fl⟩:=cells2 (F5.heap (HF4.out.heap HBB.out.1 id) dC);have hb5:=F5.heap (HF4.out.heap HBB.out.2 id) dC;obtain⟨e0,e1,ez,el⟩:=cells2 hb5;have H5:=hi2 hg (aI ho (aI hS5 (aI F5 hb5)));clear hg ho hS5 F5 hb5))
 go_wp2
 refine bodyPost_ret (v:=.tuple #[.agg #[.int .i64 n,.int .i64 x.gen],.int .i64 err]) sR rfl ?_;obtain⟨hg,ho,hS5,F5,hb5⟩:=H5.out;have FL:Fr (fun b=>b=w.heap.size+1) w5 ((w5.setCell ⟨w.heap.size+1,0,none⟩ (.int .i64 n)).setCell ⟨w.heap.size+1,1,none⟩ (.int .i64 x.gen)):=((Fr.refl (fun b=>b=w.heap.size+1) _).setCell (a:=⟨w.heap.size+1,0,none⟩) (fun _=>rfl) _).setCell (a:=⟨w.heap.size+1,1,none⟩) (fun _=>rfl) _;refine⟨err,g,D,⟨x.gen,a',ll,c',true⟩,rfl,hg,eb0 ho FL hb5 dC,hS5.frL FL hb5 dC,⟨rfl,rfl,(HB4.out.frB F5).frL FL hb5 dC⟩,?_⟩;exact (((FrB.none ((HF1.out.trans HF2.out nI).trans HF4.out nI)).trans F5).setCell (a:=⟨w.heap.size+1,0,none⟩) (fun h=>absurd h sP) _).setCell (a:=⟨w.heap.size+1,1,none⟩) (fun h=>absurd h sP) _
end SF
end Go.Proofs.YtgdhaaokolfdoaaGreatDoor
namespace Go.Sg
open Go.RowKit
structure BSt (w0 w:World)(bx base r:Nat)(cs:Array Value)(bs:List Int)(limit:Nat):Prop where
 box:w.heap[bx]?=some (.cells cs 166)
 wt:eZ0 w base r bs limit
 f:Fq w0 w
 le:w0.heap.size<=base/\base<=w.heap.size/\bx<base
variable {w w' w0:World}{base bx limit r:Nat}{cs:Array Value}{bs:List Int}
theorem BSt.step {bs':List Int}(h:BSt w0 w bx base r cs bs limit)(hw:eZ0 w' base r bs' limit)(F:Fr (fun b=>base<=b) w w'):BSt w0 w' bx base r cs bs' limit:=
 ⟨F.heap h.box (by have:=h.le.2.2;omega),hw,h.f.trans F (fun b hb e=>by have:=h.le.1;omega),h.le.1,nT h.le.2.1 F.size,h.le.2.2⟩
theorem BSt.fr (h:BSt w0 w bx base r cs bs limit)(F:Fq w w'):BSt w0 w' bx base r cs bs limit:=
 ⟨F.heap h.box id,h.wt.fr F (fun _ _ _ h=>h),h.f.trans F nI,h.le.1,nT h.le.2.1 F.size,h.le.2.2⟩
end Go.Sg
namespace Go.Proofs.YtgdhaaokolfdoaaGreatDoor
open Go.RowKit Go.Sg
theorem oj0 (k p s:Int)(a:Option Addr)(n c:Nat)(z:Int)(h1:96<=z)(h2:z<=512)(hk:1<=k/\k<=4)(hp:0<=p/\p<=2147483647)(hs:0<=s)(hn:(n:Int)<=z-19)(w:World) :
  Calls Tryz.prog 219 #[.agg #[.int .i64 k,.int .i64 p,.int .i64 s,.slice a n c],.int .i64 z] w fun e w'=>e = .returned (.int .i64 0)/\Fq w w':=by
 obtain⟨k1,k2⟩:=hk;obtain⟨p1,p2⟩:=hp;have hd:decide (z-19<(n:Int))=false:=by simp;omega
 have hd2:¬ z-19<(n:Int):=oM
 go_enter Tryz.func219,Tryz.ntmps219;go_wp2_with (go_at_call 159;refine (mK0 z h1 h2 _).mono ?_;rintro e w' ⟨rfl,rfl⟩)
 go_quiet ((go_at_call 94;exact co0 (ki0 z h1 h2 _)))
 go_wp2
 go_ret;exact⟨rfl,((Fr.refl _ _).alloc _).drewN _⟩
variable {w:World}{bs:List Int}
theorem pP0 {W1:World}{base r limit:Nat}(h:eZ0 w base r bs limit)(hbase:base<=w.heap.size)(m:Nat)(hroom:bs.length+m<=limit)(F1:Fq (w.alloc (.cells (madeCells #[.int .u8 0] m) 5)) W1) :
  Calls Tryz.prog 237 #[.pointer (some ⟨r,0,none⟩),.slice (some ⟨w.heap.size,0,none⟩) m m] W1 fun e w'=>e = .returned (.tuple #[])/\eZ0 w' base r (bs++List.replicate m 0) limit/\Fr (fun b=>base<=b) w w':=by
 have FN:Fq w (w.alloc (.cells (madeCells #[.int .u8 0] m) 5)):=(Fr.refl _ _).alloc _;have FN1:=FN.trans F1 nI;have hz:=ByV.zeros (w:=w.alloc (.cells (madeCells #[.int .u8 0] m) 5)) (g:=w.heap.size) (n:=m) (cap:=m) (f:=(0,0)) (by rw[show (List.replicate m (Value.int .u8 0)).toArray=madeCells #[.int .u8 0] m by apply Array.toList_inj.1;rw[toList_madeCells_one]];exact han _ _);exact (su0 (h.fr FN1 (fun _ _ _ h=>h)) (nT hbase FN1.size) (hz.fr F1 (fun _ _ _ h=>h)) hroom).mono fun e w' ⟨he,hw,F⟩=>⟨he,hw,(FN1.mono nE).trans F nI⟩
theorem ne0 {la:Option Addr}{ll lc:Nat}(hb:ByV w la ll lc bs)(hby:∀ x ∈ bs,0<=x/\x<256)(size kind place stamp:Nat)(h1:96<=size)(h2:size<=512)(hk:1<=kind/\kind<=4)(hp:place<=2147483647)(hs:stamp<9223372036854775808)(hl:ll+19<=size) :
  Calls Tryz.prog 220 #[.int .i64 size,.agg #[.int .i64 kind,.int .i64 place,.int .i64 stamp,.slice la ll lc]] w fun e w'=>∃ a c,e = .returned (.tuple #[.slice a size c,.int .i64 0])/\ByV w' a size c (af0 size kind place stamp bs)/\Fq w w':=by
 obtain⟨k1,k2⟩:=hk;have hbl:=hb.len;obtain⟨m,hm⟩:∃ m:Nat,size-19-ll=m:=⟨_,rfl⟩
 have hmi:(size:Int)-19-(ll:Int)=(m:Int):=oM
 obtain⟨w1,hw1⟩:=eX (w.alloc (.cells #[.int .i64 kind,.int .i64 place,.int .i64 stamp,.slice la ll lc] 166))
 have F1:Fq w w1:=by rw[<- hw1];exact (Fr.refl _ _).alloc _
 have b1:w1.heap[w.heap.size]?=some (.cells #[.int .i64 kind,.int .i64 place,.int .i64 stamp,.slice la ll lc] 166):=by rw[<- hw1];exact han _ _
 obtain⟨c0,c1,c2,c3⟩:w1.cell? ⟨w.heap.size,0,none⟩=some (.int .i64 kind)/\w1.cell? ⟨w.heap.size,1,none⟩=some (.int .i64 place)/\w1.cell? ⟨w.heap.size,2,none⟩=some (.int .i64 stamp)/\w1.cell? ⟨w.heap.size,3,none⟩=some (.slice la ll lc):=
  ⟨by simpa using coh b1 0,by simpa using coh b1 1,by simpa using coh b1 2,by simpa using coh b1 3⟩
 have HB:=hid hb;have HBL:=hid hbl;have HM:=hid hm;have HMI:=hid hmi;have HW1:=hid hw1;have HB1:=hi2 F1 b1;have hkk:(kind:Int)<=4:=oM
 have hk1:1<=(kind:Int):=oM
 have hpp:(place:Int)<=2147483647:=oM
 have hss:(stamp:Int)<9223372036854775808:=oM
 clear hb hbl hm hmi hw1 F1 b1;go_enter Tryz.func220,Tryz.ntmps220;go_wp2_with fail
 rw[HW1.out];refine (oj0 kind place stamp la ll lc size oM oM ⟨oM,oM⟩ ⟨oM,oM⟩ oM oM _).mono ?_;rintro e w2 ⟨rfl,F2⟩;have HF2:=hid F2;have lt2:w.heap.size<w2.heap.size:=loh (F2.heap HB1.out.2 id);clear F2 c0 c1 c2 c3;go_wp2_with fail
 refine (dX0 size oM w2).mono ?_;rintro e w3 ⟨rfl,hW,F3⟩;have HS3:BSt w w3 w.heap.size w2.heap.size w2.heap.size #[.int .i64 kind,.int .i64 place,.int .i64 stamp,.slice la ll lc] [] size:=
  ⟨F3.heap (HF2.out.heap HB1.out.2 id) id,hW,(HB1.out.1.trans HF2.out nI).trans F3 nI,(HB1.out.1.trans HF2.out nI).size,F3.size,lt2⟩
 have HS3:=hid HS3;clear hW F3;obtain⟨c0,c1,c2,c3⟩:w3.cell? ⟨w.heap.size,0,none⟩=some (.int .i64 kind)/\w3.cell? ⟨w.heap.size,1,none⟩=some (.int .i64 place)/\w3.cell? ⟨w.heap.size,2,none⟩=some (.int .i64 stamp)/\w3.cell? ⟨w.heap.size,3,none⟩=some (.slice la ll lc):=
  ⟨by simpa using coh HS3.out.box 0,by simpa using coh HS3.out.box 1,by simpa using coh HS3.out.box 2,by simpa using coh HS3.out.box 3⟩
 go_wp2_with fail
 refine (iR0 HS3.out.wt HS3.out.le.2.1 kind 1 oM oM (by simp[Sg.ap0];omega)).mono ?_;rintro e w4 ⟨rfl,hW,F⟩;have HS4:=hid (HS3.out.step hW F);clear hW F c0 c1 c2 c3;obtain⟨c0,c1,c2,c3⟩:w4.cell? ⟨w.heap.size,0,none⟩=some (.int .i64 kind)/\w4.cell? ⟨w.heap.size,1,none⟩=some (.int .i64 place)/\w4.cell? ⟨w.heap.size,2,none⟩=some (.int .i64 stamp)/\w4.cell? ⟨w.heap.size,3,none⟩=some (.slice la ll lc):=
  ⟨by simpa using coh HS4.out.box 0,by simpa using coh HS4.out.box 1,by simpa using coh HS4.out.box 2,by simpa using coh HS4.out.box 3⟩
 go_wp2_with fail
 refine (iR0 HS4.out.wt HS4.out.le.2.1 ll 2 oM oM (by simp[Sg.ap0];omega)).mono ?_;rintro e w5 ⟨rfl,hW,F⟩;have HS5:=hid (HS4.out.step hW F);clear hW F c0 c1 c2 c3;obtain⟨c0,c1,c2,c3⟩:w5.cell? ⟨w.heap.size,0,none⟩=some (.int .i64 kind)/\w5.cell? ⟨w.heap.size,1,none⟩=some (.int .i64 place)/\w5.cell? ⟨w.heap.size,2,none⟩=some (.int .i64 stamp)/\w5.cell? ⟨w.heap.size,3,none⟩=some (.slice la ll lc):=
  ⟨by simpa using coh HS5.out.box 0,by simpa using coh HS5.out.box 1,by simpa using coh HS5.out.box 2,by simpa using coh HS5.out.box 3⟩
 go_wp2_with fail
 refine (iR0 HS5.out.wt HS5.out.le.2.1 place 4 oM oM (by simp[Sg.ap0];omega)).mono ?_;rintro e w6 ⟨rfl,hW,F⟩;have HS6:=hid (HS5.out.step hW F);clear hW F c0 c1 c2 c3;obtain⟨c0,c1,c2,c3⟩:w6.cell? ⟨w.heap.size,0,none⟩=some (.int .i64 kind)/\w6.cell? ⟨w.heap.size,1,none⟩=some (.int .i64 place)/\w6.cell? ⟨w.heap.size,2,none⟩=some (.int .i64 stamp)/\w6.cell? ⟨w.heap.size,3,none⟩=some (.slice la ll lc):=
  ⟨by simpa using coh HS6.out.box 0,by simpa using coh HS6.out.box 1,by simpa using coh HS6.out.box 2,by simpa using coh HS6.out.box 3⟩
 go_wp2_with fail
 refine (iR0 HS6.out.wt HS6.out.le.2.1 stamp 8 oM oM (by simp[Sg.ap0];omega)).mono ?_;rintro e w7 ⟨rfl,hW,F⟩;have HS7:=hid (HS6.out.step hW F);clear hW F c0 c1 c2 c3;obtain⟨c0,c1,c2,c3⟩:w7.cell? ⟨w.heap.size,0,none⟩=some (.int .i64 kind)/\w7.cell? ⟨w.heap.size,1,none⟩=some (.int .i64 place)/\w7.cell? ⟨w.heap.size,2,none⟩=some (.int .i64 stamp)/\w7.cell? ⟨w.heap.size,3,none⟩=some (.slice la ll lc):=
  ⟨by simpa using coh HS7.out.box 0,by simpa using coh HS7.out.box 1,by simpa using coh HS7.out.box 2,by simpa using coh HS7.out.box 3⟩
 go_wp2_with fail
 refine (su0 HS7.out.wt HS7.out.le.2.1 (HB.out.fr HS7.out.f (fun _ _ _ h=>h)) (by simp[Sg.ap0];omega)).mono ?_;rintro e w8 ⟨rfl,hW,F⟩;have HS8:=hid (HS7.out.step hW F);clear hW F c0 c1 c2 c3;obtain⟨c0,c1,c2,c3⟩:w8.cell? ⟨w.heap.size,0,none⟩=some (.int .i64 kind)/\w8.cell? ⟨w.heap.size,1,none⟩=some (.int .i64 place)/\w8.cell? ⟨w.heap.size,2,none⟩=some (.int .i64 stamp)/\w8.cell? ⟨w.heap.size,3,none⟩=some (.slice la ll lc):=
  ⟨by simpa using coh HS8.out.box 0,by simpa using coh HS8.out.box 1,by simpa using coh HS8.out.box 2,by simpa using coh HS8.out.box 3⟩
 obtain⟨i0,hi,hz0,hz1,hz2⟩:=info_parts Tryz.info5;have hmb:m<=512:=by have:=HM.out;omega
 have hmk:=fun W=>cz0 (P:=Tryz.prog) 22 5 i0 _ Tryz.underlying22 hi hz0 m (by rw[hz2];omega) oM W
 rw[hz1] at hmk;have hwm:IntKind.i64.wrap (m:Int)=(m:Int):=by rw[IntKind.wrap_i64];omega
 have hmi:=HMI.out;have lbx:=loh HS8.out.box;have HZ:=hid (fun W1 F=>pP0 (W1:=W1) HS8.out.wt HS8.out.le.2.1 m (by simp[Sg.ap0];have:=HM.out;have:=HBL.out;omega) F);clear hi hz0 hz1 hz2 c0 c1 c2;go_wp2
 go_region_held3 (fun W=>W.cell? ⟨w.heap.size,3,none⟩=some (.slice la ll lc)) (go_keep)
  (first
   | (go_at_call 94;refine (ki0 size oM oM _).mono ?_;rintro e w' ⟨rfl,rfl⟩)
   | (go_at_call 237;refine (HZ.out _ (by first|exact Fr.refl _ _|exact (Fr.refl _ _).drew)).mono ?_;rintro e w9 ⟨rfl,hW,F9⟩;have c3:w9.cell? ⟨w.heap.size,3,none⟩=some (.slice la ll lc):=(F9.cell (p:=⟨w.heap.size,3,none⟩) lbx (by have:=HS8.out.le.2.2;simp;omega)).trans c3;have HF9:=hid F9;have HW9:=hid hW;clear F9 hW))
 have HS9:=HS8.out.step HW9.out HF9.out;have hbody:[]++Sg.leB kind 1++Sg.leB ll 2++Sg.leB place 4++Sg.leB stamp 8++bs++List.replicate m 0=dj0 size kind place stamp bs:=by
  rw[dj0,HBL.out,HM.out,le9]
 rw[hbody] at HS9;have hlen:(dj0 size kind place stamp bs).length=size-4:=fM0 (by rw[HBL.out];exact hl);have hbyt:∀ x ∈ dj0 size kind place stamp bs,0<=x/\x<256:=by
  intro x hx;simp only[dj0,lb9,List.mem_replicate] at hx;rcases hx with ((((hx|hx)|hx)|hx)|hx)|hx
  ·exact bw0 _ _ x hx
  ·exact bw0 _ _ x hx
  ·exact bw0 _ _ x hx
  ·exact bw0 _ _ x hx
  ·exact hby x hx
  ·omega
 have hbm:af0 size kind place stamp bs=dj0 size kind place stamp bs++Sg.leB (tR0 (dj0 size kind place stamp bs)) 4:=rfl;have hcl:tR0 (dj0 size kind place stamp bs)<4294967296:=by
  obtain⟨l,hl⟩:=kJ0 hbyt;rw[<- hl];exact mo9 (n:=32) (gL0 l dC) dC
 obtain⟨body,hbo⟩:=eX (dj0 size kind place stamp bs)
 rw[hbo] at HS9 hlen hbyt hbm hcl;have HBM:=hid hbm;have HS9:=hid HS9;have HLEN:=hid hlen;clear hbody hlen hmk hwm hmi c3 hbm hbo;go_wp2_with fail
 refine (ft0 HS9.out.wt).mono ?_;rintro e w10 ⟨ba,bc,rfl,hb10,F10⟩;have HS10:=hid (HS9.out.fr F10);have HSUM:=hid (zg0 hb10.1 hbyt (by rw[HLEN.out];omega));clear hb10 F10;go_wp2_with fail
 refine HSUM.out.mono ?_;rintro e w11 ⟨rfl,F11⟩;have HS11:=hid (HS10.out.fr F11);clear F11;go_wp2_with fail
 refine (iR0 HS11.out.wt HS11.out.le.2.1 (tR0 body) 4 oM oM (by rw[HLEN.out];omega)).mono ?_;rintro e w12 ⟨rfl,hW,F⟩;have HS12:=hid (HS11.out.step hW F);clear hW F;go_wp2_with fail
 refine (ft0 HS12.out.wt).mono ?_;rintro e w13 ⟨ra,rc,rfl,hb13,F13⟩;have hl2:(body++Sg.leB (tR0 body) 4).length=size:=by rw[lA,HLEN.out,ap0];omega
 rw[hl2] at hb13;have HF:=hi2 hb13.1 (HS12.out.f.trans F13 nI);have HL2:=hid hl2;clear hb13 F13 hl2;go_wp2
 go_ret2;exact⟨ra,rc,by have h:=HL2.out;rw[lA] at h;rw[h];rfl,by rw[HBM.out];exact HF.out.1,HF.out.2⟩
end Go.Proofs.YtgdhaaokolfdoaaGreatDoor
namespace Go.Sg
open Go.RowKit
end Go.Sg
namespace Go.Proofs.YtgdhaaokolfdoaaGreatDoor
open Go.RowKit Go.Sg
variable {w:World}{a a':Option Addr}{c d m n:Nat}{xs:List Int}
theorem nY0 (h:ByV w a n c xs):(convert 22 9 (.slice a n c)).run Tryz.prog w = .ok (.string (strOfNums xs)) w:=by
 have hl:=h.by_.len;rcases h.at_ with⟨rfl,rfl,_⟩|⟨b,off,cs,rfl,_⟩
 ·obtain rfl:xs=[]:=lH9 hl;exact run_convert_bytes_nil (P:=Tryz.prog) w 22 5 Tryz.underlying22 Tryz.underlying5 0 c 9 Tryz.underlying9
 ·refine run_convert_bytes_arg (P:=Tryz.prog) w 22 5 Tryz.underlying22 Tryz.underlying5 b off n c xs hl (fun i hi=>?_) 9 Tryz.underlying9;have hi':i<xs.length:=by omega
  obtain⟨b',off',e,_,hc⟩:=h.by_.at_ i (xs[i]) (gE hi');cases e;rw[hc];simp[List.getD,gE hi']
theorem tJ0 {ys:List Int}(h:ByV w a n c xs)(h':ByV w a' m d ys) :
  Calls Tryz.prog 221 #[.slice a n c,.slice a' m d] w fun e w'=>e = .returned (.bool ((strOfNums xs).toList == (strOfNums ys).toList))/\w'=w:=by
 have k1:=nY0 h;have k2:=nY0 h';clear h h';go_enter Tryz.func221,Tryz.ntmps221;go_wp2
 go_ret;exact⟨rfl,rfl⟩
theorem pw0 (h:ByV w a n c xs)(h':ByV w a' m d xs) :
  Calls Tryz.prog 221 #[.slice a n c,.slice a' m d] w fun e w'=>e = .returned (.bool true)/\w'=w:=
 (tJ0 h h').mono fun e w' ⟨he,hw⟩=>⟨by rw[he];simp,hw⟩
end Go.Proofs.YtgdhaaokolfdoaaGreatDoor
namespace Go.Sg
open Go.RowKit
variable {kind place size stamp:Nat}{load:List Int}
theorem oM0 (hl:∀ x ∈ load,0<=x/\x<256):∀ x ∈ dj0 size kind place stamp load,0<=x/\x<256:=by
 intro x hx;simp only[dj0,lb9,List.mem_replicate] at hx;rcases hx with ((((h|h)|h)|h)|h)|h
 ·exact bw0 _ _ _ h
 ·exact bw0 _ _ _ h
 ·exact bw0 _ _ _ h
 ·exact bw0 _ _ _ h
 ·exact hl _ h
 ·omega
theorem ey0 (hl:∀ x ∈ load,0<=x/\x<256):∀ x ∈ af0 size kind place stamp load,0<=x/\x<256:=by
 intro x hx;rcases lb9.1 hx with h|h
 ·exact oM0 hl _ h
 ·exact bw0 _ _ _ h
def xT0 (size kind place stamp:Nat)(load:List Int):List Int:=List.replicate (size-19-load.length) 0++leB (tR0 (dj0 size kind place stamp load)) 4
theorem kK0 (size kind place stamp:Nat)(load:List Int) :
  af0 size kind place stamp load=leB kind 1++(leB load.length 2++(leB place 4++(leB stamp 8++(load++xT0 size kind place stamp load)))):=by
 simp[af0,xT0,dj0]
end Go.Sg
namespace Go.Proofs.YtgdhaaokolfdoaaGreatDoor
open Go.RowKit Go.Sg
variable {w:World}{r:Nat}{rest:List Int}
theorem ox0 {n k:Nat}(h:fj0 w r (Go.Sg.leB n k++rest) false)(hby:∀ x ∈ rest,0<=x/\x<256)(hk:k=1\/k=2\/k=4\/k=8)(hn:n<256^k) :
  Calls Tryz.prog 216 #[.pointer (some ⟨r,0,none⟩),.int .i64 k] w fun e w'=>e = .returned (.int .u64 n)/\fj0 w' r rest false/\Fr (fun b=>b=r) w w':=by
 refine (vK0 h (fun x hx=>by
  rcases lb9.1 hx with h|h
  ·exact Go.Sg.bw0 _ _ _ h
  ·exact hby _ h) k hk (by rw[lA,Go.Sg.ap0];omega)).mono fun e w' ⟨he,hr,hF⟩=>⟨?_,?_,hF⟩
 ·rw[he,me9 (ll9 (Go.Sg.ap0 _ _).symm),tL (ll9 (Go.Sg.ap0 _ _)),Go.Sg.kz0 k n hn]
 ·rw[mL9 (ll9 (Go.Sg.ap0 _ _).symm),ng9 (ll9 (Go.Sg.ap0 _ _))] at hr;exact hr
theorem zq0 {bs:List Int}(h:fj0 w r (bs++rest) false) :
  Calls Tryz.prog 217 #[.pointer (some ⟨r,0,none⟩),.int .i64 bs.length] w fun e w'=>∃ a c,e = .returned (.slice a bs.length c)/\ByV w' a bs.length c bs/\fj0 w' r rest false/\Fr (fun b=>b=r) w w':=
 (vH0 h bs.length (by rw[lA];omega)).mono fun e w' ⟨a,c,he,hb,hr,hF⟩=>⟨a,c,he,by simpa using hb,by simpa using hr,hF⟩
theorem ky0 {a:Option Addr}{size c kind place stamp:Nat}{load:List Int}(h:ByV w a size c (af0 size kind place stamp load))(hby:∀ x ∈ load,0<=x/\x<256)(h1:96<=size)(h2:size<=512)(hk:1<=kind/\kind<=4)(hp:place<=2147483647)(hs:stamp<9223372036854775808)(hl:load.length+19<=size) :
  Calls Tryz.prog 156 #[.slice a size c] w fun e w'=>∃ la lc,e = .returned (.tuple #[.agg #[.int .i64 kind,.int .i64 place,.int .i64 stamp,.slice la load.length lc],.int .i64 0])/\ByV w' la load.length lc load/\Fq w w':=by
 obtain⟨ll,hll⟩:=eX load.length
 obtain⟨tl,htl⟩:=eX (xT0 size kind place stamp load)
 have hparts:=kK0 size kind place stamp load;have hall:=ey0 (size:=size) (kind:=kind) (place:=place) (stamp:=stamp) hby
 have hlen:(af0 size kind place stamp load).length=size:=cu0 hl;rw[hparts] at hall;rw[htl,hll] at hparts hall;have hb5:∀ x ∈ load++tl,0<=x/\x<256:=fun x hx=>hall x (by simp only[lb9] at hx ⊢;simp[hx])
 have hb4:∀ x ∈ Go.Sg.leB stamp 8++(load++tl),0<=x/\x<256:=fun x hx=>hall x (by simp only[lb9] at hx ⊢;simp[hx])
 have hb3:∀ x ∈ Go.Sg.leB place 4++(Go.Sg.leB stamp 8++(load++tl)),0<=x/\x<256:=fun x hx=>hall x (by simp only[lb9] at hx ⊢;simp[hx])
 have hb2:∀ x ∈ Go.Sg.leB ll 2++(Go.Sg.leB place 4++(Go.Sg.leB stamp 8++(load++tl))),0<=x/\x<256:=fun x hx=>hall x (by simp only[lb9] at hx ⊢;simp[hx])
 obtain⟨w1,hw1⟩:=eX (w.alloc (.cells #[.int .i64 0,.int .i64 0,.int .i64 0,.slice none 0 0] 166))
 have F1:Fq w w1:=by rw[<- hw1];exact (Fr.refl _ _).alloc _
 have b1:w1.heap[w.heap.size]?=some (.cells #[.int .i64 0,.int .i64 0,.int .i64 0,.slice none 0 0] 166):=by rw[<- hw1];exact han _ _
 have hB1:=h.fr F1 (fun _ _ _ h=>h);have HNR:=hid (dY0 (w:=w1) (a:=a) (n:=size) (c:=c) (bs:=af0 size kind place stamp load) hB1.slb oM);rw[hparts] at HNR;have HA:=hi2 hB1 (aI hlen hparts);have HBS:=hi2 hb2 (aI hb3 (aI hb4 hb5));have HN:=hi2 hk (aI hp (aI hs (aI hl hll)));have HLD:=hid hby
 have HW1:=hid hw1;have HB1:=hi2 F1 b1;clear h hw1 F1 b1 hB1 hlen hparts hb2 hb3 hb4 hb5 hk hp hs hl hll hby hall htl;go_enter Tryz.func156,Tryz.ntmps156;go_wp2_with fail
 rw[HW1.out];refine (mK0 size oM oM _).mono ?_;rintro e w' ⟨rfl,rfl⟩;go_wp2_with fail
 refine HNR.out.mono ?_;rintro e w2 ⟨r,rfl,hr,hrl,F2⟩;obtain⟨w3,hw3⟩:=eX (w2.alloc (.cells #[.int .i64 0,.int .i64 0,.int .i64 0,.slice none 0 0] 166))
 have F3:Fq w2 w3:=by rw[<- hw3];exact (Fr.refl _ _).alloc _
 have hs2:=F2.size;have L3:LRs w1 w3 r w2.heap.size _ 0 0 0 (.slice none 0 0):=⟨by rw[<- hw3];exact han _ _,hr.fr F3 id (fun _ _ _ h=>h),F2.trans F3 nI,hrl,hs2⟩;have HL3:=hid L3;have HW3:=hid hw3;clear hw3 F3 L3 hr F2;go_wp2_with fail
 rw[HW3.out];refine (ox0 HL3.out.rd HBS.out.1 oM (by have:=HN.out.1;omega)).mono ?_;rintro e w4 ⟨rfl,hr4,F4⟩;have HL4:=hid (HL3.out.call F4 hr4);have x4:=coh HL4.out.x 0;have f4:=foh HL4.out.x 0;simp at x4;have kw:IntKind.wrap .i64 (kind:Int)=(kind:Int):=by have:=HN.out.1;rw[IntKind.wrap_i64];omega
 obtain⟨w5,hw5⟩:=eX (w4.setCell ⟨w2.heap.size,0,none⟩ (.int .i64 kind))
 have HL5:=HL4.out.set 0 (.int .i64 kind) rfl;rw[hw5] at HL5;have HL5:=hid HL5;have HW5:=hid hw5;clear hw5 F4 hr4;go_wp2_with fail
 rw[HW5.out];clear x4 f4 kw;have kl:IntKind.wrap .i64 (ll:Int)=(ll:Int):=by have:=HN.out.2.2.2;rw[IntKind.wrap_i64];omega
 have kp:IntKind.wrap .i64 (place:Int)=(place:Int):=by have:=HN.out.2.1;rw[IntKind.wrap_i64];omega
 have ks:IntKind.wrap .i64 (stamp:Int)=(stamp:Int):=by have:=HN.out.2.2.1;rw[IntKind.wrap_i64];omega
 refine (ox0 HL5.out.rd HBS.out.2.1 oM (by have:=HN.out.2.2.2;omega)).mono ?_;rintro e w6 ⟨rfl,hr6,F6⟩;have HL6:=hid (HL5.out.call F6 hr6);clear F6 hr6;go_wp2_with fail
 refine (ox0 HL6.out.rd HBS.out.2.2.1 oM (by have:=HN.out.2.1;omega)).mono ?_;rintro e w7 ⟨rfl,hr7,F7⟩;have HL7:=hid (HL6.out.call F7 hr7);have x7:=coh HL7.out.x 1;have f7:=foh HL7.out.x 1;simp at x7;obtain⟨w8,hw8⟩:=eX (w7.setCell ⟨w2.heap.size,1,none⟩ (.int .i64 place))
 have HL8:=HL7.out.set 1 (.int .i64 place) rfl;rw[hw8] at HL8;have HL8:=hid HL8;have HW8:=hid hw8;clear hw8 F7 hr7;go_wp2_with fail
 rw[HW8.out];clear x7 f7;refine (ox0 HL8.out.rd HBS.out.2.2.2 oM (by have:=HN.out.2.2.1;omega)).mono ?_;rintro e w9 ⟨rfl,hr9,F9⟩;have HL9:=hid (HL8.out.call F9 hr9);have x9:=coh HL9.out.x 2;have f9:=foh HL9.out.x 2;simp at x9;obtain⟨w10,hw10⟩:=eX (w9.setCell ⟨w2.heap.size,2,none⟩ (.int .i64 stamp))
 have HL10:=HL9.out.set 2 (.int .i64 stamp) rfl;rw[hw10] at HL10;have HL10:=hid HL10;have HW10:=hid hw10;clear hw10 F9 hr9;go_wp2_with fail
 rw[HW10.out];clear x9 f9 kl kp ks;have HR:=zq0 HL10.out.rd;rw[HN.out.2.2.2.2] at HR;refine HR.mono ?_;rintro e w11 ⟨la,lc,rfl,hb11,hr11,F11⟩;have HL11:=hid (HL10.out.call F11 hr11);have x11:=coh HL11.out.x 3;have f11:=foh HL11.out.x 3;simp at x11;obtain⟨w12,hw12⟩:=eX (w11.setCell ⟨w2.heap.size,3,none⟩ (.slice la ll lc))
 have HL12:=HL11.out.set 3 (.slice la ll lc) rfl;rw[hw12] at HL12;have hb12:=hb11.fr (S:=fun b=>b=w2.heap.size) (w':=w12) (by rw[<- hw12];exact (Fr.refl (fun b=>b=w2.heap.size) _).setCell (a:=⟨w2.heap.size,3,none⟩) (fun _=>rfl) _) (fun b c hc e=>by rw[e,HL11.out.x] at hc;cases hc);have HL12:=hid HL12;have HBL:=hid hb12;have HW12:=hid hw12;clear hw12 F11 hr11 hb11 hb12 HR;go_wp2_with fail
 rw[HW12.out];clear x11 f11;refine (yV0 HL12.out.rd).mono ?_;rintro e w' ⟨rfl,rfl⟩;have y0:=coh HL12.out.x 0;have y1:=coh HL12.out.x 1;have y2:=coh HL12.out.x 2;have y3:=coh HL12.out.x 3;simp at y0 y1 y2 y3;go_wp2_with fail
 refine (oj0 kind place stamp la ll lc size oM oM (by have:=HN.out.1;omega) (by have:=HN.out.2.1;omega) oM (by have:=HN.out.2.2.2;omega) _).mono ?_;rintro e w13 ⟨rfl,F13⟩;have F113:=HL12.out.f.trans F13 nI;have hx13:=F13.heap HL12.out.x id;have z0:=coh hx13 0;have z1:=coh hx13 1;have z2:=coh hx13 2;have z3:=coh hx13 3;simp at z0 z1 z2 z3;have HBO:=hid (ne0 (HBL.out.fr F13 (fun _ _ _ h=>h)) HLD.out size kind place stamp oM oM HN.out.1 HN.out.2.1 HN.out.2.2.1 (by have:=HN.out.2.2.2;omega));have HF13:=hi2 F13 (aI F113 hx13);clear F13 F113 hx13 y0 y1 y2 y3;go_wp2_with fail
 refine HBO.out.mono ?_;rintro e w14 ⟨ma,mc,rfl,hm,F14⟩;have HEQ:=hid (pw0 hm ((HA.out.1.fr HF13.out.2.1 (fun _ _ _ h=>h)).fr F14 (fun _ _ _ h=>h)));have hx14:=F14.heap HF13.out.2.2 id;have HF14:=hi2 F14 hx14;clear F14 hx14 hm z0 z1 z2 z3;go_wp2_with fail
 refine HEQ.out.mono ?_;rintro e w' ⟨rfl,rfl⟩;have y0:=coh HF14.out.2 0;have y1:=coh HF14.out.2 1;have y2:=coh HF14.out.2 2;have y3:=coh HF14.out.2 3;simp at y0 y1 y2 y3;have G:=HB1.out.1.trans (HF13.out.2.1.trans HF14.out.1 nI) nI;have hb15:=(HF13.out.2.1.trans HF14.out.1 nI).heap HB1.out.2 id;have e0:=coh hb15 0;have e1:=coh hb15 1;have e2:=coh hb15 2;have e3:=coh hb15 3;have z:=fun o=>foh hb15 o
 simp at e0 e1 e2 e3;have lt:=loh hb15;have HG:=hi2 G hb15;clear G hb15;go_wp2
 have HLN:=HN.out.2.2.2.2;have hbl:=(HBL.out.fr HF13.out.1 (fun _ _ _ h=>h)).fr HF14.out.1 (fun _ _ _ h=>h);refine bodyPost_ret (v:=.tuple #[.agg #[.int .i64 kind,.int .i64 place,.int .i64 stamp,.slice la ll lc],.int .i64 0]) sR rfl ⟨la,lc,by rw[HLN],?_,?_⟩
 ·rw[HLN];refine hbl.fr (S:=fun b=>b=w.heap.size) (((((Fr.refl (fun b=>b=w.heap.size) _).setCell (a:=⟨w.heap.size,0,none⟩) (fun _=>rfl) _).setCell (a:=⟨w.heap.size,1,none⟩) (fun _=>rfl) _).setCell (a:=⟨w.heap.size,2,none⟩) (fun _=>rfl) _).setCell (a:=⟨w.heap.size,3,none⟩) (fun _=>rfl) _) (fun b c hc e=>by rw[e,HG.out.2] at hc;cases hc)
 ·exact (((HG.out.1.an0 (nR _) _).an0 (nR _) _).an0 (nR _) _).an0 (nR _) _
