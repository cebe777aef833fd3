/- A pack of texts. Conditions: those that each names. -/
import Derived.Test.YtgdhaaokolfdoaaGreatDoorNAF
import Derived.Test.YtgdhaaokolfdoaaGreatDoorNAE
set_option maxHeartbeats 16000000
set_option maxRecDepth 100000
set_option linter.all false
namespace Go.Sg
def EJ {P:Program}{f:FuncId}{args:Array Value}{w:w9}{n:Nat}{v:Value}
  (h:Calls P f args (w.drewN n) fun e w'=>e = rT v/\w.drewN n=w'):Calls P f args (w.drewN n) fun e w''=>e = rT v/\∃ m,w''=w.drewN m:=
 h.mono fun _ _ ⟨he,hm⟩=>⟨he,n,hm.symm⟩
end Go.Sg
namespace Go.Proofs.YtgdhaaokolfdoaaGreatDoor
open Go.RowKit Go.Sg Go.Sg.Bits Go.Sg.r4 CP Tryz
namespace SF
def AA0 (B:P0)(x:T3)(n:Nat)(bs:List Int)(w:w9)(e:Ending)(w':w9):Prop:=
 ∃ err g D p,e = rT (tU #[.agg #[iI n,iI x.gen],iI err])/\nJ x.mem x.places n g/\lM w' x g D err /\
  X1 w' B { x with mem:=aQ x.mem n p g,dev:=D }/\(p.stamp=x.gen/\p.dirty=true/\T0 w' p.la p.ll p.lc bs)/\D0 B w w'
def ob0 {w:w9}{B:P0}{x:T3}(h:X1 w B x)(n:Nat)(st:Int){la:Option Addr}{ll lc:Nat}{bs:List Int}(T4:nx w B la ll lc bs)(hl:ll<=x.room)(hp:n<x.pages)(ht:x.taken n=true)(hf:x.fresh n=true)
  (hk:∀ W p,X1 W B x->D0 B w W->(∃ bs,T0 W p.la p.ll p.lc bs/\bs.length<=x.room)->cP 82 #[B.ptr,iI n,p.val] W (Xw B x n p W)) :
  cP 26 #[B.ptr,.agg #[iI n,iI st],sL la ll lc] w (AA0 B x n bs w):=by
 obtain⟨w1,I0⟩:=eX ((w.alloc (.cells #[iI n,iI st] 35)).alloc (.cells #[iI 0,iI 0] 35))
 obtain⟨b0,b1,F1⟩:=n9 I0;obtain⟨d0,d1,dz,dl⟩:=cells2 b0;have c11:=h.sc.c11;have l:=h.sc.lt;have HI:=hid (MB (h.J0 F1) n st oM oM);have H1:=hid (h.J0 F1);have HT:=hid ht;have HF:=hid hf;have HW:=hid I0;have iy:=hid b0;have I3:=hid b1;have E1:=hid F1;have HK:=hid hk;have El:=hid T4;have mV:=h.rg.1;clear I0 b0 b1 F1 h ht hf hk T4;go_enter func26,ntmps26;go_wp2_with fail
 rw[HW];refine HI.mono ?_;rintro e w2 ⟨rfl,F2⟩;obtain⟨e0,e1,ez,el⟩:=cells2 (F2.heap I3 id);obtain⟨f0,f1,fz,fl⟩:=cells2 (F2.heap iy id);have h2:=H1.J0 F2;have g13:=h2.sc.c13;have g14:=h2.sc.c14;have HH:=hid fun W (F:Fq w2 W)=>(Yz (h2.bits.fr F id id) n hp);rw[HT] at HH;obtain⟨lf,cf,qZ,U8⟩:=h2.fr.ex;have hlk:=fun (W:w9) (hW:W.heap[B.fr]?=some (.map (ents lf) cf))=>yT (P:=prog) (T:=153) false underlying153 underlying3 rV hW n
 rw[U8.at_,HF] at hlk;simp only[if_true,Qq,jI,if_false] at hlk;have Y0:=hid F2;have H2:=hid h2;clear F2 h2 U8;go_wp2
 go_quiet ((go_at_call 88;exact EJ (HH _ (fR.drewN _))))
 go_wp2
 go_quiet (fail)
 go_wp2
 have e12:w2.cell? (aA B.s 12)=some (iI x.gen):=H2.sc.c12;have X3:uN w2 la ll lc bs:=⟨(El.1.Y6.fr E1 fun _ _ _ _ h=>h).fr Y0 fun _ _ _ _ h=>h,El.1.at_⟩;have HL:=hid X3.Y6.len;have HC:=hid (fun W (F:Fq w2 W)=>(BQ (w:=W) ⟨X3.Y6.fr F fun _ _ _ _ h=>h,X3.at_⟩ oM).mono
  (fun (e:Ending) W' ⟨a',c',he,hb,F'⟩=>(⟨a',c',he,hb,F.trans F' nI⟩:∃ a' c',e=rT (sL a' ll c')/\T0 W' a' ll c' bs/\Fq w2 W')))
 have ls:B.s<w2.heap.size:=H2.sc.lt;have ms:¬ w.heap.size+1=B.s:=oM
 have yB:=hi2 (Y0.heap iy id) (Y0.heap I3 id);clear X3 iy I3 d0 d1 dz hlk qZ c11 g13 g14 fz;go_region_held3 (fun W=>W.cell? w=some (iI n)/\W.cell? (aA B.s 12)=some (iI x.gen)) (go_keep)
  (first
   | (go_at_call 83;refine (HC _ (by first|exact fR.drewN _|exact (fR.drewN _).drew)).mono ?_;rintro e w4 ⟨a',c',rfl,cX,F4⟩;have e12:=(F4.cell (p:=⟨B.s,12,none⟩) ls id).trans e12;have f0:=(F4.cell (p:=⟨w,0,none⟩) fl id).trans f0;have e0:=(F4.cell (p:=⟨w+1,0,none⟩) el id).trans e0;have e1:=(F4.cell (p:=⟨w+1,1,none⟩) el id).trans e1;have T5:=hid cX;have p8:=hid F4;clear cX F4)
   | (go_at_call 82;refine (HK _ ⟨x.gen,a',ll,c',true⟩ (H2.J0 p8.o) (D0.none ((E1.trans Y0 nI).trans p8 nI)) ⟨bs,T5.o,by rw[HL];exact hl⟩).mono ?_;rintro e w5 ⟨err,g,D,rfl,hg,ho,J5,F5⟩;have e12:w5.cell? (aA B.s 12)=some (iI x.gen):=J5.sc.c12;obtain⟨f0,f1,fz,fl⟩:=cells2 (F5.heap (p8.heap yB.1 id) dC);have A6:=F5.heap (p8.heap yB.2 id) dC;obtain⟨e0,e1,ez,el⟩:=cells2 A6;have H5:=hi2 hg (aI ho (aI J5 (aI F5 A6)));clear hg ho J5 F5 A6))
 go_wp2
 refine bodyPost_ret (v:=tU #[.agg #[iI n,iI x.gen],iI err]) sR rfl ?_;obtain⟨hg,ho,J5,F5,A6⟩:=H5.o;have FL:Fr (fun b=>b=w.heap.size+1) w5 ((w5.setCell (aA (w+1) 0) (iI n)).setCell (aA (w+1) 1) (iI x.gen)):=((Fr.refl (fun b=>b=w.heap.size+1) _).setCell (a:=⟨w+1,0,none⟩) (fun _=>rfl) _).setCell (a:=⟨w+1,1,none⟩) (fun _=>rfl) _;refine⟨err,g,D,⟨x.gen,a',ll,c',true⟩,rfl,hg,Io ho FL A6 dC,J5.M3 FL A6 dC,⟨rfl,rfl,(T5.T1 F5).M3 FL A6 dC⟩,?_⟩;exact (((D0.none ((E1.trans Y0 nI).trans p8 nI)).trans F5).setCell (a:=⟨w+1,0,none⟩) (fun h=>absurd h sP) _).setCell (a:=⟨w+1,1,none⟩) (fun h=>absurd h sP) _
end SF
end Go.Proofs.YtgdhaaokolfdoaaGreatDoor
namespace Go.Sg
open Go.RowKit
structure AC (w0 w:w9)(bx base r:Nat)(cs:Array Value)(bs:List Int)(limit:Nat):Prop where
 box:w.heap[bx]?=some (.cells cs 166)
 wt:bQ w base r bs limit
 f:Fq w0 w
 le:w0<=base/\base<=w/\bx<base
variable {w w' w0:w9}{base bx limit r:Nat}{cs:Array Value}{bs:List Int}
def AC.step {bs':List Int}(h:AC w0 w bx base r cs bs limit)(hw:bQ w' base r bs' limit)(F:Fr (fun b=>base<=b) w w'):AC w0 w' bx base r cs bs' limit:=
 ⟨F.heap h.box (by have:=h.le.2.2;omega),hw,h.f.trans F (fun b hb e=>by have:=h.le.1;omega),h.le.1,nT h.le.2.1 F.size,h.le.2.2⟩
def AC.fr (h:AC w0 w bx base r cs bs limit)(F:Fq w w'):AC w0 w' bx base r cs bs limit:=
 ⟨F.heap h.box id,h.wt.fr F fun _ _ _ h=>h,h.f.trans F nI,h.le.1,nT h.le.2.1 F.size,h.le.2.2⟩
end Go.Sg
namespace Go.Proofs.YtgdhaaokolfdoaaGreatDoor
open Go.RowKit Go.Sg Tryz
def pU0 (k p s:Int)(a:Option Addr)(n c:Nat)(z:Int)(h1:96<=z)(h2:z<=512)(hk:1<=k/\k<=4)(hp:0<=p/\p<=2147483647)(hs:0<=s)(hn:(n:Int)<=z-19)(w:w9) :
  cP 219 #[.agg #[iI k,iI p,iI s,sL a n c],iI z] w fun e w'=>e = rT (iI 0)/\Fq w w':=by
 obtain⟨k1,k2⟩:=hk;obtain⟨p1,p2⟩:=hp;have hd:decide (z-19<(n:Int))=false:=by simp;omega
 have ic:¬ z-19<(n:Int):=oM
 go_enter func219,ntmps219;go_wp2_with (go_at_call 159;refine (XD z h1 h2 _).mono ?_;rintro e w' ⟨rfl,rfl⟩)
 go_quiet ((go_at_call 94;exact EJ (PO z h1 h2 _)))
 go_wp2
 go_ret;exact⟨rfl,(fR.alloc _).drewN _⟩
variable {w:w9}{bs:List Int}
def rq0 {W1:w9}{base r limit:Nat}(h:bQ w base r bs limit)(Z0:base<=w)(m:Nat)(hroom:bs.length+m<=limit)(F1:Fq (w.alloc (.cells (madeCells #[.int .u8 0] m) 5)) W1) :
  cP 237 #[pO r,sL w m m] W1 fun e w'=>e = rT (tU #[])/\bQ w' base r (bs++List.replicate m 0) limit/\Fr (fun b=>base<=b) w w':=by
 have FN:Fq w (w.alloc (.cells (madeCells #[.int .u8 0] m) 5)):=fR.alloc _;have Rv:=FN.trans F1 nI;have hz:=T0.zeros (w:=w.alloc (.cells (madeCells #[.int .u8 0] m) 5)) (g:=w.heap.size) (n:=m) (cap:=m) (f:=(0,0)) (by rw[show (List.replicate m (Value.int .u8 0)).toArray=madeCells #[.int .u8 0] m by apply Array.toList_inj.1;rw[toList_madeCells_one]];exact han _ _);exact (ux0 (h.fr Rv fun _ _ _ h=>h) (nT Z0 Rv.size) (hz.fr F1 fun _ _ _ h=>h) hroom).mono fun e w' ⟨he,hw,F⟩=>⟨he,hw,(Rv.mono nE).trans F nI⟩
def oQ0 {la:Option Addr}{ll lc:Nat}(hb:T0 w la ll lc bs)(O2:∀ x ∈ bs,0<=x/\x<256)(size kind place stamp:Nat)(h1:96<=size)(h2:size<=512)(hk:1<=kind/\kind<=4)(hp:place<=2147483647)(hs:stamp<9223372036854775808)(hl:ll+19<=size) :
  cP 220 #[iI size,.agg #[iI kind,iI place,iI stamp,sL la ll lc]] w fun e w'=>∃ a c,e = rT (tU #[sL a size c,iI 0])/\T0 w' a size c (D6 size kind place stamp bs)/\Fq w w':=by
 obtain⟨k1,k2⟩:=hk;have J6:=hb.len;obtain⟨m,hm⟩:∃ m:Nat,size-19-ll=m:=⟨_,rfl⟩
 have fd:(size:Int)-19-(ll:Int)=(m:Int):=oM
 obtain⟨w1,I0⟩:=eX (w.alloc (.cells #[iI kind,iI place,iI stamp,sL la ll lc] 166))
 have F1:=fA I0
 have b1:=fB I0
 obtain⟨c0,c1,c2,c3⟩:w1.cell? w=some (iI kind)/\w1.cell? (aA w 1)=some (iI place)/\w1.cell? (aA w 2)=some (iI stamp)/\w1.cell? (aA w 3)=some (sL la ll lc):=
  ⟨by simpa using G0 b1 0,by simpa using G0 b1 1,by simpa using G0 b1 2,by simpa using G0 b1 3⟩
 have HB:=hid hb;have uD:=hid J6;have HM:=hid hm;have HMI:=hid fd;have R6:=hid I0;have I3:=hi2 F1 b1;have ag:(kind:Int)<=4:=oM
 have Pz:1<=(kind:Int):=oM
 have aX:(place:Int)<=2147483647:=oM
 have hss:(stamp:Int)<9223372036854775808:=oM
 clear hb J6 hm fd I0 F1 b1;go_enter func220,ntmps220;go_wp2_with fail
 rw[R6];refine (pU0 kind place stamp la ll lc size oM oM ⟨oM,oM⟩ ⟨oM,oM⟩ oM oM _).mono ?_;rintro e w2 ⟨rfl,F2⟩;have Y0:=hid F2;have lt2:w.heap.size<w2.heap.size:=M0 (F2.heap I3.2 id);clear F2 c0 c1 c2 c3;go_wp2_with fail
 refine (Tm size oM w2).mono ?_;rintro e w3 ⟨rfl,hW,F3⟩;have jS:AC w w3 w.heap.size w2.heap.size w2.heap.size #[iI kind,iI place,iI stamp,sL la ll lc] [] size:=
  ⟨F3.heap (Y0.heap I3.2 id) id,hW,(I3.1.trans Y0 nI).trans F3 nI,(I3.1.trans Y0 nI).size,F3.size,lt2⟩
 have jS:=hid jS;clear hW F3;obtain⟨c0,c1,c2,c3⟩:w3.cell? w=some (iI kind)/\w3.cell? (aA w 1)=some (iI place)/\w3.cell? (aA w 2)=some (iI stamp)/\w3.cell? (aA w 3)=some (sL la ll lc):=
  ⟨by simpa using G0 jS.box 0,by simpa using G0 jS.box 1,by simpa using G0 jS.box 2,by simpa using G0 jS.box 3⟩
 go_wp2_with fail
 refine (LV jS.wt jS.le.2.1 kind 1 oM oM (by simp[Sg.e8];omega)).mono ?_;rintro e w4 ⟨rfl,hW,F⟩;have Bj:=hid (jS.step hW F);clear hW F c0 c1 c2 c3;obtain⟨c0,c1,c2,c3⟩:w4.cell? w=some (iI kind)/\w4.cell? (aA w 1)=some (iI place)/\w4.cell? (aA w 2)=some (iI stamp)/\w4.cell? (aA w 3)=some (sL la ll lc):=
  ⟨by simpa using G0 Bj.box 0,by simpa using G0 Bj.box 1,by simpa using G0 Bj.box 2,by simpa using G0 Bj.box 3⟩
 go_wp2_with fail
 refine (LV Bj.wt Bj.le.2.1 ll 2 oM oM (by simp[Sg.e8];omega)).mono ?_;rintro e w5 ⟨rfl,hW,F⟩;have Bk:=hid (Bj.step hW F);clear hW F c0 c1 c2 c3;obtain⟨c0,c1,c2,c3⟩:w5.cell? w=some (iI kind)/\w5.cell? (aA w 1)=some (iI place)/\w5.cell? (aA w 2)=some (iI stamp)/\w5.cell? (aA w 3)=some (sL la ll lc):=
  ⟨by simpa using G0 Bk.box 0,by simpa using G0 Bk.box 1,by simpa using G0 Bk.box 2,by simpa using G0 Bk.box 3⟩
 go_wp2_with fail
 refine (LV Bk.wt Bk.le.2.1 place 4 oM oM (by simp[Sg.e8];omega)).mono ?_;rintro e w6 ⟨rfl,hW,F⟩;have oT:=hid (Bk.step hW F);clear hW F c0 c1 c2 c3;obtain⟨c0,c1,c2,c3⟩:w6.cell? w=some (iI kind)/\w6.cell? (aA w 1)=some (iI place)/\w6.cell? (aA w 2)=some (iI stamp)/\w6.cell? (aA w 3)=some (sL la ll lc):=
  ⟨by simpa using G0 oT.box 0,by simpa using G0 oT.box 1,by simpa using G0 oT.box 2,by simpa using G0 oT.box 3⟩
 go_wp2_with fail
 refine (LV oT.wt oT.le.2.1 stamp 8 oM oM (by simp[Sg.e8];omega)).mono ?_;rintro e w7 ⟨rfl,hW,F⟩;have rS:=hid (oT.step hW F);clear hW F c0 c1 c2 c3;obtain⟨c0,c1,c2,c3⟩:w7.cell? w=some (iI kind)/\w7.cell? (aA w 1)=some (iI place)/\w7.cell? (aA w 2)=some (iI stamp)/\w7.cell? (aA w 3)=some (sL la ll lc):=
  ⟨by simpa using G0 rS.box 0,by simpa using G0 rS.box 1,by simpa using G0 rS.box 2,by simpa using G0 rS.box 3⟩
 go_wp2_with fail
 refine (ux0 rS.wt rS.le.2.1 (HB.fr rS.f fun _ _ _ h=>h) (by simp[Sg.e8];omega)).mono ?_;rintro e w8 ⟨rfl,hW,F⟩;have wC:=hid (rS.step hW F);clear hW F c0 c1 c2 c3;obtain⟨c0,c1,c2,c3⟩:w8.cell? w=some (iI kind)/\w8.cell? (aA w 1)=some (iI place)/\w8.cell? (aA w 2)=some (iI stamp)/\w8.cell? (aA w 3)=some (sL la ll lc):=
  ⟨by simpa using G0 wC.box 0,by simpa using G0 wC.box 1,by simpa using G0 wC.box 2,by simpa using G0 wC.box 3⟩
 obtain⟨i0,hi,J1,M1,O1⟩:=info_parts B3;have hmb:m<=512:=by have:=HM.o;omega
 have jb:=fun W=>Ez (P:=prog) 22 5 i0 _ underlying22 hi J1 m (by rw[O1];omega) oM W
 rw[M1] at jb;have Wk:IntKind.i64.wrap (m:Int)=(m:Int):=by rw[IntKind.wrap_i64];omega
 have fd:=HMI.o;have lbx:=M0 wC.box;have HZ:=hid (fun W1 F=>rq0 (W1:=W1) wC.wt wC.le.2.1 m (by simp[Sg.e8];have:=HM.o;have:=uD.o;omega) F);clear hi J1 M1 O1 c0 c1 c2;go_wp2
 go_region_held3 (fun W=>W.cell? (aA w 3)=some (sL la ll lc)) (go_keep)
  (first
   | (go_at_call 94;refine (PO size oM oM _).mono ?_;rintro e w' ⟨rfl,rfl⟩)
   | (go_at_call 237;refine (HZ _ (by first|exact fR|exact fR.drew)).mono ?_;rintro e w9 ⟨rfl,hW,F9⟩;have c3:w9.cell? (aA w 3)=some (sL la ll lc):=(F9.cell (p:=⟨w,3,none⟩) lbx (by have:=wC.le.2.2;simp;omega)).trans c3;have uH:=hid F9;have ST:=hid hW;clear F9 hW))
 have yM:=wC.step ST uH.o;have au:[]++Sg.leB kind 1++Sg.leB ll 2++Sg.leB place 4++Sg.leB stamp 8++bs++List.replicate m 0=ju size kind place stamp bs:=by
  rw[ju,uD,HM,C7]
 rw[au] at yM;have hlen:(ju size kind place stamp bs).length=size-4:=gn0 (by rw[uD];exact hl);have CG:∀ x ∈ ju size kind place stamp bs,0<=x/\x<256:=by
  intro x hx;simp only[ju,X5,List.mem_replicate] at hx;rcases hx with ((((hx|hx)|hx)|hx)|hx)|hx
  .exact kV _ _ x hx
  .exact kV _ _ x hx
  .exact kV _ _ x hx
  .exact kV _ _ x hx
  .exact O2 x hx
  .omega
 have xo:D6 size kind place stamp bs=ju size kind place stamp bs++Sg.leB (yr (ju size kind place stamp bs)) 4:=rfl;have B6:yr (ju size kind place stamp bs)<4294967296:=by
  obtain⟨l,hl⟩:=lS0 CG;rw[<- hl];exact DP (n:=32) (WH l dC) dC
 obtain⟨body,cC⟩:=eX (ju size kind place stamp bs)
 rw[cC] at yM hlen CG xo B6;have HBM:=hid xo;have yM:=hid yM;have eK:=hid hlen;clear au hlen jb Wk fd c3 xo cC;go_wp2_with fail
 refine (On yM.wt).mono ?_;rintro e w10 ⟨ba,bc,rfl,sU,F10⟩;have Bi:=hid (yM.fr F10);have SH:=hid (BG0 sU.1 CG (by rw[eK];omega));clear sU F10;go_wp2_with fail
 refine SH.mono ?_;rintro e Au ⟨rfl,F11⟩;have rR:=hid (Bi.fr F11);clear F11;go_wp2_with fail
 refine (LV rR.wt rR.le.2.1 (yr body) 4 oM oM (by rw[eK];omega)).mono ?_;rintro e w12 ⟨rfl,hW,F⟩;have He:=hid (rR.step hW F);clear hW F;go_wp2_with fail
 refine (On He.wt).mono ?_;rintro e w13 ⟨ra,rc,rfl,Cq,J7⟩;have A8:(body++Sg.leB (yr body) 4).length=size:=by rw[lA,eK,e8];omega
 rw[A8] at Cq;have HF:=hi2 Cq.1 (He.f.trans J7 nI);have wj:=hid A8;clear Cq J7 A8;go_wp2
 go_ret2;exact⟨ra,rc,by have h:=wj.o;rw[lA] at h;rw[h];rfl,by rw[HBM];exact HF.1,HF.2⟩
end Go.Proofs.YtgdhaaokolfdoaaGreatDoor
namespace Go.Sg
open Go.RowKit
end Go.Sg
namespace Go.Proofs.YtgdhaaokolfdoaaGreatDoor
open Go.RowKit Go.Sg Tryz
variable {w:w9}{a a':Option Addr}{c d m n:Nat}{xs:List Int}
def uU (h:T0 w a n c xs):(convert 22 9 (sL a n c)).run prog w = .ok (.string (strOfNums xs)) w:=by
 have hl:=h.Y6.len;rcases h.at_ with⟨rfl,rfl,_⟩|⟨b,off,cs,rfl,_⟩
 .obtain rfl:xs=[]:=vH hl;exact run_convert_bytes_nil (P:=prog) w 22 5 underlying22 underlying5 0 c 9 underlying9
 .refine run_convert_bytes_arg (P:=prog) w 22 5 underlying22 underlying5 b off n c xs hl (fun i hi=>?_) 9 underlying9;have vr:i<xs.length:=by omega
  obtain⟨b',off',e,_,hc⟩:=h.Y6.at_ i (xs[i]) (gE vr);cases e;rw[hc];simp[List.getD,gE vr]
def vN0 {ys:List Int}(h:T0 w a n c xs)(h':T0 w a' m d ys) :
  cP 221 #[sL a n c,sL a' m d] w fun e w'=>e = rT (bO ((strOfNums xs).toList == (strOfNums ys).toList))/\w'=w:=by
 have k1:=uU h;have k2:=uU h';clear h h';go_enter func221,ntmps221;go_wp2
 go_ret;exact⟨rfl,rfl⟩
def qY0 (h:T0 w a n c xs)(h':T0 w a' m d xs) :
  cP 221 #[sL a n c,sL a' m d] w fun e w'=>e = rT (bO true)/\w'=w:=
 (vN0 h h').mono fun e w' ⟨he,hw⟩=>⟨by rw[he];simp,hw⟩
end Go.Proofs.YtgdhaaokolfdoaaGreatDoor
namespace Go.Sg
open Go.RowKit
variable {kind place size stamp:Nat}{load:List Int}
def qs0 (hl:∀ x ∈ load,0<=x/\x<256):∀ x ∈ ju size kind place stamp load,0<=x/\x<256:=by
 intro x hx;simp only[ju,X5,List.mem_replicate] at hx;rcases hx with ((((h|h)|h)|h)|h)|h
 .exact kV _ _ _ h
 .exact kV _ _ _ h
 .exact kV _ _ _ h
 .exact kV _ _ _ h
 .exact hl _ h
 .omega
def Tz (hl:∀ x ∈ load,0<=x/\x<256):∀ x ∈ D6 size kind place stamp load,0<=x/\x<256:=by
 intro x hx;rcases X5.1 hx with h|h
 .exact qs0 hl _ h
 .exact kV _ _ _ h
def YI (size kind place stamp:Nat)(load:List Int):List Int:=List.replicate (size-19-load.length) 0++leB (yr (ju size kind place stamp load)) 4
def lT0 (size kind place stamp:Nat)(load:List Int) :
  D6 size kind place stamp load=leB kind 1++(leB load.length 2++(leB place 4++(leB stamp 8++(load++YI size kind place stamp load)))):=by
 simp[D6,YI,ju]
end Go.Sg
namespace Go.Proofs.YtgdhaaokolfdoaaGreatDoor
open Go.RowKit Go.Sg Tryz
variable {w:w9}{r:Nat}{rest:List Int}
def QJ {n k:Nat}(h:cA w r (Go.Sg.leB n k++rest) false)(O2:∀ x ∈ rest,0<=x/\x<256)(hk:k=1\/k=2\/k=4\/k=8)(hn:n<256^k) :
  cP 216 #[pO r,iI k] w fun e w'=>e = rT (iU n)/\cA w' r rest false/\Fr (fun b=>b=r) w w':=by
 refine (yw0 h (fun x hx=>by
  rcases X5.1 hx with h|h
  .exact Go.Sg.kV _ _ _ h
  .exact O2 _ h) k hk (by rw[lA,Go.Sg.e8];omega)).mono fun e w' ⟨he,hr,hF⟩=>⟨?_,?_,hF⟩
 .rw[he,FK (N6 (Go.Sg.e8 _ _).symm),tL (N6 (Go.Sg.e8 _ _)),Go.Sg.PU k n hn]
 .rw[Xx (N6 (Go.Sg.e8 _ _).symm),XK (N6 (Go.Sg.e8 _ _))] at hr;exact hr
def BS0 {bs:List Int}(h:cA w r (bs++rest) false) :
  cP 217 #[pO r,iI bs.length] w fun e w'=>∃ a c,e = rT (sL a bs.length c)/\T0 w' a bs.length c bs/\cA w' r rest false/\Fr (fun b=>b=r) w w':=
 (yr0 h bs.length (by rw[lA];omega)).mono fun e w' ⟨a,c,he,hb,hr,hF⟩=>⟨a,c,he,by simpa using hb,by simpa using hr,hF⟩
def kS0 {a:Option Addr}{size c kind place stamp:Nat}{load:List Int}(h:T0 w a size c (D6 size kind place stamp load))(O2:∀ x ∈ load,0<=x/\x<256)(h1:96<=size)(h2:size<=512)(hk:1<=kind/\kind<=4)(hp:place<=2147483647)(hs:stamp<9223372036854775808)(hl:load.length+19<=size) :
  cP 156 #[sL a size c] w fun e w'=>∃ la lc,e = rT (tU #[.agg #[iI kind,iI place,iI stamp,sL la load.length lc],iI 0])/\T0 w' la load.length lc load/\Fq w w':=by
 obtain⟨ll,N8⟩:=eX load.length
 obtain⟨tl,r9⟩:=eX (YI size kind place stamp load)
 have fe:=lT0 size kind place stamp load;have Y2:=Tz (size:=size) (kind:=kind) (place:=place) (stamp:=stamp) O2
 have hlen:(D6 size kind place stamp load).length=size:=NQ hl;rw[fe] at Y2;rw[r9,N8] at fe Y2;have A6:∀ x ∈ load++tl,0<=x/\x<256:=fun x hx=>Y2 x (by simp only[X5] at hx ⊢;simp[hx])
 have cX:∀ x ∈ Go.Sg.leB stamp 8++(load++tl),0<=x/\x<256:=fun x hx=>Y2 x (by simp only[X5] at hx ⊢;simp[hx])
 have P5:∀ x ∈ Go.Sg.leB place 4++(Go.Sg.leB stamp 8++(load++tl)),0<=x/\x<256:=fun x hx=>Y2 x (by simp only[X5] at hx ⊢;simp[hx])
 have L4:∀ x ∈ Go.Sg.leB ll 2++(Go.Sg.leB place 4++(Go.Sg.leB stamp 8++(load++tl))),0<=x/\x<256:=fun x hx=>Y2 x (by simp only[X5] at hx ⊢;simp[hx])
 obtain⟨w1,I0⟩:=eX (w.alloc (.cells #[iI 0,iI 0,iI 0,sL none 0 0] 166))
 have F1:=fA I0
 have b1:=fB I0
 have TV:=h.fr F1 fun _ _ _ h=>h;have HNR:=hid (Tn (w:=w1) (a:=a) (n:=size) (c:=c) (bs:=D6 size kind place stamp load) TV.slb oM);rw[fe] at HNR;have HA:=hi2 TV (aI hlen fe);have AM:=hi2 L4 (aI P5 (aI cX A6));have HN:=hi2 hk (aI hp (aI hs (aI hl N8)));have HLD:=hid O2
 have R6:=hid I0;have I3:=hi2 F1 b1;clear h I0 F1 b1 TV hlen fe L4 P5 cX A6 hk hp hs hl N8 O2 Y2 r9;go_enter func156,ntmps156;go_wp2_with fail
 rw[R6];refine (XD size oM oM _).mono ?_;rintro e w' ⟨rfl,rfl⟩;go_wp2_with fail
 refine HNR.mono ?_;rintro e w2 ⟨r,rfl,hr,Dr,F2⟩;obtain⟨w3,K7⟩:=eX (w2.alloc (.cells #[iI 0,iI 0,iI 0,sL none 0 0] 166))
 have F3:=fA K7
 have fP:=F2.size;have L3:wH w1 w3 r w2.heap.size _ 0 0 0 (sL none 0 0):=⟨fB K7,hr.fr F3 id fun _ _ _ h=>h,F2.trans F3 nI,Dr,fP⟩;have Em:=hid L3;have fx:=hid K7;clear K7 F3 L3 hr F2;go_wp2_with fail
 rw[fx];refine (QJ Em.rd AM.1 oM (by have:=HN.1;omega)).mono ?_;rintro e w4 ⟨rfl,KR,F4⟩;have GO:=hid (Em.call F4 KR);have x4:=G0 GO.x 0;have f4:=X2 GO.x 0;simp at x4;have kw:IntKind.wrap .i64 (kind:Int)=(kind:Int):=by have:=HN.1;rw[IntKind.wrap_i64];omega
 obtain⟨w5,kI⟩:=eX (w4.setCell w2 (iI kind))
 have GP:=GO.set 0 (iI kind) rfl;rw[kI] at GP;have GP:=hid GP;have HW5:=hid kI;clear kI F4 KR;go_wp2_with fail
 rw[HW5];clear x4 f4 kw;have kl:IntKind.wrap .i64 (ll:Int)=(ll:Int):=by have:=HN.2.2.2;rw[IntKind.wrap_i64];omega
 have kp:IntKind.wrap .i64 (place:Int)=(place:Int):=by have:=HN.2.1;rw[IntKind.wrap_i64];omega
 have ks:IntKind.wrap .i64 (stamp:Int)=(stamp:Int):=by have:=HN.2.2.1;rw[IntKind.wrap_i64];omega
 refine (QJ GP.rd AM.2.1 oM (by have:=HN.2.2.2;omega)).mono ?_;rintro e w6 ⟨rfl,P8,F6⟩;have Nl:=hid (GP.call F6 P8);clear F6 P8;go_wp2_with fail
 refine (QJ Nl.rd AM.2.2.1 oM (by have:=HN.2.1;omega)).mono ?_;rintro e w7 ⟨rfl,KT,F7⟩;have wl:=hid (Nl.call F7 KT);have x7:=G0 wl.x 1;have f7:=X2 wl.x 1;simp at x7;obtain⟨w8,pW⟩:=eX (w7.setCell (aA w2 1) (iI place))
 have AZ:=wl.set 1 (iI place) rfl;rw[pW] at AZ;have AZ:=hid AZ;have HW8:=hid pW;clear pW F7 KT;go_wp2_with fail
 rw[HW8];clear x7 f7;refine (QJ AZ.rd AM.2.2.2 oM (by have:=HN.2.2.1;omega)).mono ?_;rintro e w9 ⟨rfl,lJ,F9⟩;have Sk:=hid (AZ.call F9 lJ);have x9:=G0 Sk.x 2;have f9:=X2 Sk.x 2;simp at x9;obtain⟨w10,ji⟩:=eX (w9.setCell (aA w2 2) (iI stamp))
 have rK:=Sk.set 2 (iI stamp) rfl;rw[ji] at rK;have rK:=hid rK;have SQ:=hid ji;clear ji F9 lJ;go_wp2_with fail
 rw[SQ];clear x9 f9 kl kp ks;have HR:=BS0 rK.rd;rw[HN.2.2.2.2] at HR;refine HR.mono ?_;rintro e Au ⟨la,lc,rfl,Jw,KQ,F11⟩;have wi:=hid (rK.call F11 KQ);have x11:=G0 wi.x 3;have f11:=X2 wi.x 3;simp at x11;obtain⟨w12,xN⟩:=eX (Au.setCell (aA w2 3) (sL la ll lc))
 have fW:=wi.set 3 (sL la ll lc) rfl;rw[xN] at fW;have iQ:=Jw.fr (S:=fun b=>b=w2.heap.size) (w':=w12) (by rw[<- xN];exact (Fr.refl (fun b=>b=w2.heap.size) _).setCell (a:=⟨w2,3,none⟩) (fun _=>rfl) _) (fun b c hc e=>by rw[e,wi.x] at hc;cases hc);have fW:=hid fW;have uD:=hid iQ;have SR:=hid xN;clear xN F11 KQ Jw iQ HR;go_wp2_with fail
 rw[SR];clear x11 f11;refine (Bw0 fW.rd).mono ?_;rintro e w' ⟨rfl,rfl⟩;have y0:=G0 fW.x 0;have y1:=G0 fW.x 1;have y2:=G0 fW.x 2;have y3:=G0 fW.x 3;simp at y0 y1 y2 y3;go_wp2_with fail
 refine (pU0 kind place stamp la ll lc size oM oM (by have:=HN.1;omega) (by have:=HN.2.1;omega) oM (by have:=HN.2.2.2;omega) _).mono ?_;rintro e w13 ⟨rfl,J7⟩;have Gp:=fW.f.trans J7 nI;have pX:=J7.heap fW.x id;have z0:=G0 pX 0;have z1:=G0 pX 1;have z2:=G0 pX 2;have z3:=G0 pX 3;simp at z0 z1 z2 z3;have HBO:=hid (oQ0 (uD.fr J7 fun _ _ _ h=>h) HLD size kind place stamp oM oM HN.1 HN.2.1 HN.2.2.1 (by have:=HN.2.2.2;omega));have rG:=hi2 J7 (aI Gp pX);clear J7 Gp pX y0 y1 y2 y3;go_wp2_with fail
 refine HBO.mono ?_;rintro e w14 ⟨ma,mc,rfl,hm,qr⟩;have HEQ:=hid (qY0 hm ((HA.1.fr rG.2.1 fun _ _ _ h=>h).fr qr fun _ _ _ h=>h));have Lw:=qr.heap rG.2.2 id;have lV:=hi2 qr Lw;clear qr Lw hm z0 z1 z2 z3;go_wp2_with fail
 refine HEQ.mono ?_;rintro e w' ⟨rfl,rfl⟩;have y0:=G0 lV.2 0;have y1:=G0 lV.2 1;have y2:=G0 lV.2 2;have y3:=G0 lV.2 3;simp at y0 y1 y2 y3;have G:=I3.1.trans (rG.2.1.trans lV.1 nI) nI;have ki:=(rG.2.1.trans lV.1 nI).heap I3.2 id;have e0:=G0 ki 0;have e1:=G0 ki 1;have e2:=G0 ki 2;have e3:=G0 ki 3;have z:=fun o=>X2 ki o
 simp at e0 e1 e2 e3;have lt:=M0 ki;have HG:=hi2 G ki;clear G ki;go_wp2
 have En:=HN.2.2.2.2;have J6:=(uD.fr rG.1 fun _ _ _ h=>h).fr lV.1 fun _ _ _ h=>h;refine bodyPost_ret (v:=tU #[.agg #[iI kind,iI place,iI stamp,sL la ll lc],iI 0]) sR rfl ⟨la,lc,by rw[En],?_,?_⟩
 .rw[En];refine J6.fr (S:=fun b=>b=w.heap.size) (((((Fr.refl (fun b=>b=w.heap.size) _).setCell (a:=⟨w,0,none⟩) (fun _=>rfl) _).setCell (a:=⟨w,1,none⟩) (fun _=>rfl) _).setCell (a:=⟨w,2,none⟩) (fun _=>rfl) _).setCell (a:=⟨w,3,none⟩) (fun _=>rfl) _) (fun b c hc e=>by rw[e,HG.2] at hc;cases hc)
 .exact (((HG.1.U2 (nR _) _).U2 (nR _) _).U2 (nR _) _).U2 (nR _) _
def mq0 {base d bf bq:Nat}{D:Dev}(h:Q4 w base d bf bq D)(A4:D.down=false)(hlen:∀ y ∈ D.loose,y.2.length=D.size)(B5:D.loose.length<=100000)(at_:Nat)(G4:at_<D.C0)
  (kind place stamp:Nat) (load:List Int) (hz:D.sec at_=D6 D.size kind place stamp load) (O2:∀ x ∈ load,0<=x/\x<256) (hk:1<=kind/\kind<=4) (hp:place<=2147483647) (hs:stamp<9223372036854775808) (hl:load.length+19<=D.size) :
  cP 87 #[pO d,iI at_,iI kind,iI place] w fun e w'=>∃ la lc,e = rT (tU #[.agg #[iI kind,iI place,iI stamp,sL la load.length lc],iI 0])/\T0 w' la load.length lc load/\Fq w w':=by
 obtain⟨w1,I0⟩:=eX (w.alloc (.cells #[iI 0,iI 0,iI 0,sL none 0 0] 166))
 have F1:=fA I0
 have b1:=fB I0
 have HR:=hid (qh0 (h.fr F1 id id id fun _ _ _ _ _ h=>h) A4 hlen B5 at_ G4);have hr:=h.rg.2;have HZ:=hid hz;have R6:=hid I0;have I3:=hi2 F1 b1;have HN:=hi2 O2 (aI hk (aI hp (aI hs hl)));clear h I0 F1 b1 hz A4 hlen B5 O2 hk hp hs hl;go_enter func87,ntmps87;go_wp2_with fail
 rw[R6];refine HR.mono ?_;rintro e w2 ⟨a,c,rfl,hb,F2⟩;rw[HZ] at hb;have HLR:=hid (kS0 hb HN.1 oM oM HN.2.1 HN.2.2.1 HN.2.2.2.1 HN.2.2.2.2);have Y0:=hid F2;clear hb F2;go_wp2_with fail
 refine HLR.mono ?_;rintro e w3 ⟨la,lc,rfl,P5,F3⟩;have J7:=Y0.trans F3 nI;have uD:=hid P5;have dQ:=J7.heap I3.2 id;have e0:=G0 dQ 0;have e1:=G0 dQ 1;have e2:=G0 dQ 2;have e3:=G0 dQ 3;have z:=fun o=>X2 dQ o
 simp at e0 e1 e2 e3;have lt:=M0 dQ;have HG:=hi2 (I3.1.trans J7 nI) dQ;have uD:=hid P5;have ne1:¬ w3.heap.size=w.heap.size:=oM
 have ne2:¬ w.heap.size=w3.heap.size:=oM
 clear dQ J7 F3 P5;go_wp2
 refine bodyPost_ret (v:=tU #[.agg #[iI kind,iI place,iI stamp,sL la load.length lc],iI 0]) sR rfl ⟨la,lc,rfl,?_,?_⟩
 .exact (uD.fr (S:=fun b=>b=w.heap.size) (((((Fr.refl (fun b=>b=w.heap.size) _).setCell (a:=⟨w,0,none⟩) (fun _=>rfl) _).setCell (a:=⟨w,1,none⟩) (fun _=>rfl) _).setCell (a:=⟨w,2,none⟩) (fun _=>rfl) _).setCell (a:=⟨w,3,none⟩) (fun _=>rfl) _) fun b c hc e=>by rw[e,HG.2] at hc;cases hc).fr ((Fr.refl (fun _=>False) _).alloc _) fun _ _ _ h=>h
 .exact ((((HG.1.U2 (nR _) _).U2 (nR _) _).U2 (nR _) _).U2 (nR _) _).alloc _
