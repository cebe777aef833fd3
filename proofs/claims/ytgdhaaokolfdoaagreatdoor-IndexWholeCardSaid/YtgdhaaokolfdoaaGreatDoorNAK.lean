/- A pack of texts. Conditions: those that each names. -/
import Derived.Test.YtgdhaaokolfdoaaGreatDoorNAJ
set_option maxHeartbeats 16000000
set_option linter.all false
namespace Go.Proofs.YtgdhaaokolfdoaaGreatDoor
open Go.RowKit Go.Sg Go.Sg.Bits Go.Sg.r4 CP Tryz
def zf.T1 {w w':w9}{B:P0}{x:T3}(h:zf w x)(F:D0 B w w'):zf w' x:=fun k q hq =>
 ⟨(h k q hq).1,(h k q hq).2.1,(h k q hq).2.2.elim fun bs ⟨hb,hl,hy⟩=>⟨bs,hb.T1 F,hl,hy⟩⟩
def mp0 {w:w9}{base d bf bq:Nat}{D:Dev}(h:Q4 w base d bf bq D)(A4:D.down=false)(hlen:∀ y ∈ D.loose,y.2.length=D.size)(B5:D.loose.length<=100000)(at_:Nat)(G4:at_<D.C0)
  (place stamp:Nat) (load:List Int) (hz:D.sec at_=D6 D.size 2 place stamp load) (O2:∀ x ∈ load,0<=x/\x<256) (hp:place<=2147483647) (hs:stamp<9223372036854775808) (hl:load.length+19<=D.size) :
  cP 87 #[pO d,iI at_,iI 2,iI place] w fun e w'=>∃ la lc,e = rT (tU #[.agg #[iI 2,iI place,iI stamp,sL la load.length lc],iI 0])/\T0 w' la load.length lc load/\Fq w w':=
 mq0 h A4 hlen B5 at_ G4 2 place stamp load hz O2 oM hp hs hl
def yc0 (B:P0)(x:T3)(p stamp:Nat)(st:Int)(load:List Int)(w:w9)(e:Ending)(w':w9):Prop:=
 ∃ err g D la lc,nJ x.mem x.places p g/\lM w' x g D err/\T0 w' la load.length lc load/\X1 w' B { x with mem:=aQ x.mem p ⟨stamp,la,load.length,lc,false⟩ g,dev:=D }/\D0 B w w' /\
  (err≠0->e = rT (tU #[sL none 0 0,iI err]))/\(err=0->(stamp:Int)≠st->e = rT (tU #[sL none 0 0,iI 5])) /\
  (err=0->(stamp:Int)=st->∃ a c,e = rT (tU #[sL a load.length c,iI 0])/\T0 w' a load.length c load)
def AJ0 (B:P0)(x:T3)(p:Nat)(st:Int)(w:w9)(v v':Value)(W:w9):Prop:=
 ∃ b,(v = pO (aP b 0)/\v' = bO false)/\(w.heap.size<b/\W.heap[b]?=some (.cells #[iI 0,sL none 0 0,bO false] 162))/\W.heap[w.heap.size]?=some (.cells #[iI p,iI st] 35)/\X1 W B x/\D0 B w W
def AI0 (B:P0)(x:T3)(p:Nat)(st:Int)(b stamp:Nat)(load:List Int)(w:w9)(v v':Value)(W:w9):Prop:=
 ∃ b' la lc,(v = pO (aP b' 0)/\v' = iI 0)/\(W.heap[b']?=some (.cells #[iI 2,iI p,iI stamp,sL la load.length lc] 166)/\W.heap[b]?=some (.cells #[iI 0,sL none 0 0,bO false] 162))/\W.heap[w.heap.size]?=some (.cells #[iI p,iI st] 35)/\X1 W B x/\D0 B w W/\T0 W la load.length lc load
namespace SF
def wM0 {w:w9}{B:P0}{x:T3}(h:X1 w B x)(hg:zf w x)(hu:YH x.dev)(p stamp:Nat)(st:Int)(load:List Int)(h1:(p:Int)<x.pages)(hq:x.mem p=none)
  (hlen:∀ y ∈ x.dev.loose,y.2.length=x.dev.size) (hz:x.dev.sec (x.first+p)=D6 x.dev.size 2 p stamp load) (O2:∀ b ∈ load,0<=b/\b<256) (hp:p<=2147483647) (hs:stamp<9223372036854775808) (hl:load.length+19<=x.dev.size) (hroom:load.length<=x.room) :
  cP 24 #[B.ptr,.agg #[iI p,iI st]] w (yc0 B x p stamp st load w):=by
 obtain⟨w1,I0⟩:=eX (w.alloc (.cells #[iI p,iI st] 35))
 have F1:=fA I0
 have b1:=fB I0
 obtain⟨at_,G4⟩:=iZ (show 0<=x.first+(p:Int) by have:=h.rg.2.2.1;omega);have Co:at_<x.dev.C0:=by have:=h.rg.2.2.2.1;omega
 have dP:=h.dev.rg.1.2;have io:IntKind.i64.wrap (x.first+(p:Int))=(at_:Int):=by rw[IntKind.wrap_i64];omega
 have HK:=hid fun W (q:Pg) (S:X1 W B x) (F:D0 B w W) (hb:∃ bs,T0 W q.la q.ll q.lc bs/\bs.length<=x.room)=>OP S (hg.T1 F) hu p q hb;have HN:=hi2 O2 hroom;have HLG:=hid (fun W (hS:X1 W B x)=>mp0 hS.dev hu.down hlen hu.many at_ Co p stamp load (by have:=hz;rw[G4] at this;exact this) O2 hp hs hl);have HI:=hid (MB (h.J0 F1) p st oM h1);have H1:=hid (h.J0 F1);have HQ:=hid hq;have HW:=hid I0;have I3:=hid b1;have E1:=hid F1;have Ho:=hid io;clear I0 F1 h hq b1 hz hlen io G4 O2 hroom hl hp hs hu hg;go_enter func24,ntmps24;go_wp2_with fail
 rw[HW];refine HI.mono ?_;rintro e w2 ⟨rfl,F2⟩;obtain⟨f0,f1,fz,fl⟩:=cells2 (F2.heap I3 id);have h2:=H1.J0 F2;have g17:=h2.sc.c17;have ls:=h2.sc.lt;have nl:=h2.mem.xW;have HG:=hid (fun W (F:Fq w2 W)=>(lA0 (h2.mem.fr F id id id) p).mono
  (fun (e:Ending) W' ⟨he,hm,F'⟩=>(⟨by rw[he,HQ];rfl,hm,Fr.trans (S:=fun b=>b=B.bp) (S':=fun b=>b=B.bp) (F.mono nE) F' nI,F'⟩ :
   e=rT (tU #[.agg #[iI 0,sL none 0 0,bO false],bO false])/\cR W' B.bc B.bp B.bm x.places x.mem/\Fr (fun b=>b=B.bp) w2 W'/\Fr (fun b=>b=B.bp) W W')))
 have NX:=hid (show ¬ w2.heap.size=B.bp by omega);have NS:=hid (h2.qh (r:=.s) (r':=.bp) dC);have NW:=hid (show ¬ w.heap.size=B.bp by
  have:=H1.heaps .bp;have h3:=qJ I3.o;intro e;rw[e] at h3;have h4:=this.2.2.2;simp only[P0.at_] at h4;rw[h4] at h3;simp[r8.kind] at h3)
 have m1:¬ w2.heap.size=B.s:=oM
 have m2:¬ w2.heap.size=w.heap.size:=oM
 have H2:=hid h2;have Y0:=hid F2;clear h2 F2 nl;go_upto_region 4 with fail
 go_cut [7,8] from 18 to 27 fun v v' wx=>AJ0 B x p st w v v' wx
 case first =>
  go_region_held3 (fun W=>W.cell? (aA B.s 17)=some (pO (aP B.bc 0))/\W.cell? w=some (iI p)) (go_keep)
   ((go_at_call 86;refine (HG _ (by first|exact (fR.alloc _)|exact fR|exact (fR.drew)|exact (fR.alloc _).drew|exact (fR.drew.alloc _))).mono ?_;rintro e w7 ⟨rfl,hm,F7,F8⟩;have e0:=fun (i:Nat) (hh:w2.heap.size<_)=>F8.cell (p:=⟨w2,i,none⟩) hh NX.o;have ez:=fun (i:Nat) (hh:w2.heap.size<_)=>World.frozen?_of_block (a:=⟨w2,i,none⟩) (F8.block w2.heap.size hh NX.o);have EB:=hid fun (hh:w2.heap.size<_)=>F8.block w2.heap.size hh NX.o;have el:=F8.size;have el7:=F7.size;have m3:¬ w7.heap.size=B.s:=oM;have m4:¬ w7.heap.size=w.heap.size:=oM;have g17:=(F7.cell (p:=⟨B.s,17,none⟩) ls NS.o).trans g17;have f0:=(F7.cell (p:=⟨w,0,none⟩) fl NW.o).trans f0;have f1:=(F7.cell (p:=⟨w,1,none⟩) fl NW.o).trans f1;have lX:=hid F7;have HM:=hid hm;clear F7 hm F8))
  all_goals
   have lw7:w.heap.size<w7.heap.size:=oM
   have FA:eI B [.bp] w1 w7:=(Y0.mono nE).trans lX (fun b _ h=>⟨.bp,by simp,h⟩);have lq:X1 w7 B x:=H1.Zb FA HM.o;have U3:=D0.heap (B:=B) (H1.T1 FA) I3 dC;have H7:=hi2 lq (aI (show D0 B w w7 from (D0.none E1.o).trans (H1.T1 FA)) U3);clear FA lq U3 m3 m4 m1 m2
  .go_wp2_with fail
   go_meet
   case rel =>
    have FN:Fq w7 (w7.alloc (.cells #[iI 0,sL none 0 0,bO false] 162)):=fR.alloc _;exact⟨w7.heap.size,⟨rfl,rfl⟩,⟨lw7,han _ _⟩,FN.heap H7.2.2 id,H7.1.J0 FN,H7.2.1.trans (D0.none FN)⟩
  .go_wp2_with fail
   go_meet
   case rel =>
    have vG:w7.heap[w2.heap.size]?=some (.cells #[iI 0,sL none 0 0,bO false] 162):=(EB.o sP).trans (han _ _);obtain⟨W8,zF⟩:=eX (((w7.setCell w2 (iI 0)).setCell (aA w2 1) (sL none 0 0)).setCell (aA w2 2) (bO false))
    have FN:Fr (fun b=>b=w2.heap.size) w7 W8:=(by rw[<- zF];exact Fr.rt (S:=fun b=>b=w2.heap.size) (b:=w2.heap.size) fR rfl _ _ _);have zO:w<=(w2:Nat):=oM;have MR:D0 B w W8:=by
     rw[<- zF];exact ((H7.2.1.setCell (a:=⟨w2,0,none⟩) (fun h=>absurd h sO) _).setCell (a:=⟨w2,1,none⟩) (fun h=>absurd h sO) _).setCell (a:=⟨w2,2,none⟩) (fun h=>absurd h sO) _
    have LD:W8.heap[w2.heap.size]?=some (.cells #[iI 0,sL none 0 0,bO false] 162):=by
     rw[<- zF,hsc _ _ _ _ (hsc _ _ _ _ (hsc _ _ _ _ vG))];rfl
    rw[zF];exact⟨w2.heap.size,⟨rfl,rfl⟩,⟨fl,LD⟩,FN.heap H7.2.2 oM,H7.1.M3 FN vG dC,MR⟩
 case rest =>
  obtain⟨bp,⟨rfl,rfl⟩,⟨mK,jf⟩,eC,pC,Fc⟩:=hcut;clear f0 f1 fz fl g17 HG NX NS NW m1 m2 Y0 H2 ls;obtain⟨p0,p1,pz,plt⟩:=cells2 eC;have q0:=pC.sc.c0;have q9:=pC.sc.c9;have Yh:=pC.sc.lt;have io:=Ho.o;have n1:¬ wc.heap.size=B.s:=oM
  have n2:¬ wc.heap.size=w.heap.size:=oM
  have HC:=hid fun W (F:Fq wc W)=>(HLG W (pC.J0 F)).mono fun (e:Ending) W' ⟨la,lc,he,hb,F'⟩=>(⟨la,lc,he,hb,F.trans F' nI,F'⟩:∃ la lc,e=rT (tU #[.agg #[iI 2,iI p,iI stamp,sL la load.length lc],iI 0])/\T0 W' la load.length lc load/\Fq wc W'/\Fq W W');have H8:=hi2 pC (aI Fc (aI eC jf));clear pC Fc eC jf;go_upto_region 6 with fail
  go_cut [9,10] from 30 to 46 fun v v' wx=>AI0 B x p st bp stamp load w v v' wx
  case first =>
   go_region_held3 (fun W=>(W.cell? (aA B.s 0)=some (pO (aP B.d 0))/\W.cell? (aA B.s 9)=some (iI x.first))/\W.cell? w=some (iI p)) (go_keep)
    ((go_at_call 87;refine (HC _ (by first|exact (fR.alloc _)|exact fR|exact (fR.drew)|exact (fR.alloc _).drew|exact (fR.drew.alloc _))).mono ?_;rintro e w9 ⟨la,lc,rfl,R7,F9,Gr⟩;have e90:=fun (i:Nat) (hh:wc.heap.size<_)=>Gr.cell (p:=⟨wc,i,none⟩) hh id;have e9z:=fun (i:Nat) (hh:wc.heap.size<_)=>World.frozen?_of_block (a:=⟨wc,i,none⟩) (Gr.block wc.heap.size hh id);have EB9:=hid fun (hh:wc.heap.size<_)=>Gr.block wc.heap.size hh id;have el9:=Gr.size;have el99:=F9.size;have p0:=(F9.cell (p:=⟨w,0,none⟩) plt id).trans p0;have q0:=(F9.cell (p:=⟨B.s,0,none⟩) Yh id).trans q0;have q9:=(F9.cell (p:=⟨B.s,9,none⟩) Yh id).trans q9;have uH:=hid F9;have qB:=hid R7;clear F9 Gr R7))
   .go_wp2_with fail
    go_meet
    case rel =>
     obtain⟨pC,Fc,eC,jf⟩:=H8.o;have FN:Fq wc (w9.alloc (.cells #[iI 2,iI p,iI stamp,sL la load.length lc] 166)):=uH.alloc _;exact⟨w9.heap.size,la,lc,⟨rfl,rfl⟩,⟨han _ _,FN.heap jf id⟩,FN.heap eC id,pC.J0 FN,Fc.trans (D0.none FN),qB.fr ((Fr.refl (fun _=>False) _).alloc _) fun _ _ _ h=>h⟩
   .go_wp2_with fail
    go_meet
    case rel =>
     obtain⟨pC,Fc,eC,jf⟩:=H8.o;have LE:w9.heap[wc.heap.size]?=some (.cells #[iI 0,iI 0,iI 0,sL none 0 0] 166):=(EB9.o sP).trans (han _ _);obtain⟨W8,zF⟩:=eX ((((w9.setCell wc (iI 2)).setCell (aA wc 1) (iI p)).setCell (aA wc 2) (iI stamp)).setCell (aA wc 3) (sL la load.length lc))
     have FN:Fr (fun b=>b=wc.heap.size) w9 W8:=by
      rw[<- zF];exact ((((Fr.refl (fun b=>b=wc.heap.size) _).setCell (a:=⟨wc,0,none⟩) (fun _=>rfl) _).setCell (a:=⟨wc,1,none⟩) (fun _=>rfl) _).setCell (a:=⟨wc,2,none⟩) (fun _=>rfl) _).setCell (a:=⟨wc,3,none⟩) (fun _=>rfl) _
     have FC:Fq wc W8:=uH.trans FN fun b hb h=>oM;have LD:W8.heap[wc.heap.size]?=some (.cells #[iI 2,iI p,iI stamp,sL la load.length lc] 166):=by
      rw[<- zF,hsc _ _ _ _ (hsc _ _ _ _ (hsc _ _ _ _ (hsc _ _ _ _ LE)))];rfl
     rw[zF];exact⟨wc.heap.size,la,lc,⟨rfl,rfl⟩,⟨LD,FC.heap jf id⟩,FC.heap eC id,pC.J0 FC,Fc.trans (D0.none FC),qB.M3 FN LE dC⟩
  case rest =>
   obtain⟨bx,la,lc,⟨rfl,rfl⟩,⟨PM,jf⟩,eC,pC,Fc,cZ⟩:=hcut;clear p0 p1 pz plt q0 q9 Yh io n1 n2 HC H8;obtain⟨r0,r1,rz,rl⟩:=cells2 eC;obtain⟨x0,x1,x2,x3,xz,xl⟩:=cells4 PM;obtain⟨y0,y1,y2,yz,yl⟩:=cells3 jf;obtain⟨W3,S5⟩:=eX (((wc.setCell bp (iI stamp)).setCell (aA bp 1) (sL la load.length lc)).setCell (aA bp 2) (bO false))
   have FN:Fr (fun b=>b=bp) wc W3:=by rw[<- S5];exact Fr.rt (S:=fun b=>b=bp) (b:=bp) fR rfl _ _ _
   have kK:W3.heap[bp]?=some (.cells #[iI stamp,sL la load.length lc,bO false] 162):=by
    rw[<- S5,hsc _ _ _ _ (hsc _ _ _ _ (hsc _ _ _ _ jf))];rfl
   have pU:=FN.heap eC oM;have F3:D0 B w W3:=by
    rw[<- S5];exact ((Fc.setCell (a:=⟨bp,0,none⟩) (fun h=>absurd h sO) _).setCell (a:=⟨bp,1,none⟩) (fun h=>absurd h sO) _).setCell (a:=⟨bp,2,none⟩) (fun h=>absurd h sO) _
   have P5:=cZ.M3 FN jf dC;have T9:=pC.M3 FN jf dC;have ZT:=hid (HK.o W3 ⟨stamp,la,load.length,lc,false⟩ T9 F3 ⟨load,P5,HN.2⟩);obtain⟨s0,s1,s2,sz,sl⟩:=cells3 kK;obtain⟨t0,t1,tz,tl⟩:=cells2 pU;have H3:=hi2 T9 (aI F3 (aI P5 (aI kK pU)));have fx:=hid S5;have nb1:¬ bx=bp:=by
    intro e;rw[e,jf] at PM;cases PM
   clear FN kK pU F3 P5 T9 S5 pC Fc cZ PM jf eC;go_wp2_with fail
   rw[fx];refine ZT.mono ?_;rintro e w5 ⟨err,g,D,rfl,hgo,ho,J5,F5⟩;obtain⟨T9,F3,P5,kK,pU⟩:=H3.o;have hz5:=F5.heap kK dC;have KS:=F5.heap pU dC;have A6:=P5.T1 F5;have yy:=F3.trans F5;have mV:=T9.rg.1;have hlr:=HN.2;have H5:=hi2 hgo (aI ho (aI A6 (aI J5 yy)));clear s0 s1 s2 sz sl t0 t1 tz tl r0 r1 rz rl x0 x1 x2 x3 xz xl y0 y1 y2 yz yl hgo ho J5 F5 T9 F3 P5 kK pU yy H3 ZT HK;obtain⟨s0,s1,s2,sz,sl⟩:=cells3 hz5;obtain⟨t0,t1,tz,tl⟩:=cells2 KS;clear hz5 KS;by_cases he:err=0
   .subst he;by_cases hst:(stamp:Int)=st
    .have hne:((stamp:Int) != st)=false:=(by simp[hst]);have mi:=hid hst;have oK:=hid (BQ A6.slb oM);clear hst A6;go_wp2_with fail
     refine oK.mono ?_;rintro e w6 ⟨a',c',rfl,R1,F6⟩;have H6:=hi2 R1 F6;clear R1 F6;go_wp2
     go_ret2;obtain⟨hgo,ho,A6,J5,yy⟩:=H5.o;obtain⟨R1,F6⟩:=H6.o;exact⟨0,g,D,la,lc,hgo,oY0 ho (D0.none (B:=B) F6),A6.T1 (D0.none (B:=B) F6),J5.J0 F6,yy.trans (D0.none F6),fun h=>absurd rfl h,fun _ h=>absurd mi h,fun _ _=>⟨a',c',rfl,R1⟩⟩
    .have hne:((stamp:Int) != st)=true:=(by simpa using hst);have mi:=hid hst;clear hst A6;go_wp2
     go_ret2;obtain⟨hgo,ho,A6,J5,yy⟩:=H5.o;exact⟨0,g,D,la,lc,hgo,ho,A6,J5,yy,fun h=>absurd rfl h,fun _ _=>rfl,fun _ h=>absurd h mi.o⟩
   .have hne:(err != 0)=true:=(by simpa using he);have HE:=hid he;clear he A6;go_wp2
    go_ret2;obtain⟨hgo,ho,A6,J5,yy⟩:=H5.o;exact⟨err,g,D,la,lc,hgo,ho,A6,J5,yy,fun _=>rfl,fun h=>absurd h HE.o,fun h=>absurd h HE.o⟩
end SF
end Go.Proofs.YtgdhaaokolfdoaaGreatDoor
namespace Go.Sg
open Go.RowKit
variable {a:Bool}{bs:List Int}{at_:Int}{P:Int->Option (List Int)}{N:Nat}
def T0.uniq {w:w9}{a:Option Addr}{n c c':Nat}{bs':List Int}(h:T0 w a n c bs)(h':T0 w a n c' bs'):bs=bs':=by
 have l1:=h.len;have l2:=h'.len;refine Am fun i=>?_
 rcases jL i n with hi|hi
 .have e1:bs[i]?=some bs[i]:=gE oM;have e2:bs'[i]?=some bs'[i]:=gE oM;obtain⟨b,off,ha,_,hc⟩:=h.Y6.at_ i _ e1;obtain⟨b',off',ha',_,hc'⟩:=h'.Y6.at_ i _ e2;rw[ha] at ha';cases ha';rw[hc] at hc';simp only[Option.some.injEq,Value.int.injEq,true_and] at hc';rw[e1,e2,hc']
 .rw[Al oM,Al oM]
def Dev.wrote (D:Dev)(at_:Int)(bs:List Int):Dev:={ D.act with loose:=D.loose++[(at_,bs)] }
variable {D:Dev}
def Dev.pC0 (h:D.down=false)(h1:0<=at_/\at_<D.C0)(h2:bs.length=D.size) :
  D.write at_ bs=(D.wrote at_ bs,if D.act.down then 4 else 0):=by
 rw[Dev.write,h];simp only[jI,if_false];rw[if_neg (show ¬ (at_<0\/(D.C0:Int)<=at_) by omega),if_neg (show ¬ bs.length≠D.size by omega)];rfl
def Dev.Ol (D:Dev)(at_:Int)(bs:List Int)(k:Int):(D.wrote at_ bs).sec k=if k=at_ then bs else D.sec k:=by
 simp only[Dev.sec,Dev.wrote,Dev.act,List.reverse_append,List.reverse_cons,List.reverse_nil,C7,Mc,uj];by_cases h:k=at_
 .subst h;simp
 .have:¬ at_=k:=fun e=>h e.symm
  simp[h,this]
structure bj (D:Dev)(P:Int->Option (List Int))(a:Bool)(N:Nat):Prop where
 acts:D.acts<=N
 many:D.loose.length<=N
 len:∀ y ∈ D.loose,y.2.length=D.size
 cu:∀ k bs,P k=some bs->D.fast k=some bs/\∀ y ∈ D.loose,y.1≠k
 armed:D.armed<=9223372036854775807
 calm:a=false->D.armed=0
 jY:(∀ y ∈ D.loose,∀ x ∈ y.2,0<=x/\x<256)/\∀ k bs,D.fast k=some bs->∀ x ∈ bs,0<=x/\x<256
def bj.mono {N':Nat}(h:bj D P a N)(hN:N<=N'):bj D P a N':=
 ⟨nT h.acts hN,nT h.many hN,h.len,h.cu,h.armed,h.calm,h.jY⟩
def bj.wrote (h:bj D P a N)(hl:bs.length=D.size)(hp:P at_=none)(hbt:∀ x ∈ bs,0<=x/\x<256):bj (D.wrote at_ bs) P a (N+1):=by
 refine⟨Qt h.acts,?_,?_,?_,?_,?_,⟨fun y hy=>?_,h.jY.2⟩⟩
 .simp[Dev.wrote];exact h.many
 .intro y hy;rcases X5.1 hy with hy|hy
  .exact h.len y hy
  .simp at hy;subst hy;exact hl
 .intro k cs hk;refine⟨(h.cu k cs hk).1,fun y hy=>?_⟩;rcases X5.1 hy with hy|hy
  .exact (h.cu k cs hk).2 y hy
  .simp at hy;subst hy;rintro rfl;rw[hp] at hk;cases hk
 .show D.armed-1<=_;have:=h.armed;omega
 .intro ha;show D.armed-1=0;rw[h.calm ha]
 .rcases X5.1 hy with hy|hy
  .exact h.jY.1 y hy
  .simp at hy;subst hy;exact hbt
def Dev.XN (h:D.down=false)(ha:D.armed=0):D.act.down=false:=by
 rw[Dev.act];simp[ha,h]
abbrev Cont:=Int->Option (Nat × List Int)
def dt (c:Cont)(k:Int)(v:Option (Nat × List Int)):Cont:=fun j=>if j=k then v else c j
def Ae (pages room:Nat)(k:Int)(st:Nat)(bs:List Int):Prop:=(0<=k/\k<pages)/\st<9223372036854775808/\bs.length<=room/\∀ b ∈ bs,0<=b/\b<256
end Go.Sg
namespace Go.Proofs.YtgdhaaokolfdoaaGreatDoor
open Tryz
section
open Go.RowKit Go.Sg Go.Sg.Bits Go.Sg.r4 CP SF
structure Holds (w:w9)(x:T3)(c:Cont)(P:Int->Option (List Int)):Prop where
 ok:∀ k st bs,c k=some (st,bs)->Ae x.pages x.room k st bs
 mem:∀ k q,x.mem k=some q->∃ st bs,c k=some (st,bs)/\q.stamp=st/\T0 w q.la q.ll q.lc bs/\(q.dirty=true->P (x.first+k)=none)/\(q.dirty=false->x.dev.sec (x.first+k)=D6 x.dev.size 2 k.toNat st bs)
 dev:∀ k st bs,c k=some (st,bs)->x.mem k=none->x.dev.sec (x.first+k)=D6 x.dev.size 2 k.toNat st bs
variable {w w':w9}{B:P0}{x:T3}{c:Cont}{a:Bool}{N k:Nat}{t:TypeId}{err n:Int}
def Holds.T1 {P:Int->Option (List Int)}(h:Holds w x c P)(F:D0 B w w'):Holds w' x c P:=
 ⟨h.ok,fun k q hq=>by obtain⟨st,bs,h1,h2,h3,h4⟩:=h.mem k q hq;exact⟨st,bs,h1,h2,h3.T1 F,h4⟩,h.dev⟩
def Holds.good {P:Int->Option (List Int)}(h:Holds w x c P):zf w x:=fun k q hq=>by
 obtain⟨st,bs,h1,h2,h3,_⟩:=h.mem k q hq;obtain⟨g1,g2,g3,g4⟩:=h.ok k st bs h1;exact⟨g1,by rw[h2];omega,bs,h3,g3,g4⟩
structure Cs where
 plan:R8
 first:Int
 pages:Nat
 room:Nat
 gen:Nat
 hand:Nat
 taken:Nat->Bool
 fresh:Int->Bool
 dying:Int->Bool
 dead:Int->Bool
 places:Nat
 C0:Nat
 size:Nat
 cont:Cont
abbrev D4:=Int->Option (List Int)
structure J2 where
 f:D4
 ro:Bool
instance:CoeFun J2 fun _=>D4:=⟨J2.f⟩
instance:Coe J2 D4:=⟨J2.f⟩
instance:Coe D4 J2:=⟨fun f=>⟨f,false⟩⟩
abbrev _root_.Go.Sg.T3.cs (x:T3)(c:Cont):Cs:=⟨x.plan,x.first,x.pages,x.room,x.gen,x.hand,x.taken,x.fresh,x.dying,x.dead,x.places,x.dev.C0,x.dev.size,c⟩
structure Apart (taken:Nat->Bool)(fresh dying dead:Int->Bool):Prop where
 ft:∀ k:Nat,fresh k=true->taken k=true
 yt:∀ k:Nat,dying k=true->taken k=true
 et:∀ k:Nat,dead k=true->taken k=true
 fy:∀ k,fresh k=true->dying k=false/\dead k=false
 ye:∀ k,dying k=true->dead k=false
structure Is (w:w9)(x:T3)(c:Cont)(P:J2)(a:Bool)(N:Nat):Prop where
 down:x.dev.down=false
 dev:bj x.dev P a N
 holds:Holds w x c P
 rq:P.ro=false->∀ k:Nat,k<x.pages->P (x.first+k)≠none->x.taken k=true/\x.fresh k=false
 apart:Apart x.taken x.fresh x.dying x.dead
 few:N<=90000
structure C1 (w:w9)(B:P0)(y:Cs)(P:J2)(a:Bool)(N:Nat):Prop where
 ex:∃ x c,X1 w B x/\y=x.cs c/\Is w x c P a N
 tab:Tab w
 base:0<B.base
structure C5 (w:w9)(B:P0)(y:Cs)(P:J2)(N:Nat):Prop where
 ex:∃ D,Q4 w B.base B.d B.bf B.bq D/\bj D P true N/\D.down=true/\D.C0=y.C0/\D.size=y.size
def MI (w:w9)(B:P0)(y y':Cs)(P:J2)(a:Bool)(N:Nat)(err:Int):Prop:=
 (err=0/\C1 w B y' P a N)\/(err=4/\a=true/\C5 w B y P N)
variable {P:J2}{y:Cs}
def C1.mono {N':Nat}(h:C1 w B y P a N)(hN:N<=N')(h9:N'<=90000):C1 w B y P a N':=by
 obtain⟨⟨x,c,hS,hy,hi⟩,ht,hb⟩:=h;exact⟨⟨x,c,hS,hy,{ hi with dev:=hi.dev.mono hN,few:=h9 }⟩,ht,hb⟩
def C1.J0 (h:C1 w B y P a N)(F:Fq w w'):C1 w' B y P a N:=by
 obtain⟨⟨x,c,hS,hy,hi⟩,ht,hb⟩:=h;exact⟨⟨x,c,hS.J0 F,hy,{ hi with holds:=hi.holds.T1 (B:=B) (D0.none F) }⟩,ht.fr F id,hb⟩
def Holds.M3 (h:Holds w x c P)(F:Fr (fun b=>b=k) w w'){cs:Array Value}(hk:w.heap[k]?=some (.cells cs t))(ht:t≠5):Holds w' x c P:=
 ⟨h.ok,fun k q hq=>by obtain⟨st,bs,h1,h2,h3,h4⟩:=h.mem k q hq;exact⟨st,bs,h1,h2,h3.M3 F hk ht,h4⟩,h.dev⟩
def C1.M3 (h:C1 w B y P a N)(F:Fr (fun b=>b=k) w w'){c:Array Value}(hk:w.heap[k]?=some (.cells c t))(ht:t ∉ 5 :: aR)(h0:0<k):C1 w' B y P a N:=by
 obtain⟨⟨x,c,hS,hy,hi⟩,hT,hb⟩:=h;exact⟨⟨x,c,hS.M3 F hk ht,hy,{ hi with holds:=hi.holds.M3 F hk (fun e=>ht (by simp[e])) }⟩,hT.fr F fun e=>oM,hb⟩
def C1.jr (h:C1 w B y P a N):B.base<=w.heap.size:=by
 obtain⟨⟨x,c,hS,hy,hi⟩,hT,hb⟩:=h;have:=(hS.heaps .s);omega
def Cs.new (y:Cs)(n:Nat)(bs:List Int):Cs:=
 { y with taken:=upd y.taken n true,hand:=(n+1) % y.pages,fresh:=aN y.fresh n true,cont:=dt y.cont n (some (y.gen,bs)) }
variable {D:Dev}
def _root_.Go.Sg.bj.up (h:bj D P a N)(hd:D.down=false)(hN:N<=90000):YH D:=
 ⟨hd,nT h.acts oM,h.armed,nT h.many oM⟩
variable {g:Option (Int × Pg)}
def zb0
  (hh:Holds w x c P) (hd:bj x.dev P a N) (hdn:x.dev.down=false) (hg:nJ x.mem x.places n g) (ho:lM w' x g D err) (F:D0 B w w') (C8:x.room+19=x.dev.size/\x.first+x.pages=x.dev.C0/\0<=x.first) :
  (bj D P a (N+1)/\D.C0=x.dev.C0/\D.size=x.dev.size)/\(∀ j,(∀ k q,g=some (k,q)->j≠k)->D.sec (x.first+j)=x.dev.sec (x.first+j)) /\
  (∀ k q,g=some (k,q)->∃ st bs,c k=some (st,bs)/\D.sec (x.first+k)=D6 x.dev.size 2 k.toNat st bs)/\((err=0/\D.down=false)\/(err=4/\a=true/\D.down=true)):=by
 cases g with
 | none =>
  obtain⟨rfl,rfl⟩:=(show D=x.dev/\err=0 from ho);exact⟨⟨hd.mono (Nat.le_succ _),rfl,rfl⟩,fun _ _=>rfl,fun k q e=>(by cases e),.inl ⟨rfl,hdn⟩⟩
 | some g =>
  obtain⟨k,q⟩:=g;obtain⟨st,bs,hc,hst,hb,Fe,B6⟩:=hh.mem k q hg.2.1;obtain⟨g1,g2,g3,g4⟩:=hh.ok k st bs hc;unfold lM at ho;simp only at ho;by_cases hq:q.dirty=true
  .rw[if_pos hq] at ho;obtain⟨bs',P4,hw⟩:=ho;obtain rfl:=P4.uniq (hb.T1 F);have VX:q.stamp.toNat=st:=by rw[hst];simp
   have J6:(D6 x.dev.size 2 k.toNat st bs').length=x.dev.size:=NQ oM;rw[VX,Dev.pC0 hdn oM J6] at hw;obtain⟨rfl,rfl⟩:=Prod.mk.inj hw;refine⟨⟨hd.wrote J6 (Fe hq) (Tz g4),rfl,rfl⟩,fun j hj=>?_,fun k' q' e=>?_,?_⟩
   .rw[Dev.Ol,if_neg];have:=hj k q rfl;omega
   .cases e;exact⟨st,bs',hc,by rw[Dev.Ol,if_pos rfl]⟩
   .by_cases mO:x.dev.act.down=true
    .refine .inr ⟨by rw[if_pos mO],?_,mO⟩;cases a with
     | true=>rfl
     | false=>rw[Dev.XN hdn (hd.calm rfl)] at mO;cases mO
    .refine .inl ⟨by rw[if_neg mO],(by simpa using mO:x.dev.act.down=false)⟩
  .rw[if_neg hq] at ho;obtain⟨rfl,rfl⟩:=ho;exact⟨⟨hd.mono (Nat.le_succ _),rfl,rfl⟩,fun _ _=>rfl,fun k' q' e=>by cases e;exact⟨st,bs,hc,B6 (by simpa using hq)⟩,.inl ⟨rfl,hdn⟩⟩
def goes {p:Pg}
  (hh:Holds w x c P) (hd:bj x.dev P a N) (hdn:x.dev.down=false) (hg:nJ x.mem x.places n g) (ho:lM w' x g D err) (F:D0 B w w')
  {st:Nat} {bs:List Int} (hp:p.stamp=st/\T0 w' p.la p.ll p.lc bs) (hok:Ae x.pages x.room n st bs) (C8:x.room+19=x.dev.size/\x.first+x.pages=x.dev.C0/\0<=x.first)
  (CN:p.dirty=true->P (x.first+n)=none) (CI:p.dirty=false->x.dev.sec (x.first+n)=D6 x.dev.size 2 n.toNat st bs) :
  (bj D P a (N+1)/\D.C0=x.dev.C0/\D.size=x.dev.size)/\((err=0/\D.down=false)\/(err=4/\a=true/\D.down=true)) /\
  ∀ x':T3,x'.mem=aQ x.mem n p g->x'.dev=D->x'.first=x.first->x'.pages=x.pages->x'.room=x.room->Holds w' x' (dt c n (some (st,bs))) P:=by
 obtain⟨h1,h2,h3,h4⟩:=zb0 hh hd hdn hg ho F C8;refine⟨h1,h4,fun x' e1 e2 e3 e4 e5=>⟨fun k s b hk=>?_,fun k q hq=>?_,fun k s b hk hm=>?_⟩⟩
 .rw[e4,e5];by_cases L8:k=n
  .subst L8;simp[dt] at hk;obtain⟨rfl,rfl⟩:=hk;exact hok
  .simp[dt,L8] at hk;exact hh.ok k s b hk
 .rw[e1] at hq;rw[e2,e3,h1.2.2];by_cases L8:k=n
  .subst L8;simp[aQ] at hq;subst hq;refine⟨st,bs,by simp[dt],hp.1,hp.2,CN,fun hc=>?_⟩;rw[h2 k fun k' q' e=>by subst e;exact fun e'=>hg.1 e'.symm];exact CI hc
  .simp only[aQ,if_neg L8] at hq;split at hq
   .cases hq
   .rename_i hgk;obtain⟨s0,b0,a1,a2,a3,a4,a5⟩:=hh.mem k q hq;refine⟨s0,b0,by simp[dt,L8,a1],a2,a3.T1 F,a4,fun hc=>?_⟩;rw[h2 k fun k' q' e=>by subst e;rintro rfl;exact hgk rfl];exact a5 hc
 .rw[e1] at hm;rw[e2,e3,h1.2.2];have L8:k≠n:=by
   rintro rfl;simp[aQ] at hm
  simp only[dt,if_neg L8] at hk;simp only[aQ,if_neg L8] at hm;split at hm
  .rename_i hgk;cases g with
   | none=>cases hgk
   | some g =>
    obtain⟨k',q'⟩:=g;simp at hgk;subst hgk;obtain⟨s0,b0,a1,a2⟩:=h3 k' q' rfl;rw[hk] at a1;cases a1;exact a2
  .rename_i hgk;rw[h2 k fun k' q' e=>by subst e;rintro rfl;exact hgk rfl];exact hh.dev k s b hk hm
end
section
open Go.RowKit Go.Sg Go.Sg.Bits Go.Sg.r4 CP
namespace SF
def th0 {w:w9}{B:P0}{x:T3}(h:X1 w B x)(n:Nat)(st:Int)(hp:n<x.pages)(ht:x.taken n=false) :
  cP 28 #[B.ptr,.agg #[iI n,iI st]] w fun e w'=>e = rT (iI 0)/\X1 w' B { x with taken:=upd x.taken n true }/\D0 B w w':=by
 obtain⟨w1,I0⟩:=eX (w.alloc (.cells #[iI n,iI st] 35))
 have F1:=fA I0
 have b1:=fB I0
 obtain⟨d0,d1,dz,dl⟩:=cells2 b1;have HI:=hid (MB (h.J0 F1) n st oM oM);have H1:=hid (h.J0 F1);have HT:=hid ht;have HW:=hid I0;have I3:=hid b1;have E1:=hid F1;clear I0 b1 F1 h ht;go_enter func28,ntmps28;go_wp2_with fail
 rw[HW];refine HI.mono ?_;rintro e w2 ⟨rfl,F2⟩;obtain⟨f0,f1,fz,fl⟩:=cells2 (F2.heap I3 id);have h2:=H1.J0 F2;have g13:=h2.sc.c13;have NS:=hid (h2.qh (r:=.s) (r':=.bw) dC);have HH:=hid (fun W (F:Fq w2 W)=>(WS (h2.bits.fr F id id) n hp HT.o).mono (fun (e:Ending) W' ⟨he,hb,F'⟩=>(⟨he,hb,Fr.trans (S:=fun b=>b=B.bw) (S':=fun b=>b=B.bw) (F.mono nE) F' nI⟩ :
   e=rT (bO true)/\cT W' B.bs B.bw x.pages x.hand (upd x.taken n true)/\Fr (fun b=>b=B.bw) w2 W')))
 have NW:=hid (show ¬ w.heap.size=B.bw by
  have:=H1.heaps .bw;have h3:=qJ I3.o;intro e;rw[e] at h3;have h4:=this.2.2.2;simp only[P0.at_] at h4;rw[h4] at h3;simp[r8.kind] at h3)
 have ls:=h2.sc.lt;have Y0:=hid F2;have H2:=hid h2;clear F2 h2;go_wp2
 go_region_held3 (fun W=>W.cell? (aA B.s 13)=some (pO (aP B.bs 0))/\W.cell? w=some (iI n)) (go_keep)
  ((go_at_call 90;refine (HH _ (by first|exact fR|exact (fR.drew))).mono ?_;rintro e w3 ⟨rfl,P5,F3⟩;have g13:=(F3.cell (p:=⟨B.s,13,none⟩) ls NS.o).trans g13;have f0:=(F3.cell (p:=⟨w,0,none⟩) fl NW.o).trans f0;have H3:=hi2 P5 F3;clear P5 F3))
 go_wp2
 go_ret;obtain⟨P5,F3⟩:=H3.o;have FR:eI B [.bw] w2 w3:=F3.mono (fun b _ h=>⟨.bw,by simp,h⟩);have S:=H2.stays FR;refine⟨rfl,⟨S.s dC,S.dev dC dC dC,P5,S.fr dC,S.dy dC,S.de dC,S.mem dC dC dC,S.load,H2.ne,H2.ge,H2.rg,H2.inr⟩,?_⟩;exact (D0.none (E1.trans Y0 nI)).trans (H2.T1 FR)
end SF
end
section
open Go.RowKit Go.Sg Go.Sg.Bits Go.Sg.r4 CP SF
variable {w:w9}{a:Bool}{N n:Nat}{bs:List Int}
def _root_.Go.Sg.T0.inp {a:Option Addr}{c:Nat}(h:T0 w a n c bs)(B:P0):nx w B a n c bs:=by
 refine⟨h.slb,fun b off e=>?_⟩;rcases h.at_ with⟨h0,_⟩|⟨b',off',cs,h1,h2⟩
 .rw[h0] at e;cases e
 .rw[h1] at e;cases e;exact .inr (.inr (qJ h2))
variable {B:P0}
def LY {x:T3}(h:X1 w B x):x.gen<9223372036854775808:=by have:=h.rg.2.1;omega
def Apart.new {t:Nat->Bool}{f y d:Int->Bool}(h:Apart t f y d)(hn:t n=false):Apart (upd t n true) (aN f n true) y d:=by
 have hy:y n=false:=by
  cases e:y n with
  | false=>rfl
  | true=>rw[h.yt n e] at hn;cases hn
 have hd:d n=false:=by
  cases e:d n with
  | false=>rfl
  | true=>rw[h.et n e] at hn;cases hn
 refine⟨fun k hk=>?_,fun k hk=>?_,fun k hk=>?_,fun k hk=>?_,h.ye⟩
 .simp only[aN] at hk;simp only[upd];split
  .rfl
  .rename_i e;rw[if_neg oM] at hk;exact h.ft k hk
 .simp only[upd];split
  .rfl
  .exact h.yt k hk
 .simp only[upd];split
  .rfl
  .exact h.et k hk
 .simp only[aN] at hk;split at hk
  .rename_i e;subst e;exact⟨hy,hd⟩
  .exact h.fy k hk
def DE0 (B:P0)(y:Cs)(P:J2)(a:Bool)(N:Nat)(bs:List Int)(w:w9)(e:Ending)(w':w9):Prop:=
 ∃ n err,dF y.taken y.pages y.hand n/\e = rT (tU #[AB err n y.gen,iI err])/\MI w' B y (y.new n bs) P a (N+1) err/\D0 B w w'
def tc0 {w w':w9}{B:P0}{x:T3}{c:Cont}{P:D4}{a:Bool}{N:Nat}(hS:X1 w B x)(hi:Is w x c P a N)(hT:Tab w)(hb:0<B.base){la:Option Addr}{ll lc:Nat}{bs:List Int}(hl:bs.length<=x.room)(O2:∀ b ∈ bs,0<=b/\b<256)(hN:N+1<=90000)
  {e:Ending} {n:Nat} {err:Int} {g:Option (Int × Pg)} {D:Dev} {p:Pg} (hn:dF x.taken x.pages x.hand n) (hg:nJ x.mem x.places n g) (ho:lM w' x g D err) (K8:X1 w' B { tk x n with mem:=aQ x.mem n p g,dev:=D })
  (hp:p.stamp=x.gen/\p.dirty=true/\T0 w' p.la p.ll p.lc bs) (F:D0 B w w') :
  ((err=0/\Is w' { tk x n with mem:=aQ x.mem n p g,dev:=D } (dt c n (some (x.gen,bs))) P a (N+1))\/(err=4/\a=true/\D.down=true))/\(bj D P a (N+1)/\D.C0=x.dev.C0/\D.size=x.dev.size):=by
 have C8:=hS.rg;have dL:=LY hS;have xI:P (x.first+n)=none:=by
  cases hP:P (x.first+n) with
  | none=>rfl
  | some v =>
   have:=(hi.rq rfl n hn.1 (show P _≠_ by rw[hP];simp)).1;rw[hn.2.1] at this;cases this
 obtain⟨h1,h2,h3⟩:=goes hi.holds hi.dev hi.down hg ho F ⟨hp.1,hp.2.2⟩ (n:=n) (st:=x.gen) ⟨by have:=hn.1;omega,dL,hl,O2⟩ ⟨C8.2.2.2.2,C8.2.2.2.1,C8.2.2.1⟩ (fun _=>xI) (fun hc=>by rw[hp.2.1] at hc;cases hc);refine⟨?_,h1⟩;rcases h2 with⟨rfl,hD⟩|⟨rfl,ha,hD⟩
 .refine .inl ⟨rfl,hD,h1.1,h3 _ rfl rfl rfl rfl rfl,fun _ k hk hP=>?_,hi.apart.new hn.2.1,hN⟩;obtain⟨a1,a2⟩:=hi.rq rfl k hk hP;have L8:k≠n:=by rintro rfl;rw[hn.2.1] at a1;cases a1
  exact⟨by show upd x.taken n true k=true;simp[upd,L8,a1],by show aN x.fresh n true k=false;simp only[aN];rw[if_neg oM];exact a2⟩
 .exact .inr ⟨rfl,ha,hD⟩
variable {y:Cs}
def new_c {P:D4}(h:C1 w B y P a N){la:Option Addr}{ll lc:Nat}(T4:nx w B la ll lc bs)(O2:∀ b ∈ bs,0<=b/\b<256)(hl:ll<=y.room){j:Nat}(hj:j<y.pages)(P2:y.taken j=false)(hN:N+1<=90000) :
  cP 22 #[B.ptr,sL la ll lc] w (DE0 B y P a N bs w):=by
 obtain⟨⟨x,c,hS,rfl,hi⟩,hT,hb⟩:=h;have hlen:=T4.1.Y6.len;refine (SF.QK hS hT hb T4 hl hj P2 fun W p n hn K8 hF hp=>OP K8 ((hi.holds.T1 hF).good:zf W x) (hi.dev.up hi.down hi.few) n p hp).mono ?_;rintro e w' ⟨n,err,g,D,p,hn,he,hg,ho,K8,hp,F⟩;obtain⟨h1,h2⟩:=tc0 hS hi hT hb (la:=la) (ll:=ll) (lc:=lc) (e:=e) (by rw[hlen];exact hl) O2 hN hn hg ho K8 hp F;refine⟨n,err,hn,he,?_,F⟩;rcases h1 with⟨rfl,h1⟩|⟨rfl,ha,hD⟩
 .refine .inl ⟨rfl,⟨_,_,K8,?_,h1⟩,hT.fr F fun h=>oM,hb⟩;show Cs.new (x.cs c) n bs=_;simp[Cs.new,T3.cs,tk,h2.2.1,h2.2.2]
 .subst ha;exact .inr ⟨rfl,rfl,⟨D,K8.dev,h2.1,hD,h2.2.1,h2.2.2⟩⟩
def CM0 (B:P0)(y:Cs)(P:J2)(a:Bool)(N:Nat)(stamp:Nat)(st:Int)(load:List Int)(w:w9)(e:Ending)(w':w9):Prop:=
 ∃ err,MI w' B y y P a (N+1) err/\D0 B w w'/\(err≠0->e = rT (tU #[sL none 0 0,iI err]))/\(err=0->(stamp:Int)≠st->e = rT (tU #[sL none 0 0,iI 5])) /\
  (err=0->(stamp:Int)=st->∃ la lc,e = rT (tU #[sL la load.length lc,iI 0])/\T0 w' la load.length lc load)
def BR0 {P:J2}(h:C1 w B y P a N)(p:Nat)(st:Int){stamp:Nat}{load:List Int}(hc:y.cont p=some (stamp,load))(hN:N+1<=90000) :
  cP 24 #[B.ptr,.agg #[iI p,iI st]] w (CM0 B y P a N stamp st load w):=by
 obtain⟨⟨x,c,hS,rfl,hi⟩,hT,hb⟩:=h;obtain⟨g1,g2,g3,g4⟩:=hi.holds.ok p stamp load hc;have C8:=hS.rg;have dP:=hS.dev.rg.1.2;cases hm:x.mem p with
 | some q =>
  obtain⟨s0,b0,a1,a2,a3,_⟩:=hi.holds.mem p q hm;have hc':c p=some (stamp,load):=hc;rw[hc'] at a1;cases a1;refine (wL0 hS p st g1.1 g1.2 hm a3).mono ?_;rintro e w' ⟨he,K8,F⟩;refine⟨0,.inl ⟨rfl,⟨x,c,K8,rfl,{ hi with dev:=hi.dev.mono (Nat.le_succ _),holds:=hi.holds.T1 F,few:=hN }⟩,hT.fr F fun h=>oM,hb⟩,F,fun h=>absurd rfl h,fun _ hne=>?_,fun _ tq=>?_⟩
  .rw[if_neg (by rw[a2];exact hne)] at he;exact he
  .rw[if_pos (by rw[a2];exact tq)] at he;exact he
 | none =>
  refine (wM0 hS hi.holds.good (hi.dev.up hi.down hi.few) p stamp st load g1.2 hm hi.dev.len (by have:=hi.holds.dev p stamp load hc hm;simpa using this) g4 oM g2 oM g3).mono ?_;rintro e w' ⟨err,g,D,la,lc,hg,ho,cZ,K8,F,e1,e2,e3⟩;obtain⟨h1,h2,h3⟩:=goes hi.holds hi.dev hi.down hg ho F (p:=⟨stamp,la,load.length,lc,false⟩) (st:=stamp) ⟨rfl,cZ⟩ ⟨g1,g2,g3,g4⟩ ⟨C8.2.2.2.2,C8.2.2.2.1,C8.2.2.1⟩ (fun h=>by cases h) (fun _=>by have:=hi.holds.dev p stamp load hc hm;simpa using this);refine⟨err,?_,F,e1,e2,e3⟩;rcases h2 with⟨rfl,hD⟩|⟨rfl,ha,hD⟩
  .have ec:dt c p (some (stamp,load))=c:=by
    funext k
    simp only[dt];split
    .rename_i e;rw[e];exact hc.symm
    .rfl
   have h3':=h3 { x with mem:=aQ x.mem p ⟨stamp,la,load.length,lc,false⟩ g,dev:=D } rfl rfl rfl rfl rfl;rw[ec] at h3';refine .inl ⟨rfl,⟨_,c,K8,?_,hD,h1.1,h3',hi.rq,hi.apart,hN⟩,hT.fr F fun h=>oM,hb⟩;simp[T3.cs,h1.2.1,h1.2.2]
  .subst ha;exact .inr ⟨rfl,rfl,⟨D,K8.dev,h1.1,hD,h1.2.1,h1.2.2⟩⟩
