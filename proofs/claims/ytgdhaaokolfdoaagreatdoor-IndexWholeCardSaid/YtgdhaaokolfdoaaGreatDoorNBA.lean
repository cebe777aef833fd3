/- A pack of texts. Conditions: those that each names. -/
import Derived.Test.YtgdhaaokolfdoaaGreatDoorNAZ
import Derived.Lib.AppendZerosOnto
import Derived.Lib.Overlaps
set_option maxHeartbeats 16000000
set_option maxRecDepth 100000
set_option linter.all false
namespace Go.Proofs.YtgdhaaokolfdoaaGreatDoor
open Go.RowKit Go.Sg Go.Sg.Bits Go.Sg.r4 CP SF Tryz
def DZ (B:P0)(bx bd:Nat)(y:Cs)(P:J2)(a:Bool)(N:Nat)(x:P1)(E0 slots:List Rf)(L:List Bp)(sp:Int)(r:Rf)(p3 s3 err:Int)(V:w9):Prop:=
 (err=0/\(p3,s3)=r/\Y1 V B bx bd y P a N x E0 slots L sp)\/(err=4/\a=true/\C5 V B y P N)
section
variable {B:P0}{bx bd:Nat}{y:Cs}{P:J2}{a:Bool}{N:Nat}{x:P1}{E0 slots:List Rf}{L:List Bp}{sp:Int}{r:Rf}{p3 s3 err:Int}{V V':w9}{k:Nat}
def PV (h:Y1 V B bx bd y P a N x E0 slots L sp)(hk:slots[k]?=some r)(F:D0 B V V')(hr:(err=0/\slots[k]?=some (p3,s3)/\C1 V' B y P a (N+2))\/(err=4/\a=true/\C5 V' B y P (N+2))):DZ B bx bd y P a (N+2) x E0 slots L sp r p3 s3 err V':=by
 rcases hr with⟨rfl,h1,hS⟩|hr
 .exact .inl ⟨rfl,Option.some.inj (h1.symm.trans hk),h.T1 F hS⟩
 .exact .inr hr
def DZ.J0 (h:DZ B bx bd y P a N x E0 slots L sp r p3 s3 err V)(F:Fq V V'):DZ B bx bd y P a N x E0 slots L sp r p3 s3 err V':=by
 rcases h with⟨rfl,h1,h3⟩|⟨rfl,ha,hD⟩
 .exact .inl ⟨rfl,h1,h3.J0 F⟩
 .exact .inr ⟨rfl,ha,hD.J0 F⟩
def DZ.set (h:DZ B bx bd y P a N x E0 slots L sp r p3 s3 err V){b:Nat}{c:Array Value}(F:Fr (fun k=>k=b) V V')(hb:V.heap[b]?=some (.cells c 35))(h0:0<b):DZ B bx bd y P a N x E0 slots L sp r p3 s3 err V':=by
 rcases h with⟨rfl,h1,h3⟩|⟨rfl,ha,hD⟩
 .exact .inl ⟨rfl,h1,h3.U2 F hb dC h0⟩
 .exact .inr ⟨rfl,ha,hD.M3 F hb dC⟩
end
def YB {w:w9}{B:P0}{bx bd:Nat}{y:Cs}{P:J2}{a:Bool}{N:Nat}{x:P1}{E0 slots:List Rf}{L:List Bp}{sp:Int}(h:Y1 w B bx bd y P a N x E0 slots L sp){hash:Nat}(hh:hash<18446744073709551616){r:Rf}{d p:Nat}{es:List Bt}(hs:slots[X0 hash x.depth]?=some r)(hq:(r,Z6 d p es) ∈ L)(hk:S8 d p es)(hd:d<=8)(hp:p<2^d)(hN:N+3<=90000) :
  cP 130 #[O7 bx,iU hash] w (YL B bx bd y P a (N+3) x E0 slots L sp r d p es w):=by
 obtain⟨w1,I0⟩:=eX (w.alloc (.cells #[iI 0,iI 0,iI 0,iI 0,sL none 0 0] 131))
 have b4:=fB I0
 have F1:=fA I0
 have E3:w1.heap.size=w.heap.size+1:=by rw[<- I0];simp
 have hsm:=h.small;have HB:=hid fun W (F:D0 B w1 W)=>aI (cells5 (wO (F1.heap h.idx id:dG w1 bx B.s bd 3 3 sp) F)) (cells5 (D0.heap F b4 dC));have T5:=hid fun W (F:D0 B w1 W)=>D0.heap F b4 dC;have iA:=hid fun V (F:Fq w1 V)=>In (F.heap (F1.heap h.dir id) id:N2 V bd B.s x);obtain⟨g,hg⟩:=eX x.depth
 have Eu:=hid fun V=>WB hash g hh oM V;have X3:X0 hash x.depth<x.slots:=by rw[<- h.c.slen];exact (gI.1 hs).1
 have Ej:=hid fun V (F:Fq w1 V)=>Bk0 ((h.st.J0 F1).J0 F) (F.heap (F1.heap h.dir id) id:N2 V bd B.s x) h.c (X0 hash x.depth) X3 oM;have HQ:=hi2 hq (aI hk hN);obtain⟨⟨i0,i1,i2,i3,i4,iz,il⟩,-⟩:=HB.o _ (D0.refl _ _);rw[hg] at iA Ej;obtain⟨kk,ag⟩:=eX (X0 hash g)
 rw[ag] at Eu Ej;rw[hg,ag] at hs;have H1:=hi2 h (aI F1 (aI E3 hs));have HW:=hid I0;have FG:Fq w1 w1.drew:=fR.drew;clear h I0 b4 F1 E3 hs hq hk hg X3 ag hsm;go_enter func130,ntmps130;go_upto_region 1 with fail
 rw[HW];refine wp_region_noPanic ?_;refine q8 (fun V=>D0 B w1 V) (.rd 0 (.rd 1 (.rd 2 (.rd 3 (.rd 4 (.rd 5 (.rd 6 (.rd 7 (.rd 8 (.two 9 15 (.two 10 15 (.two 11 15 (.rd 12 (.rd 13 (.rd 14 (.op 15 (.op 16 (.rd 17 .done)))))) (.op 11 (.rd 12 (.rd 13 (.rd 14 (.op 16 (.rd 17 .done))))))) (.op 10 (.op 11 (.rd 12 (.rd 13 (.rd 14 (.op 16 (.rd 17 .done)))))))) (.op 9 (.op 10 (.op 11 (.rd 12 (.rd 13 (.rd 14 (.op 16 (.rd 17 .done)))))))))))))))))) kF kF kF (fun _ _ _ _ _ h=>h) (D0.none FG) ?_;iterate 9
  refine oP ?_ ?_ ?_;rotate_left
  .intro V hV;obtain⟨⟨i0,i1,i2,i3,i4,iz,il⟩,-⟩:=HB.o V hV;go_simp;try with_reducible rfl
 try simp only[Act.put,sI,sZ,sS]
 refine mu ?_ ?_
 .refine fF _ gF rF fun K hK=>?_;go_simp;refine (iA _ FG).mono ?_;rintro _ _ ⟨rfl,rfl⟩;try go_simp
  refine hK _ _ (D0.none FG) ?_;clear hK K;try simp only[Act.put,sI,sZ,sS]
  refine mu ?_ ?_
  .refine fF _ gF rF fun K hK=>?_;go_simp;refine (Eu _).mono ?_;rintro _ _ ⟨rfl,rfl⟩;try go_simp
   refine hK _ _ (D0.none FG) ?_;clear hK K;try simp only[Act.put,sI,sZ,sS]
   refine mu ?_ ?_
   .refine fF _ gF rF fun K hK=>?_;go_simp;refine (Ej _ FG).mono ?_;rintro _ V3 ⟨p3,s3,err,rfl,F3,hr⟩;have cL:D0 B w1 V3:=D0.trans (D0.none FG) F3;have H3:=hi2 cL hr;try go_simp
    refine hK _ _ cL ?_;clear hK K F3 hr cL;iterate 3
     refine oR ?_
    refine rQ fun K hK=>?_;refine hK _ _ (H3.1.alloc _) ?_;clear hK K;refine rQ fun K hK=>?_;obtain⟨b6,R1⟩:=eX V3.heap.size
    obtain⟨V5,M5⟩:=eX (V3.alloc (.cells #[iI p3,iI s3] 35))
    have F5:Fq V3 V5:=(by rw[<- M5];exact fR.alloc _);have g5:V5.heap[b6]?=some (.cells #[iI p3,iI s3] 35):=(by rw[<- M5,<- R1];exact han V3 _);have cM:=D0.trans H3.1 (D0.none F5);have H5:=hi2 g5 (aI cM ((PV (H1.1.J0 H1.2.1) H1.2.2.2 H3.1 H3.2).J0 F5));rw[R1,M5];refine hK _ _ cM ?_;clear hK K M5 F5 g5 cM;refine oR ?_
    try simp only[Act.put,sI,sZ,sS]
    refine o5 ?_;refine NoPanic.normal ?_;clear FG;obtain⟨y0,y1,yz,yl⟩:=cells2 H5.1;obtain⟨⟨i0,i1,i2,i3,i4,iz,il⟩,⟨o0,o1,o2,o3,o4,oz,ol⟩⟩:=HB.o V5 H5.2.1;rcases H5.2.2 with⟨rfl,he,hI⟩|⟨rfl,ha,U0⟩
    .obtain⟨rfl,rfl⟩:p3=r.1/\s3=r.2:=by rw[<- he];exact⟨rfl,rfl⟩
     have Bh:=hid (Iq hI HQ.1 HQ.2.1 oM hp oM);clear hI he;go_wp2_with fail
     refine Bh.mono ?_;rintro e V6 ⟨r6,d6,p6,va,n6,vc,err,rfl,F6,P8⟩;have lP:D0 B w1 V6:=D0.trans H5.2.1 F6;have H6:=hi2 lP (aI F6.size P8);clear y0 y1 yz yl i0 i1 i2 i3 i4 iz il o0 o1 o2 o3 o4 oz ol F6 P8;obtain⟨-,⟨o0,o1,o2,o3,o4,oz,ol⟩⟩:=HB.o V6 lP;clear lP;go_wp2_with fail
     have E3:=H1.2.2.1;have g4:=T5.o V6 H6.1;have Wh:w1<=(V5:Nat):=H5.2.1.size;refine bodyPost_ret (v:=tU #[mw r6 d6 p6 (sL va n6 vc),iI err]) sR rfl ⟨r6,d6,p6,va,n6,vc,err,rfl,?_,?_⟩
     .exact (D0.trans (D0.none H1.2.1) H6.1).trans' (aM V6 w.heap.size _ _ _ _ _) fun b hb e=>oM
     .rcases H6.2.2 with⟨rfl,hh,ho,hI⟩|⟨rfl,ha,U0⟩
      .refine .inl ⟨rfl,hh,?_,?_⟩
       .exact bi (ao ho oM) (aM V6 w.heap.size _ _ _ _ _) (fun g hg e=>by
         have:=(bK ho hg).1;omega)
       .exact (hI.mono oM hN).U2 (aM V6 w.heap.size _ _ _ _ _) g4 dC (E4 H1.1.st.base H1.1.st.jr)
      .exact .inr ⟨rfl,ha,(U0.mono oM).M3 (aM V6 w.heap.size _ _ _ _ _) g4 dC⟩
    .have HX:=hi2 ha U0;clear ha U0;go_wp2_with fail
     have E3:=H1.2.2.1;refine bodyPost_ret (v:=tU #[mw (0,0) 0 0 (sL none 0 0),iI 4]) sR rfl ⟨(0,0),0,0,none,0,0,4,rfl,?_,.inr ⟨rfl,HX.1,?_⟩⟩
     .exact (D0.trans (D0.none H1.2.1) H5.2.1).trans' (aM V5 w.heap.size _ _ _ _ _) fun b hb e=>oM
     .exact (HX.2.mono oM).M3 (aM V5 w.heap.size _ _ _ _ _) (T5 V5 H5.2.1) dC
   .refine fF _ gF rF fun K hK=>?_;go_simp;obtain⟨b6,R1⟩:=eX w1.heap.size
    obtain⟨V4,O4⟩:=eX ((w1.alloc (.cells #[iI 0,iI 0] 35)).drew)
    have F4:Fq w1 V4:=(by rw[<- O4];exact (fR.alloc _).drew);have g6:V4.heap[b6]?=some (.cells #[iI 0,iI 0] 35):=(by rw[<- O4,<- R1];exact han w1 _);rw[R1,O4];refine hK _ _ (D0.none F4) ?_;clear hK K O4;refine rQ fun K hK=>?_;refine (Ej _ F4).mono ?_;rintro _ V3 ⟨p3,s3,err,rfl,F3,hr⟩;have cL:D0 B w1 V3:=D0.trans (D0.none F4) F3;have nN:=D0.heap F3 g6 dC;have H3:=hi2 cL hr;try go_simp
    refine hK _ _ cL ?_;clear hK K F3 hr cL;iterate 3
     refine oR ?_
    refine rP fun K hK=>?_;obtain⟨y0,y1,yz,yl⟩:=cells2 nN;go_simp;obtain⟨V5,M5⟩:=eX ((V3.setCell b6 (iI p3)).setCell (aA b6 1) (iI s3))
    have F5:Fr (fun k=>k=b6) V3 V5:=(by rw[<- M5];exact ((Fr.refl (fun k=>k=b6) V3).setCell (a:=⟨b6,_,none⟩) (fun _=>rfl) _).setCell (a:=⟨b6,_,none⟩) (fun _=>rfl) _);have g5:V5.heap[b6]?=some (.cells #[iI p3,iI s3] 35):=(by rw[<- M5,hsc _ _ _ _ (hsc _ _ _ _ nN)];rfl);have cM:D0 B w1 V5:=D0.trans' H3.1 F5 fun b hb e=>oM;have H5:=hi2 g5 (aI cM ((PV (H1.1.J0 H1.2.1) H1.2.2.2 H3.1 H3.2).set F5 nN (by rw[<- R1];exact E4 H1.1.st.base (nT H1.1.st.jr H1.2.1.size))));rw[M5];refine hK _ _ cM ?_;clear hK K M5 F5 g5 cM y0 y1 yz yl nN g6;refine oR ?_
    try simp only[Act.put,sI,sZ,sS]
    refine o5 ?_;refine NoPanic.normal ?_;clear FG;obtain⟨y0,y1,yz,yl⟩:=cells2 H5.1;obtain⟨⟨i0,i1,i2,i3,i4,iz,il⟩,⟨o0,o1,o2,o3,o4,oz,ol⟩⟩:=HB.o V5 H5.2.1;rcases H5.2.2 with⟨rfl,he,hI⟩|⟨rfl,ha,U0⟩
    .obtain⟨rfl,rfl⟩:p3=r.1/\s3=r.2:=by rw[<- he];exact⟨rfl,rfl⟩
     have Bh:=hid (Iq hI HQ.1 HQ.2.1 oM hp oM);clear hI he;go_wp2_with fail
     refine Bh.mono ?_;rintro e V6 ⟨r6,d6,p6,va,n6,vc,err,rfl,F6,P8⟩;have lP:D0 B w1 V6:=D0.trans H5.2.1 F6;have H6:=hi2 lP (aI F6.size P8);clear y0 y1 yz yl i0 i1 i2 i3 i4 iz il o0 o1 o2 o3 o4 oz ol F6 P8;obtain⟨-,⟨o0,o1,o2,o3,o4,oz,ol⟩⟩:=HB.o V6 lP;clear lP;go_wp2_with fail
     have E3:=H1.2.2.1;have g4:=T5.o V6 H6.1;have Wh:w1<=(V5:Nat):=H5.2.1.size;refine bodyPost_ret (v:=tU #[mw r6 d6 p6 (sL va n6 vc),iI err]) sR rfl ⟨r6,d6,p6,va,n6,vc,err,rfl,?_,?_⟩
     .exact (D0.trans (D0.none H1.2.1) H6.1).trans' (aM V6 w.heap.size _ _ _ _ _) fun b hb e=>oM
     .rcases H6.2.2 with⟨rfl,hh,ho,hI⟩|⟨rfl,ha,U0⟩
      .refine .inl ⟨rfl,hh,?_,?_⟩
       .exact bi (ao ho oM) (aM V6 w.heap.size _ _ _ _ _) (fun g hg e=>by
         have:=(bK ho hg).1;omega)
       .exact (hI.mono oM hN).U2 (aM V6 w.heap.size _ _ _ _ _) g4 dC (E4 H1.1.st.base H1.1.st.jr)
      .exact .inr ⟨rfl,ha,(U0.mono oM).M3 (aM V6 w.heap.size _ _ _ _ _) g4 dC⟩
    .have HX:=hi2 ha U0;clear ha U0;go_wp2_with fail
     have E3:=H1.2.2.1;refine bodyPost_ret (v:=tU #[mw (0,0) 0 0 (sL none 0 0),iI 4]) sR rfl ⟨(0,0),0,0,none,0,0,4,rfl,?_,.inr ⟨rfl,HX.1,?_⟩⟩
     .exact (D0.trans (D0.none H1.2.1) H5.2.1).trans' (aM V5 w.heap.size _ _ _ _ _) fun b hb e=>oM
     .exact (HX.2.mono oM).M3 (aM V5 w.heap.size _ _ _ _ _) (T5 V5 H5.2.1) dC
  .refine fF _ gF rF fun K hK=>?_;go_simp;obtain⟨b6,R1⟩:=eX w1.heap.size
   obtain⟨V4,O4⟩:=eX ((w1.alloc (.cells #[iI 0,iI 0] 35)).drew)
   have F4:Fq w1 V4:=by rw[<- O4];exact (fR.alloc _).drew
   have g6:V4.heap[b6]?=some (.cells #[iI 0,iI 0] 35):=by rw[<- O4,<- R1];exact han w1 _
   rw[R1,O4];refine hK _ _ (D0.none F4) ?_;clear hK K O4;refine rQ fun K hK=>?_;refine (Eu _).mono ?_;rintro _ _ ⟨rfl,rfl⟩;try go_simp
   refine hK _ _ (D0.none F4) ?_;clear hK K;refine rQ fun K hK=>?_;refine (Ej _ F4).mono ?_;rintro _ V3 ⟨p3,s3,err,rfl,F3,hr⟩;have cL:D0 B w1 V3:=D0.trans (D0.none F4) F3;have nN:=D0.heap F3 g6 dC;have H3:=hi2 cL hr;try go_simp
   refine hK _ _ cL ?_;clear hK K F3 hr cL;iterate 3
    refine oR ?_
   refine rP fun K hK=>?_;obtain⟨y0,y1,yz,yl⟩:=cells2 nN;go_simp;obtain⟨V5,M5⟩:=eX ((V3.setCell b6 (iI p3)).setCell (aA b6 1) (iI s3))
   have F5:Fr (fun k=>k=b6) V3 V5:=by rw[<- M5];exact ((Fr.refl (fun k=>k=b6) V3).setCell (a:=⟨b6,_,none⟩) (fun _=>rfl) _).setCell (a:=⟨b6,_,none⟩) (fun _=>rfl) _
   have g5:V5.heap[b6]?=some (.cells #[iI p3,iI s3] 35):=by rw[<- M5,hsc _ _ _ _ (hsc _ _ _ _ nN)];rfl
   have cM:D0 B w1 V5:=D0.trans' H3.1 F5 fun b hb e=>oM;have H5:=hi2 g5 (aI cM ((PV (H1.1.J0 H1.2.1) H1.2.2.2 H3.1 H3.2).set F5 nN (by rw[<- R1];exact E4 H1.1.st.base (nT H1.1.st.jr H1.2.1.size))));rw[M5];refine hK _ _ cM ?_;clear hK K M5 F5 g5 cM y0 y1 yz yl nN g6;refine oR ?_
   try simp only[Act.put,sI,sZ,sS]
   refine o5 ?_;refine NoPanic.normal ?_;clear FG;obtain⟨y0,y1,yz,yl⟩:=cells2 H5.1;obtain⟨⟨i0,i1,i2,i3,i4,iz,il⟩,⟨o0,o1,o2,o3,o4,oz,ol⟩⟩:=HB.o V5 H5.2.1;rcases H5.2.2 with⟨rfl,he,hI⟩|⟨rfl,ha,U0⟩
   .obtain⟨rfl,rfl⟩:p3=r.1/\s3=r.2:=by rw[<- he];exact⟨rfl,rfl⟩
    have Bh:=hid (Iq hI HQ.1 HQ.2.1 oM hp oM);clear hI he;go_wp2_with fail
    refine Bh.mono ?_;rintro e V6 ⟨r6,d6,p6,va,n6,vc,err,rfl,F6,P8⟩;have lP:D0 B w1 V6:=D0.trans H5.2.1 F6;have H6:=hi2 lP (aI F6.size P8);clear y0 y1 yz yl i0 i1 i2 i3 i4 iz il o0 o1 o2 o3 o4 oz ol F6 P8;obtain⟨-,⟨o0,o1,o2,o3,o4,oz,ol⟩⟩:=HB.o V6 lP;clear lP;go_wp2_with fail
    have E3:=H1.2.2.1;have g4:=T5.o V6 H6.1;have Wh:w1<=(V5:Nat):=H5.2.1.size;refine bodyPost_ret (v:=tU #[mw r6 d6 p6 (sL va n6 vc),iI err]) sR rfl ⟨r6,d6,p6,va,n6,vc,err,rfl,?_,?_⟩
    .exact (D0.trans (D0.none H1.2.1) H6.1).trans' (aM V6 w.heap.size _ _ _ _ _) fun b hb e=>oM
    .rcases H6.2.2 with⟨rfl,hh,ho,hI⟩|⟨rfl,ha,U0⟩
     .refine .inl ⟨rfl,hh,?_,?_⟩
      .exact bi (ao ho oM) (aM V6 w.heap.size _ _ _ _ _) (fun g hg e=>by
        have:=(bK ho hg).1;omega)
      .exact (hI.mono oM hN).U2 (aM V6 w.heap.size _ _ _ _ _) g4 dC (E4 H1.1.st.base H1.1.st.jr)
     .exact .inr ⟨rfl,ha,(U0.mono oM).M3 (aM V6 w.heap.size _ _ _ _ _) g4 dC⟩
   .have HX:=hi2 ha U0;clear ha U0;go_wp2_with fail
    have E3:=H1.2.2.1;refine bodyPost_ret (v:=tU #[mw (0,0) 0 0 (sL none 0 0),iI 4]) sR rfl ⟨(0,0),0,0,none,0,0,4,rfl,?_,.inr ⟨rfl,HX.1,?_⟩⟩
    .exact (D0.trans (D0.none H1.2.1) H5.2.1).trans' (aM V5 w.heap.size _ _ _ _ _) fun b hb e=>oM
    .exact (HX.2.mono oM).M3 (aM V5 w.heap.size _ _ _ _ _) (T5 V5 H5.2.1) dC
 .refine fF _ gF rF fun K hK=>?_;go_simp;obtain⟨b6,R1⟩:=eX w1.heap.size
  obtain⟨V4,O4⟩:=eX ((w1.alloc (.cells #[iI 0,iI 0] 35)).drew)
  have F4:Fq w1 V4:=by rw[<- O4];exact (fR.alloc _).drew
  have g6:V4.heap[b6]?=some (.cells #[iI 0,iI 0] 35):=by rw[<- O4,<- R1];exact han w1 _
  rw[R1,O4];refine hK _ _ (D0.none F4) ?_;clear hK K O4;refine rQ fun K hK=>?_;refine (iA _ F4).mono ?_;rintro _ _ ⟨rfl,rfl⟩;try go_simp
  refine hK _ _ (D0.none F4) ?_;clear hK K;refine rQ fun K hK=>?_;refine (Eu _).mono ?_;rintro _ _ ⟨rfl,rfl⟩;try go_simp
  refine hK _ _ (D0.none F4) ?_;clear hK K;refine rQ fun K hK=>?_;refine (Ej _ F4).mono ?_;rintro _ V3 ⟨p3,s3,err,rfl,F3,hr⟩;have cL:D0 B w1 V3:=D0.trans (D0.none F4) F3;have nN:=D0.heap F3 g6 dC;have H3:=hi2 cL hr;try go_simp
  refine hK _ _ cL ?_;clear hK K F3 hr cL;iterate 3
   refine oR ?_
  refine rP fun K hK=>?_;obtain⟨y0,y1,yz,yl⟩:=cells2 nN;go_simp;obtain⟨V5,M5⟩:=eX ((V3.setCell b6 (iI p3)).setCell (aA b6 1) (iI s3))
  have F5:Fr (fun k=>k=b6) V3 V5:=by rw[<- M5];exact ((Fr.refl (fun k=>k=b6) V3).setCell (a:=⟨b6,_,none⟩) (fun _=>rfl) _).setCell (a:=⟨b6,_,none⟩) (fun _=>rfl) _
  have g5:V5.heap[b6]?=some (.cells #[iI p3,iI s3] 35):=by rw[<- M5,hsc _ _ _ _ (hsc _ _ _ _ nN)];rfl
  have cM:D0 B w1 V5:=D0.trans' H3.1 F5 fun b hb e=>oM;have H5:=hi2 g5 (aI cM ((PV (H1.1.J0 H1.2.1) H1.2.2.2 H3.1 H3.2).set F5 nN (by rw[<- R1];exact E4 H1.1.st.base (nT H1.1.st.jr H1.2.1.size))));rw[M5];refine hK _ _ cM ?_;clear hK K M5 F5 g5 cM y0 y1 yz yl nN g6;refine oR ?_
  try simp only[Act.put,sI,sZ,sS]
  refine o5 ?_;refine NoPanic.normal ?_;clear FG;obtain⟨y0,y1,yz,yl⟩:=cells2 H5.1;obtain⟨⟨i0,i1,i2,i3,i4,iz,il⟩,⟨o0,o1,o2,o3,o4,oz,ol⟩⟩:=HB.o V5 H5.2.1;rcases H5.2.2 with⟨rfl,he,hI⟩|⟨rfl,ha,U0⟩
  .obtain⟨rfl,rfl⟩:p3=r.1/\s3=r.2:=by rw[<- he];exact⟨rfl,rfl⟩
   have Bh:=hid (Iq hI HQ.1 HQ.2.1 oM hp oM);clear hI he;go_wp2_with fail
   refine Bh.mono ?_;rintro e V6 ⟨r6,d6,p6,va,n6,vc,err,rfl,F6,P8⟩;have lP:D0 B w1 V6:=D0.trans H5.2.1 F6;have H6:=hi2 lP (aI F6.size P8);clear y0 y1 yz yl i0 i1 i2 i3 i4 iz il o0 o1 o2 o3 o4 oz ol F6 P8;obtain⟨-,⟨o0,o1,o2,o3,o4,oz,ol⟩⟩:=HB.o V6 lP;clear lP;go_wp2_with fail
   have E3:=H1.2.2.1;have g4:=T5.o V6 H6.1;have Wh:w1<=(V5:Nat):=H5.2.1.size;refine bodyPost_ret (v:=tU #[mw r6 d6 p6 (sL va n6 vc),iI err]) sR rfl ⟨r6,d6,p6,va,n6,vc,err,rfl,?_,?_⟩
   .exact (D0.trans (D0.none H1.2.1) H6.1).trans' (aM V6 w.heap.size _ _ _ _ _) fun b hb e=>oM
   .rcases H6.2.2 with⟨rfl,hh,ho,hI⟩|⟨rfl,ha,U0⟩
    .refine .inl ⟨rfl,hh,?_,?_⟩
     .exact bi (ao ho oM) (aM V6 w.heap.size _ _ _ _ _) (fun g hg e=>by
       have:=(bK ho hg).1;omega)
     .exact (hI.mono oM hN).U2 (aM V6 w.heap.size _ _ _ _ _) g4 dC (E4 H1.1.st.base H1.1.st.jr)
    .exact .inr ⟨rfl,ha,(U0.mono oM).M3 (aM V6 w.heap.size _ _ _ _ _) g4 dC⟩
  .have HX:=hi2 ha U0;clear ha U0;go_wp2_with fail
   have E3:=H1.2.2.1;refine bodyPost_ret (v:=tU #[mw (0,0) 0 0 (sL none 0 0),iI 4]) sR rfl ⟨(0,0),0,0,none,0,0,4,rfl,?_,.inr ⟨rfl,HX.1,?_⟩⟩
   .exact (D0.trans (D0.none H1.2.1) H5.2.1).trans' (aM V5 w.heap.size _ _ _ _ _) fun b hb e=>oM
   .exact (HX.2.mono oM).M3 (aM V5 w.heap.size _ _ _ _ _) (T5 V5 H5.2.1) dC
end Go.Proofs.YtgdhaaokolfdoaaGreatDoor
namespace Go.Sg
open Go.RowKit
section
variable {P:Program}
def NP (w:w9)(dT sT ty elem:TypeId)(size m:Nat)(g o dLen dCap:Nat)(a:Addr)(sLen sCap:Nat)(cur:Array Value)(t:TypeId)(cs:List Value)
  (hu:P.underlying dT=some (.slice elem)) (hs:(P.info? elem).map (·.size)=some size)
  (hg:w.heap[g]?=some (.cells cur t (0,0))) (hm:Nat.min sLen dLen=m) (hn:cs.length=m*size)
  (df:∀ j v,cs[j]?=some v->w.cell? (a.add j)=some v) (O3:o+cs.length<=cur.size) (h1:∀ v ∈ cs,v.oneCell'=true) :
  (Builtin.copy_ #[dT,sT] ty #[sL (aP g o) dLen dCap,sL (some a) sLen sCap]).run P w =
   .ok (goInt m) (w.setRow g (cur.toList.take o++cs++cur.toList.drop (o+cs.length)).toArray):=by
 have hl:=run_loadCells_list (P:=P) w a cs df;have hst:=run_storeCells_at P g o t cs 0 cur w hg (by simpa using O3) h1;cases hq:P.info? elem with
 | none=>simp[hq] at hs
 | some i =>
  have hi:i.size=size:=by simpa[hq] using hs
  simp[Builtin.copy_,run_underlying hu,Builtin.lenOf,Builtin.firstCells,sizeOf,typeInfo,hq,hi,hm,<- hn,hl,hst]
def ek0 (w:w9)(t e ty:TypeId)(z:Value)(size:Nat)(ht:P.underlying t=some (.slice e))(hv:∀ w,(zeroValue e).run P w = .ok z w)(hz:z.cells.size=size)(h0:0<size)(h1:∀ v ∈ z.cells.toList,v.oneCell'=true)
  (g o n c:Nat) (hn:0<n) (cur:Array Value) (te:TypeId) (hg:w.heap[g]?=some (.cells cur te (0,0))) (O3:o+n*size<=cur.size) :
  ∃ zs:List Value,zs.length=n*size/\(Builtin.clear_ #[t] ty #[sL (aP g o) n c]).run P w = .ok (tU #[]) (w.setRow g (cur.toList.take o++zs++cur.toList.drop (o+zs.length)).toArray):=by
 have hl:(Builtin.zeroCells z.cells n).toList.length=n*size:=by rw[ow,size_zeroCells,hz]
 refine⟨(Builtin.zeroCells z.cells n).toList,hl,?_⟩;have hst:=run_storeCells_at P g o te (Builtin.zeroCells z.cells n).toList 0 cur w hg (by rw[hl];omega) (by
  intro v hv;simp only[Builtin.zeroCells,Array.toList_map,N4] at hv;obtain⟨i,_,rfl⟩:=hv;have hi:i % z.cells.size<z.cells.size:=rm _ oM;rw[getElem!_pos z.cells _ hi];exact h1 _ sP)
 obtain⟨m,rfl⟩:∃ m,n=m+1:=⟨n-1,oM⟩
 simp[Builtin.clear_,run_underlying ht,hv,hst]
variable {w w':w9}{o:Oper}{a:Act}{K:Act->World->Prop}{Q:Exit->Act->World->Prop}{v':Value}{ops:Array Oper}{E:Prop}
def kz0 (s x:Operand)(t t':TypeId)
  (ho:o.op = .call { callee:=.builtin .append,args:=#[s,x],argTypes:=#[t,t'] }) (v u:Value) (hs:a.eval s=v) (hx:a.eval x=u)
  (hr:(Builtin.append_ #[t,t'] o.type #[v,u]).run P w = .ok v' w') (h:K (a.put o.dst v') w'):o.wp P a w K Q:=by
 unfold Oper.wp execOp;simp only[ho,resolve,invoke,builtin,Sem.run_bind,Sem.run_pure,Result.andThen_ok,Qu,qf,xX,hs,hx,hr];exact h
def ji0 {rest:List Oper}(lF:o.guard=none)(s x:Operand)(t t':TypeId)
  (ho:o.op = .call { callee:=.builtin .append,args:=#[s,x],argTypes:=#[t,t'] }) (v u:Value) (hs:a.eval s=v) (hx:a.eval x=u)
  (hr:(Builtin.append_ #[t,t'] o.type #[v,u]).run P w = .ok v' w') (h:wpList P ops Q rest (a.put o.dst v') w'):wpList P ops Q (o :: rest) a w:=
 wpList_plain lF fun _ hK=>kz0 s x t t' ho v u hs hx hr (hK _ _ h)
def mP0 (lF:o.guard=none)(s x:Operand)(t t':TypeId)
  (ho:o.op = .call { callee:=.builtin .append,args:=#[s,x],argTypes:=#[t,t'] }) (v u:Value) (hs:a.eval s=v) (hx:a.eval x=u)
  (hr:(Builtin.append_ #[t,t'] o.type #[v,u]).run P w = .ok v' w') (h:K (a.put o.dst v') w'):if Region.wanted o (yielded ops a.tmps)=true then Oper.wp P o a w K Q else E:=by
 have hw:Region.wanted o (yielded ops a.tmps)=true:=by simp[Region.wanted,lF]
 rw[if_pos hw];exact kz0 s x t t' ho v u hs hx hr h
def wp_copy_run (s x:Operand)(t t':TypeId)
  (ho:o.op = .call { callee:=.builtin .copy,args:=#[s,x],argTypes:=#[t,t'] }) (v u:Value) (hs:a.eval s=v) (hx:a.eval x=u)
  (hr:(Builtin.copy_ #[t,t'] o.type #[v,u]).run P w = .ok v' w') (h:K (a.put o.dst v') w'):o.wp P a w K Q:=by
 unfold Oper.wp execOp;simp only[ho,resolve,invoke,builtin,Sem.run_bind,Sem.run_pure,Result.andThen_ok,Qu,qf,xX,hs,hx,hr];exact h
def fX0 (lF:o.guard=none)(s x:Operand)(t t':TypeId)
  (ho:o.op = .call { callee:=.builtin .copy,args:=#[s,x],argTypes:=#[t,t'] }) (v u:Value) (hs:a.eval s=v) (hx:a.eval x=u)
  (hr:(Builtin.copy_ #[t,t'] o.type #[v,u]).run P w = .ok v' w') (h:K (a.put o.dst v') w'):if Region.wanted o (yielded ops a.tmps)=true then Oper.wp P o a w K Q else E:=by
 have hw:Region.wanted o (yielded ops a.tmps)=true:=by simp[Region.wanted,lF]
 rw[if_pos hw];exact wp_copy_run s x t t' ho v u hs hx hr h
end
def Bw (w:w9)(g:Nat)(cs:Array Value):Fr (fun b=>b=g) w (w.setRow g cs):=
 ⟨rfl,rfl,rfl,by simp,fun b _ hn=>setRow_other w g b cs hn⟩
end Go.Sg
namespace Go.Proofs.YtgdhaaokolfdoaaGreatDoor
open Go.RowKit Go.Sg CP SF Tryz
def QX (a:Option Addr)(n c m:Nat)(h:m<=c)(W:w9):(Instr.slice 127 (sL a n c) none (some (iI m)) none).run prog W = .ok (sL a m c) W:=Oq 127 4 kF (fun W=>by kernel_rfl) a n c m h W
def BO (g n c m:Nat)(h:m<=n)(hc:m<c)(W:w9):(Instr.slice 127 (sL g n c) (some (iI m)) none none).run prog W = .ok (sL (aP g (m*4)) (n-m) (c-m)) W:=by
 rw[Bu 127 4 kF (fun W=>by kernel_rfl) _ n c m h W,if_neg oM];simp[kU]
def Bb0 (g n c l h:Nat)(h1:l<=h)(h2:h<=c)(hc:l<c)(W:w9):(Instr.slice 127 (sL g n c) (some (iI l)) (some (iI h)) none).run prog W = .ok (sL (aP g (l*4)) (h-l) (c-l)) W:=by
 rw[run_slice_lh W 127 _ n c kF .i64 .i64 l h oM oM oM];rw[show ((sizeOf (prog.elem 127)).run prog W) = .ok 4 W by kernel_rfl];simp only[Result.andThen_ok,sliced,jK];rw[if_neg oM];simp[kU]
def Bc0 (g n c l h m:Nat)(h1:l<=h)(h2:h<=m)(h3:m<=c)(W:w9):∃ v,∀ W,(Instr.slice 127 (sL g n c) (some (iI l)) (some (iI h)) (some (iI m))).run prog W = .ok v W:=by
 refine⟨sliced (some ⟨g,0,none⟩) l h m 4,fun W=>?_⟩;rw[run_slice_lhm W 127 _ n c kF .i64 .i64 .i64 l h m oM oM oM oM];rw[show ((sizeOf (prog.elem 127)).run prog W) = .ok 4 W by kernel_rfl];simp only[Result.andThen_ok,jK]
def Hs (w:w9):(zeroValue 118).run prog w = .ok (.agg #[iU 0,iI 0,iI 0,iI 0]) w:=by kernel_rfl
def Ys (es:List Bt):∀ u ∈ es.flatMap Q1,u.oneCell'=true:=by
 intro u hu;obtain⟨x,_,hx⟩:=ui.1 hu;simp[Q1] at hx;rcases hx with rfl|rfl|rfl|rfl <;> rfl
variable {w:w9}{base c d g i j k p q:Nat}{v:Value}{es:List Bt}{cur:Array Value}
def WD (h:Y3 w base v es)(hn:0<es.length):∃ g c cur,v = sL (aP g 0) es.length c/\base<=g/\w.heap[g]?=some (.cells cur 118)/\es.length<=c/\c<=maxLen/\cur.size=c*4/\cur.toList.take (es.length*4)=es.flatMap Q1:=by
 obtain⟨hl,⟨h0,h1⟩|⟨g,c,cur,r⟩⟩:=h
 .omega
 .exact⟨g,c,cur,r⟩
def Oy (hb:base<=g)(hg:w.heap[g]?=some (.cells cur 118))(hc:es.length<=c)(hm:c<=maxLen)(hs:cur.size=c*4)(ht:cur.toList.take (es.length*4)=es.flatMap Q1):Y3 w base (sL g es.length c) es:=
 ⟨jX es,.inr ⟨g,c,cur,rfl,hb,hg,hc,hm,hs,ht⟩⟩
def XO (es:List Bt):∀ k:Nat,(es.flatMap Q1).take (k*4)=(es.take k).flatMap Q1:=by
 induction es with
 | nil=>intro k;simp
 | cons x es ih =>
  intro k;cases k with
  | zero=>simp
  | succ k =>
   rw[dj,Qk,dj,<- ih k,show (k+1)*4=4+k*4 by omega];simp[Q1,show 4+k*4=k*4+1+1+1+1 by omega]
def PX (es:List Bt):∀ k:Nat,(es.flatMap Q1).drop (k*4)=(es.drop k).flatMap Q1:=by
 induction es with
 | nil=>intro k;simp
 | cons x es ih =>
  intro k;cases k with
  | zero=>simp
  | succ k =>
   rw[dj,List.drop_succ_cons,<- ih k,show (k+1)*4=4+k*4 by omega];simp[Q1,show 4+k*4=k*4+1+1+1+1 by omega]
def oK0 {cur:List Value}(h:cur.take (es.length*4)=es.flatMap Q1)(hk:k<=es.length):cur.take (k*4)=(es.take k).flatMap Q1:=by
 rw[<- XO,<- h,List.take_take];congr 1;omega
def Mu (base:Nat)(v:Value)(out:List Bt)(w:w9)(e:Ending)(w':w9):Prop:=∃ v',e = rT v'/\Y3 w' base v' out/\Fr (fun b=>v.ownBlock=some b) w w'
def iu0 (hE : Y3 w base v es) (hl : es.length <= 255) (i j : Nat) (hi : i < es.length) (hj : j = i + 1) :
    cP 135 #[v,iI i,iI j] w (Mu base v (es.eraseIdx i) w):=by
  obtain⟨i0,A3,J1,M1,O1⟩:=info_parts eP;obtain⟨g,c,cur,rfl,hb,hg,hc,hm,hs,ht⟩:=WD hE oM;obtain⟨n,hn⟩:=eX es.length
  rw[hn] at hi hl hc ht ⊢;obtain⟨m1,vw⟩:=eX (i+(n-j))
  have hm1n:m1+1=n:=oM
  have JF:c<=9223372036854775807:=by simpa[maxLen] using hm
  obtain⟨v0,iM⟩:=Bc0 g n c i j n oM oM hc w;have du:=fun W=>QX (some ⟨g,0,none⟩) n c i oM W
  have CW:((i:Int) == (j:Int))=false:=by simp;omega
  obtain⟨news,kE⟩:=xe ((es.drop j).flatMap Q1)
  have Dl:news.length=(n-j)*i0.size:=by rw[kE,jX,ed,hn,M1]
  obtain⟨A,hA,df⟩:∃ A:Addr,(∀ W,(Instr.slice 127 (sL g n c) (some (iI j)) none none).run prog W = .ok (sL (some A) (n-j) (c-j)) W)/\∀ t u,news[t]?=some u->w.drew.cell? (A.add t)=some u:=by
    by_cases hjc:j<c
    . refine⟨⟨g,j*4,none⟩,fun W=>BO g n c j oM hjc W,fun t u hu=>?_⟩;rw[kU];show w.cell? _=_;rw[G0 hg];rw[kE,<- PX,jJ,<- ht,gT] at hu;split at hu
      . simpa using hu
      . cases hu
    . refine⟨⟨g,0,none⟩,fun W=>?_,fun t u hu=>?_⟩
      . rw[Bu 127 4 kF (fun W=>by kernel_rfl) _ n c j oM W,if_pos oM]
      . have : news = [] := vH (by rw [Dl]; have : n - j = 0 := by omega
                                   rw[this,uk])
        rw[this] at hu;simp at hu
  obtain⟨I2,K6⟩:=xe ((cur.toList.take (i*i0.size)++news++cur.toList.drop (i*i0.size+news.length)).toArray)
  have O3:i*i0.size+news.length<=cur.size:=by rw[Dl,hs,M1,<- DU];exact Nat.mul_le_mul_right _ oM
  have Cn:∀ ty,(Builtin.append_ #[127,127] ty #[sL g i c,sL (some A) (n-j) (c-j)]).run prog w.drew = .ok (sL g m1 c) (w.drew.setRow g I2):=fun ty=>by
    have:=run_append_room (P:=prog) w.drew 127 ty 118 i0 underlying127 A3 g i c cur hg A (n-j) (c-j) news Dl df (by rw[kE];exact Ys _) oM O3;rw[vw,<- K6] at this;exact this
  have E3:I2.size=c*4:=by
    rw[K6];simp only[zA,lA,lT,ed,ow];omega
  obtain⟨W1,M2⟩:=eX (w.drew.setRow g I2)
  have cD:W1.heap[g]?=some (.cells I2 118):=by rw[<- M2];exact setRow_heap _ g cur I2 118 _ hg
  have cB:=fun W=>Bb0 g m1 c m1 n oM hc oM W
  rw[show n-m1=1 by omega] at cB;obtain⟨zs,xR,B6⟩:=ek0 (P:=prog) W1 127 118 (0:Nat) _ 4 underlying127 Hs rfl dC (by simp[Value.cells,Value.oneCell']) g (m1*4) 1 (c-m1) dC I2 118 cD (by rw[E3];omega);have xp:∀ ty,(Builtin.clear_ #[127] ty #[sL (aP g (m1*4)) 1 (c-m1)]).run prog W1 = .ok (tU #[]) (W1.setRow g (I2.toList.take (m1*4)++zs++I2.toList.drop (m1*4+zs.length)).toArray):=fun _=>B6
  clear B6;obtain⟨of4,ho4⟩:=eX (m1*4)
  obtain⟨R5,S4⟩:=xe ((I2.toList.take (m1*4)++zs++I2.toList.drop (m1*4+zs.length)).toArray)
  rw[<- S4] at xp;-- what stands there in the end
  have S7:Y3 (W1.setRow g R5) base (sL g m1 c) (es.eraseIdx i):=by
    have hlen:(es.eraseIdx i).length=m1:=(by rw[List.length_eraseIdx_of_lt oM];omega);have db:=setRow_heap W1 g I2 R5 118 _ cD;have:=Oy (es:=es.eraseIdx i) (c:=c) hb db oM hm (by
      rw[S4];simp only[zA,lA,lT,ed,ow];omega) (by
      rw[hlen,S4];simp only[dD];rw[FK (by rw[lT,ow];omega),List.take_take,Nat.min_self,K6];have h4:(cur.toList.take (i*i0.size))=(es.take i).flatMap Q1:=by
        rw[M1];exact oK0 (by rw[hn];exact ht) oM
      rw[h4,kE,List.eraseIdx_eq_take_drop_succ,dY,hj];exact Mo (by
        simp only[lA,jX,lT,ed];omega))
    rw[hlen] at this;exact this
  have o7:Fr (fun b=>b=g) w (W1.setRow g R5):=by
    rw[<- M2];exact ((Fr.refl (fun b=>b=g) _).drew.trans (Bw _ g I2) nI).trans (Bw _ g R5) nI
  rw[ho4] at xp cB;rw[M2] at Cn;have aa:=hi2 S7 o7;have HAp:=hid Cn;clear hE hb hg hs ht hm kE Dl df K6 O3 Cn E3 M2 cD xR ho4 S4 S7 o7 J1 M1 O1 A3 hn hj;go_enter func135,ntmps135;go_wp2_with fail
  go_region_law (refine mP0 rfl (.tmp 22) (.tmp 25) 127 127 rfl _ _ (by simp[Act.eval,Act.put]) (by simp[Act.eval,Act.put]) (HAp _) ?_)
  go_wp2_with fail
  go_ret;refine⟨_,rfl,aa.1,aa.2.mono fun b _ h=>by subst h;rfl⟩
def Om (h:i+1=j)(hj:j<=1048576):wrap64 ((i:Int)+1)=(j:Int):=by simp only[wrap64];omega
def jT0 (h:i+1=j)(hj:j<=1048576):IntKind.i64.wrap ((i:Int)+1)=(j:Int):=by rw[IntKind.wrap_i64];omega
def uG0 {a b:Nat}(h:a-b=k)(hb:b<=a)(ha:a<=1048576):wrap64 ((a:Int)-(b:Int))=(k:Int):=by simp only[wrap64];omega
def fi (es:List Bt)(i:Nat)(x:Bt):List Bt:=es.take i++x :: es.drop i
def OQ (h:i<=es.length)(x:Bt):(fi es i x).length=es.length+1:=by
 simp[fi,lT,ed];omega
def TE (es:List Bt)(i:Nat)(x:Bt):(fi es i x).flatMap Q1=(es.take i).flatMap Q1++(Q1 x++(es.drop i).flatMap Q1):=by
 simp[fi,dY,dj]
def nA:(prog.info? 118).map (·.size)=some 4:=by kernel_rfl
def jn0 {c d:Array Value}(hq:w.heap[q]?=some (.cells c 118))(hg:w.heap[g]?=some (.cells d 118))(hne:q≠g)(hd:d.size≠0)(o m cm lb cb:Nat) :
  (callFunc 253 #[sL q m cm,sL (aP g o) lb cb]).run prog w = .ok (.value (bO false)) w:=by
 rw[run_callFunc_extern func253 kF kF kF (e:=Extern.SlicesOverlaps.overlaps #[127,127] #[4]) kF,
  Lib.run_overlaps_apart w 127 4 118 underlying127 4 (fun W=>by kernel_rfl) ⟨q,0,none⟩ ⟨g,o,none⟩ m cm lb cb hne 118 118 c.size d.size (by simp[World.shape?,hq]) (by simp[World.shape?,hg]) hd (X2 hq 0) (X2 hq c.size)]
 rfl
def qP0 (hE:Y3 w base v es)(hl:es.length<=254)(Z0:base<=w)(i:Nat)(hi:i=es.length)(x:Bt)(hq:w.heap[q]?=some (.cells #[iU x.hash,iI x.rg,iI x.at_,iI x.sz] 118)) :
  cP 201 #[v,iI i,sL q 1 1] w (Mu base v (fi es i x) w):=by
 obtain⟨i0,A3,J1,M1,O1⟩:=info_parts eP;obtain⟨va,vc,rfl,xG,-,-,-⟩:=A2 hE;have hw:fi es i x=es++[x]:=by unfold fi;rw[hi,List.take_length,List.drop_length]
 rw[hw];have HE:=hi2 hE hl;obtain⟨n,hn⟩:=eX es.length
 rw[hn] at hi hl xG hE ⊢;subst hi;obtain⟨v0,iM⟩:∃ v0,∀ W,(Instr.slice 127 (sL va i vc) (some (iI i)) none none).run prog W = .ok v0 W:=⟨_,fun W=>Bu 127 4 kF (fun W=>by kernel_rfl) va i vc i (nR _) W⟩
 have HN:=hid hn;have HB:=hid Z0;have HS:=hid (show rx w (sL q 1 1) 1 (Q1 x) from⟨_,1,rfl,.inr ⟨_,rfl,fun j u hj=>by rw[kU,o8,G0 hq];simpa using hj⟩⟩);have HO:=hid hE;clear hE hl Z0 hq hn xG hw;go_enter func201,ntmps201;go_wp2_with (at_builtin;refine mq rfl (.tmp 23) (.tmp 24) 127 rfl base 118 i0 _ 4 32 underlying127 A3 J1 M1 O1 rfl dC _ _ _ rfl HO _ 1 (Q1 x) rfl HS (by simp[Q1]) (by intro u hu;simp[Q1] at hu;rcases hu with rfl|rfl|rfl|rfl <;> rfl) (by have:=HE.2;have:=HN.o;simp[maxLen];omega) (by have:=HE.2;have:=HN.o;omega) HB.o ?_)
 intro v3 W3 K0 Q3 mT;have F3:Fr (fun b=>(sL va i vc).ownBlock=some b) w W3:=⟨Q3.os,Q3.tape,Q3.output,Q3.size,fun b hb hn=>Q3.block b hb fun e=>hn e.symm⟩;have H3:=hi2 (show Y3 W3 base v3 (es++[x]) by
  show W3.ownsRow base 118 4 v3 (es++[x]).length ((es++[x]).flatMap Q1);rw[lA,dY];simpa using K0) F3
 clear K0 Q3 mT F3;go_wp2_with fail
 go_ret;exact⟨_,rfl,H3.1,H3.2⟩
def nO0 (hb:base<=g)(hg:w.heap[g]?=some (.cells cur 118))(hc:es.length<=c)(hm:c<=maxLen)(hs:cur.size=c*4)(ht:cur.toList.take (es.length*4)=es.flatMap Q1)(hl:es.length<=254)(i:Nat)(hi:i<es.length)(hroom:es.length+1<=c)
  (x:Bt) (hq:w.heap[q]?=some (.cells #[iU x.hash,iI x.rg,iI x.at_,iI x.sz] 118)) (hne:q≠g) :
  cP 201 #[sL g es.length c,iI i,sL q 1 1] w (Mu base (sL g es.length c) (fi es i x) w):=by
 have hlen:=OQ (FU hi) x;have T6:(es.drop i).length=es.length-i:=ed;obtain⟨n,hn⟩:=eX es.length
 rw[hn] at hi hl hc ht hroom hlen T6 ⊢;obtain⟨n1,ax⟩:=eX (n+1)
 obtain⟨j,hj⟩:=eX (i+1)
 rw[ax] at hroom hlen;have JF:c<=9223372036854775807:=by simpa[maxLen] using hm
 have iM:=fun W=>BO g n c i oM oM W
 have kA:((i:Int) == (n:Int))=false:=by simp;omega
 have R6:=hid (show wrap64 ((n:Int)+1)=(n1:Int) from Om ax oM);have fw:=hid (show wrap64 ((i:Int)+1)=(j:Int) from Om hj oM);have fx:=hid (show IntKind.i64.wrap ((i:Int)+1)=(j:Int) from jT0 hj oM);have av:decide (c<n1)=false:=by simp;omega
 have ic:decide ((c:Int)<(n1:Int))=false:=by simp;omega
 have du:=fun W=>QX (some ⟨g,0,none⟩) n c n1 hroom W
 have cB:=fun W=>BO g n1 c j oM oM W
 have T9:=fun W=>BO g n1 c i oM oM W
 have hov:=fun lb cb=>jn0 hq hg hne (by rw[hs];omega) (j*4) 1 1 lb cb
 obtain⟨cs,hcs⟩:=xe ((es.drop i).flatMap Q1)
 have B6:cs.length=(n1-j)*4:=by rw[hcs,jX,T6];congr 1;omega
 obtain⟨I2,K6⟩:=xe ((cur.toList.take (j*4)++cs++cur.toList.drop (j*4+cs.length)).toArray)
 have E3:I2.size=c*4:=by
  rw[K6];simp only[zA,lA,lT,ed,ow];omega
 have iS:∀ ty,(Builtin.copy_ #[127,127] ty #[sL (aP g (j*4)) (n1-j) (c-j),sL (aP g (i*4)) (n1-i) (c-i)]).run prog w.drew = .ok (goInt ((n1-j:Nat):Int)) (w.drew.setRow g I2):=fun ty=>by
  rw[K6];exact NP w.drew 127 127 ty 118 4 (n1-j) g (j*4) (n1-j) (c-j) ⟨g,i*4,none⟩ (n1-i) (c-i) cur 118 cs underlying127 nA hg (by simp only[Nat.min_def];split <;> omega) B6 (fun t u hu=>by
   rw[kU];show w.cell? _=_;rw[G0 hg];rw[hcs,<- PX,jJ,<- ht,gT] at hu;split at hu
   .simpa using hu
   .cases hu) (by rw[B6,hs];omega) (by rw[hcs];exact Ys _)
 obtain⟨W1,M2⟩:=eX (w.drew.setRow g I2)
 have cD:W1.heap[g]?=some (.cells I2 118):=by rw[<- M2];exact setRow_heap _ g cur I2 118 _ hg
 have mU:W1.heap[q]?=some (.cells #[iU x.hash,iI x.rg,iI x.at_,iI x.sz] 118):=by rw[<- M2,setRow_other _ g q _ hne];exact hq
 obtain⟨R5,S4⟩:=xe ((I2.toList.take (i*4)++Q1 x++I2.toList.drop (i*4+(Q1 x).length)).toArray)
 have ky:∀ ty,(Builtin.copy_ #[127,127] ty #[sL (aP g (i*4)) (n1-i) (c-i),sL q 1 1]).run prog W1 = .ok (goInt 1) (W1.setRow g R5):=fun ty=>by
  rw[S4];exact NP W1 127 127 ty 118 4 1 g (i*4) (n1-i) (c-i) ⟨q,0,none⟩ 1 1 I2 118 (Q1 x) underlying127 nA cD (by simp only[Nat.min_def];split <;> omega) (by simp[Q1]) (fun t u hu=>by
   rw[kU,o8,G0 mU];simpa using hu) (by rw[E3];simp[Q1];omega) (by intro u hu;simp[Q1] at hu;rcases hu with rfl|rfl|rfl|rfl <;> rfl)
 have S7:Y3 (W1.setRow g R5) base (sL g n1 c) (fi es i x):=by
  have db:=setRow_heap W1 g I2 R5 118 _ cD;have:=Oy (es:=fi es i x) (c:=c) hb db oM hm (by
   rw[S4];simp only[zA,lA,lT,ed,ow,show (Q1 x).length=4 from rfl];omega) (by
   rw[hlen,TE,S4];have e1:I2.toList.take (i*4)=(es.take i).flatMap Q1:=by
    rw[K6];simp only[dD];rw[FK (by rw[lT,ow];omega),List.take_take,show min (i*4) (j*4)=i*4 by omega];exact oK0 (by rw[hn];exact ht) oM
   have e2:I2.toList.drop (i*4+(Q1 x).length)=cs++cur.toList.drop (j*4+cs.length):=by
    rw[K6,show i*4+(Q1 x).length=j*4 by simp[Q1];omega];simp only[dD];exact List.drop_left' (by rw[lT,ow];omega)
   rw[e1,e2,<- hcs];simp only[dD];rw[<- dD (Q1 x),<- dD];exact Mo (by
    simp only[lA,jX,lT,hn,B6,show (Q1 x).length=4 from rfl];omega))
  rw[hlen] at this;exact this
 have o7:Fr (fun b=>b=g) w (W1.setRow g R5):=by
  rw[<- M2];exact ((Fr.refl (fun b=>b=g) _).drew.trans (Bw _ g I2) nI).trans (Bw _ g R5) nI
 rw[M2] at iS;obtain⟨oj,zR⟩:=eX (j*4)
 obtain⟨oi,tI⟩:=eX (i*4)
 obtain⟨lj,Db⟩:=eX (n1-j)
 obtain⟨li,Kl⟩:=eX (n1-i)
 rw[zR,tI,Db,Kl] at iS;rw[tI,Kl] at ky;rw[tI] at iM;rw[tI,Kl] at T9;rw[zR,Db] at cB;rw[zR] at hov;have aa:=hi2 S7 o7;have fq:=hid iS;have oJ:=hid ky;clear hb hg hs ht hm hcs B6 K6 iS E3 M2 cD hq mU S4 ky S7 o7 hn zR tI Db Kl hlen T6;subst ax;subst hj;simp only[Int.natCast_add,Int.natCast_one] at du cB ic;have K7:IntKind.i64.wrap ((i:Int)+1)=(i:Int)+1:=by have:=fx.o;simpa using this
 have ky:=oJ.o;go_enter func201,ntmps201;go_wp2_with (simp only[hov])
 go_region_law (refine fX0 rfl (.tmp 73) (.tmp 76) 127 127 rfl _ _ (by simp[Act.eval,Act.put]) (by simp[Act.eval,Act.put]) (fq _) ?_)
 go_wp2_with fail
 go_ret;exact⟨_,rfl,aa.1,aa.2.mono fun b _ h=>by subst h;rfl⟩
def nP0 (hg:w.heap[g]?=some (.cells cur 118))(hc:es.length<=c)(hm:c<=maxLen)(ht:cur.toList.take (es.length*4)=es.flatMap Q1)(hl:es.length<=254)(Z0:base<=w)(i:Nat)(hi:i<es.length)(hroom:¬ es.length+1<=c)
  (x:Bt) (hq:w.heap[q]?=some (.cells #[iU x.hash,iI x.rg,iI x.at_,iI x.sz] 118)) :
  cP 201 #[sL g es.length c,iI i,sL q 1 1] w (Mu base (sL g es.length c) (fi es i x) w):=by
 obtain⟨i0,A3,J1,M1,O1⟩:=info_parts eP;have hlen:=OQ (FU hi) x;have T6:(es.drop i).length=es.length-i:=ed;have r9:(es.take i).length=i:=by rw[lT];omega
 obtain⟨n,hn⟩:=eX es.length
 rw[hn] at hi hl hc ht hroom hlen T6 ⊢;obtain⟨n1,ax⟩:=eX (n+1)
 obtain⟨j,hj⟩:=eX (i+1)
 obtain⟨k,hk⟩:=eX (n1-i)
 obtain⟨N,hN⟩:=eX w.heap.size
 rw[ax] at hroom hlen;have JF:c<=9223372036854775807:=by simpa[maxLen] using hm
 have hgN:g<N:=by rw[<- hN];exact M0 hg
 have hqN:q<N:=by rw[<- hN];exact M0 hq
 have kA:((i:Int) == (n:Int))=false:=by simp;omega
 have R6:=hid (show wrap64 ((n:Int)+1)=(n1:Int) from Om ax oM);have fw:=hid (show wrap64 ((i:Int)+1)=(j:Int) from Om hj oM);have fx:=hid (show IntKind.i64.wrap ((i:Int)+1)=(j:Int) from jT0 hj oM);have NA:=hid (show wrap64 ((n1:Int)-(i:Int))=(k:Int) from uG0 hk oM oM);have av:decide (c<n1)=true:=by simp;omega
 have ic:decide ((c:Int)<(n1:Int))=true:=by simp;omega
 have iM:=fun W=>BO g n c i oM oM W
 have du:=fun W=>QX (some ⟨g,0,none⟩) n c i oM W
 obtain⟨olds,holds⟩:=xe ((es.take i).flatMap Q1)
 have PD:olds.length=i*4:=by rw[holds,jX,r9]
 have hcell:∀ (k:Nat) (u:Value),((es.drop i).flatMap Q1)[k]?=some u->w.cell? (aA g (i*4+k))=some u:=fun k u hu=>by
  rw[G0 hg];rw[<- PX,jJ,<- ht,gT] at hu;split at hu
  .simpa using hu
  .cases hu
 have hold:(Builtin.firstCells i0.size i (sL g i c)).run prog w.drew = .ok olds.toArray w.drew:=
  run_firstCells_some w.drew i0.size i ⟨g,0,none⟩ i c olds (by rw[PD,M1]) (fun t u hu=>by
   rw[kU,o8];show w.cell? _=_;rw[G0 hg];rw[holds,<- XO,<- ht,gT] at hu;split at hu
   .rw[gT] at hu;split at hu
    .simpa using hu
    .cases hu
   .cases hu)
 obtain⟨G,hG⟩:=xe (grownCap w (i+k) c 118)
 have CX:i+k=n1:=oM
 have hGn:n1<=G:=by rw[hG,<- CX];exact grownCap_ge w _ _ _
 have pu:G<=maxLen:=by rw[hG];exact grownCap_le_maxLen w _ _ _ (by simp only[maxLen];omega)
 obtain⟨Z1,Uq⟩:=xe (Builtin.zeroCells (Value.agg #[iU 0,iI 0,iI 0,iI 0]).cells k)
 obtain⟨Z2,Ur⟩:=xe (Builtin.zeroCells (Value.agg #[iU 0,iI 0,iI 0,iI 0]).cells (G-n1))
 have LB:Z1.size=k*4:=by rw[Uq,size_zeroCells];rfl
 have LC:Z2.size=(G-n1)*4:=by rw[Ur,size_zeroCells];rfl
 obtain⟨ROW,xg⟩:∃ ROW:Array Value,ROW=olds.toArray++Z1++Z2:=⟨_,rfl⟩
 have hRs:ROW.size=G*4:=by
  rw[xg];simp only[Array.size_append,zA,PD,LB,LC];omega
 have hRt:ROW.toList.take (i*4)=olds:=by
  rw[xg];simp only[Array.toList_append,dD];exact Mo PD
 obtain⟨W1,M2⟩:=eX (w.drew.alloc (.cells ROW 118))
 have VT:∀ ty,(Builtin.append_ #[127,3] ty #[sL g i c,iI k]).run prog w = .ok (sL N n1 G) W1:=fun ty=>by
  have h:=Lib.run_append_grow_zeros w 127 3 ty 118 i0 _ .i64 .i64 underlying127 underlying3 A3 J1 (some ⟨g,0,none⟩) i c olds hold k oM oM oM oM (by rw[O1];omega) (by rw[O1];exact growslice_fits oM oM);rw[<- hG,CX,<- Uq,<- Ur,<- xg,M2,hN] at h;exact h
 have cD:W1.heap[N]?=some (.cells ROW 118):=by rw[<- M2,<- hN];exact han w.drew _
 have F1:Fq w W1:=by rw[<- M2];exact fR.drew.alloc _
 have cB:=fun W=>BO N n1 G i oM oM W
 obtain⟨I2,K6⟩:=xe ((ROW.toList.take (i*4)++Q1 x++ROW.toList.drop (i*4+(Q1 x).length)).toArray)
 have E3:I2.size=G*4:=by
  rw[K6];simp only[zA,lA,lT,ed,ow,show (Q1 x).length=4 from rfl];omega
 have iS:∀ ty,(Builtin.copy_ #[127,127] ty #[sL (aP N (i*4)) (n1-i) (G-i),sL q 1 1]).run prog W1 = .ok (goInt 1) (W1.setRow N I2):=fun ty=>by
  rw[K6];exact NP W1 127 127 ty 118 4 1 N (i*4) (n1-i) (G-i) ⟨q,0,none⟩ 1 1 ROW 118 (Q1 x) underlying127 nA cD (by simp only[Nat.min_def];split <;> omega) (by simp[Q1]) (fun t u hu=>by
   rw[kU,o8,G0 (F1.heap hq id)];simpa using hu) (by rw[hRs];simp[Q1];omega) (by intro u hu;simp[Q1] at hu;rcases hu with rfl|rfl|rfl|rfl <;> rfl)
 obtain⟨W2,eV⟩:=eX (W1.setRow N I2)
 have db:W2.heap[N]?=some (.cells I2 118):=by rw[<- eV];exact setRow_heap _ N ROW I2 118 _ cD
 have F2:Fq w W2:=by
  rw[<- eV];exact F1.trans (Bw _ N I2) fun b hb h=>oM
 have T9:=fun W=>BO N n1 G j oM oM W
 obtain⟨cs,hcs⟩:=xe ((es.drop i).flatMap Q1)
 have B6:cs.length=(n1-j)*4:=by rw[hcs,jX,T6];congr 1;omega
 obtain⟨R5,S4⟩:=xe ((I2.toList.take (j*4)++cs++I2.toList.drop (j*4+cs.length)).toArray)
 have ky:∀ ty,(Builtin.copy_ #[127,127] ty #[sL (aP N (j*4)) (n1-j) (G-j),sL (aP g (i*4)) (n-i) (c-i)]).run prog W2.drew = .ok (goInt ((n1-j:Nat):Int)) (W2.drew.setRow N R5):=fun ty=>by
  rw[S4];exact NP W2.drew 127 127 ty 118 4 (n1-j) N (j*4) (n1-j) (G-j) ⟨g,i*4,none⟩ (n-i) (c-i) I2 118 cs underlying127 nA db (by simp only[Nat.min_def];split <;> omega) B6 (fun t u hu=>by
   rw[kU];show W2.cell? _=_;rw[hcs] at hu;exact (F2.cell (p:=⟨g,i*4+t,none⟩) (M0 hg) id).trans (hcell t u hu)) (by rw[B6,E3];omega) (by rw[hcs];exact Ys _)
 have S7:Y3 (W2.drew.setRow N R5) base (sL N n1 G) (fi es i x):=by
  have Q3:=setRow_heap W2.drew N I2 R5 118 _ db;have:=Oy (es:=fi es i x) (c:=G) (by rw[<- hN];exact Z0) Q3 oM pu (by
   rw[S4];simp only[zA,lA,lT,ed,ow];omega) (by
   rw[hlen,TE,S4];have e1:I2.toList.take (j*4)=(es.take i).flatMap Q1++Q1 x:=by
    have ec:I2.toList=(es.take i).flatMap Q1++(Q1 x++ROW.toList.drop (i*4+(Q1 x).length)):=by
     rw[K6,<- holds,<- hRt];simp
    rw[ec,<- dD];exact Mo (by
     simp only[lA,jX,r9,show (Q1 x).length=4 from rfl];omega)
   rw[e1,<- hcs];simp only[dD];rw[<- dD (Q1 x),<- dD];exact Mo (by
    simp only[lA,jX,lT,hn,B6,show (Q1 x).length=4 from rfl];omega))
  rw[hlen] at this;exact this
 have o7:Fq w (W2.drew.setRow N R5):=F2.drew.trans (Bw _ N R5) fun b hb h=>oM;obtain⟨oj,zR⟩:=eX (j*4)
 obtain⟨oi,tI⟩:=eX (i*4)
 obtain⟨lj,Db⟩:=eX (n1-j)
 obtain⟨ni,VC⟩:=eX (n-i)
 rw[zR,tI,Db,VC] at ky;rw[tI,hk,eV] at iS;rw[tI,VC] at iM;rw[tI,hk] at cB;rw[zR,Db] at T9;have aa:=hi2 S7 o7;have fq:=hid iS;have oJ:=hid ky;clear hg ht hm hcs B6 K6 iS E3 M2 cD hq S4 ky S7 o7 hn hN zR tI Db VC hlen T6 xg hRs hRt Uq Ur LB LC hG hold holds PD hcell eV db F1 F2 r9 A3 J1 M1 O1 CX hgN hqN;have jC:(k:Int)=(n:Int)+1-(i:Int):=oM
 rw[jC] at VT;have HRZ:=hid VT;subst ax;subst hj;clear VT jC hk;simp only[Int.natCast_add,Int.natCast_one] at T9 ic;have K7:IntKind.i64.wrap ((i:Int)+1)=(i:Int)+1:=by have:=fx.o;simpa using this
 have iS:=fq.o;go_enter func201,ntmps201;go_wp2_with (at_builtin;refine ji0 rfl _ _ 127 3 rfl _ _ rfl rfl (HRZ _) ?_)
 go_region_law (refine fX0 rfl (.tmp 50) (.tmp 53) 127 127 rfl _ _ (by simp[Act.eval,Act.put]) (by simp[Act.eval,Act.put]) (oJ _) ?_)
 go_wp2_with fail
 go_ret;exact⟨_,rfl,aa.1,aa.2.mono fun b _ h=>h.elim⟩
def nQ0 (hE:Y3 w base v es)(hl:es.length<=254)(Z0:base<=w)(i:Nat)(hi:i<=es.length)(x:Bt)(hq:w.heap[q]?=some (.cells #[iU x.hash,iI x.rg,iI x.at_,iI x.sz] 118))(hv:v.ownBlock≠some q) :
  cP 201 #[v,iI i,sL q 1 1] w (Mu base v (fi es i x) w):=by
 by_cases h:i=es.length
 .exact qP0 hE hl Z0 i h x hq
 .obtain⟨g,c,cur,rfl,hb,hg,hc,hm,hs,ht⟩:=WD hE oM;by_cases hr:es.length+1<=c
  .exact nO0 hb hg hc hm hs ht hl i oM hr x hq (fun e=>hv (by rw[e];rfl))
  .exact nP0 hg hc hm ht hl Z0 i oM hr x hq
def r5 (es:List Bt)(x:Bt):List Bt:=if hasB es x.hash=true then es.set (co es x.hash) x else fi es (co es x.hash) x
def xN0 (l:List Bt):∀ (k:Nat) (x:Bt),k<l.length->(l.set k x).flatMap Q1=((((l.flatMap Q1).set (k*4) (iU x.hash)).set (k*4+1) (iI x.rg)).set (k*4+2) (iI x.at_)).set (k*4+3) (iI x.sz):=by
 induction l with
 | nil=>intro k x h;simp at h
 | cons y l ih =>
  intro k x h;cases k with
  | zero=>simp[Q1]
  | succ k =>
   have e:(k+1)*4=k*4+1+1+1+1:=oM
   have h':k<l.length:=by simpa using h
   rw[e];simp only[sS,dj,Q1,ak,C7];rw[ih k x h']
def wc0 {l:List Bt}(h:Y3 w base (sL g l.length c) l)(hk:k<l.length)(x:Bt) :
  Y3 ((((w.setCell (aA g (k*4)) (iU x.hash)).setCell (aA g (k*4+1)) (iI x.rg)).setCell (aA g (k*4+2)) (iI x.at_)).setCell (aA g (k*4+3)) (iI x.sz)) base (.slice g (l.set k x).length c) (l.set k x):=by
 obtain⟨hl,⟨h0,h1⟩|⟨g',cap,cur,hv,hb,hg,hc,hm,hs,ht⟩⟩:=h
 .cases h0
 .cases hv;refine⟨by rw[jX],.inr ⟨g,c,(((cur.setIfInBounds (k*4) (iU x.hash)).setIfInBounds (k*4+1) (iI x.rg)).setIfInBounds (k*4+2) (iI x.at_)).setIfInBounds (k*4+3) (iI x.sz),by rw[fj],hb,?_,by rw[fj];exact hc,hm,by simpa using hs,?_⟩⟩
  .rw[hsc _ _ _ _ (hsc _ _ _ _ (hsc _ _ _ _ (hsc _ _ _ _ hg)))]
  .rw[xN0 l k x hk,fj,<- ht];simp only[Xy,List.take_set]
def XP (hE:Y3 w 0 v es)(hs:m9 es)(hl:es.length<=254)(d p:Int)(x:Bt) :
  cP 136 #[E9 d p v,E8 x] w (Za d p (r5 es x) w):=by
 obtain⟨va,vc,rfl,-,-,-,-⟩:=A2 hE;obtain⟨n,hn⟩:=eX es.length
 obtain⟨w1,I0⟩:=eX (((w.alloc (.cells #[iI d,iI p,sL va n vc] 129)).alloc (.cells #[iU x.hash,iI x.rg,iI x.at_,iI x.sz] 118)).alloc (.cells #[iI 0,iI 0,sL none 0 0] 129))
 obtain⟨b0,b1,b2,F1⟩:=nC I0;have HB:=hid fun W (F:Fr (fun b=>b=w.heap.size+2) w1 W)=>aI (cells3 (F.heap b0 fun h=>oM)) (D8 (F.heap b1 fun h=>oM));have HY:=hid fun W (F:Fq w1 W)=>cells3 (F.heap b2 id);have Z5:=oN hE F1;have ei:=hid (WP Z5 hs oM d p x.hash);have yD:=hid fun W (F:Fq w1 W)=>jb0 (oN Z5 F) oM;have E1:=hid F1;have HN:=hid hn;have HL:=hid hl;have jT:=hid hs;have hsz:w1.heap.size=w.heap.size+3:=by rw[<- I0];simp
 have eL:=hid hsz;obtain⟨⟨x0,x1,x2,xz,xl⟩,⟨t0,t1,t2,t3,tz,tl⟩⟩:=HB.o _ fR;have HW:=hid I0;rw[hn] at ei yD ⊢;clear I0 b0 b1 b2 F1 hE hs hl hn hsz Z5;obtain⟨q,hq⟩:=eX (co es x.hash)
 have HQ:=hi2 hq (show q<=es.length by rw[<- hq];exact QH _ _);obtain⟨hb,hhb⟩:=eX (hasB es x.hash)
 have Bd:=hid (show cP 199 #[E9 d p (sL va n vc),iU x.hash] w1 (fun e w'=>e = rT (tU #[iI q,bO hb])/\Fq w1 w') from ei.mono fun e w' hp=>⟨by rw[<- hq,<- hhb];exact hp.1,hp.2⟩);clear ei hq;go_enter func136,ntmps136;go_upto_region 1 with fail
 rw[HW];go_wp2_with fail
 refine Bd.mono ?_;rintro e W2 ⟨rfl,F2⟩;have Y0:=hi2 F2 (show w1.heap.size<=W2.heap.size from F2.size);clear x0 x1 x2 xz xl t0 t1 t2 t3 tz tl;obtain⟨⟨x0,x1,x2,xz,xl⟩,⟨t0,t1,t2,t3,tz,tl⟩⟩:=HB.o _ (F2.mono fun _ _ h=>h.elim);clear F2;go_wp2_with fail
 refine (yD _ Y0.1).mono ?_;rintro e W3 ⟨v3,rfl,K0,F3⟩;obtain⟨a3,c3,rfl,-,-,-,-⟩:=A2 K0;have H3:=hi2 K0 (Y0.1.trans F3 nI);have VU:=F3.size;have Hh:=hid (show w.heap.size<=W2.heap.size by have:=eL.o;have:=Y0.2;omega);clear K0 F3 x0 x1 x2 xz xl t0 t1 t2 t3 tz tl;obtain⟨⟨x0,x1,x2,xz,xl⟩,⟨t0,t1,t2,t3,tz,tl⟩⟩:=HB.o _ (H3.2.mono fun _ _ h=>h.elim);rw[HN];cases hb with
 | true =>
  have hP:r5 es x=es.set q x:=by unfold r5;rw[hhb,if_pos rfl,HQ.1]
  obtain⟨y,hy,-⟩:=(uS jT.o).1 hhb;rw[HQ.1] at hy;have ah:q<n:=by rw[<- HN];exact (gI.1 hy).1
  obtain⟨g,rfl,hg,u0,u1,u2,u3⟩:=pj H3.1 hy;have bz:W2<=g:=by
   have:=(bK (g:=g) H3.1 rfl).1;exact this
  have JX:∀ o,W3.frozen? ⟨g,o,none⟩=false:=by
   obtain⟨g',c',cur,e,-,I1,-⟩:=WD H3.1 (by rw[HN.o];omega);cases e;exact fun o=>X2 I1 o
  have zY:(q:Int)<(n:Int):=oM
  have vm:g≠w.heap.size:=by have:=eL.o;have:=Y0.2;omega
  have cD:g≠w.heap.size+1:=by have:=eL.o;have:=Y0.2;omega
  have db:g≠w.heap.size+2:=by have:=eL.o;have:=Y0.2;omega
  have HP:=hid hP;have RX:=hid bz;have ml:=hid (wc0 H3.1 (by rw[HN];exact ah) x);clear hP hy bz;go_upto_region 5 with fail
  obtain⟨W5,iP⟩:=eX ((((W3.setCell (aA g (q*4)) (iU x.hash)).setCell (aA g (q*4+1)) (iI x.rg)).setCell (aA g (q*4+2)) (iI x.at_)).setCell (aA g (q*4+3)) (iI x.sz))
  rw[iP] at ml ⊢;have F5:Fr (fun b=>b=g) W3 W5:=by
   rw[<- iP];exact ((((Fr.refl (fun b=>b=g) W3).setCell (a:=⟨g,_,none⟩) (fun _=>rfl) _).setCell (a:=⟨g,_,none⟩) (fun _=>rfl) _).setCell (a:=⟨g,_,none⟩) (fun _=>rfl) _).setCell (a:=⟨g,_,none⟩) (fun _=>rfl) _
  have jo:Fq w1 W5:=H3.2.trans F5 (fun b hb e=>by have:=RX.o;have:=Y0.2;omega);have H5:=hid jo;clear F5 iP u0 u1 u2 u3 JX x0 x1 x2 xz xl t0 t1 t2 t3 tz tl;obtain⟨⟨x0,x1,x2,xz,xl⟩,⟨t0,t1,t2,t3,tz,tl⟩⟩:=HB.o _ (jo.mono fun _ _ h=>h.elim);clear jo;go_wp2_with fail
  refine (LW d p va n vc (some ⟨g,0,none⟩) n c3 _).mono ?_;rintro e W6 ⟨rfl,F6⟩;have H6:=hi2 F6 (H5.trans F6 nI);clear F6 x0 x1 x2 xz xl t0 t1 t2 t3 tz tl;obtain⟨y0,y1,y2,yz,yl⟩:=HY.o _ H6.2;go_wp2_with fail
  have FS:∀ (W:w9) (o:Nat) (u:Value),Fr (fun b=>b=w.heap.size+2) W (W.setCell (aA (w+2) o) u):=fun W o u=>(Fr.refl (fun b=>b=w.heap.size+2) _).setCell (a:=⟨w+2,o,none⟩) (fun _=>rfl) u
  refine bodyPost_ret (v:=E9 d p (sL g n c3)) sR rfl ⟨some ⟨g,0,none⟩,c3,by rw[HP,fj,HN],?_,?_⟩
  .rw[HP];exact bi (ao (oN ml H6.1) Hh.o) (((FS _ _ _).trans (FS _ _ _) nI).trans (FS _ _ _) nI) (fun g' I1 e=>by
    have e1:g=g':=Option.some.inj I1;omega)
  .have hs:=eL.o;exact (((E1.trans H6.2 nI).U2 oM _).U2 oM _).U2 oM _
 | false =>
  have hP:r5 es x=fi es q x:=by unfold r5;rw[hhb,if_neg dC,HQ.1]
  clear x0 x1 x2 xz xl t0 t1 t2 t3 tz tl;go_wp2_with fail
  refine wp_region_noPanic ?_;refine q8 (fun V=>Fr (fun b=>b=w.heap.size+2) w1 V) (.rd 0 (.rd 1 (.rd 2 (.rd 3 (.op 4 (.op 5 (.op 6 (.op 7 .done)))))))) kF kF kF (fun _ _ _ _ _ h=>h) (H3.2.drew.mono fun _ _ h=>h.elim) ?_;iterate 4
   refine oP ?_ ?_ ?_;rotate_left
   .intro V hV;obtain⟨⟨x0,x1,x2,xz,xl⟩,⟨t0,t1,t2,t3,tz,tl⟩⟩:=HB.o V hV;go_simp;try with_reducible rfl
  refine rQ fun K hK=>?_;have zX:((W3.alloc (.cells #[iU x.hash,iI x.rg,iI x.at_,iI x.sz] 118)).drew).heap[W3.heap.size]?=some (.cells #[iU x.hash,iI x.rg,iI x.at_,iI x.sz] 118):=han W3 _;have FA:Fq W3 ((W3.alloc (.cells #[iU x.hash,iI x.rg,iI x.at_,iI x.sz] 118)).drew):=(fR.alloc _).drew;have uJ:=hid (nQ0 (oN H3.1 FA) HL (nT VU FA.size) q HQ.2 x zX fun e=>by have:=(bK H3.1 e).2;simp at this);obtain⟨V1,vg⟩:=eX ((W3.alloc (.cells #[iU x.hash,iI x.rg,iI x.at_,iI x.sz] 118)).drew)
  rw[vg] at uJ FA;have FG:=H3.2.trans FA nI;have Ed:Fr (fun b=>b=w.heap.size+2) w1 V1:=FG.mono fun _ _ h=>h.elim
  try rw[vg]
  refine hK _ _ Ed ?_;clear hK K zX;refine rQ fun K hK=>?_;rw[HN] at uJ;refine uJ.mono ?_;rintro _ V2 ⟨v4,rfl,C2,F4⟩;have Ru:Fq w1 V2:=FG.trans F4 (fun b hb e=>by have:=(bK H3.1 (show (sL a3 es.length c3).ownBlock=some b by rw[HN];exact e)).1;have:=Y0.1.size;omega);have Ed:Fr (fun b=>b=w.heap.size+2) w1 V2:=Ru.mono fun _ _ h=>h.elim
  obtain⟨a4,c4,rfl,-,-,-,-⟩:=A2 C2;have H4:=hi2 C2 Ru;obtain⟨n4,vB⟩:=eX ((fi es q x).length)
  have Nn:=hid vB;rw[vB];try go_simp
  refine hK _ _ Ed ?_;clear hK K C2 F4 vB Ru;refine rQ fun K hK=>?_;refine (LW d p va n vc a4 n4 c4 _).mono ?_;rintro _ V3 ⟨rfl,F5⟩;have cM:Fq w1 V3:=H4.2.trans F5 nI;have Ed:Fr (fun b=>b=w.heap.size+2) w1 V3:=cM.mono fun _ _ h=>h.elim
  have H5:=hi2 (oN H4.1 F5) cM;try go_simp
  refine hK _ _ Ed ?_;clear hK K F5 cM;refine rP fun K hK=>?_;obtain⟨y0,y1,y2,yz,yl⟩:=HY.o _ H5.2;go_simp;refine hK _ _ (((Ed.setCell (fun _=>rfl) _).setCell (fun _=>rfl) _).setCell (fun _=>rfl) _) ?_;clear hK K;try simp only[Act.put,sI,sZ,sS]
  refine o5 ?_;refine NoPanic.normal ?_;go_wp2_with fail
  have FS:∀ (W:w9) (o:Nat) (u:Value),Fr (fun b=>b=w.heap.size+2) W (W.setCell (aA (w+2) o) u):=fun W o u=>(Fr.refl (fun b=>b=w.heap.size+2) _).setCell (a:=⟨w+2,o,none⟩) (fun _=>rfl) u
  refine bodyPost_ret (v:=E9 d p (sL a4 n4 c4)) sR rfl ⟨a4,c4,by rw[<- Nn,hP],?_,?_⟩
  .rw[hP];exact bi (ao H5.1 Hh.o) (((FS _ _ _).trans (FS _ _ _) nI).trans (FS _ _ _) nI) (fun g hg e=>by
    have:=(bK H5.1 hg).1;have:=Y0.1.size;have:=eL.o;omega)
  .have hs:=eL.o;exact (((E1.trans H5.2 nI).U2 oM _).U2 oM _).U2 oM _
def EI (h:S8 d p es)(f:Bt->Bool):S8 d p (es.filter f):=
 ⟨nT (mY _ _) h.1,List.Pairwise.sublist List.filter_sublist h.2.1,fun x hx=>h.2.2 x (rn.1 hx).1⟩
def oS0 (h:S8 d p es)(i:Nat):S8 d p (es.eraseIdx i):=
 ⟨nT (List.length_eraseIdx_le _ _) h.1,List.Pairwise.sublist (List.eraseIdx_sublist _ _) h.2.1,fun x hx=>h.2.2 x (List.mem_of_mem_eraseIdx hx)⟩
variable {x:Bt}
def rh0 (hs:m9 es)(hn:hasB es x.hash=false):m9 (fi es (co es x.hash) x):=by
 obtain⟨k,hk⟩:=eX (co es x.hash)
 have h1:∀ y ∈ es.take k,y.hash<x.hash:=fun y hy=>by
  obtain⟨i,hi⟩:=ou.1 hy;rw[gT] at hi;split at hi
  .exact (DF hs hi).1 oM
  .cases hi
 have h2:∀ y ∈ es.drop k,x.hash<y.hash:=fun y hy=>by
  obtain⟨i,hi⟩:=ou.1 hy;rw[jJ] at hi;have ax:¬ y.hash<x.hash:=fun h=>by have:=(DF hs hi).2 h;omega
  have ey:y.hash≠x.hash:=fun h=>by
   have:hasB es x.hash=true:=by
    unfold hasB;rw[vK];exact⟨y,gM hi,by simp[h]⟩
   rw[hn] at this;cases this
  omega
 rw[hk];unfold fi m9;rw[List.pairwise_append];refine⟨List.Pairwise.sublist (List.take_sublist _ _) hs,DO.2 ⟨h2,List.Pairwise.sublist (List.drop_sublist _ _) hs⟩,fun a ha b hb=>?_⟩;rcases d9.1 hb with rfl|hb
 .exact h1 a ha
 .exact Nat.lt_trans (h1 a ha) (h2 b hb)
def rg0 {y:Bt}(hs:m9 es)(hy:es[k]?=some y)(he:y.hash=x.hash):m9 (es.set k x):=by
 have hk:=(gI.1 hy).1;refine xT.2 fun i j hi hj CW=>?_
 simp only[fj] at hi hj;have key:∀ (m:Nat) (hm:m<(es.set k x).length) (O8:m<es.length),(es.set k x)[m].hash=es[m].hash:=fun m hm O8=>by
  rw[List.getElem_set];split
  .rename_i e;subst e;rw[gE hk] at hy;cases hy;exact he.symm
  .rfl
 rw[key i (by simpa using hi) hi,key j (by simpa using hj) hj];exact xT.1 hs i j hi hj CW
def Yt (h:S8 d p es)(hr:cy es x.hash 3=true)(hg:tZ x)(hp:X0 x.hash d=p):S8 d p (r5 es x):=by
 unfold r5;cases hb:hasB es x.hash with
 | true =>
  rw[if_pos rfl];obtain⟨y,hy,he⟩:=(uS h.2.1).1 hb;refine⟨by rw[fj];exact h.1,rg0 h.2.1 hy he,fun z hz=>?_⟩;rcases Ml hz with hz|rfl
  .exact h.2.2 z hz
  .exact⟨hg,hp⟩
 | false =>
  rw[if_neg dC];have hl:es.length<3:=by
   unfold cy at hr;rw[hb] at hr;simpa using hr
  refine⟨by rw[OQ (QH _ _)];omega,rh0 h.2.1 hb,fun z hz=>?_⟩;unfold fi at hz;rcases X5.1 hz with hz|hz
  .exact h.2.2 z (ov hz)
  .rcases d9.1 hz with rfl|hz
   .exact⟨hg,hp⟩
   .exact h.2.2 z (xZ hz)
def Iy {h:Nat}(hd:d<20)(hh:h<18446744073709551616):X0 h (d+1)/2=X0 h d:=by
 have:=LJ (h:=h) (g:=d+1) (d:=d) oM oM hh;rwa [show d+1-d=1 by omega,Nat.pow_one] at this
def Oe (h:S8 d p es)(hd:d<20):S8 (d+1) (2*p) (es.filter fun x=>!ac d x)/\S8 (d+1) (2*p+1) (es.filter (ac d)):=by
 refine⟨⟨(EI h _).1,(EI h _).2.1,fun x hx=>?_⟩,⟨(EI h _).1,(EI h _).2.1,fun x hx=>?_⟩⟩
 .obtain⟨hx1,ce⟩:=rn.1 hx;obtain⟨hg,hp⟩:=h.2.2 x hx1;have h1:=Iy hd hg.1;simp[ac] at ce;exact⟨hg,oM⟩
 .obtain⟨hx1,ce⟩:=rn.1 hx;obtain⟨hg,hp⟩:=h.2.2 x hx1;have h1:=Iy hd hg.1;simp[ac] at ce;exact⟨hg,oM⟩
def bare:Tr->Tr
 | .leaf _ es=>.leaf (0,0) es
 | .node l r=>.node (bare l) (bare r)
def qM:∀ t:Tr,(bare t).high=t.high
 | .leaf _ _=>rfl
 | .node l r=>by simp only[bare,Tr.high,qM l,qM r]
def Jd:∀ (t:Tr) (g k d p:Nat),(bare t).at_ g k d p=((t.at_ g k d p).1,(t.at_ g k d p).2.1,(0,0),(t.at_ g k d p).2.2.2)
 | .leaf _ _,_,_,_,_=>rfl
 | .node l r,g,k,d,p=>by
  simp only[bare,Tr.at_];split
  .exact Jd l _ _ _ _
  .exact Jd r _ _ _ _
def BG (f f':Rf->List Bt->Tr)(hf:∀ r es,bare (f r es)=f' (0,0) es):∀ (t:Tr) (g k:Nat),bare (t.put g k f)=(bare t).put g k f'
 | .leaf r es,g,k=>hf r es
 | .node l r,g,k=>by
  simp only[bare,Tr.put];split
  .simp only[bare];rw[BG f f' hf l]
  .simp only[bare];rw[BG f f' hf r]
structure wV where
 t:Tr
 g:Nat
 sp:Int
 lost:Bool
def aL (es:List Bt)(h:Nat)(oldest:Int):List Bt:=if cy es h 3=true then es else es.filter (U4 oldest)
def tY (es:List Bt):Rf->List Bt->Tr:=fun _ _=>.leaf (0,0) es
def jZ (d:Nat)(es:List Bt):Rf->List Bt->Tr:=fun _ _=>.node (.leaf (0,0) (es.filter fun x=>!ac d x)) (.leaf (0,0) (es.filter (ac d)))
def eo:Nat->Tr->Nat->Int->Bt->Int->wV
 | 0,t,g,sp,_,_=>⟨t,g,sp,false⟩
 | n+1,t,g,sp,y,oldest =>
  let b:=t.at_ g (X0 y.hash g) 0 0
  let es:=aL b.2.2.2 y.hash oldest
  if cy es y.hash 3=true then ⟨t.put g (X0 y.hash g) (tY (r5 es y)),g,sp,false⟩
  else if b.1<3 then
   if b.1=g then eo n (t.put (g+1) (2*X0 y.hash g) (jZ b.1 es)) (g+1) (sp+1) y oldest
   else eo n (t.put g (X0 y.hash g) (jZ b.1 es)) g (sp+1) y oldest
  else ⟨t.put g (X0 y.hash g) (tY (r5 (es.eraseIdx (jx es es.length).toNat) y)),g,sp,true⟩
