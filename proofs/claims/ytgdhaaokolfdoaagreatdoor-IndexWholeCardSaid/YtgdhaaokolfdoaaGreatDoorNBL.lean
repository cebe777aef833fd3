/- A pack of texts. Conditions: those that each names. -/
import Derived.Test.YtgdhaaokolfdoaaGreatDoorNBK
set_option maxHeartbeats 16000000
set_option maxRecDepth 100000
set_option linter.all false
namespace Go.Proofs.YtgdhaaokolfdoaaGreatDoor
open Go.RowKit Go.Sg Go.Sg.Bits Go.Sg.r4 CP SF Tryz
def Iz {P:Program}{md:Region.Mode}{ops:Array Oper}{Q:Exit->Act->World->Prop}{S:World->Prop}{i:Nat}{p:Sg.Pl}{a:Act}{w:w9}(o:Oper)(ho:ops[i]?=some o)(hw:Region.wanted o (yielded ops a.tmps)=false)(h:bP P md ops Q S p (a.put o.dst undef) w):bP P md ops Q S (.rd i p) a w:=
 ⟨undef,o,ho,.inr ⟨hw,rfl⟩,h⟩
def Gg (w0:w9)(base bs bv bx:Nat)(P:D4)(a:Bool)(N G:Nat)(sp:Int)(w:w9)(e:Ending)(w':w9):Prop:=
 ∃ (v':Value) (g':Nat) (sp' err:Int),e = rT (tU #[ai g' 3 3 v' sp',iI err,bO true])/\D1 base w w' /\
  ((err=0/\(sp<=sp'/\sp'<=sp+3)/\∃ t',Z7 w0 base bs bv bx P a (N+480) G t' sp' w'/\OwnB w' 0 v' (rows t' 0 0)/\t'.high=g')\/(err=4/\a=true/\fp w0 base bv P (N+1300) w'/\∃ b m k,v' = sL b m k))
section
variable {w0 V V':w9}{base bs bv bx N G:Nat}{P:D4}{a:Bool}{t:Tr}{sp:Int}
variable {k:Nat}{c:Array Value}{ty:TypeId}
def Z7.setB (h:Z7 w0 base bs bv bx P a N G t sp V)(F:Fr (fun b=>b=k) V V')(hk:V.heap[k]?=some (.cells c ty))(ht:ty ∉ 5 :: 227 :: 209 :: aR)(hb:base<=k)(h0:0<k):Z7 w0 base bs bv bx P a N G t sp V':=by
 obtain⟨B,bd,y,x,t',⟨⟨E0,L,hM,hP⟩,h1,h2⟩,h3,h4,h5,h6,h7⟩:=h;exact⟨B,bd,y,x,t',⟨⟨E0,L,hM.U2 F hk ht h0,hP⟩,h1,h2⟩,h3,h4,h5.trans F fun b P4 e=>oM,h6,h7⟩
def fp.setB (h:fp w0 base bv P N V)(F:Fr (fun b=>b=k) V V')(hk:V.heap[k]?=some (.cells c ty))(ht:ty ∉ 5 :: aR)(hb:w0<=k):fp w0 base bv P N V':=by
 obtain⟨B,y,hD,h1,h2,h3⟩:=h;exact⟨B,y,hD.M3 F hk ht,h1,h2.trans F fun b P4 e=>oM,h3⟩
def OwnB.setB {b:Nat}{v:Value}{l:Lb}(h:OwnB V b v l)(F:Fr (fun b=>b=k) V V')(hk:V.heap[k]?=some (.cells c ty))(ht:ty≠220/\ty≠110):OwnB V' b v l:=by
 obtain⟨xs,h1,h2,h3⟩:=h;exact⟨xs,h1,K3 h2 F (fun g c' hg e=>by rw[e,hk] at hg;cases hg;exact ht.1 rfl),fun x hx=>K3 (h3 x hx) F fun g c' hg e=>by rw[e,hk] at hg;cases hg;exact ht.2 rfl⟩
def qf0 (t:Tr)(g h:Nat):(nK t g h).1.high=t.high:=by
 unfold nK;simp only;split
 .exact Oc _ (fun _ _=>rfl) _ _ _
 .rfl
def fp.mono (h:fp w0 base bv P N V){N':Nat}(hN:N<=N'):fp w0 base bv P N' V:=by
 obtain⟨B,y,hD,h1⟩:=h;exact⟨B,y,hD.mono hN,h1⟩
def yL0 {w V W':w9}{g':Nat}{v' u0 u1 u2 u3 u4:Value}{sp' err:Int}{c0:Array Value}(hb:base=w0.heap.size)(ly:base<=w)(hF:D1 base w V)(hk:V.heap[k]?=some (.cells c0 137))(hwk:w.heap.size<=k)(h0:0<k)
  (hr:(err=0/\(sp<=sp'/\sp'<=sp+3)/\∃ t',Z7 w0 base bs bv bx P a (N+480) G t' sp' V/\OwnB V 0 v' (rows t' 0 0)/\t'.high=g')\/(err=4/\a=true/\fp w0 base bv P (N+1300) V/\∃ b m k,v' = sL b m k))
  (hW:((((V.setCell (aA k 0) u0).setCell (aA k 1) u1).setCell (aA k 2) u2).setCell (aA k 3) u3).setCell (aA k 4) u4=W') :
  Gg w0 base bs bv bx P a N G sp w (rT (tU #[ai g' 3 3 v' sp',iI err,bO true])) W':=by
 have F:Fr (fun b=>b=k) V W':=by rw[<- hW];with_reducible (repeat (first|exact fR|refine Fr.setCell ?_ (fun _=>by simp) _))
 refine⟨v',g',sp',err,rfl,Fr.trans hF F fun b P4 e=>oM,?_⟩;rcases hr with⟨h1,h2,t',h3,h4,h5⟩|⟨h1,h2,h3,h9⟩
 .exact .inl ⟨h1,h2,t',h3.setB F hk dC oM h0,h4.setB F hk dC,h5⟩
 .exact .inr ⟨h1,h2,h3.setB F hk dC oM,h9⟩
end
def vS0 {w0 w:w9}{base bs bv bx N G:Nat}{P:D4}{a:Bool}{t:Tr}{sp:Int}(h:Z7 w0 base bs bv bx P a N G t sp w){v:Value}(hB:OwnB w 0 v (rows t 0 0))(ly:base<=w)(Wi:0<w.heap.size)(x:ut)(hx:Ym x)(hN:N+1300<=90000)(hsp:0<=sp/\sp+8<=100000) :
  cP 75 #[O7 bx,ai t.high 3 3 v sp,.agg #[iI x.kind,iI x.oldest,iU x.e.hash,iI x.e.rg,iI x.e.at_,iI x.e.sz]] w (Gg w0 base bs bv bx P a N G sp w):=by
 obtain⟨a0,c0,rfl⟩:=hB.slice;obtain⟨n,hn⟩:=eX ((rows t 0 0).length)
 obtain⟨hh,hok⟩:=h.high;obtain⟨g,hg⟩:=eX t.high
 have Di:n<=8:=by rw[<- hn,OK];exact MC hh
 have Z0:=h.Dx0;rw[hn] at hB;rw[hg,hn];obtain⟨w1,I0⟩:=eX (((w.alloc (.cells #[iI g,iI 3,iI 3,sL a0 n c0,iI sp] 137)).alloc (.cells #[iI x.kind,iI x.oldest,iU x.e.hash,iI x.e.rg,iI x.e.at_,iI x.e.sz] 112)).alloc (.cells #[iI 0,iI 0,iI 0,sL none 0 0,iI 0] 137))
 obtain⟨z,hz⟩:=eX w.heap.size
 obtain⟨b0,b1,b2,F1⟩:=nC I0;rw[hz] at b0 b1 b2;have E3:w1.heap.size=z+3:=by rw[<- I0,<- hz];simp
 have gN:=hid (h.J0 F1);have I3:=hid (hB.fr F1);have HFI1:=hid (D1.none (base:=base) F1);have HC:=hid fun (V:w9) (F:D1 base w1 V)=>aI (D1.heap F b0 dC) (aI (z7 (D1.heap F b1 dC)) (D1.heap F b2 dC));have iB:=hid fun (V W':w9) (g':Nat) (v' u0 u1 u2 u3 u4:Value) (sp' err:Int) (F:D1 base w1 V)=>yL0 (W':=W') (g':=g') (v':=v') (u0:=u0) (u1:=u1) (u2:=u2) (u3:=u3) (u4:=u4) (sp':=sp') (err:=err) (bs:=bs) (bv:=bv) (bx:=bx) (N:=N) (G:=G) (P:=P) (a:=a) (sp:=sp) (w:=w) (k:=z+2) Z0 ly (D1.trans (D1.none F1) F) (D1.heap F b2 dC) oM oM;have HT:=hi2 hh (aI hok (aI hg (aI hn (aI Z0 (aI E3 hsp)))));have HX:=hid hx;have HW:=hid I0;have HZ:=hid hz;have hzb:base<=z:=oM
 have HN:=hid hN;obtain⟨d7,⟨e0,e1,e2,e3,e4,e5,ez,el⟩,-⟩:=HC.o _ (D1.none fR);obtain⟨x0,x1,x2,x3,x4,xz,xl⟩:=cells5 d7;obtain⟨y0,y1,y2,y3,y4,yz,yl⟩:=cells5 b2;clear d7 h hB hh hok hg hn Z0 E3 hx I0 hz b0 b1 b2 F1 Wi ly hN;go_enter func75,ntmps75;go_upto_region 1 with fail
 rw[HW];try simp only[HZ.o]
 obtain⟨uy,Wj⟩:=eX ((wrap64 (x.kind.tmod 8+8)).tmod 8)
 by_cases h6:(6:Int)<=uy
 .have hd6:decide ((6:Int)<=uy)=true:=by simp[h6]
  clear h6;go_wp2_with fail
  refine bodyPost_ret (v:=tU #[ai g 3 3 (sL a0 n c0) sp,iI 0,bO true]) sR rfl ?_;exact iB _ _ _ _ _ _ _ _ _ _ _ (D1.none fR) (.inl ⟨rfl,⟨DV _,oM⟩,t,gN.mono oM (by have:=HN.o;omega),I3.o,HT.2.2.1⟩) rfl
 have hd6:decide ((6:Int)<=uy)=false:=by simp;omega
 clear h6;by_cases h5:uy=5
 .have CK:(uy == 5)=true:=by simp[h5]
  clear h5;have Nf:=hid (zl0 gN.o HX.wh (by have:=HN.o;omega));go_wp2_with fail
  refine Nf.mono ?_;rintro e V2 ⟨q0,q1,q2,ok,err,rfl,M6,eH,S7⟩;obtain⟨b9,R7⟩:=eX V2.heap.size
  obtain⟨V3,T8⟩:=eX (V2.alloc (.cells #[iI q0,iI q1,iI q2] 116))
  have p3:V3.heap[b9]?=some (.cells #[iI q0,iI q1,iI q2] 116):=by rw[<- T8,<- R7];exact han _ _
  have F3:=fA T8
  have eh:D1 base w1 V3:=D1.trans eH (D1.none F3);have Uv:w1<=b9:=by rw[<- R7];exact eH.size
  have Y5:=hi2 M6 (aI S7 F3);have Bq:=hid T8;have qB:=hid R7;clear M6 S7 T8 R7 eH F3 x0 x1 x2 x3 x4 xz xl e0 e1 e2 e3 e4 e5 ez el y0 y1 y2 y3 y4 yz yl Nf;go_upto_region 6 with fail
  rw[Bq];try simp only[qB.o]
  obtain⟨i,b,hi,hb,-,-,qZ⟩:=jZ0 HX.wh HT.2.2.1 (by have:=HT.1;have:=HT.2.2.1;omega) HT.2.1;have oh:=uo0 (I3.fZ eh) (by rw[HT.2.2.2.1];omega) g 3 3 sp x.e.hash HX.wh (fun b hb=>by have:=Xt HT.2.1 HT.1 b hb;exact⟨by have:=this.1;omega,this.2.2.1⟩) hi hb;rw[qZ] at oh;obtain⟨y,hy⟩:=eX ((Mx t x.e.hash).getD ⟨0,0,0,0⟩)
  obtain⟨is,vu⟩:=eX ((Mx t x.e.hash).isSome)
  unfold Rw at oh;rw[hy,vu] at oh;have SD:=hid oh;have HM:=hi2 hy vu;obtain⟨d7,⟨e0,e1,e2,e3,e4,e5,ez,el⟩,-⟩:=HC.o _ eh;obtain⟨x0,x1,x2,x3,x4,xz,xl⟩:=cells5 d7;clear d7;clear oh hy vu hi hb qZ;go_wp2_with fail
  (with_reducible refine SD.o.mono ?_)
  rintro _ V4 ⟨rfl,F4⟩;obtain⟨bA,Pk⟩:=eX V4.heap.size
  obtain⟨V7,m8⟩:=eX (V4.alloc (.cells #[iU y.hash,iI y.rg,iI y.at_,iI y.sz] 110))
  have pA:V7.heap[bA]?=some (.cells #[iU y.hash,iI y.rg,iI y.at_,iI y.sz] 110):=by rw[<- m8,<- Pk];exact han _ _
  have F7:Fq V3 V7:=by rw[<- m8];exact F4.alloc _
  have p7:=F7.heap p3 id;have qw:D1 base w1 V7:=D1.trans eh (D1.none F7);have Uw:w1<=bA:=by rw[<- Pk];exact nT eh.size F4.size
  have kK:=HT.2.2.2.2.2.1;have jO:=hid fun (V:w9) (F:Fr (fun b=>b=z+2) V7 V)=>aI (cells5 (F.heap (HC _ qw).1 oM)) (aI (cells3 (F.heap p7 oM)) (D8 (F.heap pA oM)));have SZ:=hid fun (V:w9) (F:Fq V7 V)=>cells5 (F.heap (HC _ qw).2.2 id);have qD:=hid qw;have Hl:=hid m8;have RA:=hid Pk;have lX:=hid (Y5.2.2.trans F7 nI);clear m8 Pk F7 F4 p7 pA p3 qw eh Uw Uv kK x0 x1 x2 x3 x4 xz xl e0 e1 e2 e3 e4 e5 ez el;go_upto_region 7 with fail
  rw[Hl];try simp only[RA.o]
  have M6:=Y5.1;rcases Y5.2.1 with⟨rfl,hK⟩|⟨rfl,ha,hD⟩
  rotate_left
  .have Nq:=hid fun (V:w9) (F:Fq V7 V)=>show ((4:Int)=0/\(sp<=sp/\sp<=sp+3)/\∃ t',Z7 w0 base bs bv bx P a (N+480) G t' sp V/\OwnB V 0 (sL a0 n c0) (rows t' 0 0)/\t'.high=g)\/((4:Int)=4/\a=true/\fp w0 base bv P (N+1300) V/\∃ b m k,sL a0 n c0 = sL b m k) from .inr ⟨rfl,ha,(hD.mono oM).J0 (lX.trans F nI),_,_,_,rfl⟩;clear hD ha M6;obtain⟨VD,P7⟩:=eX V7.drew
   have FD:Fq V7 VD:=by rw[<- P7];exact fR.drew
   refine wp_region_noPanic ?_;refine q8 (fun V=>Fr (fun b=>b=z+2) V7 V) (.rd 0 (.rd 1 (.rd 2 (.rd 3 (.rd 4 (.rd 5 (.rd 6 (.rd 7 (.rd 8 (.rd 9 (.rd 10 (.rd 11 (.rd 12 (.rd 13 (.rd 14 (.rd 15 (.rd 16 (.rd 17 (.rd 18 (.rd 19 (.rd 20 (.rd 21 (.rd 22 (.rd 23 (.rd 24 (.op 25 (.rd 26 (.rd 27 (.rd 28 (.rd 29 (.rd 30 (.rd 31 (.op 32 (.rd 33 (.rd 34 .done))))))))))))))))))))))))))))))))))) kF kF kF (fun _ _ _ _ _ h=>h) (by rw[P7];exact (FD.mono nE)) ?_;rw[P7];clear P7;iterate 5
    refine oP ?_ ?_ ?_;rotate_left
    .intro V hV;obtain⟨⟨x0,x1,x2,x3,x4,xz,xl⟩,⟨p0,p1,p2,pz,pl⟩,r0,r1,r2,r3,rz,rl⟩:=jO.o V hV;go_simp;try with_reducible rfl
   iterate 20
    try simp only[Act.put,sI,sZ,sS]
    refine Iz _ gF rF ?_
   try simp only[Act.put,sI,sZ,sS]
   refine TM _ gF rF (FD.mono nE) ?_;iterate 5
    try simp only[Act.put,sI,sZ,sS]
    refine Iz _ gF rF ?_
   refine oP ?_ ?_ ?_;rotate_left
   .intro V hV;obtain⟨⟨x0,x1,x2,x3,x4,xz,xl⟩,⟨p0,p1,p2,pz,pl⟩,r0,r1,r2,r3,rz,rl⟩:=jO.o V hV;go_simp;try with_reducible rfl
   refine rP fun K hK=>?_;obtain⟨y0,y1,y2,y3,y4,yz,yl⟩:=SZ.o _ FD;go_simp;have HE:=hid (show ∀ W',((((VD.setCell (aA (z+2) 0) (iI g)).setCell (aA (z+2) 1) (iI 3)).setCell (aA (z+2) 2) (iI 3)).setCell (aA (z+2) 3) (sL a0 n c0)).setCell (aA (z+2) 4) (iI sp)=W'->Gg w0 base bs bv bx P a N G sp w (rT (tU #[ai g 3 3 (sL a0 n c0) sp,iI 4,bO true])) W' from fun W' hW=>iB _ _ _ _ _ _ _ _ _ _ _ (D1.trans qD.o (D1.none FD)) (Nq _ FD) hW);refine hK _ _ ((FD.mono (S':=fun b=>b=z+2) nE).trans (S:=fun b=>b=z+2) (by with_reducible (repeat (first|exact fR|refine Fr.setCell ?_ (fun _=>by simp) _))) nI) ?_;clear hK K;iterate 2
    refine oP ?_ ?_ ?_;rotate_left
    .intro V hV;obtain⟨⟨x0,x1,x2,x3,x4,xz,xl⟩,⟨p0,p1,p2,pz,pl⟩,r0,r1,r2,r3,rz,rl⟩:=jO.o V hV;go_simp;try with_reducible rfl
   refine o5 ?_;refine NoPanic.normal ?_;try simp only[Act.put,sI,sZ,sS]
   go_wp2_with fail
   refine bodyPost_ret (v:=tU #[ai g 3 3 (sL a0 n c0) sp,iI 4,bO true]) sR rfl ?_;exact HE _ rfl
  .have Nq:=hid (fun (V:w9) (F:Fq V7 V)=>show ((0:Int)=0/\(sp<=sp/\sp<=sp+3)/\∃ t',Z7 w0 base bs bv bx P a (N+480) G t' sp V/\OwnB V 0 (sL a0 n c0) (rows t' 0 0)/\t'.high=g)\/((0:Int)=4/\a=true/\fp w0 base bv P (N+1300) V/\∃ b m k,sL a0 n c0 = sL b m k) from .inl ⟨rfl,⟨DV _,oM⟩,t,(hK.mono oM (by have:=HN.o;omega)).J0 (lX.trans F nI),(I3.fZ qD.o).fr F,HT.2.2.1⟩);obtain⟨h1,h2⟩:=M6 rfl;clear hK M6;obtain⟨hy,vu⟩:=HM.o;cases hm:Mx t x.e.hash with
   | none =>
    rw[hm] at h1 h2 vu;have hq:q0=0/\q1=0/\q2=0:=(by simpa[vQ] using h2);obtain⟨rfl,rfl,rfl⟩:=hq;obtain rfl:ok=false:=h1;obtain rfl:is=false:=vu.symm;have hEq:∀ W,(binOp .eql 116 (.agg #[iI 0,iI 0,iI 0]) (.agg #[iI 0,iI 0,iI 0])).run prog W = .ok (bO true) W:=fun W=>by rw[Yr];simp
    clear h2 vu hy hm;obtain⟨VD,P7⟩:=eX V7.drew
    have FD:Fq V7 VD:=(by rw[<- P7];exact fR.drew);refine wp_region_noPanic ?_;refine q8 (fun V=>Fr (fun b=>b=z+2) V7 V) (.rd 0 (.rd 1 (.rd 2 (.rd 3 (.rd 4 (.rd 5 (.rd 6 (.rd 7 (.rd 8 (.rd 9 (.rd 10 (.rd 11 (.rd 12 (.rd 13 (.rd 14 (.rd 15 (.rd 16 (.rd 17 (.rd 18 (.rd 19 (.rd 20 (.rd 21 (.rd 22 (.rd 23 (.rd 24 (.op 25 (.rd 26 (.rd 27 (.rd 28 (.rd 29 (.rd 30 (.rd 31 (.op 32 (.rd 33 (.rd 34 .done))))))))))))))))))))))))))))))))))) kF kF kF (fun _ _ _ _ _ h=>h) (by rw[P7];exact (FD.mono nE)) ?_;rw[P7];clear P7;iterate 21
     refine oP ?_ ?_ ?_;rotate_left
     .intro V hV;obtain⟨⟨x0,x1,x2,x3,x4,xz,xl⟩,⟨p0,p1,p2,pz,pl⟩,r0,r1,r2,r3,rz,rl⟩:=jO.o V hV;go_simp;try with_reducible rfl
    iterate 4
     try simp only[Act.put,sI,sZ,sS]
     refine Iz _ gF rF ?_
    try simp only[Act.put,sI,sZ,sS]
    refine TM _ gF rF (FD.mono nE) ?_;iterate 3
     try simp only[Act.put,sI,sZ,sS]
     refine Iz _ gF rF ?_
    iterate 3
     refine oP ?_ ?_ ?_;rotate_left
     .intro V hV;obtain⟨⟨x0,x1,x2,x3,x4,xz,xl⟩,⟨p0,p1,p2,pz,pl⟩,r0,r1,r2,r3,rz,rl⟩:=jO.o V hV;go_simp;try with_reducible rfl
    refine rP fun K hK=>?_;obtain⟨y0,y1,y2,y3,y4,yz,yl⟩:=SZ.o _ FD;go_simp;have HE:=hid (show ∀ W',((((VD.setCell (aA (z+2) 0) (iI g)).setCell (aA (z+2) 1) (iI 3)).setCell (aA (z+2) 2) (iI 3)).setCell (aA (z+2) 3) (sL a0 n c0)).setCell (aA (z+2) 4) (iI sp)=W'->Gg w0 base bs bv bx P a N G sp w (rT (tU #[ai g 3 3 (sL a0 n c0) sp,iI 0,bO true])) W' from fun W' hW=>iB _ _ _ _ _ _ _ _ _ _ _ (D1.trans qD.o (D1.none FD)) (Nq _ FD) hW);refine hK _ _ ((FD.mono (S':=fun b=>b=z+2) nE).trans (S:=fun b=>b=z+2) (by with_reducible (repeat (first|exact fR|refine Fr.setCell ?_ (fun _=>by simp) _))) nI) ?_;clear hK K;iterate 2
     refine oP ?_ ?_ ?_;rotate_left
     .intro V hV;obtain⟨⟨x0,x1,x2,x3,x4,xz,xl⟩,⟨p0,p1,p2,pz,pl⟩,r0,r1,r2,r3,rz,rl⟩:=jO.o V hV;go_simp;try with_reducible rfl
    refine o5 ?_;refine NoPanic.normal ?_;try simp only[Act.put,sI,sZ,sS]
    go_wp2_with fail
    refine bodyPost_ret (v:=tU #[ai g 3 3 (sL a0 n c0) sp,iI 0,bO true]) sR rfl ?_;exact HE _ rfl
   | some y' =>
    rw[hm] at h1 h2 vu hy;obtain rfl:y'=y:=hy;have hq:q0=y'.rg/\q1=y'.at_/\q2=y'.sz:=(by simpa[vQ] using h2);obtain⟨rfl,rfl,rfl⟩:=hq;obtain rfl:ok=true:=h1;obtain rfl:is=true:=vu.symm;obtain⟨y,rfl⟩:=xe y'
    have hEq:∀ W,(binOp .eql 116 (.agg #[iI y.rg,iI y.at_,iI y.sz]) (.agg #[iI y.rg,iI y.at_,iI y.sz])).run prog W = .ok (bO true) W:=fun W=>by rw[Yr];simp
    have lD:∀ W,(Instr.field 118 (.agg #[iU y.hash,iI y.rg,iI y.at_,iI y.sz]) 1).run prog W = .ok (.agg #[iI y.rg,iI y.at_,iI y.sz]) W:=fun W=>by kernel_rfl
    clear h2 vu hm;obtain⟨VD,P7⟩:=eX V7.drew
    have FD:Fq V7 VD:=(by rw[<- P7];exact fR.drew);refine wp_region_noPanic ?_;refine q8 (fun V=>Fr (fun b=>b=z+2) V7 V) (.rd 0 (.rd 1 (.rd 2 (.rd 3 (.rd 4 (.rd 5 (.rd 6 (.rd 7 (.rd 8 (.rd 9 (.rd 10 (.rd 11 (.rd 12 (.rd 13 (.rd 14 (.rd 15 (.rd 16 (.rd 17 (.rd 18 (.rd 19 (.rd 20 (.rd 21 (.rd 22 (.rd 23 (.rd 24 (.op 25 (.rd 26 (.rd 27 (.rd 28 (.rd 29 (.rd 30 (.rd 31 (.op 32 (.rd 33 (.rd 34 .done))))))))))))))))))))))))))))))))))) kF kF kF (fun _ _ _ _ _ h=>h) (by rw[P7];exact (FD.mono nE)) ?_;rw[P7];clear P7;iterate 16
     refine oP ?_ ?_ ?_;rotate_left
     .intro V hV;obtain⟨⟨x0,x1,x2,x3,x4,xz,xl⟩,⟨p0,p1,p2,pz,pl⟩,r0,r1,r2,r3,rz,rl⟩:=jO.o V hV;go_simp;try with_reducible rfl
    iterate 3
     try simp only[Act.put,sI,sZ,sS]
     refine Iz _ gF rF ?_
    iterate 6
     refine oP ?_ ?_ ?_;rotate_left
     .intro V hV;obtain⟨⟨x0,x1,x2,x3,x4,xz,xl⟩,⟨p0,p1,p2,pz,pl⟩,r0,r1,r2,r3,rz,rl⟩:=jO.o V hV;go_simp;try with_reducible rfl
    refine rQ fun K hK=>?_
    (with_reducible refine (NV y _).mono ?_)
    rintro _ V8 ⟨rfl,G8⟩;have F8:=FD.trans G8 nI;refine hK _ _ (F8.mono nE) ?_;clear hK K;iterate 6
     refine oP ?_ ?_ ?_;rotate_left
     .intro V hV;obtain⟨⟨x0,x1,x2,x3,x4,xz,xl⟩,⟨p0,p1,p2,pz,pl⟩,r0,r1,r2,r3,rz,rl⟩:=jO.o V hV;go_simp;try with_reducible rfl
    refine rP fun K hK=>?_;obtain⟨y0,y1,y2,y3,y4,yz,yl⟩:=SZ.o _ F8;go_simp;have HE:=hid (show ∀ W',((((V8.setCell (aA (z+2) 0) (iI g)).setCell (aA (z+2) 1) (iI 3)).setCell (aA (z+2) 2) (iI 3)).setCell (aA (z+2) 3) (sL a0 n c0)).setCell (aA (z+2) 4) (iI sp)=W'->Gg w0 base bs bv bx P a N G sp w (rT (tU #[ai g 3 3 (sL a0 n c0) sp,iI 0,bO true])) W' from fun W' hW=>iB _ _ _ _ _ _ _ _ _ _ _ (D1.trans qD.o (D1.none F8)) (Nq _ F8) hW);refine hK _ _ ((F8.mono (S':=fun b=>b=z+2) nE).trans (S:=fun b=>b=z+2) (by with_reducible (repeat (first|exact fR|refine Fr.setCell ?_ (fun _=>by simp) _))) nI) ?_;clear hK K;iterate 2
     refine oP ?_ ?_ ?_;rotate_left
     .intro V hV;obtain⟨⟨x0,x1,x2,x3,x4,xz,xl⟩,⟨p0,p1,p2,pz,pl⟩,r0,r1,r2,r3,rz,rl⟩:=jO.o V hV;go_simp;try with_reducible rfl
    refine o5 ?_;refine NoPanic.normal ?_;try simp only[Act.put,sI,sZ,sS]
    go_wp2_with fail
    refine bodyPost_ret (v:=tU #[ai g 3 3 (sL a0 n c0) sp,iI 0,bO true]) sR rfl ?_;exact HE _ rfl
 have CK:(uy == 5)=false:=by simp[h5]
 clear h5;by_cases h4:uy=4
 .have ti:(uy == 4)=true:=by simp[h4]
  clear h4;have dE:=hid (zm0 gN.o HX.wh (by have:=HN.o;omega));go_wp2_with fail
  refine dE.mono ?_;rintro e V2 ⟨was,err,rfl,M6,eH,S7⟩;have Y5:=hi2 M6 S7;clear x0 x1 x2 x3 x4 xz xl e0 e1 e2 e3 e4 e5 ez el y0 y1 y2 y3 y4 yz yl dE M6 S7;obtain⟨d7,⟨e0,e1,e2,e3,e4,e5,ez,el⟩,-⟩:=HC.o _ eH;obtain⟨x0,x1,x2,x3,x4,xz,xl⟩:=cells5 d7;clear d7;obtain⟨i,b,hi,hb,KU,hsm,-⟩:=jZ0 HX.wh HT.2.2.1 (by have:=HT.1;have:=HT.2.2.1;omega) HT.2.1;have B8:=uu0 (I3.fZ eH) (by rw[HT.2.2.2.1];omega) g 3 3 sp x.e.hash HX.wh (fun b hb=>by have:=Xt HT.2.1 HT.1 b hb;exact⟨by have:=this.1;omega,this.2.2.1⟩) hi hb;rw[show List.take i (rows t 0 0)++[(b.1,b.2.1,List.filter (I8 x.e.hash) b.2.2)]++List.drop (i+1) (rows t 0 0)=rep (rows t 0 0) i [(b.1,b.2.1,b.2.2.filter (I8 x.e.hash))] from rfl,KU,hsm] at B8;have UR:(nK t g x.e.hash).1.high=g:=(qf0 t g x.e.hash).trans HT.2.2.1;obtain⟨hd,Va⟩:=eX (nK t g x.e.hash)
  rw[Va] at B8 UR;have wu:=hid B8;have ZQ:=hi2 Va UR;clear B8 Va hi hb KU hsm UR;go_wp2_with fail
  (with_reducible refine wu.o.mono ?_)
  rintro _ V4 ⟨v4,rfl,af,F4⟩;obtain⟨n4,vB⟩:=eX ((rows hd.1 0 0).length)
  obtain⟨a4,c4,rfl⟩:=af.slice;rw[vB] at af ⊢;obtain⟨b9,R7⟩:=eX V4.heap.size
  obtain⟨V7,m8⟩:=eX (V4.alloc (.cells #[iI g,iI 3,iI 3,sL a4 n4 c4,iI sp] 137))
  have p9:V7.heap[b9]?=some (.cells #[iI g,iI 3,iI 3,sL a4 n4 c4,iI sp] 137):=by rw[<- m8,<- R7];exact han _ _
  have Rq:=fA m8
  have F7:Fq V2 V7:=F4.trans Rq nI;have qD:=hid (D1.trans eH (D1.none F7));have Hl:=hid m8;have qB:=hid R7;have lZ:=hid (af.fr Rq);have lX:=hid F7;clear m8 R7 F7 Rq F4 af vB x0 x1 x2 x3 x4 xz xl e0 e1 e2 e3 e4 e5 ez el;go_upto_region 11 with fail
  rw[Hl];try simp only[qB.o]
  obtain⟨p0,p1,p2,p3,p4,pz,pl⟩:=cells5 p9;obtain⟨y0,y1,y2,y3,y4,yz,yl⟩:=cells5 (HC _ qD.o).2.2;have M6:=Y5.1;rcases Y5.2 with⟨rfl,hK⟩|⟨rfl,ha,hD⟩
  .have Lr:=M6 rfl;rw[HT.2.2.1,ZQ.1] at Lr hK;obtain rfl:=Lr;obtain⟨wb,mX⟩:=eX hd.2
   rw[mX];have HE:=hid (fun W' u0 u1 u2 u3 u4=>iB _ W' g (sL a4 n4 c4) u0 u1 u2 u3 u4 sp 0 qD.o (.inl ⟨rfl,⟨DV _,oM⟩,hd.1,(hK.mono oM (by have:=HN.o;omega)).J0 lX.o,lZ.o,ZQ.2⟩));clear hK M6 mX;go_wp2_with fail
   refine bodyPost_ret (v:=tU #[ai g 3 3 (sL a4 n4 c4) sp,iI 0,bO true]) sR rfl ?_;exact HE _ _ _ _ _ _ rfl
  .have HE:=hid fun W' u0 u1 u2 u3 u4=>iB _ W' g (sL a4 n4 c4) u0 u1 u2 u3 u4 sp 4 qD.o (.inr ⟨rfl,ha,(hD.mono oM).J0 lX.o,_,_,_,rfl⟩);clear hD M6 ha;go_wp2_with fail
   refine bodyPost_ret (v:=tU #[ai g 3 3 (sL a4 n4 c4) sp,iI 4,bO true]) sR rfl ?_;exact HE _ _ _ _ _ _ rfl
 have ti:(uy == 4)=false:=by simp[h4]
 clear h4;cases hre:ab x.e with
 | false =>
  have Sy:=hid (xh0 HX.wh hre bx x.oldest);have uL:=hid fun V=>un0 x.e V;rw[hre] at uL;clear hre;go_upto_region 12 with fail
  clear x0 x1 x2 x3 x4 xz xl e0 e1 e2 e3 e4 e5 ez el y0 y1 y2 y3 y4 yz yl;obtain⟨VD,P7⟩:=eX w1.drew
  have FD:Fq w1 VD:=by rw[<- P7];exact fR.drew
  refine wp_region_noPanic ?_;refine q8 (fun V=>D1 base w1 V) (.rd 0 (.rd 1 (.rd 2 (.rd 4 (.rd 5 (.op 3 (.op 6 (.rd 7 (.rd 8 (.rd 9 (.rd 10 (.rd 11 .done)))))))))))) kF kF kF (fun _ _ _ _ _ h=>h) (by rw[P7];exact D1.none FD) ?_;rw[P7];clear P7;iterate 5
   refine oP ?_ ?_ ?_;rotate_left
   .intro V hV;obtain⟨-,⟨e0,e1,e2,e3,e4,e5,ez,el⟩,-⟩:=HC.o V hV;go_simp;try with_reducible rfl
  refine rQ fun K hK=>?_
  (with_reducible refine (NV x.e _).mono ?_)
  rintro _ V2 ⟨rfl,G2⟩;have F2:=FD.trans G2 nI;refine hK _ _ (D1.none F2) ?_;clear hK K;refine rQ fun K hK=>?_
  (with_reducible refine (Sy.o _).mono ?_)
  rintro _ V3 ⟨rfl,G3⟩;have F3:=F2.trans G3 nI;refine hK _ _ (D1.none F3) ?_;clear hK K;iterate 5
   refine oR ?_
  refine o5 ?_;refine NoPanic.normal ?_;try simp only[Act.put,sI,sZ,sS]
  have N5:=hid F3;clear F2 G2 G3 F3 FD;obtain⟨-,⟨e0,e1,e2,e3,e4,e5,ez,el⟩,-⟩:=HC.o _ (D1.none N5.o);go_wp2_with fail
  (with_reducible refine (uL.o _).mono ?_)
  rintro _ V4 ⟨rfl,F4⟩;have F4:=N5.trans F4 nI;have p8:=hid F4;clear F4 e0 e1 e2 e3 e4 e5 ez el;obtain⟨d7,-,L4⟩:=HC.o _ (D1.none p8.o);obtain⟨x0,x1,x2,x3,x4,xz,xl⟩:=cells5 d7;obtain⟨y0,y1,y2,y3,y4,yz,yl⟩:=cells5 L4;clear d7 L4;go_wp2_with fail
  refine bodyPost_ret (v:=tU #[ai g 3 3 (sL a0 n c0) sp,iI 0,bO true]) sR rfl ?_;exact iB _ _ _ _ _ _ _ _ _ _ _ (D1.none p8.o) (.inl ⟨rfl,⟨DV _,oM⟩,t,(gN.mono oM (by have:=HN.o;omega)).J0 p8.o,I3.fr p8.o,HT.2.2.1⟩) rfl
 | true =>
  have hgo:=qR0 HX.wh hre;obtain⟨R,hR⟩:=eX (eo 8 t t.high sp x.e x.oldest)
  have Du:=tC0 (sp:=sp) hgo x.oldest HT.1 HT.2.1;have VK:=Ow hgo x.oldest 8 t t.high sp rfl HT.1 HT.2.1;rw[hR] at Du VK;have KL:jk 8 g (rows t 0 0) sp x.e x.oldest=⟨R.g,rows R.t 0 0,R.sp,R.lost⟩:=by rw[<- HT.2.2.1];exact VK
  have Sy:=hid fun V (F:Fq w1 V)=>Bh0 (gN.J0 F) x.e x.oldest hgo HN.o HT.2.2.2.2.2.2 hR;have uL:=hid fun V=>un0 x.e V;rw[hre] at uL;obtain⟨⟨d,p,r,es⟩,G4⟩:∃ s,t.at_ t.high (X0 x.e.hash t.high) 0 0=s:=⟨_,rfl⟩
  obtain⟨i,hi,hb,-⟩:=LH hgo.1 (nR _) (by have:=HT.1;omega) G4;have T6:=Tr.BH t t.high (X0 x.e.hash t.high) 0 0;rw[G4] at T6;have HRp:=hid (fun V (hB:OwnB V 0 (sL a0 n c0) (rows t 0 0))=>by
   have:=wF0 x.e x.oldest hgo.1 8 V _ _ hB (by rw[HT.2.2.2.1];omega) g (by have:=HT.1;have:=HT.2.2.1;omega) sp hsp.1 (by have:=HT.2.2.2.2.2.2;omega) (Xt HT.2.1 HT.1) i _ hi hb (by simp only;omega);rw[KL] at this;exact this)
  have HS:=hid Du;clear hgo hR Du VK KL G4 hi hb T6 hre;go_upto_region 12 with fail
  clear x0 x1 x2 x3 x4 xz xl e0 e1 e2 e3 e4 e5 ez el y0 y1 y2 y3 y4 yz yl;obtain⟨VD,P7⟩:=eX w1.drew
  have FD:Fq w1 VD:=by rw[<- P7];exact fR.drew
  refine wp_region_noPanic ?_;refine q8 (fun V=>D1 base w1 V) (.rd 0 (.rd 1 (.rd 2 (.rd 4 (.rd 5 (.op 3 (.op 6 (.rd 7 (.rd 8 (.rd 9 (.rd 10 (.rd 11 .done)))))))))))) kF kF kF (fun _ _ _ _ _ h=>h) (by rw[P7];exact D1.none FD) ?_;rw[P7];clear P7;iterate 5
   refine oP ?_ ?_ ?_;rotate_left
   .intro V hV;obtain⟨-,⟨e0,e1,e2,e3,e4,e5,ez,el⟩,-⟩:=HC.o V hV;go_simp;try with_reducible rfl
  refine rQ fun K hK=>?_
  (with_reducible refine (NV x.e _).mono ?_)
  rintro _ V2 ⟨rfl,G2⟩;have F2:=FD.trans G2 nI;refine hK _ _ (D1.none F2) ?_;clear hK K;refine rQ fun K hK=>?_
  (with_reducible refine (Sy.o _ F2).mono ?_)
  rintro _ V3 ⟨lost,err,rfl,oa,FI,S7⟩;have eh:=D1.trans (D1.none F2) FI;refine hK _ _ eh ?_;clear hK K;iterate 5
   refine oR ?_
  refine o5 ?_;refine NoPanic.normal ?_;try simp only[Act.put,sI,sZ,sS]
  have N5:=hid eh;have Y5:=hi2 oa S7;clear F2 G2 FI eh FD oa S7;obtain⟨-,⟨e0,e1,e2,e3,e4,e5,ez,el⟩,-⟩:=HC.o _ N5.o;go_wp2_with fail
  (with_reducible refine (uL.o _).mono ?_)
  rintro _ V4 ⟨rfl,F4⟩;have p8:=hi2 F4 (D1.trans N5.o (D1.none F4));clear F4 e0 e1 e2 e3 e4 e5 ez el;obtain⟨d7,⟨e0,e1,e2,e3,e4,e5,ez,el⟩,-⟩:=HC.o _ p8.2;obtain⟨x0,x1,x2,x3,x4,xz,xl⟩:=cells5 d7;have yK:=hid (HRp.o V4 (I3.fZ p8.2));clear d7;go_wp2_with fail
  (with_reducible refine yK.o.mono ?_)
  rintro _ V5 ⟨v5,rfl,fH,F5⟩;simp only at fH;obtain⟨n5,cG⟩:=eX ((rows R.t 0 0).length)
  obtain⟨a5,c5,rfl⟩:=fH.slice;rw[cG] at fH ⊢;obtain⟨b9,R7⟩:=eX V5.heap.size
  obtain⟨V7,m8⟩:=eX (V5.alloc (.cells #[iI R.g,iI 3,iI 3,sL a5 n5 c5,iI R.sp] 137))
  have p9:V7.heap[b9]?=some (.cells #[iI R.g,iI 3,iI 3,sL a5 n5 c5,iI R.sp] 137):=by rw[<- m8,<- R7];exact han _ _
  have rA:=fA m8
  have Rp:Fq V3 V7:=(p8.1.trans F5 nI).trans rA nI;have qD:=hid (D1.trans N5.o (D1.none Rp));have Hl:=hid m8;have qB:=hid R7;have lZ:=hid (fH.fr rA);have lX:=hid Rp;clear m8 R7 Rp rA F5 fH cG x0 x1 x2 x3 x4 xz xl e0 e1 e2 e3 e4 e5 ez el;go_upto_region 16 with fail
  rw[Hl];try simp only[qB.o]
  obtain⟨p0,p1,p2,p3,p4,pz,pl⟩:=cells5 p9;obtain⟨y0,y1,y2,y3,y4,yz,yl⟩:=cells5 (HC _ qD.o).2.2;have M6:=Y5.1;rcases Y5.2 with⟨rfl,hK⟩|⟨rfl,ha,hD⟩
  .obtain⟨oa,vq⟩:=M6 rfl;obtain rfl:=oa;obtain⟨wb,mX⟩:=eX R.lost
   rw[mX];have HE:=hid fun W' u0 u1 u2 u3 u4=>iB _ W' R.g (sL a5 n5 c5) u0 u1 u2 u3 u4 R.sp 0 qD.o (.inl ⟨rfl,HS.o,R.t,hK.J0 lX.o,lZ.o,vq⟩);clear hK M6 mX vq;go_wp2_with fail
   refine bodyPost_ret (v:=tU #[ai R.g 3 3 (sL a5 n5 c5) R.sp,iI 0,bO true]) sR rfl ?_;exact HE _ _ _ _ _ _ rfl
  .have HE:=hid fun W' u0 u1 u2 u3 u4=>iB _ W' R.g (sL a5 n5 c5) u0 u1 u2 u3 u4 R.sp 4 qD.o (.inr ⟨rfl,ha,hD.J0 lX.o,_,_,_,rfl⟩);clear hD M6 ha;go_wp2_with fail
   refine bodyPost_ret (v:=tU #[ai R.g 3 3 (sL a5 n5 c5) R.sp,iI 4,bO true]) sR rfl ?_;exact HE _ _ _ _ _ _ rfl
