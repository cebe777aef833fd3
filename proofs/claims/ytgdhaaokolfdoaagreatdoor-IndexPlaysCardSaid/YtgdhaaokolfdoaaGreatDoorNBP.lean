/- A pack of texts. Conditions: those that each names. -/
import Derived.Test.YtgdhaaokolfdoaaGreatDoorNBO
set_option maxHeartbeats 16000000
set_option maxRecDepth 100000
set_option linter.all false
namespace Go.Proofs.YtgdhaaokolfdoaaGreatDoor
open Go.RowKit Go.Sg Go.Sg.Bits Go.Sg.Clk CP SF
theorem eI0 {P:Program}{md:Region.Mode}{ops:Array Oper}{Q:Exit->Act->World->Prop}{S:World->Prop}{i:Nat}{p:Sg.Pl}{a:Act}{w:World}(o:Oper)(ho:ops[i]?=some o)(hw:Region.wanted o (yielded ops a.tmps)=false)(h:bZ0 P md ops Q S p (a.put o.dst undef) w):bZ0 P md ops Q S (.rd i p) a w:=
 ⟨undef,o,ho,.inr ⟨hw,rfl⟩,h⟩
def yx0 (w0:World)(base bs bv bx:Nat)(P:aQ0)(a:Bool)(N G:Nat)(sp:Int)(w:World)(e:Ending)(w':World):Prop:=
 ∃ (v':Value) (g':Nat) (sp' err:Int),e = .returned (.tuple #[ixV g' 3 3 v' sp',.int .i64 err,.bool true])/\FrI base w w' /\
  ((err=0/\(sp<=sp'/\sp'<=sp+3)/\∃ t',KqP w0 base bs bv bx P a (N+480) G t' sp' w'/\OwnB w' 0 v' (rows t' 0 0)/\t'.high=g')\/(err=4/\a=true/\DnP w0 base bv P (N+1300) w'))
section
variable {w0 V V':World}{base bs bv bx N G:Nat}{P:aQ0}{a:Bool}{t:Tr}{sp:Int}
variable {k:Nat}{c:Array Value}{ty:TypeId}
theorem KqP.setB (h:KqP w0 base bs bv bx P a N G t sp V)(F:Fr (fun b=>b=k) V V')(hk:V.heap[k]?=some (.cells c ty))(ht:ty ∉ 5 :: 227 :: 209 :: em0)(hb:base<=k)(h0:0<k):KqP w0 base bs bv bx P a N G t sp V':=by
 obtain⟨B,bd,y,x,t',⟨⟨au0,L,hM,hP⟩,h1,h2⟩,h3,h4,h5,h6,h7⟩:=h;exact⟨B,bd,y,x,t',⟨⟨au0,L,hM.an0 F hk ht h0,hP⟩,h1,h2⟩,h3,h4,h5.trans F (fun b hb' e=>oM),h6,h7⟩
theorem DnP.setB (h:DnP w0 base bv P N V)(F:Fr (fun b=>b=k) V V')(hk:V.heap[k]?=some (.cells c ty))(ht:ty ∉ 5 :: em0)(hb:w0.heap.size<=k):DnP w0 base bv P N V':=by
 obtain⟨B,y,hD,h1,h2,h3⟩:=h;exact⟨B,y,hD.frL F hk ht,h1,h2.trans F (fun b hb' e=>oM),h3⟩
theorem OwnB.setB {b:Nat}{v:Value}{l:Lb}(h:OwnB V b v l)(F:Fr (fun b=>b=k) V V')(hk:V.heap[k]?=some (.cells c ty))(ht:ty≠220/\ty≠110):OwnB V' b v l:=by
 obtain⟨xs,h1,h2,h3⟩:=h;exact⟨xs,h1,oRf h2 F (fun g c' hg e=>by rw[e,hk] at hg;cases hg;exact ht.1 rfl),fun x hx=>oRf (h3 x hx) F (fun g c' hg e=>by rw[e,hk] at hg;cases hg;exact ht.2 rfl)⟩
theorem oB0 (t:Tr)(g h:Nat):(eW0 t g h).1.high=t.high:=by
 unfold eW0;simp only;split
 ·exact eS0 _ (fun _ _=>rfl) _ _ _
 ·rfl
theorem DnP.mono (h:DnP w0 base bv P N V){N':Nat}(hN:N<=N'):DnP w0 base bv P N' V:=by
 obtain⟨B,y,hD,h1⟩:=h;exact⟨B,y,hD.mono hN,h1⟩
theorem wc0 {w V W':World}{g':Nat}{v' u0 u1 u2 u3 u4:Value}{sp' err:Int}{c0:Array Value}(hb:base=w0.heap.size)(hbw:base<=w.heap.size)(hF:FrI base w V)(hk:V.heap[k]?=some (.cells c0 137))(hwk:w.heap.size<=k)(h0:0<k)
  (hr:(err=0/\(sp<=sp'/\sp'<=sp+3)/\∃ t',KqP w0 base bs bv bx P a (N+480) G t' sp' V/\OwnB V 0 v' (rows t' 0 0)/\t'.high=g')\/(err=4/\a=true/\DnP w0 base bv P (N+1300) V))
  (hW:((((V.setCell ⟨k,0,none⟩ u0).setCell ⟨k,1,none⟩ u1).setCell ⟨k,2,none⟩ u2).setCell ⟨k,3,none⟩ u3).setCell ⟨k,4,none⟩ u4=W') :
  yx0 w0 base bs bv bx P a N G sp w (.returned (.tuple #[ixV g' 3 3 v' sp',.int .i64 err,.bool true])) W':=by
 have F:Fr (fun b=>b=k) V W':=by rw[<- hW];with_reducible (repeat (first|exact Fr.refl _ _|refine Fr.setCell ?_ (fun _=>by simp) _))
 refine⟨v',g',sp',err,rfl,Fr.trans hF F (fun b hb' e=>oM),?_⟩;rcases hr with⟨h1,h2,t',h3,h4,h5⟩|⟨h1,h2,h3⟩
 ·exact .inl ⟨h1,h2,t',h3.setB F hk dC oM h0,h4.setB F hk dC,h5⟩
 ·exact .inr ⟨h1,h2,h3.setB F hk dC oM⟩
end
theorem tO0 {w0 w:World}{base bs bv bx N G:Nat}{P:aQ0}{a:Bool}{t:Tr}{sp:Int}(h:KqP w0 base bs bv bx P a N G t sp w){v:Value}(hB:OwnB w 0 v (rows t 0 0))(hbw:base<=w.heap.size)(hw0:0<w.heap.size)(x:tu0)(hx:qs0 x)(hN:N+1300<=90000)(hsp:0<=sp/\sp+8<=100000) :
  Calls Tryz.prog 75 #[cG0 bx,ixV t.high 3 3 v sp,.agg #[.int .i64 x.kind,.int .i64 x.oldest,.int .u64 x.e.hash,.int .i64 x.e.rg,.int .i64 x.e.at_,.int .i64 x.e.sz]] w (yx0 w0 base bs bv bx P a N G sp w):=by
 obtain⟨a0,c0,rfl⟩:=hB.slice;obtain⟨n,hn⟩:=eX ((rows t 0 0).length)
 obtain⟨hh,hok⟩:=h.high;obtain⟨g,hg⟩:=eX t.high
 have hn8:n<=8:=by rw[<- hn,gg0];exact uM0 hh
 have hbase:=h.Ah0;rw[hn] at hB;rw[hg,hn];obtain⟨w1,hw1⟩:=eX (((w.alloc (.cells #[.int .i64 g,.int .i64 3,.int .i64 3,.slice a0 n c0,.int .i64 sp] 137)).alloc (.cells #[.int .i64 x.kind,.int .i64 x.oldest,.int .u64 x.e.hash,.int .i64 x.e.rg,.int .i64 x.e.at_,.int .i64 x.e.sz] 112)).alloc (.cells #[.int .i64 0,.int .i64 0,.int .i64 0,.slice none 0 0,.int .i64 0] 137))
 obtain⟨z,hz⟩:=eX w.heap.size
 obtain⟨b0,b1,b2,F1⟩:=aO0 hw1;rw[hz] at b0 b1 b2;have hs1:w1.heap.size=z+3:=by rw[<- hw1,<- hz];simp
 have HK1:=hid (h.fr0 F1);have HB1:=hid (hB.fr F1);have HFI1:=hid (FrI.none (base:=base) F1);have HC:=hid (fun (V:World) (F:FrI base w1 V)=>aI (FrI.heap F b0 dC) (aI (aU0 (FrI.heap F b1 dC)) (FrI.heap F b2 dC)));have HFin:=hid (fun (V W':World) (g':Nat) (v' u0 u1 u2 u3 u4:Value) (sp' err:Int) (F:FrI base w1 V)=>wc0 (W':=W') (g':=g') (v':=v') (u0:=u0) (u1:=u1) (u2:=u2) (u3:=u3) (u4:=u4) (sp':=sp') (err:=err) (bs:=bs) (bv:=bv) (bx:=bx) (N:=N) (G:=G) (P:=P) (a:=a) (sp:=sp) (w:=w) (k:=z+2) hbase hbw (FrI.trans (FrI.none F1) F) (FrI.heap F b2 dC) oM oM);have HT:=hi2 hh (aI hok (aI hg (aI hn (aI hbase (aI hs1 hsp)))));have HX:=hid hx;have HW:=hid hw1;have HZ:=hid hz;have hzb:base<=z:=oM
 have HN:=hid hN;obtain⟨hb0,⟨e0,e1,e2,e3,e4,e5,ez,el⟩,-⟩:=HC.out _ (FrI.none (Fr.refl _ _));obtain⟨x0,x1,x2,x3,x4,xz,xl⟩:=cells5 hb0;obtain⟨y0,y1,y2,y3,y4,yz,yl⟩:=cells5 b2;clear hb0 h hB hh hok hg hn hbase hs1 hx hw1 hz b0 b1 b2 F1 hw0 hbw hN;go_enter Tryz.func75,Tryz.ntmps75;go_upto_region 1 with fail
 rw[HW.out];try simp only[HZ.out]
 obtain⟨w0k,hw0k⟩:=eX ((wrap64 (x.kind.tmod 8+8)).tmod 8)
 by_cases h6:(6:Int)<=w0k
 ·have hd6:decide ((6:Int)<=w0k)=true:=by simp[h6]
  clear h6;go_wp2_with fail
  refine bodyPost_ret (v:=.tuple #[ixV g 3 3 (.slice a0 n c0) sp,.int .i64 0,.bool true]) sR rfl ?_;exact HFin.out _ _ _ _ _ _ _ _ _ _ _ (FrI.none (Fr.refl _ _)) (.inl ⟨rfl,⟨nn9 _,oM⟩,t,HK1.out.mono oM (by have:=HN.out;omega),HB1.out,HT.out.2.2.1⟩) rfl
 have hd6:decide ((6:Int)<=w0k)=false:=by simp;omega
 clear h6;by_cases h5:w0k=5
 ·have hd5:(w0k == 5)=true:=by simp[h5]
  clear h5;have HFi:=hid (wC0 HK1.out HX.out.wh (by have:=HN.out;omega));go_wp2_with fail
  refine HFi.out.mono ?_;rintro e V2 ⟨q0,q1,q2,ok,err,rfl,hres,FI2,hend⟩;obtain⟨b9,hb9⟩:=eX V2.heap.size
  obtain⟨V3,hV3⟩:=eX (V2.alloc (.cells #[.int .i64 q0,.int .i64 q1,.int .i64 q2] 116))
  have p3:V3.heap[b9]?=some (.cells #[.int .i64 q0,.int .i64 q1,.int .i64 q2] 116):=by rw[<- hV3,<- hb9];exact han _ _
  have F3:Fq V2 V3:=by rw[<- hV3];exact (Fr.refl _ _).alloc _
  have FI3:FrI base w1 V3:=FrI.trans FI2 (FrI.none F3);have hb9w:w1.heap.size<=b9:=by rw[<- hb9];exact FI2.size
  have HRes:=hi2 hres (aI hend F3);have HV3:=hid hV3;have HB9:=hid hb9;clear hres hend hV3 hb9 FI2 F3 x0 x1 x2 x3 x4 xz xl e0 e1 e2 e3 e4 e5 ez el y0 y1 y2 y3 y4 yz yl HFi;go_upto_region 6 with fail
  rw[HV3.out];try simp only[HB9.out]
  obtain⟨i,b,hi,hb,-,-,hfm⟩:=iA0 HX.out.wh HT.out.2.2.1 (by have:=HT.out.1;have:=HT.out.2.2.1;omega) HT.out.2.1;have hrf:=sk0 (HB1.out.frI FI3) (by rw[HT.out.2.2.2.1];omega) g 3 3 sp x.e.hash HX.out.wh (fun b hb=>by have:=kg0 HT.out.2.1 HT.out.1 b hb;exact⟨by have:=this.1;omega,this.2.2.1⟩) hi hb;rw[hfm] at hrf;obtain⟨y,hy⟩:=eX ((Mx t x.e.hash).getD ⟨0,0,0,0⟩)
  obtain⟨is,his⟩:=eX ((Mx t x.e.hash).isSome)
  unfold FoP at hrf;rw[hy,his] at hrf;have HRf:=hid hrf;have HM:=hi2 hy his;obtain⟨hb0,⟨e0,e1,e2,e3,e4,e5,ez,el⟩,-⟩:=HC.out _ FI3;obtain⟨x0,x1,x2,x3,x4,xz,xl⟩:=cells5 hb0;clear hb0;clear hrf hy his hi hb hfm;go_wp2_with fail
  (with_reducible refine HRf.out.mono ?_)
  rintro _ V4 ⟨rfl,F4⟩;obtain⟨bA,hbA⟩:=eX V4.heap.size
  obtain⟨V7,hV7⟩:=eX (V4.alloc (.cells #[.int .u64 y.hash,.int .i64 y.rg,.int .i64 y.at_,.int .i64 y.sz] 110))
  have pA:V7.heap[bA]?=some (.cells #[.int .u64 y.hash,.int .i64 y.rg,.int .i64 y.at_,.int .i64 y.sz] 110):=by rw[<- hV7,<- hbA];exact han _ _
  have F7:Fq V3 V7:=by rw[<- hV7];exact F4.alloc _
  have p7:=F7.heap p3 id;have FI7:FrI base w1 V7:=FrI.trans FI3 (FrI.none F7);have hbAw:w1.heap.size<=bA:=by rw[<- hbA];exact nT FI3.size F4.size
  have hz3:=HT.out.2.2.2.2.2.1;have HC7:=hid (fun (V:World) (F:Fr (fun b=>b=z+2) V7 V)=>aI (cells5 (F.heap (HC.out _ FI7).1 oM)) (aI (cells3 (F.heap p7 oM)) (ah0 (F.heap pA oM))));have HY7:=hid (fun (V:World) (F:Fq V7 V)=>cells5 (F.heap (HC.out _ FI7).2.2 id));have HI7:=hid FI7;have HV7:=hid hV7;have HBA:=hid hbA;have HF7:=hid (HRes.out.2.2.trans F7 nI);clear hV7 hbA F7 F4 p7 pA p3 FI7 FI3 hbAw hb9w hz3 x0 x1 x2 x3 x4 xz xl e0 e1 e2 e3 e4 e5 ez el;go_upto_region 7 with fail
  rw[HV7.out];try simp only[HBA.out]
  have hres:=HRes.out.1;rcases HRes.out.2.1 with⟨rfl,hK⟩|⟨rfl,ha,hD⟩
  rotate_left
  ·have HR7:=hid (fun (V:World) (F:Fq V7 V)=>show ((4:Int)=0/\(sp<=sp/\sp<=sp+3)/\∃ t',KqP w0 base bs bv bx P a (N+480) G t' sp V/\OwnB V 0 (.slice a0 n c0) (rows t' 0 0)/\t'.high=g)\/((4:Int)=4/\a=true/\DnP w0 base bv P (N+1300) V) from .inr ⟨rfl,ha,(hD.mono oM).fr0 (HF7.out.trans F nI)⟩);clear hD ha hres;obtain⟨VD,hVD⟩:=eX V7.drew
   have FD:Fq V7 VD:=by rw[<- hVD];exact (Fr.refl _ _).drew
   refine wp_region_noPanic ?_;refine aq0 (fun V=>Fr (fun b=>b=z+2) V7 V) (.rd 0 (.rd 1 (.rd 2 (.rd 3 (.rd 4 (.rd 5 (.rd 6 (.rd 7 (.rd 8 (.rd 9 (.rd 10 (.rd 11 (.rd 12 (.rd 13 (.rd 14 (.rd 15 (.rd 16 (.rd 17 (.rd 18 (.rd 19 (.rd 20 (.rd 21 (.rd 22 (.rd 23 (.rd 24 (.op 25 (.rd 26 (.rd 27 (.rd 28 (.rd 29 (.rd 30 (.rd 31 (.op 32 (.rd 33 (.rd 34 .done))))))))))))))))))))))))))))))))))) kF kF kF (fun _ _ _ _ _ h=>h) (by rw[hVD];exact (FD.mono nE)) ?_;rw[hVD];clear hVD;iterate 5
    try simp only[Act.put,sI,sZ,sS]
    refine ay0 _ ?_ gF rF ?_ ?_;rotate_left
    ·intro V hV;obtain⟨⟨x0,x1,x2,x3,x4,xz,xl⟩,⟨p0,p1,p2,pz,pl⟩,r0,r1,r2,r3,rz,rl⟩:=HC7.out V hV;go_simp;try with_reducible rfl
   iterate 20
    try simp only[Act.put,sI,sZ,sS]
    refine eI0 _ gF rF ?_
   try simp only[Act.put,sI,sZ,sS]
   refine fU0 _ gF rF (FD.mono nE) ?_;iterate 5
    try simp only[Act.put,sI,sZ,sS]
    refine eI0 _ gF rF ?_
   try simp only[Act.put,sI,sZ,sS]
   refine ay0 _ ?_ gF rF ?_ ?_;rotate_left
   ·intro V hV;obtain⟨⟨x0,x1,x2,x3,x4,xz,xl⟩,⟨p0,p1,p2,pz,pl⟩,r0,r1,r2,r3,rz,rl⟩:=HC7.out V hV;go_simp;try with_reducible rfl
   try simp only[Act.put,sI,sZ,sS]
   refine az0 _ gF rF (fun K hK=>?_);obtain⟨y0,y1,y2,y3,y4,yz,yl⟩:=HY7.out _ FD;go_simp;have HE:=hid (show ∀ W',((((VD.setCell ⟨z+2,0,none⟩ (.int .i64 g)).setCell ⟨z+2,1,none⟩ (.int .i64 3)).setCell ⟨z+2,2,none⟩ (.int .i64 3)).setCell ⟨z+2,3,none⟩ (.slice a0 n c0)).setCell ⟨z+2,4,none⟩ (.int .i64 sp)=W'->yx0 w0 base bs bv bx P a N G sp w (.returned (.tuple #[ixV g 3 3 (.slice a0 n c0) sp,.int .i64 4,.bool true])) W' from fun W' hW=>HFin.out _ _ _ _ _ _ _ _ _ _ _ (FrI.trans HI7.out (FrI.none FD)) (HR7.out _ FD) hW);refine hK _ _ ((FD.mono (S':=fun b=>b=z+2) nE).trans (S:=fun b=>b=z+2) (by with_reducible (repeat (first|exact Fr.refl _ _|refine Fr.setCell ?_ (fun _=>by simp) _))) nI) ?_;clear hK K;iterate 2
    try simp only[Act.put,sI,sZ,sS]
    refine ay0 _ ?_ gF rF ?_ ?_;rotate_left
    ·intro V hV;obtain⟨⟨x0,x1,x2,x3,x4,xz,xl⟩,⟨p0,p1,p2,pz,pl⟩,r0,r1,r2,r3,rz,rl⟩:=HC7.out V hV;go_simp;try with_reducible rfl
   refine ar0 ?_;refine NoPanic.normal ?_;try simp only[Act.put,sI,sZ,sS]
   go_wp2_with fail
   refine bodyPost_ret (v:=.tuple #[ixV g 3 3 (.slice a0 n c0) sp,.int .i64 4,.bool true]) sR rfl ?_;exact HE.out _ rfl
  ·have HR7:=hid (fun (V:World) (F:Fq V7 V)=>show ((0:Int)=0/\(sp<=sp/\sp<=sp+3)/\∃ t',KqP w0 base bs bv bx P a (N+480) G t' sp V/\OwnB V 0 (.slice a0 n c0) (rows t' 0 0)/\t'.high=g)\/((0:Int)=4/\a=true/\DnP w0 base bv P (N+1300) V) from .inl ⟨rfl,⟨nn9 _,oM⟩,t,(hK.mono oM (by have:=HN.out;omega)).fr0 (HF7.out.trans F nI),(HB1.out.frI HI7.out).fr F,HT.out.2.2.1⟩);obtain⟨h1,h2⟩:=hres rfl;clear hK hres;obtain⟨hy,his⟩:=HM.out;cases hm:Mx t x.e.hash with
   | none =>
    rw[hm] at h1 h2 his;have hq:q0=0/\q1=0/\q2=0:=(by simpa[to0] using h2);obtain⟨rfl,rfl,rfl⟩:=hq;obtain rfl:ok=false:=h1;obtain rfl:is=false:=his.symm;have hEq:∀ W,(binOp .eql 116 (.agg #[.int .i64 0,.int .i64 0,.int .i64 0]) (.agg #[.int .i64 0,.int .i64 0,.int .i64 0])).run Tryz.prog W = .ok (.bool true) W:=fun W=>by rw[qG0];simp
    clear h2 his hy hm;obtain⟨VD,hVD⟩:=eX V7.drew
    have FD:Fq V7 VD:=(by rw[<- hVD];exact (Fr.refl _ _).drew);refine wp_region_noPanic ?_;refine aq0 (fun V=>Fr (fun b=>b=z+2) V7 V) (.rd 0 (.rd 1 (.rd 2 (.rd 3 (.rd 4 (.rd 5 (.rd 6 (.rd 7 (.rd 8 (.rd 9 (.rd 10 (.rd 11 (.rd 12 (.rd 13 (.rd 14 (.rd 15 (.rd 16 (.rd 17 (.rd 18 (.rd 19 (.rd 20 (.rd 21 (.rd 22 (.rd 23 (.rd 24 (.op 25 (.rd 26 (.rd 27 (.rd 28 (.rd 29 (.rd 30 (.rd 31 (.op 32 (.rd 33 (.rd 34 .done))))))))))))))))))))))))))))))))))) kF kF kF (fun _ _ _ _ _ h=>h) (by rw[hVD];exact (FD.mono nE)) ?_;rw[hVD];clear hVD;iterate 21
     try simp only[Act.put,sI,sZ,sS]
     refine ay0 _ ?_ gF rF ?_ ?_;rotate_left
     ·intro V hV;obtain⟨⟨x0,x1,x2,x3,x4,xz,xl⟩,⟨p0,p1,p2,pz,pl⟩,r0,r1,r2,r3,rz,rl⟩:=HC7.out V hV;go_simp;try with_reducible rfl
    iterate 4
     try simp only[Act.put,sI,sZ,sS]
     refine eI0 _ gF rF ?_
    try simp only[Act.put,sI,sZ,sS]
    refine fU0 _ gF rF (FD.mono nE) ?_;iterate 3
     try simp only[Act.put,sI,sZ,sS]
     refine eI0 _ gF rF ?_
    iterate 3
     try simp only[Act.put,sI,sZ,sS]
     refine ay0 _ ?_ gF rF ?_ ?_;rotate_left
     ·intro V hV;obtain⟨⟨x0,x1,x2,x3,x4,xz,xl⟩,⟨p0,p1,p2,pz,pl⟩,r0,r1,r2,r3,rz,rl⟩:=HC7.out V hV;go_simp;try with_reducible rfl
    try simp only[Act.put,sI,sZ,sS]
    refine az0 _ gF rF (fun K hK=>?_);obtain⟨y0,y1,y2,y3,y4,yz,yl⟩:=HY7.out _ FD;go_simp;have HE:=hid (show ∀ W',((((VD.setCell ⟨z+2,0,none⟩ (.int .i64 g)).setCell ⟨z+2,1,none⟩ (.int .i64 3)).setCell ⟨z+2,2,none⟩ (.int .i64 3)).setCell ⟨z+2,3,none⟩ (.slice a0 n c0)).setCell ⟨z+2,4,none⟩ (.int .i64 sp)=W'->yx0 w0 base bs bv bx P a N G sp w (.returned (.tuple #[ixV g 3 3 (.slice a0 n c0) sp,.int .i64 0,.bool true])) W' from fun W' hW=>HFin.out _ _ _ _ _ _ _ _ _ _ _ (FrI.trans HI7.out (FrI.none FD)) (HR7.out _ FD) hW);refine hK _ _ ((FD.mono (S':=fun b=>b=z+2) nE).trans (S:=fun b=>b=z+2) (by with_reducible (repeat (first|exact Fr.refl _ _|refine Fr.setCell ?_ (fun _=>by simp) _))) nI) ?_;clear hK K;iterate 2
     try simp only[Act.put,sI,sZ,sS]
     refine ay0 _ ?_ gF rF ?_ ?_;rotate_left
     ·intro V hV;obtain⟨⟨x0,x1,x2,x3,x4,xz,xl⟩,⟨p0,p1,p2,pz,pl⟩,r0,r1,r2,r3,rz,rl⟩:=HC7.out V hV;go_simp;try with_reducible rfl
    refine ar0 ?_;refine NoPanic.normal ?_;try simp only[Act.put,sI,sZ,sS]
    go_wp2_with fail
    refine bodyPost_ret (v:=.tuple #[ixV g 3 3 (.slice a0 n c0) sp,.int .i64 0,.bool true]) sR rfl ?_;exact HE.out _ rfl
   | some y' =>
    rw[hm] at h1 h2 his hy;obtain rfl:y'=y:=hy;have hq:q0=y'.rg/\q1=y'.at_/\q2=y'.sz:=(by simpa[to0] using h2);obtain⟨rfl,rfl,rfl⟩:=hq;obtain rfl:ok=true:=h1;obtain rfl:is=true:=his.symm;obtain⟨y,rfl⟩:=xe y'
    have hEq:∀ W,(binOp .eql 116 (.agg #[.int .i64 y.rg,.int .i64 y.at_,.int .i64 y.sz]) (.agg #[.int .i64 y.rg,.int .i64 y.at_,.int .i64 y.sz])).run Tryz.prog W = .ok (.bool true) W:=fun W=>by rw[qG0];simp
    have hfd:∀ W,(Instr.field 118 (.agg #[.int .u64 y.hash,.int .i64 y.rg,.int .i64 y.at_,.int .i64 y.sz]) 1).run Tryz.prog W = .ok (.agg #[.int .i64 y.rg,.int .i64 y.at_,.int .i64 y.sz]) W:=fun W=>by kernel_rfl
    clear h2 his hm;obtain⟨VD,hVD⟩:=eX V7.drew
    have FD:Fq V7 VD:=(by rw[<- hVD];exact (Fr.refl _ _).drew);refine wp_region_noPanic ?_;refine aq0 (fun V=>Fr (fun b=>b=z+2) V7 V) (.rd 0 (.rd 1 (.rd 2 (.rd 3 (.rd 4 (.rd 5 (.rd 6 (.rd 7 (.rd 8 (.rd 9 (.rd 10 (.rd 11 (.rd 12 (.rd 13 (.rd 14 (.rd 15 (.rd 16 (.rd 17 (.rd 18 (.rd 19 (.rd 20 (.rd 21 (.rd 22 (.rd 23 (.rd 24 (.op 25 (.rd 26 (.rd 27 (.rd 28 (.rd 29 (.rd 30 (.rd 31 (.op 32 (.rd 33 (.rd 34 .done))))))))))))))))))))))))))))))))))) kF kF kF (fun _ _ _ _ _ h=>h) (by rw[hVD];exact (FD.mono nE)) ?_;rw[hVD];clear hVD;iterate 16
     try simp only[Act.put,sI,sZ,sS]
     refine ay0 _ ?_ gF rF ?_ ?_;rotate_left
     ·intro V hV;obtain⟨⟨x0,x1,x2,x3,x4,xz,xl⟩,⟨p0,p1,p2,pz,pl⟩,r0,r1,r2,r3,rz,rl⟩:=HC7.out V hV;go_simp;try with_reducible rfl
    iterate 3
     try simp only[Act.put,sI,sZ,sS]
     refine eI0 _ gF rF ?_
    iterate 6
     try simp only[Act.put,sI,sZ,sS]
     refine ay0 _ ?_ gF rF ?_ ?_;rotate_left
     ·intro V hV;obtain⟨⟨x0,x1,x2,x3,x4,xz,xl⟩,⟨p0,p1,p2,pz,pl⟩,r0,r1,r2,r3,rz,rl⟩:=HC7.out V hV;go_simp;try with_reducible rfl
    try simp only[Act.put,sI,sZ,sS]
    refine az0 _ gF rF (fun K hK=>?_);go_simp
    (with_reducible refine (dO0 y _).mono ?_)
    rintro _ V8 ⟨rfl,G8⟩;have F8:=FD.trans G8 nI;refine hK _ _ (F8.mono nE) ?_;clear hK K;iterate 6
     try simp only[Act.put,sI,sZ,sS]
     refine ay0 _ ?_ gF rF ?_ ?_;rotate_left
     ·intro V hV;obtain⟨⟨x0,x1,x2,x3,x4,xz,xl⟩,⟨p0,p1,p2,pz,pl⟩,r0,r1,r2,r3,rz,rl⟩:=HC7.out V hV;go_simp;try with_reducible rfl
    try simp only[Act.put,sI,sZ,sS]
    refine az0 _ gF rF (fun K hK=>?_);obtain⟨y0,y1,y2,y3,y4,yz,yl⟩:=HY7.out _ F8;go_simp;have HE:=hid (show ∀ W',((((V8.setCell ⟨z+2,0,none⟩ (.int .i64 g)).setCell ⟨z+2,1,none⟩ (.int .i64 3)).setCell ⟨z+2,2,none⟩ (.int .i64 3)).setCell ⟨z+2,3,none⟩ (.slice a0 n c0)).setCell ⟨z+2,4,none⟩ (.int .i64 sp)=W'->yx0 w0 base bs bv bx P a N G sp w (.returned (.tuple #[ixV g 3 3 (.slice a0 n c0) sp,.int .i64 0,.bool true])) W' from fun W' hW=>HFin.out _ _ _ _ _ _ _ _ _ _ _ (FrI.trans HI7.out (FrI.none F8)) (HR7.out _ F8) hW);refine hK _ _ ((F8.mono (S':=fun b=>b=z+2) nE).trans (S:=fun b=>b=z+2) (by with_reducible (repeat (first|exact Fr.refl _ _|refine Fr.setCell ?_ (fun _=>by simp) _))) nI) ?_;clear hK K;iterate 2
     try simp only[Act.put,sI,sZ,sS]
     refine ay0 _ ?_ gF rF ?_ ?_;rotate_left
     ·intro V hV;obtain⟨⟨x0,x1,x2,x3,x4,xz,xl⟩,⟨p0,p1,p2,pz,pl⟩,r0,r1,r2,r3,rz,rl⟩:=HC7.out V hV;go_simp;try with_reducible rfl
    refine ar0 ?_;refine NoPanic.normal ?_;try simp only[Act.put,sI,sZ,sS]
    go_wp2_with fail
    refine bodyPost_ret (v:=.tuple #[ixV g 3 3 (.slice a0 n c0) sp,.int .i64 0,.bool true]) sR rfl ?_;exact HE.out _ rfl
 have hd5:(w0k == 5)=false:=by simp[h5]
 clear h5;by_cases h4:w0k=4
 ·have hd4:(w0k == 4)=true:=by simp[h4]
  clear h4;have HDr:=hid (wD0 HK1.out HX.out.wh (by have:=HN.out;omega));go_wp2_with fail
  refine HDr.out.mono ?_;rintro e V2 ⟨was,err,rfl,hres,FI2,hend⟩;have HRes:=hi2 hres hend;clear x0 x1 x2 x3 x4 xz xl e0 e1 e2 e3 e4 e5 ez el y0 y1 y2 y3 y4 yz yl HDr hres hend;obtain⟨hb0,⟨e0,e1,e2,e3,e4,e5,ez,el⟩,-⟩:=HC.out _ FI2;obtain⟨x0,x1,x2,x3,x4,xz,xl⟩:=cells5 hb0;clear hb0;obtain⟨i,b,hi,hb,hrep,hsm,-⟩:=iA0 HX.out.wh HT.out.2.2.1 (by have:=HT.out.1;have:=HT.out.2.2.1;omega) HT.out.2.1;have hrd:=sq0 (HB1.out.frI FI2) (by rw[HT.out.2.2.2.1];omega) g 3 3 sp x.e.hash HX.out.wh (fun b hb=>by have:=kg0 HT.out.2.1 HT.out.1 b hb;exact⟨by have:=this.1;omega,this.2.2.1⟩) hi hb;rw[show List.take i (rows t 0 0)++[(b.1,b.2.1,List.filter (dv0 x.e.hash) b.2.2)]++List.drop (i+1) (rows t 0 0)=rep (rows t 0 0) i [(b.1,b.2.1,b.2.2.filter (dv0 x.e.hash))] from rfl,hrep,hsm] at hrd;have hdh:(eW0 t g x.e.hash).1.high=g:=(oB0 t g x.e.hash).trans HT.out.2.2.1;obtain⟨hd,hhd⟩:=eX (eW0 t g x.e.hash)
  rw[hhd] at hrd hdh;have HRd:=hid hrd;have HHd:=hi2 hhd hdh;clear hrd hhd hi hb hrep hsm hdh;go_wp2_with fail
  (with_reducible refine HRd.out.mono ?_)
  rintro _ V4 ⟨v4,rfl,hO4,F4⟩;obtain⟨n4,hn4⟩:=eX ((rows hd.1 0 0).length)
  obtain⟨a4,c4,rfl⟩:=hO4.slice;rw[hn4] at hO4 ⊢;obtain⟨b9,hb9⟩:=eX V4.heap.size
  obtain⟨V7,hV7⟩:=eX (V4.alloc (.cells #[.int .i64 g,.int .i64 3,.int .i64 3,.slice a4 n4 c4,.int .i64 sp] 137))
  have p9:V7.heap[b9]?=some (.cells #[.int .i64 g,.int .i64 3,.int .i64 3,.slice a4 n4 c4,.int .i64 sp] 137):=by rw[<- hV7,<- hb9];exact han _ _
  have F47:Fq V4 V7:=by rw[<- hV7];exact (Fr.refl _ _).alloc _
  have F7:Fq V2 V7:=F4.trans F47 nI;have HI7:=hid (FrI.trans FI2 (FrI.none F7));have HV7:=hid hV7;have HB9:=hid hb9;have HO7:=hid (hO4.fr F47);have HF7:=hid F7;clear hV7 hb9 F7 F47 F4 hO4 hn4 x0 x1 x2 x3 x4 xz xl e0 e1 e2 e3 e4 e5 ez el;go_upto_region 11 with fail
  rw[HV7.out];try simp only[HB9.out]
  obtain⟨p0,p1,p2,p3,p4,pz,pl⟩:=cells5 p9;obtain⟨y0,y1,y2,y3,y4,yz,yl⟩:=cells5 (HC.out _ HI7.out).2.2;have hres:=HRes.out.1;rcases HRes.out.2 with⟨rfl,hK⟩|⟨rfl,ha,hD⟩
  ·have hwas:=hres rfl;rw[HT.out.2.2.1,HHd.out.1] at hwas hK;obtain rfl:=hwas;obtain⟨wb,hwb⟩:=eX hd.2
   rw[hwb];have HE:=hid (fun W' u0 u1 u2 u3 u4=>HFin.out _ W' g (.slice a4 n4 c4) u0 u1 u2 u3 u4 sp 0 HI7.out (.inl ⟨rfl,⟨nn9 _,oM⟩,hd.1,(hK.mono oM (by have:=HN.out;omega)).fr0 HF7.out,HO7.out,HHd.out.2⟩));clear hK hres hwb;go_wp2_with fail
   refine bodyPost_ret (v:=.tuple #[ixV g 3 3 (.slice a4 n4 c4) sp,.int .i64 0,.bool true]) sR rfl ?_;exact HE.out _ _ _ _ _ _ rfl
  ·have HE:=hid (fun W' u0 u1 u2 u3 u4=>HFin.out _ W' g (.slice a4 n4 c4) u0 u1 u2 u3 u4 sp 4 HI7.out (.inr ⟨rfl,ha,(hD.mono oM).fr0 HF7.out⟩));clear hD hres ha;go_wp2_with fail
   refine bodyPost_ret (v:=.tuple #[ixV g 3 3 (.slice a4 n4 c4) sp,.int .i64 4,.bool true]) sR rfl ?_;exact HE.out _ _ _ _ _ _ rfl
 have hd4:(w0k == 4)=false:=by simp[h4]
 clear h4;cases hre:aM0 x.e with
 | false =>
  have HPu:=hid (vi0 HX.out.wh hre bx x.oldest);have HRt:=hid (fun V=>sj0 x.e V);rw[hre] at HRt;clear hre;go_upto_region 12 with fail
  clear x0 x1 x2 x3 x4 xz xl e0 e1 e2 e3 e4 e5 ez el y0 y1 y2 y3 y4 yz yl;obtain⟨VD,hVD⟩:=eX w1.drew
  have FD:Fq w1 VD:=by rw[<- hVD];exact (Fr.refl _ _).drew
  refine wp_region_noPanic ?_;refine aq0 (fun V=>FrI base w1 V) (.rd 0 (.rd 1 (.rd 2 (.rd 4 (.rd 5 (.op 3 (.op 6 (.rd 7 (.rd 8 (.rd 9 (.rd 10 (.rd 11 .done)))))))))))) kF kF kF (fun _ _ _ _ _ h=>h) (by rw[hVD];exact FrI.none FD) ?_;rw[hVD];clear hVD;iterate 5
   try simp only[Act.put,sI,sZ,sS]
   refine ay0 _ ?_ gF rF ?_ ?_;rotate_left
   ·intro V hV;obtain⟨-,⟨e0,e1,e2,e3,e4,e5,ez,el⟩,-⟩:=HC.out V hV;go_simp;try with_reducible rfl
  try simp only[Act.put,sI,sZ,sS]
  refine az0 _ gF rF (fun K hK=>?_);go_simp
  (with_reducible refine (dO0 x.e _).mono ?_)
  rintro _ V2 ⟨rfl,G2⟩;have F2:=FD.trans G2 nI;refine hK _ _ (FrI.none F2) ?_;clear hK K;try simp only[Act.put,sI,sZ,sS]
  refine az0 _ gF rF (fun K hK=>?_);go_simp
  (with_reducible refine (HPu.out _).mono ?_)
  rintro _ V3 ⟨rfl,G3⟩;have F3:=F2.trans G3 nI;refine hK _ _ (FrI.none F3) ?_;clear hK K;iterate 5
   try simp only[Act.put,sI,sZ,sS]
   refine ay0 _ ?_ gF rF ?_ ?_;rotate_left
   ·intro V hV;go_simp;try with_reducible rfl
  refine ar0 ?_;refine NoPanic.normal ?_;try simp only[Act.put,sI,sZ,sS]
  have HF3:=hid F3;clear F2 G2 G3 F3 FD;obtain⟨-,⟨e0,e1,e2,e3,e4,e5,ez,el⟩,-⟩:=HC.out _ (FrI.none HF3.out);go_wp2_with fail
  (with_reducible refine (HRt.out _).mono ?_)
  rintro _ V4 ⟨rfl,F4⟩;have F4:=HF3.out.trans F4 nI;have HF4:=hid F4;clear F4 e0 e1 e2 e3 e4 e5 ez el;obtain⟨hb0,-,hb2⟩:=HC.out _ (FrI.none HF4.out);obtain⟨x0,x1,x2,x3,x4,xz,xl⟩:=cells5 hb0;obtain⟨y0,y1,y2,y3,y4,yz,yl⟩:=cells5 hb2;clear hb0 hb2;go_wp2_with fail
  refine bodyPost_ret (v:=.tuple #[ixV g 3 3 (.slice a0 n c0) sp,.int .i64 0,.bool true]) sR rfl ?_;exact HFin.out _ _ _ _ _ _ _ _ _ _ _ (FrI.none HF4.out) (.inl ⟨rfl,⟨nn9 _,oM⟩,t,(HK1.out.mono oM (by have:=HN.out;omega)).fr0 HF4.out,HB1.out.fr HF4.out,HT.out.2.2.1⟩) rfl
 | true =>
  have hgo:=po0 HX.out.wh hre;obtain⟨R,hR⟩:=eX (gj0 8 t t.high sp x.e x.oldest)
  have hspR:=sz0 (sp:=sp) hgo x.oldest HT.out.1 HT.out.2.1;have hpr:=eF0 hgo x.oldest 8 t t.high sp rfl HT.out.1 HT.out.2.1;rw[hR] at hspR hpr;have hpr':km0 8 g (rows t 0 0) sp x.e x.oldest=⟨R.g,rows R.t 0 0,R.sp,R.lost⟩:=by rw[<- HT.out.2.2.1];exact hpr
  have HPu:=hid (fun V (F:Fq w1 V)=>yF0 (HK1.out.fr0 F) x.e x.oldest hgo HN.out HT.out.2.2.2.2.2.2 hR);have HRt:=hid (fun V=>sj0 x.e V);rw[hre] at HRt;obtain⟨⟨d,p,r,es⟩,hat⟩:∃ s,t.at_ t.high (aY0 x.e.hash t.high) 0 0=s:=⟨_,rfl⟩
  obtain⟨i,hi,hb,-⟩:=id0 hgo.1 (nR _) (by have:=HT.out.1;omega) hat;have hdl:=Tr.cC0 t t.high (aY0 x.e.hash t.high) 0 0;rw[hat] at hdl;have HRp:=hid (fun V (hB:OwnB V 0 (.slice a0 n c0) (rows t 0 0))=>by
   have:=uI0 x.e x.oldest hgo.1 8 V _ _ hB (by rw[HT.out.2.2.2.1];omega) g (by have:=HT.out.1;have:=HT.out.2.2.1;omega) sp hsp.1 (by have:=HT.out.2.2.2.2.2.2;omega) (kg0 HT.out.2.1 HT.out.1) i _ hi hb (by simp only;omega);rw[hpr'] at this;exact this)
  have HS:=hid hspR;clear hgo hR hspR hpr hpr' hat hi hb hdl hre;go_upto_region 12 with fail
  clear x0 x1 x2 x3 x4 xz xl e0 e1 e2 e3 e4 e5 ez el y0 y1 y2 y3 y4 yz yl;obtain⟨VD,hVD⟩:=eX w1.drew
  have FD:Fq w1 VD:=by rw[<- hVD];exact (Fr.refl _ _).drew
  refine wp_region_noPanic ?_;refine aq0 (fun V=>FrI base w1 V) (.rd 0 (.rd 1 (.rd 2 (.rd 4 (.rd 5 (.op 3 (.op 6 (.rd 7 (.rd 8 (.rd 9 (.rd 10 (.rd 11 .done)))))))))))) kF kF kF (fun _ _ _ _ _ h=>h) (by rw[hVD];exact FrI.none FD) ?_;rw[hVD];clear hVD;iterate 5
   try simp only[Act.put,sI,sZ,sS]
   refine ay0 _ ?_ gF rF ?_ ?_;rotate_left
   ·intro V hV;obtain⟨-,⟨e0,e1,e2,e3,e4,e5,ez,el⟩,-⟩:=HC.out V hV;go_simp;try with_reducible rfl
  try simp only[Act.put,sI,sZ,sS]
  refine az0 _ gF rF (fun K hK=>?_);go_simp
  (with_reducible refine (dO0 x.e _).mono ?_)
  rintro _ V2 ⟨rfl,G2⟩;have F2:=FD.trans G2 nI;refine hK _ _ (FrI.none F2) ?_;clear hK K;try simp only[Act.put,sI,sZ,sS]
  refine az0 _ gF rF (fun K hK=>?_);go_simp
  (with_reducible refine (HPu.out _ F2).mono ?_)
  rintro _ V3 ⟨lost,err,rfl,hlo,FI,hend⟩;have FI3:=FrI.trans (FrI.none F2) FI;refine hK _ _ FI3 ?_;clear hK K;iterate 5
   try simp only[Act.put,sI,sZ,sS]
   refine ay0 _ ?_ gF rF ?_ ?_;rotate_left
   ·intro V hV;go_simp;try with_reducible rfl
  refine ar0 ?_;refine NoPanic.normal ?_;try simp only[Act.put,sI,sZ,sS]
  have HF3:=hid FI3;have HRes:=hi2 hlo hend;clear F2 G2 FI FI3 FD hlo hend;obtain⟨-,⟨e0,e1,e2,e3,e4,e5,ez,el⟩,-⟩:=HC.out _ HF3.out;go_wp2_with fail
  (with_reducible refine (HRt.out _).mono ?_)
  rintro _ V4 ⟨rfl,F4⟩;have HF4:=hi2 F4 (FrI.trans HF3.out (FrI.none F4));clear F4 e0 e1 e2 e3 e4 e5 ez el;obtain⟨hb0,⟨e0,e1,e2,e3,e4,e5,ez,el⟩,-⟩:=HC.out _ HF4.out.2;obtain⟨x0,x1,x2,x3,x4,xz,xl⟩:=cells5 hb0;have HRq:=hid (HRp.out V4 (HB1.out.frI HF4.out.2));clear hb0;go_wp2_with fail
  (with_reducible refine HRq.out.mono ?_)
  rintro _ V5 ⟨v5,rfl,hO5,F5⟩;simp only at hO5;obtain⟨n5,hn5⟩:=eX ((rows R.t 0 0).length)
  obtain⟨a5,c5,rfl⟩:=hO5.slice;rw[hn5] at hO5 ⊢;obtain⟨b9,hb9⟩:=eX V5.heap.size
  obtain⟨V7,hV7⟩:=eX (V5.alloc (.cells #[.int .i64 R.g,.int .i64 3,.int .i64 3,.slice a5 n5 c5,.int .i64 R.sp] 137))
  have p9:V7.heap[b9]?=some (.cells #[.int .i64 R.g,.int .i64 3,.int .i64 3,.slice a5 n5 c5,.int .i64 R.sp] 137):=by rw[<- hV7,<- hb9];exact han _ _
  have F57:Fq V5 V7:=by rw[<- hV7];exact (Fr.refl _ _).alloc _
  have F37:Fq V3 V7:=(HF4.out.1.trans F5 nI).trans F57 nI;have HI7:=hid (FrI.trans HF3.out (FrI.none F37));have HV7:=hid hV7;have HB9:=hid hb9;have HO7:=hid (hO5.fr F57);have HF7:=hid F37;clear hV7 hb9 F37 F57 F5 hO5 hn5 x0 x1 x2 x3 x4 xz xl e0 e1 e2 e3 e4 e5 ez el;go_upto_region 16 with fail
  rw[HV7.out];try simp only[HB9.out]
  obtain⟨p0,p1,p2,p3,p4,pz,pl⟩:=cells5 p9;obtain⟨y0,y1,y2,y3,y4,yz,yl⟩:=cells5 (HC.out _ HI7.out).2.2;have hres:=HRes.out.1;rcases HRes.out.2 with⟨rfl,hK⟩|⟨rfl,ha,hD⟩
  ·obtain⟨hlo,hhi⟩:=hres rfl;obtain rfl:=hlo;obtain⟨wb,hwb⟩:=eX R.lost
   rw[hwb];have HE:=hid (fun W' u0 u1 u2 u3 u4=>HFin.out _ W' R.g (.slice a5 n5 c5) u0 u1 u2 u3 u4 R.sp 0 HI7.out (.inl ⟨rfl,HS.out,R.t,hK.fr0 HF7.out,HO7.out,hhi⟩));clear hK hres hwb hhi;go_wp2_with fail
   refine bodyPost_ret (v:=.tuple #[ixV R.g 3 3 (.slice a5 n5 c5) R.sp,.int .i64 0,.bool true]) sR rfl ?_;exact HE.out _ _ _ _ _ _ rfl
  ·have HE:=hid (fun W' u0 u1 u2 u3 u4=>HFin.out _ W' R.g (.slice a5 n5 c5) u0 u1 u2 u3 u4 R.sp 4 HI7.out (.inr ⟨rfl,ha,hD.fr0 HF7.out⟩));clear hD hres ha;go_wp2_with fail
   refine bodyPost_ret (v:=.tuple #[ixV R.g 3 3 (.slice a5 n5 c5) R.sp,.int .i64 4,.bool true]) sR rfl ?_;exact HE.out _ _ _ _ _ _ rfl
