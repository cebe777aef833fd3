/- A pack of texts. Conditions: those that each names. -/
import Derived.Test.YtgdhaaokolfdoaaGreatDoorNAM
set_option maxHeartbeats 16000000
set_option maxRecDepth 100000
set_option linter.all false
namespace Go.Proofs.YtgdhaaokolfdoaaGreatDoor
section
open Go.RowKit Go.Sg Go.Sg.Bits Go.Sg.Clk CP
theorem pt0 {p:bp0}(h:cj0 p=true):(0<=(cd0 p).page/\1<=(cd0 p).pages/\(cd0 p).pages<=16384/\(cd0 p).page+(cd0 p).pages=p.sectors)/\8<=p.memory/\p.memory<=256:=by
 rw[cj0,mp9] at h;obtain⟨h1,h2⟩:=h;obtain⟨a1,a2,a3,a4,a5,a6,a7⟩:=of_decide_eq_true h1;obtain⟨b1,b2⟩:=of_decide_eq_true h2;obtain⟨m0,m1⟩:=nB0 (show 0<=p.regions by omega) a3.2 (show 0<=p.rsectors by omega) a4.2;have hm:(1:Int)<=2^p.depth.toNat:=Int.pow_pos oM;simp only[cd0] at b2 ⊢;generalize (2:Int)^p.depth.toNat=many at *
 have u0:0<=(many+(p.size-19)/12-1)/((p.size-19)/12):=Int.ediv_nonneg oM oM;generalize (many+(p.size-19)/12-1)/((p.size-19)/12)=q at *
 generalize p.regions*p.rsectors=r at *
 omega
namespace SF
def rP0 (p:bp0)(gen:Nat)(D:Dev):Sto:=
 ⟨p,(cd0 p).page,(cd0 p).pages.toNat,D.size-19,gen+1,0,fun _=>false,fun _=>false,fun _=>false,fun _=>false,fun _=>none,p.memory.toNat,D⟩
def jX0 (base d bf bq:Nat)(p:bp0)(gen:Nat)(D:Dev)(w:World)(e:Ending)(w':World):Prop:=
 ∃ B:Blk,(B.base=base/\B.d=d/\B.bf=bf/\B.bq=bq)/\e = .returned (.tuple #[B.ptr,.int .i64 0])/\ax0 w' B (rP0 p gen D)/\Fq w w'
theorem rL0 {w:World}{base d bf bq:Nat}{D:Dev}(h:bt0 w base d bf bq D)(hb:base<=w.heap.size)(c dd f dp hh s:Int)(gen:Nat)(hg:gen<=1099511627776)(hfit:cj0 ⟨D.sectors,D.size,c,dd,f,dp,hh,s⟩=true) :
  Calls Tryz.prog 30 #[.pointer (some ⟨d,0,none⟩),(bp0.mk D.sectors D.size c dd f dp hh s).val,.int .i64 gen] w (jX0 base d bf bq ⟨D.sectors,D.size,c,dd,f,dp,hh,s⟩ gen D w):=by
 have HFit:=hid (fun W=>qC0 ⟨D.sectors,D.size,c,dd,f,dp,hh,s⟩ W);rw[hfit] at HFit;obtain⟨lv,hd,hlo⟩:=h.dc;have e0:=coh hd 0;have e1:=coh hd 1;simp at e0 e1;have ld:=loh hd;have hs1:=h.rg.2.1;have hs2:=h.rg.2.2;obtain⟨w1,hw1⟩:=eX (w.alloc (.cells #[.int .i64 D.sectors,.int .i64 D.size,.int .i64 c,.int .i64 dd,.int .i64 f,.int .i64 dp,.int .i64 hh,.int .u64 s] 31))
 have F1:Fq w w1:=by rw[<- hw1];exact (Fr.refl _ _).alloc _
 have b1:w1.heap[w.heap.size]?=some (.cells #[.int .i64 D.sectors,.int .i64 D.size,.int .i64 c,.int .i64 dd,.int .i64 f,.int .i64 dp,.int .i64 hh,.int .u64 s] 31):=by rw[<- hw1];exact han _ _
 have lb1:=loh b1;have j0:=coh b1 0;have j1:=coh b1 1;have j2:=coh b1 2;have j3:=coh b1 3;have j4:=coh b1 4;have j5:=coh b1 5;have j6:=coh b1 6;have j7:=coh b1 7;simp at j0 j1 j2 j3 j4 j5 j6 j7;have H:=hid h;have HD:=hid hd;have HLO:=hid hlo;have HW:=hid hw1;have HF1:=hid F1;have HB1:=hid b1;have HFT:=hid hfit;clear h hd hlo hw1 F1 b1 hfit;go_enter Tryz.func30,Tryz.ntmps30;go_wp2_with fail
 rw[HW.out];refine (HFit.out _).mono ?_;rintro e w2 ⟨rfl,F2⟩;have FF:=hid (HF1.out.trans F2 nI);have b2:=hid (F2.heap HB1.out id);have k0:=coh b2.out 0;have k1:=coh b2.out 1;have k2:=coh b2.out 2;have k3:=coh b2.out 3;have k4:=coh b2.out 4;have k5:=coh b2.out 5;have k6:=coh b2.out 6;have k7:=coh b2.out 7;simp at k0 k1 k2 k3 k4 k5 k6 k7;have lb2:=loh b2.out;have g0:=(FF.out.cell (p:=⟨d,0,none⟩) ld id).trans e0;have g1:=(FF.out.cell (p:=⟨d,1,none⟩) ld id).trans e1;have ld2:=nLL ld FF.out.size;clear F2 j0 j1 j2 j3 j4 j5 j6 j7 e0 e1;have hff:=pt0 HFT.out;simp only at hff;generalize hlay:cd0 ⟨D.sectors,D.size,c,dd,f,dp,hh,s⟩=y at hff;obtain⟨ya,yb,yc,yd,ye,yf,yg⟩:=y;simp only at hff;obtain⟨⟨q1,q2,q3,q4⟩,q5,q6⟩:=hff;obtain⟨pn,rfl⟩:=iZ (show 0<=yc by omega);obtain⟨mn,rfl⟩:=iZ (show 0<=hh by omega);have HQ:=hid q4;have HY:=hid hlay;clear hlay q4;simp only[if_true,Lay.val];go_wp2
 obtain⟨w3,hw3⟩:=eX (w2.alloc (.cells #[.int .i64 2,.int .i64 ya,.int .i64 yb,.int .i64 pn,.int .i64 yd,.int .i64 ye,.int .i64 yf,.int .i64 yg] 169))
 have F23:Fq w2 w3:=by rw[<- hw3];exact (Fr.refl _ _).alloc _
 have b3:w3.heap[w2.heap.size]?=some (.cells #[.int .i64 2,.int .i64 ya,.int .i64 yb,.int .i64 pn,.int .i64 yd,.int .i64 ye,.int .i64 yf,.int .i64 yg] 169):=by rw[<- hw3];exact han _ _
 rw[hw3];have m0:=(F23.cell (p:=⟨w.heap.size,0,none⟩) lb2 id).trans k0;have m1:=(F23.cell (p:=⟨w.heap.size,1,none⟩) lb2 id).trans k1;have m2:=(F23.cell (p:=⟨w.heap.size,2,none⟩) lb2 id).trans k2;have m3:=(F23.cell (p:=⟨w.heap.size,3,none⟩) lb2 id).trans k3;have m4:=(F23.cell (p:=⟨w.heap.size,4,none⟩) lb2 id).trans k4;have m5:=(F23.cell (p:=⟨w.heap.size,5,none⟩) lb2 id).trans k5;have m6:=(F23.cell (p:=⟨w.heap.size,6,none⟩) lb2 id).trans k6;have m7:=(F23.cell (p:=⟨w.heap.size,7,none⟩) lb2 id).trans k7;have x2:=coh b3 2;have x3:=coh b3 3;simp at x2 x3;have h0:=(F23.cell (p:=⟨d,0,none⟩) ld2 id).trans g0;have h1:=(F23.cell (p:=⟨d,1,none⟩) ld2 id).trans g1;have HS:=hid (fun (n:Nat)=>pJ0 (w:=w3.drewN n) h0);have HZ:=hid (fun (n:Nat)=>size_at (w:=w3.drewN n) h1);have G3:=hid (FF.out.trans F23 nI);have lw3:=loh b3;have lb3:w.heap.size<w3.heap.size:=oM
 have HB3:=hid b3;clear k0 k1 k2 k3 k4 k5 k6 k7 g0 g1 h0 h1 F23 hw3 b3 ld2;go_quiet (first|(go_at_call 92;exact co0 (HS.out _))|(go_at_call 93;exact co0 (HZ.out _)))
 go_wp2
 have hwr:IntKind.i64.wrap ((gen:Int)+1)=(gen:Int)+1:=by rw[IntKind.wrap_i64];omega
 have hz1:(96:Int)<=D.size:=oM
 have hz2:(D.size:Int)<=512:=oM
 go_region_held3 (fun W=>W.cell? ⟨w.heap.size,0,none⟩=some (.int .i64 D.sectors)/\W.cell? ⟨w.heap.size,1,none⟩=some (.int .i64 D.size)/\W.cell? ⟨w.heap.size,2,none⟩=some (.int .i64 c)/\W.cell? ⟨w.heap.size,3,none⟩=some (.int .i64 dd)/\W.cell? ⟨w.heap.size,4,none⟩=some (.int .i64 f)/\W.cell? ⟨w.heap.size,5,none⟩=some (.int .i64 dp)/\W.cell? ⟨w.heap.size,6,none⟩=some (.int .i64 mn)/\W.cell? ⟨w.heap.size,7,none⟩=some (.int .u64 s)/\W.cell? ⟨w2.heap.size,2,none⟩=some (.int .i64 yb)/\W.cell? ⟨w2.heap.size,3,none⟩=some (.int .i64 pn))
  (go_keep)
  ((go_at_call 94;refine (ki0 _ hz1 hz2 _).mono ?_;rintro e w5 ⟨rfl,rfl⟩))
 clear hwr;go_wp2_with fail
 obtain⟨w6,hw6⟩:=eX ((w3.drewN (nq+1)).alloc (.cells #[.pointer (some ⟨d,0,none⟩),.int .i64 D.sectors,.int .i64 D.size,.int .i64 c,.int .i64 dd,.int .i64 f,.int .i64 dp,.int .i64 mn,.int .u64 s,.int .i64 yb,.int .i64 pn,.int .i64 (D.size-19),.int .i64 (gen+1),.pointer none,.map none,.map none,.map none,.pointer none] 156))
 have F36:Fq w3 w6:=by rw[<- hw6];exact ((Fr.refl _ _).drewN _).alloc _
 have s6:w6.heap[w3.heap.size]?=some (.cells #[.pointer (some ⟨d,0,none⟩),.int .i64 D.sectors,.int .i64 D.size,.int .i64 c,.int .i64 dd,.int .i64 f,.int .i64 dp,.int .i64 mn,.int .u64 s,.int .i64 yb,.int .i64 pn,.int .i64 (D.size-19),.int .i64 (gen+1),.pointer none,.map none,.map none,.map none,.pointer none] 156):=by
  rw[<- hw6];exact han (w3.drewN (nq+1)) _
 rw[hw6];refine (pW0 pn oM oM _).mono ?_;rintro e w7 ⟨bs,bw,rfl,hbits,hbs,hbw,F7⟩;have l6:=loh s6;have s7:=F7.heap s6 id;have c13:=coh s7 13;simp at c13;have cz7:∀ o,w7.frozen? ⟨w3.heap.size,o,none⟩=false:=fun o=>foh s7 o
 have l7:=loh s7;have p6:=((F36.trans F7 nI).cell (p:=⟨w.heap.size,6,none⟩) lb3 id).trans m6;have n63:¬ w3.heap.size=w.heap.size:=oM
 have G7:=hid (G3.out.trans (F36.trans F7 nI) nI);have HBI:=hid hbits;have HS7:=hid s7;have HN:=hi2 hbs hbw;have HF7s:=F7.size;have HL6:=hid l6;clear hw6 F36 s6 hbits F7 s7 m0 m1 m2 m3 m4 m5 m6 m7 x2 x3 hbs hbw HF7s;go_wp2_with fail
 obtain⟨w8,hw8⟩:=eX (w7.setCell ⟨w3.heap.size,13,none⟩ (.pointer (some ⟨bs,0,none⟩)))
 have F78:Fr (fun b=>b=w3.heap.size) w7 w8:=by rw[<- hw8];exact (Fr.refl (fun b=>b=w3.heap.size) _).setCell (a:=⟨w3.heap.size,13,none⟩) (fun _=>rfl) _
 have s8:w8.heap[w3.heap.size]?=some (.cells #[.pointer (some ⟨d,0,none⟩),.int .i64 D.sectors,.int .i64 D.size,.int .i64 c,.int .i64 dd,.int .i64 f,.int .i64 dp,.int .i64 mn,.int .u64 s,.int .i64 yb,.int .i64 pn,.int .i64 (D.size-19),.int .i64 (gen+1),.pointer (some ⟨bs,0,none⟩),.map none,.map none,.map none,.pointer none] 156):=by
  rw[<- hw8,hsc _ _ _ _ HS7.out];simp
 rw[hw8];refine (rT0 mn oM oM _).mono ?_;rintro e w9 ⟨rfl,hmem,F9⟩;have HL8:=hid (loh s8);have s9:=F9.heap s8 id;have c14:=coh s9 14;have c15:=coh s9 15;have c16:=coh s9 16;have c17:=coh s9 17;simp at c14 c15 c16 c17;have cz9:∀ o,w9.frozen? ⟨w3.heap.size,o,none⟩=false:=fun o=>foh s9 o
 have l9:=loh s9;have HM:=hid hmem;have HS9:=hid s9;have H89:=hi2 F78 F9;have hmm:=fun (t:TypeId) (W:World)=>run_makeMap (P:=Tryz.prog) t W
 clear hw8 F78 s8 hmem s9 F9 c13 cz7 p6;go_upto_region 11 with (fail)
 obtain⟨w10,hw10⟩:=eX (w9.setCell ⟨w3.heap.size,17,none⟩ (.pointer (some ⟨w8.heap.size+2,0,none⟩)))
 have F910:Fr (fun b=>b=w3.heap.size) w9 w10:=by rw[<- hw10];exact (Fr.refl (fun b=>b=w3.heap.size) _).setCell (a:=⟨w3.heap.size,17,none⟩) (fun _=>rfl) _
 have s10:w10.heap[w3.heap.size]?=some (.cells #[.pointer (some ⟨d,0,none⟩),.int .i64 D.sectors,.int .i64 D.size,.int .i64 c,.int .i64 dd,.int .i64 f,.int .i64 dp,.int .i64 mn,.int .u64 s,.int .i64 yb,.int .i64 pn,.int .i64 (D.size-19),.int .i64 (gen+1),.pointer (some ⟨bs,0,none⟩),.map none,.map none,.map none,.pointer (some ⟨w8.heap.size+2,0,none⟩)] 156):=by
  rw[<- hw10,hsc _ _ _ _ HS9.out];simp
 rw[hw10];have d14:=coh s10 14;have d15:=coh s10 15;have d16:=coh s10 16;simp at d14 d15 d16;have cz10:∀ o,w10.frozen? ⟨w3.heap.size,o,none⟩=false:=fun o=>foh s10 o
 have l10:=loh s10;have HS10:=hid s10;have HF910:=hid F910;have HSZ:=hid (show w10.heap.size=w9.heap.size by rw[<- hw10];simp);have lw3':w2.heap.size<w3.heap.size:=lw3;clear hw10 F910 s10 c14 c15 c16 c17 cz9 l9 l7 l6 lb1 lb2 lb3 lw3 n63;have HL3:=hid lw3';generalize w3.heap.size=S at *
 obtain⟨w11,ha⟩:=eX (((w10.alloc (.map #[] 0)).alloc (.map #[] 0)).alloc (.map #[] 0))
 obtain⟨z1,z2,z3,F1011⟩:=aO0 ha;have HZ1:=hi2 z1 (aI z2 z3);have s11:=F1011.heap HS10.out id;have k14:=coh s11 14;have k15:=coh s11 15;have k16:=coh s11 16;simp at k14 k15 k16;have cz11:∀ o,w11.frozen? ⟨S,o,none⟩=false:=fun o=>foh s11 o
 have HS11:=hid s11;have HF11:=hid F1011;clear z1 z2 z3 s11 F1011 d14 d15 d16 cz10;go_wp2
 go_ret2;have hS:=HS11.out;have s12:=hsc _ S 16 (.map (some (w10.heap.size+2))) (hsc _ S 15 (.map (some (w10.heap.size+1))) (hsc _ S 14 (.map (some w10.heap.size)) hS));have F1112:Fr (fun b=>b=S) w11 (((w11.setCell ⟨S,14,none⟩ (.map (some w10.heap.size))).setCell ⟨S,15,none⟩ (.map (some (w10.heap.size+1)))).setCell ⟨S,16,none⟩ (.map (some (w10.heap.size+2)))):=
  (((Fr.refl (fun b=>b=S) _).setCell (a:=⟨S,14,none⟩) (fun _=>rfl) _).setCell (a:=⟨S,15,none⟩) (fun _=>rfl) _).setCell (a:=⟨S,16,none⟩) (fun _=>rfl) _
 show jX0 base d bf bq _ gen D w _ (((w11.setCell ⟨S,14,none⟩ (.map (some w10.heap.size))).setCell ⟨S,15,none⟩ (.map (some (w10.heap.size+1)))).setCell ⟨S,16,none⟩ (.map (some (w10.heap.size+2))));generalize (((w11.setCell ⟨S,14,none⟩ (.map (some w10.heap.size))).setCell ⟨S,15,none⟩ (.map (some (w10.heap.size+1)))).setCell ⟨S,16,none⟩ (.map (some (w10.heap.size+2))))=W at *
 obtain⟨z1,z2,z3⟩:=HZ1.out;have hl3:=HL3.out;have hl6:=HL6.out;have hl8:=HL8.out;have hff:=FF.out.size;have hsz:=HSZ.out;have hml:=HM.out.lts;have hbb:=HN.out;obtain⟨dl1,dl2,dl3⟩:=H.out.lts;have dne:=H.out.ne;have dge:=H.out.ge;have F9W:Fr (fun b=>b=S) w9 W:=(HF910.out.trans HF11.out nE).trans F1112 nI;have F7W:Fr (fun b=>b=S) w7 W:=(H89.out.1.trans H89.out.2 nE).trans F9W nI;have ex:rP0 ⟨D.sectors,D.size,c,dd,f,dp,mn,s⟩ gen D=⟨⟨D.sectors,D.size,c,dd,f,dp,mn,s⟩,yb,pn,D.size-19,gen+1,0,fun _=>false,fun _=>false,fun _=>false,fun _=>false,fun _=>none,mn,D⟩:=by
  simp[rP0,HY.out]
 have e11:((D.size:Int)-19)=((D.size-19:Nat):Int):=oM
 refine⟨⟨base,S,d,bf,bq,bs,bw,w10.heap.size,w10.heap.size+1,w10.heap.size+2,w8.heap.size+2,w8.heap.size,w8.heap.size+1⟩,⟨rfl,rfl,rfl,rfl⟩,rfl,?_,?_⟩
 ·rw[ex];refine⟨?_,(H.out.fr G7.out id id id (fun _ _ _ _ _ h=>h)).fr F7W oM oM oM ?_,HBI.out.fr F7W oM oM,dD0.made (F1112.heap z1 (show ¬ w10.heap.size=S by omega)),dD0.made (F1112.heap z2 (show ¬ w10.heap.size+1=S by omega)),dD0.made (F1112.heap z3 (show ¬ w10.heap.size+1+1=S by omega)),HM.out.fr F9W oM oM oM,(fun k p hp=>by cases hp),?_,?_,?_,?_⟩
  ·simpa[e11] using s12
  ·intro g c' t ht hg e;rw[e,HS7.out] at hg;cases hg;rcases ht with h|h|h <;> cases h
  ·simp only[Blk.maps,List.nodup_cons,lA9,not_or,List.not_mem_nil,not_false_eq_true,no9,and_true];omega
  ·simp only;omega
  ·have:=HQ.out;simp only at *
   omega
  ·exact⟨(fun k hk=>by cases hk),(fun k hk=>by cases hk),(fun k hk=>by cases hk)⟩
 ·exact G7.out.trans F7W (fun b hb h=>oM)
end SF
end
section
open Go.Proofs Go.RowKit Go.Maps Go.Sort Go.Shelf Go.Sg
end
end Go.Proofs.YtgdhaaokolfdoaaGreatDoor
namespace Go.Sg.Bits
open Go.RowKit
end Go.Sg.Bits
namespace Go.Proofs.YtgdhaaokolfdoaaGreatDoor
section
open Go.RowKit Go.Sg Go.Sg.Bits Go.Shelf
attribute [local go_sem] Oper.semAt_some
abbrev AF0 (x:Int):Array Value:=#[.int .i64 x]
end
section
open Go.RowKit Go.Sg Go.Sg.Bits Go.Shelf
attribute [local go_sem] Oper.semAt_some
theorem Tryz.info3:(Tryz.prog.info? 3).map (fun i=>(i.zero,i.size,i.bytes))=some (some (.int .i64 0),1,8):=by kernel_rfl
end
section
open Go.RowKit Go.Sg Go.Sg.Bits Go.Sg.Clk CP
namespace SF
def mm0 (x:Sto):Sto:=
 { x with gen:=x.gen+1,taken:=fun i=>x.taken i && !x.dead i,mem:=fun k=>if x.dead k then none else x.mem k,fresh:=fun _=>false,dying:=fun _=>false,dead:=x.dying }
def Blk.next (B:Blk)(n:Nat):Blk:={ B with de:=B.dy,dy:=n,fr:=n+1 }
def lF0 (x:Sto)(f:Int->Bool):Sto:={ x with taken:=fun i=>x.taken i && !f i,mem:=fun k=>if f k then none else x.mem k }
variable {w:World}{B:Blk}{x:Sto}
theorem _root_.Go.Proofs.YtgdhaaokolfdoaaGreatDoor.ax0.frK {w':World}(h:ax0 w B x){k:Nat}(F:Fr (fun b=>b=k) w w')(h1:∀ r,¬ B.at_ r=k)(hk:∀ c t,w.heap[k]?≠some (.cells c t)):ax0 w' B x:=by
 have h4:∀ (g:Nat) (c':Array Value) (t':TypeId),w.heap[g]?=some (.cells c' t')->¬ g=k:=fun g c' t' hg e=>by
  rw[e] at hg;exact hk _ _ hg
 refine⟨F.heap h.s (h1 .s),h.dev.fr F (h1 .d) (h1 .bf) (h1 .bq) fun g c' t' h5 hg=>h4 g c' t' hg,h.bits.fr F (h1 .bs) (h1 .bw),h.fr.fr F (h1 .fr),h.dy.fr F (h1 .dy),h.de.fr F (h1 .de),h.mem.fr F (h1 .bc) (h1 .bp) (h1 .bm),fun k p hp=>?_,h.ne,h.ge,h.rg,h.inr⟩;obtain⟨bs,hb,hl⟩:=h.load k p hp;exact⟨bs,hb.fr F fun b c hc=>h4 b c 5 hc,hl⟩
theorem eE0 {H:Type}{P:Program}{K:TypeId}{R:Value->Option (DataW H × List MemPlace)}{S:Nat->Prop}{w w':World}{b r n:Nat}{D:DataW H}{left:Lit->Bool}{cnt:Nat}(h:w.ranges P K R b r n D left cnt)(F:Fr S w w')(h1:¬ S b)(h2:¬ S r):w'.ranges P K R b r n D left cnt:=by
 obtain⟨es,clock,since,seen,c0,hb,Ft,hs,hD,hr,rest⟩:=h;exact⟨es,clock,since,seen,c0,F.heap hb h1,Ft,hs,hD,F.heap hr h2,rest⟩
theorem cV0 {H:Type}{P:Program}{e:TypeId}(h4:P.underlying e=some .bool){v:Value}{y:DataW H × List MemPlace}(h:plainElem (H:=H) P e v=some y):∃ c,v = .bool c/\y.1 = .lit (.bool c):=by
 unfold plainElem at h;rw[h4] at h;cases v with
 | bool c =>
  simp only[Option.some.injEq] at h;exact⟨c,rfl,by rw[<- h]⟩
 | _=>simp at h
theorem xZ0 {H:Type}(l:List Ent)(k:Lit)(z:DataW H):(og0 l).atKey k z=z\/(og0 l).atKey k z=tY0:=by
 rw[og0,DataW.atKey];split
 ·rename_i p hp;right;have:=mV9 hp;obtain⟨e,_,rfl⟩:=ld9.1 ((fg0 _).mem_iff.1 this);rfl
 ·exact .inl rfl
theorem iP0 {ops:Array Oper}{rest:List Oper}{o:Oper}{a:Act}{Q:Exit->Act->World->Prop}(hg:o.guard=none)(it:Operand)(hop:o.op=Op.next it false)(b r n:Nat)(l:List Ent)(left:Lit->Bool)(cnt:Nat)
  (hit:a.eval it = .pointer (some ⟨r,0,none⟩)) (h:w.ranges Tryz.prog 3 (plainElem (H:=Unit) Tryz.prog 4) b r n (og0 l) left cnt)
  (hDone:cnt=0->(∀ kl,left kl=false)->wpList Tryz.prog ops Q rest (a.put o.dst (.tuple #[.bool false])) w)
  (hMore:∀ (x:Int) (w':World) (cnt':Nat),left (.int .i64 x)=true->w'.ranges Tryz.prog 3 (plainElem (H:=Unit) Tryz.prog 4) b r n (og0 l) (fun z=>left z && !z.sameKey (.int .i64 x)) cnt'->cnt'<cnt ->
   w.grownBy w' (some r)->w'.heap.size=w.heap.size->(Instr.entry (.pointer (some ⟨r,0,none⟩))).run Tryz.prog w' = .ok (.tuple #[.int .i64 x,.bool true]) w'->wpList Tryz.prog ops Q rest (a.put o.dst (.tuple #[.bool true,.int .i64 x,.bool true])) w') :
  wpList Tryz.prog ops Q (o :: rest) a w:=by
 refine wpList_next_ranges w hg it hop 3 (Maps.int_keyed Tryz.underlying3) (plainElem (H:=Unit) Tryz.prog 4) (Value.int .i64) Value.bool (fun key kl hkey=>by obtain⟨z,rfl,_⟩:=Maps.keyOf_int_inv Tryz.underlying3 hkey;exact⟨z,rfl⟩) (fun v y hv=>by obtain⟨c,rfl,_⟩:=cV0 Tryz.underlying4 hv;exact⟨c,rfl⟩) b r n _ left cnt hit h hDone ?_;intro x c kl y w' cnt' hkey hlk hv hat hrg hlt hgr hsz hen;obtain⟨x',ex,rfl,hwx⟩:=Maps.keyOf_int_inv Tryz.underlying3 hkey;cases ex;obtain⟨c',ec,hy⟩:=cV0 Tryz.underlying4 hv;cases ec;have hc:c=true:=by
  have h1:=hat .nil;rw[hy] at h1;rcases xZ0 (H:=Unit) l (.int .i64 x) .nil with h2|h2
  ·rw[h2] at h1;cases h1
  ·rw[h2] at h1;simp[tY0] at h1;exact h1
 subst hc;exact hMore x w' cnt' hlk hrg hlt hgr hsz hen
theorem nw0 {H:Type}{P:Program}{K:TypeId}{R:Value->Option (DataW H × List MemPlace)}{w:World}{b r n:Nat}{D:DataW H}{left:Lit->Bool}{cnt:Nat}(h:w.ranges P K R b r n D left cnt)(c:Array Value)(t:TypeId):w.heap[r]?≠some (.cells c t):=by
 obtain⟨es,clock,since,seen,c0,hb,Ft,hs,hD,hr,rest⟩:=h;rw[hr];simp
theorem qQ0 (h:ax0 w B x)(hd:∀ k,x.dead k=true->x.taken k.toNat=true)(hg:x.gen<2199023255552) :
  Calls Tryz.prog 37 #[B.ptr] w fun e w'=>∃ n,e = .returned (.tuple #[])/\ax0 w' (Blk.next B n) (mm0 x)/\FrB B w w'/\w.heap.size<=n:=by
 have c16:=h.sc.c16;have ls:=h.sc.lt;obtain⟨ld,cd,hdm,hds⟩:=h.de.ex;have hown:=uC0 (H:=Unit) (P:=Tryz.prog) (K:=3) (E:=4) Tryz.underlying3 Tryz.underlying4 hdm hds (fun k hk=>by
  have:=h.inr.2.2 k hk;have:=h.bits.room;exact WalkArith.wf_i64 oM) (by
  have:=hds.len h.inr.2.2;have:=h.bits.room;simp[maxLen];omega)
 have HS:=hid hds;have H:=hid h;have HO:=hid hown;have HM:=hid hdm;clear hds hown hdm h;go_enter Tryz.func37,Tryz.ntmps37;go_wp2_with (first|(at_range;refine wpList_range_own _ rfl _ 153 rfl 3 4 (Maps.int_keyed Tryz.underlying3) Tryz.underlying153 _ B.de ld.length (og0 ld) rfl HO.out ?_;intro w0 hrg0 hg0 hs0))
 go_frame
 have hlt:∀ r,B.at_ r<w.heap.size:=fun r=>(H.out.heaps r).2.2.1
 have HLT:=hid hlt;have HD:=hid hd;have F00:Fq w w0:=⟨hg0.os,hg0.tape,hg0.output,hg0.size,fun b hb _=>hg0.block b hb sP⟩;have hS0:ax0 w0 B (lF0 x (fun k=>x.dead k && !(Maps.has (og0 (H:=Unit) ld) (.int .i64 k)))):=by
  have e:lF0 x (fun k=>x.dead k && !(Maps.has (og0 (H:=Unit) ld) (.int .i64 k)))=x:=by
   have e1:∀ k,(x.dead k && !(Maps.has (og0 (H:=Unit) ld) (.int .i64 k)))=false:=fun k=>by
    rw[of0];cases hk:x.dead k with
    | false=>rfl
    | true =>
     have:k ∈ keys ld:=by
      refine Classical.byContradiction fun hn=>?_
      have:=(ch0 ld k).2 hn;rw[HS.out.at_,hk] at this;simp at this
     simp[this]
   simp[lF0,e1]
  rw[e];exact H.out.fr0 F00
 have HF00:=hid F00;have HS0:=hid hS0;have HR0:=hid hrg0;clear F00 hS0 hrg0 hg0 hlt hd c16;go_loopw [2] (fun _ wr=>∃ (left:Lit->Bool) (cnt:Nat),wr.ranges Tryz.prog 3 (plainElem (H:=Unit) Tryz.prog 4) B.de w.heap.size ld.length (og0 ld) left cnt/\(∀ k,left (.int .i64 k)=true->x.dead k=true) /\
  ax0 wr B (lF0 x (fun k=>x.dead k && !left (.int .i64 k)))/\FrR B [.bs,.bw,.bp,.bm] w wr) (fun _ wr=>wr.rangeLeft B.de w.heap.size)
 case atStart =>
  refine⟨_,_,HR0.out,fun k hk=>?_,HS0.out,HF00.out.mono nE⟩;rw[of0] at hk;have hk':k ∈ keys ld:=by simpa using hk
  have:Sg.look ld k≠none:=fun e=>(ch0 ld k).1 e hk'
  rw[HS.out.at_] at this;cases hx:x.dead k with
  | true=>rfl
  | false=>rw[hx] at this;simp at this
 case round =>
  obtain⟨left,cnt,hrg,hlf,hS,hF⟩:=hrel;have HRG:=hid hrg;have HLF:=hid hlf;have HSr:=hid hS;have HFr:=hid hF;clear hrg hlf hS hF;go_wp2_with (at_next;refine iP0 rfl _ rfl B.de w.heap.size ld.length ld left cnt rfl HRG.out ?_ ?_)
  ·intro hc0 hl0;have hSd:ax0 wr B (lF0 x x.dead):=by
    have e:(fun k=>x.dead k && !left (.int .i64 k))=x.dead:=(by funext k;rw[hl0];simp);have:=HSr.out;rw[e] at this;exact this
   have HSd:=hid hSd;have c15:=hSd.sc.c15;have c12:wr.cell? ⟨B.s,12,none⟩=some (.int .i64 x.gen):=hSd.sc.c12;have c14:=hSd.sc.c14;have c16:=hSd.sc.c16;have cz:=hSd.sc.z;have lsr:=hSd.sc.lt;have hmm:=fun (t:TypeId) (W:World)=>run_makeMap (P:=Tryz.prog) t W
   clear hc0 hl0 hSd;go_wp2
   go_end0
   have HF:=HFr.out;have hs:=HSd.out.s;obtain⟨W,hW⟩:=eX (((((wr.setCell ⟨B.s,16,none⟩ (.map (some B.dy))).setCell ⟨B.s,15,none⟩ (.map (some wr.heap.size))).setCell ⟨B.s,14,none⟩ (.map (some (wr.heap.size+1)))).setCell ⟨B.s,12,none⟩ (.int .i64 (x.gen+1))))
   have hWs:W.heap.size=wr.heap.size:=by rw[<- hW];simp
   have FW:FrR B [.s] wr W:=by
    rw[<- hW];exact ((((Fr.refl _ _).setCell (a:=⟨B.s,16,none⟩) (fun _=>⟨.s,by simp,rfl⟩) _).setCell (a:=⟨B.s,15,none⟩) (fun _=>⟨.s,by simp,rfl⟩) _).setCell (a:=⟨B.s,14,none⟩) (fun _=>⟨.s,by simp,rfl⟩) _).setCell (a:=⟨B.s,12,none⟩) (fun _=>⟨.s,by simp,rfl⟩) _
   have hsW:=hsc _ B.s 12 (.int .i64 (x.gen+1)) (hsc _ B.s 14 (.map (some (wr.heap.size+1))) (hsc _ B.s 15 (.map (some wr.heap.size)) (hsc _ B.s 16 (.map (some B.dy)) hs)));rw[hW] at hsW;simp only[hW];have F2:Fq W ((W.alloc (.map #[] 0)).alloc (.map #[] 0)):=((Fr.refl _ _).alloc _).alloc _;have hm1:((W.alloc (.map #[] 0)).alloc (.map #[] 0)).heap[wr.heap.size]?=some (.map #[] 0):=by
    rw[am0 _ _ _ sO,<- hWs];exact han _ _
   have hm2:((W.alloc (.map #[] 0)).alloc (.map #[] 0)).heap[wr.heap.size+1]?=some (.map #[] 0):=by
    have:=han (W.alloc (.map #[] 0)) (.map #[] 0);rw[World.size_alloc,hWs] at this;exact this
   have FA:FrR B [.s] wr ((W.alloc (.map #[] 0)).alloc (.map #[] 0)):=Fr.alloc (Fr.alloc FW _) _;have S:=HSd.out.stays FA;have hlw:=HFr.out.size;have hn:=H.out.ne;have hlt:∀ r,B.at_ r<wr.heap.size:=fun r=>nLL (HLT.out r) hlw
   refine⟨wr.heap.size,trivial,⟨?_,S.dev dC dC dC,S.bits dC dC,dD0.made hm2,dD0.made hm1,S.dy dC,S.mem dC dC dC,S.load,?_,?_,?_,?_⟩,?_,hlw⟩
   ·have:=F2.heap hsW id;simpa[mm0,Blk.next,lF0] using this
   ·simp only[Blk.maps,List.nodup_cons,lA9,not_or,List.not_mem_nil,not_false_eq_true,no9,and_true] at hn ⊢;have e1:=hlt .bf;have e2:=hlt .bq;have e3:=hlt .dy;have e4:=hlt .bm;simp only[Blk.at_] at e1 e2 e3 e4;obtain⟨⟨a1,a2,a3,a4,a5⟩,⟨b1,b2,b3,b4⟩,⟨c1,c2,c3⟩,⟨d1,d2⟩,e1'⟩:=hn;refine⟨⟨a1,?_,?_,a3,a5⟩,⟨?_,?_,b2,b4⟩,⟨?_,?_,?_⟩,⟨?_,?_⟩,d2⟩ <;> simp only[Blk.next] <;> omega
   ·have:=H.out.ge;have:=H.out.dev.ge;have:=hlt .d;simp only[Blk.at_,Blk.next] at *
    omega
   ·have:=H.out.rg;simp only[mm0] at *
    omega
   ·exact⟨(fun k hk=>by cases hk),(fun k hk=>by cases hk),H.out.inr.2.1⟩
   ·exact ((H.out.frB HF).trans (HSd.out.frB FA))
  ·intro x' w1 cnt1 hlk hrg1 hlt1 hg1 hs1 hen;have hdx:=HLF.out _ hlk;obtain⟨hx0,hx1⟩:=H.out.inr.2.2 _ hdx;obtain⟨n,rfl⟩:=iZ hx0;have F1:Fr (fun b=>b=w.heap.size) wr w1:=⟨hg1.os,hg1.tape,hg1.output,hg1.size,fun b hb hn=>hg1.block b hb (fun e=>hn (by cases e;rfl))⟩;have hS1:=HSr.out.frK F1 (fun r=>Nat.ne_of_lt (HLT.out r)) (nw0 HRG.out);have g13:=hS1.sc.c13;have ht:(lF0 x (fun k=>x.dead k && !left (.int .i64 k))).taken n=true:=by
    have:=HD.out _ hdx;simp[lF0,hlk] at this ⊢;exact this
   have HC:=hid (mn0 hS1.bits n (by simpa[lF0] using hx1) ht);have HS1:=hid hS1;have HF1:=hid F1;have HRG1:=hid hrg1;have HLK:=hid hlk;have HDX:=hid hdx;clear hS1 F1 hrg1 hg1 hs1 hlk ht hdx;go_wp2_with fail
   refine HC.out.mono ?_;rintro e w2 ⟨rfl,hB2,F2⟩;have FB2:FrR B [.bw] w1 w2:=F2.mono (fun b _ h=>⟨.bw,by simp,h⟩);have S2:=HS1.out.stays FB2;have s2:=S2.s dC;have g17:w2.cell? ⟨B.s,17,none⟩=some (.pointer (some ⟨B.bc,0,none⟩)):=by simpa using coh s2 17
   have HDr:=hid (oA0 (S2.mem dC dC dC) n);have HB2:=hid hB2;have HF2:=hid F2;have HFB2:=hid FB2;clear hB2 F2 FB2 S2 s2;go_wp2_with fail
   refine HDr.out.mono ?_;rintro e w3 ⟨rfl,hM3,F3⟩;have HM3:=hid hM3;have HF3:=hid F3;clear hM3 F3;go_wp2
   go_roundw;case rel =>
    have nbw:∀ r,B.at_ r≠w.heap.size:=fun r=>Nat.ne_of_lt (HLT.out r)
    have R2:=eE0 HRG1.out HF2.out (fun e=>H.out.ner (r:=.de) (r':=.bw) dC e) (fun e=>nbw .bw e.symm);have R3:=eE0 R2 HF3.out (fun e=>by
     rcases e with e|e
     ·exact H.out.ner (r:=.de) (r':=.bp) dC e
     ·exact H.out.ner (r:=.de) (r':=.bm) dC e) (fun e=>by
     rcases e with e|e
     ·exact nbw .bp e.symm
     ·exact nbw .bm e.symm)
    have F13:FrR B [.bs,.bw,.bp,.bm] w1 w3:=(HFB2.out.mono (fun b _ ⟨r,hr,e⟩=>⟨r,by simp at hr ⊢;simp[hr],e⟩)).trans HF3.out (fun b _ h=>by
     rcases h with h|h
     ·exact⟨.bp,by simp,h⟩
     ·exact⟨.bm,by simp,h⟩)
    refine⟨_,_,R3,fun k hk=>HLF.out k (by simp at hk;exact hk.1),?_,?_⟩
    ·have S3:=HS1.out.stays F13;have eb:bu0 w3 B.bs B.bw x.pages x.hand (upd (lF0 x (fun k=>x.dead k && !left (.int .i64 k))).taken n false):=HB2.out.fr HF3.out (fun h=>by
      rcases h with h|h
      ·exact H.out.ner (r:=.bs) (r':=.bp) dC h
      ·exact H.out.ner (r:=.bs) (r':=.bm) dC h) (fun h=>by
      rcases h with h|h
      ·exact H.out.ner (r:=.bw) (r':=.bp) dC h
      ·exact H.out.ner (r:=.bw) (r':=.bm) dC h)
     have ef:∀ k:Int,(x.dead k && !(left (.int .i64 k) && !(Lit.int .i64 k).sameKey (.int .i64 n)))=if k=n then true else (x.dead k && !left (.int .i64 k)):=fun k=>by
      by_cases hk:k=n
      ·subst hk;simp[Lit.sameKey,HDX.out]
      ·simp[Lit.sameKey,hk]
     have e1:upd (lF0 x (fun k=>x.dead k && !left (.int .i64 k))).taken n false=(lF0 x (fun k=>x.dead k && !(left (.int .i64 k) && !(Lit.int .i64 k).sameKey (.int .i64 n)))).taken:=by
      funext i
      simp only[upd,lF0,ef];by_cases hi:i=n
      ·subst hi;simp
      ·have:¬ (i:Int)=n:=oM;simp[hi,this]
     have e2:tn0 (lF0 x (fun k=>x.dead k && !left (.int .i64 k))).mem n none=(lF0 x (fun k=>x.dead k && !(left (.int .i64 k) && !(Lit.int .i64 k).sameKey (.int .i64 n)))).mem:=by
      funext k
      simp only[tn0,lF0,ef];by_cases hk:k=n
      ·subst hk;simp
      ·simp[hk]
     refine⟨S3.s dC,S3.dev dC dC dC,by rw[<- e1];exact eb,S3.fr dC,S3.dy dC,S3.de dC,by rw[<- e2];exact HM3.out,fun k p hp=>?_,H.out.ne,H.out.ge,H.out.rg,H.out.inr⟩;rw[<- e2] at hp;simp only[tn0] at hp;split at hp
     ·cases hp
     ·exact S3.load k p hp
    ·exact (HFr.out.trans HF1.out (fun b hb h=>oM)).trans F13 (fun b _ h=>h)
   case measure =>
    have nbw:∀ r,B.at_ r≠w.heap.size:=fun r=>Nat.ne_of_lt (HLT.out r)
    have R2:=eE0 HRG1.out HF2.out (fun e=>H.out.ner (r:=.de) (r':=.bw) dC e) (fun e=>nbw .bw e.symm);have R3:=eE0 R2 HF3.out (fun e=>by
     rcases e with e|e
     ·exact H.out.ner (r:=.de) (r':=.bp) dC e
     ·exact H.out.ner (r:=.de) (r':=.bm) dC e) (fun e=>by
     rcases e with e|e
     ·exact nbw .bp e.symm
     ·exact nbw .bm e.symm)
    rw[R3.left_eq,HRG.out.left_eq];omega
end SF
