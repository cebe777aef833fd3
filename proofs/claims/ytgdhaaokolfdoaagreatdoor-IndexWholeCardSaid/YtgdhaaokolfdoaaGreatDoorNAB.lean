/- A pack of texts. Conditions: those that each names. -/
import Derived.Test.YtgdhaaokolfdoaaGreatDoorNAA
import Derived.Shelf.Spec.TrailingZeros
import Derived.Shelf.SlIterI.Nil
import Derived.Shelf.SortM.Plain
import Derived.Shelf.SortM.SortNone
set_option maxHeartbeats 16000000
set_option maxRecDepth 100000
set_option linter.all false
namespace Go.Proofs.YtgdhaaokolfdoaaGreatDoor
open Tryz
namespace CP
open Go.RowKit Go.Sg Go.Sg.r4 Go.Shelf
variable {w:w9}{bc bm bp hand:Nat}{pl:List Pl}
def wO0 (h:AtP w bc bp bm pl hand)(key:Int)(x:Pg)(hf:find pl key=none)(he:empty pl=none) :
  cP 111 #[pO bc,iI key,x.val] w (PZ pl hand bc bp bm key x w):=by
 obtain⟨st,la,ll,lc,di⟩:=x;have hlt:=BR h;have n123:=h.ne;obtain⟨w2,A9⟩:=eX ((w.alloc (.cells #[iI st,sL la ll lc,bO di] 162)).alloc (.cells #[iI 0,sL none 0 0,bO false] 162))
 obtain⟨b0,b1,F2⟩:=n9 A9;have hA:=h.fr F2 id id id;have FN:=hid (ES hA key);rw[hf] at FN;have EM:=hid (oF0 hA);rw[in0 he] at EM;have HA:=hid hA;have HF:=hid hf;have HO:=hid he;have HH:=hid h;have HW:=hid A9;have uA:=hi2 b0 b1;clear hf he h hA A9 b0 b1;go_enter func111,ntmps111;go_wp2_with fail
 rw[HW];refine FN.mono ?_;rintro e w' ⟨rfl,rfl⟩;go_wp2_with fail
 refine EM.mono ?_;rintro e w3 ⟨rfl,F3⟩;have J8:=hid (HA.fr F3 id id id);go_wp2_with fail
 refine (uI0 J8.o).mono ?_;rintro e w4 ⟨rfl,so,F4⟩;obtain⟨i,hi⟩:=eX ((spin pl.length pl hand).2)
 obtain⟨pl2,gu⟩:=eX ((spin pl.length pl hand).1)
 have hlen2:pl2.length=pl.length:=by rw[<- gu];exact Xp _ _ _
 have gn:i<pl2.length:=by rw[hlen2,<- hi];exact XX _ _ _ HH.hand
 have mP:find pl2 key=none:=by rw[<- gu,Wt];exact HF
 have tn:empty pl2=none:=by rw[<- gu,TK];exact HO
 obtain⟨p,hp⟩:∃ p,pl2[i]?=some p:=⟨_,gE gn⟩
 have KH:=Tt tn hp;have hM:fQ pl hand key ⟨st,la,ll,lc,di⟩=⟨pl2.set i ⟨key,⟨st,la,ll,lc,di⟩,true,true⟩,(i+1) % pl.length,some p⟩:=by rw[WA HF HO,gu,hi,hp]
 rw[gu,hi] at so;rw[hi];have f0:=so.c0;have f1:=so.c1;have k0:=so.k0 hp;have k1:=so.k1 hp;have k2:=so.k2 hp;have k3:=so.k3 hp;have l2:=M0 uA.2;have l3:=F3.size;have l4:=F4.size;obtain⟨d0,d1,d2,dz,dl⟩:=cells3 (F4.heap (F3.heap uA.1 id) oM);have aY:=F4.heap (F3.heap uA.2 id) oM;obtain⟨c0,c1,c2,cz,cl⟩:=cells3 aY;obtain⟨l,ck,hm,hR⟩:=so.m;have jE:=so.room;have HR:=hid hR;have Rx:=hid so;have HM:=hid hM;have HP:=hid hp;have HU:=hid KH;have Y0:=hid mP;have HL:=hid hlen2;have bF:=hid aY;have Hm:=hid hm;clear hR so hM hp KH hi gu mP tn hlen2 aY hm;go_wp2
 go_region
 obtain⟨w5,kI⟩:=eX ((((w4.setCell (aA (w+1) 0) (iI p.v.stamp)).setCell (aA (w+1) 1) (sL p.v.la p.v.ll p.v.lc)).setCell (aA (w+1) 2) (bO p.v.dirty)).drew)
 have bg:Fr (fun b=>b=w.heap.size+1) w4 w5:=by
  rw[<- kI];exact (Fr.rt (S:=fun b=>b=w.heap.size+1) (b:=w.heap.size+1) fR rfl _ _ _).drew
 have KS:w5.heap[w.heap.size+1]?=some (.cells #[iI p.v.stamp,sL p.v.la p.v.ll p.v.lc,bO p.v.dirty] 162):=by
  rw[<- kI,heap_drew,hsc _ _ _ _ (hsc _ _ _ _ (hsc _ _ _ _ bF.o))];simp
 rw[kI];have OW:=Rx.fr bg oM oM oM;have rf:=bg.heap Hm oM;have Jv:=bg.heap (F4.heap (F3.heap uA.1 id) oM) oM;clear f0 f1 k0 k1 k2 k3 d0 d1 d2 dz dl c0 c1 c2 cz cl kI;have f0:=OW.c0;have f1:=OW.c1;have fb:=fun (W:w9) (hW:W.heap[bm]?=some (.map (ents l) ck)) (t':TypeId)=>jH0 (P:=prog) (T:=258) underlying258 underlying3 hW p.key t' #[258,3] rfl
 have HN:=hid fb;have ZD:=hid OW;have HR5:=hid KS;have MV:=hid Jv;have Hm5:=hid rf;have rH:=hid bg;have l5:=bg.size;clear fb OW KS Jv rf bg;go_wp2
 rw[HN w5 Hm5 0];obtain⟨w6,ot⟩:=eX (w5.putObj bm (.map (ents (del l p.key)) ck))
 have qu:Fr (fun b=>b=bm) w5 w6:=by rw[<- ot];exact (Fr.refl (fun b=>b=bm) _).putObj (fun _=>rfl) _
 have Dh:w6.heap[bm]?=some (.map (ents (del l p.key)) ck):=by rw[<- ot];exact wK _ _ _ (M0 Hm5.o)
 have UG:=qu.heap ZD.c n123.2.1;have PE:=qu.heap ZD.p n123.2.2;have P8:=qu.heap HR5 oM;have R1:=qu.heap MV oM;rw[ot];clear f0 f1 ot;obtain⟨f0,f1,f2,fz,fl⟩:=cells3 UG;obtain⟨d0,d1,d2,dz,dl⟩:=cells3 R1;have zp:∀ o,w6.frozen? ⟨bp,o,none⟩=false:=fun o=>X2 PE o
 have j:∀ o,o<6->w6.cell? (aA bp (i*6+o))=p.cells[o]?:=fun o ho=>by rw[G0 PE,uP HP o ho]
 have k0:w6.cell? (aA bp (i*6))=some (iI p.key):=j 0 oM;have k1:w6.cell? (aA bp (i*6+1))=some (iI p.v.stamp):=j 1 oM;have k2:w6.cell? (aA bp (i*6+2))=some (sL p.v.la p.v.ll p.v.lc):=j 2 oM;have k3:w6.cell? (aA bp (i*6+3))=some (bO p.v.dirty):=j 3 oM;have k4:w6.cell? (aA bp (i*6+4))=some (bO p.full):=j 4 oM;have k5:w6.cell? (aA bp (i*6+5))=some (bO p.marked):=j 5 oM;have Hm6:=hid Dh;have HC6:=hid UG;have HP6:=hid PE;have HR6:=hid P8;have RO:=hid qu;clear j Dh UG PE P8 R1 qu;go_wp2
 go_region
 obtain⟨w7,xO⟩:=eX (((((((w6.setCell (aA bp (i*6)) (iI key)).setCell (aA bp (i*6+1)) (iI st)).setCell (aA bp (i*6+2)) (sL la ll lc)).setCell (aA bp (i*6+3)) (bO di)).setCell (aA bp (i*6+4)) (bO true)).setCell (aA bp (i*6+5)) (bO true)).drew)
 have lO:Fr (fun b=>b=bp) w6 w7:=by
  rw[<- xO];exact (((((((Fr.refl (fun b=>b=bp) _).setCell (a:=⟨bp,i*6,none⟩) (fun _=>rfl) _).setCell (a:=⟨bp,i*6+1,none⟩) (fun _=>rfl) _).setCell (a:=⟨bp,i*6+2,none⟩) (fun _=>rfl) _).setCell (a:=⟨bp,i*6+3,none⟩) (fun _=>rfl) _).setCell (a:=⟨bp,i*6+4,none⟩) (fun _=>rfl) _).setCell (a:=⟨bp,i*6+5,none⟩) (fun _=>rfl) _).drew
 have hp7:w7.heap[bp]?=some (.cells (cellsOf (pl2.set i ⟨key,⟨st,la,ll,lc,di⟩,true,true⟩)) 264):=by
  have:=TF HP6 HP ⟨key,⟨st,la,ll,lc,di⟩,true,true⟩;rw[<- xO,heap_drew];exact this
 rw[xO];have hm7:=lO.heap Hm6 fun e=>n123.2.2 e.symm;have UH:=lO.heap HC6 n123.1;have KT:=lO.heap HR6 oM;clear f0 f1 f2 fz fl k0 k1 k2 k3 k4 k5 zp d0 d1 d2 dz dl xO;obtain⟨f0,f1,f2,fz,fl⟩:=cells3 UH;obtain⟨c0,c1,c2,cz,cl⟩:=cells3 KT;have ri:=fun (W:w9) (hW:W.heap[bm]?=some (.map (ents (del l p.key)) ck))=>Bv (P:=prog) (T:=258) underlying258 underlying3 hW key (iI i)
 have HP7:=hid hp7;have jO:=hid UH;have n2:w.heap.size+1≠bm:=oM
 have RQ:=hid lO;clear hp7 UH KT lO;go_wp2
 obtain⟨w8,pW⟩:=eX (w7.putObj bm (.map (ents (put (del l p.key) key (iI i) ck)) (bump (del l p.key) key ck)))
 have nk:Fr (fun b=>b=bm) w7 w8:=by rw[<- pW];exact (Fr.refl (fun b=>b=bm) _).putObj (fun _=>rfl) _
 have Vv:w8.heap[bm]?=some (.map (ents (put (del l p.key) key (iI i) ck)) (bump (del l p.key) key ck)):=by rw[<- pW];exact wK _ _ _ (M0 hm7)
 rw[pW];have e0:=(nk.cell (p:=⟨w+1,0,none⟩) cl n2).trans c0;have e1:=(nk.cell (p:=⟨w+1,1,none⟩) cl n2).trans c1;have e2:=(nk.cell (p:=⟨w+1,2,none⟩) cl n2).trans c2;have ez:∀ o,w8.frozen? ⟨w+1,o,none⟩=false:=fun o=>(World.frozen?_of_block (nk.block _ cl n2)).trans (cz o)
 have HM8:=hid Vv;have AU:=hid nk;clear pW c0 c1 c2 cz f0 f1 f2 fz ri Vv nk hm7;go_region
 go_wp2
 obtain⟨eA,hl,hn⟩:=HR.o;have hfp:find pl2 p.key=some i:=(Im Rx.nd _ _).2 ⟨p,HP.o,HU.o,rfl⟩;have hlk:Sg.look (del l p.key) key=none:=by
  rw[WT eA,hl,Y0];split <;> rfl
 have hlp:(Sg.look l p.key).isSome=true:=by rw[hl,hfp];rfl
 have kD:=rm (i+1) (show 0<pl.length by have:=HL.o;omega);have IH:AtP w8 bc bp bm (pl2.set i ⟨key,⟨st,la,ll,lc,di⟩,true,true⟩) ((i+1) % pl.length):=by
  refine Rx.place HP _ (fun _=>.inr Y0.o) trivial (by rw[HL];exact kD) ?_ ?_ HM8 (ED (mj0 eA _) _ _ _) (fun k=>?_) ?_
  .exact AU.heap jO n123.2.1
  .exact AU.heap HP7 n123.2.2
  .rw[IC,WT eA,hl];simp[HU.o]
  .rw[jP0,hlk,jQ0,hlp,hn,HU];simp
 have Fa:Fr (fun b=>b=bc\/b=bp\/b=bm) w w8:=
  ((((((F2.mono (S':=fun b=>b=bc\/b=bp\/b=bm) nE).trans F3 nE).trans F4 fun _ _ h=>h.elim .inl fun h=>.inr (.inl h)).trans rH fun b hb h=>oM).trans RO fun _ _ h=>.inr (.inr h)).trans RQ fun _ _ h=>.inr (.inl h)).trans AU fun _ _ h=>.inr (.inr h)
 refine bodyPost_ret (v:=tU #[iI p.key,p.v.val,bO true]) sR rfl ⟨by rw[HM];rfl,?_,?_⟩
 .rw[HM];refine IH.fr (S:=fun b=>b=w.heap.size+1) ?_ oM oM oM;exact (Fr.rt (S:=fun b=>b=w.heap.size+1) (b:=w.heap.size+1) fR rfl _ _ _).drew
 .exact Fr.drew (Fr.Aj Fa oM _ _ _)
def yt0 (h:AtP w bc bp bm pl hand)(key:Int)(x:Pg) :
  cP 111 #[pO bc,iI key,x.val] w (PZ pl hand bc bp bm key x w):=by
 cases hf:find pl key with
 | some i=>exact tB0 h key x hf
 | none =>
  cases he:empty pl with
  | some i=>exact wP0 h key x hf he
  | none=>exact wO0 h key x hf he
end CP
namespace CP
open Go.RowKit Go.Sg Go.Sg.r4 Go.Shelf
def ub (pl:List Pl)(key:Int):List Pl:=match find pl key with
 | some i=>pl.set i (Pl.none Pg.zero)
 | none=>pl
def Xk (pl:List Pl)(hand bc bp bm:Nat)(key:Int)(w:w9)(e:Ending)(w':w9):Prop:=
 e = rT (tU #[(ke pl key).val,bO (find pl key).isSome])/\AtP w' bc bp bm (ub pl key) hand/\Fr (fun b=>b=bp\/b=bm) w w'
variable {w:w9}{bc bm bp hand:Nat}{pl:List Pl}
def sU0 (h:AtP w bc bp bm pl hand)(key:Int)(hf:find pl key=none) :
  cP 108 #[pO bc,iI key] w (Xk pl hand bc bp bm key w):=by
 have hlt:=BR h;obtain⟨w1,I0⟩:=eX (w.alloc (.cells #[iI 0,sL none 0 0,bO false] 162))
 have b1:=fB I0
 have F1:=fA I0
 have hA1:=hid (h.fr F1 id id id);have e1:ub pl key=pl:=by simp[ub,hf]
 have e2:ke pl key=Pg.zero:=by simp[ke,hf]
 have HF:=hid hf;have E:=hi2 e1 e2;have HW:=hid I0;have B1:=hid b1;clear h hf e1 e2 I0 b1;go_enter func108,ntmps108;go_wp2_with fail
 rw[HW];refine (LO hA1.o key).mono ?_;rintro e w2 ⟨rfl,F2⟩;rw[HF,E.2];obtain⟨c0,c1,c2,z,l⟩:=cells3 (F2.heap B1 id);simp only[Pg.val,Pg.zero];go_wp2
 refine bodyPost_ret (v:=tU #[Pg.zero.val,bO false]) (by simp[results,go_sem,Pg.zero, *]) rfl ⟨by rw[HF,E.2];rfl,?_,?_⟩
 .rw[E.1];refine (hA1.o.fr F2 id id id).fr (S:=fun b=>b=w.heap.size) ?_ oM oM oM;exact (Fr.rt (S:=fun b=>b=w.heap.size) (b:=w.heap.size) fR rfl _ _ _).alloc _
 .exact (Fr.Aj ((F1.trans F2 nI).mono nE) (nR _) _ _ _).alloc _
def sT0 (h:AtP w bc bp bm pl hand)(key:Int){i:Nat}(hf:find pl key=some i) :
  cP 108 #[pO bc,iI key] w (Xk pl hand bc bp bm key w):=by
 have hlt:=BR h;have n123:=h.ne;obtain⟨w1,I0⟩:=eX (w.alloc (.cells #[iI 0,sL none 0 0,bO false] 162))
 have b1:=fB I0
 have F1:=fA I0
 have hA1:=hid (h.fr F1 id id id);obtain⟨p,hp,iV,X8⟩:=mp hf;have hi:i<pl.length:=(gI.1 hp).1;have e1:ub pl key=pl.set i (Pl.none Pg.zero):=by simp[ub,hf]
 have e2:ke pl key=p.v:=by simp[ke,hf,hp]
 have HF:=hid hf;have E:=hi2 e1 e2;have HW:=hid I0;have B1:=hid b1;have HP:=hid hp;have HU:=hi2 iV X8;have l1:=M0 b1;clear h hf e1 e2 I0 b1 hp iV X8;go_enter func108,ntmps108;go_wp2_with fail
 rw[HW];refine (LO hA1.o key).mono ?_;rintro e w2 ⟨rfl,F2⟩;rw[HF,E.2];have jy:=hA1.o.fr F2 id id id;have L4:=F2.heap B1 id;obtain⟨w3,K7⟩:=eX (w2.alloc (.cells #[iI p.v.stamp,sL p.v.la p.v.ll p.v.lc,bO p.v.dirty] 162))
 have F3:=fA K7
 have rj:=fB K7
 have J8:=jy.fr F3 id id id;have P5:=F3.heap L4 id;have f0:=J8.c0;have f1:=J8.c1;have k0:=J8.k0 HP.o;have k1:=J8.k1 HP.o;have k2:=J8.k2 HP.o;have k3:=J8.k3 HP.o;have k4:=J8.k4 HP.o;have k5:=J8.k5 HP.o;have zp:=J8.zp;have hr:=J8.room;have l2:=F2.size;obtain⟨l,ck,hm,hR⟩:=J8.m;have hlk:Sg.look l key=some (iI i):=by rw[hR.2.1,HF];rfl
 have A8:=fun (W:w9) (hW:W.heap[bm]?=some (.map (ents l) ck))=>yT (P:=prog) (T:=258) false underlying258 underlying3 nB hW key
 have fb:=fun (W:w9) (hW:W.heap[bm]?=some (.map (ents l) ck))=>jH0 (P:=prog) (T:=258) underlying258 underlying3 hW key 0 #[258,3] rfl
 rw[hlk] at A8;simp only[Qq,jI,if_false] at A8;have fx:=hid K7;have vW:=hid J8;have HR:=hid hR;have HK:=hid hlk;have Bq:=hid rj;have cN:=hid P5;have Hm:=hid hm;have J7:=hid (F2.trans F3 nI);clear K7 J8 hR hlk rj P5 jy L4 F3;simp only[Pg.val];go_wp2
 rw[fx];go_region
 obtain⟨w4,eE⟩:=eX (((((((w3.setCell (aA bp (i*6)) (iI 0)).setCell (aA bp (i*6+1)) (iI 0)).setCell (aA bp (i*6+2)) (sL none 0 0)).setCell (aA bp (i*6+3)) (bO false)).setCell (aA bp (i*6+4)) (bO false)).setCell (aA bp (i*6+5)) (bO false)).drew)
 have Q5:Fr (fun b=>b=bp) w3 w4:=by
  rw[<- eE];exact (((((((Fr.refl (fun b=>b=bp) _).setCell (a:=⟨bp,i*6,none⟩) (fun _=>rfl) _).setCell (a:=⟨bp,i*6+1,none⟩) (fun _=>rfl) _).setCell (a:=⟨bp,i*6+2,none⟩) (fun _=>rfl) _).setCell (a:=⟨bp,i*6+3,none⟩) (fun _=>rfl) _).setCell (a:=⟨bp,i*6+4,none⟩) (fun _=>rfl) _).setCell (a:=⟨bp,i*6+5,none⟩) (fun _=>rfl) _).drew
 have jd:w4.heap[bp]?=some (.cells (cellsOf (pl.set i (Pl.none Pg.zero))) 264):=by
  have:=TF vW.p HP (Pl.none Pg.zero);rw[<- eE,heap_drew];exact this
 rw[eE];have re:=Q5.heap Hm fun e=>n123.2.2 e.symm;have CH:=Q5.heap vW.c n123.1;have cX:=Q5.heap cN oM;have PJ:=Q5.heap Bq oM;clear f0 f1 k0 k1 k2 k3 k4 k5 zp A8 eE hm;obtain⟨f0,f1,f2,fz,fl⟩:=cells3 CH;obtain⟨c0,c1,c2,cz,cl⟩:=cells3 cX;obtain⟨v0,v1,v2,vz,vl⟩:=cells3 PJ;have m1:bm≠w.heap.size:=oM
 have m2:bm≠w2.heap.size:=oM
 have m3:w.heap.size≠bm:=oM
 have m4:w2.heap.size≠bm:=oM
 have Sv:=hid jd;have Ef:=hid CH;have RN:=hid Q5;clear jd CH cX PJ Q5;go_wp2
 obtain⟨w5,kI⟩:=eX (w4.putObj bm (.map (ents (del l key)) ck))
 have bg:Fr (fun b=>b=bm) w4 w5:=by rw[<- kI];exact (Fr.refl (fun b=>b=bm) _).putObj (fun _=>rfl) _
 have rf:w5.heap[bm]?=some (.map (ents (del l key)) ck):=by rw[<- kI];exact wK _ _ _ (M0 re)
 have g0:=(bg.cell (p:=⟨w,0,none⟩) cl m3).trans c0;have g1:=(bg.cell (p:=⟨w,1,none⟩) cl m3).trans c1;have g2:=(bg.cell (p:=⟨w,2,none⟩) cl m3).trans c2;rw[kI];obtain⟨eA,hl,hn⟩:=HR.o;obtain⟨hu,hk⟩:=HU.o;have IH:AtP w5 bc bp bm (pl.set i (Pl.none Pg.zero)) hand:=by
  refine vW.place HP _ (fun h=>by cases h) trivial vW.hand ?_ ?_ rf (mj0 eA _) (fun k=>?_) ?_
  .exact bg.heap Ef n123.2.1
  .exact bg.heap Sv n123.2.2
  .rw[WT eA,hl,hu,hk];simp[Pl.none]
  .rw[jQ0,HK,hn,hu];simp[Pl.none]
 refine bodyPost_ret (v:=tU #[p.v.val,bO true]) sR rfl ⟨by rw[HF,E.2];rfl,?_,?_⟩
 .rw[E.1];refine IH.fr (S:=fun b=>b=w.heap.size) ?_ oM oM oM;exact Fr.rt (S:=fun b=>b=w.heap.size) (b:=w.heap.size) fR rfl _ _ _
 .exact Fr.Aj ((((F1.mono (S':=fun b=>b=bp\/b=bm) nE).trans J7 nE).trans RN fun _ _ h=>.inl h).trans bg fun _ _ h=>.inr h) (nR _) _ _ _
def drop_at (h:AtP w bc bp bm pl hand)(key:Int) :
  cP 108 #[pO bc,iI key] w (Xk pl hand bc bp bm key w):=by
 cases hf:find pl key with
 | some i=>exact sT0 h key hf
 | none=>exact sU0 h key hf
end CP
end Go.Proofs.YtgdhaaokolfdoaaGreatDoor
namespace Go.Sg.r4
open Go.RowKit
def D9 (pl:List Pl)(k:Int):Option Pg:=(find pl k).bind fun i=>(pl[i]?).map (·.v)
variable {pl:List Pl}{i:Nat}
def Ij (hn:Nd pl)(k:Int)(v:Pg):D9 pl k=some v↔∃ (i:Nat) (p:Pl),pl[i]?=some p/\p.full=true/\p.key=k/\p.v=v:=by
 constructor
 .intro h;rw[D9,Option.bind_eq_some_iff] at h;obtain⟨i,hi,hv⟩:=h;obtain⟨p,hp,hf,hk⟩:=mp hi;rw[hp] at hv;exact⟨i,p,hp,hf,hk,by simpa using hv⟩
 .rintro⟨i,p,hp,hf,hk,rfl⟩;rw[D9,(Im hn k i).2 ⟨p,hp,hf,hk⟩];simp[hp]
def To (k:Int):(D9 pl k).isSome=(find pl k).isSome:=by
 rw[D9];cases h:find pl k with
 | none=>rfl
 | some i =>
  obtain⟨p,hp,_⟩:=mp h;simp[hp]
variable {p:Pl}
def Ii (hn:Nd pl)(hp:pl[i]?=some p)(q:Pl)(h:q.full=true->(p.full=true/\q.key=p.key)\/find pl q.key=none)(k:Int) :
  D9 (pl.set i q) k=if q.full=true/\q.key=k then some q.v else if p.full=true/\p.key=k then none else D9 pl k:=by
 rw[D9,yY hn hp q h];split
 .simp[pm hp]
 .split
  .rfl
  .rename_i h1 h2;rw[D9];cases hf:find pl k with
   | none=>rfl
   | some j =>
    obtain⟨x,hx,vF,hxk⟩:=mp hf;have:¬ i=j:=by
     rintro rfl;rw[hp] at hx;cases hx;exact h2 ⟨vF,hxk⟩
    simp only[FO];rw[pm hp,if_neg this]
def gi0 (pl:List Pl)(k:Int):D9 pl k=D9 (pl.map Pl.nF) k:=by
 rw[D9,D9,<- Tv];congr 1
 funext i
 rw[gP];cases pl[i]? <;> rfl
def qE0 (f:Nat)(pl:List Pl)(h:Nat)(k:Int):D9 (spin f pl h).1 k=D9 pl k:=by
 rw[gi0,EL,<- gi0]
def td0 {a b:List Pl}(h:a.map Pl.nF=b.map Pl.nF)(hn:Nd b):Nd a:=by
 intro i j x y hx hy vF Aa hk;have ga:∀ n:Nat,(a[n]?).map Pl.nF=(b[n]?).map Pl.nF:=fun n=>by rw[<- gP,<- gP,h]
 have gx:=ga i;have gy:=ga j;rw[hx] at gx;rw[hy] at gy;cases hxa:b[i]? with
 | none=>rw[hxa] at gx;cases gx
 | some x' =>
  cases hyb:b[j]? with
  | none=>rw[hyb] at gy;cases gy
  | some y' =>
   rw[hxa] at gx;rw[hyb] at gy;simp only[DL,Option.some.injEq,Pl.nF,Pl.mk.injEq] at gx gy;exact hn i j x' y' hxa hyb (by rw[<- gx.2.2.1,vF]) (by rw[<- gy.2.2.1,Aa]) (by rw[<- gx.1,<- gy.1,hk])
structure DG0 (pl:List Pl)(key:Int)(v:Pg)(M:Put):Prop where
 at_:(M.gone=none/\∀ k,D9 M.pl k=if k=key then some v else D9 pl k) \/
  (∃ g,M.gone=some g/\g.key≠key/\D9 pl g.key=some g.v/\D9 pl key=none/\pl.countP (·.full)=pl.length/\∀ k,D9 M.pl k=if k=key then some v else if k=g.key then none else D9 pl k)
def LN {hand:Nat}(hn:Nd pl)(hh:hand<pl.length)(key:Int)(v:Pg):DG0 pl key v (fQ pl hand key v):=by
 constructor;cases hf:find pl key with
 | some i =>
  obtain⟨p,hp,iT,hk⟩:=mp hf;have e:fQ pl hand key v=⟨pl.set i ⟨key,v,true,true⟩,hand,none⟩:=by simp[fQ,hf]
  have hq:(⟨key,v,true,true⟩:Pl).full=true->(p.full=true/\(⟨key,v,true,true⟩:Pl).key=p.key)\/find pl (⟨key,v,true,true⟩:Pl).key=none:=fun _=>.inl ⟨iT,hk.symm⟩
  refine .inl ⟨by rw[e],fun k=>?_⟩;rw[e];simp only;rw[Ii hn hp _ hq];by_cases ag:k=key
  .subst ag;simp
  .have h1:¬ key=k:=fun x=>ag x.symm
   have h2:¬ p.key=k:=by rw[hk];exact h1
   simp[h1,h2,ag]
 | none =>
  cases he:empty pl with
  | some i =>
   obtain⟨p,hp,iT⟩:∃ p,pl[i]?=some p/\p.full=false:=by
    rw[empty,ox] at he;obtain⟨hi,h1,_⟩:=he;exact⟨pl[i],by simp,by simpa using h1⟩
   have e:fQ pl hand key v=⟨pl.set i ⟨key,v,true,true⟩,hand,none⟩:=by simp[fQ,hf,he]
   have hq:(⟨key,v,true,true⟩:Pl).full=true->(p.full=true/\(⟨key,v,true,true⟩:Pl).key=p.key)\/find pl (⟨key,v,true,true⟩:Pl).key=none:=fun _=>.inr hf
   refine .inl ⟨by rw[e],fun k=>?_⟩;rw[e];simp only;rw[Ii hn hp _ hq];by_cases ag:k=key
   .subst ag;simp
   .have h1:¬ key=k:=fun x=>ag x.symm
    simp[h1,iT,ag]
  | none =>
   have e:=WA (hand:=hand) (v:=v) hf he;have hl:=Xp pl.length pl hand;have hi:=XX pl.length pl hand hh;have mP:=Wt pl.length pl hand key;have tn:=TK pl.length pl hand;rw[hf] at mP;rw[he] at tn;have ey:Nd (spin pl.length pl hand).1:=td0 (EL _ _ _) hn;have ew:=qE0 pl.length pl hand;generalize spin pl.length pl hand=s at *
   obtain⟨p,hp⟩:∃ p,s.1[s.2]?=some p:=⟨_,gE oM⟩
   have iT:=Tt tn hp;have hq:(⟨key,v,true,true⟩:Pl).full=true->(p.full=true/\(⟨key,v,true,true⟩:Pl).key=p.key)\/find s.1 (⟨key,v,true,true⟩:Pl).key=none:=fun _=>.inr mP
   have hne:=Ik mP hp iT;refine .inr ⟨p,by rw[e];exact hp,hne,?_,?_,NT he,fun k=>?_⟩
   .rw[<- ew,Ij ey];exact⟨s.2,p,hp,iT,rfl,rfl⟩
   .rw[D9,hf];rfl
   .rw[e];simp only;rw[Ii ey hp _ hq,ew];by_cases ag:k=key
    .subst ag;simp
    .have h1:¬ key=k:=fun x=>ag x.symm
     by_cases hg:k=p.key
     .subst hg;simp[h1,iT,ag]
     .have h2:¬ p.key=k:=fun x=>hg x.symm
      simp[h1,h2,ag,hg]
def ni0 (hn:Nd pl)(L:List Int)(h:∀ k,(D9 pl k).isSome=true->k ∈ L):pl.countP (·.full)<=L.length:=by
 rw[List.countP_eq_length_filter];have h1:((pl.filter (·.full)).map (·.key)).Nodup:=by
  rw[List.Nodup,An];have:(pl.filter (·.full)).Pairwise (fun a b=>a.key≠b.key):=by
   rw[List.pairwise_filter];rw[xT];intro i j hi hj CW hfi hfj hk;have:=hn i j pl[i] pl[j] (gE hi) (gE hj) hfi hfj hk;omega
  exact this
 have h2:=List.Nodup.length_le_of_subset h1 (l₂:=L) (by
  intro k hk;obtain⟨p,hp,rfl⟩:=N4.1 hk;rw[rn] at hp;obtain⟨hp,hf⟩:=hp;obtain⟨i,hi,rfl⟩:=Qi hp;refine h _ ?_;rw[(Ij hn _ _).2 ⟨i,pl[i],gE hi,hf,rfl,rfl⟩];rfl)
 simpa using h2
def vP (m:Int->Option Pg)(k:Int)(v:Option Pg):Int->Option Pg:=fun j=>if j=k then v else m j
def qG0 (hn:Nd pl){key:Int}(hf:find pl key=some i)(z:Pg)(k:Int):D9 (pl.set i (Pl.none z)) k=vP (D9 pl) key none k:=by
 obtain⟨p,hp,iT,hk⟩:=mp hf;rw[Ii hn hp _ (fun a=>by cases a),vP];by_cases ag:k=key
 .subst ag;simp[Pl.none,iT,hk]
 .have h1:¬ p.key=k:=by rw[hk];exact fun x=>ag x.symm
  simp[Pl.none,h1,ag]
def qF0 (hn:Nd pl)(hp:pl[i]?=some p)(b:Bool)(k:Int):D9 (pl.set i { p with marked:=b }) k=D9 pl k:=by
 rw[Ii hn hp { p with marked:=b } (fun a=>.inl ⟨a,rfl⟩)];by_cases h:p.full=true/\p.key=k
 .rw[if_pos h,(Ij hn _ _).2 ⟨i,p,hp,h.1,h.2,rfl⟩]
 .rw[if_neg h,if_neg h]
def iY0 (n:Nat)(z:Pg)(k:Int):D9 (List.replicate n (Pl.none z)) k=none:=by
 have:find (List.replicate n (Pl.none z)) k=none:=by
  rw[find,ud];intro p hp;rw[Ad hp];rfl
 rw[D9,this];rfl
end Go.Sg.r4
namespace Go.Proofs.YtgdhaaokolfdoaaGreatDoor
open Tryz
namespace CP
open Go.RowKit Go.Sg Go.Sg.r4
structure cR (w:w9)(bc bp bm n:Nat)(m:Int->Option Pg):Prop where
 ex:∃ pl hand,AtP w bc bp bm pl hand/\pl.length=n/\∀ k,D9 pl k=m k
variable {w:w9}{bc bm bp n:Nat}{m:Int->Option Pg}
def cR.fr {S:Nat->Prop}{w':w9}(h:cR w bc bp bm n m)(F:Fr S w w')(h1:¬ S bc)(h2:¬ S bp)(h3:¬ S bm):cR w' bc bp bm n m:=by
 obtain⟨pl,hand,hA,hl,hm⟩:=h.ex;exact⟨pl,hand,hA.fr F h1 h2 h3,hl,hm⟩
def cR.xW (h:cR w bc bp bm n m):bc<w/\bp<w/\bm<w:=by
 obtain⟨pl,hand,hA,hl,hm⟩:=h.ex;exact BR hA
def cR.heaps (h:cR w bc bp bm n m):(∃ c,w.heap[bc]?=some (.cells c 260))/\(∃ c,w.heap[bp]?=some (.cells c 264))/\∃ l ck,w.heap[bm]?=some (.map (ents l) ck):=by
 obtain⟨pl,hand,hA,hl,hm⟩:=h.ex;obtain⟨l,ck,hm,_⟩:=hA.m;exact⟨⟨_,hA.c⟩,⟨_,hA.p⟩,l,ck,hm⟩
def YV (m:Int->Option Pg)(L:List Int):Prop:=∀ k,(m k).isSome=true->k ∈ L
def nH0 {pl:List Pl}(hn:Nd pl)(key k:Int):D9 (tX pl key) k=D9 pl k:=by
 cases hf:find pl key with
 | none=>simp[tX,hf]
 | some i =>
  obtain⟨p,hp,_⟩:=mp hf;have e1:tX pl key=pl.set i { p with marked:=true }:=by simp only[tX,hf];exact modify_eq hp _
  rw[e1];exact qF0 hn hp true k
def WU (pl:List Pl)(key:Int):ke pl key=(D9 pl key).getD Pg.zero:=rfl
def tY0 (n:Nat)(h1:1<=n)(h2:n<=4096)(w:w9) :
  cP 96 #[iI n] w fun e w'=>e = rT (pO (aP (w+2) 0))/\cR w' (w.heap.size+2) w.heap.size (w.heap.size+1) n (fun _=>none)/\Fq w w':=
 (QK n h1 h2 w).mono fun e w' ⟨he,hA,hF⟩=>⟨he,⟨⟨_,_,hA,by simp,fun k=>iY0 _ _ _⟩⟩,hF⟩
def lA0 (h:cR w bc bp bm n m)(key:Int) :
  cP 86 #[pO bc,iI key] w fun e w'=>e = rT (tU #[((m key).getD Pg.zero).val,bO (m key).isSome])/\cR w' bc bp bm n m/\Fr (fun b=>b=bp) w w':=by
 obtain⟨pl,hand,hA,hl,hm⟩:=h.ex;refine (get_at hA key).mono fun e w' ⟨he,hA',hF⟩=>⟨?_,⟨⟨_,_,hA',?_,fun k=>?_⟩⟩,hF⟩
 .rw[he,WU,<- To,hm]
 .rw[<- hl];cases hf:find pl key with
  | none=>simp[tX,hf]
  | some i=>simp[tX,hf]
 .rw[nH0 hA.nd,hm]
def qI0 (h:cR w bc bp bm n m)(key:Int) :
  cP 155 #[pO bc,iI key] w fun e w'=>e = rT (tU #[((m key).getD Pg.zero).val,bO (m key).isSome])/\Fq w w':=by
 obtain⟨pl,hand,hA,hl,hm⟩:=h.ex;refine (LO hA key).mono fun e w' ⟨he,hF⟩=>⟨?_,hF⟩
 rw[he,WU,<- To,hm]
def nJ (m:Int->Option Pg)(n:Nat)(key:Int):Option (Int × Pg)->Prop
 | none=>True
 | some g=>g.1≠key/\m g.1=some g.2/\m key=none/\∀ L,YV m L->n<=L.length
def aQ (m:Int->Option Pg)(key:Int)(x:Pg)(g:Option (Int × Pg)):Int->Option Pg:=fun k=>if k=key then some x else if g.map (·.1)=some k then none else m k
def gK (g:Option (Int × Pg)):Int:=(g.map (·.1)).getD 0
def gV (g:Option (Int × Pg)):Pg:=(g.map (·.2)).getD Pg.zero
def AL0 (m:Int->Option Pg)(bc bp bm n:Nat)(key:Int)(x:Pg)(w:w9)(e:Ending)(w':w9):Prop:=
 ∃ g,nJ m n key g/\e = rT (tU #[iI (gK g),(gV g).val,bO g.isSome])/\cR w' bc bp bm n (aQ m key x g)/\Fr (fun b=>b=bc\/b=bp\/b=bm) w w'
def mY0 (h:cR w bc bp bm n m)(key:Int)(x:Pg) :
  cP 111 #[pO bc,iI key,x.val] w (AL0 m bc bp bm n key x w):=by
 obtain⟨pl,hand,hA,hl,hm⟩:=h.ex;have hc:∀ L,YV m L->pl.countP (·.full)<=L.length:=fun L hL=>ni0 hA.nd L fun k hk=>hL k (by rw[<- hm];exact hk)
 have hlen:=(did hA.nd hA.hand key x).len;refine (yt0 hA key x).mono fun e w' ⟨he,hA',hF⟩=>?_
 rcases (LN hA.nd hA.hand key x).at_ with⟨hg,vA⟩|⟨g,hg,hne,hgm,aw,UJ,vA⟩
 .refine⟨none,trivial,?_,⟨⟨_,_,hA',by rw[hlen,hl],fun k=>?_⟩⟩,hF⟩
  .rw[he,hg];rfl
  .rw[vA,aQ,hm];simp
 .refine⟨some (g.key,g.v),⟨hne,by rw[<- hm];exact hgm,by rw[<- hm];exact aw,fun L hL=>?_⟩,?_,⟨⟨_,_,hA',by rw[hlen,hl],fun k=>?_⟩⟩,hF⟩
  .rw[<- hl,<- UJ];exact hc L hL
  .rw[he,hg];rfl
  .rw[vA,aQ,hm];by_cases h1:k=key
   .simp[h1]
   .by_cases h2:k=g.key
    .simp[h1,h2]
    .have h3:¬ g.key=k:=fun x=>h2 x.symm
     simp[h1,h2,h3]
def qe0 (h:cR w bc bp bm n m)(key:Int) :
  cP 108 #[pO bc,iI key] w fun e w'=>e = rT (tU #[((m key).getD Pg.zero).val,bO (m key).isSome])/\cR w' bc bp bm n (vP m key none)/\Fr (fun b=>b=bp\/b=bm) w w':=by
 obtain⟨pl,hand,hA,hl,hm⟩:=h.ex;refine (drop_at hA key).mono fun e w' ⟨he,hA',hF⟩=>⟨?_,⟨⟨_,_,hA',?_,fun k=>?_⟩⟩,hF⟩
 .rw[he,WU,<- To,hm]
 .rw[<- hl];cases hf:find pl key with
  | none=>simp[ub,hf]
  | some i=>simp[ub,hf]
 .cases hf:find pl key with
  | none =>
   have e:ub pl key=pl:=by simp[ub,hf]
   have e2:m key=none:=by rw[<- hm,D9,hf];rfl
   rw[e,hm,vP];split
   .rename_i h;rw[h,e2]
   .rfl
  | some i =>
   have e:ub pl key=pl.set i (Pl.none Pg.zero):=by simp[ub,hf]
   rw[e,qG0 hA.nd hf,vP,vP,hm]
end CP
end Go.Proofs.YtgdhaaokolfdoaaGreatDoor
namespace Go.Sg
open Go.RowKit
structure jm (w:w9)(a:Option Addr)(n:Nat)(bs:List Int):Prop where
 len:bs.length=n
 at_:∀ (i:Nat) (x:Int),bs[i]?=some x->∃ b off,a=some ⟨b,off,none⟩/\b<w.heap.size/\w.cell? (aA b (off+i))=some (.int .u8 x)
variable {S:Nat->Prop}{w w':w9}{a:Option Addr}{n:Nat}{bs:List Int}
def jm.fr (h:jm w a n bs)(F:Fr S w w')(hS:∀ b off,a=some ⟨b,off,none⟩->b<w.heap.size->¬ S b):jm w' a n bs:=
 ⟨h.len,fun i x hx=>by
  obtain⟨b,off,e,hb,hc⟩:=h.at_ i x hx;exact⟨b,off,e,E4 hb F.size,(F.cell (p:=⟨b,off+i,none⟩) hb (hS b off e hb)).trans hc⟩⟩
def jm.frn (h:jm w a n bs)(F:Fr S w w')(hS:∀ b off,a=some ⟨b,off,none⟩->b<w.heap.size->0<n->¬ S b):jm w' a n bs:=
 ⟨h.len,fun i x hx=>by
  obtain⟨b,off,e,hb,hc⟩:=h.at_ i x hx;have hn:0<n:=by have:=(gI.1 hx).1;have:=h.len;omega
  exact⟨b,off,e,E4 hb F.size,(F.cell (p:=⟨b,off+i,none⟩) hb (hS b off e hb hn)).trans hc⟩⟩
def pg0 (W:w9)(e:TypeId)(size:Nat)(v:Value)(h:v = sL W 0 0):(W.alloc (.cells #[] e)).ownsRow 0 e size v 0 []:=by
 subst h;exact World.ownsRow_lit W #[] 0 (C3 _) (C3 _) sP
def Ob {base e:Nat}{v:Value}(h:w.ownsRow base e 1 v n (bs.map (Value.int .u8)))(hne:v≠sL none 0 0) :
  ∃ g cap c,v = sL (aP g 0) n cap/\w.heap[g]?=some (.cells c e)/\jm w (some ⟨g,0,none⟩) n bs:=by
 obtain⟨hl,⟨rfl,_⟩|⟨g,cap,cur,rfl,_,hg,_,_,_,ht⟩⟩:=h
 .exact absurd rfl hne
 .refine⟨g,cap,cur,rfl,hg,by simpa using hl,fun i x hx=>⟨g,0,rfl,M0 hg,?_⟩⟩;rw[o8,G0 hg];have hi:=(gI.1 hx).1;have hl':bs.length=n*1:=by simpa using hl
  have:(cur.toList.take (n*1))[i]?=some (.int .u8 x):=by rw[ht,gP,hx];rfl
  rw[gT,if_pos oM] at this;simpa using this
end Go.Sg
namespace Go.Proofs.YtgdhaaokolfdoaaGreatDoor
open Go.RowKit Go.Sg Tryz
def B3:(prog.info? 5).map (fun i=>(i.zero,i.size,i.bytes))=some (some (.int .u8 0),1,1):=by kernel_rfl
def clone_nil (w:w9):cP 83 #[sL none 0 0] w fun e w'=>e = rT (sL none 0 0)/\w=w':=by
 have q22:∀ (w:w9) (a:Option Addr) (n c n' c':Nat),(binOp .eql 22 (sL a n c) (sL none n' c')).run prog w = .ok (bO a.isNone) w:=fun w a n c n' c'=>Lib.run_eql_slice_nil w _ _ a n c n' c' underlying22
 go_enter func83,ntmps83;go_wp2
 go_ret;exact⟨rfl,rfl⟩
def vY0 {w:w9}{ad:Addr}{n cap:Nat}{bs:List Int}(h:jm w (some ad) n bs)(hn:n<=65536) :
  cP 83 #[sL (some ad) n cap] w fun e w'=>∃ g cap' c,e = rT (sL (aP g 0) n cap')/\w'.heap[g]?=some (.cells c 5)/\jm w' (some ⟨g,0,none⟩) n bs/\w.heap.size<=g/\Fq w w':=by
 obtain⟨i0,A3,J1,M1,O1⟩:=info_parts B3;have H:=hid h;have hlen:=h.len;have hcell:∀ (o:Obj) (j:Nat) (u:Value),(bs.map (Value.int .u8))[j]?=some u->(w.alloc o).cell? (ad.add j)=some u:=fun o j u hu=>by
  rw[gP] at hu;cases hx:bs[j]? with
  | none=>rw[hx] at hu;cases hu
  | some x =>
   rw[hx] at hu;cases hu;obtain⟨b',off',e,hb,hc⟩:=h.at_ j x hx;cases e;rw[show (⟨b',off',none⟩:Addr).add j=⟨b',off'+j,none⟩ by unfold Addr.add;split <;> simp_all];exact (((Fr.refl (fun _=>False) w).alloc o).cell (p:=⟨b',off'+j,none⟩) hb id).trans hc
 have HC:=hid hcell;clear h hcell;have q22:∀ (w:w9) (a:Option Addr) (n c n' c':Nat),(binOp .eql 22 (sL a n c) (sL none n' c')).run prog w = .ok (bO a.isNone) w:=fun w a n c n' c'=>Lib.run_eql_slice_nil w _ _ a n c n' c' underlying22
 go_enter func83,ntmps83;go_wp2_with (at_builtin;refine wpList_append_own_at _ rfl (.tmp 5) (.tmp 6) 22 rfl 0 5 i0 _ 1 1 underlying22 A3 J1 M1 O1 rfl dC _ _ _ rfl (pg0 _ _ _ _ (by simp[go_sem])) ad n cap (bs.map (Value.int .u8)) rfl (by simpa using hlen) ?c1 ?c2 ?c3 ?c4 (C3 _) ?_)
 case c1=>exact HC _
 case c2=>intro u hu;obtain⟨x,_,rfl⟩:=N4.1 hu;rfl
 case c3=>simp[maxLen];omega
 case c4=>omega
 intro v1 w1 A0 R0 Y4 G4;try simp only[C7,o8] at A0
 have F1:Fq w w1:=((Fr.refl (fun _=>False) w).alloc _).trans (S':=fun b=>b=w.heap.size) (Fr.of_grownBy R0) fun b hb h=>oM;obtain⟨g,cap',c,rfl,hg,hB⟩:=Ob A0 Y4;have fJ:w.heap.size<=g:=by
  rcases G4 with h|h <;> simp[Value.ownBlock] at h <;> omega
 have HG:=hi2 hg (aI hB (aI fJ F1));clear A0 R0 G4 hg hB F1 fJ;go_wp2
 go_ret;exact⟨g,cap',c,rfl,HG.1,HG.2.1,HG.2.2.1,HG.2.2.2⟩
end Go.Proofs.YtgdhaaokolfdoaaGreatDoor
namespace Go.Sg
open Go.RowKit
def lV0 (l:List Z4)(k:Int)(v:Value)(c:Nat):(put l k v c).map (·.born)=if (look l k).isSome then l.map (·.born) else l.map (·.born)++[c]:=by
 induction l with
 | nil=>rfl
 | cons e l ih =>
  unfold put;by_cases hk:(e.k == k)=true
  .have A5:e.k=k:=by simpa using hk
   simp[look,hk,A5]
  .have A5:(e.k == k)=false:=by simpa using hk
   have e1:look (e :: l) k=look l k:=by simp[look,uj,A5]
   rw[A5,e1];simp only[jI,if_false,qf];rw[ih];split <;> rfl
variable {l:List Z4}{b c ck n:Nat}{f:Int->Bool}{S:Nat->Prop}{w w':w9}{a:Option Addr}{bs:List Int}
def wn0 (h:(keys l).Nodup){e:Z4}(he:e ∈ l):look l e.k=some e.v:=by
 induction l with
 | nil=>cases he
 | cons a l ih =>
  have hn:(keys l).Nodup:=by simp[keys] at h ⊢;exact h.2
  have ha:a.k ∉ keys l:=by simp[keys] at h ⊢;exact h.1
  rcases d9.1 he with rfl|Ps
  .simp[look]
  .have:a.k≠e.k:=by
    intro x;exact ha (by rw[x];exact N4.2 ⟨e,Ps,rfl⟩)
   have:=ih hn Ps;simp[look] at this ⊢;simp[uj, *]
structure qT (l:List Z4)(ck:Nat)(f:Int->Bool):Prop where
 nd:(keys l).Nodup
 born:∀ x ∈ l.map (·.born),x<ck
 bnd:(l.map (·.born)).Nodup
 at_:∀ k,look l k=if f k then some (bO true) else none
def aN (f:Int->Bool)(k:Int)(b:Bool):Int->Bool:=fun j=>if j=k then b else f j
def qT.made:qT [] 0 (fun _=>false):=⟨by simp[keys],by simp,by simp,fun k=>rfl⟩
def qT.isSome (h:qT l ck f)(k:Int):(look l k).isSome=f k:=by
 rw[h.at_];cases f k <;> rfl
def qT.put {l:List Z4}{ck:Nat}{f:Int->Bool}(h:qT l ck f)(k:Int):qT (put l k (bO true) ck) (bump l k ck) (aN f k true):=by
 refine⟨ED h.nd _ _ _,?_,?_,fun j=>?_⟩
 .rw[lV0];unfold bump;split
  .exact h.born
  .intro x hx;rcases X5.1 hx with hx|hx
   .have:=h.born x hx;omega
   .simp at hx;omega
 .rw[lV0];split
  .exact h.bnd
  .rw[yh];refine⟨h.bnd,by simp,?_⟩;rintro a ha b hb rfl;simp at hb;subst hb;exact absurd (h.born _ ha) (gG _)
 .rw[IC,h.at_,aN];by_cases e:k=j
  .subst e;simp
  .have e':¬ j=k:=fun x=>e x.symm
   simp[e,e']
def qT.len (h:qT l ck f)(hn:∀ k,f k=true->0<=k/\k<n):l.length<=n:=by
 rw[<- length_keys];have jh:∀ k ∈ keys l,k.toNat ∈ List.range n/\0<=k:=fun k hk=>by
  have h1:look l k≠none:=fun e=>(wN l k).1 e hk
  rw[h.at_] at h1;have h2:f k=true:=by
   cases hf:f k with
   | true=>rfl
   | false=>rw[hf] at h1;simp at h1
  have:=hn k h2;simp;omega
 have h1:((keys l).map Int.toNat).Nodup:=by
  rw[List.Nodup,An];refine List.Pairwise.imp_of_mem ?_ h.nd;intro a b ha hb Cm;have:=(jh a ha).2;have:=(jh b hb).2;omega
 have h2:((keys l).map Int.toNat).length<=(List.range n).length:=by
  refine List.Nodup.length_le_of_subset h1 ?_;intro x hx;obtain⟨k,hk,rfl⟩:=N4.1 hx;exact (jh k hk).1
 simpa using h2
structure kf (w:w9)(b:Nat)(f:Int->Bool):Prop where
 ex:∃ l ck,w.heap[b]?=some (.map (ents l) ck)/\qT l ck f
def kf.fr (h:kf w b f)(F:Fr S w w')(hn:¬ S b):kf w' b f:=by
 obtain⟨l,ck,hm,hs⟩:=h.ex;exact⟨l,ck,F.heap hm hn,hs⟩
def kf.made (h:w.heap[b]?=some (.map #[] 0)):kf w b (fun _=>false):=⟨[],0,h,qT.made⟩
def insert_perm {H:Type}(x:Lit × DataW H)(l:List (Lit × DataW H)):(DataW.insert x l).Perm (x :: l):=by
 induction l with
 | nil=>exact List.Perm.refl _
 | cons y r ih =>
  unfold DataW.insert;split
  .exact List.Perm.refl _
  .exact (ih.cons y).trans (List.Perm.swap _ _ _)
def Ie {H:Type}(l:List (Lit × DataW H)):(l.foldr DataW.insert []).Perm l:=by
 induction l with
 | nil=>exact List.Perm.refl _
 | cons x l ih=>exact (insert_perm _ _).trans (ih.cons x)
def QR {H:Type}:DataW H:=.lit (.bool true)
def gC {H:Type}(l:List Z4):DataW H:=.map ((l.map fun e=>(Lit.int .i64 e.k,QR)).foldr DataW.insert [])
def uc0 {H:Type}(l:List Z4):(intKeys (gC (H:=H) l)).Perm (keys l):=by
 unfold gC intKeys;refine ((Ie _).map _).trans ?_;rw[xY];exact List.Perm.of_eq rfl
def mV0 {H:Type}(l:List Z4):Maps.size (gC (H:=H) l)=l.length:=by
 rw[gC,Maps.size_eq,(Ie _).length_eq,Z8]
def pR0 {H:Type}(l:List Z4)(k:Int):Maps.has (gC (H:=H) l) (.int .i64 k)=decide (k ∈ keys l):=by
 rw[gC,Maps.has_eq,Bool.eq_iff_iff];rw[vK];constructor
 .rintro⟨p,hp,hs⟩;have hp':=(Ie _).mem_iff.1 hp;obtain⟨e,he,rfl⟩:=N4.1 hp';have:e.k=k:=by simpa[Lit.sameKey] using hs
  simp;rw[<- this];exact N4.2 ⟨e,he,rfl⟩
 .intro h;have h':k ∈ keys l:=by simpa using h
  obtain⟨e,he,rfl⟩:=N4.1 h';exact⟨_,(Ie _).mem_iff.2 (N4.2 ⟨e,he,rfl⟩),by simp[Lit.sameKey]⟩
open Go.WideElems in
def pQ0 {H:Type}{P:Program}{K E:Nat}(hK:P.underlying K=some (.int .i64))(hE:P.underlying E=some .bool)
  (hb:w.heap[b]?=some (.map (ents l) ck)) (hs:qT l ck f) (hw:∀ k,f k=true->(Lit.int .i64 k).wf=true) (hl:l.length<=maxLen) :
  w.ownsMap P K (plainElem (H:=H) P E) b l.length (gC l):=by
 have B8:∀ e ∈ l,rd P K (plainElem (H:=H) P E) e.entry=some (.int .i64 e.k,QR):=fun e he=>by
  have h1:=wn0 hs.nd he;rw[hs.at_] at h1;have hf:f e.k=true:=by
   cases hf:f e.k with
   | true=>rfl
   | false=>rw[hf] at h1;simp at h1
  rw[hf] at h1;simp at h1;have:e.entry=⟨.int .i64 e.k,.bool true,e.born⟩:=by rw[Z4.entry,<- h1]
  rw[this];exact rd_mk (Maps.keyOf_int_mk hK (hw _ hf)) (plainElem_bool hE true)
 refine⟨ents l,ck,hb,⟨by simp[ents];exact hl,(MapKept.stamped_iff _ _).2 ⟨?_,?_,?_⟩,?_⟩,by simp[ents],?_⟩
 .intro x hx;simp[ents] at hx;obtain⟨e,he,rfl⟩:=hx;exact hs.born _ (N4.2 ⟨e,he,rfl⟩)
 .have:=hs.bnd;simpa[ents,Z4.entry,xY,Function.comp_def] using this
 .have:=hs.nd;rw[keys,List.Nodup,An] at this;simp only[ents,List.toList_toArray,An,Z4.entry];refine this.imp ?_;intro a c h h';exact h (by simpa using h')
 .intro x hx;simp[ents] at hx;obtain⟨e,he,rfl⟩:=hx;exact⟨_,B8 e he⟩
 .rw[gC];congr 2
  simp only[ents,List.toList_toArray,xY];refine Qj fun e he=>?_
  simp only[Function.comp];rw[rg_of (B8 e he)]
structure uN (w:w9)(a:Option Addr)(n c:Nat)(bs:List Int):Prop where
 Y6:jm w a n bs
 at_:(a=none/\n=0/\c=0)\/∃ ad,a=some ad
structure T0 (w:w9)(a:Option Addr)(n c:Nat)(bs:List Int):Prop where
 Y6:jm w a n bs
 at_:(a=none/\n=0/\c=0)\/∃ b off cs,a=some ⟨b,off,none⟩/\w.heap[b]?=some (.cells cs 5)
def T0.slb (h:T0 w a n c bs):uN w a n c bs:=by
 refine⟨h.Y6,?_⟩;rcases h.at_ with h0|⟨b,off,cs,h1,_⟩
 .exact .inl h0
 .exact .inr ⟨_,h1⟩
def T0.fr (h:T0 w a n c bs)(F:Fr S w w')(hS:∀ b c,w.heap[b]?=some (.cells c 5)->¬ S b):T0 w' a n c bs:=by
 refine⟨h.Y6.fr F fun b off e hb=>?_,?_⟩
 .rcases h.at_ with⟨h0,_⟩|⟨b',off',cs,h1,h2⟩
  .rw[h0] at e;cases e
  .rw[h1] at e;cases e;exact hS _ _ h2
 .rcases h.at_ with h0|⟨b',off',cs,h1,h2⟩
  .exact .inl h0
  .exact .inr ⟨b',off',cs,h1,F.heap h2 (hS _ _ h2)⟩
def T0.nil (w:w9):T0 w none 0 0 []:=⟨⟨rfl,fun i x h=>by simp at h⟩,.inl ⟨rfl,rfl,rfl⟩⟩
def T0.len (h:T0 w a n c bs):bs.length=n:=h.Y6.len
end Go.Sg
namespace Go.Proofs.YtgdhaaokolfdoaaGreatDoor
open Go.RowKit Go.Sg Tryz
def BQ {w:w9}{a:Option Addr}{n c:Nat}{bs:List Int}(h:uN w a n c bs)(hn:n<=65536) :
  cP 83 #[sL a n c] w fun e w'=>∃ a' c',e = rT (sL a' n c')/\T0 w' a' n c' bs/\Fq w w':=by
 rcases h.at_ with⟨rfl,rfl,rfl⟩|⟨ad,rfl⟩
 .refine (clone_nil w).mono fun e w' ⟨he,hw⟩=>⟨none,0,he,?_,by rw[hw];exact fR⟩
  have:bs=[]:=vH h.Y6.len;rw[this];exact T0.nil w'
 .exact (vY0 h.Y6 hn).mono fun e w' ⟨g,c',cs,he,hg,hB,_,hF⟩=>⟨_,_,he,⟨hB,.inr ⟨g,0,cs,rfl,hg⟩⟩,hF⟩
end Go.Proofs.YtgdhaaokolfdoaaGreatDoor
namespace Go.Sg.Bits
open Go.RowKit
def bit (ws:List Nat)(i:Nat):Bool:=(ws.getD (i/64) 0).testBit (i % 64)
def sh (ws:List Nat):Array Value:=(ws.map fun (x:Nat)=>iU (x:Int)).toArray
structure na (w:w9)(bs bw n hand:Nat)(ws:List Nat):Prop where
 s:w.heap[bs]?=some (.cells #[iI n,iI hand,sL bw ws.length ws.length] 256)
 w_:w.heap[bw]?=some (.cells (sh ws) 29)
 len:ws.length=(n+63)/64
 room:1<=n/\n<=65536
 hand:hand<n
 wf:∀ x ∈ ws,x<18446744073709551616
 pad:∀ i,n<=i->bit ws i=false
variable {S:Nat->Prop}{w w':w9}{bs bw hand i k n x:Nat}{ws:List Nat}
def na.fr (h:na w bs bw n hand ws)(F:Fr S w w')(h1:¬ S bs)(h2:¬ S bw):na w' bs bw n hand ws:=
 ⟨F.heap h.s h1,F.heap h.w_ h2,h.len,h.room,h.hand,h.wf,h.pad⟩
def na.word (h:na w bs bw n hand ws){j:Nat}(hj:ws[j]?=some x):w.cell? (aA bw j)=some (iU x):=by
 rw[G0 h.w_];simp[sh,hj]
def na.get (h:na w bs bw n hand ws)(hi:i<n):∃ x,ws[i/64]?=some x/\x<18446744073709551616/\bit ws i=x.testBit (i % 64):=by
 have hl:=h.len;have hlt:i/64<ws.length:=oM
 refine⟨ws[i/64],gE hlt,h.wf _ (List.getElem_mem hlt),?_⟩;simp[bit,List.getD,gE hlt]
def zF0 (x k:Nat):(x:Int)/2^k=((x/2^k:Nat):Int):=by simp
def and_one (x k:Nat)(hx:x<18446744073709551616):(bits BinOp.and IntKind.u64 ((x:Int)/2^k) 1 == 1)=x.testBit k:=by
 have h1:x/2^k<18446744073709551616:=Mf (Mn _ _) hx;rw[zF0,show (1:Int)=((1:Nat):Int) from rfl,u64_and_nat _ _ h1 dC,nat_mask1,Nat.testBit_eq_decide_div_mod_eq];have h2:x/2^k % 2=0\/x/2^k % 2=1:=oM
 rcases h2 with h2|h2 <;> rw[h2] <;> rfl
def sy0 (hk:ws[k]?=some x)(y j:Nat):bit (ws.set k y) j=if j/64=k then y.testBit (j % 64) else bit ws j:=by
 have hl:=(gI.1 hk).1;by_cases h:j/64=k
 .subst h;simp[bit,List.getD,hl]
 .rw[if_neg h];have h':¬ k=j/64:=fun e=>h e.symm
  simp[bit,List.getD,ug,h']
def xQ0 (hx:ws[i/64]?=some x)(j:Nat):bit (ws.set (i/64) (x ||| 2^(i % 64))) j=if j=i then true else bit ws j:=by
 rw[sy0 hx];split
 .rename_i h;have hb:bit ws j=x.testBit (j % 64):=by simp[bit,List.getD,h,hx]
  rw[Nat.testBit_or,Nat.testBit_two_pow,hb];by_cases he:j=i
  .subst he;simp
  .rw[if_neg he];have:¬ i % 64=j % 64:=by omega
   simp[this]
 .rename_i h;rw[if_neg (by rintro rfl;exact h rfl)]
def je0 (hx:ws[i/64]?=some x)(j:Nat):bit (ws.set (i/64) (x &&& (18446744073709551615-2^(i % 64)))) j=if j=i then false else bit ws j:=by
 rw[sy0 hx];have hm:j % 64<64:=oM
 split
 .rename_i h;have hb:bit ws j=x.testBit (j % 64):=by simp[bit,List.getD,h,hx]
  rw[Nat.testBit_and,show 18446744073709551615-2^(i % 64)=2^64-(2^(i % 64)+1) by omega,Nat.testBit_two_pow_sub_succ (Nat.pow_lt_pow_right dC oM),Nat.testBit_two_pow,hb];by_cases he:j=i
  .subst he;simp
  .rw[if_neg he];have:¬ i % 64=j % 64:=by omega
   simp[this,hm]
 .rename_i h;rw[if_neg (by rintro rfl;exact h rfl)]
def rb0 (ws:List Nat)(k y:Nat):(sh ws).setIfInBounds k (iU y)=sh (ws.set k y):=by simp[sh]
def QF (i:Nat):2^(i % 64)<18446744073709551616:=E4 (Nat.pow_lt_pow_right (a:=2) (m:=i % 64) (n:=64) dC oM) dC
def OD (i:Nat):IntKind.u64.wrap (2^(i % 64))=((2^(i % 64):Nat):Int):=by
 have h:=QF i;have e:(2:Int)^(i % 64)=((2^(i % 64):Nat):Int):=(Int.natCast_pow 2 (i % 64)).symm;rw[IntKind.wrap_u64,e];generalize 2^(i % 64)=p at *
 omega
def na.store (h:na w bs bw n hand ws){y:Nat}(hk:ws[k]?=some x)(hy:y<18446744073709551616)(hp:∀ i,n<=i->bit (ws.set k y) i=false) :
  na (w.setCell (aA bw k) (iU y)) bs bw n hand (ws.set k y):=by
 have hne:bw≠bs:=XF h.w_ h.s sP;refine⟨?_,?_,by simpa using h.len,h.room,h.hand,?_,hp⟩
 .rw[fY _ _ _ _ hne,h.s];simp
 .rw[hsc _ _ _ _ h.w_,rb0]
 .intro z hz;rcases Ml hz with hz|rfl
  .exact h.wf z hz
  .exact hy
structure cT (w:w9)(bs bw n hand:Nat)(t:Nat->Bool):Prop where
 ex:∃ ws,na w bs bw n hand ws/\∀ i,bit ws i=t i
def cT.fr {t:Nat->Bool}(h:cT w bs bw n hand t)(F:Fr S w w')(h1:¬ S bs)(h2:¬ S bw):cT w' bs bw n hand t:=by
 obtain⟨ws,h,ht⟩:=h;exact⟨ws,h.fr F h1 h2,ht⟩
def upd (t:Nat->Bool)(i:Nat)(b:Bool):Nat->Bool:=fun j=>if j=i then b else t j
end Go.Sg.Bits
namespace Go.Proofs.YtgdhaaokolfdoaaGreatDoor
open Tryz
section
open Go.RowKit Go.Sg Go.Sg.Bits
variable {w:w9}{bs bw hand n:Nat}{ws:List Nat}{t:Nat->Bool}
def xH0 (h:na w bs bw n hand ws)(i:Nat)(hi:i<n) :
  cP 157 #[pO bs,iI i] w fun e w'=>e = rT (bO true)/\w=w':=by
 have c0:=G0 h.s 0;simp at c0;clear h;go_enter func157,ntmps157;go_wp2
 go_ret;exact⟨rfl,rfl⟩
def tx0 (h:na w bs bw n hand ws)(i:Nat)(hi:i<n) :
  cP 88 #[pO bs,iI i] w fun e w'=>e = rT (bO (bit ws i))/\w=w':=by
 have c2:=G0 h.s 2;simp at c2;obtain⟨x,hx,hlt,hb⟩:=h.get hi;have cw:=h.word hx;have hl:=h.len;have hr:=h.room;have H:=hid h;have HB:=hid hb;clear hx hb h;go_enter func88,ntmps88;go_wp2_with (go_at_call 157;refine (xH0 H i hi).mono ?_;rintro e w' ⟨rfl,rfl⟩)
 go_ret;exact⟨by rw[HB,<- and_one x _ hlt];rfl,rfl⟩
def Yz (h:cT w bs bw n hand t)(i:Nat)(hi:i<n) :
  cP 88 #[pO bs,iI i] w fun e w'=>e = rT (bO (t i))/\w=w':=by
 obtain⟨ws,h,ht⟩:=h;rw[<- ht];exact tx0 h i hi
def WS (h:cT w bs bw n hand t)(i:Nat)(hi:i<n)(hb:t i=false) :
  cP 90 #[pO bs,iI i] w fun e w'=>e = rT (bO true)/\cT w' bs bw n hand (upd t i true)/\Fr (fun b=>b=bw) w w':=by
 obtain⟨ws,h,ht⟩:=h;rw[<- ht] at hb;have c2:=G0 h.s 2;simp at c2;obtain⟨x,hx,hlt,L4⟩:=h.get hi;have cw:=h.word hx;have zw:∀ o,w.frozen? ⟨bw,o,none⟩=false:=fun o=>X2 h.w_ o
 have hl:=h.len;have hr:=h.room;have H:=hid h;have HB:=hid hb;have HX:=hid hx;have HT:=hid ht;clear hx hb h L4 ht;go_enter func90,ntmps90;go_wp2_with (first|(go_at_call 157;refine (xH0 H i hi).mono ?_;rintro e w' ⟨rfl,rfl⟩)|(go_at_call 88;refine (tx0 H i hi).mono ?_;rintro e w' ⟨rfl,rfl⟩;rw[HB]))
 go_region
 go_wp2
 go_ret;have hy:x ||| 2^(i % 64)<18446744073709551616:=Nat.or_lt_two_pow (n:=64) hlt (QF i)
 refine⟨rfl,⟨ws.set (i/64) (x ||| 2^(i % 64)),?_,fun j=>?_⟩,((Fr.refl (fun b=>b=bw) _).setCell (a:=⟨bw,i/64,none⟩) (fun _=>rfl) _).drew⟩
 .rw[OD,u64_or_nat _ _ hlt (QF i)];exact (H.store HX hy fun j hj=>by rw[xQ0 HX,if_neg oM];exact H.pad j hj).fr ((Fr.refl (fun _=>False) _).drew) id id
 .rw[xQ0 HX,upd,HT]
def nl0 (h:cT w bs bw n hand t)(i:Nat)(hi:i<n)(hb:t i=true) :
  cP 107 #[pO bs,iI i] w fun e w'=>e = rT (bO true)/\cT w' bs bw n hand (upd t i false)/\Fr (fun b=>b=bw) w w':=by
 have H0:=hid h;obtain⟨ws,h,ht⟩:=h;have c2:=G0 h.s 2;simp at c2;obtain⟨x,hx,hlt,L4⟩:=h.get hi;have cw:=h.word hx;have zw:∀ o,w.frozen? ⟨bw,o,none⟩=false:=fun o=>X2 h.w_ o
 have hl:=h.len;have hr:=h.room;have H:=hid h;have HB:=hid hb;have HX:=hid hx;have HT:=hid ht;clear hx hb h L4 ht;go_enter func107,ntmps107;go_wp2_with (go_at_call 88;refine (Yz H0 i hi).mono ?_;rintro e w' ⟨rfl,rfl⟩;rw[HB])
 go_region
 go_wp2
 go_ret;have hy:x &&& (18446744073709551615-2^(i % 64))<18446744073709551616:=Mf Nat.and_le_left hlt;refine⟨rfl,⟨ws.set (i/64) (x &&& (18446744073709551615-2^(i % 64))),?_,fun j=>?_⟩,((Fr.refl (fun b=>b=bw) _).setCell (a:=⟨bw,i/64,none⟩) (fun _=>rfl) _).drew⟩
 .rw[OD,u64_andNot_nat _ _ hlt (QF i)];exact (H.store HX hy fun j hj=>by rw[je0 HX,if_neg oM];exact H.pad j hj).fr ((Fr.refl (fun _=>False) _).drew) id id
 .rw[je0 HX,upd,HT]
end
section
open Go.Proofs Go.Shelf
def Ht:Go.Shelf.Ren:=⟨fun|29=>214|n=>n,fun|22=>29|3=>3|4=>4|25=>234|54=>375|0=>0|5=>5|n=>n,fun|1=>0|n=>n⟩
def Td:Go.Proofs.Lays7.n29 prog Ht:={
 mixed:=by kernel_rfl
 f29:=func214.trans (congrArg some kF)
 t0:=underlying0
 a0:=isAgg0
 z0:=sizeOf0
 v0:=zeroValue0
 i0:=by kernel_rfl
 t3:=underlying3
 a3:=isAgg3
 z3:=sizeOf3
 v3:=zeroValue3
 i3:=by kernel_rfl
 t4:=underlying4
 a4:=isAgg4
 z4:=sizeOf4
 v4:=zeroValue4
 i4:=by kernel_rfl
 t5:=underlying5
 a5:=isAgg5
 z5:=sizeOf5
 v5:=zeroValue5
 i5:=by kernel_rfl
 t22:=underlying29
 a22:=isAgg29
 z22:=sizeOf29
 v22:=zeroValue29
 i22:=by kernel_rfl
 t25:=underlying234
 a25:=isAgg234
 z25:=sizeOf234
 v25:=zeroValue234
 i25:=by kernel_rfl
 t54:=underlying375
 a54:=isAgg375
 z54:=sizeOf375
 g1:=by kernel_rfl }
def dq:Go.Shelf.Ren:=⟨fun|7=>99|10=>161|n=>n,fun|23=>153|26=>3|3=>4|28=>177|0=>0|27=>176|33=>74|4=>4|n=>n,fun|n=>n⟩
def nz:Go.Proofs.SlLaysZI.n7 prog dq:={
 mixed:=by kernel_rfl
 f7:=⟨Tryz.f99.name,dC,func99.trans (congrArg some kF)⟩
 f10:=⟨Tryz.f161.name,dC,func161.trans (congrArg some kF)⟩
 t0:=underlying0
 a0:=isAgg0
 z0:=sizeOf0
 v0:=zeroValue0
 t4:=underlying4
 a4:=isAgg4
 z4:=sizeOf4
 v4:=zeroValue4
 t23:=underlying153
 a23:=isAgg153
 z23:=sizeOf153
 v23:=zeroValue153
 t26:=underlying3
 a26:=isAgg3
 z26:=sizeOf3
 v26:=zeroValue3
 t27:=underlying176
 a27:=isAgg176
 z27:=sizeOf176
 v27:=zeroValue176
 t28:=underlying177
 a28:=isAgg177
 z28:=sizeOf177
 v28:=zeroValue177
 t33:=underlying74
 a33:=isAgg74
 z33:=sizeOf74
 v33:=zeroValue74 }
def an:Go.Shelf.Ren:=⟨fun|6=>98|8=>160|9=>141|11=>223|13=>204|12=>203|23=>264|24=>265|14=>255|15=>256|16=>257|17=>258|18=>259|19=>260|20=>261|21=>262|22=>263|25=>279|26=>280|27=>281|28=>282|29=>283|30=>276|31=>287|n=>n,fun|26=>3|28=>177|24=>52|0=>0|3=>3|37=>234|48=>373|50=>29|4=>4|40=>367|39=>366|45=>157|5=>5|9=>9|51=>384|55=>388|57=>392|58=>393|33=>74|n=>n,fun|n=>n⟩
def oV:Go.Proofs.SlLaysZI.n6 prog an:={
 mixed:=by kernel_rfl
 f6:=⟨Tryz.f98.name,dC,func98.trans (congrArg some kF)⟩
 f8:=⟨Tryz.f160.name,dC,func160.trans (congrArg some kF)⟩
 f11:=⟨Tryz.f223.name,dC,func223.trans (congrArg some kF)⟩
 t0:=underlying0
 a0:=isAgg0
 z0:=sizeOf0
 v0:=zeroValue0
 t24:=underlying52
 a24:=isAgg52
 z24:=sizeOf52
 v24:=zeroValue52
 t26:=underlying3
 a26:=isAgg3
 z26:=sizeOf3
 v26:=zeroValue3
 t28:=underlying177
 a28:=isAgg177
 z28:=sizeOf177
 v28:=zeroValue177
 i26:=by kernel_rfl }
def Hu:Go.Shelf.Ren:=⟨fun|5=>141|8=>204|7=>203|19=>264|20=>265|10=>255|11=>256|12=>257|13=>258|14=>259|15=>260|16=>261|17=>262|18=>263|30=>279|31=>280|32=>281|33=>282|34=>283|35=>276|40=>287|n=>n,fun|23=>52|25=>3|3=>3|32=>234|22=>52|0=>0|44=>373|46=>29|4=>4|36=>367|35=>366|41=>157|5=>5|9=>9|53=>384|57=>388|63=>392|64=>393|n=>n,fun|n=>n⟩
def ek:Go.Proofs.SlLaysM.n5 prog Hu:={
 mixed:=by kernel_rfl
 f5:=⟨Tryz.f141.name,dC,func141.trans (congrArg some kF)⟩
 f7:=⟨Tryz.f203.name,dC,func203.trans (congrArg some kF)⟩
 f8:=func204.trans (congrArg some kF)
 f10:=⟨Tryz.f255.name,dC,func255.trans (congrArg some kF)⟩
 f11:=⟨Tryz.f256.name,dC,func256.trans (congrArg some kF)⟩
 f12:=⟨Tryz.f257.name,dC,func257.trans (congrArg some kF)⟩
 f13:=⟨Tryz.f258.name,dC,func258.trans (congrArg some kF)⟩
 f14:=⟨Tryz.f259.name,dC,func259.trans (congrArg some kF)⟩
 f15:=⟨Tryz.f260.name,dC,func260.trans (congrArg some kF)⟩
 f16:=⟨Tryz.f261.name,dC,func261.trans (congrArg some kF)⟩
 f17:=⟨Tryz.f262.name,dC,func262.trans (congrArg some kF)⟩
 f18:=⟨Tryz.f263.name,dC,func263.trans (congrArg some kF)⟩
 f19:=func264.trans (congrArg some kF)
 f20:=func265.trans (congrArg some kF)
 f30:=⟨Tryz.f279.name,dC,func279.trans (congrArg some kF)⟩
 f31:=func280.trans (congrArg some kF)
 f32:=func281.trans (congrArg some kF)
 f33:=⟨Tryz.f282.name,dC,func282.trans (congrArg some kF)⟩
 f34:=⟨Tryz.f283.name,dC,func283.trans (congrArg some kF)⟩
 f35:=⟨Tryz.f276.name,dC,func276.trans (congrArg some kF)⟩
 f40:=⟨Tryz.f287.name,dC,func287.trans (congrArg some kF)⟩
 t0:=underlying0
 a0:=isAgg0
 z0:=sizeOf0
 v0:=zeroValue0
 t3:=underlying3
 a3:=isAgg3
 z3:=sizeOf3
 v3:=zeroValue3
 t4:=underlying4
 a4:=isAgg4
 z4:=sizeOf4
 v4:=zeroValue4
 t5:=underlying5
 a5:=isAgg5
 z5:=sizeOf5
 v5:=zeroValue5
 t9:=underlying9
 a9:=isAgg9
 z9:=sizeOf9
 v9:=zeroValue9
 t22:=underlying52
 a22:=isAgg52
 z22:=sizeOf52
 v22:=zeroValue52
 t23:=underlying52
 a23:=isAgg52
 z23:=sizeOf52
 v23:=zeroValue52
 t25:=underlying3
 a25:=isAgg3
 z25:=sizeOf3
 v25:=zeroValue3
 t32:=underlying234
 a32:=isAgg234
 z32:=sizeOf234
 v32:=zeroValue234
 t35:=underlying366
 a35:=isAgg366
 z35:=sizeOf366
 v35:=zeroValue366
 t36:=underlying367
 a36:=isAgg367
 z36:=sizeOf367
 v36:=zeroValue367
 t41:=underlying157
 a41:=isAgg157
 z41:=sizeOf157
 v41:=zeroValue157
 t44:=underlying373
 a44:=isAgg373
 z44:=sizeOf373
 v44:=zeroValue373
 t46:=underlying29
 a46:=isAgg29
 z46:=sizeOf29
 v46:=zeroValue29
 t53:=underlying384
 a53:=isAgg384
 z53:=sizeOf384
 v53:=zeroValue384
 t57:=underlying388
 a57:=isAgg388
 z57:=sizeOf388
 v57:=zeroValue388
 t63:=underlying392
 a63:=isAgg392
 z63:=sizeOf392
 v63:=zeroValue392
 t64:=underlying393
 a64:=isAgg393
 z64:=sizeOf393
 v64:=zeroValue393 }
end
end Go.Proofs.YtgdhaaokolfdoaaGreatDoor
namespace Go.Sg.Bits
open Go
variable {x:Nat}
def oL0 (h0:x≠0)(hx:x<18446744073709551616):∃ m,x=2^Lib.ctz 64 x*(2*m+1)/\Lib.ctz 64 x<64:=by
 have:=Lib.ctzFrom_spec 64 x oM hx;simpa[Lib.ctz,h0] using this
def XC (k m i:Nat):(2^k*(2*m+1)).testBit i=if i<k then false else if i=k then true else m.testBit (i-k-1):=by
 have e:2^k*(2*m+1)=2^k*(2*m+1)+0:=rfl;rw[dU,Nat.testBit_mul_two_pow];by_cases h:i<k
 .rw[if_pos h];simp;omega
 .rw[if_neg h];by_cases h2:i=k
  .subst h2;simp[Nat.testBit_zero]
  .rw[if_neg h2];obtain⟨d,rfl⟩:∃ d,i=k+(d+1):=⟨i-k-1,oM⟩
   have e1:k+(d+1)-k=d+1:=oM
   have e2:k+(d+1)-k-1=d:=oM
   rw[e1,show d+1-1=d by omega,Nat.testBit_succ,show (2*m+1)/2=m by omega];simp
def sf0 (h0:x≠0)(hx:x<18446744073709551616):Lib.ctz 64 x<64/\x.testBit (Lib.ctz 64 x)=true/\∀ i,i<Lib.ctz 64 x->x.testBit i=false:=by
 obtain⟨m,hm,hl⟩:=oL0 h0 hx;refine⟨hl,?_,fun i hi=>?_⟩
 .generalize Lib.ctz 64 x=k at *
  rw[hm,XC];simp
 .generalize Lib.ctz 64 x=k at *
  rw[hm,XC,if_pos hi]
def oG0 (h0:x≠0)(hx:x<18446744073709551616)(i:Nat):(x &&& (x-1)).testBit i=if i=Lib.ctz 64 x then false else x.testBit i:=by
 obtain⟨m,hm,hl⟩:=oL0 h0 hx;generalize Lib.ctz 64 x=k at *
 have e1:x-1=2^k*(2*m)+(2^k-1):=by
  have:0<2^k:=Nat.two_pow_pos k;rw[hm,uf];omega
 have hlt:2^k-1<2^k:=by have:0<2^k:=Nat.two_pow_pos k;omega
 rw[Nat.testBit_and,e1,Nat.testBit_two_pow_mul_add _ hlt,hm,XC];by_cases h:i<k
 .simp[h]
 .rw[if_neg h,if_neg h];by_cases h2:i=k
  .subst h2;simp[Nat.testBit_zero]
  .rw[if_neg h2,if_neg h2];obtain⟨d,rfl⟩:∃ d,i=k+(d+1):=⟨i-k-1,oM⟩
   rw[show k+(d+1)-k=d+1 by omega,show d+1-1=d by omega,Nat.testBit_succ,show 2*m/2=m by omega];simp
def As0 (x:Nat)(hx:x<18446744073709551616):bits BinOp.xor IntKind.u64 IntKind.u64.max (x:Int)=((18446744073709551615 ^^^ x:Nat):Int):=by
 rw[show IntKind.u64.max=((18446744073709551615:Nat):Int) from rfl];exact u64_xor_nat _ _ dC hx
def rZ0 (x:Nat)(hx:x<18446744073709551616):18446744073709551615 ^^^ x<18446744073709551616:=DP (n:=64) dC hx
def oa0 (x i:Nat):(18446744073709551615 ^^^ x).testBit i=(decide (i<64) ^^ x.testBit i):=by
 rw[Nat.testBit_xor,show 18446744073709551615=2^64-1 from rfl,Nat.testBit_two_pow_sub_one]
def oW0 (h0:x≠0)(hx:x<18446744073709551616):bits BinOp.and IntKind.u64 (x:Int) ((x:Int)-1)=((x &&& (x-1):Nat):Int):=by
 rw[show (x:Int)-1=((x-1:Nat):Int) by omega,u64_and_nat _ _ hx oM]
end Go.Sg.Bits
namespace Go.Proofs.YtgdhaaokolfdoaaGreatDoor
open Tryz
section
open Go.Proofs Go.Shelf Go.Sg
def Tab (w:w9):Prop:=TabAt 0 Lib.deBruijn64tab w
def Tab.lt {w:w9}(h:Tab w):0<w.heap.size:=World.block_lt_of_cell? _ _ (h 0 dC)
def Tab.fr {S:Nat->Prop}{w w':w9}(h:Tab w)(F:Fr S w w')(hS:¬ S 0):Tab w':=fun j hj=>(F.cell (p:=⟨0,j,none⟩) h.lt hS).trans (h j hj)
def YW (x:Nat)(hx:x<18446744073709551616)(w:w9)(hT:Tab w) :
  cP 214 #[iU x] w fun e w'=>e = rT (iI (Lib.ctz 64 x))/\w=w':=by
 have h:=Any7.bits_TrailingZeros64 Td x hx w fun _=>hT;change cP 214 _ _ _ at h;exact h.mono fun _ _ ⟨h1,h2⟩=>⟨h1,h2.symm⟩
end
section
open Go.RowKit Go.Sg Go.Sg.Bits
def BI (t:Nat->Bool)(n a b:Nat):Prop:=∀ i,a<=i->i<b->i<n->t i=true
def AY0 (t:Nat->Bool)(n a:Nat)(r:Int):Prop:=(r = -1/\BI t n a n)\/∃ i:Nat,r=i/\a<=i/\i<n/\t i=false/\BI t n a i
def free_at {w:w9}{bs bw n hand:Nat}{t:Nat->Bool}(h:cT w bs bw n hand t)(hT:Tab w)(a:Nat)(ha:a<=n) :
  cP 153 #[pO bs,iI a] w fun e w'=>∃ r,AY0 t n a r/\e = rT (iI r)/\w=w':=by
 obtain⟨ws,h,ht⟩:=h;have c0:=G0 h.s 0;have c2:=G0 h.s 2;simp at c0 c2;have hl:=h.len;have hr:=h.room;have H:=hid h;have HT:=hid ht;have SO:=hid hT;clear h ht hT;go_enter func153,ntmps153;go_wp2
 go_step3
 go_wp2
 go_step3
 go_wp2
 go_loop [5] (fun v=>∃ k:Nat,a/64<=k/\k<=ws.length/\v = iI k/\BI t n a (64*k)) fun v=>ws.length-(intOf v).toNat
 case atStart=>exact⟨a/64,nR _,oM,by simp,fun i h1 h2 h3=>oM⟩
 case round =>
  obtain⟨k,Pz,iY,rfl,Y2⟩:=hrel;by_cases hlt:k<ws.length
  .obtain⟨x,hx⟩:∃ x,ws[k]?=some x:=⟨_,gE hlt⟩
   have cw:=H.word hx;have dS:=H.wf x (gM hx);have HX:=hid hx;clear hx;have dw:∀ m,m<64->t (64*k+m)=x.testBit m:=fun m hm=>by
    rw[<- HT,bit,show (64*k+m)/64=k by omega,show (64*k+m) % 64=m by omega];simp[List.getD,HX.o]
   have AL:=hid dw;have vX:=hid Y2;clear dw Y2;go_wp2
   rw[As0 x dS];go_loopg [6] 64 fun g v wr=>∃ (ci low:Nat),v = iU ci/\ci<18446744073709551616/\low<=64/\g=64-low/\(∀ m,m<64->ci.testBit m=(decide (low<=m) && !x.testBit m))/\(∀ m,m<low->x.testBit m=true\/64*k+m<a)/\wr=w
   case atStart=>exact⟨_,0,rfl,rZ0 x dS,oM,rfl,fun m hm=>by rw[oa0];simp[hm],fun m hm=>oM,rfl⟩
   case round =>
    obtain⟨ci,low,rfl,N8,Vu,hg,hb,hpre,rfl⟩:=hrel;have oH:=hid hb;have mf:=hid hpre;clear hb hpre;by_cases hz:ci=0
    .subst hz;go_wp2
     go_round
     case rel =>
      refine⟨k+1,oM,oM,by simp,fun i h1 h2 h3=>?_⟩;by_cases CX:i<64*k
      .exact vX i h1 CX h3
      .have hm:i=64*k+(i-64*k):=oM;have ew:i-64*k<64:=oM;rw[hm,AL _ ew];generalize i-64*k=m at *
       by_cases pM:low<=m
       .have:=oH.o m ew;simp[pM] at this;exact this
       .rcases mf.o m oM with h|h
        .exact h
        .omega
     case measure=>exact wM
    .obtain⟨gj,nU,ia⟩:=sf0 hz N8;have hd:=oW0 hz N8;have T6:=oG0 hz N8;have Ln:=hid (YW ci N8 wr SO.o);have hne:((ci:Int) != 0)=true:=sO;generalize Lib.ctz 64 ci=m0 at *
     have eF:low<=m0/\x.testBit m0=false:=by
      have:=oH.o m0 gj;rw[nU] at this;simpa using this.symm
     have aU:∀ m,m<m0->x.testBit m=true\/64*k+m<a:=fun m hm=>by
      by_cases pM:low<=m
      .have:=oH.o m oM;rw[ia m hm] at this;simp[pM] at this;exact .inl this
      .exact mf m oM
     have eY:BI t n a (64*k+m0):=fun i h1 h2 h3=>by
      by_cases CX:i<64*k
      .exact vX i h1 CX h3
      .have hm:i=64*k+(i-64*k):=oM;have ew:i-64*k<64:=oM;rw[hm,AL _ ew];rcases aU (i-64*k) oM with h|h
       .exact h
       .omega
     have bD:=hi2 nU (aI ia (aI T6 (aI eF.2 (aI aU eY))));have hx1:=eF.1;have HD:=hid hd;clear nU ia T6 eF aU eY hd;rcases (show n<=64*k+m0\/(64*k+m0<n/\a<=64*k+m0)\/(64*k+m0<n/\64*k+m0<a) by omega) with hc|⟨hc,hc'⟩|⟨hc,hc'⟩
     .go_wp2_with (go_at_call 214;refine Ln.o.mono ?_;rintro e w' ⟨rfl,rfl⟩)
      rw[Exit.noGoto_ret];go_ret;obtain⟨nU,ia,T6,eF,aU,eY⟩:=bD.o;exact⟨-1,.inl ⟨rfl,fun i h1 h2 h3=>eY i h1 oM h3⟩,rfl,rfl⟩
     .go_wp2_with (go_at_call 214;refine Ln.o.mono ?_;rintro e w' ⟨rfl,rfl⟩)
      rw[Exit.noGoto_ret];go_ret;obtain⟨nU,ia,T6,eF,aU,eY⟩:=bD.o;exact⟨(64*k+m0:Nat),.inr ⟨64*k+m0,rfl,hc',hc,by rw[AL m0 gj];exact eF,eY⟩,by simp[Int.mul_comm],rfl⟩
     .go_wp2_with (go_at_call 214;refine Ln.o.mono ?_;rintro e w' ⟨rfl,rfl⟩)
      rw[HD];obtain⟨nU,ia,T6,eF,aU,eY⟩:=bD.o;go_roundg (64-(m0+1))
      case measure=>omega
      case rel =>
       refine⟨ci &&& (ci-1),m0+1,rfl,Mf Nat.and_le_left N8,oM,rfl,fun m hm=>?_,fun m hm=>?_,rfl⟩
       .rw[T6];by_cases he:m=m0
        .rw[if_pos he];simp;omega
        .rw[if_neg he,oH m hm];by_cases pM:m0+1<=m
         .have:low<=m:=oM;simp[pM,this]
         .have h3:=ia m oM;rw[oH m hm] at h3;simp[pM];simpa using h3
       .rcases jL m m0 with h|h
        .exact aU m h
        .obtain rfl:m=m0:=by omega
         exact .inr hc'
  .obtain rfl:k=ws.length:=by omega
   go_wp2
   go_ret;exact⟨-1,.inl ⟨rfl,fun i h1 h2 h3=>Y2 i h1 oM h3⟩,rfl,rfl⟩
end
end Go.Proofs.YtgdhaaokolfdoaaGreatDoor
namespace Go.Sg.Bits
open Go.RowKit
variable {w:w9}{bs bw hand n:Nat}{t:Nat->Bool}
def cT.room (h:cT w bs bw n hand t):(1<=n/\n<=65536)/\hand<n:=by
 obtain⟨ws,h,_⟩:=h;exact⟨h.room,h.hand⟩
def cT.cells (h:cT w bs bw n hand t):∃ m,w.cell? bs=some (iI n)/\w.cell? (aA bs 1)=some (iI hand)/\w.cell? (aA bs 2)=some (sL bw m m)/\∀ o,w.frozen? ⟨bs,o,none⟩=false:=by
 obtain⟨ws,h,_⟩:=h;obtain⟨c0,c1,c2,z,_⟩:=cells3 h.s;exact⟨_,c0,c1,c2,z⟩
def cT.turn (h:cT w bs bw n hand t){k:Nat}(hk:k<n):cT (w.setCell (aA bs 1) (iI k)) bs bw n k t:=by
 obtain⟨ws,h,ht⟩:=h;have hne:bs≠bw:=XF h.s h.w_ sP;refine⟨ws,⟨?_,?_,h.len,h.room,hk,h.wf,h.pad⟩,ht⟩
 .rw[hsc _ _ _ _ h.s];simp
 .rw[fY _ _ _ _ hne,h.w_]
def cT.xW (h:cT w bs bw n hand t):bs<w/\bw<w/\bs≠bw:=by
 obtain⟨ws,h,ht⟩:=h;exact⟨M0 h.s,M0 h.w_,XF h.s h.w_ sP⟩
end Go.Sg.Bits
namespace Go.Proofs.YtgdhaaokolfdoaaGreatDoor
open Tryz
section
open Go.RowKit Go.Sg Go.Sg.Bits
def dF (t:Nat->Bool)(n hand:Nat)(i:Nat):Prop:=
 i<n/\t i=false/\((hand<=i/\BI t n hand i)\/(BI t n hand n/\BI t n 0 i))
def vl0 (t:Nat->Bool)(bs bw n hand:Nat)(w:w9)(e:Ending)(w':w9):Prop:=
 ∃ i,dF t n hand i/\e = rT (tU #[iI i,bO true])/\cT w' bs bw n ((i+1) % n) (upd t i true)/\Fr (fun b=>b=bs\/b=bw) w w'
def uP0 {w:w9}{bs bw n hand:Nat}{t:Nat->Bool}(h:cT w bs bw n hand t)(hT:Tab w){j:Nat}(hj:j<n)(P2:t j=false) :
  cP 81 #[pO bs] w (vl0 t bs bw n hand w):=by
 obtain⟨m,c0,c1,c2,z⟩:=h.cells;obtain⟨hr,hh⟩:=h.room;obtain⟨l1,l2,l3⟩:=h.xW;have H:=hid h;have HT:=hid hT;have HJ:=hid P2;clear h hT P2;go_enter func81,ntmps81;go_wp2_with fail
 refine (free_at H HT hand oM).mono ?_;rintro e w' ⟨r,hf,rfl,rfl⟩;rcases hf with⟨rfl,Y2⟩|⟨i,rfl,vq,hi,Dx,Y2⟩
 .have vX:=hid Y2;clear Y2;go_wp2_with fail
  refine (free_at H HT 0 oM).mono ?_;rintro e w' ⟨r,hf,rfl,rfl⟩;rcases hf with⟨rfl,Y2⟩|⟨i,rfl,vq,hi,Dx,Y2⟩
  .have:=Y2 j (C3 _) hj hj;rw[HJ] at this;cases this
  .have HI:=hid (show dF t n hand i from⟨hi,Dx,.inr ⟨vX.o,Y2⟩⟩);have SN:=hid Dx;clear Y2 Dx;go_wp2_with fail
   refine (WS H i hi SN.o).mono ?_;rintro e w1 ⟨rfl,hB,F1⟩;obtain⟨m',d0,d1,d2,dz⟩:=hB.cells;have HB:=hid hB;have kD:=rm (i+1) (show 0<n by omega);have gj:((i:Int)+1) % (n:Int)=(((i+1) % n:Nat):Int):=by simp
   have HC:=hid gj;clear hB gj;go_wp2
   go_ret2;exact⟨i,HI.o,rfl,by rw[HC];exact HB.turn kD,(F1.mono fun b _ h=>.inr h).setCell (fun _=>.inl rfl) _⟩
 .have HI:=hid (show dF t n hand i from⟨hi,Dx,.inl ⟨vq,Y2⟩⟩);have SN:=hid Dx;clear Y2 Dx;go_wp2_with fail
  refine (WS H i hi SN.o).mono ?_;rintro e w1 ⟨rfl,hB,F1⟩;obtain⟨m',d0,d1,d2,dz⟩:=hB.cells;have HB:=hid hB;have kD:=rm (i+1) (show 0<n by omega);have gj:((i:Int)+1) % (n:Int)=(((i+1) % n:Nat):Int):=by simp
  have HC:=hid gj;clear hB gj;go_wp2
  go_ret2;exact⟨i,HI.o,rfl,by rw[HC];exact HB.turn kD,(F1.mono fun b _ h=>.inr h).setCell (fun _=>.inl rfl) _⟩
def Bj0:(prog.info? 29).map (fun i=>(i.zero,i.size,i.bytes))=some (some (iU 0),1,8):=by kernel_rfl
def rz0 (n:Nat)(h1:1<=n)(h2:n<=65536)(w:w9) :
  cP 95 #[iI n] w fun e w'=>∃ bs bw,e = rT (pO (aP bs 0))/\cT w' bs bw n 0 (fun _=>false)/\w.heap.size<=bs/\w.heap.size<=bw/\Fq w w':=by
 obtain⟨i0,hi,J1,M1,O1⟩:=info_parts Bj0;have jb:=fun W=>Ez (P:=prog) 254 29 i0 _ underlying254 hi J1 ((n+63)/64) (by rw[O1];omega) oM W
 rw[M1] at jb;have e:(((n+63)/64:Nat):Int)=((n:Int)+64-1)/64:=oM
 simp only[e] at jb;clear hi J1 M1 O1 e;go_enter func95,ntmps95;go_wp2
 go_ret;have hz:madeCells #[Value.int IntKind.u64 0] ((n+63)/64)=sh (List.replicate ((n+63)/64) 0):=by
  apply Array.ext
  .rw[size_madeCells];simp[sh]
  .intro i h1 h2;simp[madeCells,sh,Nat.mod_one]
 refine⟨w.heap.size+1,w.heap.size,by simp,⟨List.replicate ((n+63)/64) 0,?_,fun i=>?_⟩,oM,nR _,(fR.alloc _).alloc _⟩
 .obtain⟨g1,g2,_⟩:=n9 (w:=w) (A:=.cells (madeCells #[iU 0] ((n+63)/64)) 29) (B:=.cells #[iI n,iI 0,sL w ((n+63)/64) ((n+63)/64)] 256) rfl;refine⟨?_,?_,by simp,⟨h1,h2⟩,oM,fun x hx=>?_,fun i _=>?_⟩
  .rw[List.length_replicate];exact g2
  .rw[<- hz];exact g1
  .rw[Ad hx];decide
  .simp[bit,List.getD,rk];split <;> simp
 .simp[bit,List.getD,rk];split <;> simp
end
section
open Go.RowKit Go.Sg
def XD (s:Int)(h1:96<=s)(h2:s<=512)(w:w9):cP 159 #[iI s] w fun e w'=>e = rT (bO true)/\w=w':=by
 go_enter func159,ntmps159;go_wp2
 go_ret;exact⟨rfl,rfl⟩
def PO (s:Int)(h1:96<=s)(h2:s<=512)(w:w9):cP 94 #[iI s] w fun e w'=>e = rT (iI (s-19))/\w=w':=by
 go_enter func94,ntmps94;go_wp2_with (go_at_call 159;refine (XD s h1 h2 _).mono ?_;rintro e w' ⟨rfl,rfl⟩)
 go_ret;exact⟨rfl,rfl⟩
