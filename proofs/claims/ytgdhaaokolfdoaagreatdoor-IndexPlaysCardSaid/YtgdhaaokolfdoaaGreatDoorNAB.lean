/- A pack of texts. Conditions: those that each names. -/
import Derived.Test.YtgdhaaokolfdoaaGreatDoorNAA
import Derived.Shelf.Spec.TrailingZeros
import Derived.Shelf.SlIterI.Nil
import Derived.Shelf.SortM.Plain
import Derived.Shelf.SortM.SortNone
set_option maxHeartbeats 16000000
set_option maxRecDepth 100000
set_option linter.all false
namespace Go.Sg
variable {S:Nat->Prop}{w w1:World}{b:Nat}
theorem Fr.qt0 (h:Fr S w w1)(hb:S b)(x y z:Value):Fr S w (((w1.setCell ⟨b,0,none⟩ x).setCell ⟨b,1,none⟩ y).setCell ⟨b,2,none⟩ z):=
 ((h.setCell (a:=⟨b,0,none⟩) (fun _=>hb) x).setCell (a:=⟨b,1,none⟩) (fun _=>hb) y).setCell (a:=⟨b,2,none⟩) (fun _=>hb) z
theorem Fr.lT0 (h:Fr S w w1)(hb:w.heap.size<=b)(x y z:Value):Fr S w (((w1.setCell ⟨b,0,none⟩ x).setCell ⟨b,1,none⟩ y).setCell ⟨b,2,none⟩ z):=
 ((h.an0 hb x).an0 hb y).an0 hb z
end Go.Sg
namespace Go.Proofs.YtgdhaaokolfdoaaGreatDoor
namespace CP
open Go.RowKit Go.Sg Go.Sg.Clk Go.Shelf
def AZ0 (g:Option Pl):Int:=(g.map (·.key)).getD 0
def AY0 (g:Option Pl):Pg:=(g.map (·.v)).getD Pg.zero
def jW0 (pl:List Pl)(hand bc bp bm:Nat)(key:Int)(x:Pg)(w:World)(e:Ending)(w':World):Prop:=
 e = .returned (.tuple #[.int .i64 (AZ0 (iN0 pl hand key x).gone),(AY0 (iN0 pl hand key x).gone).val,.bool (iN0 pl hand key x).gone.isSome]) /\
 AtP w' bc bp bm (iN0 pl hand key x).pl (iN0 pl hand key x).hand/\Fr (fun b=>b=bc\/b=bp\/b=bm) w w'
variable {w:World}{bc bm bp hand i:Nat}{pl:List Pl}
theorem sy0 (h:AtP w bc bp bm pl hand)(key:Int)(x:Pg)(hf:find pl key=some i) :
  Calls Tryz.prog 111 #[.pointer (some ⟨bc,0,none⟩),.int .i64 key,x.val] w (jW0 pl hand bc bp bm key x w):=by
 obtain⟨st,la,ll,lc,di⟩:=x;have hlt:=ez0 h;obtain⟨w2,hw2⟩:=eX ((w.alloc (.cells #[.int .i64 st,.slice la ll lc,.bool di] 162)).alloc (.cells #[.int .i64 0,.slice none 0 0,.bool false] 162))
 obtain⟨b0,b1,F2⟩:=ai0 hw2;have hA:=h.fr F2 id id id;obtain⟨p,hp,hful,hkey⟩:=aH0 hf;have k1:=hA.k1 hp;have k2:=hA.k2 hp;have k3:=hA.k3 hp;have k5:=hA.k5 hp;have zp:=hA.zp;obtain⟨d0,d1,d2,dz,dl⟩:=cells3 b0;obtain⟨c0,c1,c2,cz,cl⟩:=cells3 b1;have g1:=hA.set hp 1 oM (.int .i64 st) ⟨p.key,{ p.v with stamp:=st },p.full,p.marked⟩ rfl rfl rfl trivial;have at_:∀ r:Pl,(pl.set i r)[i]?=some r:=fun r=>by rw[bI0 hp,if_pos rfl]
 have g2:=g1.set (at_ _) 2 oM (.slice la ll lc) ⟨p.key,⟨st,la,ll,lc,p.v.dirty⟩,p.full,p.marked⟩ rfl rfl rfl trivial;rw[List.set_set] at g2;have g3:=g2.set (at_ _) 3 oM (.bool di) ⟨p.key,⟨st,la,ll,lc,di⟩,p.full,p.marked⟩ rfl rfl rfl trivial;rw[List.set_set] at g3;have g5:=g3.set (at_ _) 5 oM (.bool true) ⟨p.key,⟨st,la,ll,lc,di⟩,p.full,true⟩ rfl rfl rfl trivial;rw[List.set_set,hful,hkey] at g5;have HE:Hid (iN0 pl hand key ⟨st,la,ll,lc,di⟩=⟨pl.set i ⟨key,⟨st,la,ll,lc,di⟩,true,true⟩,hand,none⟩):=hid (by simp[iN0,hf]);have G5:=hid g5;have FN:=hid (fh0 hA key);rw[hf] at FN;have HW:=hid hw2;have n1:w.heap.size≠bp:=oM
 have n2:w.heap.size+1≠bp:=oM
 clear hf hp hful hkey at_ g1 g2 g3 g5 hA h hw2 b0 b1;go_enter Tryz.func111,Tryz.ntmps111;go_wp2_with fail
 rw[HW.out];refine FN.out.mono ?_;rintro e w' ⟨rfl,rfl⟩;go_wp2
 go_region
 go_wp2
 refine bodyPost_ret (v:=.tuple #[.int .i64 0,Pg.zero.val,.bool false]) (by simp[results,go_sem,Pg.zero, *]) rfl ⟨by rw[HE.out];rfl,?_,?_⟩
 ·rw[HE.out];refine At.fr (S:=fun b=>b=w.heap.size+1) G5.out ?_ oM oM oM;exact (Fr.qt0 (S:=fun b=>b=w.heap.size+1) (b:=w.heap.size+1) (Fr.refl _ _) rfl _ _ _).drew
 ·refine Fr.drew (Fr.lT0 ?_ oM _ _ _);exact ((((F2.mono nE).setCell (a:=⟨bp,i*6+1,none⟩) (fun _=>.inr (.inl rfl)) _).setCell (a:=⟨bp,i*6+2,none⟩) (fun _=>.inr (.inl rfl)) _).setCell (a:=⟨bp,i*6+3,none⟩) (fun _=>.inr (.inl rfl)) _).setCell (a:=⟨bp,i*6+5,none⟩) (fun _=>.inr (.inl rfl)) _
theorem uS0 (h:AtP w bc bp bm pl hand)(key:Int)(x:Pg)(hf:find pl key=none)(he:empty pl=some i) :
  Calls Tryz.prog 111 #[.pointer (some ⟨bc,0,none⟩),.int .i64 key,x.val] w (jW0 pl hand bc bp bm key x w):=by
 obtain⟨st,la,ll,lc,di⟩:=x;have hlt:=ez0 h;have n123:=h.ne;obtain⟨w2,hw2⟩:=eX ((w.alloc (.cells #[.int .i64 st,.slice la ll lc,.bool di] 162)).alloc (.cells #[.int .i64 0,.slice none 0 0,.bool false] 162))
 obtain⟨b0,b1,F2⟩:=ai0 hw2;have hA:=h.fr F2 id id id;have hHE:iN0 pl hand key ⟨st,la,ll,lc,di⟩=⟨pl.set i ⟨key,⟨st,la,ll,lc,di⟩,true,true⟩,hand,none⟩:=by simp[iN0,hf,he]
 have HE:=hid hHE;have FN:=hid (fh0 hA key);rw[hf] at FN;have EM:=hid (nQ0 hA);rw[et0 he] at EM;have HA:=hid hA;have HF:=hid hf;have HO:=hid he;have HW:=hid hw2;have B01:=hi2 b0 b1;have hi:i<pl.length:=by
  rw[empty,lg9] at he;exact he.1
 clear hf he h hA hw2 b0 b1 hHE;go_enter Tryz.func111,Tryz.ntmps111;go_wp2_with fail
 rw[HW.out];refine FN.out.mono ?_;rintro e w' ⟨rfl,rfl⟩;go_wp2_with fail
 refine EM.out.mono ?_;rintro e w3 ⟨rfl,F3⟩;have hA3:=HA.out.fr F3 id id id;have l3:=F3.size;have l2:=loh B01.out.2;obtain⟨p,hp⟩:∃ p,pl[i]?=some p:=⟨_,gE hi⟩
 have f0:=hA3.c0;have f1:=hA3.c1;have k0:=hA3.k0 hp;have k1:=hA3.k1 hp;have k2:=hA3.k2 hp;have k3:=hA3.k3 hp;have k4:=hA3.k4 hp;have k5:=hA3.k5 hp;have zp:=hA3.zp;have hr:=hA3.room;obtain⟨d0,d1,d2,dz,dl⟩:=cells3 (F3.heap B01.out.1 id);obtain⟨c0,c1,c2,cz,cl⟩:=cells3 (F3.heap B01.out.2 id);obtain⟨l,ck,hm,hR⟩:=hA3.m;have HA3:=hid hA3;have HP:=hid hp;have HR:=hid hR;clear hA3 hp hR;go_wp2
 go_region
 obtain⟨w4,hw4⟩:=eX (((((((w3.setCell ⟨bp,i*6,none⟩ (.int .i64 key)).setCell ⟨bp,i*6+1,none⟩ (.int .i64 st)).setCell ⟨bp,i*6+2,none⟩ (.slice la ll lc)).setCell ⟨bp,i*6+3,none⟩ (.bool di)).setCell ⟨bp,i*6+4,none⟩ (.bool true)).setCell ⟨bp,i*6+5,none⟩ (.bool true)).drew)
 have F34:Fr (fun b=>b=bp) w3 w4:=by
  rw[<- hw4];exact (((((((Fr.refl (fun b=>b=bp) _).setCell (a:=⟨bp,i*6,none⟩) (fun _=>rfl) _).setCell (a:=⟨bp,i*6+1,none⟩) (fun _=>rfl) _).setCell (a:=⟨bp,i*6+2,none⟩) (fun _=>rfl) _).setCell (a:=⟨bp,i*6+3,none⟩) (fun _=>rfl) _).setCell (a:=⟨bp,i*6+4,none⟩) (fun _=>rfl) _).setCell (a:=⟨bp,i*6+5,none⟩) (fun _=>rfl) _).drew
 have hp4:w4.heap[bp]?=some (.cells (cellsOf (pl.set i ⟨key,⟨st,la,ll,lc,di⟩,true,true⟩)) 264):=by
  have:=fe0 HA3.out.p HP.out ⟨key,⟨st,la,ll,lc,di⟩,true,true⟩;rw[<- hw4,heap_drew];exact this
 rw[hw4];have hm4:=F34.heap hm (fun e=>n123.2.2 e.symm);have hc4:=F34.heap HA3.out.c n123.1;have hb04:=F34.heap (F3.heap B01.out.1 id) oM;have hb14:=F34.heap (F3.heap B01.out.2 id) oM;clear f0 f1 k0 k1 k2 k3 k4 k5 zp d0 d1 d2 dz dl c0 c1 c2 cz cl hw4 hm;obtain⟨f0,f1,f2,fz,fl⟩:=cells3 hc4;obtain⟨c0,c1,c2,cz,cl⟩:=cells3 hb14;have hup:=fun (W:World) (hW:W.heap[bm]?=some (.map (ents l) ck))=>bg0 (P:=Tryz.prog) (T:=258) Tryz.underlying258 Tryz.underlying3 hW key (.int .i64 i)
 have HP4:=hid hp4;have HC4:=hid hc4;have n1:bm≠w.heap.size+1:=oM
 have n2:w.heap.size+1≠bm:=oM
 clear hp4 hc4 hb04 hb14;go_wp2
 obtain⟨w5,hw5⟩:=eX (w4.putObj bm (.map (ents (put l key (.int .i64 i) ck)) (bump l key ck)))
 have F45:Fr (fun b=>b=bm) w4 w5:=by rw[<- hw5];exact (Fr.refl (fun b=>b=bm) _).putObj (fun _=>rfl) _
 have hm5:w5.heap[bm]?=some (.map (ents (put l key (.int .i64 i) ck)) (bump l key ck)):=by rw[<- hw5];exact aR0 _ _ _ (loh hm4)
 rw[hw5];have e0:=(F45.cell (p:=⟨w.heap.size+1,0,none⟩) cl n2).trans c0;have e1:=(F45.cell (p:=⟨w.heap.size+1,1,none⟩) cl n2).trans c1;have e2:=(F45.cell (p:=⟨w.heap.size+1,2,none⟩) cl n2).trans c2;have ez:∀ o,w5.frozen? ⟨w.heap.size+1,o,none⟩=false:=fun o=>(World.frozen?_of_block (F45.block _ cl n2)).trans (cz o)
 have HM5:=hid hm5;have HF45:=hid F45;clear hw5 c0 c1 c2 cz f0 f1 f2 fz hup hm5 F45 hm4;go_region
 go_wp2
 obtain⟨hnd,hl,hn⟩:=HR.out;have hlk:Sg.look l key=none:=by rw[hl,HF.out];rfl
 have hpf:p.full=false:=by
  have:=HO.out;rw[empty,lg9] at this;obtain⟨hi',h1,_⟩:=this;have e:=HP.out;rw[gE hi'] at e;cases e;simpa using h1
 have hAp:AtP w5 bc bp bm (pl.set i ⟨key,⟨st,la,ll,lc,di⟩,true,true⟩) hand:=by
  refine HA3.out.place HP.out _ (fun _=>.inr HF.out) trivial HA3.out.hand ?_ ?_ HM5.out (dV0 hnd _ _ _) (fun k=>?_) ?_
  ·exact HF45.out.heap HC4.out n123.2.1
  ·exact HF45.out.heap HP4.out n123.2.2
  ·rw[gn0,hl];simp[hpf]
  ·rw[jo0,hlk,hn,hpf];simp
 refine bodyPost_ret (v:=.tuple #[.int .i64 0,Pg.zero.val,.bool false]) (by simp[results,go_sem,Pg.zero, *]) rfl ⟨by rw[HE.out];rfl,?_,?_⟩
 ·rw[HE.out];refine hAp.fr (S:=fun b=>b=w.heap.size+1) ?_ oM oM oM;exact (Fr.qt0 (S:=fun b=>b=w.heap.size+1) (b:=w.heap.size+1) (Fr.refl _ _) rfl _ _ _).drew
 ·refine Fr.drew (Fr.lT0 ?_ oM _ _ _);exact (((F2.mono (S':=fun b=>b=bc\/b=bp\/b=bm) nE).trans F3 nE).trans F34 (fun _ _ h=>.inr (.inl h))).trans HF45.out (fun _ _ h=>.inr (.inr h))
end CP
namespace CP
open Go.RowKit Go.Sg Go.Sg.Clk Go.Shelf
variable {w:World}{bc bm bp hand:Nat}{pl:List Pl}
theorem uR0 (h:AtP w bc bp bm pl hand)(key:Int)(x:Pg)(hf:find pl key=none)(he:empty pl=none) :
  Calls Tryz.prog 111 #[.pointer (some ⟨bc,0,none⟩),.int .i64 key,x.val] w (jW0 pl hand bc bp bm key x w):=by
 obtain⟨st,la,ll,lc,di⟩:=x;have hlt:=ez0 h;have n123:=h.ne;obtain⟨w2,hw2⟩:=eX ((w.alloc (.cells #[.int .i64 st,.slice la ll lc,.bool di] 162)).alloc (.cells #[.int .i64 0,.slice none 0 0,.bool false] 162))
 obtain⟨b0,b1,F2⟩:=ai0 hw2;have hA:=h.fr F2 id id id;have FN:=hid (fh0 hA key);rw[hf] at FN;have EM:=hid (nQ0 hA);rw[gD0 he] at EM;have HA:=hid hA;have HF:=hid hf;have HO:=hid he;have HH:=hid h;have HW:=hid hw2;have B01:=hi2 b0 b1;clear hf he h hA hw2 b0 b1;go_enter Tryz.func111,Tryz.ntmps111;go_wp2_with fail
 rw[HW.out];refine FN.out.mono ?_;rintro e w' ⟨rfl,rfl⟩;go_wp2_with fail
 refine EM.out.mono ?_;rintro e w3 ⟨rfl,F3⟩;have hA3:=hid (HA.out.fr F3 id id id);go_wp2_with fail
 refine (sD0 hA3.out).mono ?_;rintro e w4 ⟨rfl,hA4,F4⟩;obtain⟨i,hi⟩:=eX ((spin pl.length pl hand).2)
 obtain⟨pl2,hpl2⟩:=eX ((spin pl.length pl hand).1)
 have hlen2:pl2.length=pl.length:=by rw[<- hpl2];exact kb0 _ _ _
 have hil:i<pl2.length:=by rw[hlen2,<- hi];exact np0 _ _ _ HH.out.hand
 have hf2:find pl2 key=none:=by rw[<- hpl2,iU0];exact HF.out
 have he2:empty pl2=none:=by rw[<- hpl2,fQ0];exact HO.out
 obtain⟨p,hp⟩:∃ p,pl2[i]?=some p:=⟨_,gE hil⟩
 have hpf:=dx0 he2 hp;have hM:iN0 pl hand key ⟨st,la,ll,lc,di⟩=⟨pl2.set i ⟨key,⟨st,la,ll,lc,di⟩,true,true⟩,(i+1) % pl.length,some p⟩:=by rw[ig0 HF.out HO.out,hpl2,hi,hp]
 rw[hpl2,hi] at hA4;rw[hi];have f0:=hA4.c0;have f1:=hA4.c1;have k0:=hA4.k0 hp;have k1:=hA4.k1 hp;have k2:=hA4.k2 hp;have k3:=hA4.k3 hp;have l2:=loh B01.out.2;have l3:=F3.size;have l4:=F4.size;obtain⟨d0,d1,d2,dz,dl⟩:=cells3 (F4.heap (F3.heap B01.out.1 id) oM);have hr1:=F4.heap (F3.heap B01.out.2 id) oM;obtain⟨c0,c1,c2,cz,cl⟩:=cells3 hr1;obtain⟨l,ck,hm,hR⟩:=hA4.m;have hr2:=hA4.room;have HR:=hid hR;have HA4:=hid hA4;have HM:=hid hM;have HP:=hid hp;have HU:=hid hpf;have HF2:=hid hf2;have HL:=hid hlen2;have HR1:=hid hr1;have Hm:=hid hm;clear hR hA4 hM hp hpf hi hpl2 hf2 he2 hlen2 hr1 hm;go_wp2
 go_region
 obtain⟨w5,hw5⟩:=eX ((((w4.setCell ⟨w.heap.size+1,0,none⟩ (.int .i64 p.v.stamp)).setCell ⟨w.heap.size+1,1,none⟩ (.slice p.v.la p.v.ll p.v.lc)).setCell ⟨w.heap.size+1,2,none⟩ (.bool p.v.dirty)).drew)
 have F45:Fr (fun b=>b=w.heap.size+1) w4 w5:=by
  rw[<- hw5];exact (Fr.qt0 (S:=fun b=>b=w.heap.size+1) (b:=w.heap.size+1) (Fr.refl _ _) rfl _ _ _).drew
 have hr5:w5.heap[w.heap.size+1]?=some (.cells #[.int .i64 p.v.stamp,.slice p.v.la p.v.ll p.v.lc,.bool p.v.dirty] 162):=by
  rw[<- hw5,heap_drew,hsc _ _ _ _ (hsc _ _ _ _ (hsc _ _ _ _ HR1.out))];simp
 rw[hw5];have hA5:=HA4.out.fr F45 oM oM oM;have hm5:=F45.heap Hm.out oM;have hb05:=F45.heap (F4.heap (F3.heap B01.out.1 id) oM) oM;clear f0 f1 k0 k1 k2 k3 d0 d1 d2 dz dl c0 c1 c2 cz cl hw5;have f0:=hA5.c0;have f1:=hA5.c1;have hdel:=fun (W:World) (hW:W.heap[bm]?=some (.map (ents l) ck)) (t':TypeId)=>jg0 (P:=Tryz.prog) (T:=258) Tryz.underlying258 Tryz.underlying3 hW p.key t' #[258,3] rfl
 have HN:=hid hdel;have HA5:=hid hA5;have HR5:=hid hr5;have HB5:=hid hb05;have Hm5:=hid hm5;have HF45:=hid F45;have l5:=F45.size;clear hdel hA5 hr5 hb05 hm5 F45;go_wp2
 rw[HN.out w5 Hm5.out 0];obtain⟨w6,hw6⟩:=eX (w5.putObj bm (.map (ents (del l p.key)) ck))
 have F56:Fr (fun b=>b=bm) w5 w6:=by rw[<- hw6];exact (Fr.refl (fun b=>b=bm) _).putObj (fun _=>rfl) _
 have hm6:w6.heap[bm]?=some (.map (ents (del l p.key)) ck):=by rw[<- hw6];exact aR0 _ _ _ (loh Hm5.out)
 have hc6:=F56.heap HA5.out.c n123.2.1;have hp6:=F56.heap HA5.out.p n123.2.2;have hr6:=F56.heap HR5.out oM;have hb6:=F56.heap HB5.out oM;rw[hw6];clear f0 f1 hw6;obtain⟨f0,f1,f2,fz,fl⟩:=cells3 hc6;obtain⟨d0,d1,d2,dz,dl⟩:=cells3 hb6;have zp:∀ o,w6.frozen? ⟨bp,o,none⟩=false:=fun o=>foh hp6 o
 have j:∀ o,o<6->w6.cell? ⟨bp,i*6+o,none⟩=p.cells[o]?:=fun o ho=>by rw[coh hp6,bd0 HP.out o ho]
 have k0:w6.cell? ⟨bp,i*6,none⟩=some (.int .i64 p.key):=j 0 oM;have k1:w6.cell? ⟨bp,i*6+1,none⟩=some (.int .i64 p.v.stamp):=j 1 oM;have k2:w6.cell? ⟨bp,i*6+2,none⟩=some (.slice p.v.la p.v.ll p.v.lc):=j 2 oM;have k3:w6.cell? ⟨bp,i*6+3,none⟩=some (.bool p.v.dirty):=j 3 oM;have k4:w6.cell? ⟨bp,i*6+4,none⟩=some (.bool p.full):=j 4 oM;have k5:w6.cell? ⟨bp,i*6+5,none⟩=some (.bool p.marked):=j 5 oM;have Hm6:=hid hm6;have HC6:=hid hc6;have HP6:=hid hp6;have HR6:=hid hr6;have HF56:=hid F56;clear j hm6 hc6 hp6 hr6 hb6 F56;go_wp2
 go_region
 obtain⟨w7,hw7⟩:=eX (((((((w6.setCell ⟨bp,i*6,none⟩ (.int .i64 key)).setCell ⟨bp,i*6+1,none⟩ (.int .i64 st)).setCell ⟨bp,i*6+2,none⟩ (.slice la ll lc)).setCell ⟨bp,i*6+3,none⟩ (.bool di)).setCell ⟨bp,i*6+4,none⟩ (.bool true)).setCell ⟨bp,i*6+5,none⟩ (.bool true)).drew)
 have F67:Fr (fun b=>b=bp) w6 w7:=by
  rw[<- hw7];exact (((((((Fr.refl (fun b=>b=bp) _).setCell (a:=⟨bp,i*6,none⟩) (fun _=>rfl) _).setCell (a:=⟨bp,i*6+1,none⟩) (fun _=>rfl) _).setCell (a:=⟨bp,i*6+2,none⟩) (fun _=>rfl) _).setCell (a:=⟨bp,i*6+3,none⟩) (fun _=>rfl) _).setCell (a:=⟨bp,i*6+4,none⟩) (fun _=>rfl) _).setCell (a:=⟨bp,i*6+5,none⟩) (fun _=>rfl) _).drew
 have hp7:w7.heap[bp]?=some (.cells (cellsOf (pl2.set i ⟨key,⟨st,la,ll,lc,di⟩,true,true⟩)) 264):=by
  have:=fe0 HP6.out HP.out ⟨key,⟨st,la,ll,lc,di⟩,true,true⟩;rw[<- hw7,heap_drew];exact this
 rw[hw7];have hm7:=F67.heap Hm6.out (fun e=>n123.2.2 e.symm);have hc7:=F67.heap HC6.out n123.1;have hr7:=F67.heap HR6.out oM;clear f0 f1 f2 fz fl k0 k1 k2 k3 k4 k5 zp d0 d1 d2 dz dl hw7;obtain⟨f0,f1,f2,fz,fl⟩:=cells3 hc7;obtain⟨c0,c1,c2,cz,cl⟩:=cells3 hr7;have hup:=fun (W:World) (hW:W.heap[bm]?=some (.map (ents (del l p.key)) ck))=>bg0 (P:=Tryz.prog) (T:=258) Tryz.underlying258 Tryz.underlying3 hW key (.int .i64 i)
 have HP7:=hid hp7;have HC7:=hid hc7;have n2:w.heap.size+1≠bm:=oM
 have HF67:=hid F67;clear hp7 hc7 hr7 F67;go_wp2
 obtain⟨w8,hw8⟩:=eX (w7.putObj bm (.map (ents (put (del l p.key) key (.int .i64 i) ck)) (bump (del l p.key) key ck)))
 have F78:Fr (fun b=>b=bm) w7 w8:=by rw[<- hw8];exact (Fr.refl (fun b=>b=bm) _).putObj (fun _=>rfl) _
 have hm8:w8.heap[bm]?=some (.map (ents (put (del l p.key) key (.int .i64 i) ck)) (bump (del l p.key) key ck)):=by rw[<- hw8];exact aR0 _ _ _ (loh hm7)
 rw[hw8];have e0:=(F78.cell (p:=⟨w.heap.size+1,0,none⟩) cl n2).trans c0;have e1:=(F78.cell (p:=⟨w.heap.size+1,1,none⟩) cl n2).trans c1;have e2:=(F78.cell (p:=⟨w.heap.size+1,2,none⟩) cl n2).trans c2;have ez:∀ o,w8.frozen? ⟨w.heap.size+1,o,none⟩=false:=fun o=>(World.frozen?_of_block (F78.block _ cl n2)).trans (cz o)
 have HM8:=hid hm8;have HF78:=hid F78;clear hw8 c0 c1 c2 cz f0 f1 f2 fz hup hm8 F78 hm7;go_region
 go_wp2
 obtain⟨hnd,hl,hn⟩:=HR.out;have hfp:find pl2 p.key=some i:=(eT0 HA4.out.nd _ _).2 ⟨p,HP.out,HU.out,rfl⟩;have hlk:Sg.look (del l p.key) key=none:=by
  rw[kv0 hnd,hl,HF2.out];split <;> rfl
 have hlp:(Sg.look l p.key).isSome=true:=by rw[hl,hfp];rfl
 have hmod:=mD9 (i+1) (show 0<pl.length by have:=HL.out;omega);have hAp:AtP w8 bc bp bm (pl2.set i ⟨key,⟨st,la,ll,lc,di⟩,true,true⟩) ((i+1) % pl.length):=by
  refine HA4.out.place HP.out _ (fun _=>.inr HF2.out) trivial (by rw[HL.out];exact hmod) ?_ ?_ HM8.out (dV0 (lc0 hnd _) _ _ _) (fun k=>?_) ?_
  ·exact HF78.out.heap HC7.out n123.2.1
  ·exact HF78.out.heap HP7.out n123.2.2
  ·rw[gn0,kv0 hnd,hl];simp[HU.out]
  ·rw[jo0,hlk,jp0,hlp,hn,HU.out];simp
 have Fa:Fr (fun b=>b=bc\/b=bp\/b=bm) w w8:=
  ((((((F2.mono (S':=fun b=>b=bc\/b=bp\/b=bm) nE).trans F3 nE).trans F4 (fun _ _ h=>h.elim .inl (fun h=>.inr (.inl h)))).trans HF45.out (fun b hb h=>oM)).trans HF56.out (fun _ _ h=>.inr (.inr h))).trans HF67.out (fun _ _ h=>.inr (.inl h))).trans HF78.out (fun _ _ h=>.inr (.inr h))
 refine bodyPost_ret (v:=.tuple #[.int .i64 p.key,p.v.val,.bool true]) sR rfl ⟨by rw[HM.out];rfl,?_,?_⟩
 ·rw[HM.out];refine hAp.fr (S:=fun b=>b=w.heap.size+1) ?_ oM oM oM;exact (Fr.qt0 (S:=fun b=>b=w.heap.size+1) (b:=w.heap.size+1) (Fr.refl _ _) rfl _ _ _).drew
 ·exact Fr.drew (Fr.lT0 Fa oM _ _ _)
theorem vI0 (h:AtP w bc bp bm pl hand)(key:Int)(x:Pg) :
  Calls Tryz.prog 111 #[.pointer (some ⟨bc,0,none⟩),.int .i64 key,x.val] w (jW0 pl hand bc bp bm key x w):=by
 cases hf:find pl key with
 | some i=>exact sy0 h key x hf
 | none =>
  cases he:empty pl with
  | some i=>exact uS0 h key x hf he
  | none=>exact uR0 h key x hf he
end CP
namespace CP
open Go.RowKit Go.Sg Go.Sg.Clk Go.Shelf
def gG0 (pl:List Pl)(key:Int):List Pl:=match find pl key with
 | some i=>pl.set i (Pl.none Pg.zero)
 | none=>pl
def jY0 (pl:List Pl)(hand bc bp bm:Nat)(key:Int)(w:World)(e:Ending)(w':World):Prop:=
 e = .returned (.tuple #[(dc0 pl key).val,.bool (find pl key).isSome])/\AtP w' bc bp bm (gG0 pl key) hand/\Fr (fun b=>b=bp\/b=bm) w w'
variable {w:World}{bc bm bp hand:Nat}{pl:List Pl}
theorem qL0 (h:AtP w bc bp bm pl hand)(key:Int)(hf:find pl key=none) :
  Calls Tryz.prog 108 #[.pointer (some ⟨bc,0,none⟩),.int .i64 key] w (jY0 pl hand bc bp bm key w):=by
 have hlt:=ez0 h;obtain⟨w1,hw1⟩:=eX (w.alloc (.cells #[.int .i64 0,.slice none 0 0,.bool false] 162))
 have b1:w1.heap[w.heap.size]?=some (.cells #[.int .i64 0,.slice none 0 0,.bool false] 162):=by rw[<- hw1];exact han _ _
 have F1:Fq w w1:=by rw[<- hw1];exact (Fr.refl _ _).alloc _
 have hA1:=hid (h.fr F1 id id id);have e1:gG0 pl key=pl:=by simp[gG0,hf]
 have e2:dc0 pl key=Pg.zero:=by simp[dc0,hf]
 have HF:=hid hf;have E:=hi2 e1 e2;have HW:=hid hw1;have B1:=hid b1;clear h hf e1 e2 hw1 b1;go_enter Tryz.func108,Tryz.ntmps108;go_wp2_with fail
 rw[HW.out];refine (iw0 hA1.out key).mono ?_;rintro e w2 ⟨rfl,F2⟩;rw[HF.out,E.out.2];obtain⟨c0,c1,c2,z,l⟩:=cells3 (F2.heap B1.out id);simp only[Pg.val,Pg.zero];go_wp2
 refine bodyPost_ret (v:=.tuple #[Pg.zero.val,.bool false]) (by simp[results,go_sem,Pg.zero, *]) rfl ⟨by rw[HF.out,E.out.2];rfl,?_,?_⟩
 ·rw[E.out.1];refine (hA1.out.fr F2 id id id).fr (S:=fun b=>b=w.heap.size) ?_ oM oM oM;exact (Fr.qt0 (S:=fun b=>b=w.heap.size) (b:=w.heap.size) (Fr.refl _ _) rfl _ _ _).alloc _
 ·exact (Fr.lT0 ((F1.trans F2 nI).mono nE) (nR _) _ _ _).alloc _
theorem qK0 (h:AtP w bc bp bm pl hand)(key:Int){i:Nat}(hf:find pl key=some i) :
  Calls Tryz.prog 108 #[.pointer (some ⟨bc,0,none⟩),.int .i64 key] w (jY0 pl hand bc bp bm key w):=by
 have hlt:=ez0 h;have n123:=h.ne;obtain⟨w1,hw1⟩:=eX (w.alloc (.cells #[.int .i64 0,.slice none 0 0,.bool false] 162))
 have b1:w1.heap[w.heap.size]?=some (.cells #[.int .i64 0,.slice none 0 0,.bool false] 162):=by rw[<- hw1];exact han _ _
 have F1:Fq w w1:=by rw[<- hw1];exact (Fr.refl _ _).alloc _
 have hA1:=hid (h.fr F1 id id id);obtain⟨p,hp,hful,hkey⟩:=aH0 hf;have hi:i<pl.length:=(gI.1 hp).1;have e1:gG0 pl key=pl.set i (Pl.none Pg.zero):=by simp[gG0,hf]
 have e2:dc0 pl key=p.v:=by simp[dc0,hf,hp]
 have HF:=hid hf;have E:=hi2 e1 e2;have HW:=hid hw1;have B1:=hid b1;have HP:=hid hp;have HU:=hi2 hful hkey;have l1:=loh b1;clear h hf e1 e2 hw1 b1 hp hful hkey;go_enter Tryz.func108,Tryz.ntmps108;go_wp2_with fail
 rw[HW.out];refine (iw0 hA1.out key).mono ?_;rintro e w2 ⟨rfl,F2⟩;rw[HF.out,E.out.2];have hA2:=hA1.out.fr F2 id id id;have hb2:=F2.heap B1.out id;obtain⟨w3,hw3⟩:=eX (w2.alloc (.cells #[.int .i64 p.v.stamp,.slice p.v.la p.v.ll p.v.lc,.bool p.v.dirty] 162))
 have F3:Fq w2 w3:=by rw[<- hw3];exact (Fr.refl _ _).alloc _
 have hv3:w3.heap[w2.heap.size]?=some (.cells #[.int .i64 p.v.stamp,.slice p.v.la p.v.ll p.v.lc,.bool p.v.dirty] 162):=by rw[<- hw3];exact han _ _
 have hA3:=hA2.fr F3 id id id;have hb3:=F3.heap hb2 id;have f0:=hA3.c0;have f1:=hA3.c1;have k0:=hA3.k0 HP.out;have k1:=hA3.k1 HP.out;have k2:=hA3.k2 HP.out;have k3:=hA3.k3 HP.out;have k4:=hA3.k4 HP.out;have k5:=hA3.k5 HP.out;have zp:=hA3.zp;have hr:=hA3.room;have l2:=F2.size;obtain⟨l,ck,hm,hR⟩:=hA3.m;have hlk:Sg.look l key=some (.int .i64 i):=by rw[hR.2.1,HF.out];rfl
 have hl2:=fun (W:World) (hW:W.heap[bm]?=some (.map (ents l) ck))=>bF0 (P:=Tryz.prog) (T:=258) false Tryz.underlying258 Tryz.underlying3 Tryz.zero3 hW key
 have hdel:=fun (W:World) (hW:W.heap[bm]?=some (.map (ents l) ck))=>jg0 (P:=Tryz.prog) (T:=258) Tryz.underlying258 Tryz.underlying3 hW key 0 #[258,3] rfl
 rw[hlk] at hl2;simp only[nr9,lI9,if_false] at hl2;have HW3:=hid hw3;have HA3:=hid hA3;have HR:=hid hR;have HK:=hid hlk;have HV3:=hid hv3;have HB3:=hid hb3;have Hm:=hid hm;have F13:=hid (F2.trans F3 nI);clear hw3 hA3 hR hlk hv3 hb3 hA2 hb2 F3;simp only[Pg.val];go_wp2
 rw[HW3.out];go_region
 obtain⟨w4,hw4⟩:=eX (((((((w3.setCell ⟨bp,i*6,none⟩ (.int .i64 0)).setCell ⟨bp,i*6+1,none⟩ (.int .i64 0)).setCell ⟨bp,i*6+2,none⟩ (.slice none 0 0)).setCell ⟨bp,i*6+3,none⟩ (.bool false)).setCell ⟨bp,i*6+4,none⟩ (.bool false)).setCell ⟨bp,i*6+5,none⟩ (.bool false)).drew)
 have F34:Fr (fun b=>b=bp) w3 w4:=by
  rw[<- hw4];exact (((((((Fr.refl (fun b=>b=bp) _).setCell (a:=⟨bp,i*6,none⟩) (fun _=>rfl) _).setCell (a:=⟨bp,i*6+1,none⟩) (fun _=>rfl) _).setCell (a:=⟨bp,i*6+2,none⟩) (fun _=>rfl) _).setCell (a:=⟨bp,i*6+3,none⟩) (fun _=>rfl) _).setCell (a:=⟨bp,i*6+4,none⟩) (fun _=>rfl) _).setCell (a:=⟨bp,i*6+5,none⟩) (fun _=>rfl) _).drew
 have hp4:w4.heap[bp]?=some (.cells (cellsOf (pl.set i (Pl.none Pg.zero))) 264):=by
  have:=fe0 HA3.out.p HP.out (Pl.none Pg.zero);rw[<- hw4,heap_drew];exact this
 rw[hw4];have hm4:=F34.heap Hm.out (fun e=>n123.2.2 e.symm);have hc4:=F34.heap HA3.out.c n123.1;have hb4:=F34.heap HB3.out oM;have hv4:=F34.heap HV3.out oM;clear f0 f1 k0 k1 k2 k3 k4 k5 zp hl2 hw4 hm;obtain⟨f0,f1,f2,fz,fl⟩:=cells3 hc4;obtain⟨c0,c1,c2,cz,cl⟩:=cells3 hb4;obtain⟨v0,v1,v2,vz,vl⟩:=cells3 hv4;have m1:bm≠w.heap.size:=oM
 have m2:bm≠w2.heap.size:=oM
 have m3:w.heap.size≠bm:=oM
 have m4:w2.heap.size≠bm:=oM
 have HP4:=hid hp4;have HC4:=hid hc4;have HF34:=hid F34;clear hp4 hc4 hb4 hv4 F34;go_wp2
 obtain⟨w5,hw5⟩:=eX (w4.putObj bm (.map (ents (del l key)) ck))
 have F45:Fr (fun b=>b=bm) w4 w5:=by rw[<- hw5];exact (Fr.refl (fun b=>b=bm) _).putObj (fun _=>rfl) _
 have hm5:w5.heap[bm]?=some (.map (ents (del l key)) ck):=by rw[<- hw5];exact aR0 _ _ _ (loh hm4)
 have g0:=(F45.cell (p:=⟨w.heap.size,0,none⟩) cl m3).trans c0;have g1:=(F45.cell (p:=⟨w.heap.size,1,none⟩) cl m3).trans c1;have g2:=(F45.cell (p:=⟨w.heap.size,2,none⟩) cl m3).trans c2;rw[hw5];obtain⟨hnd,hl,hn⟩:=HR.out;obtain⟨hu,hk⟩:=HU.out;have hAp:AtP w5 bc bp bm (pl.set i (Pl.none Pg.zero)) hand:=by
  refine HA3.out.place HP.out _ (fun h=>by cases h) trivial HA3.out.hand ?_ ?_ hm5 (lc0 hnd _) (fun k=>?_) ?_
  ·exact F45.heap HC4.out n123.2.1
  ·exact F45.heap HP4.out n123.2.2
  ·rw[kv0 hnd,hl,hu,hk];simp[Pl.none]
  ·rw[jp0,HK.out,hn,hu];simp[Pl.none]
 refine bodyPost_ret (v:=.tuple #[p.v.val,.bool true]) sR rfl ⟨by rw[HF.out,E.out.2];rfl,?_,?_⟩
 ·rw[E.out.1];refine hAp.fr (S:=fun b=>b=w.heap.size) ?_ oM oM oM;exact Fr.qt0 (S:=fun b=>b=w.heap.size) (b:=w.heap.size) (Fr.refl _ _) rfl _ _ _
 ·exact Fr.lT0 ((((F1.mono (S':=fun b=>b=bp\/b=bm) nE).trans F13.out nE).trans HF34.out (fun _ _ h=>.inl h)).trans F45 (fun _ _ h=>.inr h)) (nR _) _ _ _
theorem drop_at (h:AtP w bc bp bm pl hand)(key:Int) :
  Calls Tryz.prog 108 #[.pointer (some ⟨bc,0,none⟩),.int .i64 key] w (jY0 pl hand bc bp bm key w):=by
 cases hf:find pl key with
 | some i=>exact qK0 h key hf
 | none=>exact qL0 h key hf
end CP
end Go.Proofs.YtgdhaaokolfdoaaGreatDoor
namespace Go.Sg.Clk
open Go.RowKit
def bj0 (pl:List Pl)(k:Int):Option Pg:=(find pl k).bind fun i=>(pl[i]?).map (·.v)
variable {pl:List Pl}{i:Nat}
theorem db0 (hn:Nd pl)(k:Int)(v:Pg):bj0 pl k=some v↔∃ (i:Nat) (p:Pl),pl[i]?=some p/\p.full=true/\p.key=k/\p.v=v:=by
 constructor
 ·intro h;rw[bj0,Option.bind_eq_some_iff] at h;obtain⟨i,hi,hv⟩:=h;obtain⟨p,hp,hf,hk⟩:=aH0 hi;rw[hp] at hv;exact⟨i,p,hp,hf,hk,by simpa using hv⟩
 ·rintro⟨i,p,hp,hf,hk,rfl⟩;rw[bj0,(eT0 hn k i).2 ⟨p,hp,hf,hk⟩];simp[hp]
theorem da0 (k:Int):(bj0 pl k).isSome=(find pl k).isSome:=by
 rw[bj0];cases h:find pl k with
 | none=>rfl
 | some i =>
  obtain⟨p,hp,_⟩:=aH0 h;simp[hp]
variable {p:Pl}
theorem dZ0 (hn:Nd pl)(hp:pl[i]?=some p)(q:Pl)(h:q.full=true->(p.full=true/\q.key=p.key)\/find pl q.key=none)(k:Int) :
  bj0 (pl.set i q) k=if q.full=true/\q.key=k then some q.v else if p.full=true/\p.key=k then none else bj0 pl k:=by
 rw[bj0,cX0 hn hp q h];split
 ·simp[bI0 hp]
 ·split
  ·rfl
  ·rename_i h1 h2;rw[bj0];cases hf:find pl k with
   | none=>rfl
   | some j =>
    obtain⟨x,hx,hxf,hxk⟩:=aH0 hf;have:¬ i=j:=by
     rintro rfl;rw[hp] at hx;cases hx;exact h2 ⟨hxf,hxk⟩
    simp only[mK9];rw[bI0 hp,if_neg this]
theorem fJ0 (pl:List Pl)(k:Int):bj0 pl k=bj0 (pl.map Pl.cS0) k:=by
 rw[bj0,bj0,<- eq0];congr 1
 funext i
 rw[gP];cases pl[i]? <;> rfl
theorem pb0 (f:Nat)(pl:List Pl)(h:Nat)(k:Int):bj0 (spin f pl h).1 k=bj0 pl k:=by
 rw[fJ0,cH0,<- fJ0]
theorem rW0 {a b:List Pl}(h:a.map Pl.cS0=b.map Pl.cS0)(hn:Nd b):Nd a:=by
 intro i j x y hx hy hxf hyf hk;have ga:∀ n:Nat,(a[n]?).map Pl.cS0=(b[n]?).map Pl.cS0:=fun n=>by rw[<- gP,<- gP,h]
 have gx:=ga i;have gy:=ga j;rw[hx] at gx;rw[hy] at gy;cases hxa:b[i]? with
 | none=>rw[hxa] at gx;cases gx
 | some x' =>
  cases hyb:b[j]? with
  | none=>rw[hyb] at gy;cases gy
  | some y' =>
   rw[hxa] at gx;rw[hyb] at gy;simp only[mC9,Option.some.injEq,Pl.cS0,Pl.mk.injEq] at gx gy;exact hn i j x' y' hxa hyb (by rw[<- gx.2.2.1,hxf]) (by rw[<- gy.2.2.1,hyf]) (by rw[<- gx.1,<- gy.1,hk])
structure Bs0 (pl:List Pl)(key:Int)(v:Pg)(M:Put):Prop where
 at_:(M.gone=none/\∀ k,bj0 M.pl k=if k=key then some v else bj0 pl k) \/
  (∃ g,M.gone=some g/\g.key≠key/\bj0 pl g.key=some g.v/\bj0 pl key=none/\pl.countP (·.full)=pl.length/\∀ k,bj0 M.pl k=if k=key then some v else if k=g.key then none else bj0 pl k)
theorem it0 {hand:Nat}(hn:Nd pl)(hh:hand<pl.length)(key:Int)(v:Pg):Bs0 pl key v (iN0 pl hand key v):=by
 constructor;cases hf:find pl key with
 | some i =>
  obtain⟨p,hp,hfu,hk⟩:=aH0 hf;have e:iN0 pl hand key v=⟨pl.set i ⟨key,v,true,true⟩,hand,none⟩:=by simp[iN0,hf]
  have hq:(⟨key,v,true,true⟩:Pl).full=true->(p.full=true/\(⟨key,v,true,true⟩:Pl).key=p.key)\/find pl (⟨key,v,true,true⟩:Pl).key=none:=fun _=>.inl ⟨hfu,hk.symm⟩
  refine .inl ⟨by rw[e],fun k=>?_⟩;rw[e];simp only;rw[dZ0 hn hp _ hq];by_cases hkk:k=key
  ·subst hkk;simp
  ·have h1:¬ key=k:=fun x=>hkk x.symm
   have h2:¬ p.key=k:=by rw[hk];exact h1
   simp[h1,h2,hkk]
 | none =>
  cases he:empty pl with
  | some i =>
   obtain⟨p,hp,hfu⟩:∃ p,pl[i]?=some p/\p.full=false:=by
    rw[empty,lg9] at he;obtain⟨hi,h1,_⟩:=he;exact⟨pl[i],by simp,by simpa using h1⟩
   have e:iN0 pl hand key v=⟨pl.set i ⟨key,v,true,true⟩,hand,none⟩:=by simp[iN0,hf,he]
   have hq:(⟨key,v,true,true⟩:Pl).full=true->(p.full=true/\(⟨key,v,true,true⟩:Pl).key=p.key)\/find pl (⟨key,v,true,true⟩:Pl).key=none:=fun _=>.inr hf
   refine .inl ⟨by rw[e],fun k=>?_⟩;rw[e];simp only;rw[dZ0 hn hp _ hq];by_cases hkk:k=key
   ·subst hkk;simp
   ·have h1:¬ key=k:=fun x=>hkk x.symm
    simp[h1,hfu,hkk]
  | none =>
   have e:=ig0 (hand:=hand) (v:=v) hf he;have hl:=kb0 pl.length pl hand;have hi:=np0 pl.length pl hand hh;have hf2:=iU0 pl.length pl hand key;have he2:=fQ0 pl.length pl hand;rw[hf] at hf2;rw[he] at he2;have hn2:Nd (spin pl.length pl hand).1:=rW0 (cH0 _ _ _) hn;have hm2:=pb0 pl.length pl hand;generalize spin pl.length pl hand=s at *
   obtain⟨p,hp⟩:∃ p,s.1[s.2]?=some p:=⟨_,gE oM⟩
   have hfu:=dx0 he2 hp;have hq:(⟨key,v,true,true⟩:Pl).full=true->(p.full=true/\(⟨key,v,true,true⟩:Pl).key=p.key)\/find s.1 (⟨key,v,true,true⟩:Pl).key=none:=fun _=>.inr hf2
   have hne:=de0 hf2 hp hfu;refine .inr ⟨p,by rw[e];exact hp,hne,?_,?_,dM0 he,fun k=>?_⟩
   ·rw[<- hm2,db0 hn2];exact⟨s.2,p,hp,hfu,rfl,rfl⟩
   ·rw[bj0,hf];rfl
   ·rw[e];simp only;rw[dZ0 hn2 hp _ hq,hm2];by_cases hkk:k=key
    ·subst hkk;simp
    ·have h1:¬ key=k:=fun x=>hkk x.symm
     by_cases hg:k=p.key
     ·subst hg;simp[h1,hfu,hkk]
     ·have h2:¬ p.key=k:=fun x=>hg x.symm
      simp[h1,h2,hkk,hg]
theorem gM0 (hn:Nd pl)(L:List Int)(h:∀ k,(bj0 pl k).isSome=true->k ∈ L):pl.countP (·.full)<=L.length:=by
 rw[List.countP_eq_length_filter];have h1:((pl.filter (·.full)).map (·.key)).Nodup:=by
  rw[List.Nodup,mE9];have:(pl.filter (·.full)).Pairwise (fun a b=>a.key≠b.key):=by
   rw[List.pairwise_filter];rw[lO9];intro i j hi hj hij hfi hfj hk;have:=hn i j pl[i] pl[j] (gE hi) (gE hj) hfi hfj hk;omega
  exact this
 have h2:=List.Nodup.length_le_of_subset h1 (l₂:=L) (by
  intro k hk;obtain⟨p,hp,rfl⟩:=ld9.1 hk;rw[mb9] at hp;obtain⟨hp,hf⟩:=hp;obtain⟨i,hi,rfl⟩:=mW9 hp;refine h _ ?_;rw[(db0 hn _ _).2 ⟨i,pl[i],gE hi,hf,rfl,rfl⟩];rfl)
 simpa using h2
def tn0 (m:Int->Option Pg)(k:Int)(v:Option Pg):Int->Option Pg:=fun j=>if j=k then v else m j
theorem pd0 (hn:Nd pl){key:Int}(hf:find pl key=some i)(z:Pg)(k:Int):bj0 (pl.set i (Pl.none z)) k=tn0 (bj0 pl) key none k:=by
 obtain⟨p,hp,hfu,hk⟩:=aH0 hf;rw[dZ0 hn hp _ (fun a=>by cases a),tn0];by_cases hkk:k=key
 ·subst hkk;simp[Pl.none,hfu,hk]
 ·have h1:¬ p.key=k:=by rw[hk];exact fun x=>hkk x.symm
  simp[Pl.none,h1,hkk]
theorem pc0 (hn:Nd pl)(hp:pl[i]?=some p)(b:Bool)(k:Int):bj0 (pl.set i { p with marked:=b }) k=bj0 pl k:=by
 rw[dZ0 hn hp { p with marked:=b } (fun a=>.inl ⟨a,rfl⟩)];by_cases h:p.full=true/\p.key=k
 ·rw[if_pos h,(db0 hn _ _).2 ⟨i,p,hp,h.1,h.2,rfl⟩]
 ·rw[if_neg h,if_neg h]
theorem iu0 (n:Nat)(z:Pg)(k:Int):bj0 (List.replicate n (Pl.none z)) k=none:=by
 have:find (List.replicate n (Pl.none z)) k=none:=by
  rw[find,lE9];intro p hp;rw[mh9 hp];rfl
 rw[bj0,this];rfl
end Go.Sg.Clk
namespace Go.Proofs.YtgdhaaokolfdoaaGreatDoor
namespace CP
open Go.RowKit Go.Sg Go.Sg.Clk
structure bL0 (w:World)(bc bp bm n:Nat)(m:Int->Option Pg):Prop where
 ex:∃ pl hand,AtP w bc bp bm pl hand/\pl.length=n/\∀ k,bj0 pl k=m k
variable {w:World}{bc bm bp n:Nat}{m:Int->Option Pg}
theorem bL0.fr {S:Nat->Prop}{w':World}(h:bL0 w bc bp bm n m)(F:Fr S w w')(h1:¬ S bc)(h2:¬ S bp)(h3:¬ S bm):bL0 w' bc bp bm n m:=by
 obtain⟨pl,hand,hA,hl,hm⟩:=h.ex;exact⟨pl,hand,hA.fr F h1 h2 h3,hl,hm⟩
theorem bL0.lts (h:bL0 w bc bp bm n m):bc<w.heap.size/\bp<w.heap.size/\bm<w.heap.size:=by
 obtain⟨pl,hand,hA,hl,hm⟩:=h.ex;exact ez0 hA
theorem bL0.heaps (h:bL0 w bc bp bm n m):(∃ c,w.heap[bc]?=some (.cells c 260))/\(∃ c,w.heap[bp]?=some (.cells c 264))/\∃ l ck,w.heap[bm]?=some (.map (ents l) ck):=by
 obtain⟨pl,hand,hA,hl,hm⟩:=h.ex;obtain⟨l,ck,hm,_⟩:=hA.m;exact⟨⟨_,hA.c⟩,⟨_,hA.p⟩,l,ck,hm⟩
def tm0 (m:Int->Option Pg)(L:List Int):Prop:=∀ k,(m k).isSome=true->k ∈ L
theorem mJ0 {pl:List Pl}(hn:Nd pl)(key k:Int):bj0 (iv0 pl key) k=bj0 pl k:=by
 cases hf:find pl key with
 | none=>simp[iv0,hf]
 | some i =>
  obtain⟨p,hp,_⟩:=aH0 hf;have e1:iv0 pl key=pl.set i { p with marked:=true }:=by simp only[iv0,hf];exact modify_eq hp _
  rw[e1];exact pc0 hn hp true k
theorem kw0 (pl:List Pl)(key:Int):dc0 pl key=(bj0 pl key).getD Pg.zero:=rfl
theorem rT0 (n:Nat)(h1:1<=n)(h2:n<=4096)(w:World) :
  Calls Tryz.prog 96 #[.int .i64 n] w fun e w'=>e = .returned (.pointer (some ⟨w.heap.size+2,0,none⟩))/\bL0 w' (w.heap.size+2) w.heap.size (w.heap.size+1) n (fun _=>none)/\Fq w w':=
 (oy0 n h1 h2 w).mono fun e w' ⟨he,hA,hF⟩=>⟨he,⟨⟨_,_,hA,by simp,fun k=>iu0 _ _ _⟩⟩,hF⟩
theorem ls0 (h:bL0 w bc bp bm n m)(key:Int) :
  Calls Tryz.prog 86 #[.pointer (some ⟨bc,0,none⟩),.int .i64 key] w fun e w'=>e = .returned (.tuple #[((m key).getD Pg.zero).val,.bool (m key).isSome])/\bL0 w' bc bp bm n m/\Fr (fun b=>b=bp) w w':=by
 obtain⟨pl,hand,hA,hl,hm⟩:=h.ex;refine (get_at hA key).mono fun e w' ⟨he,hA',hF⟩=>⟨?_,⟨⟨_,_,hA',?_,fun k=>?_⟩⟩,hF⟩
 ·rw[he,kw0,<- da0,hm]
 ·rw[<- hl];cases hf:find pl key with
  | none=>simp[iv0,hf]
  | some i=>simp[iv0,hf]
 ·rw[mJ0 hA.nd,hm]
theorem pe0 (h:bL0 w bc bp bm n m)(key:Int) :
  Calls Tryz.prog 155 #[.pointer (some ⟨bc,0,none⟩),.int .i64 key] w fun e w'=>e = .returned (.tuple #[((m key).getD Pg.zero).val,.bool (m key).isSome])/\Fq w w':=by
 obtain⟨pl,hand,hA,hl,hm⟩:=h.ex;refine (iw0 hA key).mono fun e w' ⟨he,hF⟩=>⟨?_,hF⟩
 rw[he,kw0,<- da0,hm]
def cc0 (m:Int->Option Pg)(n:Nat)(key:Int):Option (Int × Pg)->Prop
 | none=>True
 | some g=>g.1≠key/\m g.1=some g.2/\m key=none/\∀ L,tm0 m L->n<=L.length
def ej0 (m:Int->Option Pg)(key:Int)(x:Pg)(g:Option (Int × Pg)):Int->Option Pg:=fun k=>if k=key then some x else if g.map (·.1)=some k then none else m k
def gK (g:Option (Int × Pg)):Int:=(g.map (·.1)).getD 0
def gV (g:Option (Int × Pg)):Pg:=(g.map (·.2)).getD Pg.zero
def yi0 (m:Int->Option Pg)(bc bp bm n:Nat)(key:Int)(x:Pg)(w:World)(e:Ending)(w':World):Prop:=
 ∃ g,cc0 m n key g/\e = .returned (.tuple #[.int .i64 (gK g),(gV g).val,.bool g.isSome])/\bL0 w' bc bp bm n (ej0 m key x g)/\Fr (fun b=>b=bc\/b=bp\/b=bm) w w'
theorem lV0 (h:bL0 w bc bp bm n m)(key:Int)(x:Pg) :
  Calls Tryz.prog 111 #[.pointer (some ⟨bc,0,none⟩),.int .i64 key,x.val] w (yi0 m bc bp bm n key x w):=by
 obtain⟨pl,hand,hA,hl,hm⟩:=h.ex;have hc:∀ L,tm0 m L->pl.countP (·.full)<=L.length:=fun L hL=>gM0 hA.nd L fun k hk=>hL k (by rw[<- hm];exact hk)
 have hlen:=(did hA.nd hA.hand key x).len;refine (vI0 hA key x).mono fun e w' ⟨he,hA',hF⟩=>?_
 rcases (it0 hA.nd hA.hand key x).at_ with⟨hg,hmm⟩|⟨g,hg,hne,hgm,hkm,hcnt,hmm⟩
 ·refine⟨none,trivial,?_,⟨⟨_,_,hA',by rw[hlen,hl],fun k=>?_⟩⟩,hF⟩
  ·rw[he,hg];rfl
  ·rw[hmm,ej0,hm];simp
 ·refine⟨some (g.key,g.v),⟨hne,by rw[<- hm];exact hgm,by rw[<- hm];exact hkm,fun L hL=>?_⟩,?_,⟨⟨_,_,hA',by rw[hlen,hl],fun k=>?_⟩⟩,hF⟩
  ·rw[<- hl,<- hcnt];exact hc L hL
  ·rw[he,hg];rfl
  ·rw[hmm,ej0,hm];by_cases h1:k=key
   ·simp[h1]
   ·by_cases h2:k=g.key
    ·simp[h1,h2]
    ·have h3:¬ g.key=k:=fun x=>h2 x.symm
     simp[h1,h2,h3]
theorem oA0 (h:bL0 w bc bp bm n m)(key:Int) :
  Calls Tryz.prog 108 #[.pointer (some ⟨bc,0,none⟩),.int .i64 key] w fun e w'=>e = .returned (.tuple #[((m key).getD Pg.zero).val,.bool (m key).isSome])/\bL0 w' bc bp bm n (tn0 m key none)/\Fr (fun b=>b=bp\/b=bm) w w':=by
 obtain⟨pl,hand,hA,hl,hm⟩:=h.ex;refine (drop_at hA key).mono fun e w' ⟨he,hA',hF⟩=>⟨?_,⟨⟨_,_,hA',?_,fun k=>?_⟩⟩,hF⟩
 ·rw[he,kw0,<- da0,hm]
 ·rw[<- hl];cases hf:find pl key with
  | none=>simp[gG0,hf]
  | some i=>simp[gG0,hf]
 ·cases hf:find pl key with
  | none =>
   have e:gG0 pl key=pl:=by simp[gG0,hf]
   have e2:m key=none:=by rw[<- hm,bj0,hf];rfl
   rw[e,hm,tn0];split
   ·rename_i h;rw[h,e2]
   ·rfl
  | some i =>
   have e:gG0 pl key=pl.set i (Pl.none Pg.zero):=by simp[gG0,hf]
   rw[e,pd0 hA.nd hf,tn0,tn0,hm]
theorem rd0 (h:bL0 w bc bp bm n m) :
  Calls Tryz.prog 84 #[.pointer (some ⟨bc,0,none⟩)] w fun e w'=>∃ c:Nat,e = .returned (.int .i64 c)/\(c<=n/\∀ L,tm0 m L->c<=L.length)/\w=w':=by
 obtain⟨pl,hand,hA,hl,hm⟩:=h.ex;exact (yC0 hA).mono fun e w' ⟨he,hw⟩=>⟨_,he,⟨by rw[<- hl];exact count_le pl,fun L hL=>gM0 hA.nd L fun k hk=>hL k (by rw[<- hm];exact hk)⟩,hw⟩
end CP
end Go.Proofs.YtgdhaaokolfdoaaGreatDoor
namespace Go.Sg
open Go.RowKit
structure lI0 (w:World)(a:Option Addr)(n:Nat)(bs:List Int):Prop where
 len:bs.length=n
 at_:∀ (i:Nat) (x:Int),bs[i]?=some x->∃ b off,a=some ⟨b,off,none⟩/\b<w.heap.size/\w.cell? ⟨b,off+i,none⟩=some (.int .u8 x)
variable {S:Nat->Prop}{w w':World}{a:Option Addr}{n:Nat}{bs:List Int}
theorem lI0.fr (h:lI0 w a n bs)(F:Fr S w w')(hS:∀ b off,a=some ⟨b,off,none⟩->b<w.heap.size->¬ S b):lI0 w' a n bs:=
 ⟨h.len,fun i x hx=>by
  obtain⟨b,off,e,hb,hc⟩:=h.at_ i x hx;exact⟨b,off,e,nLL hb F.size,(F.cell (p:=⟨b,off+i,none⟩) hb (hS b off e hb)).trans hc⟩⟩
theorem lI0.frn (h:lI0 w a n bs)(F:Fr S w w')(hS:∀ b off,a=some ⟨b,off,none⟩->b<w.heap.size->0<n->¬ S b):lI0 w' a n bs:=
 ⟨h.len,fun i x hx=>by
  obtain⟨b,off,e,hb,hc⟩:=h.at_ i x hx;have hn:0<n:=by have:=(gI.1 hx).1;have:=h.len;omega
  exact⟨b,off,e,nLL hb F.size,(F.cell (p:=⟨b,off+i,none⟩) hb (hS b off e hb hn)).trans hc⟩⟩
theorem ov0 (W:World)(e:TypeId)(size:Nat)(v:Value)(h:v = .slice (some ⟨W.heap.size,0,none⟩) 0 0):(W.alloc (.cells #[] e)).ownsRow 0 e size v 0 []:=by
 subst h;exact World.ownsRow_lit W #[] 0 (la9 _) (la9 _) sP
theorem ex0 {base e:Nat}{v:Value}(h:w.ownsRow base e 1 v n (bs.map (Value.int .u8)))(hne:v≠.slice none 0 0) :
  ∃ g cap c,v = .slice (some ⟨g,0,none⟩) n cap/\w.heap[g]?=some (.cells c e)/\lI0 w (some ⟨g,0,none⟩) n bs:=by
 obtain⟨hl,⟨rfl,_⟩|⟨g,cap,cur,rfl,_,hg,_,_,_,ht⟩⟩:=h
 ·exact absurd rfl hne
 ·refine⟨g,cap,cur,rfl,hg,by simpa using hl,fun i x hx=>⟨g,0,rfl,loh hg,?_⟩⟩;rw[lp9,coh hg];have hi:=(gI.1 hx).1;have hl':bs.length=n*1:=by simpa using hl
  have:(cur.toList.take (n*1))[i]?=some (.int .u8 x):=by rw[ht,gP,hx];rfl
  rw[gT,if_pos oM] at this;simpa using this
end Go.Sg
namespace Go.Proofs.YtgdhaaokolfdoaaGreatDoor
open Go.RowKit Go.Sg
theorem Tryz.info5:(Tryz.prog.info? 5).map (fun i=>(i.zero,i.size,i.bytes))=some (some (.int .u8 0),1,1):=by kernel_rfl
theorem clone_nil (w:World):Calls Tryz.prog 83 #[.slice none 0 0] w fun e w'=>e = .returned (.slice none 0 0)/\w=w':=by
 have q22:∀ (w:World) (a:Option Addr) (n c n' c':Nat),(binOp .eql 22 (.slice a n c) (.slice none n' c')).run Tryz.prog w = .ok (.bool a.isNone) w:=fun w a n c n' c'=>Lib.run_eql_slice_nil w _ _ a n c n' c' Tryz.underlying22
 go_enter Tryz.func83,Tryz.ntmps83;go_wp2
 go_ret;exact⟨rfl,rfl⟩
theorem tU0 {w:World}{ad:Addr}{n cap:Nat}{bs:List Int}(h:lI0 w (some ad) n bs)(hn:n<=65536) :
  Calls Tryz.prog 83 #[.slice (some ad) n cap] w fun e w'=>∃ g cap' c,e = .returned (.slice (some ⟨g,0,none⟩) n cap')/\w'.heap[g]?=some (.cells c 5)/\lI0 w' (some ⟨g,0,none⟩) n bs/\w.heap.size<=g/\Fq w w':=by
 obtain⟨i0,hi0,hz0,hz1,hz2⟩:=info_parts Tryz.info5;have H:=hid h;have hlen:=h.len;have hcell:∀ (o:Obj) (j:Nat) (u:Value),(bs.map (Value.int .u8))[j]?=some u->(w.alloc o).cell? (ad.add j)=some u:=fun o j u hu=>by
  rw[gP] at hu;cases hx:bs[j]? with
  | none=>rw[hx] at hu;cases hu
  | some x =>
   rw[hx] at hu;cases hu;obtain⟨b',off',e,hb,hc⟩:=h.at_ j x hx;cases e;rw[show (⟨b',off',none⟩:Addr).add j=⟨b',off'+j,none⟩ by unfold Addr.add;split <;> simp_all];exact (((Fr.refl (fun _=>False) w).alloc o).cell (p:=⟨b',off'+j,none⟩) hb id).trans hc
 have HC:=hid hcell;clear h hcell;have q22:∀ (w:World) (a:Option Addr) (n c n' c':Nat),(binOp .eql 22 (.slice a n c) (.slice none n' c')).run Tryz.prog w = .ok (.bool a.isNone) w:=fun w a n c n' c'=>Lib.run_eql_slice_nil w _ _ a n c n' c' Tryz.underlying22
 go_enter Tryz.func83,Tryz.ntmps83;go_wp2_with (at_builtin;refine wpList_append_own_at _ rfl (.tmp 5) (.tmp 6) 22 rfl 0 5 i0 _ 1 1 Tryz.underlying22 hi0 hz0 hz1 hz2 rfl dC _ _ _ rfl (ov0 _ _ _ _ (by simp[go_sem])) ad n cap (bs.map (Value.int .u8)) rfl (by simpa using hlen) ?c1 ?c2 ?c3 ?c4 (la9 _) ?_)
 case c1=>exact HC.out _
 case c2=>intro u hu;obtain⟨x,_,rfl⟩:=ld9.1 hu;rfl
 case c3=>simp[maxLen];omega
 case c4=>omega
 intro v1 w1 hown hgrow hnil hat;try simp only[le9,lp9] at hown
 have F1:Fq w w1:=((Fr.refl (fun _=>False) w).alloc _).trans (S':=fun b=>b=w.heap.size) (Fr.of_grownBy hgrow) (fun b hb h=>oM);obtain⟨g,cap',c,rfl,hg,hB⟩:=ex0 hown hnil;have hgl:w.heap.size<=g:=by
  rcases hat with h|h <;> simp[Value.ownBlock] at h <;> omega
 have HG:=hi2 hg (aI hB (aI hgl F1));clear hown hgrow hat hg hB F1 hgl;go_wp2
 go_ret;exact⟨g,cap',c,rfl,HG.out.1,HG.out.2.1,HG.out.2.2.1,HG.out.2.2.2⟩
end Go.Proofs.YtgdhaaokolfdoaaGreatDoor
namespace Go.Sg
open Go.RowKit
theorem kM0 (l:List Ent)(k:Int)(v:Value)(c:Nat):(put l k v c).map (·.born)=if (look l k).isSome then l.map (·.born) else l.map (·.born)++[c]:=by
 induction l with
 | nil=>rfl
 | cons e l ih =>
  unfold put;by_cases hk:(e.k == k)=true
  ·have hk':e.k=k:=by simpa using hk
   simp[look,hk,hk']
  ·have hk':(e.k == k)=false:=by simpa using hk
   have e1:look (e :: l) k=look l k:=by simp[look,ma9,hk']
   rw[hk',e1];simp only[lI9,if_false,mj9];rw[ih];split <;> rfl
variable {l:List Ent}{b c ck n:Nat}{f:Int->Bool}{S:Nat->Prop}{w w':World}{a:Option Addr}{bs:List Int}
theorem um0 (h:(keys l).Nodup){e:Ent}(he:e ∈ l):look l e.k=some e.v:=by
 induction l with
 | nil=>cases he
 | cons a l ih =>
  have hn:(keys l).Nodup:=by simp[keys] at h ⊢;exact h.2
  have ha:a.k ∉ keys l:=by simp[keys] at h ⊢;exact h.1
  rcases lA9.1 he with rfl|he'
  ·simp[look]
  ·have:a.k≠e.k:=by
    intro x;exact ha (by rw[x];exact ld9.2 ⟨e,he',rfl⟩)
   have:=ih hn he';simp[look] at this ⊢;simp[ma9, *]
structure gy0 (l:List Ent)(ck:Nat)(f:Int->Bool):Prop where
 nd:(keys l).Nodup
 born:∀ x ∈ l.map (·.born),x<ck
 bnd:(l.map (·.born)).Nodup
 at_:∀ k,look l k=if f k then some (.bool true) else none
def ed0 (f:Int->Bool)(k:Int)(b:Bool):Int->Bool:=fun j=>if j=k then b else f j
theorem gy0.made:gy0 [] 0 (fun _=>false):=⟨by simp[keys],by simp,by simp,fun k=>rfl⟩
theorem gy0.isSome (h:gy0 l ck f)(k:Int):(look l k).isSome=f k:=by
 rw[h.at_];cases f k <;> rfl
theorem gy0.put {l:List Ent}{ck:Nat}{f:Int->Bool}(h:gy0 l ck f)(k:Int):gy0 (put l k (.bool true) ck) (bump l k ck) (ed0 f k true):=by
 refine⟨dV0 h.nd _ _ _,?_,?_,fun j=>?_⟩
 ·rw[kM0];unfold bump;split
  ·exact h.born
  ·intro x hx;rcases lb9.1 hx with hx|hx
   ·have:=h.born x hx;omega
   ·simp at hx;omega
 ·rw[kM0];split
  ·exact h.bnd
  ·rw[mg9];refine⟨h.bnd,by simp,?_⟩;rintro a ha b hb rfl;simp at hb;subst hb;exact absurd (h.born _ ha) (mv9 _)
 ·rw[gn0,h.at_,ed0];by_cases e:k=j
  ·subst e;simp
  ·have e':¬ j=k:=fun x=>e x.symm
   simp[e,e']
theorem gy0.len (h:gy0 l ck f)(hn:∀ k,f k=true->0<=k/\k<n):l.length<=n:=by
 rw[<- length_keys];have hsub:∀ k ∈ keys l,k.toNat ∈ List.range n/\0<=k:=fun k hk=>by
  have h1:look l k≠none:=fun e=>(ch0 l k).1 e hk
  rw[h.at_] at h1;have h2:f k=true:=by
   cases hf:f k with
   | true=>rfl
   | false=>rw[hf] at h1;simp at h1
  have:=hn k h2;simp;omega
 have h1:((keys l).map Int.toNat).Nodup:=by
  rw[List.Nodup,mE9];refine List.Pairwise.imp_of_mem ?_ h.nd;intro a b ha hb hab;have:=(hsub a ha).2;have:=(hsub b hb).2;omega
 have h2:((keys l).map Int.toNat).length<=(List.range n).length:=by
  refine List.Nodup.length_le_of_subset h1 ?_;intro x hx;obtain⟨k,hk,rfl⟩:=ld9.1 hx;exact (hsub k hk).1
 simpa using h2
structure dD0 (w:World)(b:Nat)(f:Int->Bool):Prop where
 ex:∃ l ck,w.heap[b]?=some (.map (ents l) ck)/\gy0 l ck f
theorem dD0.fr (h:dD0 w b f)(F:Fr S w w')(hn:¬ S b):dD0 w' b f:=by
 obtain⟨l,ck,hm,hs⟩:=h.ex;exact⟨l,ck,F.heap hm hn,hs⟩
theorem dD0.made (h:w.heap[b]?=some (.map #[] 0)):dD0 w b (fun _=>false):=⟨[],0,h,gy0.made⟩
theorem insert_perm {H:Type}(x:Lit × DataW H)(l:List (Lit × DataW H)):(DataW.insert x l).Perm (x :: l):=by
 induction l with
 | nil=>exact List.Perm.refl _
 | cons y r ih =>
  unfold DataW.insert;split
  ·exact List.Perm.refl _
  ·exact (ih.cons y).trans (List.Perm.swap _ _ _)
theorem fg0 {H:Type}(l:List (Lit × DataW H)):(l.foldr DataW.insert []).Perm l:=by
 induction l with
 | nil=>exact List.Perm.refl _
 | cons x l ih=>exact (insert_perm _ _).trans (ih.cons x)
def tY0 {H:Type}:DataW H:=.lit (.bool true)
def og0 {H:Type}(l:List Ent):DataW H:=.map ((l.map fun e=>(Lit.int .i64 e.k,tY0)).foldr DataW.insert [])
theorem of0 {H:Type}(l:List Ent)(k:Int):Maps.has (og0 (H:=H) l) (.int .i64 k)=decide (k ∈ keys l):=by
 rw[og0,Maps.has_eq,Bool.eq_iff_iff];rw[md9];constructor
 ·rintro⟨p,hp,hs⟩;have hp':=(fg0 _).mem_iff.1 hp;obtain⟨e,he,rfl⟩:=ld9.1 hp';have:e.k=k:=by simpa[Lit.sameKey] using hs
  simp;rw[<- this];exact ld9.2 ⟨e,he,rfl⟩
 ·intro h;have h':k ∈ keys l:=by simpa using h
  obtain⟨e,he,rfl⟩:=ld9.1 h';exact⟨_,(fg0 _).mem_iff.2 (ld9.2 ⟨e,he,rfl⟩),by simp[Lit.sameKey]⟩
open Go.WideElems in
theorem uC0 {H:Type}{P:Program}{K E:Nat}(hK:P.underlying K=some (.int .i64))(hE:P.underlying E=some .bool)
  (hb:w.heap[b]?=some (.map (ents l) ck)) (hs:gy0 l ck f) (hw:∀ k,f k=true->(Lit.int .i64 k).wf=true) (hl:l.length<=maxLen) :
  w.ownsMap P K (plainElem (H:=H) P E) b l.length (og0 l):=by
 have hrd:∀ e ∈ l,rd P K (plainElem (H:=H) P E) e.entry=some (.int .i64 e.k,tY0):=fun e he=>by
  have h1:=um0 hs.nd he;rw[hs.at_] at h1;have hf:f e.k=true:=by
   cases hf:f e.k with
   | true=>rfl
   | false=>rw[hf] at h1;simp at h1
  rw[hf] at h1;simp at h1;have:e.entry=⟨.int .i64 e.k,.bool true,e.born⟩:=by rw[Ent.entry,<- h1]
  rw[this];exact rd_mk (Maps.keyOf_int_mk hK (hw _ hf)) (plainElem_bool hE true)
 refine⟨ents l,ck,hb,⟨by simp[ents];exact hl,(MapKept.stamped_iff _ _).2 ⟨?_,?_,?_⟩,?_⟩,by simp[ents],?_⟩
 ·intro x hx;simp[ents] at hx;obtain⟨e,he,rfl⟩:=hx;exact hs.born _ (ld9.2 ⟨e,he,rfl⟩)
 ·have:=hs.bnd;simpa[ents,Ent.entry,mP9,Function.comp_def] using this
 ·have:=hs.nd;rw[keys,List.Nodup,mE9] at this;simp only[ents,List.toList_toArray,mE9,Ent.entry];refine this.imp ?_;intro a c h h';exact h (by simpa using h')
 ·intro x hx;simp[ents] at hx;obtain⟨e,he,rfl⟩:=hx;exact⟨_,hrd e he⟩
 ·rw[og0];congr 2
  simp only[ents,List.toList_toArray,mP9];refine mX9 fun e he=>?_
  simp only[Function.comp];rw[rg_of (hrd e he)]
structure SlB (w:World)(a:Option Addr)(n c:Nat)(bs:List Int):Prop where
 by_:lI0 w a n bs
 at_:(a=none/\n=0/\c=0)\/∃ ad,a=some ad
structure ByV (w:World)(a:Option Addr)(n c:Nat)(bs:List Int):Prop where
 by_:lI0 w a n bs
 at_:(a=none/\n=0/\c=0)\/∃ b off cs,a=some ⟨b,off,none⟩/\w.heap[b]?=some (.cells cs 5)
theorem ByV.slb (h:ByV w a n c bs):SlB w a n c bs:=by
 refine⟨h.by_,?_⟩;rcases h.at_ with h0|⟨b,off,cs,h1,_⟩
 ·exact .inl h0
 ·exact .inr ⟨_,h1⟩
theorem ByV.fr (h:ByV w a n c bs)(F:Fr S w w')(hS:∀ b c,w.heap[b]?=some (.cells c 5)->¬ S b):ByV w' a n c bs:=by
 refine⟨h.by_.fr F (fun b off e hb=>?_),?_⟩
 ·rcases h.at_ with⟨h0,_⟩|⟨b',off',cs,h1,h2⟩
  ·rw[h0] at e;cases e
  ·rw[h1] at e;cases e;exact hS _ _ h2
 ·rcases h.at_ with h0|⟨b',off',cs,h1,h2⟩
  ·exact .inl h0
  ·exact .inr ⟨b',off',cs,h1,F.heap h2 (hS _ _ h2)⟩
theorem ByV.nil (w:World):ByV w none 0 0 []:=⟨⟨rfl,fun i x h=>by simp at h⟩,.inl ⟨rfl,rfl,rfl⟩⟩
theorem ByV.len (h:ByV w a n c bs):bs.length=n:=h.by_.len
end Go.Sg
namespace Go.Proofs.YtgdhaaokolfdoaaGreatDoor
open Go.RowKit Go.Sg
theorem fi0 {w:World}{a:Option Addr}{n c:Nat}{bs:List Int}(h:SlB w a n c bs)(hn:n<=65536) :
  Calls Tryz.prog 83 #[.slice a n c] w fun e w'=>∃ a' c',e = .returned (.slice a' n c')/\ByV w' a' n c' bs/\Fq w w':=by
 rcases h.at_ with⟨rfl,rfl,rfl⟩|⟨ad,rfl⟩
 ·refine (clone_nil w).mono fun e w' ⟨he,hw⟩=>⟨none,0,he,?_,by rw[hw];exact Fr.refl _ _⟩
  have:bs=[]:=lH9 h.by_.len;rw[this];exact ByV.nil w'
 ·exact (tU0 h.by_ hn).mono fun e w' ⟨g,c',cs,he,hg,hB,_,hF⟩=>⟨_,_,he,⟨hB,.inr ⟨g,0,cs,rfl,hg⟩⟩,hF⟩
end Go.Proofs.YtgdhaaokolfdoaaGreatDoor
namespace Go.Sg.Bits
open Go.RowKit
def bit (ws:List Nat)(i:Nat):Bool:=(ws.getD (i/64) 0).testBit (i % 64)
def fD0 (ws:List Nat):Array Value:=(ws.map (fun (x:Nat)=>Value.int .u64 (x:Int))).toArray
structure oU0 (w:World)(bs bw n hand:Nat)(ws:List Nat):Prop where
 s:w.heap[bs]?=some (.cells #[.int .i64 n,.int .i64 hand,.slice (some ⟨bw,0,none⟩) ws.length ws.length] 256)
 w_:w.heap[bw]?=some (.cells (fD0 ws) 29)
 len:ws.length=(n+63)/64
 room:1<=n/\n<=65536
 hand:hand<n
 wf:∀ x ∈ ws,x<18446744073709551616
 pad:∀ i,n<=i->bit ws i=false
variable {S:Nat->Prop}{w w':World}{bs bw hand i k n x:Nat}{ws:List Nat}
theorem oU0.fr (h:oU0 w bs bw n hand ws)(F:Fr S w w')(h1:¬ S bs)(h2:¬ S bw):oU0 w' bs bw n hand ws:=
 ⟨F.heap h.s h1,F.heap h.w_ h2,h.len,h.room,h.hand,h.wf,h.pad⟩
theorem oU0.word (h:oU0 w bs bw n hand ws){j:Nat}(hj:ws[j]?=some x):w.cell? ⟨bw,j,none⟩=some (.int .u64 x):=by
 rw[coh h.w_];simp[fD0,hj]
theorem oU0.get (h:oU0 w bs bw n hand ws)(hi:i<n):∃ x,ws[i/64]?=some x/\x<18446744073709551616/\bit ws i=x.testBit (i % 64):=by
 have hl:=h.len;have hlt:i/64<ws.length:=oM
 refine⟨ws[i/64],gE hlt,h.wf _ (List.getElem_mem hlt),?_⟩;simp[bit,List.getD,gE hlt]
theorem xY0 (x k:Nat):(x:Int)/2^k=((x/2^k:Nat):Int):=by simp
theorem and_one (x k:Nat)(hx:x<18446744073709551616):(bits BinOp.and IntKind.u64 ((x:Int)/2^k) 1 == 1)=x.testBit k:=by
 have h1:x/2^k<18446744073709551616:=mN9 (nb9 _ _) hx;rw[xY0,show (1:Int)=((1:Nat):Int) from rfl,u64_and_nat _ _ h1 dC,nat_mask1,Nat.testBit_eq_decide_div_mod_eq];have h2:x/2^k % 2=0\/x/2^k % 2=1:=oM
 rcases h2 with h2|h2 <;> rw[h2] <;> rfl
theorem qd0 (hk:ws[k]?=some x)(y j:Nat):bit (ws.set k y) j=if j/64=k then y.testBit (j % 64) else bit ws j:=by
 have hl:=(gI.1 hk).1;by_cases h:j/64=k
 ·subst h;simp[bit,List.getD,hl]
 ·rw[if_neg h];have h':¬ k=j/64:=fun e=>h e.symm
  simp[bit,List.getD,lU9,h']
theorem vX0 (hx:ws[i/64]?=some x)(j:Nat):bit (ws.set (i/64) (x ||| 2^(i % 64))) j=if j=i then true else bit ws j:=by
 rw[qd0 hx];split
 ·rename_i h;have hb:bit ws j=x.testBit (j % 64):=by simp[bit,List.getD,h,hx]
  rw[Nat.testBit_or,Nat.testBit_two_pow,hb];by_cases he:j=i
  ·subst he;simp
  ·rw[if_neg he];have:¬ i % 64=j % 64:=by omega
   simp[this]
 ·rename_i h;rw[if_neg (by rintro rfl;exact h rfl)]
theorem iE0 (hx:ws[i/64]?=some x)(j:Nat):bit (ws.set (i/64) (x &&& (18446744073709551615-2^(i % 64)))) j=if j=i then false else bit ws j:=by
 rw[qd0 hx];have hm:j % 64<64:=oM
 split
 ·rename_i h;have hb:bit ws j=x.testBit (j % 64):=by simp[bit,List.getD,h,hx]
  rw[Nat.testBit_and,show 18446744073709551615-2^(i % 64)=2^64-(2^(i % 64)+1) by omega,Nat.testBit_two_pow_sub_succ (Nat.pow_lt_pow_right dC oM),Nat.testBit_two_pow,hb];by_cases he:j=i
  ·subst he;simp
  ·rw[if_neg he];have:¬ i % 64=j % 64:=by omega
   simp[this,hm]
 ·rename_i h;rw[if_neg (by rintro rfl;exact h rfl)]
theorem pA0 (ws:List Nat)(k y:Nat):(fD0 ws).setIfInBounds k (.int .u64 y)=fD0 (ws.set k y):=by simp[fD0]
theorem oq0 (i:Nat):2^(i % 64)<18446744073709551616:=nLL (Nat.pow_lt_pow_right (a:=2) (m:=i % 64) (n:=64) dC oM) dC
theorem gY0 (i:Nat):IntKind.u64.wrap (2^(i % 64))=((2^(i % 64):Nat):Int):=by
 have h:=oq0 i;have e:(2:Int)^(i % 64)=((2^(i % 64):Nat):Int):=(Int.natCast_pow 2 (i % 64)).symm;rw[IntKind.wrap_u64,e];generalize 2^(i % 64)=p at *
 omega
theorem oU0.store (h:oU0 w bs bw n hand ws){y:Nat}(hk:ws[k]?=some x)(hy:y<18446744073709551616)(hp:∀ i,n<=i->bit (ws.set k y) i=false) :
  oU0 (w.setCell ⟨bw,k,none⟩ (.int .u64 y)) bs bw n hand (ws.set k y):=by
 have hne:bw≠bs:=mU0 h.w_ h.s sP;refine⟨?_,?_,by simpa using h.len,h.room,h.hand,?_,hp⟩
 ·rw[ao0 _ _ _ _ hne,h.s];simp
 ·rw[hsc _ _ _ _ h.w_,pA0]
 ·intro z hz;rcases mm9 hz with hz|rfl
  ·exact h.wf z hz
  ·exact hy
structure bu0 (w:World)(bs bw n hand:Nat)(t:Nat->Bool):Prop where
 ex:∃ ws,oU0 w bs bw n hand ws/\∀ i,bit ws i=t i
theorem bu0.fr {t:Nat->Bool}(h:bu0 w bs bw n hand t)(F:Fr S w w')(h1:¬ S bs)(h2:¬ S bw):bu0 w' bs bw n hand t:=by
 obtain⟨ws,h,ht⟩:=h;exact⟨ws,h.fr F h1 h2,ht⟩
def upd (t:Nat->Bool)(i:Nat)(b:Bool):Nat->Bool:=fun j=>if j=i then b else t j
end Go.Sg.Bits
namespace Go.Proofs.YtgdhaaokolfdoaaGreatDoor
section
open Go.RowKit Go.Sg Go.Sg.Bits
variable {w:World}{bs bw hand n:Nat}{ws:List Nat}{t:Nat->Bool}
theorem vQ0 (h:oU0 w bs bw n hand ws)(i:Nat)(hi:i<n) :
  Calls Tryz.prog 157 #[.pointer (some ⟨bs,0,none⟩),.int .i64 i] w fun e w'=>e = .returned (.bool true)/\w=w':=by
 have c0:=coh h.s 0;simp at c0;clear h;go_enter Tryz.func157,Tryz.ntmps157;go_wp2
 go_ret;exact⟨rfl,rfl⟩
theorem rr0 (h:oU0 w bs bw n hand ws)(i:Nat)(hi:i<n) :
  Calls Tryz.prog 88 #[.pointer (some ⟨bs,0,none⟩),.int .i64 i] w fun e w'=>e = .returned (.bool (bit ws i))/\w=w':=by
 have c2:=coh h.s 2;simp at c2;obtain⟨x,hx,hlt,hb⟩:=h.get hi;have cw:=h.word hx;have hl:=h.len;have hr:=h.room;have H:=hid h;have HB:=hid hb;clear hx hb h;go_enter Tryz.func88,Tryz.ntmps88;go_wp2_with (go_at_call 157;refine (vQ0 H.out i hi).mono ?_;rintro e w' ⟨rfl,rfl⟩)
 go_ret;exact⟨by rw[HB.out,<- and_one x _ hlt];rfl,rfl⟩
theorem rs0 (h:bu0 w bs bw n hand t)(i:Nat)(hi:i<n) :
  Calls Tryz.prog 88 #[.pointer (some ⟨bs,0,none⟩),.int .i64 i] w fun e w'=>e = .returned (.bool (t i))/\w=w':=by
 obtain⟨ws,h,ht⟩:=h;rw[<- ht];exact rr0 h i hi
theorem ku0 (h:bu0 w bs bw n hand t)(i:Nat)(hi:i<n)(hb:t i=false) :
  Calls Tryz.prog 90 #[.pointer (some ⟨bs,0,none⟩),.int .i64 i] w fun e w'=>e = .returned (.bool true)/\bu0 w' bs bw n hand (upd t i true)/\Fr (fun b=>b=bw) w w':=by
 obtain⟨ws,h,ht⟩:=h;rw[<- ht] at hb;have c2:=coh h.s 2;simp at c2;obtain⟨x,hx,hlt,hb2⟩:=h.get hi;have cw:=h.word hx;have zw:∀ o,w.frozen? ⟨bw,o,none⟩=false:=fun o=>foh h.w_ o
 have hl:=h.len;have hr:=h.room;have H:=hid h;have HB:=hid hb;have HX:=hid hx;have HT:=hid ht;clear hx hb h hb2 ht;go_enter Tryz.func90,Tryz.ntmps90;go_wp2_with (first|(go_at_call 157;refine (vQ0 H.out i hi).mono ?_;rintro e w' ⟨rfl,rfl⟩)|(go_at_call 88;refine (rr0 H.out i hi).mono ?_;rintro e w' ⟨rfl,rfl⟩;rw[HB.out]))
 go_region
 go_wp2
 go_ret;have hy:x ||| 2^(i % 64)<18446744073709551616:=Nat.or_lt_two_pow (n:=64) hlt (oq0 i)
 refine⟨rfl,⟨ws.set (i/64) (x ||| 2^(i % 64)),?_,fun j=>?_⟩,((Fr.refl (fun b=>b=bw) _).setCell (a:=⟨bw,i/64,none⟩) (fun _=>rfl) _).drew⟩
 ·rw[gY0,u64_or_nat _ _ hlt (oq0 i)];exact (H.out.store HX.out hy fun j hj=>by rw[vX0 HX.out,if_neg oM];exact H.out.pad j hj).fr ((Fr.refl (fun _=>False) _).drew) id id
 ·rw[vX0 HX.out,upd,HT.out]
theorem mn0 (h:bu0 w bs bw n hand t)(i:Nat)(hi:i<n)(hb:t i=true) :
  Calls Tryz.prog 107 #[.pointer (some ⟨bs,0,none⟩),.int .i64 i] w fun e w'=>e = .returned (.bool true)/\bu0 w' bs bw n hand (upd t i false)/\Fr (fun b=>b=bw) w w':=by
 have H0:=hid h;obtain⟨ws,h,ht⟩:=h;have c2:=coh h.s 2;simp at c2;obtain⟨x,hx,hlt,hb2⟩:=h.get hi;have cw:=h.word hx;have zw:∀ o,w.frozen? ⟨bw,o,none⟩=false:=fun o=>foh h.w_ o
 have hl:=h.len;have hr:=h.room;have H:=hid h;have HB:=hid hb;have HX:=hid hx;have HT:=hid ht;clear hx hb h hb2 ht;go_enter Tryz.func107,Tryz.ntmps107;go_wp2_with (go_at_call 88;refine (rs0 H0.out i hi).mono ?_;rintro e w' ⟨rfl,rfl⟩;rw[HB.out])
 go_region
 go_wp2
 go_ret;have hy:x &&& (18446744073709551615-2^(i % 64))<18446744073709551616:=mN9 Nat.and_le_left hlt;refine⟨rfl,⟨ws.set (i/64) (x &&& (18446744073709551615-2^(i % 64))),?_,fun j=>?_⟩,((Fr.refl (fun b=>b=bw) _).setCell (a:=⟨bw,i/64,none⟩) (fun _=>rfl) _).drew⟩
 ·rw[gY0,u64_andNot_nat _ _ hlt (oq0 i)];exact (H.out.store HX.out hy fun j hj=>by rw[iE0 HX.out,if_neg oM];exact H.out.pad j hj).fr ((Fr.refl (fun _=>False) _).drew) id id
 ·rw[iE0 HX.out,upd,HT.out]
end
section
open Go.Proofs Go.Shelf
def Tryz.zc0:Go.Shelf.Ren:=⟨fun|29=>214|n=>n,fun|22=>29|3=>3|4=>4|25=>234|54=>375|0=>0|5=>5|n=>n,fun|1=>0|n=>n⟩
theorem Tryz.tz:Go.Proofs.Lays7.n29 Tryz.prog Tryz.zc0:={
 mixed:=by kernel_rfl
 f29:=Tryz.func214.trans (congrArg some kF)
 t0:=Tryz.underlying0
 a0:=Tryz.isAgg0
 z0:=Tryz.sizeOf0
 v0:=Tryz.zeroValue0
 i0:=by kernel_rfl
 t3:=Tryz.underlying3
 a3:=Tryz.isAgg3
 z3:=Tryz.sizeOf3
 v3:=Tryz.zeroValue3
 i3:=by kernel_rfl
 t4:=Tryz.underlying4
 a4:=Tryz.isAgg4
 z4:=Tryz.sizeOf4
 v4:=Tryz.zeroValue4
 i4:=by kernel_rfl
 t5:=Tryz.underlying5
 a5:=Tryz.isAgg5
 z5:=Tryz.sizeOf5
 v5:=Tryz.zeroValue5
 i5:=by kernel_rfl
 t22:=Tryz.underlying29
 a22:=Tryz.isAgg29
 z22:=Tryz.sizeOf29
 v22:=Tryz.zeroValue29
 i22:=by kernel_rfl
 t25:=Tryz.underlying234
 a25:=Tryz.isAgg234
 z25:=Tryz.sizeOf234
 v25:=Tryz.zeroValue234
 i25:=by kernel_rfl
 t54:=Tryz.underlying375
 a54:=Tryz.isAgg375
 z54:=Tryz.sizeOf375
 g1:=by kernel_rfl }
def Tryz.sN0:Go.Shelf.Ren:=⟨fun|5=>141|8=>204|7=>203|19=>264|20=>265|10=>255|11=>256|12=>257|13=>258|14=>259|15=>260|16=>261|17=>262|18=>263|30=>279|31=>280|32=>281|33=>282|34=>283|35=>276|40=>287|n=>n,fun|23=>52|25=>3|3=>3|32=>234|22=>52|0=>0|44=>373|46=>29|4=>4|36=>367|35=>366|41=>157|5=>5|9=>9|53=>384|57=>388|63=>392|64=>393|n=>n,fun|n=>n⟩
theorem Tryz.sortA:Go.Proofs.SlLaysM.n5 Tryz.prog Tryz.sN0:={
 mixed:=by kernel_rfl
 f5:=⟨Tryz.f141.name,dC,Tryz.func141.trans (congrArg some kF)⟩
 f7:=⟨Tryz.f203.name,dC,Tryz.func203.trans (congrArg some kF)⟩
 f8:=Tryz.func204.trans (congrArg some kF)
 f10:=⟨Tryz.f255.name,dC,Tryz.func255.trans (congrArg some kF)⟩
 f11:=⟨Tryz.f256.name,dC,Tryz.func256.trans (congrArg some kF)⟩
 f12:=⟨Tryz.f257.name,dC,Tryz.func257.trans (congrArg some kF)⟩
 f13:=⟨Tryz.f258.name,dC,Tryz.func258.trans (congrArg some kF)⟩
 f14:=⟨Tryz.f259.name,dC,Tryz.func259.trans (congrArg some kF)⟩
 f15:=⟨Tryz.f260.name,dC,Tryz.func260.trans (congrArg some kF)⟩
 f16:=⟨Tryz.f261.name,dC,Tryz.func261.trans (congrArg some kF)⟩
 f17:=⟨Tryz.f262.name,dC,Tryz.func262.trans (congrArg some kF)⟩
 f18:=⟨Tryz.f263.name,dC,Tryz.func263.trans (congrArg some kF)⟩
 f19:=Tryz.func264.trans (congrArg some kF)
 f20:=Tryz.func265.trans (congrArg some kF)
 f30:=⟨Tryz.f279.name,dC,Tryz.func279.trans (congrArg some kF)⟩
 f31:=Tryz.func280.trans (congrArg some kF)
 f32:=Tryz.func281.trans (congrArg some kF)
 f33:=⟨Tryz.f282.name,dC,Tryz.func282.trans (congrArg some kF)⟩
 f34:=⟨Tryz.f283.name,dC,Tryz.func283.trans (congrArg some kF)⟩
 f35:=⟨Tryz.f276.name,dC,Tryz.func276.trans (congrArg some kF)⟩
 f40:=⟨Tryz.f287.name,dC,Tryz.func287.trans (congrArg some kF)⟩
 t0:=Tryz.underlying0
 a0:=Tryz.isAgg0
 z0:=Tryz.sizeOf0
 v0:=Tryz.zeroValue0
 t3:=Tryz.underlying3
 a3:=Tryz.isAgg3
 z3:=Tryz.sizeOf3
 v3:=Tryz.zeroValue3
 t4:=Tryz.underlying4
 a4:=Tryz.isAgg4
 z4:=Tryz.sizeOf4
 v4:=Tryz.zeroValue4
 t5:=Tryz.underlying5
 a5:=Tryz.isAgg5
 z5:=Tryz.sizeOf5
 v5:=Tryz.zeroValue5
 t9:=Tryz.underlying9
 a9:=Tryz.isAgg9
 z9:=Tryz.sizeOf9
 v9:=Tryz.zeroValue9
 t22:=Tryz.underlying52
 a22:=Tryz.isAgg52
 z22:=Tryz.sizeOf52
 v22:=Tryz.zeroValue52
 t23:=Tryz.underlying52
 a23:=Tryz.isAgg52
 z23:=Tryz.sizeOf52
 v23:=Tryz.zeroValue52
 t25:=Tryz.underlying3
 a25:=Tryz.isAgg3
 z25:=Tryz.sizeOf3
 v25:=Tryz.zeroValue3
 t32:=Tryz.underlying234
 a32:=Tryz.isAgg234
 z32:=Tryz.sizeOf234
 v32:=Tryz.zeroValue234
 t35:=Tryz.underlying366
 a35:=Tryz.isAgg366
 z35:=Tryz.sizeOf366
 v35:=Tryz.zeroValue366
 t36:=Tryz.underlying367
 a36:=Tryz.isAgg367
 z36:=Tryz.sizeOf367
 v36:=Tryz.zeroValue367
 t41:=Tryz.underlying157
 a41:=Tryz.isAgg157
 z41:=Tryz.sizeOf157
 v41:=Tryz.zeroValue157
 t44:=Tryz.underlying373
 a44:=Tryz.isAgg373
 z44:=Tryz.sizeOf373
 v44:=Tryz.zeroValue373
 t46:=Tryz.underlying29
 a46:=Tryz.isAgg29
 z46:=Tryz.sizeOf29
 v46:=Tryz.zeroValue29
 t53:=Tryz.underlying384
 a53:=Tryz.isAgg384
 z53:=Tryz.sizeOf384
 v53:=Tryz.zeroValue384
 t57:=Tryz.underlying388
 a57:=Tryz.isAgg388
 z57:=Tryz.sizeOf388
 v57:=Tryz.zeroValue388
 t63:=Tryz.underlying392
 a63:=Tryz.isAgg392
 z63:=Tryz.sizeOf392
 v63:=Tryz.zeroValue392
 t64:=Tryz.underlying393
 a64:=Tryz.isAgg393
 z64:=Tryz.sizeOf393
 v64:=Tryz.zeroValue393 }
end
end Go.Proofs.YtgdhaaokolfdoaaGreatDoor
namespace Go.Sg.Bits
open Go
variable {x:Nat}
theorem nW0 (h0:x≠0)(hx:x<18446744073709551616):∃ m,x=2^Lib.ctz 64 x*(2*m+1)/\Lib.ctz 64 x<64:=by
 have:=Lib.ctzFrom_spec 64 x oM hx;simpa[Lib.ctz,h0] using this
theorem mH0 (k m i:Nat):(2^k*(2*m+1)).testBit i=if i<k then false else if i=k then true else m.testBit (i-k-1):=by
 have e:2^k*(2*m+1)=2^k*(2*m+1)+0:=rfl;rw[lJ9,Nat.testBit_mul_two_pow];by_cases h:i<k
 ·rw[if_pos h];simp;omega
 ·rw[if_neg h];by_cases h2:i=k
  ·subst h2;simp[Nat.testBit_zero]
  ·rw[if_neg h2];obtain⟨d,rfl⟩:∃ d,i=k+(d+1):=⟨i-k-1,oM⟩
   have e1:k+(d+1)-k=d+1:=oM
   have e2:k+(d+1)-k-1=d:=oM
   rw[e1,show d+1-1=d by omega,Nat.testBit_succ,show (2*m+1)/2=m by omega];simp
theorem wd0 (h0:x≠0)(hx:x<18446744073709551616):Lib.ctz 64 x<64/\x.testBit (Lib.ctz 64 x)=true/\∀ i,i<Lib.ctz 64 x->x.testBit i=false:=by
 obtain⟨m,hm,hl⟩:=nW0 h0 hx;refine⟨hl,?_,fun i hi=>?_⟩
 ·generalize Lib.ctz 64 x=k at *
  rw[hm,mH0];simp
 ·generalize Lib.ctz 64 x=k at *
  rw[hm,mH0,if_pos hi]
theorem tN0 (h0:x≠0)(hx:x<18446744073709551616)(i:Nat):(x &&& (x-1)).testBit i=if i=Lib.ctz 64 x then false else x.testBit i:=by
 obtain⟨m,hm,hl⟩:=nW0 h0 hx;generalize Lib.ctz 64 x=k at *
 have e1:x-1=2^k*(2*m)+(2^k-1):=by
  have:0<2^k:=Nat.two_pow_pos k;rw[hm,mA9];omega
 have hlt:2^k-1<2^k:=by have:0<2^k:=Nat.two_pow_pos k;omega
 rw[Nat.testBit_and,e1,Nat.testBit_two_pow_mul_add _ hlt,hm,mH0];by_cases h:i<k
 ·simp[h]
 ·rw[if_neg h,if_neg h];by_cases h2:i=k
  ·subst h2;simp[Nat.testBit_zero]
  ·rw[if_neg h2,if_neg h2];obtain⟨d,rfl⟩:∃ d,i=k+(d+1):=⟨i-k-1,oM⟩
   rw[show k+(d+1)-k=d+1 by omega,show d+1-1=d by omega,Nat.testBit_succ,show 2*m/2=m by omega];simp
theorem xN0 (x:Nat)(hx:x<18446744073709551616):bits BinOp.xor IntKind.u64 IntKind.u64.max (x:Int)=((18446744073709551615 ^^^ x:Nat):Int):=by
 rw[show IntKind.u64.max=((18446744073709551615:Nat):Int) from rfl];exact u64_xor_nat _ _ dC hx
theorem qy0 (x:Nat)(hx:x<18446744073709551616):18446744073709551615 ^^^ x<18446744073709551616:=mo9 (n:=64) dC hx
theorem nk0 (x i:Nat):(18446744073709551615 ^^^ x).testBit i=(decide (i<64) ^^ x.testBit i):=by
 rw[Nat.testBit_xor,show 18446744073709551615=2^64-1 from rfl,Nat.testBit_two_pow_sub_one]
theorem tf0 (h0:x≠0)(hx:x<18446744073709551616):bits BinOp.and IntKind.u64 (x:Int) ((x:Int)-1)=((x &&& (x-1):Nat):Int):=by
 rw[show (x:Int)-1=((x-1:Nat):Int) by omega,u64_and_nat _ _ hx oM]
end Go.Sg.Bits
namespace Go.Proofs.YtgdhaaokolfdoaaGreatDoor
open Go.Proofs Go.Shelf Go.Sg
def Tab (w:World):Prop:=TabAt 0 Lib.deBruijn64tab w
theorem Tab.lt {w:World}(h:Tab w):0<w.heap.size:=World.block_lt_of_cell? _ _ (h 0 dC)
theorem Tab.fr {S:Nat->Prop}{w w':World}(h:Tab w)(F:Fr S w w')(hS:¬ S 0):Tab w':=fun j hj=>(F.cell (p:=⟨0,j,none⟩) h.lt hS).trans (h j hj)
theorem AP0 (x:Nat)(hx:x<18446744073709551616)(w:World)(hT:Tab w) :
  Calls Tryz.prog 214 #[.int .u64 x] w fun e w'=>e = .returned (.int .i64 (Lib.ctz 64 x))/\w=w':=by
 have h:=Any7.bits_TrailingZeros64 Tryz.tz x hx w (fun _=>hT);change Calls Tryz.prog 214 _ _ _ at h;exact h.mono fun _ _ ⟨h1,h2⟩=>⟨h1,h2.symm⟩
