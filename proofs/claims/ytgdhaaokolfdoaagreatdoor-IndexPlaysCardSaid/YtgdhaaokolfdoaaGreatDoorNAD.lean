/- A pack of texts. Conditions: those that each names. -/
import Derived.Test.YtgdhaaokolfdoaaGreatDoorNAC
import Derived.Laws.AppendOwnNone
import Derived.Deep.MidRow
set_option maxHeartbeats 16000000
set_option maxRecDepth 100000
set_option linter.all false
namespace Go.Sg
open Go.RowKit
def Dev.sec (D:Dev)(at_:Int):List Int:=match D.loose.reverse.find? (fun y=>decide (y.1=at_)) with
 | some y=>y.2
 | none=>(D.fast at_).getD (List.replicate D.size 0)
variable {D:Dev}{at_:Int}{B:Nat}{W W':World}
theorem xd0 {j:Nat}{y:Int × List Int}(hy:D.loose[j]?=some y)(h1:y.1=at_)(h2:∀ (i:Nat) z,j<i->D.loose[i]?=some z->z.1≠at_):D.sec at_=y.2:=by
 have hj:=(gI.1 hy).1;have e:D.loose=D.loose.take j++y :: D.loose.drop (j+1):=by
  conv=>lhs;rw[<- my9 j D.loose]
  congr 1
  rw[mc9 hj];congr 1
  exact (gI.1 hy).2
 have hf:D.loose.reverse.find? (fun y=>decide (y.1=at_))=some y:=by
  rw[List.find?_eq_some_iff_append];refine⟨by simpa using h1,(D.loose.drop (j+1)).reverse,(D.loose.take j).reverse,?_,?_⟩
  ·conv=>lhs;rw[e]
   simp
  ·intro a ha;obtain⟨i,hi⟩:=lC9.1 (nt9.1 ha);rw[lB9] at hi;have:=h2 (j+1+i) a oM hi;simpa using this
 rw[Dev.sec,hf]
theorem ge0 (h:∀ z ∈ D.loose,z.1≠at_):D.sec at_=(D.fast at_).getD (List.replicate D.size 0):=by
 have hf:D.loose.reverse.find? (fun y=>decide (y.1=at_))=none:=by
  rw[nd9];intro z hz;have:=h z (nt9.1 hz);simpa using this
 rw[Dev.sec,hf]
theorem lo0 (F:Fq W W'):KeepsFrom B W W':=⟨F.size,fun k o _ hk _=>F.heap hk id⟩
theorem xr0 {row:Option Nat}{a:Option Addr}{n c:Nat}{bs:List Int}(h:ByV W a n c bs)(hg:W.grownBy W' row)(hr:∀ r,row=some r->B<=r/\∃ o:Obj,W.heap[r]?=some o/\o.isCells=false):ByV W' a n c bs:=by
 refine h.fr (S:=fun b=>some b=row) ⟨hg.os,hg.tape,hg.output,hg.size,fun b hb hn=>hg.block b hb hn⟩ fun b c hb e=>?_
 obtain⟨_,o,ho,hc⟩:=hr b e.symm;rw[hb] at ho;cases ho;cases hc
theorem ByV.zeros {w:World}{g n cap:Nat}{f:Nat × Nat}(h:w.heap[g]?=some (.cells (List.replicate n (Value.int .u8 0)).toArray 5)):ByV w (some ⟨g,0,none⟩) n cap (List.replicate n 0):=by
 refine⟨⟨by simp,fun i x hx=>⟨g,0,rfl,loh h,?_⟩⟩,.inr ⟨g,0,_,rfl,h⟩⟩;rw[coh h];rw[lF9] at hx;split at hx
 ·cases hx;rename_i hi;simp[hi]
 ·cases hx
end Go.Sg
namespace Go.Proofs.YtgdhaaokolfdoaaGreatDoor
open Go.RowKit Go.Sg Go.Shelf
theorem Tryz.zero22 (w:World):(zeroValue 22).run Tryz.prog w = .ok (.slice none 0 0) w:=by kernel_rfl
variable {w:World}{base bf bq d:Nat}{D:Dev}
theorem uw0 (h:bt0 w base d bf bq D)(k:Int) :
  Calls Tryz.prog 113 #[.pointer (some ⟨d,0,none⟩),.int .i64 k] w fun e w'=>∃ a c,e = .returned (.slice a D.size c)/\(ByV w' a D.size c ((D.fast k).getD (List.replicate D.size 0))/\D.size<=c)/\Fq w w':=by
 obtain⟨lv,hd,_⟩:=h.dc;obtain⟨l,ck,hm,_,hf⟩:=h.fast;have c1:=coh hd 1;have c2:=coh hd 2;simp at c1 c2;have hl:=bF0 (P:=Tryz.prog) (T:=147) true Tryz.underlying147 Tryz.underlying3 Tryz.zero22 hm k;have hk:=hf k;have hz:=h.rg.2;cases hlk:Sg.look l k with
 | some v =>
  rw[hlk] at hl hk;cases hfk:D.fast k with
  | none=>rw[hfk] at hk;exact hk.elim
  | some bs =>
   rw[hfk] at hk;obtain⟨b,off,cap,rfl,hb,hcp⟩:=hk;have HB:=hi2 hb hcp;simp at hl;clear hlk hm hf hd hb hcp hfk h;go_enter Tryz.func113,Tryz.ntmps113;go_wp2
   go_ret;exact⟨_,_,rfl,HB.out,Fr.refl _ _⟩
 | none =>
  rw[hlk] at hl hk;cases hfk:D.fast k with
  | some bs=>rw[hfk] at hk;exact hk.elim
  | none =>
   simp at hl;obtain⟨i0,hi,hz0,hz1,hz2⟩:=info_parts Tryz.info5;have hmk:=fun W=>cz0 (P:=Tryz.prog) 22 5 i0 _ Tryz.underlying22 hi hz0 D.size (by rw[hz2];omega) oM W
   rw[hz1] at hmk;clear hlk hm hf hd hfk h hi hz0 hz1 hz2 hk;go_enter Tryz.func113,Tryz.ntmps113;go_wp2
   go_ret;exact⟨_,_,rfl,⟨ByV.zeros (f:=(0,0)) (by rw[show (List.replicate D.size (Value.int .u8 0)).toArray=madeCells #[.int .u8 0] D.size by apply Array.toList_inj.1;rw[toList_madeCells_one]];exact han _ _),nR _⟩,(Fr.refl _ _).alloc _⟩
theorem wG0 (h:bt0 w base d bf bq D)(k:Int) :
  Calls Tryz.prog 113 #[.pointer (some ⟨d,0,none⟩),.int .i64 k] w fun e w'=>∃ a c,e = .returned (.slice a D.size c)/\ByV w' a D.size c ((D.fast k).getD (List.replicate D.size 0))/\Fq w w':=
 (uw0 h k).mono fun e w' ⟨a,c,he,hb,F⟩=>⟨a,c,he,hb.1,F⟩
attribute [local go_sem] Oper.semAt_some
def okW (w:World)(D:Dev)(i:Nat)(x:Wr):Prop:=∃ y,D.loose[i]?=some y/\x.at_=y.1/\ByV w x.la x.ll x.lc y.2
def yh0 (w W0:World)(D:Dev)(at_:Nat)(pre:List (zU0 (okW w D)))(W:World):Prop:=
 ((W.heap[w.heap.size]?=some (.cells #[.int .i64 at_] 3)/\W.heap[w.heap.size+1]?=some (.cells #[.slice none 0 0] 22))/\(W.heap[w.heap.size+2]?=some (.cells #[.int .i64 0] 24)/\Fq W0 W))/\∀ y ∈ pre,y.1.2.at_≠(at_:Int)
abbrev ByC (w:World)(a:Option Addr)(n c:Nat)(bs:List Int):Prop:=ByV w a n c bs/\n<=c
def Ar0 (w:World)(D:Dev)(at_:Nat)(c:Code)(pre:List (zU0 (okW w D)))(W:World):Prop:=
 (c = .ret/\∃ pre0 x,pre=pre0++[x]/\x.1.2.at_=(at_:Int)/\(∀ y ∈ pre0,y.1.2.at_≠(at_:Int))) /\
  (∃ y:Int × List Int,(∃ x ∈ pre.getLast?,D.loose[x.1.1]?=some y)/\∃ a c,(W.heap[w.heap.size+1]?=some (.cells #[.slice a y.2.length c] 22)/\ByC W a y.2.length c y.2)/\(W.heap[w.heap.size+2]?=some (.cells #[.int .i64 0] 24)/\Fq w W))
theorem gI0 {n:Nat}{R:Ending->World->Prop}{tmps:Array Value}{DD b:Nat}{W:World}{a:Option Addr}{l c:Nat}(q1:W.heap[b+1]?=some (.cells #[.slice a l c] 22))(q2:W.heap[b+2]?=some (.cells #[.int .i64 0] 24))
  (hK:W.heap[DD]?=some (.deferred (some []))) (hD:b+2<DD) (hR:R (.returned (.tuple #[.slice a l c,.int .i64 0])) (W.putObj DD (.deferred none))) (t4:tmps.getD 4 undef = .pointer (some ⟨b+1,0,none⟩)) (t5:tmps.getD 5 undef = .pointer (some ⟨b+1+1,0,none⟩)) :
  bodyPostM Fence.wide n Tryz.prog Tryz.f114 R .ret { tmps:=tmps,defers:=[{ target:=.collected DD,args:=#[] }] } W:=by
 have e1:(W.putObj DD (.deferred none)).cell? ⟨b+1,0,none⟩=some (.slice a l c):=by
  have:=coh ((hpj W DD (.deferred none) (b+1) oM).trans q1) 0;simpa using this
 have e2:(W.putObj DD (.deferred none)).cell? ⟨b+1+1,0,none⟩=some (.int .i64 0):=by
  have:=coh ((hpj W DD (.deferred none) (b+2) oM).trans q2) 0;simpa using this
 refine⟨by simp,.inl ⟨_,_,rfl,run_takeDeferred hK,_,?_,hR⟩⟩;rw[mk9] at t4 t5;simp[results,Tryz.results114,go_sem,t4,t5,e1,e2]
theorem mh0 (h:bt0 w base d bf bq D)(hdown:D.down=false)(hlen:∀ y ∈ D.loose,y.2.length=D.size)(hmany:D.loose.length<=100000)(at_:Nat)(hat:at_<D.sectors) :
  Calls Tryz.prog 114 #[.pointer (some ⟨d,0,none⟩),.int .i64 at_] w fun e w'=>∃ a c,e = .returned (.tuple #[.slice a D.size c,.int .i64 0])/\ByC w' a D.size c (D.sec at_)/\Fq w w':=by
 refine (callsIn_wide (n:=10)).1 ?_;obtain⟨lv,hd,ws,hown,hwl,hws⟩:=h.dc;have c3:=coh hd 3;simp at c3;have ld:=loh hd;have hlv:∃ a c,lv = .slice a ws.length c:=by
  obtain⟨_,⟨h1,h2⟩|⟨g,cap,cur,h1,_⟩⟩:=hown
  ·rw[h2];exact⟨_,_,h1⟩
  ·exact⟨_,_,h1⟩
 obtain⟨la,lc,rfl⟩:=hlv;have HRD:=hid (fun W (F:Fq w W)=>ol0 (w:=W) (d:=d) (n:=D.sectors) (at_:=at_) (by have:=coh (F.heap hd id) 0;simpa using this) (by have:=coh (F.heap hd id) 7;simpa[hdown] using this) oM oM);obtain⟨W1,hW1⟩:=eX (((w.alloc (.cells #[.int .i64 at_] 3)).alloc (.cells #[.slice none 0 0] 22)).alloc (.cells #[.int .i64 0] 24))
 obtain⟨x0,x1,x2,F1⟩:=aO0 hW1;have s1:W1.heap.size=w.heap.size+3:=by rw[<- hW1];simp
 have y0:=coh x0 0;have y1:=coh x1 0;have y2:=coh x2 0;simp at y0 y1 y2;have d3:W1.cell? ⟨d,3,none⟩=some (.slice la ws.length lc):=(F1.cell (p:=⟨d,3,none⟩) ld id).trans c3;have HW1:=hid hW1;have HX:=hi2 x0 (aI x1 x2);have HF1:=hid F1;have H:=hid h;have HD:=hid hd;have HOWN:=hid hown;have HWS:=hid hws;have HWL:=hid hwl;have hwm:ws.length<=100000:=oM
 clear hW1 x0 x1 x2 F1 h hd hown hws hwl;refine callsIn_of_wp_marks Tryz.func114 rfl trivial ?_ rfl;simp only[Tryz.ntmps114,zA,lC,lz9,Nat.reduceAdd,Nat.reduceSub,lq9,lr9,ly9,ls9,le9,lo9];gi_wp2_with (fail)
 rw[HW1.out];refine (callsIn_wide.2 (HRD.out _ HF1.out)).mono ?_;rintro e w' ⟨rfl,rfl⟩;gi_wp2_with (fail)
 refine (callsIn_wide.2 (kP0 la ws.length lc _)).mono ?_;rintro e w' ⟨rfl,rfl⟩;gi_wp2_with (fail)
 obtain⟨W0,hW0⟩:=eX (W1.alloc (.cells #[.slice la ws.length lc] 149))
 have F10:Fq W1 W0:=by rw[<- hW0];exact (Fr.refl _ _).alloc _
 have hbx:W0.heap[w.heap.size+3]?=some (.cells #[.slice la ws.length lc] 149):=by rw[<- hW0,<- s1];exact han _ _
 have hF0:=HF1.out.trans F10 nI;have hsz:W0.heap.size=w.heap.size+4:=by rw[<- hW0];simp;omega
 have hown0:W0.ownsRow base 196 2 (.slice la ws.length lc) ws.length (ws.flatMap Wr.cells):=oRf HOWN.out hF0 (fun _ _ _ h=>h);have hI0:yh0 w W0 D at_ [] W0:=⟨⟨⟨F10.heap HX.out.1 id,F10.heap HX.out.2.1 id⟩,F10.heap HX.out.2.2 id,Fr.refl _ _⟩,fun _ h=>by cases h⟩;have hla:∀ g,la=some ⟨g,0,none⟩->g<w.heap.size:=fun g e=>by
  obtain⟨_,⟨h1,h2⟩|⟨g',cap,cur,h1,_,hg,_⟩⟩:=HOWN.out
  ·obtain⟨h3,_,_⟩:=Value.slice.inj h1;rw[h3] at e;cases e
  ·obtain⟨h3,_,_⟩:=Value.slice.inj h1;rw[h3] at e;cases e;exact loh hg
 simp only[hW0];clear y0 y1 y2 d3 c3;have hok:∀ i x,ws[i]?=some x->okW w D i x:=fun i x hx=>by
  have hi:=(gI.1 hx).1;have hy:D.loose[i]?=some (D.loose[i]'(by have:=HWL.out;omega)):=gE _;exact⟨_,hy,(HWS.out i x _ hx hy).1,(HWS.out i x _ hx hy).2.1⟩
 refine wpIn_rangeFunc_ownH (F:=Fence.wide) rfl oM (gf:=231) (lb:=#[.pointer (some ⟨w.heap.size+3,0,none⟩)]) rfl trivial (enters_of Tryz.func231 kF rfl)
  (mw0 hown0 hwm hok hbx) (fun h k=>⟨k.1.trans h.1,fun g e=>(k.2 g e).trans (h.2 g e)⟩) (fun W l o o' hl _ _ _=>⟨hpj _ _ _ _ oM,fun g e=>hpj _ _ _ _ (by have:=hla g e;omega)⟩) (Below.refl _ _) (fun _=>rfl)
  (yh0 w W0 D at_)
  (Ar0 w D at_)
  (aZ0 (aZ0 (aZ0 (aN0 _ _ _ (fun _=>.inl rfl)) (aN0 _ _ _ (fun _=>.inl rfl))) (aZ0 (aN0 _ _ _ (fun _=>.inl rfl)) (dU0 oM))) (aJ0 _ _))
  (fun c=>aZ0 (aJ0 _ _) (eL0 fun y=>aZ0 (aJ0 _ _) (eL0 fun a=>eL0 fun cc=>aZ0 (aZ0 (aN0 _ _ _ (fun _=>.inl rfl)) (fun _ _ _ _ hs hg hr=>⟨xr0 hs.1 hg hr,hs.2⟩)) (aZ0 (aN0 _ _ _ (fun _=>.inl rfl)) (dU0 oM)))))
  hI0
  (fun x a' W=>∃ Bx,(w.heap.size+4<=Bx/\W.heap[Bx]?=some (.cells #[.int .i64 x.1.2.at_,.slice x.1.2.la x.1.2.ll x.1.2.lc] 196))/\a'={ tmps:=#[.pointer (some ⟨d,0,none⟩),.int .i64 at_,undef,.pointer (some ⟨w.heap.size,0,none⟩),.pointer (some ⟨w.heap.size+1,0,none⟩),.pointer (some ⟨w.heap.size+1+1,0,none⟩),.int .i64 0,undef,.pointer (some ⟨Bx,0,none⟩),.pointer (some ⟨d,0,none⟩),.int .i64 at_,.int .i64 0,.int .i64 0,.bool false,undef,.pointer (some ⟨d,0,none⟩),.pointer (some ⟨d,0,none⟩),.pointer (some ⟨d,3,none⟩),.slice la ws.length lc,.func (.func 231) #[] #[.pointer (some ⟨w.heap.size+3,0,none⟩)],.int .i64 x.1.1,.agg #[.int .i64 x.1.2.at_,.slice x.1.2.la x.1.2.ll x.1.2.lc],undef,undef,undef,undef,undef,undef,undef,undef,undef,undef,undef,undef],defers:=[] })
  (fun x a'=>eL0 fun Bx=>aZ0 (aZ0 (aJ0 _ _) (aN0 _ _ _ (fun _=>.inl rfl))) (aJ0 _ _))
  ?assign ?body ?done ?stop
 case assign =>
  rintro l pre x W K hI hK;have hsW:=hI.1.2.2.size;have FN:Fq W (W.alloc (.cells #[.int .i64 x.1.2.at_,.slice x.1.2.la x.1.2.ll x.1.2.lc] 196)):=(Fr.refl _ _).alloc _;have HI:=hid hI;have HK:=hid hK;clear hI hK;gi_wp2
  obtain⟨⟨⟨h1,h2⟩,h3,hF⟩,h4⟩:=HI.out;refine HK.out _ _ ((KeepsOthers.alloc _ _).from _) ⟨FN.block _ oM id,fun g e=>FN.block _ (by have:=hla g e;omega) id⟩ ⟨⟨⟨FN.heap h1 id,FN.heap h2 id⟩,FN.heap h3 id,hF.trans FN nI⟩,h4⟩ ⟨W.heap.size,⟨oM,han _ _⟩,rfl⟩
 case body =>
  rintro l pre ⟨⟨i,⟨xat,xa,xl,xc⟩⟩,hp⟩ a' W hl ⟨r,hr⟩ ⟨⟨⟨h1,h2⟩,h3,hF⟩,h4⟩ ⟨Bx,⟨hBx,hbX⟩,rfl⟩ hlt;have hp':=hp;obtain⟨y,hy,hxy,hxb⟩:=hp';simp only at hy hxy hxb hbX;have z0:=coh h1 0;have z1:=coh hbX 0;have z2:=coh hbX 1;simp at z0 z1 z2;have u1:=coh h2 0;have u2:=coh h3 0;have f1:=foh h2 0;have f2:=foh h3 0;simp at u1 u2;have HX2:=hi2 h1 (aI h2 (aI h3 (aI hF h4)));have HY:=hi2 hy (aI hxy hxb);have HBX:=hid hbX;clear h1 h2 h3 hF h4 hy hxy hxb hbX;by_cases hx:xat=at_
  ·subst hx;have hlb:xl<=512:=by
    have h1:=hlen y (gM HY.out.1);have h2:=HY.out.2.2.len;have h3:=H.out.rg.2.2;omega
   have HHP:=hid hp;have hbW:=(HY.out.2.2.fr (S:=fun _=>False) (hF0.trans HX2.out.2.2.2.1 nI) (fun _ _ _ h=>h));have HC:=hid (dz0 hbW.slb oM);have HBW:=hid hbW;clear hbW;gi_wp2_with (fail)
   refine (CallsIn.inRound l (callsIn_wide.2 HC.out)).mono ?_;rintro e w2 ⟨a',c',rfl,hb2,F2⟩;have lW:=HX2.out.2.2.2.1.size;obtain⟨k1,k2,k3,k4,k5⟩:=HX2.out;have v1:=coh (F2.heap k2 id) 0;have v2:=coh (F2.heap k3 id) 0;have g1:=foh (F2.heap k2 id) 0;have g2:=foh (F2.heap k3 id) 0;simp at v1 v2;have H2:=hi2 hb2 F2;have K2:=hi2 (F2.heap k2 id) (F2.heap k3 id);clear hb2 F2 k1 k2 k3 k4 k5;gi_wp2
   obtain⟨k1,k2,k3,k4,k5⟩:=HX2.out;obtain⟨hb2,F2⟩:=H2.out;have hyl:y.2.length=xl:=HY.out.2.2.len;refine⟨(lo0 F2).trans (((KeepsOthers.setCell _ _ _).trans (KeepsOthers.setCell _ _ _)).from _),⟨rfl,pre,_,rfl,rfl,k5⟩,y,⟨_,by simp;rfl,HY.out.1⟩,a',c',⟨?_,?_⟩,?_,?_⟩
   ·rw[ao0 _ _ _ _ sP,hsc _ _ _ _ K2.out.1,hyl];rfl
   ·rw[hyl];refine⟨hb2.1.fr (S:=fun b=>b=w.heap.size+1\/b=w.heap.size+2) (((Fr.refl (fun b=>b=w.heap.size+1\/b=w.heap.size+2) _).setCell (a:=⟨w.heap.size+1,0,none⟩) (fun _=>.inl rfl) _).setCell (a:=⟨w.heap.size+1+1,0,none⟩) (fun _=>.inr rfl) _) fun b c hc e=>?_,hb2.2⟩;rcases e with rfl|rfl
    ·rw[K2.out.1] at hc;cases hc
    ·rw[K2.out.2] at hc;cases hc
   ·rw[hsc (w:=w2.setCell ⟨w.heap.size+1,0,none⟩ _) _ _ _ ((ao0 _ _ _ _ sP).trans K2.out.2)];rfl
   ·exact (((hF0.trans k4 nI).trans F2 nI).an0 oM _).an0 oM _
  ·have hd:(xat == (at_:Int))=false:=by simpa using hx
   have HHP:=hid hx;gi_wp2
   obtain⟨k1,k2,k3,k4,k5⟩:=HX2.out;refine⟨KeepsFrom.refl _ _,⟨rfl,fun _ _=>rfl⟩,⟨⟨k1,k2⟩,k3,k4⟩,fun z hz=>?_⟩;rcases lb9.1 hz with hz|hz
   ·exact k5 z hz
   ·simp at hz;subst hz;exact HHP.out
 case done =>
  rintro DD ys W hD hys ⟨⟨⟨h1,h2⟩,h3,hF⟩,h4⟩ hK;have z0:=coh h1 0;have u1:=coh h2 0;have u2:=coh h3 0;have f1:=foh h2 0;have f2:=foh h3 0;simp at z0 u1 u2;have hFw:=hF0.trans hF nI;have HM:=hid (fun W' (F:Fq w W')=>wG0 (H.out.fr F id id id (fun _ _ _ _ _ h=>h)) at_);have hsec:D.sec at_=(D.fast at_).getD (List.replicate D.size 0):=by
   refine ge0 fun z hz=>?_
   obtain⟨i,hi⟩:=lC9.1 hz;have hil:=(gI.1 hi).1;have hwi:ws[i]?=some (ws[i]'(by have:=HWL.out;omega)):=gE _;have hm:=vW0 ws (k:=ws.length) hwi (by have:=HWL.out;omega);rw[<- hys] at hm;obtain⟨q,hq,hqe⟩:=ld9.1 hm;have:=h4 q hq;rw[hqe] at this;rw[<- (HWS.out i _ z hwi hi).1];exact this
  have HSEC:=hid hsec;have HB:=hi2 h2 (aI h3 (aI hFw hK));clear h1 h2 h3 hF h4 hys hsec hK;gi_wp2_with (fail)
  refine (callsIn_wide.2 (HM.out _ hFw)).mono ?_;rintro e w2 ⟨a',c',rfl,hb2,F2⟩;have hzs:=H.out.rg.2.2;have HC:=hid (dz0 hb2.slb oM);have HB2:=hid F2;clear hb2 F2 z0 u1 u2 f1 f2;gi_wp2_with (fail)
  refine (callsIn_wide.2 HC.out).mono ?_;rintro e w3 ⟨a3,c3,rfl,hb3,F3⟩;have F23:=HB2.out.trans F3 nI;obtain⟨k2,k3,k4,k5⟩:=HB.out;have j2:=F23.heap k2 id;have j3:=F23.heap k3 id;have u1:=coh j2 0;have u2:=coh j3 0;have f1:=foh j2 0;have f2:=foh j3 0;simp at u1 u2;have HJ:=hi2 j2 (aI j3 (aI (k4.trans F23 nI) (aI (F23.heap k5 id) hb3)));clear k2 k3 k4 k5 j2 j3 hb3 F3 F23;gi_wp2
  obtain⟨j2,j3,j4,j5,hb3⟩:=HJ.out;obtain⟨W3,hW3⟩:=eX ((w3.setCell ⟨w.heap.size+1,0,none⟩ (.slice a3 D.size c3)).setCell ⟨w.heap.size+1+1,0,none⟩ (.int .i64 0))
  have q1:W3.heap[w.heap.size+1]?=some (.cells #[.slice a3 D.size c3] 22):=by
   rw[<- hW3,ao0 _ _ _ _ sP,hsc _ _ _ _ j2];rfl
  have q2:W3.heap[w.heap.size+2]?=some (.cells #[.int .i64 0] 24):=by
   rw[<- hW3,hsc (w:=w3.setCell ⟨w.heap.size+1,0,none⟩ _) _ _ _ ((ao0 _ _ _ _ sP).trans j3)];rfl
  have F33:Fr (fun b=>b=w.heap.size+1\/b=w.heap.size+2) w3 W3:=by
   rw[<- hW3];exact ((Fr.refl (fun b=>b=w.heap.size+1\/b=w.heap.size+2) _).setCell (a:=⟨w.heap.size+1,0,none⟩) (fun _=>.inl rfl) _).setCell (a:=⟨w.heap.size+1+1,0,none⟩) (fun _=>.inr rfl) _
  have q3:=F33.heap j5 oM;have q4:ByC W3 a3 D.size c3 (D.sec at_):=by
   rw[HSEC.out];refine⟨hb3.1.fr F33 fun b c hc e=>?_,hb3.2⟩;rcases e with rfl|rfl
   ·rw[j2] at hc;cases hc
   ·rw[j3] at hc;cases hc
  rw[hW3];have FP:Fr (fun b=>b=DD) W3 (W3.putObj DD (.deferred none)):=(Fr.refl (fun b=>b=DD) _).putObj (fun _=>rfl) _;refine gI0 (b:=w.heap.size) q1 q2 q3 oM ⟨a3,c3,rfl,⟨q4.1.fr FP fun b c hc e=>?_,q4.2⟩,?_⟩ rfl rfl
  ·rw[e,q3] at hc;cases hc
  ·exact (j4.trans (S':=fun b=>b=w.heap.size+1\/b=w.heap.size+2) F33 (fun b hb h=>oM)).trans (S':=fun b=>b=DD) FP (fun b hb h=>oM)
 case stop =>
  rintro DD c pre W hD hSp ⟨⟨rfl,pre0,x,rfl,hx,hpre0⟩,y,⟨x',hx',hy⟩,a',c',⟨h2,hb⟩,h3,hF⟩ hK;obtain rfl:x=x':=by simpa using hx'
  have hsec:D.sec at_=y.2:=by
   have hm:=nc9.1 hSp;have hlen2:(pre0++[x]).length<=ws.length:=by have:=hSp.length_le;rw[qc0] at this;simpa using this
   rw[wm0 ws (by simpa using hlen2)] at hm;simp only[ln9,lA,lC,lz9,lt9,mj9,mH9] at hm;rw[mv0] at hm;obtain⟨hm1,hm2⟩:=List.append_inj' hm rfl;have hm3:=(List.cons.inj hm2).1;have hxi:x.1.1=ws.length-1-pre0.length:=by rw[hm3]
   have hl0:pre0.length<ws.length:=by simp at hlen2;omega
   refine xd0 hy ?_ ?_
   ·obtain⟨y',hy',e1,_⟩:=x.2;rw[hy] at hy';cases hy';rw[<- e1];exact hx
   ·intro i z hi hz;have hil:=(gI.1 hz).1;have hwi:ws[i]?=some (ws[i]'(by have:=HWL.out;omega)):=gE _;have hmem:=vW0 ws (k:=pre0.length) hwi (by have:=HWL.out;omega);rw[<- hm1] at hmem;obtain⟨q,hq,hqe⟩:=ld9.1 hmem;have:=hpre0 q hq;rw[hqe] at this;rw[<- (HWS.out i _ z hwi hz).1];exact this
  have hyl:=hlen y (gM hy);rw[hyl] at h2 hb;have FP:Fr (fun b=>b=DD) W (W.putObj DD (.deferred none)):=(Fr.refl (fun b=>b=DD) _).putObj (fun _=>rfl) _;have HS:=hi2 hsec (aI h2 (aI hb (aI h3 (aI hF (aI hK FP)))));clear hsec h2 hb h3 hF hK FP hSp hx hpre0 hy hyl hx';gi_wp2
  obtain⟨hsec,h2,hb,h3,hF,hK,FP⟩:=HS.out;refine gI0 (b:=w.heap.size) h2 h3 hK oM ⟨a',c',rfl,?_,?_⟩ rfl rfl
  ·rw[hsec];refine⟨hb.1.fr FP fun b c hc e=>?_,hb.2⟩;rw[e,hK] at hc;cases hc
  ·exact hF.trans (S':=fun b=>b=DD) FP (fun b hb h=>oM)
theorem oD0 (h:bt0 w base d bf bq D)(hdown:D.down=false)(hlen:∀ y ∈ D.loose,y.2.length=D.size)(hmany:D.loose.length<=100000)(at_:Nat)(hat:at_<D.sectors) :
  Calls Tryz.prog 114 #[.pointer (some ⟨d,0,none⟩),.int .i64 at_] w fun e w'=>∃ a c,e = .returned (.tuple #[.slice a D.size c,.int .i64 0])/\ByV w' a D.size c (D.sec at_)/\Fq w w':=
 (mh0 h hdown hlen hmany at_ hat).mono fun e w' ⟨a,c,he,hb,F⟩=>⟨a,c,he,hb.1,F⟩
end Go.Proofs.YtgdhaaokolfdoaaGreatDoor
namespace Go.Sg
open Go.RowKit
theorem up0 (k:Nat):∀ n,leB n (k+1)=leB n k++[((n/256^k % 256:Nat):Int)]:=by
 induction k with
 | zero=>intro n;simp[leB]
 | succ k ih =>
  intro n;have:=ih (n/256);rw[leB,this,leB];simp only[lo9];rw[lX9,lK9,lJ9 256]
theorem bw0 (k:Nat):∀ n,∀ x ∈ leB n k,0<=x/\x<256:=by
 induction k with
 | zero=>intro n x hx;cases hx
 | succ k ih =>
  intro n x hx;simp only[leB,lA9] at hx;rcases hx with rfl|hx
  ·omega
  ·exact ih _ x hx
def nbytes (n k j:Nat):List Int:=leB n j++List.replicate (k-j) 0
theorem pY0 (n k j:Nat)(h:j<k):(nbytes n k j).set j ((n/256^j % 256:Nat):Int)=nbytes n k (j+1):=by
 obtain⟨d,hd⟩:∃ d,k-j=d+1:=⟨k-j-1,oM⟩
 have e:k-(j+1)=d:=oM
 rw[nbytes,nbytes,hd,e,up0,List.replicate_succ,lm9];rw[List.set_append_right _ _ (by rw[ap0];exact nR _),ap0,nq9];rfl
def fF0 (bs:List Int):Array Value:=(bs.map (Value.int .u8)).toArray
theorem pB0 (bs:List Int)(j:Nat)(x:Int):(fF0 bs).setIfInBounds j (.int .u8 x)=fF0 (bs.set j x):=by simp[fF0]
variable {w:World}{base n:Nat}{bs:List Int}
theorem ByV.cells {g c:Nat}(h:w.heap[g]?=some (.cells (fF0 bs) 5))(hn:bs.length=n):ByV w (some ⟨g,0,none⟩) n c bs:=by
 refine⟨⟨hn,fun i x hx=>⟨g,0,rfl,loh h,?_⟩⟩,.inr ⟨g,0,_,rfl,h⟩⟩;rw[coh h];simp[fF0,hx]
structure eZ0 (w:World)(base r:Nat)(bs:List Int)(limit:Nat):Prop where
 ex:∃ v,w.heap[r]?=some (.cells #[v,.int .i64 limit,.bool false] 343)/\w.ownsRow base 5 1 v bs.length (bs.map (Value.int .u8))
 ge:base<=r
 room:bs.length<=limit/\limit<=65536
theorem eZ0.fr {S:Nat->Prop}{w':World}{r:Nat}{limit:Nat}(h:eZ0 w base r bs limit)(F:Fr S w w')(hS:∀ b,base<=b->b<w.heap.size->¬ S b):eZ0 w' base r bs limit:=by
 obtain⟨⟨v,hr,hown⟩,hg,hm⟩:=h;refine⟨⟨v,F.heap hr (hS r hg (loh hr)),?_⟩,hg,hm⟩;obtain⟨hl,h0|⟨g,cap,cur,hv,hb,hgg,rest⟩⟩:=hown
 ·exact⟨hl,.inl h0⟩
 ·exact⟨hl,.inr ⟨g,cap,cur,hv,hb,F.heap hgg (hS g hb (loh hgg)),rest⟩⟩
theorem dH0 {v:Value}(h:w.ownsRow base 5 1 v n (bs.map (Value.int .u8))):∃ a c,v = .slice a n c/\SlB w a n c bs/\(a=none\/∃ g,a=some ⟨g,0,none⟩/\base<=g):=by
 have h':=h;obtain⟨hl,⟨rfl,rfl⟩|⟨g,cap,cur,rfl,hb,hg,_⟩⟩:=h'
 ·have:bs=[]:=lH9 (by simpa using hl);subst this;exact⟨none,0,rfl,(ByV.nil w).slb,.inl rfl⟩
 ·obtain⟨g',cap',c',e,hg',hB⟩:=ex0 h (by intro e;cases e);cases e;exact⟨_,_,rfl,⟨hB,.inr ⟨_,rfl⟩⟩,.inr ⟨g,rfl,hb⟩⟩
end Go.Sg
namespace Go.Proofs.YtgdhaaokolfdoaaGreatDoor
open Go.RowKit Go.Sg
theorem rS0 (n k:Nat)(hk:k<=8)(hn:n<18446744073709551616)(w:World) :
  Calls Tryz.prog 238 #[.int .u64 n,.int .i64 k] w fun e w'=>e = .returned (.slice (some ⟨w.heap.size,0,none⟩) k k)/\ByV w' (some ⟨w.heap.size,0,none⟩) k k (Sg.leB n k)/\Fq w w':=by
 obtain⟨i0,hi,hz0,hz1,hz2⟩:=info_parts Tryz.info5;have hmk:=fun W=>cz0 (P:=Tryz.prog) 22 5 i0 _ Tryz.underlying22 hi hz0 k (by rw[hz2];omega) oM W
 rw[hz1] at hmk;clear hi hz0 hz1 hz2;go_enter Tryz.func238,Tryz.ntmps238;go_wp2
 go_loopw [0,11] (fun m i wr=>∃ j:Nat,j<=k/\i = .int .i64 j/\m = .int .u64 ((n/256^j:Nat):Int)/\wr.heap[w.heap.size]?=some (.cells (fF0 (nbytes n k j)) 5)/\Fq w wr) (fun _ i _=>k-(intOf i).toNat)
 case atStart =>
  refine⟨0,la9 _,rfl,by simp,?_,(Fr.refl _ _).alloc _⟩;rw[han];congr 2
  apply Array.toList_inj.1;rw[toList_madeCells_one];simp[fF0,nbytes,Sg.leB]
 case round =>
  obtain⟨j,hj,rfl,rfl,hg,hF⟩:=hrel;by_cases hlt:j<k
  ·have hlen:(nbytes n k j).length=k:=by simp[nbytes,ap0];omega
   have cj:wr.cell? ⟨w.heap.size,j,none⟩=some (.int .u8 ((nbytes n k j).getD j 0)):=by
    rw[coh hg];simp[fF0,List.getD,gE (show j<(nbytes n k j).length by omega)]
   have zj:=fun o=>foh hg o
   have hlg:=loh hg;have hjd:decide (j<k)=true:=by simpa using hlt
   have HG:=hid hg;have HF:=hid hF;have HLN:=hid hlen;clear hg hF hlen;go_wp2
   go_roundw;case rel =>
    refine⟨j+1,oM,by go_num,?_,?_,?_⟩
    ·rw[lK9,<- lX9];simp
    ·rw[hsc _ _ _ _ HG.out,show ((n:Int)/256^j % 256)=((n/256^j % 256:Nat):Int) by simp,pB0,pY0 n k j hlt]
    ·exact HF.out.an0 (nR _) _
   case measure=>simp[intOf];omega
  ·obtain rfl:j=k:=by omega
   go_wp2
   go_ret;have e:nbytes n j j=Sg.leB n j:=by simp[nbytes]
   rw[e] at hg;exact⟨rfl,ByV.cells hg (ap0 _ _),hF⟩
theorem dX0 (limit:Nat)(hl:limit<=65536)(w:World) :
  Calls Tryz.prog 178 #[.int .i64 limit] w fun e w'=>e = .returned (.pointer (some ⟨w.heap.size,0,none⟩))/\eZ0 w' w.heap.size w.heap.size [] limit/\Fq w w':=by
 go_enter Tryz.func178,Tryz.ntmps178;go_wp2
 go_ret;exact⟨rfl,⟨⟨_,han _ _,World.ownsRow_nil _ _ _ _⟩,nR _,la9 _,hl⟩,(Fr.refl _ _).alloc _⟩
variable {w:World}{base c limit n r:Nat}{bs xs:List Int}{a:Option Addr}
theorem jk0 {size:Nat}{v:Value}{xs:List Value}(h:w.ownsRow base 5 size v n xs){g:Nat}(hg:some g=v.ownBlock):base<=g/\∃ c,w.heap[g]?=some (.cells c 5):=by
 obtain⟨_,⟨rfl,_⟩|⟨g',cap,cur,rfl,hb,hh,_⟩⟩:=h
 ·cases hg
 ·cases hg;exact⟨hb,_,hh⟩
def WtS (w:World)(base r b:Nat):Prop:=base<=b/\(b=r\/∃ c,w.heap[b]?=some (.cells c 5))
theorem ss0 (h:eZ0 w base r bs limit)(hbase:base<=w.heap.size){b off:Nat}(hx:ByV w (some ⟨b,off,none⟩) n c xs)(hroom:bs.length+n<=limit) :
  Calls Tryz.prog 237 #[.pointer (some ⟨r,0,none⟩),.slice (some ⟨b,off,none⟩) n c] w fun e w'=>e = .returned (.tuple #[])/\eZ0 w' base r (bs++xs) limit/\Fr (WtS w base r) w w':=by
 obtain⟨i0,hi0,hz0,hz1,hz2⟩:=info_parts Tryz.info5;obtain⟨⟨v,hr,hown⟩,hge,hle,hlim⟩:=h;obtain⟨a,cv,rfl,_,_⟩:=dH0 hown;have c0:=coh hr 0;have c1:=coh hr 1;have c2:=coh hr 2;have cz:=fun o=>foh hr o
 simp at c0 c1 c2;have lt:=loh hr;have hd:decide (((limit:Int)-(bs.length:Int))<(n:Int))=false:=by simp;omega
 have hd2:¬ ((limit:Int)-(bs.length:Int))<(n:Int):=oM
 have hxl:=hx.len;have HR:=hid hr;have HO:=hid hown;have HX:=hid hx;have HXL:=hid hxl;clear hr hown hx hxl;go_enter Tryz.func237,Tryz.ntmps237;go_wp2
 go_region
 obtain⟨W1,hW1⟩:=eX ((w.setCell ⟨r,2,none⟩ (.bool false)).drew)
 rw[hW1];have F1:Fr (fun b=>b=r) w W1:=by rw[<- hW1];exact ((Fr.refl (fun b=>b=r) _).setCell (a:=⟨r,2,none⟩) (fun _=>rfl) _).drew
 have hr1:W1.heap[r]?=some (.cells #[.slice a bs.length cv,.int .i64 limit,.bool false] 343):=by
  rw[<- hW1];exact (hsc _ _ _ _ HR.out)
 have hs1:W1.heap.size=w.heap.size:=by rw[<- hW1];simp
 have ne5:∀ g cs,w.heap[g]?=some (.cells cs 5)->¬ g=r:=fun g cs hg e=>by rw[e,HR.out] at hg;cases hg
 have hown1:W1.ownsRow base 5 1 (.slice a bs.length cv) bs.length (bs.map (Value.int .u8)):=oRf HO.out F1 ne5;have hx1:ByV W1 (some ⟨b,off,none⟩) n c xs:=HX.out.fr F1 ne5;have e0:=coh hr1 0;have e1:=coh hr1 1;have e2:=coh hr1 2;have ez:=fun o=>foh hr1 o
 simp at e0 e1 e2;have lt1:=loh hr1;have hcell:∀ (j:Nat) (u:Value),(xs.map (Value.int .u8))[j]?=some u->W1.cell? ((⟨b,off,none⟩:Addr).add j)=some u:=fun j u hu=>by
  rw[gP] at hu;cases hx:xs[j]? with
  | none=>rw[hx] at hu;cases hu
  | some x =>
   rw[hx] at hu;cases hu;obtain⟨b',off',e,hb,hc⟩:=hx1.by_.at_ j x hx;cases e;rw[addr_add];exact hc
 have HC:=hid hcell;have HO1:=hid hown1;have HX1:=hid hx1;have HR1:=hid hr1;have HF1:=hid F1;clear hcell hown1 hx1 hr1 F1 hW1 c0 c1 c2 cz ne5;go_wp2_with (at_builtin;refine wpList_append_own_at _ rfl (.tmp 37) (.tmp 38) 22 rfl base 5 i0 _ 1 1 Tryz.underlying22 hi0 hz0 hz1 hz2 rfl dC _ _ _ rfl HO1.out ⟨b,off,none⟩ n c (xs.map (Value.int .u8)) rfl (by have:=HXL.out;simpa using this) HC.out ?c2 ?c3 ?c4 oM ?_)
 case c2=>intro u hu;obtain⟨x,_,rfl⟩:=ld9.1 hu;rfl
 case c3=>simp[maxLen];omega
 case c4=>omega
 intro v1 w2 hown2 hgrow hnil hat;have hr2:w2.heap[r]?=some (.cells #[.slice a bs.length cv,.int .i64 limit,.bool false] 343):=by
  refine (hgrow.block r lt1 fun e=>?_).trans HR1.out;obtain⟨_,cs,hc⟩:=jk0 HO1.out e;rw[HR1.out] at hc;cases hc
 have F2:Fr (fun b=>base<=b/\∃ c,W1.heap[b]?=some (.cells c 5)) W1 w2:=⟨hgrow.os,hgrow.tape,hgrow.output,hgrow.size,fun b hb hn=>hgrow.block b hb fun e=>hn (jk0 HO1.out e)⟩;obtain⟨a2,c2',rfl,_,_⟩:=dH0 (bs:=bs++xs) (by simpa using hown2);have H2:=hi2 hown2 (aI hr2 F2);have x0:=coh hr2 0;have xz:=fun o=>foh hr2 o
 simp at x0;have lt2:=loh hr2;clear hown2 hgrow hnil hat hr2 F2;go_wp2
 go_end0
 obtain⟨hown2,hr2,F2⟩:=H2.out;have F3:Fr (fun b=>b=r) w2 (w2.setCell ⟨r,0,none⟩ (.slice a2 (bs.length+n) c2')):=(Fr.refl (fun b=>b=r) _).setCell (a:=⟨r,0,none⟩) (fun _=>rfl) _;have hlen:(bs++xs).length=bs.length+n:=by rw[lA,HXL.out]
 refine⟨rfl,⟨⟨_,hsc _ _ _ _ hr2,?_⟩,hge,by rw[hlen];omega,hlim⟩,?_⟩
 ·rw[hlen,lt9];exact oRf hown2 F3 (fun g cs hg e=>by rw[e,hr2] at hg;cases hg)
 ·exact ((HF1.out.mono (S':=WtS w base r) (fun b _ e=>⟨by rw[e];exact hge,.inl e⟩)).trans F2 (fun b hb h=>⟨h.1,by
   by_cases hbr:b=r
   ·exact .inl hbr
   ·obtain⟨c,hc⟩:=h.2;exact .inr ⟨c,(HF1.out.block b hb hbr).symm.trans hc⟩⟩)).trans F3 (fun b _ e=>⟨by rw[e];exact hge,.inl e⟩)
theorem sw0 (h:eZ0 w base r bs limit) :
  Calls Tryz.prog 237 #[.pointer (some ⟨r,0,none⟩),.slice none 0 0] w fun e w'=>e = .returned (.tuple #[])/\eZ0 w' base r bs limit/\Fr (WtS w base r) w w':=by
 obtain⟨⟨v,hr,hown⟩,hge,hle,hlim⟩:=h;obtain⟨a,cv,rfl,_,_⟩:=dH0 hown;have c0:=coh hr 0;have c1:=coh hr 1;have c2:=coh hr 2;have cz:=fun o=>foh hr o
 simp at c0 c1 c2;have lt:=loh hr;have hd:decide (((limit:Int)-(bs.length:Int))<0)=false:=by simp;omega
 have hd2:¬ ((limit:Int)-(bs.length:Int))<0:=oM
 have HR:=hid hr;have HO:=hid hown;clear hr hown;go_enter Tryz.func237,Tryz.ntmps237;go_wp2
 go_region
 obtain⟨W1,hW1⟩:=eX ((w.setCell ⟨r,2,none⟩ (.bool false)).drew)
 rw[hW1];have F1:Fr (fun b=>b=r) w W1:=by rw[<- hW1];exact ((Fr.refl (fun b=>b=r) _).setCell (a:=⟨r,2,none⟩) (fun _=>rfl) _).drew
 have hr1:W1.heap[r]?=some (.cells #[.slice a bs.length cv,.int .i64 limit,.bool false] 343):=by
  rw[<- hW1];exact (hsc _ _ _ _ HR.out)
 have ne5:∀ g cs,w.heap[g]?=some (.cells cs 5)->¬ g=r:=fun g cs hg e=>by rw[e,HR.out] at hg;cases hg
 have hown1:W1.ownsRow base 5 1 (.slice a bs.length cv) bs.length (bs.map (Value.int .u8)):=oRf HO.out F1 ne5;have e0:=coh hr1 0;have e2:=coh hr1 2;have ez:=fun o=>foh hr1 o
 simp at e0 e2;have lt1:=loh hr1;obtain⟨i0,hi0,_⟩:=info_parts Tryz.info5;have HO1:=hid hown1;have HR1:=hid hr1;have HF1:=hid F1;clear hown1 hr1 F1 hW1 c0 c1 c2 cz ne5;go_wp2_with (at_builtin;refine wpList_append_own_none rfl (.tmp 37) (.tmp 38) 22 rfl base 5 i0 1 Tryz.underlying22 hi0 _ _ _ rfl HO1.out rfl ?_)
 go_end0
 have F3:Fr (fun b=>b=r) W1 (W1.setCell ⟨r,0,none⟩ (.slice a bs.length cv)):=(Fr.refl (fun b=>b=r) _).setCell (a:=⟨r,0,none⟩) (fun _=>rfl) _;refine⟨rfl,⟨⟨_,hsc _ _ _ _ HR1.out,?_⟩,hge,hle,hlim⟩,?_⟩
 ·exact oRf HO1.out F3 (fun g cs hg e=>by rw[e,HR1.out] at hg;cases hg)
 ·exact (HF1.out.mono (S':=WtS w base r) (fun b _ e=>⟨by rw[e];exact hge,.inl e⟩)).trans F3 (fun b _ e=>⟨by rw[e];exact hge,.inl e⟩)
theorem on0 (h:eZ0 w base r bs limit)(hbase:base<=w.heap.size)(hx:ByV w a n c xs)(hroom:bs.length+n<=limit) :
  Calls Tryz.prog 237 #[.pointer (some ⟨r,0,none⟩),.slice a n c] w fun e w'=>e = .returned (.tuple #[])/\eZ0 w' base r (bs++xs) limit/\Fr (WtS w base r) w w':=by
 rcases hx.at_ with⟨rfl,rfl,rfl⟩|⟨b,off,cs,rfl,_⟩
 ·have:xs=[]:=lH9 hx.len;subst this;rw[mF9];exact sw0 h
 ·exact ss0 h hbase hx hroom
theorem dp0 (h:eZ0 w base r bs limit)(hbase:base<=w.heap.size)(n k:Nat)(hk:k=1\/k=2\/k=4\/k=8)(hn:n<18446744073709551616)(hroom:bs.length+k<=limit) :
  Calls Tryz.prog 179 #[.pointer (some ⟨r,0,none⟩),.int .u64 n,.int .i64 k] w fun e w'=>e = .returned (.tuple #[])/\eZ0 w' base r (bs++Sg.leB n k) limit/\Fr (WtS w base r) w w':=by
 have HM:=hid (fun W=>vO0 k hk W);have HN:=hid (rS0 n k oM hn w);have H:=hid h;clear h hk;go_enter Tryz.func179,Tryz.ntmps179;go_wp2_with (go_at_call 236;refine (HM.out _).mono ?_;rintro e w' ⟨rfl,rfl⟩)
 refine HN.out.mono ?_;rintro e w1 ⟨rfl,hb,F1⟩;have HF1:=hid F1;have HR:=hid (on0 (H.out.fr F1 (fun _ _ _ h=>h)) (nT hbase F1.size) hb hroom);clear hb F1;go_wp2_with fail
 refine HR.out.mono ?_;rintro e w2 ⟨rfl,hW,F2⟩;have HF2:=hi2 hW F2;clear hW F2;go_wp2
 go_end0
 exact⟨rfl,HF2.out.1,(HF1.out.mono (S':=WtS w base r) nE).trans HF2.out.2 (fun b hb h=>⟨h.1,h.2.imp id fun⟨c,hc⟩=>⟨c,(HF1.out.block b hb id).symm.trans hc⟩⟩)⟩
theorem su0 (h:eZ0 w base r bs limit)(hbase:base<=w.heap.size)(hx:ByV w a n c xs)(hroom:bs.length+n<=limit) :
  Calls Tryz.prog 237 #[.pointer (some ⟨r,0,none⟩),.slice a n c] w fun e w'=>e = .returned (.tuple #[])/\eZ0 w' base r (bs++xs) limit/\Fr (fun b=>base<=b) w w':=
 (on0 h hbase hx hroom).mono fun e w' ⟨he,hw,F⟩=>⟨he,hw,F.mono fun _ _ h=>h.1⟩
theorem iR0 (h:eZ0 w base r bs limit)(hbase:base<=w.heap.size)(n k:Nat)(hk:k=1\/k=2\/k=4\/k=8)(hn:n<18446744073709551616)(hroom:bs.length+k<=limit) :
  Calls Tryz.prog 179 #[.pointer (some ⟨r,0,none⟩),.int .u64 n,.int .i64 k] w fun e w'=>e = .returned (.tuple #[])/\eZ0 w' base r (bs++Sg.leB n k) limit/\Fr (fun b=>base<=b) w w':=
 (dp0 h hbase n k hk hn hroom).mono fun e w' ⟨he,hw,F⟩=>⟨he,hw,F.mono fun _ _ h=>h.1⟩
theorem ft0 (h:eZ0 w base r bs limit) :
  Calls Tryz.prog 180 #[.pointer (some ⟨r,0,none⟩)] w fun e w'=>∃ a c,e = .returned (.slice a bs.length c)/\(ByV w' a bs.length c bs/\bs.length<=c)/\Fq w w':=by
 obtain⟨⟨v,hr,hown⟩,hge,hle,hlim⟩:=h;obtain⟨a,cv,rfl,hs,_⟩:=dH0 hown;have c0:=coh hr 0;simp at c0;have HC:=hid (dz0 hs oM);clear hr hown hs;go_enter Tryz.func180,Tryz.ntmps180;go_wp2_with fail
 refine HC.out.mono ?_;rintro e w1 ⟨a',c',rfl,hb,F1⟩;have HB:=hi2 hb F1;clear hb F1;go_wp2
 go_ret;exact⟨a',c',rfl,HB.out.1,HB.out.2⟩
end Go.Proofs.YtgdhaaokolfdoaaGreatDoor
namespace Go.Sg
open Go.RowKit
theorem Fr.setCells {S:Nat->Prop}{w:World}{b:Nat}(hb:w.heap.size<=b)(vs:List Value):∀ (o:Nat) (w1:World),Fr S w w1->Fr S w (w1.setCells b o vs):=by
 induction vs with
 | nil=>intro o w1 h;exact h
 | cons v vs ih=>intro o w1 h;exact ih (o+1) _ (h.an0 hb v)
theorem cv0 {P:Program}{fn:Func}{p:Tmp}{ty:TypeId}(h:fn.results=#[.cell p ty])(tmps:Array Value)(w:World)(g:Nat)(cs:List Value)(d:TypeDesc)
  (hp:tmps.getD p undef = .pointer (some ⟨g,0,none⟩)) (hg:w.rangeAt g 0 cs) (hu:P.underlying ty=some d) (hd:d.isRow=true) (hi:(P.info? ty).map (·.size)=some cs.length) :
  (results fn tmps).run P w = .ok (.agg cs.toArray) w:=by
 have hp':tmps[p]?.getD undef = .pointer (some ⟨g,0,none⟩):=by simpa using hp
 have h1:=run_loadVar_mid w g 0 ty cs d hg hu hd hi;simp[results,h,hp',asAddr,h1]
end Go.Sg
namespace Go.Proofs.YtgdhaaokolfdoaaGreatDoor
open Go.RowKit Go.Sg
abbrev mu0 (p:bp0):List Value:=[.int .i64 p.size,.int .i64 96,.int .i64 512,.int .i64 p.sectors,.int .i64 1,.int .i64 16384,.int .i64 p.regions,.int .i64 3,.int .i64 64,.int .i64 p.rsectors,.int .i64 1,.int .i64 32,.int .i64 p.log,.int .i64 4,.int .i64 256,.int .i64 p.depth,.int .i64 0,.int .i64 8,.int .i64 p.memory,.int .i64 8,.int .i64 256]
theorem Tryz.sS0:(Tryz.prog.info? 327).map (·.size)=some 21:=by kernel_rfl
abbrev xI0:Array Value:=#[.int .i64 0,.int .i64 0,.int .i64 0,.int .i64 0,.int .i64 0,.int .i64 0,.int .i64 0,.int .i64 0,.int .i64 0,.int .i64 0,.int .i64 0,.int .i64 0,.int .i64 0,.int .i64 0,.int .i64 0,.int .i64 0,.int .i64 0,.int .i64 0,.int .i64 0,.int .i64 0,.int .i64 0]
theorem qY0 (p:bp0)(w:World):Calls Tryz.prog 222 #[p.val] w fun e w'=>e = .returned (.agg (mu0 p).toArray)/\Fq w w':=by
 obtain⟨a,b,c,d,f,g,h,s⟩:=p;obtain⟨W,hW⟩:=eX ((w.alloc (.cells #[.int .i64 a,.int .i64 b,.int .i64 c,.int .i64 d,.int .i64 f,.int .i64 g,.int .i64 h,.int .u64 s] 31)).alloc (.cells xI0 327))
 obtain⟨b0,b1,F1⟩:=ai0 hW;have hs1:w.heap.size+1<W.heap.size:=loh b1;have ht:W.there (w.heap.size+1) 0 21:=by
  intro j hj;refine⟨?_,foh b1 _⟩;rw[coh b1];simp;omega
 have HT:=hid ht;obtain⟨w9,hw9⟩:=eX (W.setCells (w.heap.size+1) 0 (mu0 ⟨a,b,c,d,f,g,h,s⟩).toArray.toList)
 have hr9:w9.rangeAt (w.heap.size+1) 0 (mu0 ⟨a,b,c,d,f,g,h,s⟩):=by
  rw[<- hw9];exact World.rangeAt_setCells_same _ _ _ _ ht
 have F9:Fq w w9:=by
  rw[<- hw9];exact Fr.setCells oM _ _ _ F1
 have c0:=coh b0 0;have c1:=coh b0 1;have c2:=coh b0 2;have c3:=coh b0 3;have c4:=coh b0 4;have c5:=coh b0 5;have c6:=coh b0 6;simp at c0 c1 c2 c3 c4 c5 c6;have HR:=hid hr9;have HF:=hid F9;have HW:=hid hW;have HW9:=hid hw9;clear ht hw9 hr9 F9 hs1 hW b0 b1 F1;go_enter Tryz.func222,Tryz.ntmps222;go_upto_region 1 with (fail)
 simp only[HW.out];iterate 100 (first|(refine wpList_store_mid rF 327 (.tmp 2) (.tmp 24) rF (w.heap.size+1) 0 (mu0 ⟨a,b,c,d,f,g,h,s⟩).toArray rF rF HT.out (by rw[Tryz.sS0];rfl) (by simp[Value.oneCell']) ?_)|go_step|skip)
 have e9:W.setCells (w.heap.size+1) 0 (mu0 ⟨a,b,c,d,f,g,h,s⟩)=w9:=HW9.out;rw[e9];exact bodyPost_ret (v:=.agg (mu0 ⟨a,b,c,d,f,g,h,s⟩).toArray) (cv0 rfl _ _ (w.heap.size+1) (mu0 ⟨a,b,c,d,f,g,h,s⟩) _ rfl HR.out Tryz.underlying327 rfl (by rw[Tryz.sS0];rfl)) rfl ⟨rfl,HF.out⟩
end Go.Proofs.YtgdhaaokolfdoaaGreatDoor
namespace Go.Sg
def gx0 (i:Nat):Nat->Nat
 | 0=>i
 | m+1=>cl0 (gx0 i m)
theorem kE0 (i:Nat):cY0 i=gx0 i 8:=rfl
theorem oG0 {n:Nat}(h:n<4294967296):cl0 n<4294967296:=by
 unfold cl0;refine mo9 (n:=32) oM ?_;split <;> omega
theorem nX0 {i:Nat}(h:i<4294967296):∀ m,gx0 i m<4294967296:=by
 intro m;induction m with
 | zero=>exact h
 | succ m ih=>exact oG0 ih
theorem kD0 {i:Nat}(h:i<256):cY0 i<4294967296:=by rw[kE0];exact nX0 oM 8
def ef0 (i:Nat):List Value:=(List.range 256).map fun j=>.int .u32 ((if j<i then cY0 j else 0:Nat):Int)
theorem cT0 (i:Nat):(ef0 i).length=256:=by simp[ef0]
theorem vt0 (i:Nat)(h:i<256):(ef0 i).set i (.int .u32 (cY0 i:Nat))=ef0 (i+1):=by
 apply ms9;intro j;by_cases hj:j<256
 ·rw[lU9];by_cases e:i=j
  ·subst e;simp[ef0,hj]
  ·rw[if_neg e];simp only[ef0,gP,List.getElem?_range hj,mC9];congr 2
   by_cases h1:j<i
   ·rw[if_pos h1,if_pos oM]
   ·rw[if_neg h1,if_neg oM]
 ·rw[mi9 (by rw[lx9,cT0];omega),mi9 (by rw[cT0];omega)]
end Go.Sg
namespace Go.Proofs.YtgdhaaokolfdoaaGreatDoor
open Go.RowKit Go.Sg
theorem xK0:Tryz.zeroCells396=(List.replicate 256 (Value.int .u32 0)).toArray:=by kernel_rfl
theorem no0:ef0 0=List.replicate 256 (Value.int .u32 0):=by
 rw[ef0,mX9 (g:=fun _=>Value.int .u32 0) (fun j _=>by rw[if_neg (Nat.not_lt_zero j)];rfl),List.map_const',List.length_range]
theorem lN0:Tryz.zeroCells396=(ef0 0).toArray:=by rw[xK0,no0]
theorem vr0 (w:World) :
  Calls Tryz.prog 289 #[] w fun e w'=>e = .returned (.agg (ef0 256).toArray)/\Fq w w':=by
 go_enter Tryz.func289,Tryz.ntmps289;go_wp2
 rw[lN0];go_loopw [5] (fun s wr=>∃ i:Nat,i<=256/\s = .int .i64 i/\wr.heap[w.heap.size+1]?=some (.cells (ef0 i).toArray 396)/\wr.heap[w.heap.size]?=some (.cells (ef0 0).toArray 396)/\Fq w wr) (fun s _=>256-(intOf s).toNat)
 case atStart =>
  obtain⟨h0,h1,F⟩:=ai0 (w:=w) (A:=.cells (ef0 0).toArray 396) (B:=.cells (ef0 0).toArray 396) rfl;exact⟨0,la9 _,rfl,h1,h0,F⟩
 case round =>
  obtain⟨i,hi,rfl,h1,h0,hF⟩:=hrel;by_cases hlt:i<256
  ·have cj:wr.cell? ⟨w.heap.size+1,i,none⟩=some (.int .u32 0):=by
    rw[coh h1];simp[ef0,hlt]
   have zj:=fun o=>foh h1 o
   have hlg:=loh h1;have hid1:decide (i<256)=true:=by simpa using hlt
   have hid2:decide ((i:Int)<256)=true:=by simp;omega
   have H:=hi2 h1 (aI h0 hF);clear h1 h0 hF;go_wp2
   obtain⟨wo,rfl⟩:∃ wo:World,wo=wr:=⟨_,rfl⟩
   go_loop [3,10] (fun n s=>∃ m:Nat,m<=8/\s = .int .i64 m/\n = .int .u32 (gx0 i m:Nat)) (fun _ s=>8-(intOf s).toNat)
   case atStart=>exact⟨0,la9 _,rfl,rfl⟩
   case round =>
    obtain⟨m,hm,rfl,rfl⟩:=hrel;have hl:=nX0 (i:=i) oM m;by_cases hlm:m<8
    ·have hd3:decide ((m:Int)<8)=true:=sO;go_wp2
     go_round
     case rel =>
      refine⟨m+1,oM,by go_num,?_⟩;have e1:bits BinOp.and IntKind.u32 ((gx0 i m:Nat):Int) 1=((gx0 i m % 2:Nat):Int):=by
       rw[show (1:Int)=((1:Nat):Int) from rfl,u32_and_nat _ _ hl dC,nat_mask1]
      rw[e1];have h2:gx0 i m % 2=0\/gx0 i m % 2=1:=oM;have e2:(2197175160*((gx0 i m % 2:Nat):Int) % 4294967296)=(((if gx0 i m % 2=1 then 2197175160 else 0):Nat):Int):=by
       rcases h2 with h2|h2 <;> rw[h2] <;> rfl
      rw[e2,show ((gx0 i m:Nat):Int)/2=((gx0 i m/2:Nat):Int) by simp,u32_xor_nat _ _ oM (by split <;> omega)];rfl
     case measure=>simp[intOf];omega
    ·obtain rfl:m=8:=by omega
     go_wp2
     go_roundw;case rel =>
      obtain⟨h1,h0,hF⟩:=H.out;refine⟨i+1,oM,by go_num,?_,?_,hF.an0 oM _⟩
      ·rw[hsc _ _ _ _ h1];congr 2
       rw[<- kE0,<- vt0 i hlt];simp
      ·exact (ao0 _ _ _ _ sP).trans h0
     case measure=>simp[intOf];omega
  ·obtain rfl:i=256:=by omega
   go_upto_region 13 with (fail)
   have hsz:(Tryz.prog.info? 396).map (·.size)=some (ef0 256).toArray.size:=by rw[zA,cT0];kernel_rfl
   have hsz2:(Tryz.prog.info? 396).map (·.size)=some (ef0 256).length:=by rw[cT0];kernel_rfl
   have hu:Tryz.prog.underlying 396=some (.array 256 373):=by kernel_rfl
   have ht:wr.there w.heap.size 0 (ef0 256).toArray.size:=by
    intro j hj;refine⟨?_,foh h0 _⟩;rw[coh h0];rw[zA,cT0] at hj;simp[ef0];omega
   have h1c:(ef0 256).toArray.all (·.oneCell')=true:=by simp[ef0,Value.oneCell']
   have hr9:(wr.setCells w.heap.size 0 (ef0 256)).rangeAt w.heap.size 0 (ef0 256):=World.rangeAt_setCells_same _ _ _ _ (by simpa using ht);have F9:Fq w (wr.setCells w.heap.size 0 (ef0 256)):=Fr.setCells oM _ _ _ hF;iterate 60 (first|(refine wpList_load_row rF 396 (.tmp 1) rF (w.heap.size+1) rF 396 (ef0 256).toArray (0,0) (.array 256 373) h1 hu rfl hsz ?_)|(refine wpList_store_mid rF 396 (.tmp 0) (.tmp 24) rF w.heap.size 0 (ef0 256).toArray rF rF ht hsz h1c ?_)|go_step|skip)
   trace_state
   exact bodyPost_ret (v:=.agg (ef0 256).toArray) (cv0 rfl _ _ w.heap.size (ef0 256) _ rfl hr9 hu rfl hsz2) rfl ⟨rfl,F9⟩
