/- A pack of texts. Conditions: those that each names. -/
import Derived.Test.YtgdhaaokolfdoaaGreatDoorNBM
set_option maxHeartbeats 16000000
set_option maxRecDepth 100000
set_option linter.all false
namespace Go.Proofs.YtgdhaaokolfdoaaGreatDoor
open Tryz
section
open Go.RowKit Go.Sg Go.Shelf
attribute [local go_sem] Oper.semAt_some
abbrev Dt0 (x:Sw):Array Value:=#[sL x.la x.ll x.lc]
def TG (x:Sw)(W:w9):Prop:=x.ll<=512/\∃ bs,T0 W x.la x.ll x.lc bs
variable {A C W W' w wE:w9}{M b3 ba base bd bf bo bq d k l m n:Nat}
def TG.fr {x:Sw}{w':w9}{S:Nat->Prop}(h:TG x w)(F:Fr S w w')(hS:∀ b c,w.heap[b]?=some (.cells c 5)->¬ S b):TG x w':=by
 obtain⟨h1,bs,h2⟩:=h;exact⟨h1,bs,h2.fr F hS⟩
def yu (m bo M:Nat)(A C:w9):Prop:=Fr (fun b=>m<=b) A C/\∀ b o,A.heap[b]?=some o->b≠bo->(∀ c f,o≠.cells c 22 f)->(o.isCells=true\/M<=b)->C.heap[b]?=some o
def yu.trans {D:w9}(h:yu m bo M A C)(k:yu m bo M C D):yu m bo M A D:=
 ⟨h.1.trans k.1 nI,fun b o hb hn ht hc=>k.2 b o (h.2 b o hb hn ht hc) hn ht hc⟩
def yu.cells (h:yu m bo M A C){b:Nat}{c:Array Value}{t:TypeId}(hb:A.heap[b]?=some (.cells c t))(ht:t≠22)(hn:b≠bo):C.heap[b]?=some (.cells c t):=
 h.2 b _ hb hn (fun c' f e=>by cases e;exact ht rfl) (.inl rfl)
def rs0 {N:Nat}{v:Value}(h:kY w base N v):∃ a c,∃ ws:List Sw,v = sL a ws.length c/\w.ownsRow base 22 1 (sL a ws.length c) ws.length (ws.map Sw.v)/\ws.length<=N/\∀ (i:Nat) (x:Sw),ws[i]?=some x->TG x w:=by
 obtain⟨n,xs,hn,ho,hx⟩:=h;have key:∀ xs:List Value,(∀ x ∈ xs,∃ a k cap bs,x=sL a k cap/\T0 w a k cap bs/\k<=512)->∃ ws:List Sw,xs=ws.map Sw.v/\∀ x ∈ ws,TG x w:=by
  intro xs;induction xs with
  | nil=>exact fun _=>⟨[],rfl,fun x hx=>by cases hx⟩
  | cons x xs ih =>
   intro h;obtain⟨ws,rfl,hw⟩:=ih fun z hz=>h z (jH _ hz)
   obtain⟨a,k,cap,bs,rfl,h1,h2⟩:=h x sP;exact⟨⟨a,k,cap⟩ :: ws,rfl,fun z hz=>(d9.1 hz).elim (fun e=>by subst e;exact⟨h2,bs,h1⟩) (hw z)⟩
 obtain⟨ws,rfl,hw⟩:=key xs hx;have hl:ws.length=n:=by have:=ho.1;simpa using this
 subst hl;obtain⟨a,c,rfl,-⟩:=A2 ho;exact⟨a,c,ws,rfl,ho,hn,fun i x hi=>hw x (gM hi)⟩
variable {D:Dev}
def jp0 (h:Q4 w base d bf bq D)(k:Nat) :
  ∃ a c,∃ ws:List Sw,w.ownsRow base 22 1 (sL a ws.length c) ws.length (ws.map Sw.v)/\ws.length<=D.acts/\(∀ (i:Nat) (x:Sw),ws[i]?=some x->TG x w) /\
   ∀ W,Fq w W->(Instr.lookup 148 (.map (some bq)) (iI k) false).run prog W = .ok (sL a ws.length c) W:=by
 obtain⟨l,ck,hq,ah,jg,fN⟩:=h.past;have hlk:=fun (W:w9) (F:Fq w W)=>yT (P:=prog) (T:=148) false underlying148 underlying3 yQ (F.heap hq id) (k:Int)
 have jf:kY w base D.acts ((Sg.look l k).getD (sL none 0 0)):=by
  cases hl:Sg.look l k with
  | none=>exact⟨0,[],C3 _,World.ownsRow_nil _ _ _ _,fun x hx=>by cases hx⟩
  | some v =>
   obtain⟨e0,h1,_,h3⟩:=PQ hl;have:=jg e0 h1;rw[h3] at this;exact this
 simp only[jI,if_false] at hlk;generalize (Sg.look l k).getD (sL none 0 0)=pv at hlk jf;obtain⟨a,c,ws,rfl,h1,h2,h3⟩:=rs0 jf;exact⟨a,c,ws,h1,h2,h3,hlk⟩
def qy (wE:w9)(J:List Sw->World->Prop)(b3 bd ba l d k:Nat)(n:Nat)(W:w9):Prop:=
 (∃ pre',pre'.length=n/\J pre' W)/\Fq wE W/\W.heap[b3]?=some (.cells #[.func (.yield l) #[] #[]] 42)/\W.heap[bd]?=some (.cells #[pO d] 27)/\W.heap[ba]?=some (.cells #[iI k] 3)
variable {J:List Sw->World->Prop}
def zw0 {β:Type}{B B':Nat}(f:β->Nat)(hJ:OwnFrom B J)(hB:B<=B')(hE:wE<=B'):OwnFrom B' (fun (s:β) W=>qy wE J b3 bd ba l d k (f s) W):=
 U6 (sj fun pre'=>U6 (eR _ _) fun _ X Y row hs hg hr=>hJ pre' X Y row hs hg fun r e=>⟨nT hB (hr r e).1,(hr r e).2⟩) (U6 (oY hE) (U6 (gU _ _ _ fun _=>.inl rfl) (U6 (gU _ _ _ fun _=>.inl rfl) (gU _ _ _ fun _=>.inl rfl))))
def qy.fr (h:qy wE J b3 bd ba l d k n W)(hJ:∀ pre A C,J pre A->Fq A C->J pre C)(F:Fq W W'):qy wE J b3 bd ba l d k n W':=by
 obtain⟨⟨p,h0,h1⟩,h2,h3,h4,h5⟩:=h;exact⟨⟨p,h0,hJ _ _ _ h1 F⟩,h2.trans F nI,F.heap h3 id,F.heap h4 id,F.heap h5 id⟩
def qy.kp (h:qy wE J b3 bd ba l d k n W)(K:yu wE.heap.size bo M W W')(hn:b3≠bo/\bd≠bo/\ba≠bo){pre:List Sw}(hp:pre.length=n+1)(hJ:J pre W'):qy wE J b3 bd ba l d k (n+1) W':=by
 obtain⟨-,h2,h3,h4,h5⟩:=h;exact⟨⟨pre,hp,hJ⟩,h2.trans K.1 fun b hb hs=>oM,K.cells h3 dC hn.1,K.cells h4 dC hn.2.1,K.cells h5 dC hn.2.2⟩
def sC0 (h:Q4 wE base d bf bq D)(Q7:D.acts<=100000)(hk:k<D.C0)(FE:Fq wE w)
  (iR:w.heap[bd]?=some (.cells #[pO d] 27)) (sY:w.heap[ba]?=some (.cells #[iI k] 3)) (cC:∃ v,w.heap[bo]?=some (.cells #[v] 203)) :
  xU0 Fence.wide 10 prog 234 #[pO bd,pO ba] Dt0 TG (Fq) (yu wE.heap.size bo (w.heap.size+2)) (fun _=>True) 100002 w:=fun l J W hW hJ uZ hY h0=>by
 have FW:Fq w W:=Fr.of_below hW;have FEW:=FE.trans FW nI;have hD:=h.fr FEW id id id fun _ _ _ _ _ h=>h;obtain⟨a,c,ws,A0,bZ,X7,hlk⟩:=jp0 h k;obtain⟨lv,xq,-⟩:=h.dc;have HB:=hi2 (FW.heap iR id) (aI (FW.heap sY id) cC);have HRg:=hid h.rg;have HE:=hi2 A0 (aI bZ (aI X7 hlk));have HD:=hid xq;have HF:=hi2 FEW (aI FW FE);obtain⟨n,hn⟩:=eX ws.length
 have HN:=hid hn;obtain⟨b3,P5⟩:=eX W.heap.size
 obtain⟨W1,M2⟩:=eX (W.alloc (.cells #[.func (.yield l) #[] #[]] 42))
 have F1:=fA M2
 have h3:W1.heap[b3]?=some (.cells #[.func (.yield l) #[] #[]] 42):=by rw[<- M2,<- P5];exact han _ _
 have HG:=hid (show qy wE J b3 bd ba l d k 0 W1 from⟨⟨[],rfl,uZ _ _ _ h0 F1⟩,FEW.trans F1 nI,h3,F1.heap HB.1 id,F1.heap HB.2.1 id⟩);have R6:=hid M2;have cN:=hid P5;have E1:=hid F1;have hne:b3≠bo/\bd≠bo/\ba≠bo:=by
  obtain⟨v,hv⟩:=cC;refine⟨fun e=>?_,fun e=>?_,fun e=>?_⟩
  .have:=M0 hv;have:=FW.size;omega
  .rw[e,hv] at iR;cases iR
  .rw[e,hv] at sY;cases sY
 have Bb:=hid hne;clear h hD xq hW h0 FW FEW FE iR sY cC A0 bZ X7 hlk hn M2 F1 h3 P5 hne;refine callsIn_of_wp_marks func234 rfl trivial ?_ rfl;simp only[ntmps234,zA,lC,cJ,Nat.reduceAdd,Nat.reduceSub,dV,dW,dZ,dX,C7,ak];gi_upto_region 1 with (fail)
 rw[R6,cN];have c1:=G0 HG.2.2.2.1 0;have c2:=G0 HG.2.2.2.2 0;simp at c1 c2;have HTh:=hid (mL0 (d:=d) (at_:=(k:Int)) (n:=(D.C0:Int)) (by have:=G0 (HG.2.1.heap HD.o id) 0;simpa using this) oM oM);gi_wp2_with (gi_at_call 230;refine (callsIn_wide.2 HTh.o).mono ?_;rintro e w' ⟨rfl,rfl⟩)
 have ti:W1.cell? (aA d 4)=some (.map (some bq)):=by simpa using G0 (HG.2.1.heap HD.o id) 4
 have HC:=hid fun V (F:Fq W1 V)=>aI ((F.cell (p:=⟨bd,0,none⟩) (M0 HG.2.2.2.1) id).trans c1) (aI ((F.cell (p:=⟨ba,0,none⟩) (M0 HG.2.2.2.2) id).trans c2) (aI ((F.cell (p:=⟨d,4,none⟩) (World.block_lt_of_cell? _ _ ti) id).trans ti) (aI (World.block_lt_of_cell? _ _ ti) (HE.2.2.2 V (HG.2.1.trans F nI)))));have FD:=(Fr.refl (fun _=>False) W1).drew;refine wpIn_wide.2 (wp_region_noPanic ?_);refine q8 (fun V=>Fq W1 V) (.rd 0 (.rd 1 (.rd 2 (.rd 3 (.rd 4 (.rd 5 (.op 6 .done))))))) kF kF kF (fun _ _ _ _ _ h=>h) FD ?_;iterate 6
  refine oP ?_ ?_ ?_;rotate_left
  .intro V hV;obtain⟨e1,e2,e3,e4,e5⟩:=HC.o V hV;go_simp;try with_reducible rfl
 refine rQ fun K hK=>?_;refine (rC0 a ws.length c _).mono ?_;rintro _ W2 ⟨rfl,eV⟩;refine hK _ _ (by rw[<- eV];exact FD.alloc _) ?_;clear hK K;refine o5 ?_;refine NoPanic.normal ?_;try simp only[Act.put,sI,sZ,sS]
 gi_wp2_with (fail)
 obtain⟨bx,U3⟩:=eX W1.heap.size
 have F2:Fq W1 W2:=by rw[<- eV];exact FD.alloc _
 have ce:W2.heap[bx]?=some (.cells #[sL a ws.length c] 203):=by rw[<- eV,<- U3];exact han _ _
 have hG2:=qy.fr HG.o uZ F2;have fP:=M0 ce;have hsE:wE<=bx:=by have:=HG.2.1.size;omega
 have kG:W<=bx:=by have:=E1.size;omega
 have hsM:w.heap.size+2<=W2.heap.size:=by have:=HF.2.1.size;have:=E1.size;have:=M0 HG.2.2.1;have:=cN.o;omega
 have N0:=K3 HE.1 (HG.2.1.trans F2 nI) fun _ _ _ h=>h;have M8:∀ g,a=some ⟨g,0,none⟩->g<wE.heap.size:=fun g e=>by
  obtain⟨_,⟨h1,h2⟩|⟨g',cap,cur,h1,_,hg,_⟩⟩:=HE.1
  .obtain⟨h3,_,_⟩:=Value.slice.inj h1;rw[h3] at e;cases e
  .obtain⟨h3,_,_⟩:=Value.slice.inj h1;rw[h3] at e;cases e;exact M0 hg
 simp only[U3];have ZV:=hid M8;have jq:=hi2 ce (aI hG2 F2);clear eV hG2 F2 FD M8 c1 c2 ti;refine wpIn_rangeFunc_ownH (F:=Fence.wide) rfl oM (gf:=271) (lb:=#[pO bx]) rfl trivial (enters_of func271 kF rfl)
  (nw0 (ok:=fun _ x=>TG x wE) N0 (by have:=HE.2.1;omega) (fun i x hx=>HE.2.2.1 i x hx) ce) (fun h k=>⟨k.1.trans h.1,fun g e=>(k.2 g e).trans (h.2 g e)⟩) (fun W l o o' hl _ _ _=>⟨aC _ _ _ _ oM,fun g e=>aC _ _ _ _ (by have:=ZV.o g e;omega)⟩) (Below.refl _ _) (fun _=>rfl)
  (fun pre V=>qy wE J b3 bd ba l d k pre.length V/\V.heap[bx]?=some (.cells #[sL a ws.length c] 203)) (fun _ _ _=>False) (U6 (zw0 _ hJ oM oM) (gU _ _ _ fun _=>.inl rfl)) (fun _ _ _ _ _ h _ _=>h.elim) ⟨jq.2.1,jq.1⟩
  (fun x a' _=>a'={ tmps:=#[.func (.yield l) #[] #[],pO bd,pO ba,pO b3,undef,sL x.1.2.la x.1.2.ll x.1.2.lc,pO d,bO false,bO false,pO d,iI k,bO true,bO false,bO false,pO d,pO d,pO (aP d 4),.map (some bq),iI k,sL a ws.length c,.func (.func 271) #[] #[pO bx],iI x.1.1,sL x.1.2.la x.1.2.ll x.1.2.lc,undef,undef,undef,undef,undef,undef,undef,undef,undef,undef,undef,undef],defers:=[] })
  (fun x a'=>eR _ fun _=>_) ?assign ?body ?done ?stop
 case assign =>
  rintro l2 pre x V K hI hK;gi_wp2
  exact hK _ _ (KeepsFrom.refl _ _) ⟨rfl,fun _ _=>rfl⟩ hI rfl
 case body =>
  rintro l2 pre ⟨⟨i,⟨xa,xl,xc⟩⟩,hok⟩ a' V hl hr ⟨hI,zH⟩ rfl hlt;obtain⟨ii,bs,hb⟩:=hok;replace ii:xl<=512:=ii
  have Jz:=hb.fr hI.2.1 fun _ _ _ h=>h;have hI':=hI;obtain⟨⟨pre',X9,IS⟩,-⟩:=hI';have oJ:=hid fun (V':w9) (F:Fq V V')=>BQ (Jz.fr F fun _ _ _ h=>h).slb oM;have HYi:=hid (fun (V2:w9) (va:Option Addr) (vc:Nat) (F:Fq V V2) (cZ:T0 V2 va xl vc bs)=>hY pre' ⟨va,xl,vc⟩ V2 (uZ _ _ _ IS F) ⟨ii,bs,cZ⟩ (by have:=HE.2.1;omega));have HI:=hi2 hI (aI zH X9);have c3:=G0 hI.2.2.1 0;simp at c3;have FIN:=hid (fun (V2 V3:w9) (va:Option Addr) (vc:Nat) (F:Fq V V2) (o6:J (pre'++[(⟨va,xl,vc⟩:Sw)]) V3) (Q2:yu wE.heap.size bo (w.heap.size+2) V2 V3) =>
   (show KeepsFrom W2 V V3/\Hp bx a V V3/\qy wE J b3 bd ba l d k (pre.length+1) V3/\V3.heap[bx]?=some (.cells #[sL a ws.length c] 203) from by
    obtain⟨v,hv⟩:=HB.2.2;have cC:=M0 hv;have P5:=Q2.cells (F.heap zH id) dC (by have:=HF.2.1.size;omega);refine⟨(gk0 F).trans ⟨Q2.1.size,fun b o hb ho hc=>Q2.2 b o ho oM (fun c' f e=>by rw[e] at hc;cases hc) (.inr oM)⟩,⟨P5.trans zH.symm,fun g e=>?_⟩,(qy.fr hI uZ F).kp Q2 Bb.o (by simp[X9]) o6,P5⟩;have hg:=ZV.o g e;have hgV:g<V.heap.size:=(by have:=M0 zH;omega);exact (Q2.1.block g (E4 hgV F.size) oM).trans (F.block g hgV id)))
  have hmo:prog.follows .mixedOrders=true:=by kernel_rfl
  clear hI zH Jz IS;gi_wp2
  gi_region_with_o (first
   | (gi_at_call 83;refine (CallsIn.inRound l2 (callsIn_wide.2 (oJ _ (by first|exact fR|exact fR.drew)))).mono ?_;rintro e V2 ⟨va,vc,rfl,cZ,F2⟩;have E7:=Fr.trans (Fr.drew (Fr.refl (fun _=>False) V)) F2 nI;obtain⟨fn,tmps,assign,body,hy,mE⟩:=HYi.o V2 va vc E7 cZ;have c4:=(E7.cell (p:=⟨b3,0,none⟩) (World.block_lt_of_cell? _ _ c3) id).trans c3)
   | (refine (ul0 mE).mono ?_;rintro e V3 ⟨rfl,o6,Q2⟩))
  all_goals
   gi_wp2
   obtain⟨q1,q2,q3,q4⟩:=FIN.o V2 V3 va vc E7 o6 Q2;exact⟨q1,q2,by rw[lA];exact q3,q4⟩
 case done =>
  rintro DD xs V wZ hS ⟨hI,zH⟩ hK;have HI:=hi2 hI (aI zH hK);obtain⟨⟨pre',X9,IS⟩,hEV,y3,yd,ya⟩:=hI;have c3:=G0 y3 0;have c1:=G0 yd 0;have c5:V.cell? (aA d 1)=some (iI D.size):=by simpa using G0 (hEV.heap HD.o id) 1
  have cl:=World.block_lt_of_cell? _ _ c5;simp at c3 c1;have cl3:=World.block_lt_of_cell? _ _ c3;simp only at cl cl3;obtain⟨i0,hi,J1,M1,O1⟩:=info_parts B3;have C8:=HRg.2;have jb:=fun V'=>Ez (P:=prog) 22 5 i0 _ underlying22 hi J1 D.size (by rw[O1];omega) oM V'
  rw[M1] at jb;simp only[Value.cells,Nat.mul_one] at jb;have dA:(List.replicate D.size (Value.int .u8 0)).toArray=madeCells #[.int .u8 0] D.size:=by apply Array.toList_inj.1;rw[toList_madeCells_one]
  rw[<- dA] at jb;obtain⟨zs,xS⟩:=eX ((List.replicate D.size (Value.int .u8 0)).toArray)
  rw[xS] at jb;obtain⟨sz,hsz⟩:=eX D.size
  rw[hsz] at jb xS C8 c5;have dS:xs.length=ws.length:=by have:=congrArg List.length hS;rw[sx0] at this;simpa using this
  obtain⟨fn,tmps,assign,body,hy,mE⟩:=hY pre' ⟨some ⟨V,0,none⟩,sz,sz⟩ (V.alloc (.cells zs 5)).drew (uZ _ _ _ IS ((fR.alloc _).drew)) ⟨C8.2,_,T0.zeros (f:=(0,0)) (by rw[xS];exact han V _)⟩ (by rw[X9,dS];have:=HE.2.1;omega);have hmo:prog.follows .mixedOrders=true:=by kernel_rfl
  clear hi J1 M1 O1 dA xS hEV y3 yd ya zH IS hK hsz hS;gi_wp2
  refine wpIn_mono ?_ NoPanic.imp;gi_region_with_o (refine mE.mono ?_;rintro e V3 ⟨rfl,o6,Q2⟩)
  all_goals
   refine NoPanic.normal ?_;obtain⟨v,hv⟩:=HB.2.2;have cC:=M0 hv;have zu:V3.heap[DD]?=some (.deferred (some [])):=Q2.2 DD _ ((((Fr.refl (fun _=>False) V).alloc _).drew).heap HI.2.2 id) oM (fun c' f e=>by cases e) (.inr oM);exact qH0 rfl zu ⟨⟨_,rfl⟩,_,trivial,hJ.putObj _ o6 oM zu rfl⟩
 case stop=>exact fun _ _ _ _ _ _ h=>h.elim
end
section
open Go.RowKit Go.Sg Go.Shelf
attribute [local go_sem] Oper.semAt_some
def NE (w:w9)(bo:Nat)(pre:List Sw)(W:w9):Prop:=
 (∃ v,W.heap[bo]?=some (.cells #[v] 203)/\W.ownsRow w 22 1 v pre.length (pre.map Sw.v))/\(∀ x ∈ pre,TG x W)/\Fq w W
variable {w:w9}{base bo:Nat}
def yv0 {W W':w9}{pre:List Sw}(h:NE w bo pre W)(F:Fq W W'):NE w bo pre W':=by
 obtain⟨⟨v,h1,h2⟩,h3,h4⟩:=h;exact⟨⟨v,F.heap h1 id,K3 h2 F fun _ _ _ h=>h⟩,fun x hx=>(h3 x hx).fr F fun _ _ _ h=>h,h4.trans F nI⟩
def zZ0 {m:Nat}(hm:w<=m):OwnFrom m (NE w bo):=
 zh (fun pre W W' h F=>yv0 h F)
  (fun pre W W' k h F hk hc=>by
   have n1:∀ b cs t f,W.heap[b]?=some (.cells cs t f)->¬ b=k:=fun b cs t f hb e=>by rw[e] at hb;exact hc _ _ _ hb
   obtain⟨⟨v,h1,h2⟩,h3,h4⟩:=h;exact⟨⟨v,F.heap h1 (n1 _ _ _ _ h1),K3 h2 F fun g c hg e=>n1 _ _ _ _ hg e⟩,fun x hx=>(h3 x hx).fr F fun g c hg e=>n1 _ _ _ _ hg e,h4.trans F fun b hb e=>oM⟩)
def CO0 (w:w9)(e:Ending)(w':w9):Prop:=
 ∃ va vc,∃ xs:List Sw,e = rT (sL va xs.length vc)/\w'.ownsRow w 22 1 (sL va xs.length vc) xs.length (xs.map Sw.v)/\(∀ x ∈ xs,TG x w')/\Fq w w'
def LK {e size n g:Nat}{v:Value}{xs:List Value}(h:w.ownsRow base e size v n xs)(hg:v.ownBlock=some g):base<=g/\∃ c,w.heap[g]?=some (.cells c e):=by
 obtain⟨_,⟨h1,_⟩|⟨g',cap,cur,h1,hb,dK,_⟩⟩:=h
 .rw[h1] at hg;cases hg
 .rw[h1] at hg;cases hg;exact⟨hb,cur,dK⟩
def zX0 {d bf bq k:Nat}{D:Dev}(h:Q4 w base d bf bq D)(Q7:D.acts<=100000)(hk:k<D.C0) :
  cP 116 #[pO d,iI k] w (CO0 w):=by
 refine (callsIn_wide (n:=11)).1 ?_;have H:=hid h;obtain⟨bo,cC⟩:=eX w.heap.size
 obtain⟨w1,I0⟩:=eX (w.alloc (.cells #[sL none 0 0] 203))
 have F1:=fA I0
 have h1:w1.heap[bo]?=some (.cells #[sL none 0 0] 203):=by rw[<- I0,<- cC];exact han _ _
 have HW:=hi2 I0 (aI F1 h1);have RF:=hid cC;obtain⟨i0,A3,J1,M1,O1⟩:=info_parts jV;have HI:=hi2 A3 (aI J1 (aI M1 O1));clear h I0 F1 h1 cC A3 J1 M1 O1;refine callsIn_of_wp_marks func116 rfl trivial ?_ rfl;simp only[ntmps116,zA,lC,cJ,Nat.reduceAdd,Nat.reduceSub,dV,dW,dZ,dX,C7,ak];gi_wp2_with (fail)
 rw[HW.1,RF];refine (callsIn_wide.2 (vE0 d k w1)).mono ?_;rintro e W0 ⟨rfl,B4⟩;obtain⟨p0,p1,F0⟩:=n9 B4;have qo:=HW.2.1.trans F0 nI;have d7:=F0.heap HW.2.2 id;have eD:W0.heap.size=w1.heap.size+2:=by rw[<- B4];simp
 have E3:w.heap.size<w1.heap.size:=by have:=M0 HW.2.2;have:=RF.o;omega
 gi_wp2_with (fail)
 refine jk0 (F:=Fence.wide) rfl oM (gf:=234) (lb:=#[pO w1,pO (aP (w1+1) 0)]) rfl trivial (enters_of func234 kF rfl)
  (NE w bo) (sC0 H.o Q7 hk qo p0 p1 ⟨_,d7⟩)
  (fun pre A C h F=>yv0 h F) (fun A C b o F _ ho _=>F.heap ho id) (fun h k=>h.trans k)
  (fun W l o o' hl ho hc _=>?kb) (Below.refl _ _) (fun _=>rfl) (zZ0 qo.size) ⟨⟨_,d7,World.ownsRow_nil _ _ _ _⟩,fun x hx=>(by cases hx),qo⟩
  (fun x a' W=>TG x W/\a'={ tmps:=#[pO d,iI k,undef,undef,sL none 0 0,pO bo,sL x.la x.ll x.lc,pO d,iI k,.func (.func 234) #[] #[pO w1,pO (aP (w1+1) 0)],sL x.la x.ll x.lc,undef,undef,undef,undef,undef],defers:=[] })
  ?hAx ?assign ?body ?done
 case kb =>
  refine⟨(Fr.refl (fun b=>w.heap.size<=b) W).putObj (fun _=>by have:=qo.size;omega) o',fun b o1 hb hn ht B6=>?_⟩;have hne:l≠b:=fun e=>by
   subst e;rw[ho] at hb;cases hb;rcases B6 with h|h
   .rw[hc] at h;cases h
   .omega
  rw[aC _ _ _ _ hne];exact hb
 case hAx=>exact fun x a'=>U6 (U6 (eR _ _) (sj fun bs=>fun _ _ _ _ hs hg hr=>tN0 hs hg hr)) (eR _ fun _=>_)
 case assign =>
  rintro l2 pre x V K hI hT hK;gi_wp2
  exact hK _ _ (KeepsFrom.refl _ _) ⟨fR,fun b o h _ _ _=>h⟩ hI ⟨hT,rfl⟩
 case body =>
  rintro l2 pre ⟨xa,xl,xc⟩ a' V hl hr hI ⟨hT,rfl⟩ hlt;obtain⟨⟨v,hv,A0⟩,eu,hF⟩:=hI;have e0:=G0 hv 0;have e1:=X2 hv 0;have l1:=M0 hv;simp at e0;have kG:=hF.size;have HV:=hi2 hv (aI A0 (aI eu (aI hF hT)));obtain⟨A3,J1,M1,O1⟩:=HI.o;clear hv A0 eu hF hT;gi_wp2_with (gi_at_builtin;refine wpListIn_append_own _ rfl (.tmp 11) (.tmp 13) 203 rfl w.heap.size 22 i0 _ 1 24 underlying203 A3 J1 M1 O1 rfl dC _ _ _ rfl (HV.2.1.alloc _) ⟨V,0,none⟩ 1 1 [sL xa xl xc] rfl rfl (cell_one_new _ _ _) (by simp[Value.oneCell']) ?c3 ?c4 ?c5 ?_)
  case c3=>simp[maxLen];omega
  case c4=>omega
  case c5=>simp;omega
  intro v1 w2 N0 R0 Y4;obtain⟨g,cap,rfl⟩:=ownsRow_succ N0;obtain⟨hv,A0,eu,hF,hT⟩:=HV.o;have FA:Fq V (V.alloc (.cells #[sL xa xl xc] 22)):=fR.alloc _;have F2:Fr (fun b=>v.ownBlock=some b) V w2:=(FA.mono (S':=fun b=>v.ownBlock=some b) nE).trans (S':=fun b=>v.ownBlock=some b) ⟨R0.os,R0.tape,R0.output,R0.size,fun b hb hn=>R0.block b hb fun e=>hn e.symm⟩ fun b hb h=>h;have hne:¬ v.ownBlock=some bo:=fun e=>by
   obtain⟨-,c,hc⟩:=LK A0 e;rw[hv] at hc;cases hc
  have xM:=F2.heap hv hne;have f0:=G0 xM 0;have f1:=X2 xM 0;have l2':=M0 xM;simp at f0;have H2:=hi2 F2 (aI xM (aI N0 R0));clear hv A0 eu hF hT FA F2 hne xM N0 R0 Y4 e0 e1;gi_wp2
  obtain⟨hv,A0,eu,hF,hT⟩:=HV.o;obtain⟨F2,xM,N0,R0⟩:=H2.o;obtain⟨V4,O4⟩:=eX (w2.setCell bo (sL g (pre.length+1) cap))
  rw[O4];have Q5:Fr (fun b=>b=bo) w2 V4:=by rw[<- O4];exact (Fr.refl (fun b=>b=bo) _).setCell (a:=⟨bo,0,none⟩) (fun _=>rfl) _
  have PJ:V4.heap[bo]?=some (.cells #[sL g (pre.length+1) cap] 203):=by rw[<- O4,hsc _ _ _ _ xM];rfl
  have F4:Fr (fun b=>b=bo\/v.ownBlock=some b) V V4:=(F2.mono fun _ _ h=>.inr h).trans Q5 fun _ _ h=>.inl h;have hwbo:w<=bo:=N6 RF.o;have k5:∀ b c,V.heap[b]?=some (.cells c 5)->¬ (b=bo\/v.ownBlock=some b):=fun b c hb e=>by
   rcases e with e|e
   .rw[e,hv] at hb;cases hb
   .obtain⟨-,c',hc⟩:=LK A0 e;rw[hb] at hc;cases hc
  have o7:∀ b,b<V.heap.size->b=bo\/v.ownBlock=some b->w.heap.size<=b:=fun b _ e=>by
   rcases e with e|e
   .omega
   .exact (LK A0 e).1
  refine⟨⟨F4.size,fun b o _ hb hc=>F4.heap hb fun e=>?_⟩,⟨F4.mono o7,fun b o hb hn ht _=>F4.heap hb fun e=>?_⟩,⟨⟨_,PJ,?_⟩,fun x hx=>?_,hF.trans F4 fun b hb e=>by have:=o7 b (E4 hb hF.size) e;omega⟩⟩
  .rcases e with e|e
   .rw[e,hv] at hb;cases hb;cases hc
   .obtain⟨-,c',hcc⟩:=LK A0 e;rw[hcc] at hb;cases hb;cases hc
  .rcases e with e|e
   .exact hn e
   .obtain⟨-,c',hcc⟩:=LK A0 e;rw[hcc] at hb;cases hb;exact ht _ _ rfl
  .rw[lA,B9,DN];refine K3 N0 Q5 fun g' c hg e=>?_;rw[e,xM] at hg;cases hg
  .rcases X5.1 hx with hx|hx
   .exact (eu x hx).fr F4 k5
   .rw[mZ] at hx;subst hx;exact hT.fr F4 k5
 case done =>
  rintro DD xs V wZ hS ⟨⟨v,hv,A0⟩,eu,hF⟩ hK;obtain⟨va,vc,rfl,-⟩:=A2 A0;have e0:=G0 hv 0;simp at e0;have HV:=hi2 hv (aI A0 (aI eu hF));clear hv A0 eu hF;gi_wp2
  obtain⟨hv,A0,eu,hF⟩:=HV.o;have FP:Fr (fun b=>b=DD) V (V.putObj DD (.deferred none)):=(Fr.refl (fun b=>b=DD) _).putObj (fun _=>rfl) _;have n1:∀ b cs t f,V.heap[b]?=some (.cells cs t f)->¬ b=DD:=fun b cs t f hb e=>by rw[e,hK] at hb;cases hb
  exact wR (t:=4) rfl hK ⟨va,vc,xs,rfl,K3 A0 FP fun g c hg=>n1 _ _ _ _ hg,fun x hx=>(eu x hx).fr FP fun g c hg=>n1 _ _ _ _ hg,hF.trans FP fun b hb e=>by have:=qo.size;omega⟩
end
section
open Go.RowKit Go.Sg Go.Sg.Bits Go.Sg.r4 CP SF
def iH (z:Int):Prop:=-9223372036854775808<=z/\z<9223372036854775808
def wQ (z:Int):iH (wrap64 z):=by unfold iH;simp only[wrap64];omega
def Rh (w:w9)(e:Ending)(w':w9):Prop:=∃ z:Int,e = rT (iI z)/\iH z/\w=w'
def YX (a:Int):(a.tdiv 2).toNat=a.toNat/2:=by
 rcases Int.lt_or_le a 0 with h|h
 .have h1:a.tdiv 2 = -((-a).tdiv 2):=by rw[Int.neg_tdiv];simp
  have h2:0<=(-a).tdiv 2:=Int.tdiv_nonneg oM dC;omega
 .rw[Int.tdiv_eq_ediv_of_nonneg h];omega
def mx0 {a:Int}(h:iH a):(wrap64 (a.tdiv 2)).toNat=a.toNat/2:=by
 have e:wrap64 (a.tdiv 2)=a.tdiv 2:=by
  have h1:=YX a;unfold iH at h;have h2:-9223372036854775808<=a.tdiv 2/\a.tdiv 2<9223372036854775808:=by
   rcases Int.lt_or_le a 0 with h0|h0
   .have e1:a.tdiv 2 = -((-a).tdiv 2):=(by rw[Int.neg_tdiv];simp);have e2:(-a).tdiv 2=(-a)/2:=Int.tdiv_eq_ediv_of_nonneg oM;omega
   .rw[Int.tdiv_eq_ediv_of_nonneg h0];omega
  simp only[wrap64];omega
 rw[e,YX]
def la0 (a b:Int)(ha:iH a)(hb:iH b)(w:w9):cP 270 #[iI a,iI b] w (Rh w):=by
 go_enter func270,ntmps270;go_wp2_with fail
 go_loopw [0,1,5,6] (fun va vb vo vt wr=>∃ a b o t:Int,va = iI a/\vb = iI b/\vo = iI o/\vt = iI t/\(iH a/\iH b/\iH o)/\wr=w) fun va vb _ _ _=>(intOf va).toNat+(intOf vb).toNat
 case atStart=>exact⟨a,b,0,1,rfl,rfl,rfl,rfl,⟨ha,hb,by unfold iH;omega⟩,rfl⟩
 case round =>
  obtain⟨a,b,o,t,rfl,rfl,rfl,rfl,hr,rfl⟩:=hrel;have HR:=hid hr;by_cases h0:0<a\/0<b
  .have hm:(wrap64 (a.tdiv 2)).toNat+(wrap64 (b.tdiv 2)).toNat<a.toNat+b.toNat:=by rw[mx0 hr.1,mx0 hr.2.1];omega
   clear hr;by_cases ha:0<a
   .have hd:decide ((0:Int)<a)=true:=decide_eq_true ha;have HM:=hid hm;clear hm h0 ha;go_wp2_with fail
    all_goals go_roundw
    all_goals first
     | exact⟨_,_,_,_,rfl,rfl,rfl,rfl,⟨wQ _,wQ _,by first|exact wQ _|exact HR.2.2⟩,trivial⟩
     | (simp only[intOf];exact HM.o)
   .have hd:decide ((0:Int)<a)=false:=decide_eq_false ha;have hb:0<b:=oM;have ic:decide ((0:Int)<b)=true:=decide_eq_true hb;have HM:=hid hm;clear hm h0 ha hb;go_wp2_with fail
    all_goals go_roundw
    all_goals first
     | exact⟨_,_,_,_,rfl,rfl,rfl,rfl,⟨wQ _,wQ _,by first|exact wQ _|exact HR.2.2⟩,trivial⟩
     | (simp only[intOf];exact HM.o)
  .have hd:decide ((0:Int)<a)=false:=decide_eq_false oM;have ic:decide ((0:Int)<b)=false:=decide_eq_false oM;clear hr;go_wp2_with fail
   go_ret;exact⟨_,rfl,HR.2.2,rfl⟩
def tH0 (a:Int)(ha:iH a)(w:w9):cP 269 #[iI a] w (Rh w):=by
 go_enter func269,ntmps269;go_wp2_with fail
 go_loopw [0,3] (fun va i wr=>∃ (a:Int) (k:Nat),k<=8/\va = iI a/\iH a/\i = iI k/\wr=w) fun _ i _=>8-(intOf i).toNat
 case atStart=>exact⟨a,0,oM,rfl,ha,rfl,rfl⟩
 case round =>
  obtain⟨a,k,hk,rfl,hr,rfl,rfl⟩:=hrel;have HR:=hid hr;clear hr;by_cases hlt:k<8
  .have hd:decide ((k:Int)<8)=true:=by simp;omega
   have mh:=hid (show iH 2197175160 by unfold iH;omega);go_wp2_with (go_at_call 270;refine (la0 _ _ (wQ _) mh.o _).mono ?_;rintro _ _ ⟨z,rfl,hz,rfl⟩;have HZ:=hid hz;clear hz)
   .exact⟨⟨_,k+1,oM,rfl,HZ.o,by go_num,trivial⟩,by simp[intOf];omega⟩
   .exact⟨⟨_,k+1,oM,rfl,wQ _,by go_num,trivial⟩,by simp[intOf];omega⟩
  .obtain rfl:k=8:=by omega
   have hd:decide ((8:Int)<8)=false:=dC
   go_wp2_with fail
   go_ret;exact⟨_,rfl,HR.o,rfl⟩
variable {a:Option Addr}{w:w9}{c n:Nat}{bs:List Int}
def sum_any (h:jm w a n bs)(O2:∀ x ∈ bs,0<=x/\x<256)(hn:n<=65536):cP 233 #[sL a n c] w (Rh w):=by
 have H:=hi2 h O2
 have hl:=h.len;clear h O2
 go_enter func233,ntmps233;go_wp2_with fail
 go_loopw [3,4] (fun va i wr=>∃ (a:Int) (k:Nat),k<=n/\va = iI a/\iH a/\i = iI k/\wr=w) fun _ i _=>n-(intOf i).toNat
 case atStart=>exact⟨4294967295,0,oM,rfl,by unfold iH;omega,rfl,rfl⟩
 case round =>
  obtain⟨z,k,hk,rfl,hr,rfl,rfl⟩:=hrel;have HR:=hid hr;clear hr;by_cases hlt:k<n
  .have hd:decide ((k:Int)<(n:Int))=true:=by simp;omega
   obtain⟨x,hx⟩:∃ x,bs[k]?=some x:=⟨_,gE oM⟩
   obtain⟨b,off,rfl,hb,hc⟩:=H.1.at_ k x hx;have ce:=H.2 x (gM hx);have HX:=hid (show iH x by unfold iH;omega);clear hx;go_wp2_with (go_at_call 270;refine (la0 _ _ HR.o HX.o _).mono ?_;rintro _ _ ⟨z2,rfl,O1,rfl⟩;have Ta:=hid O1;clear O1)
   go_wp2_with (go_at_call 269;refine (tH0 _ Ta.o _).mono ?_;rintro _ _ ⟨z3,rfl,kK,rfl⟩;have HZ3:=hid kK;clear kK)
   go_roundw;case rel=>exact⟨_,k+1,oM,rfl,HZ3.o,by go_num,trivial⟩
   case measure=>exact wM
  .obtain rfl:k=n:=by omega
   have hd:decide ((k:Int)<(k:Int))=false:=by simp
   go_wp2_with fail
   go_ret;exact⟨_,rfl,wQ _,rfl⟩
def PT {m:Nat}(h:bs.length=m/\∀ x ∈ bs,0<=x/\x<256)(x:Int)(hx:0<=x/\x<256):(bs++[x]).length=m+1/\∀ y ∈ bs++[x],0<=y/\y<256:=
 ⟨by simp[h.1],fun y hy=>by
  rcases X5.1 hy with h1|h1
  .exact h.2 y h1
  .rw[mZ.1 h1];exact hx⟩
def QC (x:Int):0<=IntKind.u8.wrap x/\IntKind.u8.wrap x<256:=by
 have h:IntKind.u8.wrap x=x % 256:=rfl;rw[h];omega
def ML (k:Nat)(w:w9)(e:Ending)(w':w9):Prop:=∃ (v:Value) (bs:List Int),e = rT v/\w'.ownsRow w 5 1 v k (bs.map (Value.int .u8))/\(bs.length=k/\∀ x ∈ bs,0<=x/\x<256)/\Fq w w'
def nF0 (z:Int)(w:w9):cP 232 #[iU z,iI 1] w (ML 1 w):=by
 obtain⟨j0,fK,cH,jz1,cI⟩:=info_parts B3;go_enter func232,ntmps232;go_wp2_with fail
 go_loopw [0,5,6] (fun zv v i wr=>∃ (m:Nat) (z:Int) (bs:List Int),m<=1/\zv = iU z/\i = iI m/\(bs.length=m/\∀ x ∈ bs,0<=x/\x<256)/\wr.ownsRow w 5 1 v m (bs.map (Value.int .u8))/\Fq w wr) fun _ _ i _=>1-(intOf i).toNat
 case atStart=>exact⟨0,z,[],oM,rfl,rfl,⟨rfl,by simp⟩,World.ownsRow_nil _ _ _ _,fR⟩
 case round =>
  obtain⟨m,z,bs,hm,rfl,rfl,U1,A0,hF⟩:=hrel;have hs:=hF.size;by_cases hlt:m<1
  .have hd:decide ((m:Int)<1)=true:=by simp;omega
   have H:=hi2 A0 hF;clear A0 hF;go_wp2_with (at_builtin;refine wpList_append_own_at _ rfl (.tmp 26) (.tmp 30) 22 rfl w.heap.size 5 j0 _ 1 1 underlying22 fK cH jz1 cI rfl dC _ _ _ rfl (H.1.alloc _) ⟨wr,0,none⟩ 1 1 [_] rfl rfl (cell_one_new _ _ _) (by simp[Value.oneCell']) (by simp[maxLen];omega) oM sO ?_)
   intro v2 W2 N0 Q0 U7 cW;have hF2:Fq w W2:=(H.2.alloc _).trans (S':=fun b=>w<=b) ⟨Q0.os,Q0.tape,Q0.output,Q0.size,fun b hb hn=>Q0.block b hb fun e=>hn (H.1.lt b e.symm).1⟩ fun b hb h=>oM;have H2:=hi2 N0 hF2;clear N0 Q0 U7 cW hF2;go_wp2_with fail
   go_roundw;case rel=>exact⟨m+1,_,bs++[_],oM,rfl,by go_num,PT U1 _ (QC _),by rw[B9];exact H2.1,H2.2⟩
   case measure=>exact wM
  .obtain rfl:m=1:=by omega
   have hd:decide ((1:Int)<1)=false:=dC
   have H:=hi2 A0 hF;clear A0 hF;go_wp2_with fail
   go_ret;exact⟨_,bs,rfl,H.1,U1,H.2⟩
def nE0 (z:Int)(w:w9):cP 232 #[iU z,iI 2] w (ML 2 w):=by
 obtain⟨j0,fK,cH,jz1,cI⟩:=info_parts B3;go_enter func232,ntmps232;go_wp2_with fail
 go_loopw [0,5,6] (fun zv v i wr=>∃ (m:Nat) (z:Int) (bs:List Int),m<=2/\zv = iU z/\i = iI m/\(bs.length=m/\∀ x ∈ bs,0<=x/\x<256)/\wr.ownsRow w 5 1 v m (bs.map (Value.int .u8))/\Fq w wr) fun _ _ i _=>2-(intOf i).toNat
 case atStart=>exact⟨0,z,[],oM,rfl,rfl,⟨rfl,by simp⟩,World.ownsRow_nil _ _ _ _,fR⟩
 case round =>
  obtain⟨m,z,bs,hm,rfl,rfl,U1,A0,hF⟩:=hrel;have hs:=hF.size;by_cases hlt:m<2
  .have hd:decide ((m:Int)<2)=true:=by simp;omega
   have H:=hi2 A0 hF;clear A0 hF;go_wp2_with (at_builtin;refine wpList_append_own_at _ rfl (.tmp 26) (.tmp 30) 22 rfl w.heap.size 5 j0 _ 1 1 underlying22 fK cH jz1 cI rfl dC _ _ _ rfl (H.1.alloc _) ⟨wr,0,none⟩ 1 1 [_] rfl rfl (cell_one_new _ _ _) (by simp[Value.oneCell']) (by simp[maxLen];omega) oM sO ?_)
   intro v2 W2 N0 Q0 U7 cW;have hF2:Fq w W2:=(H.2.alloc _).trans (S':=fun b=>w<=b) ⟨Q0.os,Q0.tape,Q0.output,Q0.size,fun b hb hn=>Q0.block b hb fun e=>hn (H.1.lt b e.symm).1⟩ fun b hb h=>oM;have H2:=hi2 N0 hF2;clear N0 Q0 U7 cW hF2;go_wp2_with fail
   go_roundw;case rel=>exact⟨m+1,_,bs++[_],oM,rfl,by go_num,PT U1 _ (QC _),by rw[B9];exact H2.1,H2.2⟩
   case measure=>exact wM
  .obtain rfl:m=2:=by omega
   have hd:decide ((2:Int)<2)=false:=dC
   have H:=hi2 A0 hF;clear A0 hF;go_wp2_with fail
   go_ret;exact⟨_,bs,rfl,H.1,U1,H.2⟩
def iV0 (z:Int)(w:w9):cP 232 #[iU z,iI 4] w (ML 4 w):=by
 obtain⟨j0,fK,cH,jz1,cI⟩:=info_parts B3;go_enter func232,ntmps232;go_wp2_with fail
 go_loopw [0,5,6] (fun zv v i wr=>∃ (m:Nat) (z:Int) (bs:List Int),m<=4/\zv = iU z/\i = iI m/\(bs.length=m/\∀ x ∈ bs,0<=x/\x<256)/\wr.ownsRow w 5 1 v m (bs.map (Value.int .u8))/\Fq w wr) fun _ _ i _=>4-(intOf i).toNat
 case atStart=>exact⟨0,z,[],oM,rfl,rfl,⟨rfl,by simp⟩,World.ownsRow_nil _ _ _ _,fR⟩
 case round =>
  obtain⟨m,z,bs,hm,rfl,rfl,U1,A0,hF⟩:=hrel;have hs:=hF.size;by_cases hlt:m<4
  .have hd:decide ((m:Int)<4)=true:=by simp;omega
   have H:=hi2 A0 hF;clear A0 hF;go_wp2_with (at_builtin;refine wpList_append_own_at _ rfl (.tmp 26) (.tmp 30) 22 rfl w.heap.size 5 j0 _ 1 1 underlying22 fK cH jz1 cI rfl dC _ _ _ rfl (H.1.alloc _) ⟨wr,0,none⟩ 1 1 [_] rfl rfl (cell_one_new _ _ _) (by simp[Value.oneCell']) (by simp[maxLen];omega) oM sO ?_)
   intro v2 W2 N0 Q0 U7 cW;have hF2:Fq w W2:=(H.2.alloc _).trans (S':=fun b=>w<=b) ⟨Q0.os,Q0.tape,Q0.output,Q0.size,fun b hb hn=>Q0.block b hb fun e=>hn (H.1.lt b e.symm).1⟩ fun b hb h=>oM;have H2:=hi2 N0 hF2;clear N0 Q0 U7 cW hF2;go_wp2_with fail
   go_roundw;case rel=>exact⟨m+1,_,bs++[_],oM,rfl,by go_num,PT U1 _ (QC _),by rw[B9];exact H2.1,H2.2⟩
   case measure=>exact wM
  .obtain rfl:m=4:=by omega
   have hd:decide ((4:Int)<4)=false:=dC
   have H:=hi2 A0 hF;clear A0 hF;go_wp2_with fail
   go_ret;exact⟨_,bs,rfl,H.1,U1,H.2⟩
def nD0 (z:Int)(w:w9):cP 232 #[iU z,iI 8] w (ML 8 w):=by
 obtain⟨j0,fK,cH,jz1,cI⟩:=info_parts B3;go_enter func232,ntmps232;go_wp2_with fail
 go_loopw [0,5,6] (fun zv v i wr=>∃ (m:Nat) (z:Int) (bs:List Int),m<=8/\zv = iU z/\i = iI m/\(bs.length=m/\∀ x ∈ bs,0<=x/\x<256)/\wr.ownsRow w 5 1 v m (bs.map (Value.int .u8))/\Fq w wr) fun _ _ i _=>8-(intOf i).toNat
 case atStart=>exact⟨0,z,[],oM,rfl,rfl,⟨rfl,by simp⟩,World.ownsRow_nil _ _ _ _,fR⟩
 case round =>
  obtain⟨m,z,bs,hm,rfl,rfl,U1,A0,hF⟩:=hrel;have hs:=hF.size;by_cases hlt:m<8
  .have hd:decide ((m:Int)<8)=true:=by simp;omega
   have H:=hi2 A0 hF;clear A0 hF;go_wp2_with (at_builtin;refine wpList_append_own_at _ rfl (.tmp 26) (.tmp 30) 22 rfl w.heap.size 5 j0 _ 1 1 underlying22 fK cH jz1 cI rfl dC _ _ _ rfl (H.1.alloc _) ⟨wr,0,none⟩ 1 1 [_] rfl rfl (cell_one_new _ _ _) (by simp[Value.oneCell']) (by simp[maxLen];omega) oM sO ?_)
   intro v2 W2 N0 Q0 U7 cW;have hF2:Fq w W2:=(H.2.alloc _).trans (S':=fun b=>w<=b) ⟨Q0.os,Q0.tape,Q0.output,Q0.size,fun b hb hn=>Q0.block b hb fun e=>hn (H.1.lt b e.symm).1⟩ fun b hb h=>oM;have H2:=hi2 N0 hF2;clear N0 Q0 U7 cW hF2;go_wp2_with fail
   go_roundw;case rel=>exact⟨m+1,_,bs++[_],oM,rfl,by go_num,PT U1 _ (QC _),by rw[B9];exact H2.1,H2.2⟩
   case measure=>exact wM
  .obtain rfl:m=8:=by omega
   have hd:decide ((8:Int)<8)=false:=dC
   have H:=hi2 A0 hF;clear A0 hF;go_wp2_with fail
   go_ret;exact⟨_,bs,rfl,H.1,U1,H.2⟩
def OfP (n:Nat)(w:w9)(e:Ending)(w':w9):Prop:=∃ z:Nat,e = rT (iU z)/\z<256^n/\w=w'
def QI (h:jm w a n bs)(O2:∀ x ∈ bs,0<=x/\x<256)(hn:n<=8):cP 175 #[sL a n c] w (OfP n w):=by
 have H:=hi2 h O2
 have hl:=h.len;clear h O2
 go_enter func175,ntmps175;go_wp2_with fail
 go_loopw [3,4] (fun va i wr=>∃ (z k:Nat),k<=n/\va = iU z/\z<256^k/\i = iI ((n:Int)-1-k)/\wr=w) fun _ i _=>(intOf i+1).toNat
 case atStart=>exact⟨0,0,oM,rfl,dC,by simp,rfl⟩
 case round =>
  obtain⟨z,k,hk,rfl,hz,rfl,rfl⟩:=hrel;by_cases hlt:k<n
  .obtain⟨j,hj⟩:∃ j:Nat,n=j+1+k:=⟨n-1-k,oM⟩
   have ej:(n:Int)-1-k=(j:Int):=oM
   rw[ej];obtain⟨x,hx⟩:∃ x,bs[j]?=some x:=⟨_,gE oM⟩
   obtain⟨b,off,rfl,hb,hc⟩:=H.1.at_ j x hx;have ce:=H.2 x (gM hx);have LD:z<72057594037927936:=E4 hz (nT (aZ dC (show k<=7 by omega)) dC);have HZ:=hi2 hz ej;clear hx hz ej;go_wp2_with fail
   go_roundw;case rel =>
    refine⟨256*z+x.toNat,k+1,oM,by congr 1;omega,?_,by congr 1;omega,trivial⟩;have:=HZ.1;rw[dB];omega
   case measure=>simp[intOf]
  .obtain rfl:k=n:=by omega
   have e1:(k:Int)-1-(k:Int) = -1:=oM
   rw[e1];have HZ:=hid hz;clear hz;go_wp2_with fail
   go_ret;exact⟨z,rfl,HZ.o,rfl⟩
