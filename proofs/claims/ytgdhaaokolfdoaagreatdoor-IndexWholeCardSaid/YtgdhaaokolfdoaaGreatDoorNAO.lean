/- A pack of texts. Conditions: those that each names. -/
import Derived.Test.YtgdhaaokolfdoaaGreatDoorNAN
import Derived.Test.YtgdhaaokolfdoaaGreatDoorNAK
set_option maxHeartbeats 16000000
set_option maxRecDepth 100000
set_option linter.all false
namespace Go.Proofs.YtgdhaaokolfdoaaGreatDoor
open Tryz
section
open Go.RowKit Go.Sg Go.Sg.Bits Go.Sg.r4 CP
def _root_.Go.Sg.Ints.M3 {w w':w9}{v:Value}{ks:List Int}(h:Ints w v ks){k:Nat}(F:Fr (fun b=>b=k) w w'){cs:Array Value}{t:TypeId}(hk:w.heap[k]?=some (.cells cs t))(ht:cs.all (fun c=>match c with | .int .i64 _=>false|_=>true)=true):Ints w' v ks:=by
 obtain⟨a,cap,e,h⟩:=h;refine⟨a,cap,e,fun i x hx=>?_⟩;obtain⟨g,ha,hl,hc⟩:=h i x hx;have:¬ g=k:=by
  rintro rfl;rw[G0 hk] at hc;have h2:=(Array.all_eq_true (p:=_)).1 ht i (Array.getElem?_eq_some_iff.1 hc).1;have h3:=(Array.getElem?_eq_some_iff.1 hc).2;rw[h3] at h2;simp at h2
 exact⟨g,ha,E4 hl F.size,(F.cell (p:=⟨g,i,none⟩) hl this).trans hc⟩
namespace SF
def rL0 (x:T3)(w:w9)(e:Ending)(w':w9):Prop:=
 ∃ v0 v1 v2 v3 L1 L2 L3,e = rT (.agg #[v0,v1,v2,v3])/\Ints w' v0 (tu x.taken x.pages)/\Ints w' v1 L1/\Ints w' v2 L2/\Ints w' v3 L3/\(RowOf x.fresh L1/\RowOf x.dying L2/\RowOf x.dead L3)/\Fq w w'
def wZ0 {w:w9}{B:P0}{x:T3}(h:X1 w B x)(hT:Tab w):cP 32 #[B.ptr] w (rL0 x w):=by
 obtain⟨w1,I0⟩:=eX (w.alloc (.cells #[sL none 0 0,sL none 0 0,sL none 0 0,sL none 0 0] 54))
 have F1:=fA I0
 have b1:=fB I0
 have h1:=h.J0 F1;have zE:=hT.fr F1 id;have X4:=h.bits.room.1.2;have nsb:¬ w.heap.size=B.s:=by have:=h.sc.lt;omega
 have HA:=hid fun W (F:Fq w1 W)=>By0 (h1.bits.fr F id id) (zE.fr F id);have bF:=hid fun W (F:Fq w1 W)=>YE (h1.fr.fr F id) X4 h1.inr.1;have mh:=hid fun W (F:Fq w1 W)=>YE (h1.dy.fr F id) X4 h1.inr.2.1;have HR3:=hid fun W (F:Fq w1 W)=>YE (h1.de.fr F id) X4 h1.inr.2.2;have c13:=h1.sc.c13;have c14:=h1.sc.c14;have c15:=h1.sc.c15;have c16:=h1.sc.c16;have ls:=h1.sc.lt;have G:=hid (Fr.refl (fun _=>False) w1);have HW:=hid I0;have E1:=hid F1;have I3:=hid b1;clear I0 F1 b1 h h1 hT zE;go_enter func32,ntmps32;go_wp2
 rw[HW];go_region_held3 (fun W=>W.cell? (aA B.s 13)=some (pO (aP B.bs 0))/\W.cell? (aA B.s 14)=some (.map (some B.fr))/\W.cell? (aA B.s 15)=some (.map (some B.dy))/\W.cell? (aA B.s 16)=some (.map (some B.de)))
  (go_keep)
  (first
   | (go_at_call 100;refine (HA _ (by first|with_reducible exact G.o.drew|with_reducible exact G.o)).mono ?_;rintro e w4 ⟨v4,rfl,⟨a4,NL,rfl,Pw⟩,F4⟩;have I4:=hid (show Ints w4 (.slice a4 (tu x.taken x.pages).length NL) (tu x.taken x.pages) from⟨a4,NL,rfl,Pw⟩);have G:=hid (Fr.trans (by first|with_reducible exact G.o.drew|with_reducible exact G.o) F4 nI);have c13:=(F4.cell (p:=⟨B.s,13,none⟩) ls id).trans c13;have c14:=(F4.cell (p:=⟨B.s,14,none⟩) ls id).trans c14;have c15:=(F4.cell (p:=⟨B.s,15,none⟩) ls id).trans c15;have c16:=(F4.cell (p:=⟨B.s,16,none⟩) ls id).trans c16;have ls:=E4 ls F4.size;clear Pw F4)
   | (go_at_call_of 97 (Value.map (some B.fr));refine (bF _ (by first|with_reducible exact G.o.drew|with_reducible exact G.o)).mono ?_;rintro e w5 ⟨v5,L1,rfl,⟨a5,NM,rfl,hi5⟩,gh,F5⟩;have I5:=hi2 (show Ints w5 (sL a5 L1.length NM) L1 from⟨a5,NM,rfl,hi5⟩) gh;have I4:=hid (Ints.fr I4 F5 nI);have G:=hid (Fr.trans (by first|with_reducible exact G.o.drew|with_reducible exact G.o) F5 nI);have c13:=(F5.cell (p:=⟨B.s,13,none⟩) ls id).trans c13;have c14:=(F5.cell (p:=⟨B.s,14,none⟩) ls id).trans c14;have c15:=(F5.cell (p:=⟨B.s,15,none⟩) ls id).trans c15;have c16:=(F5.cell (p:=⟨B.s,16,none⟩) ls id).trans c16;have ls:=E4 ls F5.size;clear hi5 F5 gh)
   | (go_at_call_of 97 (Value.map (some B.dy));refine (mh _ (by first|with_reducible exact G.o.drew|with_reducible exact G.o)).mono ?_;rintro e w6 ⟨v6,L2,rfl,⟨a6,NN,rfl,hi6⟩,mD,F6⟩;have I6:=hi2 (show Ints w6 (sL a6 L2.length NN) L2 from⟨a6,NN,rfl,hi6⟩) mD;have I5:=hi2 (Ints.fr I5.1 F6 nI) I5.2;have I4:=hid (Ints.fr I4 F6 nI);have G:=hid (Fr.trans (by first|with_reducible exact G.o.drew|with_reducible exact G.o) F6 nI);have c13:=(F6.cell (p:=⟨B.s,13,none⟩) ls id).trans c13;have c14:=(F6.cell (p:=⟨B.s,14,none⟩) ls id).trans c14;have c15:=(F6.cell (p:=⟨B.s,15,none⟩) ls id).trans c15;have c16:=(F6.cell (p:=⟨B.s,16,none⟩) ls id).trans c16;have ls:=E4 ls F6.size;clear hi6 F6 mD)
   | (go_at_call_of 97 (Value.map (some B.de));refine (HR3 _ (by first|with_reducible exact G.o.drew|with_reducible exact G.o)).mono ?_;rintro e w7 ⟨v7,L3,rfl,⟨a7,NO,rfl,hi7⟩,kg,F7⟩;have I7:=hi2 (show Ints w7 (sL a7 L3.length NO) L3 from⟨a7,NO,rfl,hi7⟩) kg;have I6:=hi2 (Ints.fr I6.1 F7 nI) I6.2;have I5:=hi2 (Ints.fr I5.1 F7 nI) I5.2;have I4:=hid (Ints.fr I4 F7 nI);have G:=hid (Fr.trans (by first|with_reducible exact G.o.drew|with_reducible exact G.o) F7 nI);have c13:=(F7.cell (p:=⟨B.s,13,none⟩) ls id).trans c13;have c14:=(F7.cell (p:=⟨B.s,14,none⟩) ls id).trans c14;have c15:=(F7.cell (p:=⟨B.s,15,none⟩) ls id).trans c15;have c16:=(F7.cell (p:=⟨B.s,16,none⟩) ls id).trans c16;have ls:=E4 ls F7.size;obtain⟨k0,k1,k2,k3,kz,kl⟩:=cells4 (G.heap I3 id);clear hi7 F7 kg))
 go_wp2
 refine bodyPost_ret (v:=.agg #[.slice a4 (tu x.taken x.pages).length NL,sL a5 L1.length NM,sL a6 L2.length NN,sL a7 L3.length NO]) sR rfl ?_;have FF:Fr (fun b=>b=w.heap.size) w7 ((((w7.setCell w (.slice a4 (tu x.taken x.pages).length NL)).setCell (aA w 1) (sL a5 L1.length NM)).setCell (aA w 2) (sL a6 L2.length NN)).setCell (aA w 3) (sL a7 L3.length NO)):=
  ((((Fr.refl (fun b=>b=w.heap.size) _).setCell (a:=⟨w,0,none⟩) (fun _=>rfl) _).setCell (a:=⟨w,1,none⟩) (fun _=>rfl) _).setCell (a:=⟨w,2,none⟩) (fun _=>rfl) _).setCell (a:=⟨w,3,none⟩) (fun _=>rfl) _
 have E6:=G.heap I3 id;refine⟨_,_,_,_,L1,L2,L3,rfl,I4.M3 FF E6 sP,I5.1.M3 FF E6 sP,I6.1.M3 FF E6 sP,I7.1.M3 FF E6 sP,⟨I5.2,I6.2,I7.2⟩,?_⟩;refine (E1.trans G nI).trans FF fun b hb h=>oM
end SF
end
section
open Go.RowKit Go.Sg Go.Sg.Bits Go.Sg.r4 CP SF
variable {w w':w9}{N base bf bq d lc ll n s z:Nat}{a:Bool}{la:Option Addr}{bs:List Int}
def sZ0 (hs:1<=s/\s<=16384)(hz:96<=z/\z<=512)(h1:w'.heap[w.heap.size]?=some (.map #[] 0))(h2:w'.heap[w.heap.size+1]?=some (.map #[] 0))
  (h3:w'.heap[w.heap.size+1+1]?=some (.cells #[iI s,iI z,.map (some w.heap.size),sL none 0 0,.map (some (w.heap.size+1)),iI 0,iI 0,bO false] 151)) :
  Q4 w' w.heap.size (w.heap.size+2) w.heap.size (w.heap.size+1) (Dev.fresh s z):=by
 refine⟨⟨_,h3,[],World.ownsRow_nil _ _ _ _,rfl,fun i x y hx _=>by simp at hx⟩,⟨[],0,h1,by simp[keys],fun k=>trivial⟩,⟨[],0,h2,by simp[keys],(fun e he=>by cases he),(fun e he=>by cases he)⟩,oM,oM,hs,hz⟩
def nW0 (s z:Nat)(hs:1<=s/\s<=16384)(hz:96<=z/\z<=512)(w:w9) :
  cP 20 #[iI s,iI z] w fun e w'=>e = rT (pO (aP (w+2) 0))/\Q4 w' w.heap.size (w.heap.size+2) w.heap.size (w.heap.size+1) (Dev.fresh s z)/\Fq w w':=
 (tZ0 s z oM oM oM oM w).mono fun e w' ⟨he,h1,h2,h3,hF⟩=>⟨he,sZ0 hs hz h1 h2 h3,hF⟩
variable {D:Dev}
def sI0 (h:Q4 w base d bf bq D)(hb:base<=w)(c dd f dp hh s:Int)(O3:eS ⟨D.C0,D.size,c,dd,f,dp,hh,s⟩=true) :
  cP 19 #[pO d,(R8.mk D.C0 D.size c dd f dp hh s).val] w (Xj base d bf bq ⟨D.C0,D.size,c,dd,f,dp,hh,s⟩ 0 D w):=by
 obtain⟨w1,I0⟩:=eX (w.alloc (.cells #[iI D.C0,iI D.size,iI c,iI dd,iI f,iI dp,iI hh,iU s] 31))
 have F1:=fA I0
 have H:=hid (tR0 (h.fr F1 id id id fun _ _ _ _ _ h=>h) (nT hb F1.size) c dd f dp hh s 0 oM O3);have HW:=hid I0;have E1:=hid F1;clear h I0 F1 O3;go_enter func19,ntmps19;go_wp2_with fail
 rw[HW];refine H.mono ?_;rintro e w2 ⟨B,hB,rfl,hS,F2⟩;have HS:=hi2 hB (aI hS F2);clear hB hS F2;go_wp2
 go_ret2;exact⟨B,HS.1,rfl,HS.2.1,E1.trans HS.2.2 nI⟩
def yZ0 (B:P0)(y:Cs)(P:J2)(a:Bool)(N:Nat)(n:Nat)(bs:List Int)(w:w9)(e:Ending)(w':w9):Prop:=
 ∃ err,e = rT (tU #[.agg #[iI n,iI y.gen],iI err])/\MI w' B y { y with cont:=dt y.cont n (some (y.gen,bs)) } P a (N+1) err/\D0 B w w'
variable {B:P0}{y:Cs}
def xn0 {P:D4}(h:C1 w B y P a N)(n:Nat)(st:Int)(T4:nx w B la ll lc bs)(O2:∀ b ∈ bs,0<=b/\b<256)(hl:ll<=y.room)
  (hp:n<y.pages) (ht:y.taken n=true) (hf:y.fresh n=true) (hN:N+1<=90000) :
  cP 26 #[B.ptr,.agg #[iI n,iI st],sL la ll lc] w (yZ0 B y P a N n bs w):=by
 obtain⟨⟨x,c,hS,rfl,hi⟩,hT,hb⟩:=h;have hlen:=T4.1.Y6.len;have C8:=hS.rg;have dL:=LY hS;have xI:P (x.first+n)=none:=by
  cases hP:P (x.first+n) with
  | none=>rfl
  | some v =>
   have h2:=(hi.rq rfl n hp (show P _≠_ by rw[hP];simp)).2;have pJ:x.fresh n=true:=hf;rw[pJ] at h2;cases h2
 refine (ob0 hS n st T4 hl hp ht hf fun W p K8 hF hp=>OP K8 (hi.holds.T1 hF).good (hi.dev.up hi.down hi.few) n p hp).mono ?_;rintro e w' ⟨err,g,D,p,he,hg,ho,K8,aX,F⟩;obtain⟨h1,h2,h3⟩:=goes hi.holds hi.dev hi.down hg ho F ⟨aX.1,aX.2.2⟩ (n:=n) (st:=x.gen) ⟨by have:n<x.pages:=hp;omega,dL,by rw[hlen];exact hl,O2⟩ ⟨C8.2.2.2.2,C8.2.2.2.1,C8.2.2.1⟩ (fun _=>xI) (fun hc=>by rw[aX.2.1] at hc;cases hc);refine⟨err,he,?_,F⟩;rcases h2 with⟨rfl,hD⟩|⟨rfl,ha,hD⟩
 .refine .inl ⟨rfl,⟨_,_,K8,?_,⟨hD,h1.1,h3 _ rfl rfl rfl rfl rfl,hi.rq,hi.apart,hN⟩⟩,hT.fr F fun h=>oM,hb⟩;simp[T3.cs,h1.2.1,h1.2.2]
 .subst ha;exact .inr ⟨rfl,rfl,⟨D,K8.dev,h1.1,hD,h1.2.1,h1.2.2⟩⟩
def Cs.moved (y:Cs)(n m:Nat)(bs:List Int):Cs:={ y.new m bs with dying:=aN y.dying n true }
def CA0 (B:P0)(y:Cs)(P:J2)(a:Bool)(N:Nat)(n:Nat)(bs:List Int)(w:w9)(e:Ending)(w':w9):Prop:=
 ∃ m err,dF y.taken y.pages y.hand m/\e = rT (tU #[AB err m y.gen,iI err])/\MI w' B y (y.moved n m bs) P a (N+1) err/\D0 B w w'
def Apart.dies {t:Nat->Bool}{f y d:Int->Bool}(h:Apart t f y d)(ht:t n=true)(hf:f n=false)(hd:d n=false):Apart t f (aN y n true) d:=by
 refine⟨h.ft,fun k hk=>?_,h.et,fun k hk=>⟨?_,(h.fy k hk).2⟩,fun k hk=>?_⟩
 .simp only[aN] at hk;split at hk
  .rename_i e;have:k=n:=by omega
   rw[this];exact ht
  .exact h.yt k hk
 .simp only[aN];split
  .rename_i e;subst e;rw[hf] at hk;cases hk
  .exact (h.fy k hk).1
 .simp only[aN] at hk;split at hk
  .rename_i e;subst e;exact hd
  .exact h.ye k hk
def Cx0 {P:D4}(h:C1 w B y P a N)(n:Nat)(st:Int)(T4:nx w B la ll lc bs)(O2:∀ b ∈ bs,0<=b/\b<256)(hl:ll<=y.room)
  (hp:n<y.pages) (ht:y.taken n=true) (hf:y.fresh n=false) (hd:y.dead n=false) {j:Nat} (hj:j<y.pages) (P2:y.taken j=false) (hN:N+1<=90000) :
  cP 26 #[B.ptr,.agg #[iI n,iI st],sL la ll lc] w (CA0 B y P a N n bs w):=by
 have IJ:=h.jr;obtain⟨⟨x,c,hS,rfl,hi⟩,hT,hb⟩:=h;have hlen:=T4.1.Y6.len;refine (uF0 hS n st (bs:=bs) hl hp ht hf fun W K8 F'=>SF.QK K8 (hT.fr F' id) hb (nx.J0 T4 F' IJ) hl hj P2 fun W' p n hn Ul hF hp=>OP Ul (((hi.holds.T1 (D0.none (B:=B) F')).T1 hF).good:zf W' x) (hi.dev.up hi.down hi.few) n p hp).mono ?_;rintro e w' ⟨m,err,g,D,p,hm,he,hg,ho,K8,aX,F⟩;have C8:=hS.rg;have dL:=LY hS;have xI:P (x.first+m)=none:=by
  cases hP:P (x.first+m) with
  | none=>rfl
  | some v =>
   have:=(hi.rq rfl m hm.1 (show P _≠_ by rw[hP];simp)).1;rw[hm.2.1] at this;cases this
 obtain⟨h1,h2,h3⟩:=goes hi.holds hi.dev hi.down hg ho F ⟨aX.1,aX.2.2⟩ (n:=m) (st:=x.gen) ⟨by have:=hm.1;omega,dL,by rw[hlen];exact hl,O2⟩ ⟨C8.2.2.2.2,C8.2.2.2.1,C8.2.2.1⟩ (fun _=>xI) (fun hc=>by rw[aX.2.1] at hc;cases hc);refine⟨m,err,hm,he,?_,F⟩;rcases h2 with⟨rfl,hD⟩|⟨rfl,ha,hD⟩
 .rw[moved,if_pos rfl] at K8;have om:x.taken n=true:=ht;have zP:m≠n:=by rintro rfl;rw[hm.2.1] at om;cases om
  refine .inl ⟨rfl,⟨_,_,K8,?_,⟨hD,h1.1,h3 _ rfl rfl rfl rfl rfl,fun _ k hk hP=>?_,?_,hN⟩⟩,hT.fr F fun h=>oM,hb⟩
  .show Cs.moved (x.cs c) n m bs=_;simp[Cs.moved,Cs.new,T3.cs,tk,h1.2.1,h1.2.2]
  .obtain⟨a1,a2⟩:=hi.rq rfl k hk hP;have L8:k≠m:=by rintro rfl;rw[hm.2.1] at a1;cases a1
   exact⟨by show upd x.taken m true k=true;simp[upd,L8,a1],by show aN x.fresh m true k=false;simp only[aN];rw[if_neg oM];exact a2⟩
  .refine (hi.apart.new hm.2.1).dies (n:=n) ?_ ?_ hd
   .simp only[upd];split
    .rfl
    .exact ht
   .simp only[aN];rw[if_neg oM];exact hf
 .subst ha;rw[moved,if_neg dC] at K8;exact .inr ⟨rfl,rfl,⟨D,K8.dev,h1.1,hD,h1.2.1,h1.2.2⟩⟩
def Cs.commit (y:Cs):Cs:=
 { y with taken:=fun i=>y.taken i && !y.dead i,cont:=fun k=>if y.dead k then none else y.cont k,dead:=y.dying,dying:=fun _=>false,fresh:=fun _=>false,gen:=y.gen+1 }
variable {P:J2}
def Dp0 (h:C1 w B y P a N):cP 31 #[B.ptr] w fun e w'=>e = rT (iI y.gen)/\w=w':=by
 obtain⟨⟨x,c,hS,rfl,hi⟩,hT,hb⟩:=h;exact Bl0 hS
def AM0 (y:Cs)(w:w9)(e:Ending)(w':w9):Prop:=
 ∃ v0 v1 v2 v3 L1 L2 L3,e = rT (.agg #[v0,v1,v2,v3])/\Ints w' v0 (tu y.taken y.pages)/\Ints w' v1 L1/\Ints w' v2 L2/\Ints w' v3 L3/\(RowOf y.fresh L1/\RowOf y.dying L2/\RowOf y.dead L3)/\Fq w w'
def zY0 (h:C1 w B y P a N):cP 32 #[B.ptr] w (AM0 y w):=by
 obtain⟨⟨x,c,hS,rfl,hi⟩,hT,hb⟩:=h;exact wZ0 hS hT
def Bd0 (h:C1 w B y P a N)(n:Nat)(st:Int)(hp:n<y.pages)(ht:y.taken n=false) :
  cP 28 #[B.ptr,.agg #[iI n,iI st]] w fun e w'=>e = rT (iI 0)/\C1 w' B { y with taken:=upd y.taken n true } P a N/\D0 B w w':=by
 obtain⟨⟨x,c,hS,rfl,hi⟩,hT,hb⟩:=h;refine (th0 hS n st hp ht).mono ?_;rintro e w' ⟨rfl,K8,F⟩;have hh:=hi.holds.T1 F;have ha:=hi.apart;have hu:∀ k,x.taken k=true->upd x.taken n true k=true:=fun k hk=>by
  simp only[upd];split
  .rfl
  .exact hk
 exact⟨rfl,⟨⟨_,c,K8,rfl,hi.down,hi.dev,⟨hh.ok,hh.mem,hh.dev⟩,fun hr k hk hP=>⟨hu k (hi.rq hr k hk hP).1,(hi.rq hr k hk hP).2⟩,⟨fun k hk=>hu k (ha.ft k hk),fun k hk=>hu k (ha.yt k hk),fun k hk=>hu k (ha.et k hk),ha.fy,ha.ye⟩,hi.few⟩,hT.fr F fun h=>oM,hb⟩,F⟩
def Ga (p:R8)(gen:Nat)(D:Dev)(c:Cont):Cs:=(Mz p gen D).cs c
def tS0 {p:R8}{gen:Nat}(hS:X1 w B (Mz p gen D))(hT:Tab w)(hb:0<B.base)(hr:P.ro=false->∀ s,P s=none)(hd:bj D P a N)(hdn:D.down=false)(hN:N<=90000)(c:Cont)
  (hc:∀ k st bs,c k=some (st,bs)->Ae (S6 p).pages.toNat (D.size-19) k st bs/\D.sec ((S6 p).page+k)=D6 D.size 2 k.toNat st bs):C1 w B (Ga p gen D c) P a N:=by
 refine⟨⟨_,c,hS,rfl,hdn,hd,⟨fun k st bs hk=>(hc k st bs hk).1,fun k q hq=>(by cases hq),fun k st bs hk _=>(hc k st bs hk).2⟩,fun h k _ hP=>absurd (hr h _) hP,⟨fun k hk=>(by cases hk),fun k hk=>(by cases hk),fun k hk=>(by cases hk),fun k hk=>(by cases hk),fun k hk=>by cases hk⟩,hN⟩,hT,hb⟩
def vG0 (s z:Nat):bj (Dev.fresh s z) (fun _=>none) false 0:=⟨nR _,nR _,fun y hy=>(by cases hy),fun k bs h=>(by cases h),(by show (0:Nat)<=_;omega),fun _=>rfl,⟨fun y hy=>(by cases hy),fun k bs h=>by cases h⟩⟩
def vH0 (h:Q4 w base d bf bq (Dev.fresh s z))(hb:base<=w)(hT:Tab w)(h0:0<base)(c dd f dp hh sd:Int)(O3:eS ⟨s,z,c,dd,f,dp,hh,sd⟩=true) :
  cP 19 #[pO d,(R8.mk s z c dd f dp hh sd).val] w fun e w'=>∃ B:P0,(B.base=base/\B.d=d/\B.bf=bf/\B.bq=bq)/\e = rT (tU #[B.ptr,iI 0]) /\
   C1 w' B (Ga ⟨s,z,c,dd,f,dp,hh,sd⟩ 0 (Dev.fresh s z) fun _=>none) ((fun _=>none:D4):J2) false 0/\Fq w w':=
 (sI0 h hb c dd f dp hh sd O3).mono fun e w' ⟨B,hB,he,hS,F⟩=>⟨B,hB,he,tS0 hS (hT.fr F id) (by rw[hB.1];exact h0) (fun _ _=>rfl) (vG0 s z) rfl oM _ (fun k st bs hk=>by cases hk),F⟩
def C1.grown (h:C1 w B y P a N){e size:Nat}{v:Value}{xs:List Value}(A0:w.ownsRow base e size v n xs)(he:e ∉ 5 :: aR)(h0:0<base){o:Obj}(hg:(w.alloc o).grownBy w' v.ownBlock):C1 w' B y P a N:=by
 have mI:=fE w o;cases hv:v.ownBlock with
 | none =>
  rw[hv] at hg;exact h.J0 ⟨hg.os,hg.tape,hg.output,nT sP hg.size,fun b hb _=>(hg.block b (E4 hb sP) sP).trans (mI b hb)⟩
 | some g =>
  have hlt:=A0.lt g hv;obtain⟨_,⟨rfl,_⟩|⟨g',cap,cur,rfl,hb,dK,_⟩⟩:=A0
  .simp[Value.ownBlock] at hv
  .have:g'=g:=by simpa[Value.ownBlock] using hv
   subst this;rw[hv] at hg;refine h.M3 (k:=g') ⟨hg.os,hg.tape,hg.output,nT sP hg.size,fun b hb hn=>(hg.block b (E4 hb sP) fun e=>hn (by cases e;rfl)).trans (mI b hb)⟩ dK he oM
end
section
open Go.RowKit Go.Sg Go.Sg.r4 Go.Shelf CP
attribute [local go_sem] Oper.semAt_some
def keysOf (pl:List Pl):List Int:=(en pl.length pl).map (·.2.key)
def HoldsK (w:w9)(pre:List (Nat × Pl))(W:w9):Prop:=
 ∃ v,Boxed W w.heap.size 52 v/\W.ownsRow w 3 1 v pre.length (pre.map fun x=>iI x.2.key)/\True
variable {w:w9}{pl:List Pl}
def zn0 {bc bp bm hand:Nat}(h:AtP w bc bp bm pl hand) :
  cP 169 #[pO bc] w fun e w'=>∃ v,e = rT v/\w'.ownsRow w 3 1 v (keysOf pl).length ((keysOf pl).map (Value.int .i64))/\Fq w w':=by
 obtain⟨i0,A3,J1,M1,O1⟩:=info_parts bJ;refine (callsIn_wide (n:=10)).1 ?_;have hr:=h.room;have F:=hid (oA0 (some ⟨bc,0,none⟩) (w.alloc (.cells #[sL none 0 0] 52)));refine callsIn_of_wp_marks func169 rfl trivial ?_ rfl;simp only[ntmps169,zA,lC,cJ,Nat.reduceAdd,Nat.reduceSub,dV,dW,dZ,dX,C7,ak];gi_wp2_with (gi_at_call 228;refine (callsIn_wide.2 F.o).mono ?_;rintro e w' ⟨rfl,rfl⟩)
 obtain⟨W0,B4⟩:=eX ((w.alloc (.cells #[sL none 0 0] 52)).alloc (.cells #[pO bc] 154))
 have bu:Fq w W0:=by rw[<- B4];exact ((Fr.refl _ w).alloc _).alloc _
 have hsz:W0.heap.size=w.heap.size+1+1:=by rw[<- B4];simp
 have ay:W0.heap[w.heap.size]?=some (.cells #[sL none 0 0] 52):=by rw[<- B4];exact (fE _ _ _ sP).trans (han _ _)
 have U3:W0.cell? (aA (w+1) 0)=some (pO bc):=by rw[<- B4];simp[go_sem]
 have h0:AtP W0 bc bp bm pl hand:=h.fr bu id id id;have mK:=M0 h0.p;have xB:=M0 h.p;simp only[B4];have EX:∀ (W:w9) (l:Nat) (o o':Obj),W0<=l->W.heap[l]?=some o->o.isCells=false->o.isWalk=false->(W.putObj l o').heap[bp]?=W.heap[bp]?:=fun W l o o' hl _ _ _=>aC _ _ _ _ oM
 refine wpIn_rangeFunc_ownH (F:=Fence.wide) rfl oM (gf:=268) (lb:=#[pO (aP (w+1) 0)]) rfl trivial (enters_of func268 kF rfl)
  (ik0 h0 U3) (fun h k=>k.trans h) EX (Below.refl _ _) (fun _=>rfl)
  (fun pre W=>HoldsK w pre W/\Fq w W/\Fr (fun _=>True) W0 W)
  (fun _ _ _=>False)
  (U6 ((holdsRow_own w.heap.size w.heap.size 52 3 1 (fun pre:List (Nat × Pl)=>pre.length) (fun pre=>pre.map fun x=>iI x.2.key) fun _ _=>True).from _) (U6 (oY oM) (oY (nR _))))
  (fun _ _ _ _ _ h=>h.elim)
  ⟨⟨_,ay,World.ownsRow_nil _ _ _ _,trivial⟩,bu,fR⟩
  (fun x a' W=>∃ Bx,(W0.heap.size<=Bx/\W.heap[Bx]?=some (.cells #[iI x.2.key,iI x.2.v.stamp,sL x.2.v.la x.2.v.ll x.2.v.lc,bO x.2.v.dirty,bO x.2.full,bO x.2.marked] 264))/\a'={ tmps:=#[pO bc,undef,sL none 0 0,pO w,undef,pO (aP Bx 0),pO bc,bO false,pO bc,.func (.func 268) #[] #[pO (aP (w+1) 0)],iI x.1,.agg #[iI x.2.key,iI x.2.v.stamp,sL x.2.v.la x.2.v.ll x.2.v.lc,bO x.2.v.dirty,bO x.2.full,bO x.2.marked],undef,undef,undef,undef,undef,undef],defers:=[] })
  (fun x a'=>sj fun Bx=>U6 (U6 (eR _ _) (gU _ _ _ fun _=>.inl rfl)) (eR _ _))
  ?assign ?body ?done ?stop
 case assign =>
  rintro l pre x W K ⟨hI,hF,iL⟩ hK;have kG:=hF.size;have FN:Fq W (W.alloc (.cells #[iI x.2.key,iI x.2.v.stamp,sL x.2.v.la x.2.v.ll x.2.v.lc,bO x.2.v.dirty,bO x.2.full,bO x.2.marked] 264)):=fR.alloc _;obtain⟨v,hv,A0,-⟩:=hI;have B4:W0<=(W:Nat):=iL.size;have HI:=hi2 hv (aI A0 (aI hF iL));have HK:=hid hK;clear hv A0 hF iL hK h0 ay U3;gi_wp2
  obtain⟨hv,A0,hF,iL⟩:=HI.o;refine HK _ _ ((KeepsOthers.alloc _ _).from _) (FN.block _ oM id) ⟨⟨v,FN.heap hv id,A0.alloc _,trivial⟩,hF.trans FN nI,iL.alloc _⟩ ⟨W.heap.size,⟨B4,han _ _⟩,rfl⟩
 case body =>
  rintro l pre x a' W hl ⟨r,hr⟩ ⟨⟨v,hv,A0,-⟩,hF,iL⟩ ⟨Bx,⟨OX,pE⟩,rfl⟩ hlen;have e0:=hv.cell;have e1:=hv.frozen;have l1:=hv.lt;have kG:=hF.size;have z0:=G0 pE 0;simp at z0;have HV:=hid hv;have HO:=hid A0;clear hv A0 h0 ay U3 pE;gi_wp2_with (gi_at_builtin;refine wpListIn_append_own _ rfl (.tmp 12) (.tmp 15) 52 rfl w.heap.size 3 i0 _ 1 8 underlying52 A3 J1 M1 O1 rfl dC _ _ _ rfl (HO.alloc _) ⟨W,0,none⟩ 1 1 [iI x.2.key] rfl rfl (cell_one_new _ _ _) (by simp[Value.oneCell']) ?c3 ?c4 ?c5 ?_)
  case c3=>simp[maxLen];omega
  case c4=>omega
  case c5=>simp;omega
  intro v1 w2 N0 R0 Y4;obtain⟨g,cap,rfl⟩:=ownsRow_succ N0;obtain⟨d1,d2,d3,d4,d5⟩:=HV.appended dC HO kG (nR _) N0 R0;have f0:=d1.cell;have f1:=d1.frozen;have D2:=hid d2;have D3:=hid d3;clear N0 R0 Y4 d1 d2 d3;gi_wp2
  refine⟨d4.from _,d5.block _ oM,⟨_,D2.o,by simpa using D3.o,trivial⟩,?_,⟨d5.os.trans iL.os,d5.tape.trans iL.tape,d5.output.trans iL.output,nT iL.size d5.size,fun _ _ hn=>absurd trivial hn⟩⟩;exact⟨d5.os.trans hF.os,d5.tape.trans hF.tape,d5.output.trans hF.output,nT hF.size d5.size,fun b hb hn=>(d5.block b hb).trans (hF.block b hb hn)⟩
 case done =>
  rintro D ys W hD rfl ⟨⟨v,hv,A0,-⟩,hF,-⟩ hK;have e0:=hv.cell;have HO:=hid A0;clear A0 hv h0 ay U3;gi_wp2
  have hI:=ownsRow_putObj HO (.deferred none) hK rfl;refine wR (t:=2) rfl hK ⟨v,rfl,by simpa[keysOf,Function.comp_def] using hI,hF.putObj (fun hh=>oM) _⟩
 case stop=>exact fun _ _ _ _ _ _ h=>h.elim
def TH (pl:List Pl)(n:Nat)(x:Nat × Pl):x ∈ en n pl↔x.1<n/\pl[x.1]?=some x.2/\x.2.full=true:=by
 simp only[en,List.mem_filterMap,N4,List.mem_range];constructor
 .rintro⟨y,⟨i,hi,rfl⟩,h⟩;cases hp:pl[i]? with
  | none=>rw[hp] at h;cases h
  | some p =>
   rw[hp] at h;simp only[FO] at h;split at h
   .rename_i hf;cases h;exact⟨hi,hp,hf⟩
   .cases h
 .rintro⟨hi,hp,hf⟩;refine⟨_,⟨x.1,hi,rfl⟩,?_⟩;simp[hp,hf]
def qM0 (hn:Nd pl)(k:Int):k ∈ keysOf pl↔(D9 pl k).isSome=true:=by
 rw[keysOf,N4];constructor
 .rintro⟨x,hx,rfl⟩;obtain⟨_,hp,hf⟩:=(TH _ _ _).1 hx;rw[(Ij hn _ x.2.v).2 ⟨x.1,x.2,hp,hf,rfl,rfl⟩];rfl
 .intro h;obtain⟨v,hv⟩:=Option.isSome_iff_exists.1 h;obtain⟨i,p,hp,hf,hk,_⟩:=(Ij hn k v).1 hv;exact⟨(i,p),(TH _ _ _).2 ⟨(gI.1 hp).1,hp,hf⟩,hk⟩
def mu0 (hn:Nd pl):(keysOf pl).Nodup:=by
 have:∀ k,k<=pl.length->((en k pl).map (·.2.key)).Nodup:=by
  intro k;induction k with
  | zero=>intro _;exact Mp
  | succ k ih =>
   intro hk;have hp:=gE (show k<pl.length by omega);rw[Oa k pl _ hp];split
   .rename_i hf;rw[B9,yh];refine⟨ih oM,by simp,?_⟩;rintro a ha b hb rfl;simp at hb;obtain⟨x,hx,e⟩:=N4.1 ha;obtain⟨h1,h2,h3⟩:=(TH _ _ _).1 hx;have:=hn x.1 k x.2 _ h2 hp h3 hf (by rw[e,hb]);omega
   .exact ih oM
 exact this _ (nR _)
def qN0 (pl:List Pl):(keysOf pl).length<=pl.length:=by
 rw[keysOf,Z8];exact NU _ _
def vp0 (m:Int->Option Pg)(n:Nat)(w:w9)(e:Ending)(w':w9):Prop:=
 ∃ (v:Value) (ks:List Int),e = rT v/\w'.ownsRow w 3 1 v ks.length (ks.map (Value.int .i64))/\(∀ k,k ∈ ks↔(m k).isSome=true)/\ks.Nodup/\ks.length<=n/\Fq w w'
def qL0 {bc bp bm n:Nat}{m:Int->Option Pg}(h:cR w bc bp bm n m):cP 169 #[pO bc] w (vp0 m n w):=by
 obtain⟨pl,hand,hA,hl,hm⟩:=h.ex;refine (zn0 hA).mono fun e w' ⟨v,he,hI,hF⟩=>⟨v,keysOf pl,he,hI,fun k=>?_,mu0 hA.nd,by rw[<- hl];exact qN0 pl,hF⟩
 rw[qM0 hA.nd,hm]
end
end Go.Proofs.YtgdhaaokolfdoaaGreatDoor
namespace Go.Sg
open Go.RowKit
variable {F:Fence}{n:Nat}{P:Program}
def rJ0 {α:Type}(F:Fence)(n:Nat)(P:Program)(g:Nat)(lb:Array Value)(encs:α->Array Value)(I:List α->World->Prop)(Kp:World->World->Prop)(S Sp:List α->Prop)(N:Nat)(w:w9):Prop:=
 ∀ (l:Nat) (J Jx:List α->World->Prop) (W:w9),(∀ pre W1,J pre W1->I pre W1)->Below w.heap.size w W->AbidesFrom W.heap.size J->AbidesFrom W.heap.size Jx ->
  (∀ pre x W1,J pre W1->pre.length<N->YieldAt F (n-1) P l (encs x) W1 fun e W'=>(e = rT (bO true)/\J (pre++[x]) W'/\Kp W1 W')\/(e = rT (bO false)/\Jx (pre++[x]) W')) ->
  J [] W->CallsIn F n P g (#[.func (.yield l) #[] #[]]++lb) W fun e W'=>(∃ v,e = rT v)/\((∃ xs,S xs/\J xs W')\/(∃ pre,Sp pre/\Jx pre W'))
def Xi {α:Type}(B:Nat)(Kp:World->World->Prop)(I:List α->World->Prop)(Ix:Code->List α->World->Prop)(xs:List α)(W:w9):Exit->Act->World->Prop
 | .normal,_,W'=>KeepsFrom B W W'/\Kp W W'/\I xs W'
 | .ret,_,W'=>KeepsFrom B W W'/\Ix .ret xs W'
 | .exit id,_,W'=>KeepsFrom B W W'/\Ix (.exit id) xs W'
 | .goto t,_,W'=>KeepsFrom B W W'/\Ix (.goto t) xs W'
 | _,_,_=>False
def ju0 {α:Type}{g:Operand}{ps:Array Tmp}{assign body:Code}{Q:Exit->Act->World->Prop}{a:Act}{w:w9}
  (hro:F.round=none) (h1:1<=n) {gf:Nat} {lb:Array Value} (hg:a.eval g = .func (.func gf) #[] lb) (Cb:F.fn gf) (eg:∀ args w,(callFunc gf args).run P w = .ok (.enter gf args) w)
  {encs:α->Array Value} {Kp:World->World->Prop} {S Sp:List α->Prop} {N:Nat} {w0:w9} (I:List α->World->Prop) (gB:rJ0 F (n-1) P gf lb encs I Kp S Sp N w0)
  (mB:∀ {A B C:w9},Kp A B->Kp B C->Kp A C) (sC:∀ (W:w9) (l:Nat) (o o':Obj),w.heap.size<=l->W.heap[l]?=some o->o.isCells=false->o.isWalk=false->Kp W (W.putObj l o'))
  (d7:Below w0.heap.size w0 w) (aD:∀ x,(encs x).size=ps.size)
  (Ix:Code->List α->World->Prop) (hI:OwnFrom w.heap.size I) (sA:∀ c,OwnFrom w.heap.size (Ix c)) (h0:I [] w) (Ax:α->Act->World->Prop) (hAx:∀ x a',OwnFrom w.heap.size fun (_:Unit) W=>Ax x a' W)
  (z8:∀ (l:Nat) (pre:List α) (x:α) (W:w9) (K:Act->World->Prop),I pre W->(∀ a' W',KeepsFrom w.heap.size W W'->Kp W W'->I pre W'->Ax x a' W'->K a' W') ->
   assign.wpIn (F.inRound l) (n-1-1) P (Exit.then K fun _ _ _=>False) { tmps:=(ps.zip (encs x)).foldl (fun t (p,v)=>t.setIfInBounds p v) a.tmps,defers:=[] } W)
  (au:∀ (l:Nat) (pre:List α) (x:α) (a':Act) (W:w9),w.heap.size<=l->(∃ r,W.heap[l]?=some (.loop r))->I pre W->Ax x a' W->pre.length<N->body.wpIn (F.inRound l) (n-1-1) P (Xi w.heap.size Kp I Ix (pre++[x]) W) a' W)
  (hdone:∀ (D:Nat) (xs:List α) (W:w9),w.heap.size<=D->S xs->I xs W->W.heap[D]?=some (.deferred (some []))->Q .normal { a with defers:={ target:=.collected D,args:=#[] } :: a.defers } W)
  (kH:∀ (D:Nat) (c:Code) (pre:List α) (W:w9),w.heap.size<=D->Sp pre->Ix c pre W->W.heap[D]?=some (.deferred (some []))->c.wpIn F n P Q { a with defers:={ target:=.collected D,args:=#[] } :: a.defers } W) :
  (Code.rangeFunc g ps assign body).wpIn F n P Q a w:=by
 refine wpIn_rangeFunc fun fn U9=>?_
 rw[hro];-- the loop's record,in whatever state
 let nh:LoopState->Option Code->Loop:=fun st pe=>{ state:=st,pending:=pe,fn,tmps:=a.tmps,params:=ps,assign,body,defers:=w.heap.size }
 obtain⟨rd,B8⟩:=xe nh
 have oE:∀ st pe,(rd st pe).state=st:=fun st pe=>by rw[B8]
 have vM:∀ st pe,(rd st pe).pending=pe:=fun st pe=>by rw[B8]
 obtain⟨L,hL⟩:=xe (w.heap.size+1)
 obtain⟨W1,M2⟩:=eX ((w.alloc (.deferred (some []))).alloc (.loop (rd .ready none)))
 obtain⟨BW,gh,F1⟩:=n9 M2;rw[<- hL] at gh;have I9:I [] W1:=by rw[<- M2];exact hI.alloc _ (hI.alloc _ h0)
 have E5:Below w0.heap.size w0 W1:=by
  refine d7.trans ((Fr.below (S:=fun _=>False) F1 nI).mono d7.size)
 have E3:W1.heap.size=w.heap.size+2:=by rw[<- M2];simp
 refine⟨L,[{ target:=.collected w.heap.size,args:=#[] }],W1,{ target:=.fn (.func gf) lb,args:=#[.func (.yield L) #[] #[]] },W1,gf,#[.func (.yield L) #[] #[]]++lb,W1,?_,?_,?_,?_,fun _=>h1,?_⟩
 .rw[<- M2,hL,B8];exact run_enterLoop_outer _ _ _ _ _
 .simp only[resolve,hg];simp[go_sem]
 .intro f' pJ;simp[Target.leads] at pJ;subst pJ;exact Cb
 .simp[invoke,go_sem,eg]
 have aE:∀ {A B:w9} {row:Option Nat},(∀ r,row=some r->W1.heap.size<=r/\∃ o:Obj,A.heap[r]?=some o/\o.isWalk=true)->(∀ r,row=some r->w.heap.size<=r/\∃ o:Obj,A.heap[r]?=some o/\o.isCells=false):=
  fun hr r e=>by obtain⟨hB,o,ho,hw⟩:=hr r e;exact⟨oM,o,ho,Obj.not_cells_of_walk hw⟩
 have hY:∀ pre x W,(I pre W/\W.heap[L]?=some (.loop (rd .ready none))/\W.heap[w.heap.size]?=some (.deferred (some [])))->pre.length<N ->
   YieldAt F (n-1-1) P L (encs x) W fun e W'=>(e = rT (bO true)/\(I (pre++[x]) W'/\W'.heap[L]?=some (.loop (rd .ready none))/\W'.heap[w.heap.size]?=some (.deferred (some [])))/\Kp W W') \/
    (e = rT (bO false)/\∃ c,Ix c (pre++[x]) W'/\W'.heap[L]?=some (.loop (rd .done (some c)))/\W'.heap[w.heap.size]?=some (.deferred (some []))):=by
  rintro pre x W ⟨hi,hl,hk⟩ hlen;have hy:=run_yield (P:=P) (args:=encs x) hl (by rw[B8];exact aD x);rw[B8] at hy;refine⟨fn,_,assign,body,hy,roundIn_of_wpIn U9 (z8 _ pre x W _ hi fun a' Wa tA M4 CU Cp=>?_)⟩;have M8:=tA.same _ _ oM hl rfl;have mR:=tA.same _ _ (nR _) hk rfl;have hlt:L<Wa:=M0 M8;refine⟨_,run_beginRound M8 (oE _ _),?_⟩;obtain⟨busy,K9⟩:∃ busy:Loop,{ rd .ready none with state:=.busy }=busy:=⟨_,rfl⟩
  rw[K9];have A8:(Wa.putObj L (.loop busy)).heap[L]?=some (.loop busy):=World.putObj_heap_same hlt;have iY:(Wa.putObj L (.loop busy)).heap[w.heap.size]?=some (.deferred (some [])):=(World.putObj_heap_other oM).trans mR;refine wpIn_mono (au _ pre x a' _ oM ⟨_,A8⟩ (hI.putObj _ CU oM M8 rfl) ((hAx x a').putObj (s:=()) _ Cp oM M8 rfl) hlen) ?_;have fin:∀ (jump:Option Code) (W3:w9),KeepsFrom w.heap.size (Wa.putObj L (.loop busy)) W3 ->
    (Instr.endRound L jump).run P W3 = .ok (bO jump.isNone) (W3.putObj L (.loop (rd (if jump.isNone then .ready else .done) jump)))/\W3.heap[L]?=some (.loop busy) /\
    (W3.putObj L (.loop (rd (if jump.isNone then .ready else .done) jump))).heap[L]?=some (.loop (rd (if jump.isNone then .ready else .done) jump)) /\
    (W3.putObj L (.loop (rd (if jump.isNone then .ready else .done) jump))).heap[w.heap.size]?=some (.deferred (some [])):=fun jump W3 Q2=>by
   have Y8:=Q2.same _ _ oM A8 rfl;refine⟨?_,Y8,World.putObj_heap_same (M0 Y8),(World.putObj_heap_other oM).trans (Q2.same _ _ (nR _) iY rfl)⟩;have:=run_endRound (P:=P) jump Y8;rw[<- K9,B8] at this;rw[B8];exact this
  have A9:Kp Wa (Wa.putObj L (.loop busy)):=sC _ _ _ _ oM M8 rfl rfl;rintro e a3 W3 hp;have out:∀ c,KeepsFrom w.heap.size (Wa.putObj L (.loop busy)) W3/\Ix c (pre++[x]) W3->∃ v W4,(Instr.endRound L (some c)).run P W3 = .ok v W4/\((rT v = rT (bO true)/\(I (pre++[x]) W4/\W4.heap[L]?=some (.loop (rd .ready none))/\W4.heap[w.heap.size]?=some (.deferred (some [])))/\Kp W W4) \/
    (rT v = rT (bO false)/\∃ c,Ix c (pre++[x]) W4/\W4.heap[L]?=some (.loop (rd .done (some c)))/\W4.heap[w.heap.size]?=some (.deferred (some [])))):=by
   rintro c ⟨Q2,pK⟩;obtain⟨hr,Y8,ja,pL⟩:=fin (some c) W3 Q2;exact⟨_,_,hr,.inr ⟨rfl,c,(sA c).putObj _ pK oM Y8 rfl,ja,pL⟩⟩
  cases e with
  | normal =>
   obtain⟨Q2,mS,pK⟩:=hp;obtain⟨hr,Y8,ja,pL⟩:=fin none W3 Q2;exact⟨_,_,hr,.inl ⟨rfl,⟨hI.putObj _ pK oM Y8 rfl,ja,pL⟩,mB M4 (mB (mB A9 mS) (sC _ _ _ _ oM Y8 rfl rfl))⟩⟩
  | ret=>exact out _ hp
  | exit id=>exact out _ hp
  | goto t=>exact out _ hp
  | panic ch=>exact hp.elim
  | outgrown=>exact hp.elim
 have eZ:=gB L (fun pre W=>I pre W/\W.heap[L]?=some (.loop (rd .ready none))/\W.heap[w.heap.size]?=some (.deferred (some [])))
  (fun pre W=>∃ c,Ix c pre W/\W.heap[L]?=some (.loop (rd .done (some c)))/\W.heap[w.heap.size]?=some (.deferred (some []))) W1 (fun _ _ h=>h.1) E5
  (fun s A B row hs I1 hr=>⟨hI s A B row hs.1 I1 (aE (B:=B) hr),(grownBy_keeps I1 (fun r e=>(hr r e).2) hs.2.1 rfl).trans hs.2.1,(grownBy_keeps I1 (fun r e=>(hr r e).2) hs.2.2 rfl).trans hs.2.2⟩)
  (fun s A B row hs I1 hr=>by
   obtain⟨c,hc,hl,hk⟩:=hs;exact⟨c,sA c s A B row hc I1 (aE (B:=B) hr),(grownBy_keeps I1 (fun r e=>(hr r e).2) hl rfl).trans hl,(grownBy_keeps I1 (fun r e=>(hr r e).2) hk rfl).trans hk⟩)
  hY ⟨I9,gh,BW⟩
 refine eZ.mono ?_;rintro e W2 ⟨⟨v,rfl⟩,(⟨xs,hS,hi,hl,hk⟩|⟨pre,mF,c,hi,hl,hk⟩)⟩
 .have hr:=run_endLoop (P:=P) hl (by rw[oE];simp);rw[vM] at hr;exact⟨none,_,hr,hdone _ xs _ (nR _) hS (hI.putObj _ hi oM hl rfl) ((World.putObj_heap_other oM).trans hk)⟩
 .have hr:=run_endLoop (P:=P) hl (by rw[oE];simp);rw[vM] at hr;exact⟨some c,_,hr,kH _ c pre _ (nR _) mF ((sA c).putObj _ hi oM hl rfl) ((World.putObj_heap_other oM).trans hk)⟩
end Go.Sg
namespace Go.Proofs.YtgdhaaokolfdoaaGreatDoor
open Go.RowKit Go.Sg Go.Sg.r4 Go.Shelf CP Tryz
attribute [local go_sem] Oper.semAt_some
def sX0 (a:Option Addr)(w:w9) :
  cP 109 #[pO a] w fun e w'=>e = rT (.func (.func 168) #[] #[pO w])/\w.alloc (.cells #[pO a] 23)=w':=by
 go_enter func109,ntmps109;go_wp2
 go_ret;exact⟨rfl,rfl⟩
abbrev uB (m:Int->Option Pg):={ p:Int × Pg // m p.1=some p.2/\p.2.dirty=true }
abbrev Zl {m:Int->Option Pg}(x:uB m):Array Value:=#[iI x.1.1,x.1.2.val]
def Pg.clean (q:Pg):Pg:={ q with dirty:=false }
def cleaned (m:Int->Option Pg)(L:List Int):Int->Option Pg:=fun k=>if k ∈ L then (m k).map Pg.clean else m k
def ae {m:Int->Option Pg}(pre:List (uB m)):List Int:=pre.map (·.1.1)
def Cg0 (B:P0)(m:Int->Option Pg)(n bx:Nat)(pre:List (uB m))(W:w9):Prop:=
 W.heap[bx]?=some (.cells #[B.ptr] 23)/\∃ x,X1 W B x/\x.places=n/\x.mem=cleaned m (ae pre)
def yO (A C:w9):Prop:=∀ (g:Nat) (c:Array Value) (f:Nat × Nat),A.heap[g]?=some (.cells c 3 f)->C.heap[g]?=some (.cells c 3 f)
def DP0 (m:Int->Option Pg)(xs:List (uB m)):Prop:=∀ k q,m k=some q->q.dirty=true->k ∈ ae xs
def Up {β:Type}{Bn:Nat}{J:β->World->Prop}(hJ:AbidesFrom Bn J){s:β}{W W':w9}(h:J s W)(F:Fq W W'):J s W':=
 hJ s W W' none h ⟨F.os,F.tape,F.output,F.size,fun b hb _=>F.block b hb id⟩ (fun r e=>by cases e)
variable {A C w:w9}{b n:Nat}{v:Value}{ks:List Int}{k:Int}
def tq0 (h:A.ownsRow b 3 1 v ks.length (ks.map (Value.int .i64)))(K:yO A C):C.ownsRow b 3 1 v ks.length (ks.map (Value.int .i64)):=by
 obtain⟨hl,h0|⟨g,cap,cur,hv,hb,hg,r⟩⟩:=h
 .exact⟨hl,.inl h0⟩
 .exact⟨hl,.inr ⟨g,cap,cur,hv,hb,K g cur _ hg,r⟩⟩
def yO.fr (F:Fq A C):yO A C:=fun _ _ _ hg=>F.heap hg id
variable {m:Int->Option Pg}
def km0 {L:List Int}{q:Pg}(h:cleaned m L k=some q)(hd:q.dirty=true):m k=some q/\k ∉ L:=by
 unfold cleaned at h;split at h
 .cases hm:m k with
  | none=>rw[hm] at h;cases h
  | some p=>rw[hm] at h;simp at h;subst h;cases hd
 .rename_i hk;exact⟨h,hk⟩
def kM0 {a:Option Addr}{c:Nat}(h:w.ownsRow b 3 1 (sL a n c) ks.length (ks.map (Value.int .i64))){i:Nat}(hk:ks[i]?=some k):n=ks.length/\∃ g,a=some ⟨g,0,none⟩/\w.cell? (aA g i)=some (iI k):=by
 have hi:=(gI.1 hk).1;obtain⟨hl,⟨_,h1⟩|⟨g,cap,cur,hv,hb,hg,hc,hm,hs,ht⟩⟩:=h
 .omega
 .cases hv;refine⟨rfl,g,rfl,?_⟩;rw[G0 hg];have h2:(cur.toList.take (ks.length*1))[i]?=some (iI k):=by rw[ht,gP,hk];rfl
  rw[gT,if_pos oM] at h2;simpa using h2
def jm0 (h:w.ownsRow b 3 1 v ks.length (ks.map (Value.int .i64))):∃ a c,v = sL a ks.length c:=by
 obtain⟨hl,⟨h0,h1⟩|⟨g,cap,cur,hv,r⟩⟩:=h
 .exact⟨none,0,by rw[h0,h1]⟩
 .exact⟨_,_,hv⟩
def DN0 {m:Int->Option Pg}(J:List (uB m)->World->Prop)(_:Int->Option Pg)(ks:List Int)(ka:Option Addr)(kc b k:Nat)(wr:w9):Prop:=
 ∃ pre,J pre wr/\wr.ownsRow b 3 1 (sL ka ks.length kc) ks.length (ks.map (Value.int .i64))/\(∀ j ∈ ae pre,j ∈ ks.take k)/\pre.length<=k/\∀ j q,m j=some q->q.dirty=true->j ∈ ks.take k->j ∈ ae pre
def nc0 {B:P0}{bx:Nat}{I:List (uB m)->World->Prop}(hn:n<=100000)(hI:∀ pre W,I pre W->Cg0 B m n bx pre W) :
  rJ0 Fence.wide 9 prog 168 #[pO bx] Zl I yO (fun xs=>DP0 m xs/\xs.length<=n) (fun pre=>pre.length<=n) n w:=fun l J Jx W hJI hW hJ _ hY h0=>by
 obtain⟨U3,x0,iM,lI,De⟩:=hI _ _ (hJI _ _ h0);have cx:=G0 U3 0;simp at cx;have c17:=iM.sc.c17;have HK:=hid (qL0 iM.mem);have H0:=hi2 U3 (aI iM (aI lI (aI De h0)));clear U3 iM lI De h0;refine callsIn_of_wp func168 rfl trivial ?_ rfl;simp only[ntmps168,zA,lC,cJ,Nat.reduceAdd,Nat.reduceSub,dV,dW,dZ,dX,C7,ak];gi_wp2_with (fail)
 refine (callsIn_wide.2 HK.o).mono ?_;rintro e W1 ⟨v,ks,rfl,Fm,aw,L8,lG,F1⟩;obtain⟨ka,kc,rfl⟩:=jm0 Fm;have px:=Up hJ H0.2.2.2.2 F1;have hkl':ks.length<=n:=by rw[<- H0.2.2.1];exact lG
 have Nk:=hi2 Fm (aI aw L8);have Sc:=hid px;clear Fm aw L8 px F1 lG cx c17 HK;gi_wp2
 gi_loopw [13] (fun i wr=>∃ k:Nat,k<=ks.length/\i = iI k/\DN0 J m ks ka kc W.heap.size k wr) fun i _=>ks.length-(intOf i).toNat
 case atStart=>exact⟨0,C3 _,rfl,[],Sc.o,Nk.1,(fun j hj=>by cases hj),nR _,fun j q _ _ hj=>by simp at hj⟩
 case round =>
  obtain⟨k,hk,rfl,pre,lh,A0,T4,hlen,kx⟩:=hrel;obtain⟨U3,x,hS,hxn,Ly⟩:=hI _ _ (hJI _ _ lh);by_cases hlt:k<ks.length
  .obtain⟨key,X8⟩:∃ key,ks[k]?=some key:=⟨_,gE hlt⟩
   obtain⟨-,g,rfl,hcell⟩:=kM0 A0 X8;have Kx:key ∉ ks.take k:=fun hm=>by
    obtain⟨j,hj⟩:=ou.1 hm;rw[gT] at hj;split at hj
    .rename_i hjk;have:=(FM oM Nk.2.2).1 (hj.trans X8.symm);omega
    .cases hj
   have eA:key ∉ ae pre:=fun h=>Kx (T4 key h)
   obtain⟨q,hq⟩:∃ q,m key=some q:=by
    have h1:=(Nk.2.1 key).1 (gM X8);rw[H0.2.2.2.1] at h1;simpa[cleaned,ae,Option.isSome_iff_exists] using h1
   have Lz:x.mem key=some q:=by rw[Ly,cleaned,if_neg eA];exact hq
   have Z3:ks.take (k+1)=ks.take k++[key]:=by rw[ea,X8];rfl
   have cx:=G0 U3 0;simp at cx;have c17:=hS.sc.c17;have HL:=hid (qI0 hS.mem key);rw[Lz] at HL;have HR:=hi2 lh (aI A0 (aI T4 (aI kx (aI Z3 (aI hq Lz)))));clear U3 hS hxn Ly lh A0 T4 kx Kx eA Z3 X8 Lz;obtain⟨yq,la,ll,lc,di⟩:=q;gi_wp2_with (fail)
   refine (callsIn_wide.2 HL.o).mono ?_;rintro e w2 ⟨rfl,F2⟩;have xd:=Up hJ HR.1 (F2.alloc (.cells #[iI yq,sL la ll lc,bO di] 162));have sB:yO wr (w2.alloc (.cells #[iI yq,sL la ll lc,bO di] 162)):=yO.fr (F2.alloc _);have H2:=hi2 xd (tq0 HR.2.1 sB);clear F2 xd sB cx c17 hcell HL;simp only[Qq,Option.isSome_some];cases di with
   | false =>
    gi_wp2
    go_roundw;case rel =>
     obtain⟨lh,A0,T4,kx,Z3,hq,Lz⟩:=HR.o;refine⟨k+1,oM,by go_num,pre,H2.1,H2.2,fun j hj=>?_,oM,fun j q hj hd gp=>?_⟩
     .rw[Z3];exact pY _ (T4 j hj)
     .rw[Z3] at gp;rcases X5.1 gp with gp|gp
      .exact kx j q hj hd gp
      .simp at gp;subst gp;rw[hq] at hj;cases hj;cases hd
    case measure=>exact wM
   | true =>
    obtain⟨fn,tmps,assign,body,hy,mE⟩:=hY _ ⟨(key,⟨yq,la,ll,lc,true⟩),HR.2.2.2.2.2.1,rfl⟩ _ H2.1 oM;dsimp only[Zl] at hy;gi_wp2
    refine mE.mono ?_;rintro e W3 (⟨rfl,o6,Q2⟩|⟨rfl,N3⟩)
    .have H3:=hi2 o6 (tq0 H2.2 Q2);clear o6 Q2;gi_wp2
     go_roundw;case rel =>
      obtain⟨lh,A0,T4,kx,Z3,hq,Lz⟩:=HR.o;refine⟨k+1,oM,by go_num,_,H3.1,H3.2,fun j hj=>?_,by simp;omega,fun j q hj hd gp=>?_⟩
      .rw[Z3];simp only[ae,B9,qf,xX] at hj;rcases X5.1 hj with hj|hj
       .exact pY _ (T4 j hj)
       .exact lK _ hj
      .rw[Z3] at gp;simp only[ae,B9,qf,xX];rcases X5.1 gp with gp|gp
       .exact pY _ (kx j q hj hd gp)
       .exact lK _ gp
     case measure=>exact wM
    .have H3:=hid N3;clear N3;gi_wp2
     refine bodyPost_ret (results_none rfl _ _ _) rfl ?_;exact⟨⟨_,rfl⟩,.inr ⟨_,by simp;omega,H3.o⟩⟩
  .obtain rfl:k=ks.length:=by omega
   have HR:=hi2 lh (aI T4 kx);clear U3 hS hxn Ly lh A0 T4 kx;gi_wp2
   go_end0
   refine⟨⟨_,rfl⟩,.inl ⟨pre,⟨fun j q hj hd=>?_,oM⟩,HR.1⟩⟩;refine HR.2.2 j q hj hd ?_;rw[List.take_length];refine (Nk.2.1 j).2 ?_;rw[H0.2.2.2.1];simp[cleaned,ae,hj]
