/- A pack of texts. Conditions: those that each names. -/
import Derived.Test.YtgdhaaokolfdoaaGreatDoorNAN
set_option maxHeartbeats 16000000
set_option maxRecDepth 100000
set_option linter.all false
namespace Go.Proofs.YtgdhaaokolfdoaaGreatDoor
section
open Go.RowKit Go.Sg Go.Sg.Bits Go.Sg.Clk CP
namespace SF
end SF
end
section
open Go.RowKit Go.Sg Go.Sg.Bits Go.Sg.Clk CP SF
variable {w w':World}{N base bf bq d lc ll n s z:Nat}{a:Bool}{la:Option Addr}{bs:List Int}
theorem qP0 (hs:1<=s/\s<=16384)(hz:96<=z/\z<=512)(h1:w'.heap[w.heap.size]?=some (.map #[] 0))(h2:w'.heap[w.heap.size+1]?=some (.map #[] 0))
  (h3:w'.heap[w.heap.size+1+1]?=some (.cells #[.int .i64 s,.int .i64 z,.map (some w.heap.size),.slice none 0 0,.map (some (w.heap.size+1)),.int .i64 0,.int .i64 0,.bool false] 151)) :
  bt0 w' w.heap.size (w.heap.size+2) w.heap.size (w.heap.size+1) (Dev.fresh s z):=by
 refine⟨⟨_,h3,[],World.ownsRow_nil _ _ _ _,rfl,fun i x y hx _=>by simp at hx⟩,⟨[],0,h1,by simp[keys],fun k=>trivial⟩,⟨[],0,h2,by simp[keys],(fun e he=>by cases he),(fun e he=>by cases he)⟩,oM,oM,hs,hz⟩
theorem mY0 (s z:Nat)(hs:1<=s/\s<=16384)(hz:96<=z/\z<=512)(w:World) :
  Calls Tryz.prog 20 #[.int .i64 s,.int .i64 z] w fun e w'=>e = .returned (.pointer (some ⟨w.heap.size+2,0,none⟩))/\bt0 w' w.heap.size (w.heap.size+2) w.heap.size (w.heap.size+1) (Dev.fresh s z)/\Fq w w':=
 (rU0 s z oM oM oM oM w).mono fun e w' ⟨he,h1,h2,h3,hF⟩=>⟨he,qP0 hs hz h1 h2 h3,hF⟩
variable {D:Dev}
theorem rz0 (h:bt0 w base d bf bq D)(hb:base<=w.heap.size)(c dd f dp hh s:Int)(hfit:cj0 ⟨D.sectors,D.size,c,dd,f,dp,hh,s⟩=true) :
  Calls Tryz.prog 19 #[.pointer (some ⟨d,0,none⟩),(bp0.mk D.sectors D.size c dd f dp hh s).val] w (jX0 base d bf bq ⟨D.sectors,D.size,c,dd,f,dp,hh,s⟩ 0 D w):=by
 obtain⟨w1,hw1⟩:=eX (w.alloc (.cells #[.int .i64 D.sectors,.int .i64 D.size,.int .i64 c,.int .i64 dd,.int .i64 f,.int .i64 dp,.int .i64 hh,.int .u64 s] 31))
 have F1:Fq w w1:=by rw[<- hw1];exact (Fr.refl _ _).alloc _
 have H:=hid (rL0 (h.fr F1 id id id (fun _ _ _ _ _ h=>h)) (nT hb F1.size) c dd f dp hh s 0 oM hfit);have HW:=hid hw1;have HF1:=hid F1;clear h hw1 F1 hfit;go_enter Tryz.func19,Tryz.ntmps19;go_wp2_with fail
 rw[HW.out];refine H.out.mono ?_;rintro e w2 ⟨B,hB,rfl,hS,F2⟩;have HS:=hi2 hB (aI hS F2);clear hB hS F2;go_wp2
 go_ret2;exact⟨B,HS.out.1,rfl,HS.out.2.1,HF1.out.trans HS.out.2.2 nI⟩
def wp0 (B:Blk)(y:Cs)(P:aC0)(a:Bool)(N:Nat)(n:Nat)(bs:List Int)(w:World)(e:Ending)(w':World):Prop:=
 ∃ err,e = .returned (.tuple #[.agg #[.int .i64 n,.int .i64 y.gen],.int .i64 err])/\zW0 w' B y { y with cont:=fE0 y.cont n (some (y.gen,bs)) } P a (N+1) err/\FrB B w w'
variable {B:Blk}{y:Cs}
theorem vo0 {P:aQ0}(h:aw0 w B y P a N)(n:Nat)(st:Int)(hin:Inp w B la ll lc bs)(hby:∀ b ∈ bs,0<=b/\b<256)(hl:ll<=y.room)
  (hp:n<y.pages) (ht:y.taken n=true) (hf:y.fresh n=true) (hN:N+1<=90000) :
  Calls Tryz.prog 26 #[B.ptr,.agg #[.int .i64 n,.int .i64 st],.slice la ll lc] w (wp0 B y P a N n bs w):=by
 obtain⟨⟨x,c,hS,rfl,hi⟩,hT,hb⟩:=h;have hlen:=hin.1.by_.len;have hrg:=hS.rg;have hgen:=lt0 hS;have hpn:P (x.first+n)=none:=by
  cases hP:P (x.first+n) with
  | none=>rfl
  | some v =>
   have h2:=(hi.ptk rfl n hp (show P _≠_ by rw[hP];simp)).2;have hf':x.fresh n=true:=hf;rw[hf'] at h2;cases h2
 refine (nl0 hS n st hin hl hp ht hf fun W p hS' hF hp=>gp0 hS' (hi.holds.frB hF).good (hi.dev.up hi.down hi.few) n p hp).mono ?_;rintro e w' ⟨err,g,D,p,he,hg,ho,hS',hpp,F⟩;obtain⟨h1,h2,h3⟩:=goes hi.holds hi.dev hi.down hg ho F ⟨hpp.1,hpp.2.2⟩ (n:=n) (st:=x.gen) ⟨by have:n<x.pages:=hp;omega,hgen,by rw[hlen];exact hl,hby⟩ ⟨hrg.2.2.2.2,hrg.2.2.2.1,hrg.2.2.1⟩ (fun _=>hpn) (fun hc=>by rw[hpp.2.1] at hc;cases hc);refine⟨err,he,?_,F⟩;rcases h2 with⟨rfl,hD⟩|⟨rfl,ha,hD⟩
 ·refine .inl ⟨rfl,⟨_,_,hS',?_,⟨hD,h1.1,h3 _ rfl rfl rfl rfl rfl,hi.ptk,hi.apart,hN⟩⟩,hT.fr F (fun h=>oM),hb⟩;simp[Sto.cs,h1.2.1,h1.2.2]
 ·subst ha;exact .inr ⟨rfl,rfl,⟨D,hS'.dev,h1.1,hD,h1.2.1,h1.2.2⟩⟩
def Cs.moved (y:Cs)(n m:Nat)(bs:List Int):Cs:={ y.new m bs with dying:=ed0 y.dying n true }
def Aj0 (B:Blk)(y:Cs)(P:aC0)(a:Bool)(N:Nat)(n:Nat)(bs:List Int)(w:World)(e:Ending)(w':World):Prop:=
 ∃ m err,br0 y.taken y.pages y.hand m/\e = .returned (.tuple #[vF0 err m y.gen,.int .i64 err])/\zW0 w' B y (y.moved n m bs) P a (N+1) err/\FrB B w w'
theorem Apart.dies {t:Nat->Bool}{f y d:Int->Bool}(h:Apart t f y d)(ht:t n=true)(hf:f n=false)(hd:d n=false):Apart t f (ed0 y n true) d:=by
 refine⟨h.ft,fun k hk=>?_,h.et,fun k hk=>⟨?_,(h.fy k hk).2⟩,fun k hk=>?_⟩
 ·simp only[ed0] at hk;split at hk
  ·rename_i e;have:k=n:=by omega
   rw[this];exact ht
  ·exact h.yt k hk
 ·simp only[ed0];split
  ·rename_i e;subst e;rw[hf] at hk;cases hk
  ·exact (h.fy k hk).1
 ·simp only[ed0] at hk;split at hk
  ·rename_i e;subst e;exact hd
  ·exact h.ye k hk
theorem za0 {P:aQ0}(h:aw0 w B y P a N)(n:Nat)(st:Int)(hin:Inp w B la ll lc bs)(hby:∀ b ∈ bs,0<=b/\b<256)(hl:ll<=y.room)
  (hp:n<y.pages) (ht:y.taken n=true) (hf:y.fresh n=false) (hd:y.dead n=false) {j:Nat} (hj:j<y.pages) (hfree:y.taken j=false) (hN:N+1<=90000) :
  Calls Tryz.prog 26 #[B.ptr,.agg #[.int .i64 n,.int .i64 st],.slice la ll lc] w (Aj0 B y P a N n bs w):=by
 have hBw:=h.bs0;obtain⟨⟨x,c,hS,rfl,hi⟩,hT,hb⟩:=h;have hlen:=hin.1.by_.len;refine (sA0 hS n st (bs:=bs) hl hp ht hf fun W hS' F'=>SF.oy0 hS' (hT.fr F' id) hb (Inp.fr0 hin F' hBw) hl hj hfree fun W' p n hn hS'' hF hp=>gp0 hS'' (((hi.holds.frB (FrB.none (B:=B) F')).frB hF).good:dh0 W' x) (hi.dev.up hi.down hi.few) n p hp).mono ?_;rintro e w' ⟨m,err,g,D,p,hm,he,hg,ho,hS',hpp,F⟩;have hrg:=hS.rg;have hgen:=lt0 hS;have hpn:P (x.first+m)=none:=by
  cases hP:P (x.first+m) with
  | none=>rfl
  | some v =>
   have:=(hi.ptk rfl m hm.1 (show P _≠_ by rw[hP];simp)).1;rw[hm.2.1] at this;cases this
 obtain⟨h1,h2,h3⟩:=goes hi.holds hi.dev hi.down hg ho F ⟨hpp.1,hpp.2.2⟩ (n:=m) (st:=x.gen) ⟨by have:=hm.1;omega,hgen,by rw[hlen];exact hl,hby⟩ ⟨hrg.2.2.2.2,hrg.2.2.2.1,hrg.2.2.1⟩ (fun _=>hpn) (fun hc=>by rw[hpp.2.1] at hc;cases hc);refine⟨m,err,hm,he,?_,F⟩;rcases h2 with⟨rfl,hD⟩|⟨rfl,ha,hD⟩
 ·rw[moved,if_pos rfl] at hS';have ht':x.taken n=true:=ht;have hmn:m≠n:=by rintro rfl;rw[hm.2.1] at ht';cases ht'
  refine .inl ⟨rfl,⟨_,_,hS',?_,⟨hD,h1.1,h3 _ rfl rfl rfl rfl rfl,fun _ k hk hP=>?_,?_,hN⟩⟩,hT.fr F (fun h=>oM),hb⟩
  ·show Cs.moved (x.cs c) n m bs=_;simp[Cs.moved,Cs.new,Sto.cs,tk,h1.2.1,h1.2.2]
  ·obtain⟨a1,a2⟩:=hi.ptk rfl k hk hP;have hkn:k≠m:=by rintro rfl;rw[hm.2.1] at a1;cases a1
   exact⟨by show upd x.taken m true k=true;simp[upd,hkn,a1],by show ed0 x.fresh m true k=false;simp only[ed0];rw[if_neg oM];exact a2⟩
  ·refine (hi.apart.new hm.2.1).dies (n:=n) ?_ ?_ hd
   ·simp only[upd];split
    ·rfl
    ·exact ht
   ·simp only[ed0];rw[if_neg oM];exact hf
 ·subst ha;rw[moved,if_neg dC] at hS';exact .inr ⟨rfl,rfl,⟨D,hS'.dev,h1.1,hD,h1.2.1,h1.2.2⟩⟩
def Cs.commit (y:Cs):Cs:=
 { y with taken:=fun i=>y.taken i && !y.dead i,cont:=fun k=>if y.dead k then none else y.cont k,dead:=y.dying,dying:=fun _=>false,fresh:=fun _=>false,gen:=y.gen+1 }
variable {P:aC0}
theorem yI0 (h:aw0 w B y P a N):Calls Tryz.prog 23 #[B.ptr] w fun e w'=>∃ c:Nat,e = .returned (.int .i64 c)/\c<=y.places/\w=w':=by
 obtain⟨⟨x,c,hS,rfl,hi⟩,hT,hb⟩:=h;exact (wN0 hS).mono fun e w' ⟨c,he,hc,hw⟩=>⟨c,he,hc.1,hw⟩
theorem Aa0 (h:aw0 w B y P a N):Calls Tryz.prog 31 #[B.ptr] w fun e w'=>e = .returned (.int .i64 y.gen)/\w=w':=by
 obtain⟨⟨x,c,hS,rfl,hi⟩,hT,hb⟩:=h;exact yK0 hS
theorem yA0 (h:aw0 w B y P a N)(n:Nat)(st:Int)(hp:n<y.pages)(ht:y.taken n=false) :
  Calls Tryz.prog 28 #[B.ptr,.agg #[.int .i64 n,.int .i64 st]] w fun e w'=>e = .returned (.int .i64 0)/\aw0 w' B { y with taken:=upd y.taken n true } P a N/\FrB B w w':=by
 obtain⟨⟨x,c,hS,rfl,hi⟩,hT,hb⟩:=h;refine (ra0 hS n st hp ht).mono ?_;rintro e w' ⟨rfl,hS',F⟩;have hh:=hi.holds.frB F;have ha:=hi.apart;have hu:∀ k,x.taken k=true->upd x.taken n true k=true:=fun k hk=>by
  simp only[upd];split
  ·rfl
  ·exact hk
 exact⟨rfl,⟨⟨_,c,hS',rfl,hi.down,hi.dev,⟨hh.ok,hh.mem,hh.dev⟩,fun hr k hk hP=>⟨hu k (hi.ptk hr k hk hP).1,(hi.ptk hr k hk hP).2⟩,⟨fun k hk=>hu k (ha.ft k hk),fun k hk=>hu k (ha.yt k hk),fun k hk=>hu k (ha.et k hk),ha.fy,ha.ye⟩,hi.few⟩,hT.fr F (fun h=>oM),hb⟩,F⟩
def rO0 (p:bp0)(gen:Nat)(D:Dev)(c:Cont):Cs:=(rP0 p gen D).cs c
theorem rM0 {p:bp0}{gen:Nat}(hS:ax0 w B (rP0 p gen D))(hT:Tab w)(hb:0<B.base)(hr:P.ro=false->∀ s,P s=none)(hd:cx0 D P a N)(hdn:D.down=false)(hN:N<=90000)(c:Cont)
  (hc:∀ k st bs,c k=some (st,bs)->jZ0 (cd0 p).pages.toNat (D.size-19) k st bs/\D.sec ((cd0 p).page+k)=af0 D.size 2 k.toNat st bs):aw0 w B (rO0 p gen D c) P a N:=by
 refine⟨⟨_,c,hS,rfl,hdn,hd,⟨fun k st bs hk=>(hc k st bs hk).1,fun k q hq=>(by cases hq),fun k st bs hk _=>(hc k st bs hk).2⟩,fun h k _ hP=>absurd (hr h _) hP,⟨fun k hk=>(by cases hk),fun k hk=>(by cases hk),fun k hk=>(by cases hk),fun k hk=>(by cases hk),fun k hk=>by cases hk⟩,hN⟩,hT,hb⟩
theorem tD0 (s z:Nat):cx0 (Dev.fresh s z) (fun _=>none) false 0:=⟨nR _,nR _,fun y hy=>(by cases hy),fun k bs h=>(by cases h),(by show (0:Nat)<=_;omega),fun _=>rfl,⟨fun y hy=>(by cases hy),fun k bs h=>by cases h⟩⟩
theorem tE0 (h:bt0 w base d bf bq (Dev.fresh s z))(hb:base<=w.heap.size)(hT:Tab w)(h0:0<base)(c dd f dp hh sd:Int)(hfit:cj0 ⟨s,z,c,dd,f,dp,hh,sd⟩=true) :
  Calls Tryz.prog 19 #[.pointer (some ⟨d,0,none⟩),(bp0.mk s z c dd f dp hh sd).val] w fun e w'=>∃ B:Blk,(B.base=base/\B.d=d/\B.bf=bf/\B.bq=bq)/\e = .returned (.tuple #[B.ptr,.int .i64 0]) /\
   aw0 w' B (rO0 ⟨s,z,c,dd,f,dp,hh,sd⟩ 0 (Dev.fresh s z) (fun _=>none)) ((fun _=>none:aQ0):aC0) false 0/\Fq w w':=
 (rz0 h hb c dd f dp hh sd hfit).mono fun e w' ⟨B,hB,he,hS,F⟩=>⟨B,hB,he,rM0 hS (hT.fr F id) (by rw[hB.1];exact h0) (fun _ _=>rfl) (tD0 s z) rfl oM _ (fun k st bs hk=>by cases hk),F⟩
theorem aw0.grown (h:aw0 w B y P a N){e size:Nat}{v:Value}{xs:List Value}(hown:w.ownsRow base e size v n xs)(he:e ∉ 5 :: em0)(h0:0<base){o:Obj}(hg:(w.alloc o).grownBy w' v.ownBlock):aw0 w' B y P a N:=by
 have hal:=am0 w o;cases hv:v.ownBlock with
 | none =>
  rw[hv] at hg;exact h.fr0 ⟨hg.os,hg.tape,hg.output,nT sP hg.size,fun b hb _=>(hg.block b (nLL hb sP) sP).trans (hal b hb)⟩
 | some g =>
  have hlt:=hown.lt g hv;obtain⟨_,⟨rfl,_⟩|⟨g',cap,cur,rfl,hb,hgc,_⟩⟩:=hown
  ·simp[Value.ownBlock] at hv
  ·have:g'=g:=by simpa[Value.ownBlock] using hv
   subst this;rw[hv] at hg;refine h.frL (k:=g') ⟨hg.os,hg.tape,hg.output,nT sP hg.size,fun b hb hn=>(hg.block b (nLL hb sP) (fun e=>hn (by cases e;rfl))).trans (hal b hb)⟩ hgc he oM
end
section
open Go.RowKit Go.Sg Go.Sg.Clk Go.Shelf CP
attribute [local go_sem] Oper.semAt_some
def keysOf (pl:List Pl):List Int:=(bo0 pl.length pl).map (·.2.key)
def HoldsK (w:World)(pre:List (Nat × Pl))(W:World):Prop:=
 ∃ v,Boxed W w.heap.size 52 v/\W.ownsRow w.heap.size 3 1 v pre.length (pre.map (fun x=>Value.int .i64 x.2.key))/\True
variable {w:World}{pl:List Pl}
theorem wF0 {bc bp bm hand:Nat}(h:AtP w bc bp bm pl hand) :
  Calls Tryz.prog 169 #[.pointer (some ⟨bc,0,none⟩)] w fun e w'=>∃ v,e = .returned v/\w'.ownsRow w.heap.size 3 1 v (keysOf pl).length ((keysOf pl).map (Value.int .i64))/\Fq w w':=by
 obtain⟨i0,hi0,hz0,hz1,hz2⟩:=info_parts Tryz.info3;refine (callsIn_wide (n:=10)).1 ?_;have hr:=h.room;have F:=hid (nL0 (some ⟨bc,0,none⟩) (w.alloc (.cells #[.slice none 0 0] 52)));refine callsIn_of_wp_marks Tryz.func169 rfl trivial ?_ rfl;simp only[Tryz.ntmps169,zA,lC,lz9,Nat.reduceAdd,Nat.reduceSub,lq9,lr9,ly9,ls9,le9,lo9];gi_wp2_with (gi_at_call 228;refine (callsIn_wide.2 F.out).mono ?_;rintro e w' ⟨rfl,rfl⟩)
 obtain⟨W0,hW0⟩:=eX ((w.alloc (.cells #[.slice none 0 0] 52)).alloc (.cells #[.pointer (some ⟨bc,0,none⟩)] 154))
 have hF0:Fq w W0:=by rw[<- hW0];exact ((Fr.refl _ w).alloc _).alloc _
 have hsz:W0.heap.size=w.heap.size+1+1:=by rw[<- hW0];simp
 have hnx:W0.heap[w.heap.size]?=some (.cells #[.slice none 0 0] 52):=by rw[<- hW0];exact (am0 _ _ _ sP).trans (han _ _)
 have hbx:W0.cell? ⟨w.heap.size+1,0,none⟩=some (.pointer (some ⟨bc,0,none⟩)):=by rw[<- hW0];simp[go_sem]
 have h0:AtP W0 bc bp bm pl hand:=h.fr hF0 id id id;have hbp:=loh h0.p;have hlb:=loh h.p;simp only[hW0];have hKB:∀ (W:World) (l:Nat) (o o':Obj),W0.heap.size<=l->W.heap[l]?=some o->o.isCells=false->o.isWalk=false->(W.putObj l o').heap[bp]?=W.heap[bp]?:=fun W l o o' hl _ _ _=>hpj _ _ _ _ oM
 refine wpIn_rangeFunc_ownH (F:=Fence.wide) rfl oM (gf:=268) (lb:=#[.pointer (some ⟨w.heap.size+1,0,none⟩)]) rfl trivial (enters_of Tryz.func268 kF rfl)
  (gB0 h0 hbx) (fun h k=>k.trans h) hKB (Below.refl _ _) (fun _=>rfl)
  (fun pre W=>HoldsK w pre W/\Fq w W/\Fr (fun _=>True) W0 W)
  (fun _ _ _=>False)
  (aZ0 ((holdsRow_own w.heap.size w.heap.size 52 3 1 (fun pre:List (Nat × Pl)=>pre.length) (fun pre=>pre.map (fun x=>Value.int .i64 x.2.key)) (fun _ _=>True)).from _) (aZ0 (dU0 oM) (dU0 (nR _))))
  (fun _ _ _ _ _ h=>h.elim)
  ⟨⟨_,hnx,World.ownsRow_nil _ _ _ _,trivial⟩,hF0,Fr.refl _ _⟩
  (fun x a' W=>∃ Bx,(W0.heap.size<=Bx/\W.heap[Bx]?=some (.cells #[.int .i64 x.2.key,.int .i64 x.2.v.stamp,.slice x.2.v.la x.2.v.ll x.2.v.lc,.bool x.2.v.dirty,.bool x.2.full,.bool x.2.marked] 264))/\a'={ tmps:=#[.pointer (some ⟨bc,0,none⟩),undef,.slice none 0 0,.pointer (some ⟨w.heap.size,0,none⟩),undef,.pointer (some ⟨Bx,0,none⟩),.pointer (some ⟨bc,0,none⟩),.bool false,.pointer (some ⟨bc,0,none⟩),.func (.func 268) #[] #[.pointer (some ⟨w.heap.size+1,0,none⟩)],.int .i64 x.1,.agg #[.int .i64 x.2.key,.int .i64 x.2.v.stamp,.slice x.2.v.la x.2.v.ll x.2.v.lc,.bool x.2.v.dirty,.bool x.2.full,.bool x.2.marked],undef,undef,undef,undef,undef,undef],defers:=[] })
  (fun x a'=>eL0 fun Bx=>aZ0 (aZ0 (aJ0 _ _) (aN0 _ _ _ (fun _=>.inl rfl))) (aJ0 _ _))
  ?assign ?body ?done ?stop
 case assign =>
  rintro l pre x W K ⟨hI,hF,hFT⟩ hK;have hsW:=hF.size;have FN:Fq W (W.alloc (.cells #[.int .i64 x.2.key,.int .i64 x.2.v.stamp,.slice x.2.v.la x.2.v.ll x.2.v.lc,.bool x.2.v.dirty,.bool x.2.full,.bool x.2.marked] 264)):=(Fr.refl _ _).alloc _;obtain⟨v,hv,hown,-⟩:=hI;have hW0:W0.heap.size<=W.heap.size:=hFT.size;have HI:=hi2 hv (aI hown (aI hF hFT));have HK:=hid hK;clear hv hown hF hFT hK h0 hnx hbx;gi_wp2
  obtain⟨hv,hown,hF,hFT⟩:=HI.out;refine HK.out _ _ ((KeepsOthers.alloc _ _).from _) (FN.block _ oM id) ⟨⟨v,FN.heap hv id,hown.alloc _,trivial⟩,hF.trans FN nI,hFT.alloc _⟩ ⟨W.heap.size,⟨hW0,han _ _⟩,rfl⟩
 case body =>
  rintro l pre x a' W hl ⟨r,hr⟩ ⟨⟨v,hv,hown,-⟩,hF,hFT⟩ ⟨Bx,⟨hBx,hbX⟩,rfl⟩ hlen;have e0:=hv.cell;have e1:=hv.frozen;have l1:=hv.lt;have hsW:=hF.size;have z0:=coh hbX 0;simp at z0;have HV:=hid hv;have HO:=hid hown;clear hv hown h0 hnx hbx hbX;gi_wp2_with (gi_at_builtin;refine wpListIn_append_own _ rfl (.tmp 12) (.tmp 15) 52 rfl w.heap.size 3 i0 _ 1 8 Tryz.underlying52 hi0 hz0 hz1 hz2 rfl dC _ _ _ rfl (HO.out.alloc _) ⟨W.heap.size,0,none⟩ 1 1 [.int .i64 x.2.key] rfl rfl (cell_one_new _ _ _) (by simp[Value.oneCell']) ?c3 ?c4 ?c5 ?_)
  case c3=>simp[maxLen];omega
  case c4=>omega
  case c5=>simp;omega
  intro v1 w2 hown2 hgrow hnil;obtain⟨g,cap,rfl⟩:=ownsRow_succ hown2;obtain⟨d1,d2,d3,d4,d5⟩:=HV.out.appended dC HO.out hsW (nR _) hown2 hgrow;have f0:=d1.cell;have f1:=d1.frozen;have D2:=hid d2;have D3:=hid d3;clear hown2 hgrow hnil d1 d2 d3;gi_wp2
  refine⟨d4.from _,d5.block _ oM,⟨_,D2.out,by simpa using D3.out,trivial⟩,?_,⟨d5.os.trans hFT.os,d5.tape.trans hFT.tape,d5.output.trans hFT.output,nT hFT.size d5.size,fun _ _ hn=>absurd trivial hn⟩⟩;exact⟨d5.os.trans hF.os,d5.tape.trans hF.tape,d5.output.trans hF.output,nT hF.size d5.size,fun b hb hn=>(d5.block b hb).trans (hF.block b hb hn)⟩
 case done =>
  rintro D ys W hD rfl ⟨⟨v,hv,hown,-⟩,hF,-⟩ hK;have e0:=hv.cell;have HO:=hid hown;clear hown hv h0 hnx hbx;gi_wp2
  have hI:=ownsRow_putObj HO.out (.deferred none) hK rfl;refine bH0 (t:=2) rfl hK ⟨v,rfl,by simpa[keysOf,Function.comp_def] using hI,hF.putObj (fun hh=>oM) _⟩
 case stop=>exact fun _ _ _ _ _ _ h=>h.elim
theorem ff0 (pl:List Pl)(n:Nat)(x:Nat × Pl):x ∈ bo0 n pl↔x.1<n/\pl[x.1]?=some x.2/\x.2.full=true:=by
 simp only[bo0,List.mem_filterMap,ld9,List.mem_range];constructor
 ·rintro⟨y,⟨i,hi,rfl⟩,h⟩;cases hp:pl[i]? with
  | none=>rw[hp] at h;cases h
  | some p =>
   rw[hp] at h;simp only[mK9] at h;split at h
   ·rename_i hf;cases h;exact⟨hi,hp,hf⟩
   ·cases h
 ·rintro⟨hi,hp,hf⟩;refine⟨_,⟨x.1,hi,rfl⟩,?_⟩;simp[hp,hf]
theorem pi0 (hn:Nd pl)(k:Int):k ∈ keysOf pl↔(bj0 pl k).isSome=true:=by
 rw[keysOf,ld9];constructor
 ·rintro⟨x,hx,rfl⟩;obtain⟨_,hp,hf⟩:=(ff0 _ _ _).1 hx;rw[(db0 hn _ x.2.v).2 ⟨x.1,x.2,hp,hf,rfl,rfl⟩];rfl
 ·intro h;obtain⟨v,hv⟩:=Option.isSome_iff_exists.1 h;obtain⟨i,p,hp,hf,hk,_⟩:=(db0 hn k v).1 hv;exact⟨(i,p),(ff0 _ _ _).2 ⟨(gI.1 hp).1,hp,hf⟩,hk⟩
theorem ln0 (hn:Nd pl):(keysOf pl).Nodup:=by
 have:∀ k,k<=pl.length->((bo0 k pl).map (·.2.key)).Nodup:=by
  intro k;induction k with
  | zero=>intro _;exact no9
  | succ k ih =>
   intro hk;have hp:=gE (show k<pl.length by omega);rw[dy0 k pl _ hp];split
   ·rename_i hf;rw[lt9,mg9];refine⟨ih oM,by simp,?_⟩;rintro a ha b hb rfl;simp at hb;obtain⟨x,hx,e⟩:=ld9.1 ha;obtain⟨h1,h2,h3⟩:=(ff0 _ _ _).1 hx;have:=hn x.1 k x.2 _ h2 hp h3 hf (by rw[e,hb]);omega
   ·exact ih oM
 exact this _ (nR _)
theorem pj0 (pl:List Pl):(keysOf pl).length<=pl.length:=by
 rw[keysOf,ln9];exact dN0 _ _
def tk0 (m:Int->Option Pg)(n:Nat)(w:World)(e:Ending)(w':World):Prop:=
 ∃ (v:Value) (ks:List Int),e = .returned v/\w'.ownsRow w.heap.size 3 1 v ks.length (ks.map (Value.int .i64))/\(∀ k,k ∈ ks↔(m k).isSome=true)/\ks.Nodup/\ks.length<=n/\Fq w w'
theorem ph0 {bc bp bm n:Nat}{m:Int->Option Pg}(h:bL0 w bc bp bm n m):Calls Tryz.prog 169 #[.pointer (some ⟨bc,0,none⟩)] w (tk0 m n w):=by
 obtain⟨pl,hand,hA,hl,hm⟩:=h.ex;refine (wF0 hA).mono fun e w' ⟨v,he,hI,hF⟩=>⟨v,keysOf pl,he,hI,fun k=>?_,ln0 hA.nd,by rw[<- hl];exact pj0 pl,hF⟩
 rw[pi0 hA.nd,hm]
end
end Go.Proofs.YtgdhaaokolfdoaaGreatDoor
namespace Go.Sg
open Go.RowKit
variable {F:Fence}{n:Nat}{P:Program}
def qn0 {α:Type}(F:Fence)(n:Nat)(P:Program)(g:Nat)(lb:Array Value)(encs:α->Array Value)(I:List α->World->Prop)(Kp:World->World->Prop)(S Sp:List α->Prop)(N:Nat)(w:World):Prop:=
 ∀ (l:Nat) (J Jx:List α->World->Prop) (W:World),(∀ pre W1,J pre W1->I pre W1)->Below w.heap.size w W->AbidesFrom W.heap.size J->AbidesFrom W.heap.size Jx ->
  (∀ pre x W1,J pre W1->pre.length<N->YieldAt F (n-1) P l (encs x) W1 fun e W'=>(e = .returned (.bool true)/\J (pre++[x]) W'/\Kp W1 W')\/(e = .returned (.bool false)/\Jx (pre++[x]) W')) ->
  J [] W->CallsIn F n P g (#[.func (.yield l) #[] #[]]++lb) W fun e W'=>(∃ v,e = .returned v)/\((∃ xs,S xs/\J xs W')\/(∃ pre,Sp pre/\Jx pre W'))
def jV0 {α:Type}(B:Nat)(Kp:World->World->Prop)(I:List α->World->Prop)(Ix:Code->List α->World->Prop)(xs:List α)(W:World):Exit->Act->World->Prop
 | .normal,_,W'=>KeepsFrom B W W'/\Kp W W'/\I xs W'
 | .ret,_,W'=>KeepsFrom B W W'/\Ix .ret xs W'
 | .exit id,_,W'=>KeepsFrom B W W'/\Ix (.exit id) xs W'
 | .goto t,_,W'=>KeepsFrom B W W'/\Ix (.goto t) xs W'
 | _,_,_=>False
theorem iQ0 {α:Type}{g:Operand}{ps:Array Tmp}{assign body:Code}{Q:Exit->Act->World->Prop}{a:Act}{w:World}
  (hro:F.round=none) (h1:1<=n) {gf:Nat} {lb:Array Value} (hg:a.eval g = .func (.func gf) #[] lb) (hFg:F.fn gf) (eg:∀ args w,(callFunc gf args).run P w = .ok (.enter gf args) w)
  {encs:α->Array Value} {Kp:World->World->Prop} {S Sp:List α->Prop} {N:Nat} {w0:World} (I:List α->World->Prop) (hseq:qn0 F (n-1) P gf lb encs I Kp S Sp N w0)
  (hKt:∀ {A B C:World},Kp A B->Kp B C->Kp A C) (hKb:∀ (W:World) (l:Nat) (o o':Obj),w.heap.size<=l->W.heap[l]?=some o->o.isCells=false->o.isWalk=false->Kp W (W.putObj l o'))
  (hb0:Below w0.heap.size w0 w) (hps:∀ x,(encs x).size=ps.size)
  (Ix:Code->List α->World->Prop) (hI:OwnFrom w.heap.size I) (hIx:∀ c,OwnFrom w.heap.size (Ix c)) (h0:I [] w) (Ax:α->Act->World->Prop) (hAx:∀ x a',OwnFrom w.heap.size (fun (_:Unit) W=>Ax x a' W))
  (hassign:∀ (l:Nat) (pre:List α) (x:α) (W:World) (K:Act->World->Prop),I pre W->(∀ a' W',KeepsFrom w.heap.size W W'->Kp W W'->I pre W'->Ax x a' W'->K a' W') ->
   assign.wpIn (F.inRound l) (n-1-1) P (Exit.then K (fun _ _ _=>False)) { tmps:=(ps.zip (encs x)).foldl (fun t (p,v)=>t.setIfInBounds p v) a.tmps,defers:=[] } W)
  (hbody:∀ (l:Nat) (pre:List α) (x:α) (a':Act) (W:World),w.heap.size<=l->(∃ r,W.heap[l]?=some (.loop r))->I pre W->Ax x a' W->pre.length<N->body.wpIn (F.inRound l) (n-1-1) P (jV0 w.heap.size Kp I Ix (pre++[x]) W) a' W)
  (hdone:∀ (D:Nat) (xs:List α) (W:World),w.heap.size<=D->S xs->I xs W->W.heap[D]?=some (.deferred (some []))->Q .normal { a with defers:={ target:=.collected D,args:=#[] } :: a.defers } W)
  (hstop:∀ (D:Nat) (c:Code) (pre:List α) (W:World),w.heap.size<=D->Sp pre->Ix c pre W->W.heap[D]?=some (.deferred (some []))->c.wpIn F n P Q { a with defers:={ target:=.collected D,args:=#[] } :: a.defers } W) :
  (Code.rangeFunc g ps assign body).wpIn F n P Q a w:=by
 refine wpIn_rangeFunc fun fn hfn=>?_
 rw[hro];-- the loop's record,in whatever state
 let rec_:LoopState->Option Code->Loop:=fun st pe=>{ state:=st,pending:=pe,fn,tmps:=a.tmps,params:=ps,assign,body,defers:=w.heap.size }
 obtain⟨rd,hrd⟩:=xe rec_
 have rst:∀ st pe,(rd st pe).state=st:=fun st pe=>by rw[hrd]
 have rpe:∀ st pe,(rd st pe).pending=pe:=fun st pe=>by rw[hrd]
 obtain⟨L,hL⟩:=xe (w.heap.size+1)
 obtain⟨W1,hW1⟩:=eX ((w.alloc (.deferred (some []))).alloc (.loop (rd .ready none)))
 obtain⟨hD1,hL1,F1⟩:=ai0 hW1;rw[<- hL] at hL1;have hI1:I [] W1:=by rw[<- hW1];exact hI.alloc _ (hI.alloc _ h0)
 have hb1:Below w0.heap.size w0 W1:=by
  refine hb0.trans ((Fr.below (S:=fun _=>False) F1 nI).mono hb0.size)
 have hs1:W1.heap.size=w.heap.size+2:=by rw[<- hW1];simp
 refine⟨L,[{ target:=.collected w.heap.size,args:=#[] }],W1,{ target:=.fn (.func gf) lb,args:=#[.func (.yield L) #[] #[]] },W1,gf,#[.func (.yield L) #[] #[]]++lb,W1,?_,?_,?_,?_,fun _=>h1,?_⟩
 ·rw[<- hW1,hL,hrd];exact run_enterLoop_outer _ _ _ _ _
 ·simp only[resolve,hg];simp[go_sem]
 ·intro f' hf';simp[Target.leads] at hf';subst hf';exact hFg
 ·simp[invoke,go_sem,eg]
 have hwalk:∀ {A B:World} {row:Option Nat},(∀ r,row=some r->W1.heap.size<=r/\∃ o:Obj,A.heap[r]?=some o/\o.isWalk=true)->(∀ r,row=some r->w.heap.size<=r/\∃ o:Obj,A.heap[r]?=some o/\o.isCells=false):=
  fun hr r e=>by obtain⟨hB,o,ho,hw⟩:=hr r e;exact⟨oM,o,ho,Obj.not_cells_of_walk hw⟩
 have hY:∀ pre x W,(I pre W/\W.heap[L]?=some (.loop (rd .ready none))/\W.heap[w.heap.size]?=some (.deferred (some [])))->pre.length<N ->
   YieldAt F (n-1-1) P L (encs x) W fun e W'=>(e = .returned (.bool true)/\(I (pre++[x]) W'/\W'.heap[L]?=some (.loop (rd .ready none))/\W'.heap[w.heap.size]?=some (.deferred (some [])))/\Kp W W') \/
    (e = .returned (.bool false)/\∃ c,Ix c (pre++[x]) W'/\W'.heap[L]?=some (.loop (rd .done (some c)))/\W'.heap[w.heap.size]?=some (.deferred (some []))):=by
  rintro pre x W ⟨hi,hl,hk⟩ hlen;have hy:=run_yield (P:=P) (args:=encs x) hl (by rw[hrd];exact hps x);rw[hrd] at hy;refine⟨fn,_,assign,body,hy,roundIn_of_wpIn hfn (hassign _ pre x W _ hi fun a' Wa hka hkp hia hax=>?_)⟩;have hla:=hka.same _ _ oM hl rfl;have hka':=hka.same _ _ (nR _) hk rfl;have hlt:L<Wa.heap.size:=loh hla;refine⟨_,run_beginRound hla (rst _ _),?_⟩;obtain⟨busy,hbusy⟩:∃ busy:Loop,{ rd .ready none with state:=.busy }=busy:=⟨_,rfl⟩
  rw[hbusy];have hl2:(Wa.putObj L (.loop busy)).heap[L]?=some (.loop busy):=World.putObj_heap_same hlt;have hk2:(Wa.putObj L (.loop busy)).heap[w.heap.size]?=some (.deferred (some [])):=(World.putObj_heap_other oM).trans hka';refine wpIn_mono (hbody _ pre x a' _ oM ⟨_,hl2⟩ (hI.putObj _ hia oM hla rfl) ((hAx x a').putObj (s:=()) _ hax oM hla rfl) hlen) ?_;have fin:∀ (jump:Option Code) (W3:World),KeepsFrom w.heap.size (Wa.putObj L (.loop busy)) W3 ->
    (Instr.endRound L jump).run P W3 = .ok (.bool jump.isNone) (W3.putObj L (.loop (rd (if jump.isNone then .ready else .done) jump)))/\W3.heap[L]?=some (.loop busy) /\
    (W3.putObj L (.loop (rd (if jump.isNone then .ready else .done) jump))).heap[L]?=some (.loop (rd (if jump.isNone then .ready else .done) jump)) /\
    (W3.putObj L (.loop (rd (if jump.isNone then .ready else .done) jump))).heap[w.heap.size]?=some (.deferred (some [])):=fun jump W3 hk3=>by
   have hl3:=hk3.same _ _ oM hl2 rfl;refine⟨?_,hl3,World.putObj_heap_same (loh hl3),(World.putObj_heap_other oM).trans (hk3.same _ _ (nR _) hk2 rfl)⟩;have:=run_endRound (P:=P) jump hl3;rw[<- hbusy,hrd] at this;rw[hrd];exact this
  have hw2:Kp Wa (Wa.putObj L (.loop busy)):=hKb _ _ _ _ oM hla rfl rfl;rintro e a3 W3 hp;have out:∀ c,KeepsFrom w.heap.size (Wa.putObj L (.loop busy)) W3/\Ix c (pre++[x]) W3->∃ v W4,(Instr.endRound L (some c)).run P W3 = .ok v W4/\((Ending.returned v = .returned (.bool true)/\(I (pre++[x]) W4/\W4.heap[L]?=some (.loop (rd .ready none))/\W4.heap[w.heap.size]?=some (.deferred (some [])))/\Kp W W4) \/
    (Ending.returned v = .returned (.bool false)/\∃ c,Ix c (pre++[x]) W4/\W4.heap[L]?=some (.loop (rd .done (some c)))/\W4.heap[w.heap.size]?=some (.deferred (some [])))):=by
   rintro c ⟨hk3,hi3⟩;obtain⟨hr,hl3,hl4,hk4⟩:=fin (some c) W3 hk3;exact⟨_,_,hr,.inr ⟨rfl,c,(hIx c).putObj _ hi3 oM hl3 rfl,hl4,hk4⟩⟩
  cases e with
  | normal =>
   obtain⟨hk3,hkp3,hi3⟩:=hp;obtain⟨hr,hl3,hl4,hk4⟩:=fin none W3 hk3;exact⟨_,_,hr,.inl ⟨rfl,⟨hI.putObj _ hi3 oM hl3 rfl,hl4,hk4⟩,hKt hkp (hKt (hKt hw2 hkp3) (hKb _ _ _ _ oM hl3 rfl rfl))⟩⟩
  | ret=>exact out _ hp
  | exit id=>exact out _ hp
  | goto t=>exact out _ hp
  | panic ch=>exact hp.elim
  | outgrown=>exact hp.elim
 have hcall:=hseq L (fun pre W=>I pre W/\W.heap[L]?=some (.loop (rd .ready none))/\W.heap[w.heap.size]?=some (.deferred (some [])))
  (fun pre W=>∃ c,Ix c pre W/\W.heap[L]?=some (.loop (rd .done (some c)))/\W.heap[w.heap.size]?=some (.deferred (some []))) W1 (fun _ _ h=>h.1) hb1
  (fun s A B row hs hg' hr=>⟨hI s A B row hs.1 hg' (hwalk (B:=B) hr),(grownBy_keeps hg' (fun r e=>(hr r e).2) hs.2.1 rfl).trans hs.2.1,(grownBy_keeps hg' (fun r e=>(hr r e).2) hs.2.2 rfl).trans hs.2.2⟩)
  (fun s A B row hs hg' hr=>by
   obtain⟨c,hc,hl,hk⟩:=hs;exact⟨c,hIx c s A B row hc hg' (hwalk (B:=B) hr),(grownBy_keeps hg' (fun r e=>(hr r e).2) hl rfl).trans hl,(grownBy_keeps hg' (fun r e=>(hr r e).2) hk rfl).trans hk⟩)
  hY ⟨hI1,hL1,hD1⟩
 refine hcall.mono ?_;rintro e W2 ⟨⟨v,rfl⟩,(⟨xs,hS,hi,hl,hk⟩|⟨pre,hSp,c,hi,hl,hk⟩)⟩
 ·have hr:=run_endLoop (P:=P) hl (by rw[rst];simp);rw[rpe] at hr;exact⟨none,_,hr,hdone _ xs _ (nR _) hS (hI.putObj _ hi oM hl rfl) ((World.putObj_heap_other oM).trans hk)⟩
 ·have hr:=run_endLoop (P:=P) hl (by rw[rst];simp);rw[rpe] at hr;exact⟨some c,_,hr,hstop _ c pre _ (nR _) hSp ((hIx c).putObj _ hi oM hl rfl) ((World.putObj_heap_other oM).trans hk)⟩
