/- A pack of texts. Conditions: those that each names. -/
import Derived.Test.YtgdhaaokolfdoaaGreatDoorNBC
set_option maxRecDepth 100000
set_option linter.all false
namespace Go.Proofs.YtgdhaaokolfdoaaGreatDoor
open Go.ChangeShapes Go.WideShapes Go.RowKit Go.Sg Go.Deep Go.Joins Tryz
section
variable {H:Type}{enc:TypeId × Value->H}{W:w9}
def yQ0:prog.cellsOf 3=1:=by kernel_rfl
variable {fuel:Nat}{cs:List Value}{x:DataW H × List MemPlace}
def mw0 (h:DataW.trod enc prog W 0 (fun _=>true) true fuel 52 cs=some x) :
  ∃ (a:Option Addr) (n c:Nat) (l:List Int),cs=[sL a n c]/\eO W a n c l/\∀ x ∈ l,-9223372036854775808<=x/\x<9223372036854775808:=by
 rcases open_ints underlying52 underlying3 yQ0 h with⟨hcs,hx⟩|⟨a',len,cap,zs,hcs,_,hl,hm,hz,hx,hcell,Lv⟩
 .exact⟨none,0,0,[],hcs,⟨rfl,fun i k h=>(by simp at h),fun _=>⟨rfl,rfl⟩⟩,fun x hx=>by cases hx⟩
 .simp only[if_true] at hz;have G4:∀ i,i<len->a'=⟨a'.block,a'.off,none⟩/\a'.block<W.heap.size/\W.cell? (aA a'.block (a'.off+i))=some (.int .i64 (zs.getD i 0)):=fun i hi=>by
   have h0:=hcell 0 oM;have eD:a'.add 0=a':=by cases a' with|mk b o s=>cases s <;> simp[Addr.add]
   rw[eD] at h0;have hs:=mQ0 h0;have vr:=hcell i oM;rw[hs,Sg.add_plain] at vr;exact⟨hs,World.block_lt_of_cell? _ _ h0,vr⟩
  refine⟨some a',len,cap,zs.take len,hcs,⟨by rw[lT];omega,fun i x hx=>?_,fun h=>by cases h⟩,fun x hx=>?_⟩
  .rw[gT] at hx;split at hx
   .rename_i hi;obtain⟨h1,h2,h3⟩:=G4 i hi;refine⟨a'.block,a'.off,by rw[<- h1],h2,?_⟩;rw[h3,List.getD_eq_getElem?_getD,hx];rfl
   .cases hx
  .have:=Lv x (ov hx);simp[Lit.wf,IntKind.min,IntKind.max,IntKind.bits,IntKind.signed] at this;omega
def ks0 (hf:DataW.trod enc prog W 0 (fun _=>true) true fuel 104 cs=some x) :
  ∃ (a:Option Addr) (n c:Nat) (l:List ut),cs=[sL a n c]/\l.length=n/\FX W a l:=by
 obtain⟨f0,f1,f2,he,h0,h1,h2⟩:=ny0;rcases open_slice underlying104 hf with⟨rfl,_⟩|⟨a',len,cap,m,n,D,Pl,rfl,_,hl,hm,vA,_,hx⟩
 .exact⟨none,0,0,[],rfl,rfl,⟨fun i x hx=>by simp at hx⟩⟩
 .simp at vA;subst vA;have key:∀ i,i<len->∃ x:ut,(W.cell? (a'.add (i*6))=some (.int .i64 x.kind)/\W.cell? ((a'.add (i*6)).add 1)=some (.int .i64 x.oldest))/\(W.cell? ((a'.add (i*6)).add 2)=some (.int .u64 x.e.hash)/\W.cell? ((a'.add (i*6)).add 3)=some (.int .i64 x.e.rg)/\W.cell? ((a'.add (i*6)).add 4)=some (.int .i64 x.e.at_)/\W.cell? ((a'.add (i*6)).add 5)=some (.int .i64 x.e.sz))/\Ym x:=by
   intro i gn;obtain⟨cs',hc,om⟩:=hx i oM;rw[va0] at hc;obtain⟨_,B6,G4⟩:=World.cells?_some hc;obtain⟨ys,n',_,_,_,kJ,hg⟩:=DataW.trod_struct he om;have one:∀ (j:Nat) (f:Field),(#[f0,f1,f2]:Array Field)[j]?=some f->f.offset=j->f.type=3->j<3->∃ z,cs'[j]?=some (.int .i64 z)/\(Lit.int .i64 z).wf=true:=by
    intro j f hj ho Wf Vh;have h3:=hg j f hj;have jG:ys[j]?=some (ys[j]'(by rw[kJ];exact Vh)):=gE _;rw[jG,Wf] at h3;obtain⟨z,hz,_,hw⟩:=DataW.trod_int underlying3 h3;refine⟨z,?_,hw⟩;have h4:((cs'.drop f.offset).take (prog.cellsOf 3))[0]?=some (.int .i64 z):=(by rw[hz];rfl);rw[gT] at h4;split at h4
    .simpa[ho] using h4
    .cases h4
   obtain⟨z0,e0,w0⟩:=one 0 f0 rfl h0.1 h0.2 oM;obtain⟨z1,e1,w1⟩:=one 1 f1 rfl h1.1 h1.2 oM;obtain⟨hh,r,p,s,⟨k0,k1,k2,k3⟩,wh,wr,wp,ws⟩:∃ (hh:Nat) (r p s:Int),(cs'[2]?=some (.int .u64 hh)/\cs'[3]?=some (.int .i64 r)/\cs'[4]?=some (.int .i64 p)/\cs'[5]?=some (.int .i64 s))/\hh<18446744073709551616/\(Lit.int .i64 r).wf=true/\(Lit.int .i64 p).wf=true/\(Lit.int .i64 s).wf=true:=by
    have h3:=hg 2 f2 rfl;have jG:ys[2]?=some (ys[2]'(by rw[kJ];exact (show 2<3 by decide))):=gE _;rw[jG,h2.2] at h3;obtain⟨hh,r,p,s,⟨k0,k1,k2,k3⟩,ww⟩:=nZ0 h3;refine⟨hh,r,p,s,⟨?_,?_,?_,?_⟩,ww⟩;all_goals
     first
      | (rw[gT,jJ,h2.1] at k0;split at k0 <;> first|exact k0|cases k0)
      | (rw[gT,jJ,h2.1] at k1;split at k1 <;> first|exact k1|cases k1)
      | (rw[gT,jJ,h2.1] at k2;split at k2 <;> first|exact k2|cases k2)
      | (rw[gT,jJ,h2.1] at k3;split at k3 <;> first|exact k3|cases k3)
   have q0:=(G4 0 oM).trans e0;have q1:=(G4 1 oM).trans e1;have q2:=(G4 2 oM).trans k0;have q3:=(G4 3 oM).trans k1;have q4:=(G4 4 oM).trans k2;have q5:=(G4 5 oM).trans k3;exact⟨⟨z0,z1,⟨hh,r,p,s⟩⟩,⟨by simpa[Addr.add] using q0,q1⟩,⟨q2,q3,q4,q5⟩,⟨w0,w1,wh,wr,wp,ws⟩⟩
  obtain⟨V,hV⟩:=choose_lt (α:=ut) key;refine⟨_,len,_,(List.range len).map V,rfl,by simp,⟨fun i x hx=>?_⟩⟩;have gn:i<len:=by
   have:=(gI.1 hx).1;simpa using this
  simp[gn] at hx;subst hx;obtain⟨⟨k0,k1⟩,⟨k2,k3,k4,k5⟩,kw⟩:=hV i gn;have eD:=(hV 0 oM).1.1;simp[Addr.add] at eD;have hs:=mQ0 eD;obtain⟨b,off,Cm⟩:∃ b off,a'=⟨b,off,none⟩:=⟨_,_,hs⟩
  subst Cm;have hb:=World.block_lt_of_cell? _ _ eD;simp only[kU] at k0 k1 k2 k3 k4 k5;exact⟨b,off,rfl,hb,⟨k0,k1⟩,⟨k2,k3,k4,k5⟩,kw⟩
def lq0:∃ f0 f1 f2:Field,prog.underlying 145=some (.struct #[f0,f1,f2])/\f0.type=104/\f1.type=3/\f2.type=52/\oneCellFields prog #[f0,f1,f2]=true:=⟨_,_,_,underlying145,rfl,rfl,rfl,by kernel_rfl⟩
def vZ0:prog.cellsOf 145=3:=by kernel_rfl
def oy0 {base:Nat}{v:Value}{d:DataW H}{p:List MemPlace}(hv:Value.okWide prog W .any base 145 v)(h:DataW.Trod enc prog W 0 (fun _=>true) true 145 v d p) :
  ∃ (a:Option Addr) (n c:Nat) (l:List ut) (k:Int) (fa:Option Addr) (fn fc:Nat) (fl:List Int),v = .agg #[sL a n c,.int .i64 k,sL fa fn fc]/\l.length=n/\FX W a l/\k<=9223372036854775807/\eO W fa fn fc fl/\∀ x ∈ fl,-9223372036854775808<=x/\x<9223372036854775808:=by
 obtain⟨f0,f1,f2,he,t0,t1,t2,VI⟩:=lq0;obtain⟨v0,v1,v2,y0,y1,y2,n,rfl,-,-,h0,h1,h2⟩:=open_agg3 he VI vZ0 hv h;rw[t0] at h0;rw[t1] at h1;rw[t2] at h2;obtain⟨a,m,c,l,e0,hl,hA⟩:=ks0 h0;obtain⟨k,e1,-,hw⟩:=DataW.trod_int underlying3 h1;obtain⟨fa,fn,fc,fl,e2,hf,hr⟩:=mw0 h2;cases e0;cases e1;cases e2;refine⟨a,m,c,l,k,fa,fn,fc,fl,rfl,hl,hA,?_,hf,hr⟩;simp[Lit.wf,IntKind.min,IntKind.max,IntKind.bits,IntKind.signed] at hw;omega
