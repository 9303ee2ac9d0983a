/- Part 12 of the proof: LtSe. -/
import Derived.Test.YtamgnhdbeecapaaCt11
set_option linter.unusedSimpArgs false
set_option linter.unusedVariables false
set_option maxRecDepth 100000
namespace Go.Ax.dg
open Go Go.Ax Go.Ax.V Go.Ax.Ft
structure Ij (cs:List Ch) (gs:List Gr) (vs:List Int):Prop where
 sz:Aw (gi cs vs)
 ok:vb (gi cs vs)=true
 len:gs.length=vs.length
 gr:∀(i:Nat) g v,gs[i]?=some g->vs[i]?=some v->TJ cs i v g
theorem Hw {au:List Ch}:∀{l:List Pr} {k:Int},oW au k l=true->oW au k (l.map (fun x=>(⟨x.vars,[]⟩:Pr)))=true
 |[],k,h=>rfl
 |x::l,k,h=>by simp only [oW,qqB] at h;simp only [List.map_cons,oW,qqB];exact⟨⟨h.1.1,rfl⟩,Hw h.2⟩
theorem KF (p:Pg):gi p.au (p.procs.map (·.vars))=⟨p.au,p.procs.map (fun x=>⟨x.vars,[]⟩)⟩:=by unfold gi;rw [List.map_map];rfl
theorem Ut {p:Pg} {gs:List Gr} (hz:Aw p) (hB:∀x∈p.procs,fq x.body<=1048576) (hok:vb p=true) (h4:∀x∈p.procs,(kz x).bh.length<=400) (hg:W4 p.procs gs):Ij p.au gs (p.procs.map (·.vars)) where
 sz:=by
  rw [KF];exact⟨hz.au,by show (List.map _ _).length<=_;rw [qql];exact hz.procs,hz.rules,hz.rows,fun x hx=>by obtain⟨y,_,rfl⟩:=qqz.1 hx;exact qqS _⟩
 ok:=by rw [KF];simp only [vb,qqB] at hok ⊢;obtain⟨⟨⟨⟨o1,o2⟩,o3⟩,o4⟩,o5⟩:=hok;simp only [qql];exact⟨⟨⟨⟨o1,o2⟩,o3⟩,o4⟩,Hw o5⟩
 len:=by rw [hg.1,qql]
 gr i g v h1 h2:=by
  rw [qqe] at h2;cases hx:p.procs[i]? with
  |none=>rw [hx] at h2;cases h2
  |some x=>rw [hx] at h2;cases h2;obtain⟨hs,rfl,hp,hso⟩:=hg.2 i x g hx h1;have hm:=qqi hx;exact ZJ hok hx (h4 x hm) (by have:=hB x hm;omega) hp hso
theorem Ij.bounds {cs:List Ch} {gs:List Gr} {vs:List Int} (h:Ij cs gs vs):cs.length<=4/\gs.length<=4/\(∀v∈vs,0<=v/\v<=6)/\(∀g∈gs,2<=g.nodes)/\∀c∈cs,1<=c.size:=by
 have hok:=h.ok;simp only [vb,qqB,qqH] at hok;obtain⟨⟨⟨⟨o1,o2⟩,o3⟩,o4⟩,o5⟩:=hok;have hl:=h.len;have e3:vs.length<=4:=by simpa [gi] using o3
 refine⟨o1,by omega,fun v hv=>?_,fun g hg=>?_,fun c hc=>?_⟩
 ·have hall:∀{l:List Int} {k:Int},oW cs k (l.map (fun v=>(⟨v,[]⟩:Pr)))=true->∀x∈l,within x 0 6=true:=by
   intro l
   induction l with
   |nil=>intro k _ x hx;cases hx
   |cons y l ih=>
    intro k h x hx;simp only [List.map_cons,oW,qqB] at h;rcases qqw.1 hx with rfl|hx
    ·exact h.1.1
    ·exact ih h.2 x hx
  have:=hall o5 v hv;unfold within at this;simpa using this
 ·obtain⟨i,hi⟩:=List.getElem?_of_mem hg;have hil:=(qqb.1 hi).1;have hv:vs[i]?=some (vs[i]'(by omega)):=qqa _;exact(h.gr i g _ hi hv).nodes.1
 ·have:=qqA.1 o4 c hc;unfold ye at this;simp only [qqB] at this;have h2:=this.1.1.1.1.1.2;unfold within at h2;have h3:1<=c.size/\c.size<=16:=by simpa using h2
  exact h3.1
theorem Ij.right {cs:List Ch} {gs:List Gr} {vs:List Int} (h:Ij cs gs vs):VS prog 53 [gI cs gs vs] (fun r=>r=.b true):=s53 cs gs vs h.sz h.ok h.len h.gr
def TI (r:TV):Prop:=∃x y z b,r=.tp [.a [x,y,z],.b b]/\(b=true->∃cs gs vs,(.a [x,y,z]:TV)=gI cs gs vs/\Ij cs gs vs)
theorem s19 (sy:Ef) (hz:Jp sy) (hB:∀p∈sy.procs,kj p.body<=1048576):VS prog 19 [Dk sy] TI:=by
 refine vs19 _ _ ?_;unfold W19;refine⟨rfl,_,rfl,rq (s49B sy hz hB (by decide)) ?_⟩;rintro r ⟨p,e,rfl,hp⟩;refine⟨trivial,_,rfl,_,rfl,gb p,rfl,_,HC e 0,aa (fun h=>?_) (fun h=>?_)⟩
 ·exact⟨_,rfl,trivial,_,rfl,_,rfl,_,rfl,_,rfl,DB rfl rfl,_,_,_,false,rfl,fun h=>(by cases h)⟩
 have he:e=0:=by rw [bp] at h;simpa using h
 obtain⟨hzp,hb⟩:=hp he;refine⟨_,rfl,rq (s45v p hzp) ?_⟩;rintro r ⟨e2,⟨u,rfl,hu,a,b,c,rfl⟩,h2⟩;refine⟨trivial,_,rfl,_,rfl,.a [a,b,c],rfl,.a [a,b,c],rfl,.b (nk e2 0),rfl,.a [a,b,c],rfl,trivial,.a [a,b,c],rfl,DB rfl rfl,a,b,c,_,rfl,fun h=>?_⟩;have he2:e2=0:=by rw [bp] at h;simpa using h
 obtain⟨hok,h4,gs,hgs,hr⟩:=h2 he2;simp only [TV.tp.injEq,List.cons.injEq] at hr;exact⟨_,gs,_,hr.1,Ut hzp hb hok h4 hgs⟩
theorem s7 (sy:Ef) (hz:Jp sy) (hB:∀p∈sy.procs,kj p.body<=1048576) (h20:VS prog 20 [] (fun r=>r=.b true)):VS prog 7 [Dk sy] (fun r=>r=.b true):=by
 refine vs7 _ _ ?_;unfold W7;refine⟨rfl,_,rfl,rq (s19 sy hz hB) ?_⟩;rintro r ⟨x,y,z,b,rfl,hb⟩;refine⟨trivial,_,rfl,_,rfl,.a [x,y,z],rfl,cy h20 ⟨_,rfl,bg (v:=.b b) rfl rfl (bg rfl (gp _) ⟨_,rfl,aa (fun h=>?_) (fun h=>?_)⟩)⟩⟩
 ·exact cy h20 ⟨trivial,trivial,rfl⟩
 have hbt:b=true:=by simpa using h
 obtain⟨cs,gs,vs,he,hS⟩:=hb hbt;rw [he];obtain⟨hc,hg,h6,hn,hs⟩:=hS.bounds;have hl:=hS.len;have h53:=hS.right;have h54:=s54z cs gs vs hc hg hl h6 hn hs;have hzC:=JC (n:=gs.length) (m:=cs.length) (vs:=vs) (by omega) (by omega) (by omega) h6;have h29:=s29 _ hzC;have h33:=s33 _ hzC;have h28:=s28t _ hzC;rw [H6] at h29 h33 h28;have h23:=s23 cs gs vs ⟨by show cs.length<=_;omega,qqS _,hS.sz.rules,hS.sz.rows,fun x hx=>(by cases hx)⟩ (by omega) (by omega) (fun g hm=>by obtain⟨i,hi⟩:=List.getElem?_of_mem hm;have hil:=(qqb.1 hi).1;have hv:vs[i]?=some (vs[i]'(by omega)):=qqa _;have hG:=hS.gr i g _ hi hv;exact⟨by have:=hG.bh;omega,hG.hl,fun e he=>by have:=hG.sz e he;omega⟩)
 have h31:=s31 cs gs vs h53 hc hg hl h6;have h32:=s32 cs gs vs hc hg hl h6;have h27:=Y5 gs.length cs.length vs hg hc (by omega) h6;have h26:=s26z cs gs vs h53 h54 hc hg hl h6;have h22:=s22z cs gs vs _ _ h53 h54;refine⟨_,rfl,cy h23 ⟨_,rfl,_,rfl,cy h31 ⟨_,rfl,_,rfl,ya gs.length cs.length vs,rfl,_,rfl,ya gs.length cs.length vs,rfl,cy h27 (cy h26 ⟨_,rfl,_,rfl,ya gs.length cs.length vs,rfl,?_⟩)⟩⟩⟩;refine⟨.b true,rfl,bg rfl rfl (bg (v:=.b true) rfl rfl ⟨_,rfl,bg (v:=gI cs gs vs) rfl rfl (bg (v:=ya gs.length cs.length vs) rfl rfl (bg rfl (b8 h22) ⟨_,rfl,?_⟩))⟩)⟩;refine bg (v:=ya gs.length cs.length vs) rfl rfl (bg rfl (b8 h29) (bg (v:=gI cs gs vs) rfl rfl (bg rfl (b8 h32) (bg rfl (b8 h28) ⟨_,rfl,?_⟩))));refine bg (v:=ya gs.length cs.length vs) rfl rfl (bg rfl (b8 h29) (bg (v:=ya gs.length cs.length vs) rfl rfl (bg rfl (b8 h29) (bg rfl (b8 h28) ⟨_,rfl,?_⟩))));exact bg (v:=ya gs.length cs.length vs) rfl rfl (bg rfl (b8 h33) (bg rfl (b8 h29) (bg (v:=ya gs.length cs.length vs) rfl rfl (bg rfl (b8 h29) (bg rfl (b8 h28) ⟨_,rfl,trivial,trivial,rfl⟩)))))
end Go.Ax.dg
