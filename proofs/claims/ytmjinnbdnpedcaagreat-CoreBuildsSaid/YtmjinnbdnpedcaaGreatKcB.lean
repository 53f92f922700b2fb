/- core: clash, crowd. -/
import Derived.Test.YtmjinnbdnpedcaaGreatKpB
namespace Edict
theorem arOf_snoc{ps:List Pred}{s:List UInt8}(h:arOf ps s=none)(n:Int)(t:List UInt8):arOf (ps++[(s,n)]) t=if t=s then some n else arOf ps t:=by
 unfold arOf at h ⊢
 simp only[Option.map_eq_none_iff]at h
 rw[List.find?_append]
 by_cases e:t=s
 ·subst e
  rw[if_pos rfl,h];simp
 ·rw[if_neg e]
  cases hf:ps.find? (fun p=>decide (p.1=t))with
  |some x=>simp
  |none=>simpa using fun q=>e q.symm
theorem clashF_cons(ps:List Pred)(a:Atom)(l:List Atom):clashF ps (a::l)=(match arOf ps a.1 with
  |some n=>if n=a.2.1.length then clashF ps l else(ps,30,a.2.2)
  |none=>if 128≤ps.length then(ps,31,a.2.2)else clashF (ps++[(a.1,(a.2.1.length:Int))]) l):=rfl
end Edict
namespace Go.Ev
open Go
theorem set4{h:H}{b:Nat}{v0 v1 v2 v3:Value}(hz:hsz h b=4):hsz (hsets h b 0 [v0,v1,v2,v3]) b=4∧Go.Ev.hv (hsets h b 0 [v0,v1,v2,v3]) b 0=v0∧Go.Ev.hv (hsets h b 0 [v0,v1,v2,v3]) b 1=v1∧Go.Ev.hv (hsets h b 0 [v0,v1,v2,v3]) b 2=v2∧Go.Ev.hv (hsets h b 0 [v0,v1,v2,v3]) b 3=v3:=by
 have hl:0+[v0,v1,v2,v3].length≤hsz h b:=by rw[hz];simp
 refine⟨by rw[hsets_hsz,hz],?_,?_,?_,?_⟩<;>(rw[hsets_hv _ _ _ _ _ hl];simp)
end Go.Ev
namespace Go.Proofs.YtmjinnbdnpedcaaGreat
open Go Go.Ev Edict
variable {vs:List Value} {h:H} {K:Value→H→Prop} {KP:List PanicEntry→H→Prop}
def C_clash(vs:List Value)(h:H)(K:Value→H→Prop):Prop:= ∃(u:U) (b:Nat) (v:Value) (ps:List Pred) (al:List Atom),vs=[.map (some b),v]∧MapB h b (arOf ps) ps.length∧ps.length≤128∧IsSl u h v al∧
 ∀u' h',Step (fun i=>i=b) u h u' h'→MapB h' b (arOf (clashF ps al).1) (clashF ps al).1.length→(clashF ps al).1.length≤128→K (.tuple #[.int .i64 (clashF ps al).2.1,.int .i64 (clashF ps al).2.2]) h'
theorem crClash_ok(hC:C_clash vs h K):HCX Tryz.prog 47 vs h K KP:=by
 obtain⟨u,b,v,ps,al,rfl,hmap,hps,hl,hK⟩:=hC
 obtain⟨la,lc,rfl,q1,q2⟩:=hl.sl
 have hm:=mlen'
 refine crClash_H (fun _ _ _ _ _=>False) (fun _ _ _ _ _ h=>h.elim) _ _ ?_
 simp(disch:=first|omega|(simp only[zz];try omega;done)) only[↓reduceIte,go_sem,crClash_S,crClash_E]
 obtain⟨I,hI⟩: ∃I:Nat→Env→H→Prop,I=fun i σ h'=>σ 0= .map (some b)∧σ 10= .slice la al.length lc∧σ 11= .int .i64 al.length∧σ 12= .int .i64 i∧i≤al.length∧
  ∃(u':U) (pi:List Pred),Step (fun i=>i=b) u h u' h'∧MapB h' b (arOf pi) pi.length∧pi.length≤128∧clashF ps al=clashF pi (al.drop i):=⟨_,rfl⟩
 refine wpS_loop I (fun i=>al.length - i) 0 (by
  rw[hI]
  exact⟨by simp [upd],by simp [upd],by simp [upd],by simp [upd],Nat.zero_le _,u,ps,.refl _ _ _,hmap,hps,rfl⟩) ?_
 intro i σ h' hy
 rw[hI]at hy
 obtain⟨e0,e10,e11,e12,hi,u',pi,st,hmb,hpi,heq⟩:=hy
 by_cases hlt:i<al.length
 ·obtain⟨x,hs⟩: ∃x,al[i]? =some x:=⟨al[i],by simp [hlt]⟩
  have hdr:al.drop i=x::al.drop (i+1):=by
   obtain⟨hi',rfl⟩:=List.getElem?_eq_some_iff.1 hs
   exact List.drop_eq_getElem_cons hi'
  rw[hdr]at heq
  obtain⟨pb,po,rfl,hpb,hpu,hpz,hpr⟩:=(hl.mono st.ge).row i x hs
  rw[rep_atom]at hpr
  obtain⟨pv,hpr,hpv⟩:=hpr
  obtain⟨pva,pvc,rfl,r1,r2⟩:=hpv.sl
  simp only[sz_atom,hvs_3,List.cons.injEq,and_true]at hpr hpu hpz
  obtain⟨p0,p1,p2⟩:=hpr
  have sp:=Step.push0 S0 u' h' #[str x.1,.slice pva x.2.1.length pvc,.int .i64 x.2.2] 48
  have X:Blk (ub u' h'.size 0) (h'.push (.cells #[str x.1,.slice pva x.2.1.length pvc,.int .i64 x.2.2] 48)) h'.size [str x.1,.slice pva x.2.1.length pvc,.int .i64 x.2.2]:=(Blk.mk (by simp only[e_psz];omega) (by simp(disch:=first|omega|(simp only[zz];try omega;done)) only[go_sem]) (by simp(disch:=first|omega|(simp only[zz];try omega;done)) only[go_sem]) (by repeat (first|(refine ub_at ?_;simp only[];done)|apply ub_zero)) (by simp(disch:=first|omega|(simp only[zz];try omega;done)) only[go_sem]))
  have hmp:=hmb.step sp (fun h=>h)
  have hbl:=hmb.lt
  have next: ∀(σ':Env) (u3:U) (h3:H) (pj:List Pred),σ' 0=σ 0→σ' 10=σ 10→σ' 11=σ 11→σ' 12= .int .i64 ((i:Int)+1)→Step (fun i=>i=b) u h u3 h3→MapB h3 b (arOf pj) pj.length→pj.length≤128→clashF ps al=clashF pj (al.drop (i+1))→
    ∃y,I y σ' h3∧al.length - y<al.length - i:=fun σ' u3 h3 pj g0 g10 g11 g12 s3 m3 l3 q3=>by
   refine⟨i+1,?_,by omega⟩
   rw[hI]
   exact⟨by rw[g0,e0],by rw[g10,e10],by rw[g11,e11],g12,hlt,u3,pj,s3,m3,l3,q3⟩
  simp(disch:=first|omega|(simp only[zz];try omega;done)) only[↓reduceIte,go_sem,crClash_L1,e0,e10,e11,e12,hlt,p0,p1,p2]
  refine effS_look hmp ⟨zz0,?_⟩
  rw[clashF_cons]at heq
  cases ha:arOf pi x.1 with
  |some n=>
   rw[ha]at heq
   simp only at heq
   simp only[lookV,if_true,Option.isSome_some,Option.getD_some]
   by_cases hn:n=x.2.1.length
   ·rw[if_pos hn]at heq
    simp(disch:=first|omega|(simp only[zz];try omega;done)) only[↓reduceIte,go_sem,e0,eq_true hn]
    refine effS_mput (ub u' h'.size 0) hmp fun h2 s2 m2=>⟨zz0,?_⟩
    have em:putm (arOf pi) x.1 (x.2.1.length:Int)=arOf pi:=by
     funext s
     unfold putm
     by_cases e:s=x.1
     ·rw[if_pos e,e,ha,hn]
     ·rw[if_neg e]
    rw[ha,em]at m2
    simp(disch:=first|omega|(simp only[zz];try omega;done)) only[↓reduceIte,go_sem,e12]
    exact next _ _ h2 pi (by simp [upd]) (by simp [upd]) (by simp [upd]) (by simp [upd]) ((st.trans0 sp).trans s2 (fun _ _ h=>h)) m2 hpi heq
   ·rw[if_neg hn]at heq
    simp(disch:=first|omega|(simp only[zz];try omega;done)) only[↓reduceIte,go_sem,eq_false hn]
    have:=hK _ _ (st.trans0 sp) (by rw[heq];exact hmp) (by rw[heq];exact hpi)
    rw[heq]at this
    exact this
  |none=>
   rw[ha]at heq
   simp only at heq
   simp only[lookV,if_true,Option.isSome_none,Option.getD_none]
   by_cases hn:128≤pi.length
   ·rw[if_pos hn]at heq
    simp(disch:=first|omega|(simp only[zz];try omega;done)) only[↓reduceIte,go_sem,e0]
    refine effS_lenm hmp ⟨zz0,?_⟩
    simp(disch:=first|omega|(simp only[zz];try omega;done)) only[↓reduceIte,go_sem,eq_true (show(128:Int)≤pi.length by omega)]
    have:=hK _ _ (st.trans0 sp) (by rw[heq];exact hmp) (by rw[heq];exact hpi)
    rw[heq]at this
    exact this
   ·rw[if_neg hn]at heq
    simp(disch:=first|omega|(simp only[zz];try omega;done)) only[↓reduceIte,go_sem,e0]
    refine effS_lenm hmp ⟨zz0,?_⟩
    simp(disch:=first|omega|(simp only[zz];try omega;done)) only[↓reduceIte,go_sem,e0,eq_false (show¬(128:Int)≤pi.length by omega)]
    refine effS_mput (ub u' h'.size 0) hmp fun h2 s2 m2=>⟨zz0,?_⟩
    have em:putm (arOf pi) x.1 (x.2.1.length:Int)=arOf (pi++[(x.1,(x.2.1.length:Int))]):=by
     funext s
     rw[arOf_snoc ha]
     rfl
    rw[ha,em]at m2
    simp(disch:=first|omega|(simp only[zz];try omega;done)) only[↓reduceIte,go_sem,e12]
    exact next _ _ h2 (pi++[(x.1,(x.2.1.length:Int))]) (by simp [upd]) (by simp [upd]) (by simp [upd]) (by simp [upd]) ((st.trans0 sp).trans s2 (fun _ _ h=>h)) (by simpa using m2) (by simp;omega) heq
 ·obtain rfl:i=al.length:=by omega
  rw[List.drop_length]at heq
  have heq:clashF ps al=(pi,0,0):=heq
  simp(disch:=first|omega|(simp only[zz];try omega;done)) only[↓reduceIte,go_sem,crClash_L1,e11,e12]
  have:=hK _ _ st (by rw[heq];exact hmb) (by rw[heq];exact hpi)
  rw[heq]at this
  exact this
def term0:Term:=(0,0,[],0)
def C_crowd(vs:List Value)(h:H)(K:Value→H→Prop):Prop:= ∃(u:U) (v:Value) (l:List Term),vs=[v]∧IsSl u h v l∧l.length≤4194304∧
 ∀u' h',Step S0 u h u' h'→K (.tuple #[.agg (Term.enc ((crowdF [] l).getD term0)).toArray,.bool (crowdF [] l).isSome]) h'
theorem crCrowd_ok(hC:C_crowd vs h K):HCX Tryz.prog 48 vs h K KP:=by
 obtain⟨u,v,l,rfl,hl,hlen,hK⟩:=hC
 obtain⟨la,lc,rfl,q1,q2⟩:=hl.sl
 have hm:=mlen'
 refine crCrowd_H G_crVars G_crVars_ok _ ?_
 simp(disch:=first|omega|(simp only[zz];try omega;done)) only[go_sem,crCrowd_S,crCrowd_E]
 have sA:Step S0 u h (ub u h.size 0) (h.push (.cells #[.int .i64 0,.int .i64 0,str [],.int .i64 0] 56)):=Step.push0 S0 u h _ _
 have XA:Blk (ub u h.size 0) (h.push (.cells #[.int .i64 0,.int .i64 0,str [],.int .i64 0] 56)) h.size [.int .i64 0,.int .i64 0,str [],.int .i64 0]:=(Blk.mk (by simp only[e_psz];omega) (by simp(disch:=first|omega|(simp only[zz];try omega;done)) only[go_sem]) (by simp(disch:=first|omega|(simp only[zz];try omega;done)) only[go_sem]) (by repeat (first|(refine ub_at ?_;simp only[];done)|apply ub_zero)) (by simp(disch:=first|omega|(simp only[zz];try omega;done)) only[go_sem]))
 refine effS_mkm (ub u h.size 0) fun u0 h0 s0 hm0=>⟨zz0,?_⟩
 have X0:=XA.step0 s0
 have st0:=sA.trans0 s0
 simp(disch:=first|omega|(simp only[zz];try omega;done)) only[↓reduceIte,go_sem]
 rw[e_psz]at hm0
 obtain⟨I,hI⟩: ∃I:Nat→Env→H→Prop,I=fun i σ h'=>σ 2= .pointer (some ⟨h.size,0,none⟩)∧σ 4= .map (some (h.size+1))∧σ 11= .slice la l.length lc∧σ 12= .int .i64 l.length∧σ 13= .int .i64 i∧i≤l.length∧
  ∃(u':U) (vi:Strs) (m:List UInt8→Option Int) (n:Nat),σ 5= .int .i64 vi.length∧Step S0 u h u' h'∧Blk u' h' h.size [.int .i64 0,.int .i64 0,str [],.int .i64 0]∧MapB h' (h.size+1) m n∧n≤vi.length∧(∀s,(m s).isSome=true↔s∈vi)∧vi.length≤16∧crowdF [] l=crowdF vi (l.drop i):=⟨_,rfl⟩
 refine wpS_loop I (fun i=>l.length - i) 0 (by
  rw[hI]
  exact⟨by simp [upd],by simp [upd],by simp [upd],by simp [upd],by simp [upd],Nat.zero_le _,u0,[],_,0,by simp [upd],st0,X0,hm0,Nat.zero_le _,fun s=>by simp,Nat.zero_le _,rfl⟩) ?_
 intro i σ h' hy
 rw[hI]at hy
 obtain⟨e2,e4,e11,e12,e13,hi,u',vi,m,n,e5,st,X,hmb,hn,hms,hv16,heq⟩:=hy
 by_cases hlt:i<l.length
 ·obtain⟨t,hs⟩: ∃t,l[i]? =some t:=⟨l[i],by simp [hlt]⟩
  have hdr:l.drop i=t::l.drop (i+1):=by
   obtain⟨hi',rfl⟩:=List.getElem?_eq_some_iff.1 hs
   exact List.drop_eq_getElem_cons hi'
  rw[hdr]at heq
  obtain⟨tb,to,rfl,htb,htu,htz,htr⟩:=(hl.mono st.ge).row i t hs
  rw[rep_term]at htr
  simp only[Term.enc,sz_term,hvs_4,List.cons.injEq,and_true]at htr htu htz
  obtain⟨t0,t1,t2,t3⟩:=htr
  have sp:=Step.push0 S0 u' h' #[.int .i64 t.1,.int .i64 t.2.1,str t.2.2.1,.int .i64 t.2.2.2] 56
  have Y:Blk (ub u' h'.size 0) (h'.push (.cells #[.int .i64 t.1,.int .i64 t.2.1,str t.2.2.1,.int .i64 t.2.2.2] 56)) h'.size [.int .i64 t.1,.int .i64 t.2.1,str t.2.2.1,.int .i64 t.2.2.2]:=(Blk.mk (by simp only[e_psz];omega) (by simp(disch:=first|omega|(simp only[zz];try omega;done)) only[go_sem]) (by simp(disch:=first|omega|(simp only[zz];try omega;done)) only[go_sem]) (by repeat (first|(refine ub_at ?_;simp only[];done)|apply ub_zero)) (by simp(disch:=first|omega|(simp only[zz];try omega;done)) only[go_sem]))
  have hmp:=hmb.step sp (fun h=>h)
  have Xp:=X.step0 sp
  have hbl:=hmb.lt
  have hcc:crowdF vi (t::l.drop (i+1))=if 16<(varT vi t).length then some t else crowdF (varT vi t) (l.drop (i+1)):=rfl
  rw[hcc]at heq
  have next: ∀(σ':Env) (u3:U) (h3:H) (m3:List UInt8→Option Int) (n3:Nat),σ' 2=σ 2→σ' 4=σ 4→σ' 11=σ 11→σ' 12=σ 12→σ' 13= .int .i64 ((i:Int)+1)→σ' 5= .int .i64 (varT vi t).length→Step S0 u h u3 h3→Blk u3 h3 h.size [.int .i64 0,.int .i64 0,str [],.int .i64 0]→MapB h3 (h.size+1) m3 n3→n3≤(varT vi t).length→
    (∀s,(m3 s).isSome=true↔s∈varT vi t)→ ¬16<(varT vi t).length→ ∃y,I y σ' h3∧l.length - y<l.length - i:=fun σ' u3 h3 m3 n3 g2 g4 g11 g12 g13 g5 s3 X3 M3 hn3 hs3 h16=>by
   refine⟨i+1,?_,by omega⟩
   rw[hI]
   exact⟨by rw[g2,e2],by rw[g4,e4],by rw[g11,e11],by rw[g12,e12],g13,hlt,u3,varT vi t,m3,n3,g5,s3,X3,M3,hn3,hs3,by omega,by rw[heq,if_neg h16]⟩
  by_cases hk:t.1=4
  ·simp(disch:=first|omega|(simp only[zz];try omega;done)) only[↓reduceIte,go_sem,crCrowd_L1,e4,e11,e12,e13,hlt,t0,t1,t2,t3,eq_true hk]
   refine effS_call ⟨rfl,ub u' h'.size 0,h.size+1,m,n,t.2.2.1,rfl,hmp,by omega,fun w hw=>⟨zz0,?_⟩,fun hw h2 s2 hm2=>⟨zz0,?_⟩⟩
   ·have hin:t.2.2.1∈vi:=(hms _).1 (by rw[hw];rfl)
    by_cases h95:t.2.2.1=[95]
    ·have hvt:varT vi t=vi++[t.2.2.1]:=by unfold varT;rw[if_pos ⟨hk,.inl h95⟩]
     have hvl:(varT vi t).length=vi.length+1:=by rw[hvt];simp
     by_cases h16:16≤vi.length
     ·simp(disch:=first|omega|(simp only[zz];try omega;done)) only[↓reduceIte,go_sem,e2,e5,Y.at,Y.2.1,eq_true h95,eq_true (show(16:Int)<vi.length+1 by omega),Xp.2.1,Xp.2.2.1]
      obtain⟨z0,z1,z2,z3,z4⟩:=set4 (v0:= .int .i64 t.1) (v1:= .int .i64 t.2.1) (v2:=str t.2.2.1) (v3:= .int .i64 t.2.2.2) X.2.1
      have hXl:h.size<(hsets h' h.size 0 [.int .i64 t.1,.int .i64 t.2.1,str t.2.2.1,.int .i64 t.2.2.2]).size:=by rw[hsets_size];exact X.1
      rw[e_hszp hXl,e_hvp hXl,e_hvp hXl,e_hvp hXl,e_hvp hXl,z0,z1,z2,z3,z4]
      refine⟨Nat.le_refl _,?_⟩
      rw[if_pos (by omega)]at heq
      have sw:=Step.setsR (b:=h.size) (o:=0) (l:=[.int .i64 t.1,.int .i64 t.2.1,str t.2.2.1,.int .i64 t.2.2.2]) st (.inl (Nat.le_refl _)) (by rw[X.2.2.2.1];exact Nat.le_refl _) (by rw[X.2.1];simp)
      have:=hK _ _ (sw.trans0 (Step.push0 S0 _ _ #[.int .i64 t.1,.int .i64 t.2.1,str t.2.2.1,.int .i64 t.2.2.2] 56))
      rw[heq]at this
      exact this
     ·simp(disch:=first|omega|(simp only[zz];try omega;done)) only[↓reduceIte,go_sem,e5,e13,Y.at,Y.2.1,eq_true h95,eq_false (show¬(16:Int)<vi.length+1 by omega)]
      exact next _ _ _ m n (by simp [upd]) (by simp [upd]) (by simp [upd]) (by simp [upd]) (by simp [upd]) (by simp [upd,hvl]) (st.trans0 sp) Xp hmp (by omega) (fun s=>by rw[hms,hvt,List.mem_append,List.mem_singleton];exact⟨.inl,fun h=>h.elim id (fun h=>h▸hin)⟩) (by omega)
    ·have hvt:varT vi t=vi:=by
      unfold varT;rw[if_neg];rintro ⟨-,h|h⟩
      ·exact h95 h
      ·exact h hin
     simp(disch:=first|omega|(simp only[zz];try omega;done)) only[↓reduceIte,go_sem,e5,e13,Y.at,Y.2.1,eq_false h95,eq_false (show¬(16:Int)<vi.length by omega)]
     exact next _ _ _ m n (by simp [upd]) (by simp [upd]) (by simp [upd]) (by simp [upd]) (by simp [upd]) (by simp [upd,e5,hvt]) (st.trans0 sp) Xp hmp (by rw[hvt];exact hn) (by rw[hvt];exact hms) (by rw[hvt];omega)
   ·have hin:t.2.2.1 ∉ vi:=fun h=>by have:=(hms _).2 h;rw[hw]at this;cases this
    have hvt:varT vi t=vi++[t.2.2.1]:=by unfold varT;rw[if_pos ⟨hk,.inr hin⟩]
    have hvl:(varT vi t).length=vi.length+1:=by rw[hvt];simp
    have Y2:=Y.step s2 (by omega)
    have X2:=Xp.step s2 (by omega)
    have st2:Step S0 u h _ h2:=(st.trans0 sp).trans s2 (fun j hj e=>by have e:j=h.size+1:=e;omega)
    by_cases h16:16≤vi.length
    ·simp(disch:=first|omega|(simp only[zz];try omega;done)) only[↓reduceIte,go_sem,e2,e5,Y2.at,Y2.2.1,eq_true (show(16:Int)<vi.length+1 by omega),X2.2.1,X2.2.2.1]
     obtain⟨z0,z1,z2,z3,z4⟩:=set4 (v0:= .int .i64 t.1) (v1:= .int .i64 t.2.1) (v2:=str t.2.2.1) (v3:= .int .i64 t.2.2.2) X2.2.1
     rw[z0,z1,z2,z3,z4]
     refine⟨Nat.le_refl _,?_⟩
     rw[if_pos (by omega)]at heq
     have:=hK _ _ (Step.setsR (b:=h.size) (o:=0) (l:=[.int .i64 t.1,.int .i64 t.2.1,str t.2.2.1,.int .i64 t.2.2.2]) st2 (.inl (Nat.le_refl _)) (by rw[X2.2.2.2.1];exact Nat.le_refl _) (by rw[X2.2.1];simp))
     rw[heq]at this
     exact this
    ·simp(disch:=first|omega|(simp only[zz];try omega;done)) only[↓reduceIte,go_sem,e5,e13,Y2.at,eq_false (show¬(16:Int)<vi.length+1 by omega)]
     exact next _ _ h2 (putm m t.2.2.1 n) (n+1) (by simp [upd]) (by simp [upd]) (by simp [upd]) (by simp [upd]) (by simp [upd]) (by simp [upd,hvl]) st2 X2 hm2 (by omega) (fun s=>by
      rw[hvt,List.mem_append,List.mem_singleton]
      unfold putm
      by_cases e:s=t.2.2.1
      ·rw[if_pos e];exact⟨fun _=> .inr e,fun _=>rfl⟩
      ·rw[if_neg e,hms];exact⟨.inl,fun h=>h.elim id (fun h=>absurd h e)⟩) (by omega)
  ·have hvt:varT vi t=vi:=by unfold varT;rw[if_neg (fun h=>hk h.1)]
   simp(disch:=first|omega|(simp only[zz];try omega;done)) only[↓reduceIte,go_sem,crCrowd_L1,e11,e12,e13,hlt,t0,t1,t2,t3,eq_false hk]
   exact next _ _ _ m n (by simp [upd]) (by simp [upd]) (by simp [upd]) (by simp [upd]) (by simp [upd]) (by rw[hvt];simp [upd,e5]) (st.trans0 sp) Xp hmp (by rw[hvt];exact hn) (by rw[hvt];exact hms) (by rw[hvt];omega)
 ·obtain rfl:i=l.length:=by omega
  rw[List.drop_length]at heq
  have heq:crowdF [] l=none:=heq
  simp(disch:=first|omega|(simp only[zz];try omega;done)) only[↓reduceIte,go_sem,crCrowd_L1,e2,e12,e13,X.2.1,X.2.2.1]
  obtain⟨z0,z1,z2,z3,z4⟩:=set4 (v0:= .int .i64 0) (v1:= .int .i64 0) (v2:=str []) (v3:= .int .i64 0) X.2.1
  rw[z0,z1,z2,z3,z4]
  refine⟨Nat.le_refl _,?_⟩
  have:=hK _ _ (Step.setsR (b:=h.size) (o:=0) (l:=[.int .i64 0,.int .i64 0,str [],.int .i64 0]) st (.inl (Nat.le_refl _)) (by rw[X.2.2.2.1];exact Nat.le_refl _) (by rw[X.2.1];simp))
  rw[heq]at this
  exact this
end Go.Proofs.YtmjinnbdnpedcaaGreat
