/- A part of the proof. -/
import Derived.Test.YtbnkepecoeohjaaGreatDoorTpW
import Derived.WalkKit
import Derived.Defers
import Derived.Recover
set_option linter.all false
set_option maxRecDepth 100000
set_option maxHeartbeats 4000000
namespace Go.Ev
open Go
variable {D:List Deferred} {a:Act} {N:Nat} {lv:Nat->Bool} {h:H} {σ:lm} {δ:List qj} {Q:Exit->Act->World->Prop} {P:Program} {w:World} {o:Oper} {w':World} {ops:Array Oper}
theorem Qd [DS]{lv:Nat->Bool}{N:Nat}{a:Act}{h:H}(hs:a.tmps.size=N)(hd:a.defers=DS.d):uL lv N a (λi=>a.tmps.getD i undef) h []:=
 ⟨λ_ _=>rfl,hs,hd,λ_ _ hf=>(by cases hf),λ_ _ hf=>(by cases hf),λ_ _ hf=>(by cases hf),λ_ _ hf=>(by cases hf),by simp⟩
theorem rC(R: @uL ⟨D⟩ lv N a σ h δ)(i:Nat)(hi:lv i=true):a.tmps.getD i undef=σ i:= @uL.lvs ⟨D⟩ lv N a σ h δ R i hi
theorem Hf(R: @uL ⟨D⟩ lv N a σ h δ):a.tmps.size=N:= @uL.sz ⟨D⟩ lv N a σ h δ R
theorem Hg(R: @uL ⟨D⟩ lv N a σ h δ):a.defers=D:= @uL.df ⟨D⟩ lv N a σ h δ R
theorem Hl(hs:a.tmps.size=N)(hd:a.defers=D): @uL ⟨D⟩ lv N a (λi=>a.tmps.getD i undef) h []:= @Qd ⟨D⟩ lv N a h hs hd
theorem VQ{G:mG}(hG:nz P G)(hmix:P.follows .mixedOrders=true){c:Code}{s:S}{Q:qm}(hc:pm P lv N c=some s)(R: @uL ⟨D⟩ lv N a σ w.heap [])(Hw:wpS G s Q σ w.heap):c.wp P (@CQ ⟨D⟩ lv N w Q) a w:=
 letI:DS:=⟨D⟩
 vG hG hmix c s Q a σ w w hc R (oZ.refl _) Hw
theorem adD {K K':Act->World->Prop} {Q':Exit->Act->World->Prop} (hK: ∀a w,K a w->K' a w) (hP: ∀c a w,Q (.panic c) a w->Q' (.panic c) a w) (hO:LetsOut Q->LetsOut Q')
  (hh:o.wp P a w K Q):o.wp P a w K' Q':=by
 unfold Oper.wp at*
 generalize (execOp a.eval o).run P w=r at*
 cases r with
 |ok n w'=>
  cases n<;>simp only[Oper.upon]at hh ⊢ <;>
   first
    |exact hK _ _ hh
    |exact Calls.mono hh (λe w'' he=>by cases e<;>first|exact hK _ _ he|exact hP _ _ _ he|exact hO he)
    |exact Rows.mono hh (λ_ _ he=>hK _ _ he)
 |halt x w'=>cases x<;>simp only[Oper.upon]at hh ⊢ <;>first|exact hh|exact hP _ _ _ hh
theorem adE{rest:List Oper}{v:Value}(hg:o.guard=none)(hr:(execOp a.eval o).run P w= .ok (.value v) w')(h:wpList P ops Q rest (a.put o.dst v) w'):wpList P ops Q (o::rest) a w:=by
 unfold wpList
 rw[ay (by unfold Region.wanted;rw[hg])]
 exact .inl (lL hr h)
theorem aaX{rest:List Oper}{d:Deferred}(hg:o.guard=none)(hr:(execOp a.eval o).run P w= .ok (.defer d) w')(h:wpList P ops Q rest ({a with defers:=d::a.defers}.put o.dst undef) w'):wpList P ops Q (o::rest) a w:=by
 unfold wpList
 rw[ay (by unfold Region.wanted;rw[hg])]
 refine .inl ?_
 unfold Oper.wp
 rw[hr]
 exact h
theorem Bc{P:Program}{ops:Array Oper}{Q1 Q:Exit->Act->World->Prop}{l2:List Oper}(hN: ∀a w,Q1 .normal a w->wpList P ops Q l2 a w)(hP: ∀c a w,Q1 (.panic c) a w->Q (.panic c) a w)(hO:LetsOut Q1->LetsOut Q):
  ∀(l1:List Oper) (a:Act) (w:World),wpList P ops Q1 l1 a w->wpList P ops Q (l1++l2) a w
 |[],a,w,h=>hN a w h
 |o::r,a,w,h=>by
  rw[bO]
  unfold wpList at h ⊢
  split at h
  ·rename_i hw
   rw[ay hw]
   exact h.imp (adD (λa w=>Bc hN hP hO r a w) hP hO) (λq=>⟨q.1,hO q.2⟩)
  ·rename_i hw
   rw[ah hw]
   exact Bc hN hP hO r _ _ h
end Go.Ev
namespace Go.Proofs.Z
open Go Go.Ev Edict Go.RowKit
variable {K:Value->H->Prop} {KP:List PanicEntry->H->Prop}
theorem adF(v:Value)(w:World):(Instr.typeAssert (.iface 209 v) 20 209 true).run Tryz.prog w= .ok (.tuple #[v,.bool true]) w:=by
 have hu:=Tryz.underlying209
 simp [Instr.typeAssert,go_sem]
theorem TQ(p:Addr)(w:World):
  CallsD Tryz.prog 108 #[.pointer (some p)] .returning w λe u' w'=>e= .returned (.tuple #[])/\u'= .returning/\w'=w:=by
 refine callsD_of_wpS Tryz.func108 rfl λc₀ cs hu=> ?_
 apply wpS_seq
 apply wpS_region
 simp [wpOpsS,go_sem,recoverD,hu,Tryz.ntmps108,Exit.thenS]
 apply wpS_seq
 apply wpS_seq
 apply wpS_region
 simp [wpOpsS,go_sem,Exit.thenS]
 refine wpS_cond (t:=true) (by simp [Act.eval,Array.replicate]) ?_
 simp only[dx]
 refine wpS_of_wp (wp_ret ?_)
 cases c₀
 simp_all [bodyPostS,results,Tryz.results108,Exit.thenS]
def adG:Nat->Bool:=λi=>Nat.testBit 65541 i
def VR:S:=(.sts [(.chk [] (.c1 (.fld 0) (.t 2))),
  (.chk [] (.c1 (.ldn 3) (.o1 (.fld 0) (.t 2)))),
  (.set 16 (.o1 (.ldn 3) (.o1 (.fld 0) (.t 2)))),
  (.eff [] none (.store 3) [(.t 0),(.t 16)] [])])
theorem Fa(fb:Nat)(f:nI)(w:World)(h1:hsz w.heap fb=3)(h2:wH w.heap fb=(0,0))(h3:fb<w.heap.size):
  CallsD Tryz.prog 108 #[.pointer (some ⟨fb,0,none⟩)] (.panicking (gu f)) w λe u' w'=>
   e= .returned (.tuple #[])/\u'= .panicking [{v:= .iface 209 (vM f),recovered:=true}]/\oZ w w'/\w'.heap=kU (w.heap.push (.cells #[.int .i64 f.1,.int .i64 0,.int .i64 f.2] 209)) fb 0 [.int .i64 f.1,.int .i64 0,.int .i64 f.2]:=by
 refine callsD_of_wpS Tryz.func108 rfl λc₀ cs hu=> ?_
 apply wpS_seq
 apply wpS_region
 simp [wpOpsS,go_sem,recoverD,hu,Tryz.ntmps108,Exit.thenS,gu]
 apply wpS_seq
 apply wpS_seq
 apply wpS_region
 simp [wpOpsS,go_sem,Exit.thenS]
 refine wpS_cond (t:=false) (by simp [Act.eval,Array.replicate]) ?_
 simp only[aV,bZ]
 refine wpS_of_wp (wp_skip ?_)
 show Code.wpS _ _ _ _ _ _
 apply wpS_seq
 apply wpS_region
 simp [wpOpsS,go_sem,Exit.thenS,adF,vM]
 apply wpS_seq
 apply wpS_seq
 apply wpS_region
 simp [wpOpsS,go_sem,Exit.thenS]
 refine wpS_cond (t:=false) (by simp [Act.eval,Array.replicate]) ?_
 simp only[aV,bZ]
 refine wpS_of_wp (wp_skip ?_)
 show Code.wpS _ _ _ _ _ _
 letI:DS:=⟨[]⟩
 refine wpS_of_wp (wp_mono (vG (G:=λ_ _ _ _ _=>False) (lv:=adG) (N:=17) (λ_ _ _ _ _ h=>h.elim) mixed _ VR (λe _ h'=>e= .normal/\h'=kU (w.heap.push (.cells #[.int .i64 f.1,.int .i64 0,.int .i64 f.2] 209)) fb 0 [.int .i64 f.1,.int .i64 0,.int .i64 f.2]) _ _ _ _ (by kernel_rfl) (Qd (by simp) rfl) (oZ.refl _) ?_) ?_)
 ·generalize hσ:(λi=>_:Nat->Value)=σ
  have e0:σ 0= .pointer (some ⟨fb,0,none⟩):=by rw[<-hσ];simp
  have e2:σ 2= .pointer (some ⟨w.heap.size,0,none⟩):=by rw[<-hσ];simp
  clear hσ
  obtain⟨h',hh'⟩:=kJ (w.heap.push (.cells #[.int .i64 f.1,.int .i64 0,.int .i64 f.2] 209))
  have B:=kV.new (u:=λ_=>0) (h:=w.heap) [.int .i64 f.1,.int .i64 0,.int .i64 f.2] 209
  show wpS _ _ _ _ (w.heap.push (.cells #[.int .i64 f.1,.int .i64 0,.int .i64 f.2] 209))
  have g1:hsz h' fb=3:=by rw[hh'];simp only[LX,h1,h3]
  have g2:wH h' fb=(0,0):=by rw[hh'];simp only[LY,h2,h3]
  rw[<-hh']
  have B':kV (ub (λ_=>0) w.heap.size 0) h' w.heap.size [.int .i64 f.1,.int .i64 0,.int .i64 f.2]:=by rw[hh'];exact B
  simp(disch:=first|omega|simp only[zz];try omega;done) only[↓reduceIte,go_sem,VR,e0,e2,B'.at,B'.2.1,g1,g2]
 ·intro e a w' hq
  cases e with
  |normal=>
   obtain⟨hk,σ,R,-,hh⟩:=hq
   exact⟨R.df,_,rfl,.tuple #[],by simp [results,Tryz.results108,go_sem],rfl,rfl,⟨hk.os,hk.tape,hk.output⟩,hh⟩
  |panic c=>exact absurd hq.2.2.1 (by simp)
  |outgrown=>exact hq.elim
  |_=>obtain⟨_,_,_,q,_⟩:=hq;cases q
/-! The parts of guarded. -/
def ahn:Nat->Bool:=λi=>Nat.testBit 2228339 i
def aho:S:=(.sts [(.eff [] (some 4) (.alloc 44 #[(.int .i64 0),(.int .i64 0),(.int .i64 0)]) [] [])])
def afX:S:=(.seq (.sts [(.chk [] (.c1 .lens (.t 0))),
  (.chk [] (.c2 (.bin .gtr) (.o1 .lens (.t 0)) (.c (.int .i64 65536)))),
  (.set 9 (.o2 (.bin .gtr) (.o1 .lens (.t 0)) (.c (.int .i64 65536))))]) (.cond 9 (.seq (.sts [(.chk [] (.cb 3 [(0,(1,(.c (.int .i64 1))))])),
  (.eff [] none (.store 3) [(.t 4),(.o2 (.put 0 1) (.c (.agg #[(.int .i64 0),(.int .i64 0),(.int .i64 0)])) (.c (.int .i64 1)))] [])]) .ret) .skip))
def ahp:S:=(.sts [(.eff [] (some 14) (.call 78) [(.t 0)] []),
  (.chk [] (.c1 (.ext 0) (.t 14))),
  (.chk [] (.c1 (.ext 1) (.t 14))),
  (.eff [] (some 6) (.alloc 44 #[(.int .i64 0),(.int .i64 0),(.int .i64 0)]) [] []),
  (.set 5 (.o1 (.ext 0) (.t 14))),
  (.eff [] none (.store 3) [(.t 6),(.o1 (.ext 1) (.t 14))] [])])
def ahq:List St:=[(.set 17 (.t 1)),(.chk [] (.c1 (.ldn 3) (.t 6))),
  (.chk [] (.cb 5 [(0,(1,(.t 5))),(2,(3,(.o1 (.ldn 3) (.t 6))))])),
  (.set 20 (.o2 (.put 2 3) (.o2 (.put 0 1) (.c (.agg #[(.slice none 0 0),(.int .i64 0),(.int .i64 0),(.int .i64 0),(.int .i64 0)])) (.t 5)) (.o1 (.ldn 3) (.t 6)))),
  (.eff [] (some 21) (.box 212) [(.t 20)] [])]
def ahr:S:=(.seq (.sts [(.chk [] (.cb 3 [])),
  (.eff [] none (.store 3) [(.t 4),(.c (.agg #[(.int .i64 0),(.int .i64 0),(.int .i64 0)]))] [])]) .ret)
def Dt(vs:List Value)(h:H)(K:Value->H->Prop):Prop:= ∃(u:U) (src:List UInt8) (g:FuncId) (cap:List Value) (Sx:Nat->Prop),vs=[str src,.func (.func g) #[] cap.toArray]/\src.length<=9223372036854775807/\Kg u h/\(∀b,Sx b->b<h.size)/\
 (65536<src.length-> ∀u' h',kG S0 u h u' h'->K (vM (1,0)) h')/\
 (src.length<=65536-> ∀u' h' rb fb sl,kG S0 u h u' h'->h.size<=rb->h.size<=fb->fb≠rb->fb<h'.size->yU u' h' rb sl (lZ src).1 ((lZ src).2.1,((lZ src).2.2:Int)) 0->
  ma Tryz.prog g (.pointer (some ⟨rb,0,none⟩)::cap) h'
   (λ_ h2=> ∃u2,kG (λb=>b=rb\/Sx b) u' h' u2 h2/\ ∀u3 h3,kG (λb=>b=fb) u2 h2 u3 h3->K (vM (0,0)) h3)
   (λch h2=> ∃u2 f,ch=gu f/\kG (λb=>b=rb\/Sx b) u' h' u2 h2/\ ∀u3 h3,kG (λb=>b=fb) u2 h2 u3 h3->K (vM f) h3))
def EA:mG:=λf vs h K KP=>ma Tryz.prog f vs h K KP
theorem wW:nz Tryz.prog EA:=λ_ _ _ _ _ h=>h
theorem VS{tmps:Array Value}{fb:Nat}{w0 w:World}{u:U}{f:nI}(hs:tmps.size=24)(h4:tmps.getD 4 undef= .pointer (some ⟨fb,0,none⟩))(hk:oZ w0 w)(hB:kV u w.heap fb [.int .i64 f.1,.int .i64 0,.int .i64 f.2])(hK:K (vM f) w.heap):
  Leaves Tryz.prog Tryz.f81 tmps (λe w'=>oZ w0 w'/\ym K KP e w'.heap) [] .returning w:=by
 have h4':(λi=>(⟨tmps,[]⟩:Act).tmps.getD i undef) 4= .pointer (some ⟨fb,0,none⟩):=h4
 generalize hσ:(λi=>(⟨tmps,[]⟩:Act).tmps.getD i undef)=σ at h4'
 have R: @uL ⟨[]⟩ rO 24 ⟨tmps,[]⟩ σ w.heap []:=by rw[<-hσ];exact Hl hs rfl
 have hB1:=hB.1
 letI:DS:=⟨[]⟩
 have:=SS (w:=w) R Qp (by simp(disch:=first|omega|simp only[zz];try omega;done) only[↓reduceIte,go_sem,vV,h4',hB.2.1])
 refine⟨_,this,hk,?_⟩
 have hv:one (vV.map λe=>val e.2 σ w.heap)=vM f:=by simp(disch:=first|omega|simp only[zz];try omega;done) only[↓reduceIte,go_sem,vV,h4',hB.at,vM]
 rw[hv]
 exact hK
set_option maxRecDepth 10000 in
theorem Ck{vs:List Value}{h:H}(hC:Dt vs h K):ma Tryz.prog 81 vs h K KP:=by
 obtain⟨u,src,g,cap,Sx,rfl,hl,hG,hSx,hKL,hKR⟩:=hC
 refine .inl ⟨by kernel_rfl,λw hw=> ?_⟩
 subst hw
 refine calls_of_wp_defers Tryz.func81 rfl ?_
 obtain⟨fnv,hfnv⟩:=kJ (Value.func (.func g) #[] cap.toArray)
 rw[<-hfnv]
 have s1:=kG.qZ S0 u w.heap #[.int .i64 0,.int .i64 0,.int .i64 0] 44
 have B1:=kV.new (u:=u) (h:=w.heap) [.int .i64 0,.int .i64 0,.int .i64 0] 44
 obtain⟨h1,hh1⟩:=kJ (w.heap.push (.cells #[.int .i64 0,.int .i64 0,.int .i64 0] 44))
 obtain⟨u1,hu1⟩:=kJ (ub u w.heap.size 0)
 have B1':kV u1 h1 w.heap.size [.int .i64 0,.int .i64 0,.int .i64 0]:=by rw[hu1,hh1];exact B1
 rw[<-hh1,<-hu1]at s1
 clear B1
 have hB1:=B1'.1
 obtain⟨Q0,hQ0⟩:=kJ (α:=qm) λe σ h=>e= .normal/\σ 0=str src/\σ 1=fnv/\σ 4= .pointer (some ⟨w.heap.size,0,none⟩)/\h=h1
 -- the box of the result
 refine wp_seq (wp_mono (VQ (D:=[]) (G:=EA) (lv:=rO) (N:=24) wW mixed (s:=aho) (Q:=Q0) (by kernel_rfl) (Hl (by simp) rfl) ?_) ?_)
 ·generalize hσ:(λi=>_:Nat->Value)=σ
  have e0:σ 0=str src:=by rw[<-hσ];simp
  have e1:σ 1=fnv:=by rw[<-hσ];simp
  clear hσ
  simp(disch:=first|omega|simp only[zz];try omega;done) only[↓reduceIte,go_sem,aho,<-hh1]
  rw[hQ0]
  exact⟨rfl,by simp [kF,e0],by simp [kF,e1],by simp [kF],rfl⟩
 intro e a1 w1 hq
 rw[hQ0]at hq
 cases e with
 |panic c=>exact absurd hq.2.2.1 (by simp)
 |outgrown=>exact hq.elim
 |normal=>
  obtain⟨hk1,σ1,R1,-,e0,e1,e4,hw1⟩:=hq
  -- the length
  obtain⟨Q1,hQ1⟩:=kJ (α:=qm) λe σ h=>(e= .normal/\src.length<=65536/\σ 0=str src/\σ 1=fnv/\σ 4= .pointer (some ⟨w.heap.size,0,none⟩)/\h=h1)\/(e= .ret/\65536<src.length/\σ 4= .pointer (some ⟨w.heap.size,0,none⟩)/\h=kU h1 w.heap.size 0 [.int .i64 1,.int .i64 0,.int .i64 0])
  refine wp_seq (wp_mono (VQ (D:=[]) (G:=EA) (lv:=rO) (N:=24) wW mixed (s:=afX) (Q:=Q1) (by kernel_rfl) R1 ?_) ?_)
  ·rw[hw1]
   by_cases hlen:65536<src.length
   ·simp(disch:=first|omega|simp only[zz];try omega;done) only[↓reduceIte,go_sem,afX,e0,e4,B1'.2.1,B1'.2.2.1,af (show(65536:Int)<(src.length:Nat) by omega)]
    rw[hQ1]
    exact .inr ⟨rfl,hlen,by simp [kF,e4],rfl⟩
   ·simp(disch:=first|omega|simp only[zz];try omega;done) only[↓reduceIte,go_sem,afX,e0,au (show¬(65536:Int)<(src.length:Nat) by omega)]
    rw[hQ1]
    exact .inl ⟨rfl,by omega,by simp [kF,e0],by simp [kF,e1],by simp [kF,e4],rfl⟩
  intro e a2 w2 hq
  rw[hQ1]at hq
  cases e with
  |panic c=>rcases hq.2.2 with⟨q,_⟩|⟨q,_⟩<;>cases q
  |outgrown=>exact hq.elim
  |ret=>
   obtain⟨hk2,σ2,R2,⟨q,_⟩|⟨-,hlen,e4',hw2⟩⟩:=hq
   ·cases q
   have B2:=B1'.sets (l:=[.int .i64 1,.int .i64 0,.int .i64 0]) rfl
   have s2:=s1.rZ (b:=w.heap.size) (o:=0) (l:=[.int .i64 1,.int .i64 0,.int .i64 0]) (.inl (aH _)) (by rw[B1'.2.2.2.1];exact az _) (by rw[B1'.2.1];exact aH _)
   rw[<-hw2]at s2 B2
   show Leaves _ _ a2.tmps _ a2.defers .returning w2
   rw[Hg R2]
   exact VS (f:=(1,0)) (Hf R2) ((rC R2 4 rfl).trans e4') (hk1.trans hk2) B2 (hKL hlen _ _ s2)
  |normal=>
   obtain⟨hk2,σ2,R2,⟨-,hlen,e0',e1',e4',hw2⟩|⟨q,_⟩⟩:=hq
   case inr=>cases q
   have t0:a2.tmps.getD 0 undef=str src:=(rC R2 0 rfl).trans e0'
   have t1:a2.tmps.getD 1 undef=fnv:=(rC R2 1 rfl).trans e1'
   have t4:a2.tmps.getD 4 undef= .pointer (some ⟨w.heap.size,0,none⟩):=(rC R2 4 rfl).trans e4'
   have tz:=Hf R2
   have td:a2.defers=[]:=Hg R2
   have t11: ∀X,(a2.tmps.setIfInBounds 11 X).getD 11 undef=X:=λX=>by simp [tz]
   clear R2 e0' e1' e4'
   refine wp_seq (wp_region_list ?_)
   refine adE rfl (v:= .func (.func 108) #[] #[.pointer (some ⟨w.heap.size,0,none⟩)]) (w':=w2) (by simp [execOp,Instr.makeFunc,Act.eval,t4]) ?_
   refine aaX rfl (d:=⟨.fn (.func 108) #[.pointer (some ⟨w.heap.size,0,none⟩)],#[]⟩) (w':=w2) (by simp [execOp,resolve,Deferred.ofValue,Act.eval,Act.put,t11]) ?_
   obtain⟨D,hD⟩:=kJ (α:=List Deferred) ([⟨.fn (.func 108) #[.pointer (some ⟨w.heap.size,0,none⟩)],#[]⟩])
   obtain⟨a3,ha3⟩:=kJ (α:=Act) (⟨a2.tmps.setIfInBounds 11 (.func (.func 108) #[] #[.pointer (some ⟨w.heap.size,0,none⟩)]),D⟩)
   have z3:a3.tmps.size=24:=by rw[ha3];simp [tz]
   have d3:a3.defers=D:=by rw[ha3]
   have t30:a3.tmps.getD 0 undef=str src:=by rw[ha3];simpa [tz,eZ]using t0
   have t31:a3.tmps.getD 1 undef=fnv:=by rw[ha3];simpa [tz,eZ]using t1
   have t34:a3.tmps.getD 4 undef= .pointer (some ⟨w.heap.size,0,none⟩):=by rw[ha3];simpa [tz,eZ]using t4
   show Code.wp _ _ _ (⟨a2.tmps.setIfInBounds 11 _,_::a2.defers⟩:Act) w2
   rw[td,<-hD,<-ha3]
   letI:DS:=⟨D⟩
   have hk02:oZ w w2:=hk1.trans hk2
   obtain⟨L,hL⟩:=kJ ((lZ src).1)
   obtain⟨c,hc⟩:=kJ ((lZ src).2.1)
   obtain⟨p,hp⟩:=kJ ((lZ src).2.2)
   have hLl:L.length<=65537:=by rw[hL];exact xk src
   have hKR':=hKR hlen
   rw[<-hL,<-hc,<-hp]at hKR'
   obtain⟨fb,hfb⟩:=kJ w.heap.size
   rw[<-hfb]at t34 B1'
   obtain⟨Q3,hQ3⟩:=kJ (α:=qm) λe σ h=>e= .normal/\σ 1=fnv/\σ 4= .pointer (some ⟨fb,0,none⟩)/\ ∃(u3:U) (sl:Value) (b6:Nat),σ 5=sl/\σ 6= .pointer (some ⟨b6,0,none⟩)/\kG S0 u w.heap u3 h/\kV u3 h fb [.int .i64 0,.int .i64 0,.int .i64 0]/\kV u3 h b6 [.int .i64 c,.int .i64 0,.int .i64 (p:Int)]/\kM u3 h sl L
   refine wp_seq (wp_mono (vG (G:=EA) (lv:=rO) (N:=24) wW mixed _ ahp Q3 a3 _ w2 w2 (by kernel_rfl) (Hl z3 d3) (oZ.refl _) ?_) ?_)
   ·generalize hσ:(λi=>a3.tmps.getD i undef)=σ
    have e0:σ 0=str src:=by rw[<-hσ];exact t30
    have e1:σ 1=fnv:=by rw[<-hσ];exact t31
    have e4:σ 4= .pointer (some ⟨fb,0,none⟩):=by rw[<-hσ];exact t34
    rw[hw2]
    simp(disch:=first|omega|simp only[zz];try omega;done) only[↓reduceIte,go_sem,ahp,e0]
    refine kD (KF ⟨u1,src,rfl,hl,hG.mono s1.ge,λu3 h3 v s3 o3=>⟨kY,?_⟩⟩)
    rw[<-hL]at o3
    rw[<-hc,<-hp]
    obtain⟨h4,h5,u5,hh4,hh5,B4,B5,s5,hz5⟩:=kZ u3 h3 [.int .i64 0,.int .i64 0,.int .i64 0] (kT c p) 44 rfl
    have st5:=(s1.tZ s3).tZ s5
    have Bf:=(B1'.sZ s3).sZ s5
    have i5:=o3.iZ.mono s5.ge
    have B41:=B4.1
    simp only[kT]at hh5 B5 ⊢
    simp(disch:=first|omega|simp only[zz];try omega;done) only[↓reduceIte,go_sem,<-hh4,<-hh5,B4.2.1,B4.2.2.1]
    rw[hQ3]
    exact⟨rfl,by simp [kF,e1],by simp [kF,e4],u5,v,h3.size,by simp [kF],by simp [kF],st5,Bf,B5,i5⟩
   intro e a4 w4 hq
   rw[hQ3]at hq
   cases e with
   |panic c=>exact absurd hq.2.2.1 (by simp)
   |outgrown=>exact hq.elim
   |normal=>
    obtain⟨hk4,σ4,R4,-,e1,e4,u4,sl,b6,e5,e6,st4,Bf4,B64,i4⟩:=hq
    obtain⟨Q5,hQ5⟩:=kJ (α:=qm) λe σ h=>e= .normal/\σ 4= .pointer (some ⟨fb,0,none⟩)/\σ 17=fnv/\ ∃(u5:U) (rb:Nat),σ 21= .pointer (some ⟨rb,0,none⟩)/\kG S0 u w.heap u5 h/\kV u5 h fb [.int .i64 0,.int .i64 0,.int .i64 0]/\yU u5 h rb sl L (c,(p:Int)) 0/\fb<rb
    refine wp_seq (wp_region_list ?_)
    show wpList _ _ _ ([_,_,_,_,_]++[_]) a4 w4
    refine Bc (Q1:=CQ ahn 24 w4 Q5) ?_ ?_ ?_ _ _ _ (uh (G:=EA) (lv:=ahn) (N:=24) wW _ [] ahq a4 _ w4 (by kernel_rfl) (Hl (Hf R4) (Hg R4)) (oZ.refl _) ?_)
    ·intro a5 w5 hq
     rw[hQ5]at hq
     obtain⟨hk5,σ5,R5,-,f4,f17,u5,rb,f21,st5,Bf5,hR5,hlt5⟩:=hq
     have g4:a5.tmps.getD 4 undef= .pointer (some ⟨fb,0,none⟩):=(rC R5 4 rfl).trans f4
     have g17:a5.tmps.getD 17 undef=fnv:=(rC R5 17 rfl).trans f17
     have g21:a5.tmps.getD 21 undef= .pointer (some ⟨rb,0,none⟩):=(rC R5 21 rfl).trans f21
     have z5:=Hf R5
     have d5:=Hg R5
     have hk05:oZ w w5:=(hk02.trans hk4).trans hk5
     have hBf5:=Bf5.1
     have hH:=hKR' u5 w5.heap rb fb sl st5 (by rw[<-hfb];omega) (by rw[hfb];exact aH _) (by omega) Bf5.1 hR5
     have hcat: ∀(fr:nI) (w6:World) (u6:U),oZ w w6->kV u6 w6.heap fb [.int .i64 fr.1,.int .i64 0,.int .i64 fr.2]->K (vM fr) w6.heap-> ∀tmps:Array Value,tmps.size=24->tmps.getD 4 undef= .pointer (some ⟨fb,0,none⟩)->
       Leaves Tryz.prog Tryz.f81 tmps (λe w'=>oZ w w'/\ym K KP e w'.heap) [] .returning w6:=λfr w6 u6 hk hB hK tmps hs ht=>VS (f:=fr) hs ht hk hB hK
     have hinv: ∀w6:World,(invoke (.fn (.func 108) #[.pointer (some ⟨w.heap.size,0,none⟩)]) #[]).run Tryz.prog w6= .ok (.enter 108 #[.pointer (some ⟨fb,0,none⟩)]) w6:=λw6=>by
      rw[<-hfb]
      have hf:=Tryz.func108
      have hb:Tryz.f108.body.isSome=true:=by kernel_rfl
      have hn : (Tryz.f108.name != "runtime.NumGoroutine") = true := by kernel_rfl
      obtain⟨bd,hbd⟩:=eQ.1 hb
      simp only[bne_iff_ne,ne_eq]at hn
      simp [invoke,callFunc,hf,hn,hbd]
     unfold wpList
     rw[ay (by unfold Region.wanted;rfl)]
     refine .inl (zO (P:=Tryz.prog) (k:= .ef .callv [.tmp 17,.tmp 21]) (by kernel_rfl) EA wW a5 w5 _ _ (λ_ h2=> ∃u2,kG (λb=>b=rb\/Sx b) u5 w5.heap u2 h2/\ ∀u3 h3,kG (λb=>b=fb) u2 h2 u3 h3->K (vM (0,0)) h3)
      (λch h2=> ∃u2 f,ch=gu f/\kG (λb=>b=rb\/Sx b) u5 w5.heap u2 h2/\ ∀u3 h3,kG (λb=>b=fb) u2 h2 u3 h3->K (vM f) h3) ?_ ?_ ?_)
     ·simp only[bF,cu,Act.eval,g17,g21,hfnv,rT]
      simpa [EA]using hH
     ·rintro v w6 hk6 ⟨u6,s6,hK6⟩
      have Bf6:=Bf5.step s6 (λq=>q.elim (by omega) (λq=>by have:=hSx _ q;omega))
      have hBf6:=Bf6.1
      have B7:=Bf6.sets (l:=[.int .i64 0,.int .i64 0,.int .i64 0]) rfl
      have s7:=kG.sets (S:=λb=>b=fb) u6 w6.heap (b:=fb) (o:=0) [.int .i64 0,.int .i64 0,.int .i64 0] rfl (by rw[Bf6.2.2.2.1];exact az _) (by rw[Bf6.2.1];exact aH _)
      have hK7:=hK6 _ _ s7
      obtain⟨a6,ha6⟩:=kJ (a5.put (some 22) v)
      have z6:a6.tmps.size=24:=by rw[ha6];simp [Act.put,z5]
      have d6:a6.defers=D:=by rw[ha6];exact d5
      have t64:a6.tmps.getD 4 undef= .pointer (some ⟨fb,0,none⟩):=by rw[ha6];simpa [Act.put,z5,eZ]using g4
      rw[<-ha6]
      obtain⟨Q6,hQ6⟩:=kJ (α:=qm) λe σ h=>e= .ret/\σ 4= .pointer (some ⟨fb,0,none⟩)/\h=kU w6.heap fb 0 [.int .i64 0,.int .i64 0,.int .i64 0]
      show Code.wp _ _ _ a6 w6
      refine wp_mono (vG (G:=EA) (lv:=rO) (N:=24) wW mixed _ ahr Q6 a6 _ w6 w6 (by kernel_rfl) (Hl z6 d6) (oZ.refl _) ?_) ?_
      ·generalize hσ:(λi=>a6.tmps.getD i undef)=σ
       have e4:σ 4= .pointer (some ⟨fb,0,none⟩):=by rw[<-hσ];exact t64
       simp(disch:=first|omega|simp only[zz];try omega;done) only[↓reduceIte,go_sem,ahr,e4,Bf6.2.1,Bf6.2.2.1]
       rw[hQ6]
       exact⟨rfl,e4,rfl⟩
      intro e a7 w7 hq
      rw[hQ6]at hq
      cases e with
      |panic c=>exact absurd hq.2.2.1 (by simp)
      |outgrown=>exact hq.elim
      |ret=>
       obtain⟨hk7,σ7,R7,-,e4,hw7⟩:=hq
       show Leaves _ _ a7.tmps _ a7.defers .returning w7
       rw[Hg R7,hD]
       refine leaves_cons (by simp) (hinv w7) ((TQ _ w7).mono ?_)
       rintro e u' w8 ⟨rfl,rfl,rfl⟩
       rw[<-hw7]at B7 hK7
       exact hcat (0,0) w8 u6 ((hk05.trans hk6).trans hk7) B7 hK7 a7.tmps (Hf R7) ((rC R7 4 rfl).trans e4)
      |_=>obtain⟨_,_,_,q,_⟩:=hq;cases q
     ·rintro ch w6 hk6 ⟨u6,f,rfl,s6,hK6⟩
      have Bf6:=Bf5.step s6 (λq=>q.elim (by omega) (λq=>by have:=hSx _ q;omega))
      show Leaves _ _ a5.tmps _ a5.defers (.panicking (gu f)) w6
      rw[d5]
      show Leaves _ _ a5.tmps _ D (.panicking (gu f)) w6
      rw[hD]
      have s7:=kG.qZ (λb=>b=fb) u6 w6.heap #[.int .i64 f.1,.int .i64 0,.int .i64 f.2] 209
      have Bf7:=Bf6.sZ (kG.qZ S0 u6 w6.heap #[.int .i64 f.1,.int .i64 0,.int .i64 f.2] 209)
      have B8:=Bf7.sets (l:=[.int .i64 f.1,.int .i64 0,.int .i64 f.2]) rfl
      have s8:=s7.rZ (b:=fb) (o:=0) (l:=[.int .i64 f.1,.int .i64 0,.int .i64 f.2]) (.inr rfl) (by rw[Bf7.2.2.2.1];exact az _) (by rw[Bf7.2.1];exact aH _)
      have hK8:=hK6 _ _ s8
      refine leaves_cons (by simp) (hinv w6) ((Fa fb f w6 Bf6.2.1 Bf6.2.2.1 Bf6.1).mono ?_)
      rintro e u' w8 ⟨rfl,rfl,hk8,hw8⟩
      rw[<-hw8]at B8 hK8
      show Leaves _ _ a5.tmps _ [] (settle _) w8
      exact hcat f w8 _ ((hk05.trans hk6).trans hk8) B8 hK8 a5.tmps z5 g4
    ·intro ch a5 w5 hq
     rw[hQ5]at hq
     exact absurd hq.2.2.1 (by simp)
    ·rintro ⟨_,_,hq⟩;exact hq.elim
    ·generalize hσ:(λi=>a4.tmps.getD i undef)=σ
     have e1':σ 1=fnv:=by rw[<-hσ];exact(rC R4 1 rfl).trans e1
     have e4':σ 4= .pointer (some ⟨fb,0,none⟩):=by rw[<-hσ];exact(rC R4 4 rfl).trans e4
     have e5':σ 5=sl:=by rw[<-hσ];exact(rC R4 5 rfl).trans e5
     have e6':σ 6= .pointer (some ⟨b6,0,none⟩):=by rw[<-hσ];exact(rC R4 6 rfl).trans e6
     obtain⟨sa,sc,rfl,m1,m2⟩:=i4.sl
     have sp:=kG.qZ S0 u4 w4.heap #[.slice sa L.length sc,.int .i64 0,.int .i64 c,.int .i64 0,.int .i64 (p:Int)] 212
     have Bn:=kV.new (u:=u4) (h:=w4.heap) [.slice sa L.length sc,.int .i64 0,.int .i64 c,.int .i64 0,.int .i64 (p:Int)] 212
     have Bf5:=Bf4.sZ sp
     have i5:=i4.mono sp.ge
     have hB64:=B64.1
     have hBf4:=Bf4.1
     simp(disch:=first|omega|simp only[zz];try omega;done) only[↓reduceIte,go_sem,ahq,e1',e5',e6',B64.at,B64.2.1]
     rw[hQ5]
     exact⟨rfl,by simp [kF,e4'],by simp [kF],_,w4.heap.size,by simp [kF],st4.tZ sp,Bf5,⟨Bn,az _,i5,hLl⟩,by omega⟩
   |_=>obtain⟨_,_,_,q,_⟩:=hq;cases q
  |_=>obtain⟨_,_,_,⟨q,_⟩|⟨q,_⟩⟩:=hq<;>cases q
 |_=>obtain⟨_,_,_,q,_⟩:=hq;cases q
end Go.Proofs.Z
namespace Edict
theorem He(bad:nI)(vars:Bool): ∀(l:List Tok) (acc a:List ll) (q:List Tok),qO bad vars acc l= .ok (a,q)->acc.length<=8->a.length<=8
 |[],acc,a,q,h,_=>by unfold qO at h;cases h
 |[t],acc,a,q,h,_=>by
  rw[qG]at h
  split at h
  ·cases h
  ·split at h<;>cases h
 |t::c::r,acc,a,q,h,hl=>by
  rw[qG]at h
  split at h
  ·cases h
  ·rename_i h8
   split at h
   ·cases h
   ·rename_i hT
    have h8':acc.length<8:=eY λq=>h8 ⟨q,by simpa using hT⟩
    simp only at h
    split at h
    ·exact He bad vars r _ _ _ h (by simp;omega)
    ·split at h
     ·cases h;simp;omega
     ·cases h
theorem vL{bad:nI}{vars:Bool}{l:List Tok}{a:lH}{q:List Tok}(h:mP bad vars l= .ok (a,q)):a.2.1.length<=8:=by
 cases l with
 |nil=>rw[mP]at h;cases h
 |cons t l=>
  by_cases ht:tK t=1
  case neg=>rw[ru ht]at h;cases h
  cases l with
  |nil=>rw[zU ht]at h;cases h
  |cons p r=>
   rw[Cq ht]at h
   split at h
   ·cases h;simp
   ·split at h
    ·cases h
    ·rename_i a' q' ha
     cases h
     exact He _ _ _ _ _ _ ha (by simp)
def Cj(src:List UInt8):nI:=((lZ src).2.1,((lZ src).2.2:Int))
def nO{α:Type}(r:nI->List Tok->Except nI α)(src:List UInt8):Except nI α:=if 65536<src.length then .error (1,0)else r (Cj src) (lZ src).1
theorem wV{src:List UInt8}(h:src.length<=65536):nk (lZ src).1 (Cj src):=by
 have hs:lZ src=mo src 0:=by unfold lZ mo;rw[ah (by omega)]
 exact XY (Bg (s:=src) (k:=0) (l:=(lZ src).1) (c:=(lZ src).2.1) (p:=(lZ src).2.2) (az _) (by rw[<-hs]))
end Edict
namespace Go.Ev
open Go Rep Edict
end Go.Ev
namespace Go.Proofs.Z
open Go Go.Ev Edict
def sF:S->S| .seq a _=>a|s=>s
def sS:S->S| .seq _ b=>b|s=>s
end Go.Proofs.Z
namespace Edict
def EZ(k:Int):Bool:=decide (k=10) || pO k true
def wU(bad:nI)(t:Tok)(l:List Tok):PR lV:=if pO (tK t) true=false then .error (lF t)else
   match l with
   |[]=> .error bad
   |o::r=>if tK o≠11 then .error (lF o)else
    match r with
    |[]=> .error bad
    |y::q=>if pO (tK y) true=false then .error (lF y)else .ok ((3,og,tP o,lN t,lN y,tO t),q)
section
variable {bad:nI} {t o y:Tok} {l r q:List Tok} {e:nI} {a:lH}
theorem aaS:uT bad []= .error bad:=rfl
theorem Kr(h:tK t=10)(he:mP bad true l= .error e):uT bad (t::l)= .error e:=by
 show(if tK t=10 then _ else _)=_
 rw[ay h,he]
theorem Kt(h:tK t=10)(he:mP bad true l= .ok (a,q)):uT bad (t::l)= .ok ((2,a,0,lS,lS,tO t),q):=by
 show(if tK t=10 then _ else _)=_
 rw[ay h,he]
theorem Ku(h:tK t≠10)(h1:tK t=1/\wZ l=false)(he:mP bad true (t::l)= .error e):uT bad (t::l)= .error e:=by
 show(if tK t=10 then _ else if _ then _ else _)=_
 rw[ah h,ay h1,he]
theorem Kv(h:tK t≠10)(h1:tK t=1/\wZ l=false)(he:mP bad true (t::l)= .ok (a,q)):uT bad (t::l)= .ok ((1,a,0,lS,lS,tO t),q):=by
 show(if tK t=10 then _ else if _ then _ else _)=_
 rw[ah h,ay h1,he]
theorem Dr(h:tK t≠10)(h1: ¬(tK t=1/\wZ l=false)):uT bad (t::l)=wU bad t l:=by
 show(if tK t=10 then _ else if _ then _ else _)=_
 rw[ah h,ah h1]
 cases l with
 |nil=>rfl
 |cons o r=>cases r<;>rfl
theorem FE(h:pO (tK t) true=false):wU bad t l= .error (lF t):=by unfold wU;rw[ay h]
theorem VL(h:pO (tK t) true=true):wU bad t []= .error bad:=by unfold wU;rw[ah (by simp [h])]
theorem VM(h:pO (tK t) true=true)(ho:tK o≠11):wU bad t (o::r)= .error (lF o):=by unfold wU;rw[ah (by simp [h])];show(if tK o≠11 then _ else _)=_;rw[ay ho]
theorem VN(h:pO (tK t) true=true)(ho:tK o=11):wU bad t [o]= .error bad:=by unfold wU;rw[ah (by simp [h])];show(if tK o≠11 then _ else _)=_;rw[ah (by simp [ho])]
theorem VO(h:pO (tK t) true=true)(ho:tK o=11)(hy:pO (tK y) true=false):wU bad t (o::y::q)= .error (lF y):=by unfold wU;rw[ah (by simp [h])];show(if tK o≠11 then _ else _)=_;rw[ah (by simp [ho])];show(if pO (tK y) true=false then _ else _)=_;rw[ay hy]
theorem VP(h:pO (tK t) true=true)(ho:tK o=11)(hy:pO (tK y) true=true):wU bad t (o::y::q)= .ok ((3,og,tP o,lN t,lN y,tO t),q):=by unfold wU;rw[ah (by simp [h])];show(if tK o≠11 then _ else _)=_;rw[ah (by simp [ho])];show(if pO (tK y) true=false then _ else _)=_;rw[ah (by simp [hy])]
end
def nL(x:lV)(w:Go.Value):List Go.Value:=[.int .i64 x.1,Go.Ev.str x.2.1.1,w,.int .i64 x.2.1.2.2,.int .i64 x.2.2.1,.int .i64 x.2.2.2.1.1,.int .i64 x.2.2.2.1.2.1,Go.Ev.str x.2.2.2.1.2.2.1,.int .i64 x.2.2.2.1.2.2.2,.int .i64 x.2.2.2.2.1.1,.int .i64 x.2.2.2.2.1.2.1,Go.Ev.str x.2.2.2.2.1.2.2.1,.int .i64 x.2.2.2.2.1.2.2.2,.int .i64 x.2.2.2.2.2]
end Edict
namespace Go.Ev
theorem kV.sets4{u:U}{h:H}{b:Nat}{cs:List Value}{o:Nat}{x0 x1 x2 x3:Value}(k:kV u h b cs)(ho:o+4<=cs.length):kV u (kU h b o [x0,x1,x2,x3]) b ((((cs.set o x0).set (o+1) x1).set (o+2) x2).set (o+3) x3):=
 (((k.set (i:=o) (v:=x0) (by omega)).set (i:=o+1) (v:=x1) (by simp;omega)).set (i:=o+2) (v:=x2) (by simp;omega)).set (i:=o+3) (v:=x3) (by simp;omega)
end Go.Ev
namespace Go.Proofs.Z
open Go Go.Ev Edict
variable {vs:List Value} {h:H} {K:Value->H->Prop} {KP:List PanicEntry->H->Prop}
def Kw(vs:List Value)(h:H)(K:Value->H->Prop):Prop:= ∃(k:Int),vs=[.int .i64 k]/\K (.bool (EZ k)) h
def ahm:mG:=λf vs h K KP=>f=115/\zS vs h K
theorem aaT:nz Tryz.prog ahm:=by
 rintro f vs h K KP ⟨rfl,hC⟩;exact yV hC
theorem Qb(hC:Kw vs h K):ma Tryz.prog 122 vs h K KP:=by
 obtain⟨k,rfl,hK⟩:=hC
 refine kP 5 [(none,(.t 2))] aaT Tryz.func122 (by kernel_rfl) (by conv=>lhs;cbv;try simp only[mF]) ?_
 unfold EZ at hK
 by_cases hk:k=10
 ·subst hk
  simp only[decide_true,Bool.true_or]at hK
  simp(disch:=first|omega|simp only[zz];try omega;done) only[↓reduceIte,go_sem]
  exact hK
 rw[decide_eq_false hk,jW]at hK
 simp(disch:=first|omega|simp only[zz];try omega;done) only[↓reduceIte,go_sem,au hk]
 refine kD ⟨rfl,k,true,rfl,⟨kY,?_⟩⟩
 simp(disch:=first|omega|simp only[zz];try omega;done) only[↓reduceIte,go_sem,au hk]
 exact hK
def Qc(vs:List Value)(h:H)(K:Value->H->Prop):Prop:= ∃(u:U) (rb:Nat) (sl:Value) (L:List Tok) (bad:nI) (i:Nat),vs=[.pointer (some ⟨rb,0,none⟩)]/\yU u h rb sl L bad i/\K (.bool (wZ (L.drop (i+1)))) h
theorem TP(hC:Qc vs h K):ma Tryz.prog 134 vs h K KP:=by
 obtain⟨u,rb,sl,L,bad,i,rfl,⟨hB,hi,hL,hLl⟩,hK⟩:=hC
 obtain⟨a,c,rfl,q1,q2⟩:=hL.sl
 refine kP 5 [(none,(.t 2))] (G:=(λ_ _ _ _ _=>False)) (λ_ _ _ _ _ h=>h.elim) Tryz.func134 (by kernel_rfl) (by apply c0 rfl;repeat' first|apply cS|apply cK|apply cL|apply cX|(apply cC (by decide))|with_reducible exact cV 1 (.sts [(zk .nilck (.t 0)),(zg 1 (.t 0)),(zh (zf 1 (.t 0))),(zq .add (zl (zf 1 (.t 0))) (zv 1)),(zk .nilck (.t 0)),(zg 0 (.t 0)),(zh (zf 0 (.t 0))),(zk .len (zl (zf 0 (.t 0)))),(zq .lss (zb .add (zl (zf 1 (.t 0))) (zv 1)) (.o1 .len (zl (zf 0 (.t 0))))),(.chk [((zb .lss (zb .add (zl (zf 1 (.t 0))) (zv 1)) (.o1 .len (zl (zf 0 (.t 0))))),true)] (.c1 .nilck (.t 0))),(.chk [((zb .lss (zb .add (zl (zf 1 (.t 0))) (zv 1)) (.o1 .len (zl (zf 0 (.t 0))))),true)] (.c1 (.fld 0) (.t 0))),(.chk [((zb .lss (zb .add (zl (zf 1 (.t 0))) (zv 1)) (.o1 .len (zl (zf 0 (.t 0))))),true)] (.c1 .ld1 (zf 0 (.t 0)))),(.chk [((zb .lss (zb .add (zl (zf 1 (.t 0))) (zv 1)) (.o1 .len (zl (zf 0 (.t 0))))),true)] (.c1 .nilck (.t 0))),(.chk [((zb .lss (zb .add (zl (zf 1 (.t 0))) (zv 1)) (.o1 .len (zl (zf 0 (.t 0))))),true)] (.c1 (.fld 1) (.t 0))),(.chk [((zb .lss (zb .add (zl (zf 1 (.t 0))) (zv 1)) (.o1 .len (zl (zf 0 (.t 0))))),true)] (.c1 .ld1 (zf 1 (.t 0)))),(.chk [((zb .lss (zb .add (zl (zf 1 (.t 0))) (zv 1)) (.o1 .len (zl (zf 0 (.t 0))))),true)] (.c2 (.bin .add) (zl (zf 1 (.t 0))) (zv 1))),(.chk [((zb .lss (zb .add (zl (zf 1 (.t 0))) (zv 1)) (.o1 .len (zl (zf 0 (.t 0))))),true)] (.c2 (.idxA 6) (zl (zf 0 (.t 0))) (zb .add (zl (zf 1 (.t 0))) (zv 1)))),(.chk [((zb .lss (zb .add (zl (zf 1 (.t 0))) (zv 1)) (.o1 .len (zl (zf 0 (.t 0))))),true)] (.c1 (.fld 0) (zi 6 (zl (zf 0 (.t 0))) (zb .add (zl (zf 1 (.t 0))) (zv 1))))),(.chk [((zb .lss (zb .add (zl (zf 1 (.t 0))) (zv 1)) (.o1 .len (zl (zf 0 (.t 0))))),true)] (.c1 .ld1 (zf 0 (zi 6 (zl (zf 0 (.t 0))) (zb .add (zl (zf 1 (.t 0))) (zv 1)))))),(.chk [((zb .lss (zb .add (zl (zf 1 (.t 0))) (zv 1)) (.o1 .len (zl (zf 0 (.t 0))))),true)] (.c2 (.bin .eql) (zl (zf 0 (zi 6 (zl (zf 0 (.t 0))) (zb .add (zl (zf 1 (.t 0))) (zv 1))))) (zv 11))),(.chk [] (.c3 .pick (zb .lss (zb .add (zl (zf 1 (.t 0))) (zv 1)) (.o1 .len (zl (zf 0 (.t 0))))) (zb .eql (zl (zf 0 (zi 6 (zl (zf 0 (.t 0))) (zb .add (zl (zf 1 (.t 0))) (zv 1))))) (zv 11)) (.c (.bool false)))),(.set 2 (.o3 .pick (zb .lss (zb .add (zl (zf 1 (.t 0))) (zv 1)) (.o1 .len (zl (zf 0 (.t 0))))) (zb .eql (zl (zf 0 (zi 6 (zl (zf 0 (.t 0))) (zb .add (zl (zf 1 (.t 0))) (zv 1))))) (zv 11)) (.c (.bool false))))]) (by kernel_rfl)|(conv=>lhs;cbv;try simp only[mF])) ?_
 have hB1:=hB.1
 cases hd:L.drop (i+1)with
 |nil=>
  have hge:=Qe hd
  rw[hd]at hK
  have hK':K (.bool false) h:=hK
  simp(disch:=first|omega|simp only[zz];try omega;done) only[↓reduceIte,go_sem,hB.at,hB.2.1,au (show¬((i:Int)+1<(L.length:Nat)) by omega)]
  exact hK'
 |cons t r=>
  obtain⟨hlt,hget,hd'⟩:=mI hd
  rw[hd]at hK
  have hK':K (.bool (decide (t.1=11))) h:=hK
  obtain⟨pb,po,rfl,hpb,hpu,hpz,hpr⟩:=hL.row (i+1) t hget
  rw[mJ]at hpr
  simp only[lK,Bi,El,aG,aP]at hpr hpu hpz
  obtain⟨p0,p1,p2,p3,p4,p5⟩:=hpr
  have hn:((i:Int)+1).toNat=i+1:=by omega
  have hz0:po+(i+1)*6<hsz h pb:=by omega
  by_cases h11:t.1=11
  ·rw[decide_eq_true h11]at hK'
   simp(disch:=first|omega|simp only[zz];try omega;done) only[↓reduceIte,go_sem,hB.at,hB.2.1,af (show((i:Int)+1<(L.length:Nat)) by omega),af (show(0:Int)<=(i:Int)+1 by omega),hn,hz0,p0,h11]
   exact hK'
  ·rw[decide_eq_false h11]at hK'
   simp(disch:=first|omega|simp only[zz];try omega;done) only[↓reduceIte,go_sem,hB.at,hB.2.1,af (show((i:Int)+1<(L.length:Nat)) by omega),af (show(0:Int)<=(i:Int)+1 by omega),hn,hz0,p0,au h11]
   exact hK'
def aaU(vs:List Value)(h:H)(K:Value->H->Prop)(KP:List PanicEntry->H->Prop):Prop:= ∃(u:U) (rb:Nat) (sl:Value) (L:List Tok) (bad:nI) (i:Nat),vs=[.pointer (some ⟨rb,0,none⟩)]/\yU u h rb sl L bad i/\
 (∀e,uT bad (L.drop i)= .error e-> ∀u' h',kG (λb=>b=rb) u h u' h'->KP (gu e) h')/\
 (∀x q,uT bad (L.drop i)= .ok (x,q)-> ∀u' h' w i',kG (λb=>b=rb) u h u' h'->yU u' h' rb sl L bad i'->L.drop i'=q->kM u' h' w x.2.1.2.1->K (.agg (nL x w).toArray) h')
def aev:mG:=λf vs h K KP=>(f=83/\su vs h K KP)\/(f=92/\FF vs h K KP)\/(f=134/\Qc vs h K)\/(f=116/\ML vs h K KP)\/(f=93/\FH vs h K KP)
theorem aaV:nz Tryz.prog aev:=by
 rintro f vs h K KP (⟨rfl,hC⟩|⟨rfl,hC⟩|⟨rfl,hC⟩|⟨rfl,hC⟩|⟨rfl,hC⟩)
 ·exact qp hC
 ·exact Du hC
 ·exact TP hC
 ·exact Ky hC
 ·exact Dv hC
def afW:S:=sS (sS (sS (sS zW)))
theorem adC:zW= .seq (sF zW) (.seq (sF (sS zW)) (.seq (sF (sS (sS zW))) (.seq (sF (sS (sS (sS zW)))) afW))):=rfl
theorem aaW(hC:aaU vs h K KP):ma Tryz.prog 123 vs h K KP:=by
 obtain⟨u,rb,sl,L,bad,i,rfl,hR,hKE,hKO⟩:=hC
 refine kP 536871453 [((some (.c1 (.ldn 14) (.t 2))),(.o1 (.ldn 14) (.t 2)))] aaV Tryz.func123 (s:=zW) (by kernel_rfl) (by kernel_rfl) ?_
 have s1:=kG.qZ S0 u h #[.int .i64 0,str [],.slice none 0 0,.int .i64 0,.int .i64 0,.int .i64 0,.int .i64 0,str [],.int .i64 0,.int .i64 0,.int .i64 0,str [],.int .i64 0,.int .i64 0] 100
 have B1:=kV.new (u:=u) (h:=h) [.int .i64 0,str [],.slice none 0 0,.int .i64 0,.int .i64 0,.int .i64 0,.int .i64 0,str [],.int .i64 0,.int .i64 0,.int .i64 0,str [],.int .i64 0,.int .i64 0] 100
 obtain⟨h1,hh1⟩:=kJ (h.push (.cells #[.int .i64 0,str [],.slice none 0 0,.int .i64 0,.int .i64 0,.int .i64 0,.int .i64 0,str [],.int .i64 0,.int .i64 0,.int .i64 0,str [],.int .i64 0,.int .i64 0] 100))
 obtain⟨u1,hu1⟩:=kJ (ub u h.size 0)
 have B1':kV u1 h1 h.size [.int .i64 0,str [],.slice none 0 0,.int .i64 0,.int .i64 0,.int .i64 0,.int .i64 0,str [],.int .i64 0,.int .i64 0,.int .i64 0,str [],.int .i64 0,.int .i64 0]:=by rw[hu1,hh1];exact B1
 rw[<-hh1,<-hu1]at s1
 clear B1
 have hR1:=hR.sZ s1
 have hrb:rb<h.size:=hR.1.1
 have hLl:=hR.2.2.2
 have hne1:h.size≠rb:=by omega
 rw[adC]
 simp(disch:=first|omega|simp only[zz];try omega;done) only[↓reduceIte,go_sem,sF,sS,zW,adL,<-hh1]
 refine kD (.inl ⟨rfl,u1,rb,sl,L,bad,i,rfl,hR1,λu2 h2 s2=>⟨λhd=> ?_,λt r hd=>⟨kY,?_⟩⟩⟩)
 ·exact hKE bad (by rw[hd];rfl) _ _ ((s1.tZ s2).mono (λ_ _ q=>q.elim))
 obtain⟨hlt,hget,hd'⟩:=mI hd
 rw[hd]at hKE hKO
 obtain⟨h3,h4,u4,hh3,hh4,B3,B4,s4,hz4⟩:=kZ u2 h2 [.int .i64 0,str [],.int .i64 0,.int .i64 0,.int .i64 0,.int .i64 0] (lK t) 177 rfl
 have hb1:h.size<h2.size:=bM B1'.1 s2.ge.sz
 have st4:kG (λb=>b=rb) u h u4 h4:=((s1.tZ s2).tZ s4).mono (λ_ _ q=>q.elim)
 have B14:=(B1'.sZ s2).sZ s4
 have hR4:=(hR1.sZ s2).sZ s4
 simp only[lK]at hh4 B4 ⊢
 have B31:=B3.1
 have B41:=B4.1
 have hne2:h2.size≠rb:=by omega
 have hRB:=hR4.1
 have hRb:=hRB.1
 clear hh1 s1 B1' hR1
 by_cases h10:t.1=10
 ·obtain⟨h5,hh5,s5,hR5⟩:=hR4.adv hlt
  have B15:=B14.step s5 hne1
  have B45:=B4.step s5 hne2
  have st5:kG (λb=>b=rb) u h u4 h5:=st4.trans s5 (λb _ q=>q)
  simp(disch:=first|omega|simp only[zz];try omega;done) only[↓reduceIte,go_sem,<-hh3,<-hh4,B3.2.1,B3.2.2.1,B4.at,B4.2.1,af h10,hRB.at,hRB.2.1,hRB.2.2.1,<-hh5,B45.at,B45.2.1]
  refine kD (.inr (.inl ⟨rfl,u4,rb,sl,L,bad,i+1,true,rfl,hR5,λe he u6 h6 s6=> ?_,λa q ha u6 h6 w i6 s6 hR6 hd6 ow=> ?_⟩))
  ·rw[hd']at he
   exact hKE e (Kr h10 he) _ _ (st5.trans s6 (λb _ q=>q))
  rw[hd']at ha
  have B16:=B15.step s6 hne1
  have B46:=B45.step s6 hne2
  have B161:=B16.1
  have B461:=B46.1
  refine⟨by simp(disch:=first|omega|simp only[zz];try omega;done) only[↓reduceIte,go_sem,B45.at,B46.at,B46.2.1],?_⟩
  have iw:=ow.iZ
  obtain⟨wa,wc,rfl,m1,m2⟩:=ow.sl
  have st6:kG (λb=>b=rb) u h u6 h6:=st5.trans s6 (λb _ q=>q)
  have w1:=B16.sets (l:=nL (2,a,0,lS,lS,tO t) (.slice wa a.2.1.length wc)) rfl
  have s7:=st6.rZ (b:=h.size) (o:=0) (l:=nL (2,a,0,lS,lS,tO t) (.slice wa a.2.1.length wc)) (.inl (aH _)) (by rw[B16.2.2.2.1];exact az _) (by rw[B16.2.1];exact aH _)
  have s67:=kG.sets (S:=λb=>b=h.size) u6 h6 (b:=h.size) (o:=0) (nL (2,a,0,lS,lS,tO t) (.slice wa a.2.1.length wc)) rfl (by rw[B16.2.2.2.1];exact az _) (by rw[B16.2.1];exact aH _)
  have hK':=hKO _ _ (Kt h10 ha) _ _ _ _ s7 (hR6.step s67 (λq=>hne1 q.symm)) hd6 (iw.mono s67.ge)
  simp only[nL,lS,tO]at hK' w1
  simp(disch:=first|omega|simp only[zz];try omega;done) only[↓reduceIte,go_sem,B16.2.1,B16.2.2.1,w1.at,w1.2.1]
  exact hK'
 have tl: ¬(tK t=1/\wZ r=false)-> ∀σ:lm,σ 0= .pointer (some ⟨rb,0,none⟩)->σ 2= .pointer (some ⟨h.size,0,none⟩)->σ 3= .pointer (some ⟨h2.size,0,none⟩)->wpS aev afW (Jn adL (ym K KP)) σ h4:=by
  intro hnp σ e0 e2 e3
  rw[Dr h10 hnp]at hKE hKO
  obtain⟨M,hM⟩:=kJ (α:=lm->H->Prop) λσ' h'=> ∃(u':U) (b4:Nat),σ' 0= .pointer (some ⟨rb,0,none⟩)/\σ' 2= .pointer (some ⟨h.size,0,none⟩)/\σ' 4= .pointer (some ⟨b4,0,none⟩)/\pO (tK t) true=true/\kG (λb=>b=rb) u h u' h'/\yU u' h' rb sl L bad (i+1)/\kV u' h' h.size [.int .i64 0,str [],.slice none 0 0,.int .i64 0,.int .i64 0,.int .i64 0,.int .i64 0,str [],.int .i64 0,.int .i64 0,.int .i64 0,str [],.int .i64 0,.int .i64 0]/\kV u' h' b4 (nL (3,og,0,lN t,lS,tO t) (.slice none 0 0))/\h.size<b4/\b4≠rb
  have s5:=kG.qZ S0 u4 h4 #[.int .i64 0,str [],.slice none 0 0,.int .i64 0,.int .i64 0,.int .i64 0,.int .i64 0,str [],.int .i64 0,.int .i64 0,.int .i64 0,str [],.int .i64 0,.int .i64 0] 100
  have B55:=kV.new (u:=u4) (h:=h4) [.int .i64 0,str [],.slice none 0 0,.int .i64 0,.int .i64 0,.int .i64 0,.int .i64 0,str [],.int .i64 0,.int .i64 0,.int .i64 0,str [],.int .i64 0,.int .i64 0] 100
  obtain⟨h5,hh5⟩:=kJ (h4.push (.cells #[.int .i64 0,str [],.slice none 0 0,.int .i64 0,.int .i64 0,.int .i64 0,.int .i64 0,str [],.int .i64 0,.int .i64 0,.int .i64 0,str [],.int .i64 0,.int .i64 0] 100))
  obtain⟨u5,hu5⟩:=kJ (ub u4 h4.size 0)
  have B55':kV u5 h5 h4.size [.int .i64 0,str [],.slice none 0 0,.int .i64 0,.int .i64 0,.int .i64 0,.int .i64 0,str [],.int .i64 0,.int .i64 0,.int .i64 0,str [],.int .i64 0,.int .i64 0]:=by rw[hu5,hh5];exact B55
  rw[<-hh5,<-hu5]at s5
  clear B55
  have B45:=B4.sZ s5
  have B451:=B45.1
  have hR5:=hR4.sZ s5
  have B15:=B14.sZ s5
  have st5:=st4.tZ s5
  have hne4:h4.size≠rb:=by omega
  simp(disch:=first|omega|simp only[zz];try omega;done) only[↓reduceIte,go_sem,afW,sS,zW,adL]
  refine SV M ?_ ?_
  ·simp(disch:=first|omega|simp only[zz];try omega;done) only[↓reduceIte,go_sem,SE,e0,e3,B4.at,B4.2.1,<-hh5,B45.at,B45.2.1]
   refine⟨?_,?_⟩
   ·clear hh5 B15 B45 hR5 s5 st5 B451 B55'
    refine kD (.inr (.inr (.inr (.inl ⟨rfl,u4,rb,sl,L,bad,i,true,rfl,hR4,λu5 h5 s5 hd5=>(uK hd hd5).elim,λu5 h5 t' r' s5 hd5 hT=> ?_,λu5 h5 t' r' s5 hd5 hT hR5=> ?_⟩))))
    ·obtain⟨rfl,rfl⟩:=sj hd hd5
     exact hKE _ (FE hT) _ _ (st4.tZ s5)
    obtain⟨rfl,rfl⟩:=sj hd hd5
    have B15:=B14.step s5 hne1
    have B45:=B4.step s5 hne2
    have st5:=st4.trans s5 (λb _ q=>q)
    have B451:=B45.1
    refine⟨by simp(disch:=first|omega|simp only[zz];try omega;done) only[↓reduceIte,go_sem,e3,B4.at,B45.at,B45.2.1],?_⟩
    obtain⟨h6,h7,u7,hh6,hh7,B66,B67,s7,hz7⟩:=kZ u5 h5 [.int .i64 0,str [],.slice none 0 0,.int .i64 0,.int .i64 0,.int .i64 0,.int .i64 0,str [],.int .i64 0,.int .i64 0,.int .i64 0,str [],.int .i64 0,.int .i64 0] (nL (3,og,0,lN t,lS,tO t) (.slice none 0 0)) 100 rfl
    have B46:kV (ub u5 h5.size 0) h6 h2.size (lK t):=by rw[hh6];exact B45.sZ (kG.qZ S0 u5 h5 _ _)
    have B661:=B66.1
    have B671:=B67.1
    simp only[lK]at B46
    simp only[nL,lS,og,tO]at hh7
    simp only[lW]
    simp(disch:=first|omega|simp only[zz];try omega;done) only[↓reduceIte,go_sem,e3,B45.at,<-hh6,B46.at,B46.2.1,B66.2.1,B66.2.2.1,<-hh7]
    rw[hM]
    refine⟨u7,h5.size,?_,?_,?_,hT,st5.tZ s7,hR5.sZ s7,B15.sZ s7,B67,by omega,by have:=hR5.1.1;omega⟩<;>simp [kF,e0,e2]
   ·refine kD (.inr (.inr (.inr (.inl ⟨rfl,u5,rb,sl,L,bad,i,true,rfl,hR5,λu6 h6 s6 hd6=>(uK hd hd6).elim,λu6 h6 t' r' s6 hd6 hT=> ?_,λu6 h6 t' r' s6 hd6 hT hR6=> ?_⟩))))
    ·obtain⟨rfl,rfl⟩:=sj hd hd6
     exact hKE _ (FE hT) _ _ (st5.tZ s6)
    obtain⟨rfl,rfl⟩:=sj hd hd6
    have B16:=B15.step s6 hne1
    have B46:=B45.step s6 hne2
    have B56:=B55'.step s6 hne4
    have st6:=st5.trans s6 (λb _ q=>q)
    have B461:=B46.1
    have B561:=B56.1
    refine⟨by simp(disch:=first|omega|simp only[zz];try omega;done) only[↓reduceIte,go_sem,e3,B45.at,B46.at,B46.2.1],?_⟩
    have w:=B56.sets (l:=nL (3,og,0,lN t,lS,tO t) (.slice none 0 0)) rfl
    have s67:=kG.sets (S:=λb=>b=h4.size) u6 h6 (b:=h4.size) (o:=0) (nL (3,og,0,lN t,lS,tO t) (.slice none 0 0)) rfl (by rw[B56.2.2.2.1];exact az _) (by rw[B56.2.1];exact aH _)
    obtain⟨h7,hh7⟩:=kJ (kU h6 h4.size 0 (nL (3,og,0,lN t,lS,tO t) (.slice none 0 0)))
    rw[<-hh7]at w s67
    simp only[nL,lS,og,tO]at hh7
    simp only[lW]
    simp(disch:=first|omega|simp only[zz];try omega;done) only[↓reduceIte,go_sem,B56.2.1,B56.2.2.1,<-hh7]
    rw[hM]
    refine⟨u6,h4.size,?_,?_,?_,hT,st6.trans s67 (λb hb q=>by omega),hR6.step s67 (λq=>hne4 q.symm),B16.step s67 (by omega),w,by omega,hne4⟩<;>simp [kF,e0,e2]
  ·clear hh5 B15 B45 hR5 s5 st5 B451 B55' hu5 hne4
   intro σ' h' hm
   rw[hM]at hm
   obtain⟨u',b4,e0,e2,e4,hT,st,hRj,B1j,Bj,hb4,hb4r⟩:=hm
   have hz':=st.ge.sz
   simp(disch:=first|omega|simp only[zz];try omega;done) only[↓reduceIte,go_sem,e0]
   refine kD (.inr (.inr (.inr (.inr ⟨rfl,u',rb,sl,L,bad,i+1,11,rfl,hRj,λu5 h5 s5 hd5=> ?_,λu5 h5 o r5 s5 hd5 hk=> ?_,λu5 h5 o r5 s5 hd5 hk h0=>absurd h0 (by decide),λu5 h5 o r5 s5 hd5 hk _ hR5=>⟨kY,?_⟩⟩))))
   ·rw[hd']at hd5;subst hd5
    exact hKE _ (VL hT) _ _ (st.tZ s5)
   ·rw[hd']at hd5;subst hd5
    exact hKE _ (VM hT hk) _ _ (st.tZ s5)
   have hd6:=(mI hd5).2.2
   rw[hd']at hd5
   subst hd5
   have B15:=B1j.step s5 hne1
   have Bj5:=Bj.step s5 hb4r
   have st5:=st.trans s5 (λb _ q=>q)
   simp only[nL,lS,og]at Bj5
   have Bj51:=Bj5.1
   have Bj6:=Bj5.set (i:=4) (v:= .int .i64 (tP o)) (by simp)
   have s6:=kG.set (S:=λb=>b=b4) u5 h5 (b:=b4) (o:=4) (.int .i64 (tP o)) rfl (by rw[Bj5.2.2.2.1];exact az _)
   obtain⟨h6,hh6⟩:=kJ (lh h5 b4 4 (.int .i64 (tP o)))
   rw[<-hh6]at Bj6 s6
   simp only[cZ,bP]at Bj6
   have hb4':h.size<=b4:=by omega
   have R6:=hR5.step s6 (λq=>hb4r q.symm)
   have B16:=B15.step s6 (by omega)
   have st6:=st5.trans s6 (λb hb q=>by omega)
   simp only[tP]at hh6
   simp only[lK]
   simp(disch:=first|omega|simp only[zz];try omega;done) only[↓reduceIte,go_sem,e0,e4,Bj5.2.1,Bj5.2.2.1,<-hh6]
   refine kD (.inr (.inr (.inr (.inl ⟨rfl,u5,rb,sl,L,bad,i+1+1,true,rfl,R6,λu7 h7 s7 hd7=> ?_,λu7 h7 y q7 s7 hd7 hy=> ?_,λu7 h7 y q7 s7 hd7 hy hR7=>⟨kY,?_⟩⟩))))
   ·rw[hd6]at hd7;subst hd7
    exact hKE _ (VN hT hk) _ _ (st6.tZ s7)
   ·rw[hd6]at hd7;subst hd7
    exact hKE _ (VO hT hk hy) _ _ (st6.tZ s7)
   have hd8:=(mI hd7).2.2
   rw[hd6]at hd7
   subst hd7
   have B17:=B16.step s7 hne1
   have Bj7:=Bj6.step s7 hb4r
   have st7:=st6.trans s7 (λb _ q=>q)
   have Bj71:=Bj7.1
   have Bj8:=Bj7.sets4 (o:=9) (x0:= .int .i64 (lN y).1) (x1:= .int .i64 (lN y).2.1) (x2:=str (lN y).2.2.1) (x3:= .int .i64 (lN y).2.2.2) (by simp)
   have s8:=kG.sets (S:=λb=>b=b4) u7 h7 (b:=b4) (o:=9) [.int .i64 (lN y).1,.int .i64 (lN y).2.1,str (lN y).2.2.1,.int .i64 (lN y).2.2.2] rfl (by rw[Bj7.2.2.2.1];exact az _) (by rw[Bj7.2.1];simp)
   obtain⟨h8,hh8⟩:=kJ (kU h7 b4 9 [.int .i64 (lN y).1,.int .i64 (lN y).2.1,str (lN y).2.2.1,.int .i64 (lN y).2.2.2])
   rw[<-hh8]at Bj8 s8
   simp only[Nat.reduceAdd,cZ,bP]at Bj8
   have R8:=hR7.step s8 (λq=>hb4r q.symm)
   have B18:=B17.step s8 (by omega)
   have st8:=st7.trans s8 (λb hb q=>by omega)
   have Bj81:=Bj8.1
   have B181:=B18.1
   have w:=B18.sets (l:=nL (3,og,tP o,lN t,lN y,tO t) (.slice none 0 0)) rfl
   have s9:=st8.rZ (b:=h.size) (o:=0) (l:=nL (3,og,tP o,lN t,lN y,tO t) (.slice none 0 0)) (.inl (aH _)) (by rw[B18.2.2.2.1];exact az _) (by rw[B18.2.1];exact aH _)
   have s89:=kG.sets (S:=λb=>b=h.size) u7 h8 (b:=h.size) (o:=0) (nL (3,og,tP o,lN t,lN y,tO t) (.slice none 0 0)) rfl (by rw[B18.2.2.2.1];exact az _) (by rw[B18.2.1];exact aH _)
   have hK':=hKO _ _ (VP hT hk hy) _ _ (.slice none 0 0) _ s9 (R8.step s89 (λq=>hne1 q.symm)) hd8 (.nil _ _)
   simp only[nL,og,tO,tP]at hK' w Bj8
   simp only[lW]
   simp(disch:=first|omega|simp only[zz];try omega;done) only[↓reduceIte,go_sem,e2,e4,Bj7.2.1,Bj7.2.2.1,<-hh8,Bj8.at,Bj8.2.1,B18.2.1,B18.2.2.1,w.at,w.2.1]
   exact hK'
 by_cases h1:t.1=1
 case neg=>
  simp(disch:=first|omega|simp only[zz];try omega;done) only[↓reduceIte,go_sem,<-hh3,<-hh4,B3.2.1,B3.2.2.1,B4.at,B4.2.1,au h10,au h1]
  exact tl (λq=>h1 q.1) _ (by simp [kF]) (by simp [kF]) (by simp [kF])
 simp(disch:=first|omega|simp only[zz];try omega;done) only[↓reduceIte,go_sem,<-hh3,<-hh4,B3.2.1,B3.2.2.1,B4.at,B4.2.1,au h10,af h1]
 refine kD (.inr (.inr (.inl ⟨rfl,u4,rb,sl,L,bad,i,rfl,hR4,⟨kY,?_⟩⟩)))
 rw[hd']
 cases hob:wZ r with
 |true=>
  simp(disch:=first|omega|simp only[zz];try omega;done) only[↓reduceIte,go_sem]
  exact tl (λq=>by rw[hob]at q;cases q.2) _ (by simp [kF]) (by simp [kF]) (by simp [kF])
 |false=>
  clear tl
  simp(disch:=first|omega|simp only[zz];try omega;done) only[↓reduceIte,go_sem,B4.at,B4.2.1]
  refine kD (.inr (.inl ⟨rfl,u4,rb,sl,L,bad,i,true,rfl,hR4,λe he u6 h6 s6=> ?_,λa q ha u6 h6 w i6 s6 hR6 hd6 ow=> ?_⟩))
  ·rw[hd]at he
   exact hKE e (Ku h10 ⟨h1,hob⟩ he) _ _ (st4.trans s6 (λb _ q=>q))
  rw[hd]at ha
  have B16:=B14.step s6 hne1
  have B46:=B4.step s6 hne2
  have B161:=B16.1
  have B461:=B46.1
  refine⟨by simp(disch:=first|omega|simp only[zz];try omega;done) only[↓reduceIte,go_sem,B4.at,B46.at,B46.2.1],?_⟩
  have iw:=ow.iZ
  obtain⟨wa,wc,rfl,m1,m2⟩:=ow.sl
  have st6:kG (λb=>b=rb) u h u6 h6:=st4.trans s6 (λb _ q=>q)
  have w1:=B16.sets (l:=nL (1,a,0,lS,lS,tO t) (.slice wa a.2.1.length wc)) rfl
  have s7:=st6.rZ (b:=h.size) (o:=0) (l:=nL (1,a,0,lS,lS,tO t) (.slice wa a.2.1.length wc)) (.inl (aH _)) (by rw[B16.2.2.2.1];exact az _) (by rw[B16.2.1];exact aH _)
  have s67:=kG.sets (S:=λb=>b=h.size) u6 h6 (b:=h.size) (o:=0) (nL (1,a,0,lS,lS,tO t) (.slice wa a.2.1.length wc)) rfl (by rw[B16.2.2.2.1];exact az _) (by rw[B16.2.1];exact aH _)
  have hK':=hKO _ _ (Kv h10 ⟨h1,hob⟩ ha) _ _ _ _ s7 (hR6.step s67 (λq=>hne1 q.symm)) hd6 (iw.mono s67.ge)
  simp only[nL,lS,tO]at hK' w1
  simp(disch:=first|omega|simp only[zz];try omega;done) only[↓reduceIte,go_sem,B16.2.1,B16.2.2.1,w1.at,w1.2.1]
  exact hK'
end Go.Proofs.Z
namespace Go.Ev
open Go Rep Edict
theorem oK{u:U}{h:H}{x:lH}{cs:List Value}:rep u h x cs=(∃v,cs=[str x.1,v,.int .i64 x.2.2]/\kM u h v x.2.1):=by
 apply propext
 obtain⟨p,l,o⟩:=x
 simp only[mO,qK,lD,qi]
 constructor
 ·rintro ⟨a,b,rfl,rfl,c,d,rfl,⟨v,rfl,hv⟩,rfl⟩
  exact⟨v,rfl,hv⟩
 ·rintro ⟨v,rfl,hv⟩
  exact⟨_,_,rfl,rfl,_,_,rfl,⟨v,rfl,hv⟩,rfl⟩
theorem uU:sz lH=3:=rfl
end Go.Ev
namespace Edict
variable {acc:List lH} {bad e:nI} {l q r:List Tok} {t:Tok} {α:Type} {x:α}
theorem Bl(h:mP bad false l= .error e):qV bad l= .error e:=by unfold qV;rw[h]
def afZ{α:Type}(bad:nI)(x:α):List Tok->PR α
 |[]=> .error bad
 |c::r=>if tK c=8 then .ok (x,r)else .error (lF c)
theorem zY{a:lH}(h:mP bad false l= .ok (a,q)):qV bad l=afZ bad a q:=by unfold qV;rw[h];cases q<;>rfl
theorem VZ(h:tK t≠8):afZ bad x (t::r)= .error (lF t):=by show(if tK t=8 then _ else _)=_;rw[ah h]
theorem We(h:tK t=8):afZ bad x (t::r)= .ok (x,r):=by show(if tK t=8 then _ else _)=_;rw[ay h]
theorem Hz:mQ bad acc []= .error bad:=by unfold mQ;exact Hr
theorem HV(h:tK t=0):mQ bad acc (t::l)= .ok acc:=by unfold mQ;exact Ht h
theorem EC(h0:tK t≠0)(h:4096<=acc.length/\tK t=1):mQ bad acc (t::l)= .error (vT 24 t):=by unfold mQ;exact Dx h0 h
theorem vN(h0:tK t≠0)(h: ¬(4096<=acc.length/\tK t=1))(he:qV bad (t::l)= .error e):mQ bad acc (t::l)= .error e:=by unfold mQ;exact Hu h0 h he
theorem KG{x:lH}(h0:tK t≠0)(h: ¬(4096<=acc.length/\tK t=1))(he:qV bad (t::l)= .ok (x,q)):mQ bad acc (t::l)=mQ bad (acc++[x]) q:=by unfold mQ;exact MO h0 h he
theorem Yb(bad:nI)(l:List Tok)(hg:nk l bad)(e:nI)(h:mQ bad [] l= .error e):e.1≠0:=((Hq hg).1 e h).2
end Edict
namespace Go.Proofs.Z
open Go Go.Ev Edict
variable {vs:List Value} {h:H} {K:Value->H->Prop} {KP:List PanicEntry->H->Prop}
def Yc(vs:List Value)(h:H)(K:Value->H->Prop)(KP:List PanicEntry->H->Prop):Prop:= ∃(u:U) (rb xb:Nat) (sl:Value) (L:List Tok) (bad:nI),vs=[.pointer (some ⟨rb,0,none⟩),.pointer (some ⟨xb,0,none⟩)]/\yU u h rb sl L bad 0/\kV u h xb [.slice none 0 0]/\xb≠rb/\
 (∀e,mQ bad [] L= .error e-> ∀u' h',kG (λb=>b=rb\/b=xb) u h u' h'->KP (gu e) h')/\
 (∀l,mQ bad [] L= .ok l-> ∀u' h' w v,kG (λb=>b=rb\/b=xb) u h u' h'->kV u' h' xb [w]->mr h.size u' h' w l->K v h')
def af0:mG:=λf vs h K KP=>(f=83/\su vs h K KP)\/(f=84/\zR vs h KP)\/(f=92/\FF vs h K KP)\/(f=93/\FH vs h K KP)
theorem Yd:nz Tryz.prog af0:=by
 rintro f vs h K KP (⟨rfl,hC⟩|⟨rfl,hC⟩|⟨rfl,hC⟩|⟨rfl,hC⟩)
 ·exact qp hC
 ·exact wX hC
 ·exact Du hC
 ·exact Dv hC
theorem Qr(hC:Yc vs h K KP):ma Tryz.prog 91 vs h K KP:=by
 obtain⟨u,rb,xb,sl,L,bad,rfl,hR,hX,hxr,hKE,hKO⟩:=hC
 refine kP 32835 [] Yd Tryz.func91 (by kernel_rfl) (by conv=>lhs;cbv;try simp only[mF]) ?_
 have hrb:=hR.1.1
 have hxb:=hX.1
 have hLl:=hR.2.2.2
 have up: ∀{u1:U} {h1:H} {u':U} {h':H},kG (λb=>b=rb) u1 h1 u' h'->kG (λb=>b=rb\/b=xb) u1 h1 u' h':=λs=>s.mono (λ_ _ q=> .inl q)
 obtain⟨R,hRR⟩: ∃R,mQ bad [] L=R:=⟨_,rfl⟩
 rw[hRR]at hKE hKO
 simp(disch:=first|omega|simp only[zz];try omega;done) only[↓reduceIte,go_sem]
 obtain⟨I,hI⟩:=kJ (α:=Nat->lm->H->Prop) λj σ h'=> ∃(u':U) (w:Value) (acc:List lH),σ 0= .pointer (some ⟨rb,0,none⟩)/\σ 1= .pointer (some ⟨xb,0,none⟩)/\kG (λb=>b=rb\/b=xb) u h u' h'/\yU u' h' rb sl L bad j/\kV u' h' xb [w]/\mr h.size u' h' w acc/\acc.length<=4096/\mQ bad acc (L.drop j)=R
 refine kH I (λj=>L.length - j) 0 (by rw[hI];exact⟨u,_,[],by simp [kF],by simp [kF],kG.refl _ _ _,hR,hX,.nil _ _ _,by simp,by rw[eU];exact hRR⟩) ?_
 clear hRR
 intro j σ h' hy
 rw[hI]at hy
 obtain⟨u',w,acc,e0,e1,st,hRj,X,ow,hacc,hA⟩:=hy
 obtain⟨wa,wc,rfl,m1,m2⟩:=ow.sl
 have hX1:=X.1
 have hz:=st.ge.sz
 simp(disch:=first|omega|simp only[zz];try omega;done) only[↓reduceIte,go_sem,e0]
 refine kD (.inl ⟨rfl,u',rb,sl,L,bad,j,rfl,hRj,λu2 h2 s2=>⟨λhd=> ?_,λt r hd=>⟨kY,?_⟩⟩⟩)
 ·rw[hd,Hz]at hA
  exact hKE _ hA.symm _ _ (st.tZ s2)
 have hR2:=hRj.sZ s2
 have X2:=X.sZ s2
 have ow2:=ow.sZ s2
 have st2:=st.tZ s2
 have hX2:=X2.1
 rw[hd]at hA
 simp only[lK]
 by_cases h0:t.1=0
 ·rw[HV (show tK t=0 from h0)]at hA
  simp(disch:=first|omega|simp only[zz];try omega;done) only[↓reduceIte,go_sem,af h0]
  exact hKO _ hA.symm _ _ _ _ st2 X2 ow2
 have h0':tK t≠0:=h0
 have hwr: ∀b,kN (.slice wa acc.length wc) b->b≠rb/\b≠xb:=λb q=>by have:=ow.ge q;omega
 -- a fact, from here
 obtain⟨M,hM⟩:=kJ (α:=lm->H->Prop) λσ' h'=> ∃(u3:U),σ' 0= .pointer (some ⟨rb,0,none⟩)/\σ' 1= .pointer (some ⟨xb,0,none⟩)/\kG S0 u2 h2 u3 h'
 by_cases hfull:4096<=acc.length
 ·simp(disch:=first|omega|simp only[zz];try omega;done) only[↓reduceIte,go_sem,au h0,e0,e1,X2.at,X2.2.1,af (show(4096:Int)<=(acc.length:Nat) by omega)]
  refine kD (.inl ⟨rfl,u2,rb,sl,L,bad,j,rfl,hR2,λu3 h3 s3=>⟨λq=>(uK hd q).elim,λt' r' hd'=>⟨kY,?_⟩⟩⟩)
  obtain⟨rfl,rfl⟩:=sj hd hd'
  have hR3:=hR2.sZ s3
  have st3:=st2.tZ s3
  have X3:=X2.sZ s3
  have hX3:=X3.1
  simp only[lK]
  by_cases h1:t.1=1
  ·rw[EC h0' ⟨hfull,h1⟩]at hA
   simp(disch:=first|omega|simp only[zz];try omega;done) only[↓reduceIte,go_sem,af h1,e0]
   exact kD (.inr (.inl ⟨rfl,u3,rb,sl,L,bad,j,24,rfl,hR3,λu5 h5 s5=>⟨λq=>(uK hd q).elim,λt' r' hd'=>(by obtain⟨rfl,rfl⟩:=sj hd hd';exact hKE _ hA.symm _ _ (st3.tZ s5))⟩⟩))
  ·rw[vN h0' (λq=>h1 q.2) (Bl (ru (show tK t≠1 from h1)))]at hA
   simp(disch:=first|omega|simp only[zz];try omega;done) only[↓reduceIte,go_sem,au h1,e0,e1,X3.at,X3.2.1]
   refine kD (.inr (.inr (.inl ⟨rfl,u3,rb,sl,L,bad,j,false,rfl,hR3,λe he u5 h5 s5=> ?_,λa q ha=> ?_⟩)))
   ·rw[hd,ru (show tK t≠1 from h1)]at he
    cases he
    exact hKE _ hA.symm _ _ (st3.trans (up s5) (λ_ _ q=>q))
   ·rw[hd,ru (show tK t≠1 from h1)]at ha
    cases ha
 ·have hnf: ¬(4096<=acc.length/\tK t=1):=λq=>hfull q.1
  simp(disch:=first|omega|simp only[zz];try omega;done) only[↓reduceIte,go_sem,au h0,e0,e1,X2.at,X2.2.1,au (show¬(4096:Int)<=(acc.length:Nat) by omega)]
  refine kD (.inr (.inr (.inl ⟨rfl,u2,rb,sl,L,bad,j,false,rfl,hR2,λe he u5 h5 s5=> ?_,λa q ha u3 h3 w3 i3 s3 hR3 hd3 o3=> ?_⟩)))
  ·rw[hd]at he
   rw[vN h0' hnf (Bl he)]at hA
   exact hKE _ hA.symm _ _ (st2.trans (up s5) (λ_ _ q=>q))
  rw[hd]at ha
  have hlen3:=xf ha
  have X3:=X2.step s3 hxr
  have ow3:=ow2.step s3 (λb q q'=>(hwr b q).1 q')
  have st3:=st2.trans (up s3) (λ_ _ q=>q)
  have hX3:=X3.1
  have hz3:=st3.ge.sz
  refine⟨by simp(disch:=first|omega|simp only[zz];try omega;done) only[↓reduceIte,go_sem,e1,X2.at,X3.at,X3.2.1],?_⟩
  obtain⟨w3a,w3c,rfl,k1,k2⟩:=o3.sl
  simp(disch:=first|omega|simp only[zz];try omega;done) only[↓reduceIte,go_sem,e1,X3.at,X3.2.1]
  refine kK (by simp only[]) ow3 (x:=a) (by rw[oK];exact⟨_,rfl,o3.iZ⟩) rfl rfl (by omega) (by omega) λa5 n5 c5 u5 h5 o5 s5 hO5=>⟨kY,?_⟩
  obtain⟨_,_,hme,m51,m52⟩:=o5.sl
  simp only[Value.slice.injEq]at hme
  obtain⟨rfl,rfl,rfl⟩:=hme
  obtain⟨ac2,hac2⟩:=kJ (acc++[a])
  have hl2:ac2.length=acc.length+1:=by rw[hac2];simp
  rw[<-hac2]at o5 hO5 m51 ⊢
  have X5:=X3.step s5 (λq=>(hwr _ q).2 rfl)
  have hR5:=hR3.step s5 (λq=>(hwr _ q).1 rfl)
  have hX5:=X5.1
  have X6:=X5.set (i:=0) (v:= .slice a5 ac2.length c5) (by simp)
  have s6:=kG.set (S:=λb=>b=xb) u5 h5 (b:=xb) (o:=0) (.slice a5 ac2.length c5) rfl (by rw[X5.2.2.2.1];exact az _)
  obtain⟨h6,hh6⟩:=kJ (lh h5 xb 0 (.slice a5 ac2.length c5))
  rw[<-hh6]at X6 s6
  simp only[bP]at X6
  have o6:=o5.step s6 (λb q q'=>by have:=o5.ge q;omega)
  have hR6:=hR5.step s6 (λq=>hxr q.symm)
  have st6:=(st3.trans s5 (λb hb q=>by have:=ow3.ge q;omega)).trans s6 (λb _ q=> .inr q)
  simp(disch:=first|omega|simp only[zz];try omega;done) only[↓reduceIte,go_sem,X5.2.1,X5.2.2.1,<-hh6,e0,e1]
  refine kD (.inr (.inr (.inr ⟨rfl,u5,rb,sl,L,bad,i3,8,rfl,hR6,λu7 h7 s7 hd7=> ?_,λu7 h7 t7 r7 s7 hd7 hk7=> ?_,λu7 h7 t7 r7 s7 hd7 hk7 q=>absurd q (by decide),λu7 h7 t7 r7 s7 hd7 hk7 _ hR7=>⟨kY,?_⟩⟩)))
  ·rw[hd3]at hd7;subst hd7
   rw[vN h0' hnf (by rw[zY ha];rfl)]at hA
   exact hKE _ hA.symm _ _ (st6.tZ s7)
  ·rw[hd3]at hd7;subst hd7
   rw[vN h0' hnf (by rw[zY ha];exact VZ hk7)]at hA
   exact hKE _ hA.symm _ _ (st6.tZ s7)
  rw[hd3]at hd7;subst hd7
  rw[KG h0' hnf (by rw[zY ha];exact We hk7),<-hac2]at hA
  have hd8:=mI hd3
  have hjl:=mI hd
  have hlt8:j<i3+1:=by
   have e1:(L.drop i3).length=r7.length+1:=by rw[hd3];rfl
   have e2:(L.drop j).length=r.length+1:=by rw[hd];rfl
   rw[dL]at e1 e2
   simp only[aM]at hlen3
   omega
  simp(disch:=first|omega|simp only[zz];try omega;done) only[↓reduceIte,go_sem,Vs]
  refine⟨i3+1,?_,by omega⟩
  rw[hI]
  refine⟨u7,_,ac2,?_,?_,st6.trans (up s7) (λ_ _ q=>q),hR7,X6.step s7 hxr,o6.step s7 (λb q q'=>by have:=o6.ge q;omega),by omega,by rw[hd8.2.2];exact hA⟩<;>simp [kF,e0,e1]
def Wh:S:=sF (sS (sS xh))
def MQ:S:=sS (sS (sS xh))
theorem TY:xh= .seq (sF xh) (.seq (sF (sS xh)) (.seq Wh MQ)):=rfl
def abb(vs:List Value)(h:H)(K:Value->H->Prop):Prop:= ∃(u:U) (src:List UInt8),vs=[str src]/\src.length<=9223372036854775807/\Kg u h/\
 (∀e,nO (λb l=>mQ b [] l) src= .error e-> ∀u' h',kG S0 u h u' h'->K (.tuple #[.slice none 0 0,vM e]) h')/\
 (∀l,nO (λb l=>mQ b [] l) src= .ok l-> ∀u' h' w,kG S0 u h u' h'->mr h.size u' h' w l->K (.tuple #[w,vM (0,0)]) h')
def xm:mG:=λf vs h K KP=>f=81/\Dt vs h K
theorem Qs:nz Tryz.prog xm:=by
 rintro f vs h K KP ⟨rfl,hC⟩;exact Ck hC
theorem TZ(hC:abb vs h K):ma Tryz.prog 55 vs h K KP:=by
 obtain⟨u,src,rfl,hl,hG,hKE,hKO⟩:=hC
 refine kP 2109 [(none,(.t 2)),((some (.c1 (.ldn 3) (.t 3))),(.o1 (.ldn 3) (.t 3)))] Qs Tryz.func55 (s:=xh) (by kernel_rfl) (by kernel_rfl) ?_
 have s1:=kG.qZ S0 u h #[.int .i64 0,.int .i64 0,.int .i64 0] 44
 have B1:=kV.new (u:=u) (h:=h) [.int .i64 0,.int .i64 0,.int .i64 0] 44
 obtain⟨h1,hh1⟩:=kJ (h.push (.cells #[.int .i64 0,.int .i64 0,.int .i64 0] 44))
 obtain⟨u1,hu1⟩:=kJ (ub u h.size 0)
 have B1':kV u1 h1 h.size [.int .i64 0,.int .i64 0,.int .i64 0]:=by rw[hu1,hh1];exact B1
 rw[<-hh1,<-hu1]at s1
 clear B1
 have s2:=kG.qZ S0 u1 h1 #[.slice none 0 0] 53
 have B2:=kV.new (u:=u1) (h:=h1) [.slice none 0 0] 53
 obtain⟨h2,hh2⟩:=kJ (h1.push (.cells #[.slice none 0 0] 53))
 obtain⟨u2,hu2⟩:=kJ (ub u1 h1.size 0)
 have B2':kV u2 h2 h1.size [.slice none 0 0]:=by rw[hu2,hh2];exact B2
 rw[<-hh2,<-hu2]at s2
 clear B2
 have z1:h1.size=h.size+1:=by rw[hh1];simp
 have z2:h2.size=h1.size+1:=by rw[hh2];simp
 have st2:=s1.tZ s2
 have A1:=B1'.sZ s2
 obtain⟨T,hT⟩: ∃T:nI->U->H->Prop,T=λf uE h'=>kG S0 u h uE h'/\kV uE h' h.size [.int .i64 0,.int .i64 0,.int .i64 0]/\h1.size<h'.size/\
  ((f.1≠0/\nO (λb l=>mQ b [] l) src= .error f)\/(f=(0,0)/\ ∃(l:List lH) (w:Value),nO (λb l=>mQ b [] l) src= .ok l/\kV uE h' h1.size [w]/\mr h2.size uE h' w l)):=⟨_,rfl⟩
 obtain⟨M,hM⟩:=kJ (α:=lm->H->Prop) λσ' h'=> ∃(f:nI) (uE:U) (b5:Nat),σ' 3= .pointer (some ⟨h.size,0,none⟩)/\σ' 4= .pointer (some ⟨h1.size,0,none⟩)/\σ' 5= .pointer (some ⟨b5,0,none⟩)/\T f uE h'/\kV uE h' b5 [.int .i64 f.1,.int .i64 0,.int .i64 f.2]/\h1.size<b5
 rw[TY]
 simp(disch:=first|omega|simp only[zz];try omega;done) only[↓reduceIte,go_sem,sF,sS,xh,<-hh1,<-hh2]
 have cut: ∀(A B:S) (Q:qm) (σ:lm) (h:H),(∀R:lm->H->Prop,(∀σ' h',M σ' h'->R σ' h')->wpS xm A (Ak R Q) σ h)->(∀σ' h',M σ' h'->wpS xm B Q σ' h')->wpS xm A (Ak (wpS xm B Q) Q) σ h:=λA B Q σ h k1 k2=>k1 _ k2
 refine cut _ _ _ _ _ ?_ ?_
 ·intro R hR
  have fin: ∀(f:nI) (uE:U) (hE:H) (σ0:lm) (Q:qm) (KPx:List PanicEntry->H->Prop),σ0 3= .pointer (some ⟨h.size,0,none⟩)->σ0 4= .pointer (some ⟨h1.size,0,none⟩)->T f uE hE->
    mf xm [St.eff [] (some 5) (F.alloc 44 #[.int .i64 0,.int .i64 0,.int .i64 0]) [] [],St.eff [] none (F.store 3) [E.t 5,E.t 8] []] (Ak R Q Exit.normal) KPx (qU σ0 (some 8) (vM f)) hE:=by
   intro f uE hE σ0 Q KPx e3 e4 hTf
   obtain⟨h5,h6,u6,hh5,hh6,B5,B6,s6,hz6⟩:=kZ uE hE [.int .i64 0,.int .i64 0,.int .i64 0] [.int .i64 f.1,.int .i64 0,.int .i64 f.2] 44 rfl
   rw[hT]at hTf
   obtain⟨st,A1',hz,hres⟩:=hTf
   have B51:=B5.1
   simp only[vM]
   simp(disch:=first|omega|simp only[zz];try omega;done) only[↓reduceIte,go_sem,<-hh5,<-hh6,B5.2.1,B5.2.2.1]
   apply hR
   rw[hM,hT]
   refine⟨f,u6,hE.size,by simp [kF,e3],by simp [kF,e4],by simp [kF],⟨st.tZ s6,A1'.sZ s6,by omega,?_⟩,B6,hz⟩
   rcases hres with q|⟨q,a,w,q1,q2,q3⟩
   ·exact .inl q
   ·exact .inr ⟨q,a,w,q1,q2.sZ s6,q3.sZ s6⟩
  simp(disch:=first|omega|simp only[zz];try omega;done) only[↓reduceIte,go_sem,Wh,sF,sS,xh]
  refine kD ⟨rfl,u2,src,91,[.pointer (some ⟨h1.size,0,none⟩)],λb=>b=h1.size,rfl,hl,hG.mono st2.ge,λb q=>(by omega),λhlong u4 h4 s4=>⟨kY,?_⟩,λhshort u4 h4 rb fb sl s4 hrb hfb wH hfl hRd=> ?_⟩
  ·refine fin (1,0) u4 h4 _ _ _ (by simp [kF]) (by simp [kF]) ?_
   rw[hT]
   exact⟨st2.tZ s4,A1.sZ s4,by have:=s4.ge.sz;omega,.inl ⟨(show(1:Int)≠0 by decide),by unfold nO;rw[ay hlong]⟩⟩
  ·have hpf:nO (λb l=>mQ b [] l) src=(λb l=>mQ b [] l) (Cj src) (lZ src).1:=by unfold nO;rw[ah (by omega)]
   refine Qr ⟨u4,rb,h1.size,sl,_,_,rfl,hRd,B2'.sZ s4,by omega,λe he u5 h5 s5=>⟨u5,e,rfl,s5.mono (λb _ q=>q),λu6 h6 s6=>⟨kY,?_⟩⟩,λa ha u5 h5 w v s5 hX ow=>⟨u5,s5.mono (λb _ q=>q),λu6 h6 s6=>⟨kY,?_⟩⟩⟩
   ·refine fin e u6 h6 _ _ _ (by simp [kF]) (by simp [kF]) ?_
    rw[hT]
    exact⟨((st2.tZ s4).trans s5 (λb hb q=>by omega)).trans s6 (λb hb q=>by omega),((A1.sZ s4).step s5 (by omega)).step s6 (by omega),by have:=s4.ge.sz;have:=s5.ge.sz;have:=s6.ge.sz;omega,.inl ⟨Yb _ _ (wV hshort) e he,by rw[hpf];exact he⟩⟩
   ·refine fin (0,0) u6 h6 _ _ _ (by simp [kF]) (by simp [kF]) ?_
    rw[hT]
    have hz4:=s4.ge.sz
    exact⟨((st2.tZ s4).trans s5 (λb hb q=>by omega)).trans s6 (λb hb q=>by omega),((A1.sZ s4).step s5 (by omega)).step s6 (by omega),by have:=s5.ge.sz;have:=s6.ge.sz;omega,.inr ⟨rfl,a,w,by rw[hpf];exact ha,hX.step s6 (by omega),(ow.step s6 (λb q q'=>by have:=ow.ge q;omega)).mono hz4⟩⟩
 ·intro σ' h' hm
  rw[hM]at hm
  obtain⟨f,uE,b5,e3,e4,e5,hTf,A5,hb5⟩:=hm
  rw[hT]at hTf
  obtain⟨st,A1',hz,hres⟩:=hTf
  have A11:=A1'.1
  have A51:=A5.1
  have w1:=A1'.sets (l:=[.int .i64 f.1,.int .i64 0,.int .i64 f.2]) rfl
  have s7:=kG.sets (S:=λb=>b=h.size) uE h' (b:=h.size) (o:=0) [.int .i64 f.1,.int .i64 0,.int .i64 f.2] rfl (by rw[A1'.2.2.2.1];exact az _) (by rw[A1'.2.1];exact aH _)
  have st8:=st.trans s7 (λb hb q=>by omega)
  rcases hres with⟨hf,hp⟩|⟨rfl,a,w,hp,X,ow⟩
  ·have hK':=hKE f hp _ _ st8
   simp only[vM]at hK'
   simp(disch:=first|omega|simp only[zz];try omega;done) only[↓reduceIte,go_sem,MQ,sS,xh,e3,e5,A5.at,A5.2.1,hf,A1'.2.1,A1'.2.2.1,w1.at,w1.2.1]
   exact hK'
  ·have X1:=X.1
   have hK':=hKO a hp _ _ _ st8 ((ow.step s7 (λb q q'=>by have:=ow.ge q;omega)).mono (by omega))
   simp only[vM]at hK'
   obtain⟨xa,xc,rfl,n1,n2⟩:=ow.sl
   simp(disch:=first|omega|simp only[zz];try omega;done) only[↓reduceIte,go_sem,MQ,sS,xh,e3,e4,e5,A5.at,A5.2.1,A1'.2.1,A1'.2.2.1,X.at,X.2.1,w1.at,w1.2.1]
   exact hK'
end Go.Proofs.Z
namespace Go.Ev
open Go Rep Edict
variable {cs:List Value} {u:U} {h:H}
theorem tQ{x:lV}:rep u h x cs=(∃v,cs=nL x v/\kM u h v x.2.1.2.1):=by
 apply propext
 obtain⟨k,⟨p,l,o⟩,op,⟨l1,l2,l3,l4⟩,⟨r1,r2,r3,r4⟩,of⟩:=x
 simp only[mO,qK,lD,qi]
 constructor
 ·rintro ⟨_,_,rfl,rfl,_,_,rfl,⟨_,_,rfl,rfl,_,_,rfl,⟨v,rfl,hv⟩,rfl⟩,_,_,rfl,rfl,_,_,rfl,⟨_,_,rfl,rfl,_,_,rfl,rfl,_,_,rfl,rfl,rfl⟩,_,_,rfl,⟨_,_,rfl,rfl,_,_,rfl,rfl,_,_,rfl,rfl,rfl⟩,rfl⟩
  exact⟨v,rfl,hv⟩
 ·rintro ⟨v,rfl,hv⟩
  exact⟨_,_,rfl,rfl,_,_,rfl,⟨_,_,rfl,rfl,_,_,rfl,⟨v,rfl,hv⟩,rfl⟩,_,_,rfl,rfl,_,_,rfl,⟨_,_,rfl,rfl,_,_,rfl,rfl,_,_,rfl,rfl,rfl⟩,_,_,rfl,⟨_,_,rfl,rfl,_,_,rfl,rfl,_,_,rfl,rfl,rfl⟩,rfl⟩
theorem yS:sz lV=14:=rfl
theorem rE{x:kX}:rep u h x cs=(∃v w,cs=[str x.1.1,v,.int .i64 x.1.2.2,w]/\kM u h v x.1.2.1/\kM u h w x.2):=by
 apply propext
 obtain⟨⟨p,l,o⟩,b⟩:=x
 simp only[mO,qK,lD,qi]
 constructor
 ·rintro ⟨_,_,rfl,⟨_,_,rfl,rfl,_,_,rfl,⟨v,rfl,hv⟩,rfl⟩,w,rfl,hw⟩
  exact⟨v,w,rfl,hv,hw⟩
 ·rintro ⟨v,w,rfl,hv,hw⟩
  exact⟨_,_,rfl,⟨_,_,rfl,rfl,_,_,rfl,⟨v,rfl,hv⟩,rfl⟩,w,rfl,hw⟩
theorem vo:sz kX=4:=rfl
end Go.Ev
namespace Edict
variable {t:Tok} {bad:nI} {l:List Tok} {k:Int} {acc:List lV} {q r:List Tok} {c:Tok} {e:nI} {a:lH}
theorem GZ(h:EZ (tK t)=false): ∃e,uT bad (t::l)= .error e:=by
 unfold EZ at h
 rw[dB]at h
 have h10:tK t≠10:=of_decide_eq_false h.1
 have h1:tK t≠1:=λq=>by have:=h.2;rw[q]at this;cases this
 exact⟨_,by rw[Dr h10 (λq=>h1 q.1)];exact FE h.2⟩
theorem VI(h:EZ k=true):k=10\/pO k true=true:=by
 unfold EZ at h
 rw[fq]at h
 exact h.imp of_decide_eq_true id
theorem aaO(h:EZ k=false): ¬(k=10\/pO k true=true):=by
 unfold EZ at h
 rw[dB]at h
 rintro (q|q)
 ·exact of_decide_eq_false h.1 q
 ·rw[h.2]at q;cases q
def aaP(bad:nI)(acc:List lV):List Tok->PR (List lV)
 |[]=> .error bad
 |c::r=>if tK c=7 then pI bad acc r else if tK c=8 then .ok (acc,r)else .error (lF c)
theorem PT{x:lV}(h: ¬(16<=acc.length/\(tK t=10\/pO (tK t) true=true)))(he:uT bad (t::l)= .ok (x,q)):pI bad acc (t::l)=aaP bad (acc++[x]) q:=by
 rw[Dw h he]
 cases q<;>rfl
theorem Ko:aaP bad acc []= .error bad:=rfl
theorem Ha:aaP bad acc (c::r)=if tK c=7 then pI bad acc r else if tK c=8 then .ok (acc,r)else .error (lF c):=rfl
def PU(bad:nI)(a:lH):List Tok->PR kX
 |[]=> .error bad
 |c::r=>if tK c=8 then .ok ((a,[]),r)else if tK c=9 then
    (match pI bad [] r with
    | .error e=> .error e
    | .ok (b,p)=> .ok ((a,b),p))
   else .error (lF c)
theorem yT(h:mP bad true l= .error e):nQ bad l= .error e:=by unfold nQ;rw[h]
theorem Hd(h:mP bad true l= .ok (a,q)):nQ bad l=PU bad a q:=by unfold nQ;rw[h];cases q<;>rfl
theorem VJ(h:tK c=8):PU bad a (c::r)= .ok ((a,[]),r):=by show(if tK c=8 then _ else _)=_;rw[ay h]
theorem PV(h:tK c=9)(hb:pI bad [] r= .error e):PU bad a (c::r)= .error e:=by show(if tK c=8 then _ else if tK c=9 then _ else _)=_;rw[ah (by rw[h];decide),ay h,hb]
theorem PW{b:List lV}(h:tK c=9)(hb:pI bad [] r= .ok (b,q)):PU bad a (c::r)= .ok ((a,b),q):=by show(if tK c=8 then _ else if tK c=9 then _ else _)=_;rw[ah (by rw[h];decide),ay h,hb]
theorem PZ(h:tK c≠8)(h':tK c≠9):PU bad a (c::r)= .error (lF c):=by show(if tK c=8 then _ else if tK c=9 then _ else _)=_;rw[ah h,ah h']
end Edict
namespace Go.Proofs.Z
open Go Go.Ev Edict
variable {vs:List Value} {h:H} {K:Value->H->Prop} {KP:List PanicEntry->H->Prop}
def VK(vs:List Value)(h:H)(K:Value->H->Prop)(KP:List PanicEntry->H->Prop):Prop:= ∃(u:U) (rb:Nat) (sl:Value) (L:List Tok) (bad:nI) (i:Nat),vs=[.pointer (some ⟨rb,0,none⟩)]/\yU u h rb sl L bad i/\
 (∀e,pI bad [] (L.drop i)= .error e-> ∀u' h',kG (λb=>b=rb) u h u' h'->KP (gu e) h')/\
 (∀l q,pI bad [] (L.drop i)= .ok (l,q)-> ∀u' h' w i',kG (λb=>b=rb) u h u' h'->yU u' h' rb sl L bad i'->L.drop i'=q->mr h.size u' h' w l->K w h')
def ahk:mG:=λf vs h K KP=>(f=83/\su vs h K KP)\/(f=122/\Kw vs h K)\/(f=84/\zR vs h KP)\/(f=123/\aaU vs h K KP)\/(f=110/\vw vs h KP)
theorem aaQ:nz Tryz.prog ahk:=by
 rintro f vs h K KP (⟨rfl,hC⟩|⟨rfl,hC⟩|⟨rfl,hC⟩|⟨rfl,hC⟩|⟨rfl,hC⟩)
 ·exact qp hC
 ·exact Qb hC
 ·exact wX hC
 ·exact aaW hC
 ·exact um hC
theorem XV(hC:VK vs h K KP):ma Tryz.prog 109 vs h K KP:=by
 obtain⟨u,rb,sl,L,bad,i,rfl,hR,hKE,hKO⟩:=hC
 refine kP 17217622029 [(none,(.t 2))] aaQ Tryz.func109 (by kernel_rfl) (by conv=>lhs;cbv;try simp only[mF]) ?_
 have hrb:rb<h.size:=hR.1.1
 have hLl:=hR.2.2.2
 obtain⟨R,hRR⟩: ∃R,pI bad [] (L.drop i)=R:=⟨_,rfl⟩
 rw[hRR]at hKE hKO
 simp(disch:=first|omega|simp only[zz];try omega;done) only[↓reduceIte,go_sem]
 obtain⟨I,hI⟩:=kJ (α:=Nat->lm->H->Prop) λj σ h'=> ∃(u':U) (w:Value) (acc:List lV),σ 0= .pointer (some ⟨rb,0,none⟩)/\σ 3=w/\kG (λb=>b=rb) u h u' h'/\yU u' h' rb sl L bad j/\mr h.size u' h' w acc/\acc.length<=16/\pI bad acc (L.drop j)=R
 refine kH I (λj=>L.length - j) i (by rw[hI];exact⟨u,_,[],by simp [kF],by simp [kF],kG.refl _ _ _,hR,.nil _ _ _,by simp,hRR⟩) ?_
 clear hRR
 intro j σ h' hy
 rw[hI]at hy
 obtain⟨u',w,acc,e0,e3,st,hRj,ow,hacc,hA⟩:=hy
 obtain⟨wa,wc,rfl,m1,m2⟩:=ow.sl
 have hz:=st.ge.sz
 have hwr: ∀b,kN (.slice wa acc.length wc) b->b≠rb:=λb q=>by have:=ow.ge q;omega
 by_cases h16:16<=acc.length
 ·simp(disch:=first|omega|simp only[zz];try omega;done) only[↓reduceIte,go_sem,e0,e3,af (show(16:Int)<=(acc.length:Nat) by omega)]
  refine kD (.inl ⟨rfl,u',rb,sl,L,bad,j,rfl,hRj,λu2 h2 s2=>⟨λhd=> ?_,λt r hd=>⟨kY,?_⟩⟩⟩)
  ·rw[hd,xg]at hA
   exact hKE _ hA.symm _ _ (st.tZ s2)
  have hR2:=hRj.sZ s2
  have st2:=st.tZ s2
  rw[hd]at hA
  simp only[lK]
  simp(disch:=first|omega|simp only[zz];try omega;done) only[↓reduceIte,go_sem,e3,af (show(16:Int)<=(acc.length:Nat) by omega)]
  refine kD (.inr (.inl ⟨rfl,t.1,rfl,⟨kY,?_⟩⟩))
  cases hb:EZ t.1 with
  |true=>
   rw[xU ⟨h16,VI hb⟩]at hA
   simp(disch:=first|omega|simp only[zz];try omega;done) only[↓reduceIte,go_sem,e0,e3,af (show(16:Int)<=(acc.length:Nat) by omega)]
   exact kD (.inr (.inr (.inl ⟨rfl,u2,rb,sl,L,bad,j,23,rfl,hR2,λu5 h5 s5=>⟨λq=>(uK hd q).elim,λt' r' hd'=>(by obtain⟨rfl,rfl⟩:=sj hd hd';exact hKE _ hA.symm _ _ (st2.tZ s5))⟩⟩)))
  |false=>
   obtain⟨e,he⟩:=GZ (bad:=bad) (l:=r) (show EZ (tK t)=false from hb)
   rw[vz (λq=>aaO hb q.2) he]at hA
   simp(disch:=first|omega|simp only[zz];try omega;done) only[↓reduceIte,go_sem,e0,e3,af (show(16:Int)<=(acc.length:Nat) by omega)]
   refine kD (.inr (.inr (.inr (.inl ⟨rfl,u2,rb,sl,L,bad,j,rfl,hR2,λe' he' u5 h5 s5=> ?_,λx q hx=> ?_⟩))))
   ·rw[hd,he]at he'
    cases he'
    exact hKE _ hA.symm _ _ (st2.trans s5 (λ_ _ q=>q))
   ·rw[hd,he]at hx
    cases hx
 ·have hnf: ∀k:Int,¬(16<=acc.length/\(k=10\/pO k true=true)):=λk q=>h16 q.1
  simp(disch:=first|omega|simp only[zz];try omega;done) only[↓reduceIte,go_sem,e0,e3,au (show¬(16:Int)<=(acc.length:Nat) by omega)]
  refine kD (.inr (.inr (.inr (.inl ⟨rfl,u',rb,sl,L,bad,j,rfl,hRj,λe he u2 h2 s2=> ?_,λx q hx u2 h2 w2 i2 s2 hR2 hd2 iw2=>⟨kY,?_⟩⟩))))
  ·refine hKE e ?_ _ _ (st.trans s2 (λ_ _ q=>q))
   rw[<-hA]
   cases hd:L.drop j with
   |nil=>rw[hd]at he;cases he;rw[xg]
   |cons t r=>rw[hd]at he;exact vz (hnf _) he
  cases hd:L.drop j with
  |nil=>rw[hd]at hx;cases hx
  |cons t r=>
  rw[hd]at hx hA
  rw[PT (hnf _) hx]at hA
  have hlen:=yY hx
  clear hx
  have ow2:=ow.step s2 (λb q q'=>hwr b q q')
  have st2:=st.trans s2 (λ_ _ q=>q)
  have hz2:=s2.ge.sz
  obtain⟨ya,yc,rfl,k1,k2⟩:=iw2.sl
  have hrep:Rep.rep u2 h2 x (nL x (.slice ya x.2.1.2.1.length yc)):=by rw[tQ];exact⟨_,rfl,iw2⟩
  simp only[nL]at hrep ⊢
  simp(disch:=first|omega|simp only[zz];try omega;done) only[↓reduceIte,go_sem,e3]
  refine kK (by simp only[]) ow2 (x:=x) hrep rfl rfl (by omega) (by omega) λa5 n5 c5 u5 h5 o5 s5 hO5=>⟨kY,?_⟩
  obtain⟨_,_,hme,m51,m52⟩:=o5.sl
  simp only[Value.slice.injEq]at hme
  obtain⟨rfl,rfl,rfl⟩:=hme
  obtain⟨ac2,hac2⟩:=kJ (acc++[x])
  have hl2:ac2.length=acc.length+1:=by rw[hac2];simp
  rw[<-hac2]at o5 hO5 m51 hA ⊢
  have hR5:=hR2.step s5 (λq=>hwr _ q rfl)
  have st5:=st2.trans s5 (λb hb q=>by have:=ow2.ge q;omega)
  have hn5: ∀b,kN (.slice a5 ac2.length c5) b->b≠rb:=λb q=>by have:=o5.ge q;omega
  simp(disch:=first|omega|simp only[zz];try omega;done) only[↓reduceIte,go_sem,e0]
  refine kD (.inl ⟨rfl,u5,rb,sl,L,bad,i2,rfl,hR5,λu6 h6 s6=>⟨λhd'=> ?_,λc r' hd'=>⟨kY,?_⟩⟩⟩)
  ·rw[hd2]at hd'
   subst hd'
   rw[Ko]at hA
   exact hKE _ hA.symm _ _ (st5.tZ s6)
  have hd2':=hd'
  rw[hd2]at hd'
  subst hd'
  rw[Ha]at hA
  obtain⟨hlt2,-,hd3⟩:=mI hd2'
  have hlt8:j<i2+1:=by
   have e1:(L.drop i2).length=r'.length+1:=by rw[hd2'];rfl
   have e2:(L.drop j).length=r.length+1:=by rw[hd];rfl
   rw[dL]at e1 e2
   simp only[aM]at hlen
   omega
  have hR6:=hR5.sZ s6
  have o6:=o5.sZ s6
  have st6:=st5.tZ s6
  have hRB6:=hR6.1
  have hRb6:=hRB6.1
  obtain⟨h7,hh7,s7,hR7⟩:=hR6.adv hlt2
  have o7:=o6.step s7 (λb q q'=>hn5 b q q')
  have st7:kG (λb=>b=rb) u h u6 h7:=st6.trans s7 (λb _ q=>q)
  simp only[lK]
  by_cases h7':c.1=7
  ·rw[ay (show tK c=7 from h7')]at hA
   simp(disch:=first|omega|simp only[zz];try omega;done) only[↓reduceIte,go_sem,af h7',e0,hRB6.at,hRB6.2.1,hRB6.2.2.1,<-hh7]
   refine⟨i2+1,?_,by omega⟩
   rw[hI]
   refine⟨u6,_,ac2,?_,?_,st7,hR7,o7,by omega,by rw[hd3];exact hA⟩<;>simp [kF,e0]
  rw[ah (show¬tK c=7 from h7')]at hA
  by_cases h8':c.1=8
  ·rw[ay (show tK c=8 from h8')]at hA
   simp(disch:=first|omega|simp only[zz];try omega;done) only[↓reduceIte,go_sem,au h7',af h8',e0,hRB6.at,hRB6.2.1,hRB6.2.2.1,<-hh7]
   exact hKO _ _ hA.symm _ _ _ _ st7 hR7 hd3 o7
  ·rw[ah (show¬tK c=8 from h8')]at hA
   simp(disch:=first|omega|simp only[zz];try omega;done) only[↓reduceIte,go_sem,au h7',au h8',e0]
   exact kD (.inr (.inr (.inr (.inr ⟨rfl,u6,rb,sl,L,bad,i2,rfl,hR6,λu8 h8 s8=>⟨λq=>(uK hd2' q).elim,λt' r' hd'=>(by obtain⟨rfl,rfl⟩:=sj hd2' hd';exact hKE _ hA.symm _ _ (st6.tZ s8))⟩⟩))))
def Kq(vs:List Value)(h:H)(K:Value->H->Prop)(KP:List PanicEntry->H->Prop):Prop:= ∃(u:U) (rb:Nat) (sl:Value) (L:List Tok) (bad:nI) (i:Nat),vs=[.pointer (some ⟨rb,0,none⟩)]/\yU u h rb sl L bad i/\
 (∀e,nQ bad (L.drop i)= .error e-> ∀u' h',kG (λb=>b=rb) u h u' h'->KP (gu e) h')/\
 (∀x q,nQ bad (L.drop i)= .ok (x,q)-> ∀u' h' v w i',kG (λb=>b=rb) u h u' h'->yU u' h' rb sl L bad i'->L.drop i'=q->kM u' h' v x.1.2.1->kM u' h' w x.2->K (.agg #[str x.1.1,v,.int .i64 x.1.2.2,w]) h')
def ahl:mG:=λf vs h K KP=>(f=83/\su vs h K KP)\/(f=92/\FF vs h K KP)\/(f=109/\VK vs h K KP)\/(f=110/\vw vs h KP)
theorem aaR:nz Tryz.prog ahl:=by
 rintro f vs h K KP (⟨rfl,hC⟩|⟨rfl,hC⟩|⟨rfl,hC⟩|⟨rfl,hC⟩)
 ·exact qp hC
 ·exact Du hC
 ·exact XV hC
 ·exact um hC
theorem Qa(hC:Kq vs h K KP):ma Tryz.prog 85 vs h K KP:=by
 obtain⟨u,rb,sl,L,bad,i,rfl,hR,hKE,hKO⟩:=hC
 refine kP 2101773 [((some (.c1 (.ldn 4) (.t 2))),(.o1 (.ldn 4) (.t 2)))] aaR Tryz.func85 (by kernel_rfl) (by conv=>lhs;cbv;try simp only[mF]) ?_
 have s1:=kG.qZ S0 u h #[str [],.slice none 0 0,.int .i64 0,.slice none 0 0] 147
 have B1:=kV.new (u:=u) (h:=h) [str [],.slice none 0 0,.int .i64 0,.slice none 0 0] 147
 obtain⟨h1,hh1⟩:=kJ (h.push (.cells #[str [],.slice none 0 0,.int .i64 0,.slice none 0 0] 147))
 obtain⟨u1,hu1⟩:=kJ (ub u h.size 0)
 have B1':kV u1 h1 h.size [str [],.slice none 0 0,.int .i64 0,.slice none 0 0]:=by rw[hu1,hh1];exact B1
 rw[<-hh1,<-hu1]at s1
 clear B1
 have hR1:=hR.sZ s1
 have hrb:rb<h.size:=hR.1.1
 have hLl:=hR.2.2.2
 have hne1:h.size≠rb:=by omega
 have st1:kG (λb=>b=rb) u h u1 h1:=s1.mono (λ_ _ q=>q.elim)
 simp(disch:=first|omega|simp only[zz];try omega;done) only[↓reduceIte,go_sem,<-hh1]
 refine kD (.inr (.inl ⟨rfl,u1,rb,sl,L,bad,i,true,rfl,hR1,λe he u2 h2 s2=> ?_,λa q ha u2 h2 w2 i2 s2 hR2 hd2 ow2=>⟨kY,?_⟩⟩))
 ·exact hKE _ (yT he) _ _ (st1.trans s2 (λ_ _ q=>q))
 rw[Hd ha]at hKE hKO
 have iw2:=ow2.iZ
 obtain⟨wa,wc,rfl,m1,m2⟩:=ow2.sl
 have B12:=B1'.step s2 hne1
 have hz2:=s2.ge.sz
 have hz1:=B1'.1
 obtain⟨h3,h4,u4,hh3,hh4,B3,B4,s4,hz4⟩:=kZ u2 h2 [str [],.slice none 0 0,.int .i64 0,.slice none 0 0] [str a.1,.slice wa a.2.1.length wc,.int .i64 a.2.2,.slice none 0 0] 147 rfl
 have B14:=B12.sZ s4
 have hR4:=hR2.sZ s4
 have iw4:=iw2.mono s4.ge
 have st4:=(st1.trans s2 (λ_ _ q=>q)).tZ s4
 have B31:=B3.1
 have B41:=B4.1
 have hne2:h2.size≠rb:=by omega
 simp(disch:=first|omega|simp only[zz];try omega;done) only[↓reduceIte,go_sem,<-hh3,<-hh4,B3.2.1,B3.2.2.1]
 refine kD (.inl ⟨rfl,u4,rb,sl,L,bad,i2,rfl,hR4,λu5 h5 s5=>⟨λhd=> ?_,λc r hd=>⟨kY,?_⟩⟩⟩)
 ·rw[hd2]at hd
  subst hd
  exact hKE _ rfl _ _ (st4.tZ s5)
 have hd':=hd
 rw[hd2]at hd
 subst hd
 obtain⟨hlt,-,hd3⟩:=mI hd'
 have hR5:=hR4.sZ s5
 have B15:=B14.sZ s5
 have B45:=B4.sZ s5
 have iw5:=iw4.mono s5.ge
 have st5:=st4.tZ s5
 have hRB5:=hR5.1
 have hRb5:=hRB5.1
 obtain⟨h6,hh6,s6,hR6⟩:=hR5.adv hlt
 have B16:=B15.step s6 hne1
 have B46:=B45.step s6 hne2
 have iw6:=iw5.mono s6.ge
 have st6:kG (λb=>b=rb) u h u5 h6:=st5.trans s6 (λ_ _ q=>q)
 have B161:=B16.1
 have B461:=B46.1
 simp only[lK]
 by_cases h8:c.1=8
 ·have w:=B16.sets (l:=[str a.1,.slice wa a.2.1.length wc,.int .i64 a.2.2,.slice none 0 0]) rfl
  have s7:=st6.rZ (b:=h.size) (o:=0) (l:=[str a.1,.slice wa a.2.1.length wc,.int .i64 a.2.2,.slice none 0 0]) (.inl (aH _)) (by rw[B16.2.2.2.1];exact az _) (by rw[B16.2.1];exact aH _)
  have s67:=kG.sets (S:=λb=>b=h.size) u5 h6 (b:=h.size) (o:=0) [str a.1,.slice wa a.2.1.length wc,.int .i64 a.2.2,.slice none 0 0] rfl (by rw[B16.2.2.2.1];exact az _) (by rw[B16.2.1];exact aH _)
  have hK':=hKO _ _ (VJ (show tK c=8 from h8)) _ _ _ (.slice none 0 0) _ s7 (hR6.step s67 (λq=>hne1 q.symm)) hd3 (iw6.mono s67.ge) (.nil _ _)
  simp(disch:=first|omega|simp only[zz];try omega;done) only[↓reduceIte,go_sem,af h8,hRB5.at,hRB5.2.1,hRB5.2.2.1,<-hh6,B46.at,B46.2.1,B16.2.1,B16.2.2.1,w.at,w.2.1]
  exact hK'
 by_cases h9:c.1=9
 ·simp(disch:=first|omega|simp only[zz];try omega;done) only[↓reduceIte,go_sem,au h8,af h9,hRB5.at,hRB5.2.1,hRB5.2.2.1,<-hh6]
  refine kD (.inr (.inr (.inl ⟨rfl,u5,rb,sl,L,bad,i2+1,rfl,hR6,λe he u7 h7 s7=> ?_,λb q hb u7 h7 w7 i7 s7 hR7 hd7 ow7=>⟨kY,?_⟩⟩)))
  ·rw[hd3]at he
   exact hKE _ (PV h9 he) _ _ (st6.trans s7 (λ_ _ q=>q))
  rw[hd3]at hb
  have B17:=B16.step s7 hne1
  have B47:=B46.step s7 hne2
  have iw7:=iw6.mono s7.ge
  have ib7:=ow7.iZ
  have st7:=st6.trans s7 (λ_ _ q=>q)
  obtain⟨ba,bc,rfl,n1,n2⟩:=ow7.sl
  have B471:=B47.1
  have B48:=B47.set (i:=3) (v:= .slice ba b.length bc) (by simp)
  have s8:=kG.set (S:=λb=>b=h2.size) u7 h7 (b:=h2.size) (o:=3) (.slice ba b.length bc) rfl (by rw[B47.2.2.2.1];exact az _)
  obtain⟨h8',hh8⟩:=kJ (lh h7 h2.size 3 (.slice ba b.length bc))
  rw[<-hh8]at B48 s8
  simp only[cZ,bP]at B48
  have hR8:=hR7.step s8 (λq=>hne2 q.symm)
  have B18:=B17.step s8 (by omega)
  have st8:=st7.trans s8 (λb hb q=>by omega)
  have B481:=B48.1
  have B181:=B18.1
  have w:=B18.sets (l:=[str a.1,.slice wa a.2.1.length wc,.int .i64 a.2.2,.slice ba b.length bc]) rfl
  have s9:=st8.rZ (b:=h.size) (o:=0) (l:=[str a.1,.slice wa a.2.1.length wc,.int .i64 a.2.2,.slice ba b.length bc]) (.inl (aH _)) (by rw[B18.2.2.2.1];exact az _) (by rw[B18.2.1];exact aH _)
  have s89:=kG.sets (S:=λb=>b=h.size) u7 h8' (b:=h.size) (o:=0) [str a.1,.slice wa a.2.1.length wc,.int .i64 a.2.2,.slice ba b.length bc] rfl (by rw[B18.2.2.2.1];exact az _) (by rw[B18.2.1];exact aH _)
  have hK':=hKO _ _ (PW (show tK c=9 from h9) hb) _ _ _ _ _ s9 (hR8.step s89 (λq=>hne1 q.symm)) hd7 ((iw7.mono s8.ge).mono s89.ge) ((ib7.mono s8.ge).mono s89.ge)
  simp(disch:=first|omega|simp only[zz];try omega;done) only[↓reduceIte,go_sem,B47.2.1,B47.2.2.1,<-hh8,B48.at,B48.2.1,B18.2.1,B18.2.2.1,w.at,w.2.1]
  exact hK'
 ·simp(disch:=first|omega|simp only[zz];try omega;done) only[↓reduceIte,go_sem,au h8,au h9]
  exact kD (.inr (.inr (.inr ⟨rfl,u5,rb,sl,L,bad,i2,rfl,hR5,λu8 hx8 s8=>⟨λq=>(uK hd' q).elim,λt' r' hd''=>(by obtain⟨rfl,rfl⟩:=sj hd' hd'';exact hKE _ (PZ h8 h9) _ _ (st5.tZ s8))⟩⟩)))
end Go.Proofs.Z
namespace Edict
variable {acc:List kX} {bad:nI} {l:List Tok} {t:Tok}
theorem Kk:oJ bad acc []= .error bad:=by unfold oJ;exact Hr
theorem Kl(h:tK t=0):oJ bad acc (t::l)= .ok acc:=by unfold oJ;exact Ht h
theorem GY(h0:tK t≠0)(h:512<=acc.length/\tK t=1):oJ bad acc (t::l)= .error (vT 24 t):=by unfold oJ;exact Dx h0 h
theorem Dq{e:nI}(h0:tK t≠0)(h: ¬(512<=acc.length/\tK t=1))(he:nQ bad (t::l)= .error e):oJ bad acc (t::l)= .error e:=by unfold oJ;exact Hu h0 h he
theorem PQ{x:kX}{q:List Tok}(h0:tK t≠0)(h: ¬(512<=acc.length/\tK t=1))(he:nQ bad (t::l)= .ok (x,q)):oJ bad acc (t::l)=oJ bad (acc++[x]) q:=by unfold oJ;exact MO h0 h he
theorem aaK(bad:nI)(l:List Tok)(hg:nk l bad)(e:nI)(h:oJ bad [] l= .error e):e.1≠0:=((KA hg).1 e h).2
end Edict
namespace Go.Proofs.Z
open Go Go.Ev Edict
variable {vs:List Value} {h:H} {K:Value->H->Prop} {KP:List PanicEntry->H->Prop}
def PS(vs:List Value)(h:H)(K:Value->H->Prop)(KP:List PanicEntry->H->Prop):Prop:= ∃(u:U) (rb xb:Nat) (sl:Value) (L:List Tok) (bad:nI),vs=[.pointer (some ⟨rb,0,none⟩),.pointer (some ⟨xb,0,none⟩)]/\yU u h rb sl L bad 0/\kV u h xb [.slice none 0 0]/\xb≠rb/\
 (∀e,oJ bad [] L= .error e-> ∀u' h',kG (λb=>b=rb\/b=xb) u h u' h'->KP (gu e) h')/\
 (∀l,oJ bad [] L= .ok l-> ∀u' h' w v,kG (λb=>b=rb\/b=xb) u h u' h'->kV u' h' xb [w]->mr h.size u' h' w l->K v h')
def afV:mG:=λf vs h K KP=>(f=83/\su vs h K KP)\/(f=84/\zR vs h KP)\/(f=85/\Kq vs h K KP)
theorem XU:nz Tryz.prog afV:=by
 rintro f vs h K KP (⟨rfl,hC⟩|⟨rfl,hC⟩|⟨rfl,hC⟩)
 ·exact qp hC
 ·exact wX hC
 ·exact Qa hC
theorem Jt(hC:PS vs h K KP):ma Tryz.prog 82 vs h K KP:=by
 obtain⟨u,rb,xb,sl,L,bad,rfl,hR,hX,hxr,hKE,hKO⟩:=hC
 refine kP 65603 [] XU Tryz.func82 (by kernel_rfl) (by conv=>lhs;cbv;try simp only[mF]) ?_
 have hrb:=hR.1.1
 have hxb:=hX.1
 have hLl:=hR.2.2.2
 have up: ∀{u1:U} {h1:H} {u':U} {h':H},kG (λb=>b=rb) u1 h1 u' h'->kG (λb=>b=rb\/b=xb) u1 h1 u' h':=λs=>s.mono (λ_ _ q=> .inl q)
 obtain⟨R,hRR⟩: ∃R,oJ bad [] L=R:=⟨_,rfl⟩
 rw[hRR]at hKE hKO
 simp(disch:=first|omega|simp only[zz];try omega;done) only[↓reduceIte,go_sem]
 obtain⟨I,hI⟩:=kJ (α:=Nat->lm->H->Prop) λj σ h'=> ∃(u':U) (w:Value) (acc:List kX),σ 0= .pointer (some ⟨rb,0,none⟩)/\σ 1= .pointer (some ⟨xb,0,none⟩)/\kG (λb=>b=rb\/b=xb) u h u' h'/\yU u' h' rb sl L bad j/\kV u' h' xb [w]/\mr h.size u' h' w acc/\acc.length<=512/\oJ bad acc (L.drop j)=R
 refine kH I (λj=>L.length - j) 0 (by rw[hI];exact⟨u,_,[],by simp [kF],by simp [kF],kG.refl _ _ _,hR,hX,.nil _ _ _,by simp,by rw[eU];exact hRR⟩) ?_
 clear hRR
 intro j σ h' hy
 rw[hI]at hy
 obtain⟨u',w,acc,e0,e1,st,hRj,X,ow,hacc,hA⟩:=hy
 obtain⟨wa,wc,rfl,m1,m2⟩:=ow.sl
 have hX1:=X.1
 have hz:=st.ge.sz
 simp(disch:=first|omega|simp only[zz];try omega;done) only[↓reduceIte,go_sem,e0]
 refine kD (.inl ⟨rfl,u',rb,sl,L,bad,j,rfl,hRj,λu2 h2 s2=>⟨λhd=> ?_,λt r hd=>⟨kY,?_⟩⟩⟩)
 ·rw[hd,Kk]at hA
  exact hKE _ hA.symm _ _ (st.tZ s2)
 have hR2:=hRj.sZ s2
 have X2:=X.sZ s2
 have ow2:=ow.sZ s2
 have st2:=st.tZ s2
 have hX2:=X2.1
 rw[hd]at hA
 simp only[lK]
 by_cases h0:t.1=0
 ·rw[Kl (show tK t=0 from h0)]at hA
  simp(disch:=first|omega|simp only[zz];try omega;done) only[↓reduceIte,go_sem,af h0]
  exact hKO _ hA.symm _ _ _ _ st2 X2 ow2
 have h0':tK t≠0:=h0
 have hwr: ∀b,kN (.slice wa acc.length wc) b->b≠rb/\b≠xb:=λb q=>by have:=ow.ge q;omega
 by_cases hfull:512<=acc.length
 ·simp(disch:=first|omega|simp only[zz];try omega;done) only[↓reduceIte,go_sem,au h0,e0,e1,X2.at,X2.2.1,af (show(512:Int)<=(acc.length:Nat) by omega)]
  refine kD (.inl ⟨rfl,u2,rb,sl,L,bad,j,rfl,hR2,λu3 h3 s3=>⟨λq=>(uK hd q).elim,λt' r' hd'=>⟨kY,?_⟩⟩⟩)
  obtain⟨rfl,rfl⟩:=sj hd hd'
  have hR3:=hR2.sZ s3
  have st3:=st2.tZ s3
  have X3:=X2.sZ s3
  have hX3:=X3.1
  simp only[lK]
  by_cases h1:t.1=1
  ·rw[GY h0' ⟨hfull,h1⟩]at hA
   simp(disch:=first|omega|simp only[zz];try omega;done) only[↓reduceIte,go_sem,af h1,e0]
   exact kD (.inr (.inl ⟨rfl,u3,rb,sl,L,bad,j,24,rfl,hR3,λu5 h5 s5=>⟨λq=>(uK hd q).elim,λt' r' hd'=>(by obtain⟨rfl,rfl⟩:=sj hd hd';exact hKE _ hA.symm _ _ (st3.tZ s5))⟩⟩))
  ·obtain⟨e,he⟩: ∃e,nQ bad (t::r)= .error e:=⟨_,yT (ru (show tK t≠1 from h1))⟩
   rw[Dq h0' (λq=>h1 q.2) he]at hA
   simp(disch:=first|omega|simp only[zz];try omega;done) only[↓reduceIte,go_sem,au h1,e0,e1,X3.at,X3.2.1]
   refine kD (.inr (.inr ⟨rfl,u3,rb,sl,L,bad,j,rfl,hR3,λe' he' u5 h5 s5=> ?_,λx q hx=> ?_⟩))
   ·rw[hd,he]at he'
    cases he'
    exact hKE _ hA.symm _ _ (st3.trans (up s5) (λ_ _ q=>q))
   ·rw[hd,he]at hx
    cases hx
 ·have hnf: ¬(512<=acc.length/\tK t=1):=λq=>hfull q.1
  simp(disch:=first|omega|simp only[zz];try omega;done) only[↓reduceIte,go_sem,au h0,e0,e1,X2.at,X2.2.1,au (show¬(512:Int)<=(acc.length:Nat) by omega)]
  refine kD (.inr (.inr ⟨rfl,u2,rb,sl,L,bad,j,rfl,hR2,λe he u5 h5 s5=> ?_,λa q ha u3 h3 v3 w3 i3 s3 hR3 hd3 iv3 iw3=> ?_⟩))
  ·rw[hd]at he
   rw[Dq h0' hnf he]at hA
   exact hKE _ hA.symm _ _ (st2.trans (up s5) (λ_ _ q=>q))
  rw[hd]at ha
  have hlen3:=vU ha
  rw[PQ h0' hnf ha]at hA
  clear ha
  have X3:=X2.step s3 hxr
  have ow3:=ow2.step s3 (λb q q'=>(hwr b q).1 q')
  have st3:=st2.trans (up s3) (λ_ _ q=>q)
  have hX3:=X3.1
  have hz3:=st3.ge.sz
  have hrep:Rep.rep u3 h3 a [str a.1.1,v3,.int .i64 a.1.2.2,w3]:=by rw[rE];exact⟨_,_,rfl,iv3,iw3⟩
  obtain⟨v3a,v3c,rfl,k1,k2⟩:=iv3.sl
  obtain⟨w3a,w3c,rfl,k3,k4⟩:=iw3.sl
  refine⟨by simp(disch:=first|omega|simp only[zz];try omega;done) only[↓reduceIte,go_sem,e1,X2.at,X3.at,X3.2.1],?_⟩
  have X3':kV (ub u3 h3.size 0) (h3.push (.cells #[str a.1.1,.slice v3a a.1.2.1.length v3c,.int .i64 a.1.2.2,.slice w3a a.2.length w3c] 147)) xb [.slice wa acc.length wc]:=X3.sZ (kG.qZ S0 u3 h3 _ _)
  simp(disch:=first|omega|simp only[zz];try omega;done) only[↓reduceIte,go_sem,e1,X3.at,X3.2.1]
  refine kK (by simp only[]) ow3 (x:=a) hrep rfl rfl (by omega) (by omega) λa5 n5 c5 u5 h5 o5 s5 hO5=>⟨kY,?_⟩
  obtain⟨_,_,hme,m51,m52⟩:=o5.sl
  simp only[Value.slice.injEq]at hme
  obtain⟨rfl,rfl,rfl⟩:=hme
  obtain⟨ac2,hac2⟩:=kJ (acc++[a])
  have hl2:ac2.length=acc.length+1:=by rw[hac2];simp
  rw[<-hac2]at o5 hO5 m51 hA ⊢
  have X5:=X3.step s5 (λq=>(hwr _ q).2 rfl)
  have hR5:=hR3.step s5 (λq=>(hwr _ q).1 rfl)
  have hX5:=X5.1
  have X6:=X5.set (i:=0) (v:= .slice a5 ac2.length c5) (by simp)
  have s6:=kG.set (S:=λb=>b=xb) u5 h5 (b:=xb) (o:=0) (.slice a5 ac2.length c5) rfl (by rw[X5.2.2.2.1];exact az _)
  obtain⟨h6,hh6⟩:=kJ (lh h5 xb 0 (.slice a5 ac2.length c5))
  rw[<-hh6]at X6 s6
  simp only[bP]at X6
  have o6:=o5.step s6 (λb q q'=>by have:=o5.ge q;omega)
  have hR6:=hR5.step s6 (λq=>hxr q.symm)
  have st6:=(st3.trans s5 (λb hb q=>by have:=ow3.ge q;omega)).trans s6 (λb _ q=> .inr q)
  have hlt8:j<i3:=by
   have hi3:i3<=L.length:=hR3.2.1
   have e1:(L.drop i3).length=q.length:=by rw[hd3]
   have e2:(L.drop j).length=r.length+1:=by rw[hd];rfl
   rw[dL]at e1 e2
   simp only[aM]at hlen3
   omega
  simp(disch:=first|omega|simp only[zz];try omega;done) only[↓reduceIte,go_sem,X5.2.1,X5.2.2.1,<-hh6,e1]
  refine⟨i3,?_,by have:=hR3.2.1;omega⟩
  rw[hI]
  refine⟨u5,_,ac2,?_,?_,st6,hR6,X6,o6,by omega,by rw[hd3];exact hA⟩<;>simp [kF,e0,e1]
def aeu:S:=sF (sS (sS uo))
def aaL:S:=sS (sS (sS uo))
theorem aaM:uo= .seq (sF uo) (.seq (sF (sS uo)) (.seq aeu aaL)):=rfl
def TN(vs:List Value)(h:H)(K:Value->H->Prop):Prop:= ∃(u:U) (src:List UInt8),vs=[str src]/\src.length<=9223372036854775807/\Kg u h/\
 (∀e,nO (λb l=>oJ b [] l) src= .error e-> ∀u' h',kG S0 u h u' h'->K (.tuple #[.agg #[.slice none 0 0],vM e]) h')/\
 (∀a,nO (λb l=>oJ b [] l) src= .ok a-> ∀u' h' w,kG S0 u h u' h'->mr h.size u' h' w a->K (.tuple #[.agg #[w],vM (0,0)]) h')
def Km:mG:=λf vs h K KP=>f=81/\Dt vs h K
theorem aaN:nz Tryz.prog Km:=by
 rintro f vs h K KP ⟨rfl,hC⟩;exact Ck hC
theorem MK(hC:TN vs h K):ma Tryz.prog 51 vs h K KP:=by
 obtain⟨u,src,rfl,hl,hG,hKE,hKO⟩:=hC
 refine kP 2109 [((some (.c1 (.ldn 1) (.t 2))),(.o1 (.ldn 1) (.t 2))),((some (.c1 (.ldn 3) (.t 3))),(.o1 (.ldn 3) (.t 3)))] aaN Tryz.func51 (s:=uo) (by kernel_rfl) (by kernel_rfl) ?_
 have s1:=kG.qZ S0 u h #[.slice none 0 0] 87
 have B1:=kV.new (u:=u) (h:=h) [.slice none 0 0] 87
 obtain⟨h1,hh1⟩:=kJ (h.push (.cells #[.slice none 0 0] 87))
 obtain⟨u1,hu1⟩:=kJ (ub u h.size 0)
 have B1':kV u1 h1 h.size [.slice none 0 0]:=by rw[hu1,hh1];exact B1
 rw[<-hh1,<-hu1]at s1
 clear B1
 have s2:=kG.qZ S0 u1 h1 #[.int .i64 0,.int .i64 0,.int .i64 0] 44
 have B2:=kV.new (u:=u1) (h:=h1) [.int .i64 0,.int .i64 0,.int .i64 0] 44
 obtain⟨h2,hh2⟩:=kJ (h1.push (.cells #[.int .i64 0,.int .i64 0,.int .i64 0] 44))
 obtain⟨u2,hu2⟩:=kJ (ub u1 h1.size 0)
 have B2':kV u2 h2 h1.size [.int .i64 0,.int .i64 0,.int .i64 0]:=by rw[hu2,hh2];exact B2
 rw[<-hh2,<-hu2]at s2
 clear B2
 have s3:=kG.qZ S0 u2 h2 #[.slice none 0 0] 87
 have B3:=kV.new (u:=u2) (h:=h2) [.slice none 0 0] 87
 obtain⟨h3,hh3⟩:=kJ (h2.push (.cells #[.slice none 0 0] 87))
 obtain⟨u3,hu3⟩:=kJ (ub u2 h2.size 0)
 have B3':kV u3 h3 h2.size [.slice none 0 0]:=by rw[hu3,hh3];exact B3
 rw[<-hh3,<-hu3]at s3
 clear B3
 have z1:h1.size=h.size+1:=by rw[hh1];simp
 have z2:h2.size=h1.size+1:=by rw[hh2];simp
 have z3:h3.size=h2.size+1:=by rw[hh3];simp
 have st3:=(s1.tZ s2).tZ s3
 have A1:=(B1'.sZ s2).sZ s3
 have A2:=B2'.sZ s3
 obtain⟨T,hT⟩: ∃T:nI->U->H->Prop,T=λf uE h'=>kG S0 u h uE h'/\kV uE h' h.size [.slice none 0 0]/\kV uE h' h1.size [.int .i64 0,.int .i64 0,.int .i64 0]/\h2.size<h'.size/\
  ((f.1≠0/\nO (λb l=>oJ b [] l) src= .error f)\/(f=(0,0)/\ ∃(a:List kX) (w:Value),nO (λb l=>oJ b [] l) src= .ok a/\kV uE h' h2.size [w]/\mr h3.size uE h' w a)):=⟨_,rfl⟩
 obtain⟨M,hM⟩:=kJ (α:=lm->H->Prop) λσ' h'=> ∃(f:nI) (uE:U) (b5:Nat),σ' 2= .pointer (some ⟨h.size,0,none⟩)/\σ' 3= .pointer (some ⟨h1.size,0,none⟩)/\σ' 4= .pointer (some ⟨h2.size,0,none⟩)/\σ' 5= .pointer (some ⟨b5,0,none⟩)/\T f uE h'/\kV uE h' b5 [.int .i64 f.1,.int .i64 0,.int .i64 f.2]/\h2.size<b5
 rw[aaM]
 simp(disch:=first|omega|simp only[zz];try omega;done) only[↓reduceIte,go_sem,sF,sS,uo,<-hh1,<-hh2,<-hh3]
 have cut: ∀(A B:S) (Q:qm) (σ:lm) (h:H),(∀R:lm->H->Prop,(∀σ' h',M σ' h'->R σ' h')->wpS Km A (Ak R Q) σ h)->(∀σ' h',M σ' h'->wpS Km B Q σ' h')->wpS Km A (Ak (wpS Km B Q) Q) σ h:=λA B Q σ h k1 k2=>k1 _ k2
 refine cut _ _ _ _ _ ?_ ?_
 ·intro R hR
  have fin: ∀(f:nI) (uE:U) (hE:H) (σ0:lm) (Q:qm) (KPx:List PanicEntry->H->Prop),σ0 2= .pointer (some ⟨h.size,0,none⟩)->σ0 3= .pointer (some ⟨h1.size,0,none⟩)->σ0 4= .pointer (some ⟨h2.size,0,none⟩)->T f uE hE->
    mf Km [St.eff [] (some 5) (F.alloc 44 #[.int .i64 0,.int .i64 0,.int .i64 0]) [] [],St.eff [] none (F.store 3) [E.t 5,E.t 8] []] (Ak R Q Exit.normal) KPx (qU σ0 (some 8) (vM f)) hE:=by
   intro f uE hE σ0 Q KPx e2 e3 e4 hTf
   obtain⟨h5,h6,u6,hh5,hh6,B5,B6,s6,hz6⟩:=kZ uE hE [.int .i64 0,.int .i64 0,.int .i64 0] [.int .i64 f.1,.int .i64 0,.int .i64 f.2] 44 rfl
   rw[hT]at hTf
   obtain⟨st,A1',A2',hz,hres⟩:=hTf
   have B51:=B5.1
   simp only[vM]
   simp(disch:=first|omega|simp only[zz];try omega;done) only[↓reduceIte,go_sem,<-hh5,<-hh6,B5.2.1,B5.2.2.1]
   apply hR
   rw[hM,hT]
   refine⟨f,u6,hE.size,by simp [kF,e2],by simp [kF,e3],by simp [kF,e4],by simp [kF],⟨st.tZ s6,A1'.sZ s6,A2'.sZ s6,by omega,?_⟩,B6,hz⟩
   rcases hres with q|⟨q,a,w,q1,q2,q3⟩
   ·exact .inl q
   ·exact .inr ⟨q,a,w,q1,q2.sZ s6,q3.sZ s6⟩
  simp(disch:=first|omega|simp only[zz];try omega;done) only[↓reduceIte,go_sem,aeu,sF,sS,uo]
  refine kD ⟨rfl,u3,src,82,[.pointer (some ⟨h2.size,0,none⟩)],λb=>b=h2.size,rfl,hl,hG.mono st3.ge,λb q=>(by omega),λhlong u4 h4 s4=>⟨kY,?_⟩,λhshort u4 h4 rb fb sl s4 hrb hfb wH hfl hRd=> ?_⟩
  ·refine fin (1,0) u4 h4 _ _ _ (by simp [kF]) (by simp [kF]) (by simp [kF]) ?_
   rw[hT]
   exact⟨st3.tZ s4,A1.sZ s4,A2.sZ s4,by have:=s4.ge.sz;omega,.inl ⟨(show(1:Int)≠0 by decide),by unfold nO;rw[ay hlong]⟩⟩
  ·have hpf:nO (λb l=>oJ b [] l) src=(λb l=>oJ b [] l) (Cj src) (lZ src).1:=by unfold nO;rw[ah (by omega)]
   refine Jt ⟨u4,rb,h2.size,sl,_,_,rfl,hRd,B3'.sZ s4,by omega,λe he u5 h5 s5=>⟨u5,e,rfl,s5.mono (λb _ q=>q),λu6 h6 s6=>⟨kY,?_⟩⟩,λa ha u5 h5 w v s5 hX ow=>⟨u5,s5.mono (λb _ q=>q),λu6 h6 s6=>⟨kY,?_⟩⟩⟩
   ·refine fin e u6 h6 _ _ _ (by simp [kF]) (by simp [kF]) (by simp [kF]) ?_
    rw[hT]
    exact⟨((st3.tZ s4).trans s5 (λb hb q=>by omega)).trans s6 (λb hb q=>by omega),((A1.sZ s4).step s5 (by omega)).step s6 (by omega),((A2.sZ s4).step s5 (by omega)).step s6 (by omega),by have:=s4.ge.sz;have:=s5.ge.sz;have:=s6.ge.sz;omega,.inl ⟨aaK _ _ (wV hshort) e he,by rw[hpf];exact he⟩⟩
   ·refine fin (0,0) u6 h6 _ _ _ (by simp [kF]) (by simp [kF]) (by simp [kF]) ?_
    rw[hT]
    have hz4:=s4.ge.sz
    exact⟨((st3.tZ s4).trans s5 (λb hb q=>by omega)).trans s6 (λb hb q=>by omega),((A1.sZ s4).step s5 (by omega)).step s6 (by omega),((A2.sZ s4).step s5 (by omega)).step s6 (by omega),by have:=s5.ge.sz;have:=s6.ge.sz;omega,.inr ⟨rfl,a,w,by rw[hpf];exact ha,hX.step s6 (by omega),(ow.step s6 (λb q q'=>by have:=ow.ge q;omega)).mono hz4⟩⟩
 ·intro σ' h' hm
  rw[hM]at hm
  obtain⟨f,uE,b5,e2,e3,e4,e5,hTf,A5,hb5⟩:=hm
  rw[hT]at hTf
  obtain⟨st,A1',A2',hz,hres⟩:=hTf
  have A11:=A1'.1
  have A21:=A2'.1
  have A51:=A5.1
  rcases hres with⟨hf,hp⟩|⟨rfl,a,w,hp,X,ow⟩
  ·skip
   have A17:=A1'.sets (l:=[.slice none 0 0]) rfl
   have s7:=kG.sets (S:=λb=>b=h.size) uE h' (b:=h.size) (o:=0) [.slice none 0 0] rfl (by rw[A1'.2.2.2.1];exact az _) (by rw[A1'.2.1];exact aH _)
   obtain⟨h7,hh7⟩:=kJ (kU h' h.size 0 [.slice none 0 0])
   rw[<-hh7]at A17 s7
   have A27:=A2'.step s7 (by omega)
   have A57:=A5.step s7 (by omega)
   have A28:=A27.sets (l:=[.int .i64 f.1,.int .i64 0,.int .i64 f.2]) rfl
   have s8:=kG.sets (S:=λb=>b=h1.size) uE h7 (b:=h1.size) (o:=0) [.int .i64 f.1,.int .i64 0,.int .i64 f.2] rfl (by rw[A27.2.2.2.1];exact az _) (by rw[A27.2.1];exact aH _)
   obtain⟨h8,hh8⟩:=kJ (kU h7 h1.size 0 [.int .i64 f.1,.int .i64 0,.int .i64 f.2])
   rw[<-hh8]at A28 s8
   have A18:=A17.step s8 (by omega)
   have st8:=(st.trans s7 (λb hb q=>by omega)).trans s8 (λb hb q=>by omega)
   have A181:=A18.1
   have A281:=A28.1
   have A571:=A57.1
   have A271:=A27.1
   simp(disch:=first|omega|simp only[zz];try omega;done) only[↓reduceIte,go_sem,aaL,sS,uo,e2,e3,e5,A5.at,A5.2.1,hf,A1'.2.1,A1'.2.2.1,<-hh7,A57.at,A57.2.1,A27.2.1,A27.2.2.1,<-hh8,A18.at,A18.2.1,A28.at,A28.2.1]
   exact hKE f hp _ _ st8
  ·have X1:=X.1
   have A17:=A1'.sets (l:=[w]) rfl
   have s7:=kG.sets (S:=λb=>b=h.size) uE h' (b:=h.size) (o:=0) [w] rfl (by rw[A1'.2.2.2.1];exact az _) (by rw[A1'.2.1];exact aH _)
   obtain⟨h7,hh7⟩:=kJ (kU h' h.size 0 [w])
   rw[<-hh7]at A17 s7
   have A27:=A2'.step s7 (by omega)
   have A57:=A5.step s7 (by omega)
   have A28:=A27.sets (l:=[.int .i64 0,.int .i64 0,.int .i64 0]) rfl
   have s8:=kG.sets (S:=λb=>b=h1.size) uE h7 (b:=h1.size) (o:=0) [.int .i64 0,.int .i64 0,.int .i64 0] rfl (by rw[A27.2.2.2.1];exact az _) (by rw[A27.2.1];exact aH _)
   obtain⟨h8,hh8⟩:=kJ (kU h7 h1.size 0 [.int .i64 0,.int .i64 0,.int .i64 0])
   rw[<-hh8]at A28 s8
   have A18:=A17.step s8 (by omega)
   have st8:=(st.trans s7 (λb hb q=>by omega)).trans s8 (λb hb q=>by omega)
   have A181:=A18.1
   have A281:=A28.1
   have A571:=A57.1
   have A271:=A27.1
   have ow8:=(ow.step s7 (λb q q'=>by have:=ow.ge q;omega)).step s8 (λb q q'=>by have:=ow.ge q;omega)
   obtain⟨xa,xc,rfl,n1,n2⟩:=ow.sl
   simp(disch:=first|omega|simp only[zz];try omega;done) only[↓reduceIte,go_sem,aaL,sS,uo,e2,e3,e4,e5,A5.at,A5.2.1,A1'.2.1,A1'.2.2.1,X.at,X.2.1,<-hh7,A57.at,A57.2.1,A27.2.1,A27.2.2.1,<-hh8,A18.at,A18.2.1,A28.at,A28.2.1]
   exact hKO a hp _ _ _ st8 (ow8.mono (by omega))
end Go.Proofs.Z
namespace Edict
variable {s f k:Int}
def nV(s:Int):Int:=if s=7 then 10 else if s=8 then 12 else if s=9 then 7 else if s=10 then 8 else if s=11 then 13 else if s=12 then 11 else if s=13 then 9 else if 15<=s/\s<=19 then s+15 else if s=26 then 99 else s
def om(k a sa b sb c sc:Int):Int:=if k=a then sa else if k=b then sb else if k=c then sc else -1
def RZ(f s:Int):Prop:=(f=0/\0<=s/\s<=14)\/(f=15/\15<=s/\s<=19)
theorem CO(h:RZ f s):(f=0/\(s=0\/s=1\/s=2\/s=3\/s=4\/s=5\/s=6\/s=7\/s=8\/s=9\/s=10\/s=11\/s=12\/s=13\/s=14))\/(f=15/\(s=15\/s=16\/s=17\/s=18\/s=19)):=by
 rcases h with⟨h,h1,h2⟩|⟨h,h1,h2⟩
 ·exact .inl ⟨h,by omega⟩
 ·exact .inr ⟨h,by omega⟩
structure Jd (f s:Int) (c l t li te:Nat):Prop where
 st:RZ f s
 ov:xR f c=false
 l16:l<=16
 t8:t<=8
 a:5<=s/\s<=14->li=l
 b:1<=s/\s<=4->li=0
 d:s=2\/s=3\/s=9\/s=10\/s=17\/s=18->te=t
 e:s=1\/s=6\/s=7\/s=12\/s=16->te=0
 li16:li<=16
 te8:te<=8
def jL(s:Int)(li:Nat):Nat:=if s=0\/s=15 then 0 else if s=5 then li+1 else li
def jT(s:Int)(te:Nat):Nat:=if s=0\/s=15\/s=5 then 0 else if s=2\/s=9\/s=17 then te+1 else te
def jO(s:Int)(c li te:Nat):Int:=if(s=0/\512<c+1)\/(s=15/\4096<c+1)then 24 else if s=5/\16<li+1 then 23 else if(s=2\/s=9\/s=17)/\8<te+1 then 22 else 0
theorem Ec{v:Bool}:pO k v=true↔k=1\/k=3\/k=4\/(k=2/\v=true):=by
 unfold pO
 simp only[fq,bA,bf,or_assoc]
theorem ab9(f:Int)(c l t:Nat):wY f c l t=if(f=0/\512<c)\/(f=15/\4096<c)then 24 else if 16<l then 23 else if 8<t then 22 else 0:=by
 unfold wY xR
 simp only[fq,bA,bf]
theorem aec{c l t li te:Nat}(h:Jd f s c l t li te)(h1:lg f s k≠ -1)(h2:lg f s k≠26):
  wY f (yA s k c) (Ao s k l) (Bd s k t)=jO s c li te/\(jO s c li te=0->Jd f (lg f s k) (yA s k c) (Ao s k l) (Bd s k t) (jL s li) (jT s te))/\(s=0\/s=15->yA s k c=c+1)/\(¬(s=0\/s=15)->yA s k c=c):=by
 obtain⟨hst,hov,hl,ht,ha,hb,hd,he,hli,hte⟩:=h
 have hcap:(f=0->c<=512)/\(f=15->c<=4096):=by
  unfold xR at hov
  simp only[dB,gy,decide_eq_false_iff_not]at hov
  omega
 have hT: ∀v,pO k v=true->k=1\/k=3\/k=4\/k=2:=λv q=>by have:=Ec.1 q;omega
 obtain⟨m,hm⟩:=kJ (lg f s k)
 rw[<-hm]at h1 h2 ⊢
 obtain⟨c',hc'⟩:=kJ (yA s k c)
 obtain⟨l',hl'⟩:=kJ (Ao s k l)
 obtain⟨t',ht'⟩:=kJ (Bd s k t)
 rw[<-hc',<-hl',<-ht',ab9]
 rcases CO hst with⟨rfl,hs⟩|⟨rfl,hs⟩
 ·rcases hs with rfl|rfl|rfl|rfl|rfl|rfl|rfl|rfl|rfl|rfl|rfl|rfl|rfl|rfl|rfl
  all_goals
   unfold lg Am at hm
   simp only[Int.reduceEq,↓reduceIte]at hm
   unfold yA at hc'
   unfold Ao at hl'
   unfold Bd at ht'
   simp only[Int.reduceEq,↓reduceIte,or_self,or_false,false_and,dN,or_true,true_implies,false_implies,Int.reduceLE,aP,and_self,and_false]at hc' hl' ht' ha hb hd he
   simp only[jO,jL,jT,Int.reduceEq,↓reduceIte,or_self,or_false,false_and,dN,or_true]
   (repeat' split at hm)
  all_goals
   first
    |(exfalso;omega)
    |(have hk:k=1\/k=3\/k=4\/k=2\/k=0\/5<=k:=by first|omega|(have:=hT _ (by assumption);omega)
      have hkT:m=3\/m=8\/m=10\/m=14\/m=18->k<=4:=by first|(intro;have:=hT _ (by assumption);omega)|omega
      (try split at hc')<;>(try split at hl')<;>(try split at ht')
      all_goals first
       |(exfalso;omega)
       |(refine⟨?_,λhj=>⟨?_,?_,?_,?_,?_,?_,?_,?_,?_,?_⟩,?_,?_⟩
         all_goals (try (unfold RZ;simp only[dN,Int.reduceEq,false_and,or_false]))
         all_goals (try unfold xR)
         all_goals (try simp only[dB,gy,decide_eq_false_iff_not])
         all_goals (try split at hj)
         all_goals (repeat' split)
         all_goals first|omega|rfl|(intro;omega)|trivial|(intro;trivial)|(intro q;exact q.elim)|(intro q;exact absurd trivial q)))
 ·rcases hs with rfl|rfl|rfl|rfl|rfl
  all_goals
   unfold lg Am at hm
   simp only[Int.reduceEq,↓reduceIte]at hm
   unfold yA at hc'
   unfold Ao at hl'
   unfold Bd at ht'
   simp only[Int.reduceEq,↓reduceIte,or_self,or_false,false_and,dN,or_true,true_implies,false_implies,Int.reduceLE,and_false]at hc' hl' ht' ha hb hd he
   simp only[jO,jL,jT,Int.reduceEq,↓reduceIte,or_self,or_false,false_or,false_and,dN,or_true]
   (repeat' split at hm)
  all_goals
   first
    |(exfalso;omega)
    |(have hk:k=1\/k=3\/k=4\/k=2\/k=0\/5<=k:=by first|omega|(have:=hT _ (by assumption);omega)
      have hkT:m=3\/m=8\/m=10\/m=14\/m=18->k<=4:=by first|(intro;have:=hT _ (by assumption);omega)|omega
      (try split at hc')<;>(try split at hl')<;>(try split at ht')
      all_goals first
       |(exfalso;omega)
       |(refine⟨?_,λhj=>⟨?_,?_,?_,?_,?_,?_,?_,?_,?_,?_⟩,?_,?_⟩
         all_goals (try (unfold RZ;simp only[dN,Int.reduceEq,false_and,false_or]))
         all_goals (try unfold xR)
         all_goals (try simp only[dB,gy,decide_eq_false_iff_not])
         all_goals (try split at hj)
         all_goals (repeat' split)
         all_goals first|omega|rfl|(intro;omega)|trivial|(intro;trivial)|(intro q;exact q.elim)|(intro q;exact absurd trivial q)))
end Edict
namespace Edict
def uf(k:Int):Tok:=(k,[],0,0,0,-1)
def kdT(k:Int):Int:=if k=1 then 3 else if k=2 then 1 else if k=3 then 4 else if k=4 then 2 else 0
def Ov(t:ll):Tok:=(kdT t.1,t.2.2.1,t.2.1,0,t.2.2.2,0)
def Zc:Bool->List ll->List Tok
 |_,[]=>[]
 |f,t::l=>uf (if f then 5 else 7)::Ov t::Zc false l
def Od(a:lH):List Tok:=(1,a.1,0,0,a.2.2,0)::(Zc true a.2.1++if a.2.1=[]then []else [uf 6])
def Zd(l:lV):List Tok:=if l.1=1 then Od l.2.1 else if l.1=2 then(10,[],0,0,l.2.2.2.2.2,0)::Od l.2.1 else [Ov l.2.2.2.1,(11,[],0,l.2.2.1,0,-1),Ov l.2.2.2.2.1]
def Jm:Bool->List lV->List Tok
 |_,[]=>[]
 |f,l::m=>(if f then []else [uf 7])++(Zd l++Jm false m)
def Ze(c:kX):List Tok:=Od c.1++((if c.2=[]then []else uf 9::Jm true c.2)++[uf 8])
def ftP(p:List kX):List Tok:=p.flatMap Ze++[uf 0]
def ftF(p:List lH):List Tok:=p.flatMap (λa=>Od a++[uf 8])++[uf 0]
def SA(t:Tok):Prop:=(t.1≠11->t.2.2.2.1=0)/\(t.1≠3->t.2.2.1=0)/\(t.1≠1/\t.1≠2/\t.1≠4->t.2.1=[])/\(t.1=11->1<=t.2.2.2.1/\t.2.2.2.1<=6)/\0<=t.1
def Zf(a b:Tok):Prop:=a.1=b.1/\a.2.1=b.2.1/\a.2.2.1=b.2.2.1/\a.2.2.2.1=b.2.2.2.1/\(b.2.2.2.2.2= -1\/a.2.2.2.2.1=b.2.2.2.2.1)
inductive TokMs:List Tok->List Tok->Prop
 |nil:TokMs [] []
 |cons {a b:Tok} {l m:List Tok}:Zf a b->TokMs l m->TokMs (a::l) (b::m)
theorem TokMs.app{a b c d:List Tok}(h:TokMs a b)(k:TokMs c d):TokMs (a++c) (b++d):=by
 induction h with
 |nil=>exact k
 |cons h1 _ ih=>exact .cons h1 ih
theorem TokMs.len{a b:List Tok}(h:TokMs a b):a.length=b.length:=by
 induction h with
 |nil=>rfl
 |cons _ _ ih=>simp [ih]
theorem TokMs.at{a b:List Tok}(h:TokMs a b): ∀(i:Nat) (x y:Tok),a[i]? =some x->b[i]? =some y->Zf x y:=by
 induction h with
 |nil=>intro i x y q;cases q
 |cons h1 _ ih=>
  intro i x y p q
  cases i with
  |zero=>cases p;cases q;exact h1
  |succ i=>exact ih i x y p q
theorem aef{s:List UInt8}{o:Nat}{t:Tok}(h:wT s o= .ok t):SA t:=by
 by_cases ho:o<s.length
 ·obtain⟨k,v,n,p,e,rfl,-,-,hs⟩:=KH ho h
  unfold SA
  rcases hs with⟨hk,-,hn,hp,-⟩|⟨hk,hv,hp,-⟩|⟨hk,hn,hp,-⟩|⟨h5,h10,hv,hn,hp,-⟩|⟨hk,hv,hn,p1,p6,-⟩
  ·exact⟨λ_=>hp,λ_=>hn,λq=>by simp only at q;omega,λq=>by simp only at q;omega,by simp only;omega⟩
  ·exact⟨λ_=>hp,λq=>absurd hk q,λ_=>hv,λq=>by simp only at q;omega,by simp only;omega⟩
  ·exact⟨λ_=>hp,λ_=>hn,λq=>by simp only at q;omega,λq=>by simp only at q;omega,by simp only;omega⟩
  ·exact⟨λ_=>hp,λ_=>hn,λ_=>hv,λq=>by simp only at q;omega,by simp only;omega⟩
  ·exact⟨λq=>absurd hk q,λ_=>hn,λ_=>hv,λ_=>⟨p1,p6⟩,by simp only;omega⟩
 ·unfold wT at h
  rw[ay (by omega)]at h
  cases h
  exact⟨λ_=>rfl,λ_=>rfl,λ_=>rfl,λq=>by simp at q,by simp⟩
theorem CR{s:List UInt8}: ∀{l:List Tok} {k:Nat} {f:Int×Nat},k<=s.length->mo s k=(l,f)-> ∀t∈l,SA t
 |[],_,_,_,_,t,ht=>by cases ht
 |x::l,k,f,hk,h,t,ht=>by
  obtain⟨h1,h2⟩:=Dy hk h
  have hx:SA x:=by
   unfold oo at h1
   split at h1
   ·exact aef h1
   ·cases h1
  rcases bn.1 ht with rfl|ht'
  ·exact hx
  ·rcases h2 with⟨-,rfl,-⟩|⟨h3,h4⟩
   ·cases ht'
   ·obtain⟨c,v,n,p,o,e,rfl,q1,q2,q3,q4⟩:=xO hk h1
    exact CR q2 h4 t ht'
variable {a:lH} {bad:nI} {q l:List Tok}
theorem af9{k:Int}(h:pO k false=true):pO k true=true:=by unfold pO at h ⊢;simp at h ⊢;omega
def Oa:Bool->List ll->List Tok->List Tok->Prop
 |_,[],l,q=> ∃c,l=c::q/\tK c=6
 |f,x::xs,l,q=> ∃s t m,l=s::t::m/\tK s=(if f then 5 else 7)/\pO (tK t) true=true/\x=lN t/\Oa false xs m q
def BH(x:lH)(l q:List Tok):Prop:= ∃t m,l=t::m/\tK t=1/\tX t=x.1/\tO t=x.2.2/\((x.2.1=[]/\q=m)\/(x.2.1≠[]/\Oa true x.2.1 m q))
def aed(x:lV):Prop:=x.2.2.1=0/\x.2.2.2.1=lS/\x.2.2.2.2.1=lS
def Xa(x:lV)(l q:List Tok):Prop:=x.2.1.2.1.length<=8/\((x.1=1/\aed x/\x.2.2.2.2.2=x.2.1.2.2/\BH x.2.1 l q)\/
 (x.1=2/\aed x/\ ∃t m,l=t::m/\tK t=10/\x.2.2.2.2.2=tO t/\BH x.2.1 m q)\/
 (x.1=3/\x.2.1=og/\ ∃t o y,l=t::o::y::q/\pO (tK t) true=true/\x.2.2.2.1=lN t/\tK o=11/\x.2.2.1=tP o/\pO (tK y) true=true/\x.2.2.2.2.1=lN y/\x.2.2.2.2.2=tO t))
def Ob:Bool->List lV->List Tok->List Tok->Prop
 |_,[],l,q=> ∃c,l=c::q/\tK c=8
 |f,x::xs,l,q=> ∃m n,(if f then l=m else∃s,l=s::m/\tK s=7)/\Xa x m n/\Ob false xs n q
def Jb(c:kX)(l q:List Tok):Prop:=c.1.2.1.length<=8/\ ∃m,BH c.1 l m/\((c.2=[]/\ ∃d,m=d::q/\tK d=8)\/(c.2≠[]/\c.2.length<=16/\ ∃d n,m=d::n/\tK d=9/\Ob true c.2 n q))
def Vb:List kX->List Tok->Prop
 |[],l=> ∃e,l=[e]/\tK e=0
 |c::cs,l=> ∃m,Jb c l m/\Vb cs m
theorem Xb(bad:nI)(v:Bool): ∀(l:List Tok) (acc a:List ll) (q:List Tok),qO bad v acc l= .ok (a,q)-> ∃ys,a=acc++ys/\ys≠[]/\ ∀f s,tK s=(if f then 5 else 7)->Oa f ys (s::l) q
 |[],acc,a,q,h=>by unfold qO at h;cases h
 |[t],acc,a,q,h=>by
  rw[qG]at h
  split at h
  ·cases h
  ·split at h<;>cases h
 |t::c::r,acc,a,q,h=>by
  rw[qG]at h
  split at h
  ·cases h
  ·split at h
   ·cases h
   ·rename_i hT
    have hT':pO (tK t) true=true:=by
     cases v with
     |true=>simpa using hT
     |false=>exact af9 (by simpa using hT)
    simp only at h
    split at h
    ·rename_i h7
     obtain⟨ys,e1,e2,e3⟩:=Xb bad v r _ _ _ h
     refine⟨lN t::ys,by rw[e1,bB];rfl,by simp,λf s hs=>⟨s,t,c::r,rfl,hs,hT',rfl,e3 false c h7⟩⟩
    ·split at h
     ·rename_i h6
      cases h
      exact⟨[lN t],rfl,by simp,λf s hs=>⟨s,t,c::r,rfl,hs,hT',rfl,c,rfl,h6⟩⟩
     ·cases h
theorem CP{v:Bool}(h:mP bad v l= .ok (a,q)):BH a l q:=by
 cases l with
 |nil=>rw[mP]at h;cases h
 |cons t l=>
  by_cases ht:tK t=1
  case neg=>rw[ru ht]at h;cases h
  cases l with
  |nil=>rw[zU ht]at h;cases h
  |cons p r=>
   rw[Cq ht]at h
   split at h
   ·cases h
    exact⟨t,p::r,rfl,ht,rfl,rfl,.inl ⟨rfl,rfl⟩⟩
   ·rename_i hp
    split at h
    ·cases h
    ·rename_i a' q' ha
     cases h
     obtain⟨ys,e1,e2,e3⟩:=Xb _ _ _ _ _ _ ha
     rw[bI]at e1
     subst e1
     exact⟨t,p::r,rfl,ht,rfl,rfl,.inr ⟨e2,e3 true p (by simpa using hp)⟩⟩
theorem aga{x:lV}(h:uT bad l= .ok (x,q)):Xa x l q:=by
 cases l with
 |nil=>rw[aaS]at h;cases h
 |cons t l=>
  by_cases h10:tK t=10
  ·cases ha:mP bad true l with
   |error e=>rw[Kr h10 ha]at h;cases h
   |ok aq=>
    obtain⟨a,q'⟩:=aq
    rw[Kt h10 ha]at h
    cases h
    exact⟨vL ha,.inr (.inl ⟨rfl,⟨rfl,rfl,rfl⟩,t,l,rfl,h10,rfl,CP ha⟩)⟩
  by_cases h1:tK t=1/\wZ l=false
  ·cases ha:mP bad true (t::l)with
   |error e=>rw[Ku h10 h1 ha]at h;cases h
   |ok aq=>
    obtain⟨a,q'⟩:=aq
    rw[Kv h10 h1 ha]at h
    cases h
    have hk:=CP ha
    refine⟨vL ha,.inl ⟨rfl,⟨rfl,rfl,rfl⟩,?_,hk⟩⟩
    obtain⟨t',m,e,-,-,e2,-⟩:=hk
    cases e
    exact e2
  rw[Dr h10 h1]at h
  cases hT:pO (tK t) true with
  |false=>rw[FE hT]at h;cases h
  |true=>
   cases l with
   |nil=>rw[VL hT]at h;cases h
   |cons o r=>
    by_cases ho:tK o=11
    case neg=>rw[VM hT ho]at h;cases h
    cases r with
    |nil=>rw[VN hT ho]at h;cases h
    |cons y r=>
     cases hy:pO (tK y) true with
     |false=>rw[VO hT ho hy]at h;cases h
     |true=>
      rw[VP hT ho hy]at h
      cases h
      exact⟨by simp [og],.inr (.inr ⟨rfl,rfl,t,o,y,rfl,hT,rfl,ho,rfl,hy,rfl,rfl⟩)⟩
theorem Xc{bad:nI}: ∀(n:Nat) (l:List Tok) (acc a:List lV) (q:List Tok),l.length<=n->acc.length<=16->pI bad acc l= .ok (a,q)->a.length<=16/\ ∃x xs m,a=acc++x::xs/\Xa x l m/\Ob false xs m q
 |n,[],acc,a,q,_,_,h=>by rw[xg]at h;cases h
 |0,t::l,acc,a,q,hn,_,h=>by simp at hn
 |n+1,t::l,acc,a,q,hn,hacc,h=>by
  by_cases hf:16<=acc.length/\(tK t=10\/pO (tK t) true=true)
  ·rw[xU hf]at h;cases h
  ·cases he:uT bad (t::l)with
   |error e=>rw[vz hf he]at h;cases h
   |ok xq=>
    obtain⟨x,r⟩:=xq
    have hlt:acc.length<16:=by
     refine Classical.byContradiction λhge=> ?_
     have hb:EZ (tK t)=false:=by
      cases hb:EZ (tK t)with
      |false=>rfl
      |true=>exact absurd ⟨by omega,VI hb⟩ hf
     obtain⟨e,he'⟩:=GZ (bad:=bad) (l:=l) hb
     rw[he']at he;cases he
    rw[PT hf he]at h
    have hl:=yY he
    have hok:=aga he
    cases r with
    |nil=>rw[Ko]at h;cases h
    |cons c r=>
     rw[Ha]at h
     simp only[aM]at hl hn
     split at h
     ·rename_i h7
      obtain⟨i1,y,ys,m,e1,e2,e3⟩:=Xc n r (acc++[x]) a q (by omega) (by simp;omega) h
      exact⟨i1,x,y::ys,c::r,by rw[e1,bB];rfl,hok,r,m,⟨c,rfl,h7⟩,e2,e3⟩
     ·split at h
      ·rename_i h8
       cases h
       exact⟨by simp;omega,x,[],_,rfl,hok,c,rfl,h8⟩
      ·cases h
theorem Zb{c:kX}(h:nQ bad l= .ok (c,q)):Jb c l q:=by
 cases ha:mP bad true l with
 |error e=>rw[yT ha]at h;cases h
 |ok aq=>
  obtain⟨a,m⟩:=aq
  rw[Hd ha]at h
  cases m with
  |nil=>cases h
  |cons d r=>
   by_cases h8:tK d=8
   ·rw[VJ h8]at h
    cases h
    exact⟨vL ha,_,CP ha,.inl ⟨rfl,d,rfl,h8⟩⟩
   ·by_cases h9:tK d=9
    ·cases hb:pI bad [] r with
     |error e=>rw[PV h9 hb]at h;cases h
     |ok bp=>
      obtain⟨b,p⟩:=bp
      rw[PW h9 hb]at h
      cases h
      obtain⟨i1,x,xs,m,e1,e2,e3⟩:=Xc _ _ [] _ _ (aH _) (by simp) hb
      rw[bI]at e1
      refine⟨vL ha,d::r,CP ha,.inr ⟨by rw[e1];simp,i1,d,r,rfl,h9,?_⟩⟩
      simp only
      rw[e1]
      exact⟨r,m,rfl,e2,e3⟩
    ·rw[PZ h8 h9]at h;cases h
theorem Xd{bad:nI}: ∀(n:Nat) (l:List Tok) (acc cs:List kX),l.length<=n->acc.length<=512->nk l bad->oJ bad acc l= .ok cs->bad=(0,0)/\ ∃ys,cs=acc++ys/\Vb ys l
 |n,[],acc,cs,hn,_,_,h=>by rw[Kk]at h;cases h
 |0,t::l,acc,cs,hn,_,_,h=>by simp at hn
 |n+1,t::l,acc,cs,hn,hacc,hg,h=>by
  by_cases h0:tK t=0
  ·rw[Kl h0]at h
   cases h
   obtain⟨rfl,hb⟩:=hg.last h0
   exact⟨hb,[],by simp,t,rfl,h0⟩
  by_cases hf:512<=acc.length/\tK t=1
  ·rw[GY h0 hf]at h;cases h
  cases he:nQ bad (t::l)with
  |error e=>rw[Dq h0 hf he]at h;cases h
  |ok xq=>
   obtain⟨x,q⟩:=xq
   rw[PQ h0 hf he]at h
   have hl:=vU he
   have hc5:acc.length<512\/tK t≠1:=by
    by_cases hlt:acc.length<512
    ·exact .inl hlt
    ·exact .inr λq=>hf ⟨by omega,q⟩
   obtain⟨hc,hgq,-,-⟩:=(Ho (li:=0) (te:=0) (by omega) (by omega) h0 hc5 hg).2 x q he
   obtain⟨i1,ys,e1,e2⟩:=Xd n q (acc++[x]) cs (by simp only[aM]at hn hl;omega) (by simp;omega) hgq h
   exact⟨i1,x::ys,by rw[e1,bB];rfl,q,Zb he,e2⟩
/-! ### Where a text is refused -/
def Oc:List lH->List Tok->Prop
 |[],l=> ∃e,l=[e]/\tK e=0
 |a::fs,l=> ∃m d n,a.2.1.length<=8/\BH a l m/\m=d::n/\tK d=8/\Oc fs n
theorem aee(h:qV bad l= .ok (a,q)): ∃m d,a.2.1.length<=8/\BH a l m/\m=d::q/\tK d=8:=by
 cases ha:mP bad false l with
 |error e=>rw[Bl ha]at h;cases h
 |ok aq=>
  obtain⟨a',q'⟩:=aq
  rw[zY ha]at h
  cases q' with
  |nil=>cases h
  |cons c r=>
   by_cases h8:tK c=8
   ·rw[We h8]at h
    cases h
    exact⟨_,c,vL ha,CP ha,rfl,h8⟩
   ·rw[VZ h8]at h;cases h
theorem Sb{bad:nI}: ∀(n:Nat) (l:List Tok) (acc cs:List lH),l.length<=n->acc.length<=4096->nk l bad->mQ bad acc l= .ok cs->bad=(0,0)/\ ∃ys,cs=acc++ys/\Oc ys l
 |n,[],acc,cs,hn,_,_,h=>by rw[Hz]at h;cases h
 |0,t::l,acc,cs,hn,_,_,h=>by simp at hn
 |n+1,t::l,acc,cs,hn,hacc,hg,h=>by
  by_cases h0:tK t=0
  ·rw[HV h0]at h
   cases h
   obtain⟨rfl,hb⟩:=hg.last h0
   exact⟨hb,[],by simp,t,rfl,h0⟩
  by_cases hf:4096<=acc.length/\tK t=1
  ·rw[EC h0 hf]at h;cases h
  cases he:qV bad (t::l)with
  |error e=>rw[vN h0 hf he]at h;cases h
  |ok xq=>
   obtain⟨x,q⟩:=xq
   rw[KG h0 hf he]at h
   have hl:=Be he
   have hc5:acc.length<4096\/tK t≠1:=by
    by_cases hlt:acc.length<4096
    ·exact .inl hlt
    ·exact .inr λq=>hf ⟨by omega,q⟩
   obtain⟨hc,hgq,-,-⟩:=(Qi (li:=0) (te:=0) (by omega) (by omega) h0 hc5 hg).2 x q he
   obtain⟨i1,ys,e1,e2⟩:=Sb n q (acc++[x]) cs (by simp only[aM]at hn hl;omega) (by simp;omega) hgq h
   obtain⟨m,d,k1,k2,k3,k4⟩:=aee he
   exact⟨i1,x::ys,by rw[e1,bB];rfl,m,d,q,k1,k2,k3,k4,e2⟩
end Edict
namespace Edict
variable {t:Tok} {l q:List Tok}
theorem qN{k:Int}(h:tK t=k)(hw:SA t)(h1:k≠11/\k≠3/\k≠1/\k≠2/\k≠4):Zf t (uf k):=by
 obtain⟨a,b,c,-⟩:=hw
 have h:t.1=k:=h
 exact⟨h,c ⟨by omega,by omega,by omega⟩,b (by omega),a (by omega),.inl rfl⟩
theorem Ed(h:pO (tK t) true=true)(hw:SA t):Zf t (Ov (lN t)):=by
 obtain⟨a,b,c,-⟩:=hw
 have hk:t.1=1\/t.1=3\/t.1=4\/t.1=2:=by have:=Ec.1 h;unfold tK at this;omega
 unfold lN tK tI tX tO Zf Ov kdT
 rcases hk with q|q|q|q
 all_goals simp only[q,Int.reduceEq,↓reduceIte]
 ·exact⟨trivial,trivial,b (by omega),a (by omega),.inr trivial⟩
 ·exact⟨trivial,c ⟨by omega,by omega,by omega⟩,trivial,a (by omega),.inr trivial⟩
 ·exact⟨trivial,trivial,b (by omega),a (by omega),.inr trivial⟩
 ·exact⟨trivial,trivial,b (by omega),a (by omega),.inr trivial⟩
theorem WX: ∀{ys:List ll} {f:Bool} {l q:List Tok},Oa f ys l q->(∀t∈l,SA t)-> ∃p,l=p++q/\TokMs p (Zc f ys++[uf 6])
 |[],f,l,q,h,hw=>by
  obtain⟨c,rfl,hc⟩:=h
  exact⟨[c],rfl,.cons (qN hc (hw c (by simp)) (by decide)) .nil⟩
 |x::ys,f,l,q,h,hw=>by
  obtain⟨s,t,m,rfl,hs,ht,rfl,hr⟩:=h
  obtain⟨p,rfl,hp⟩:=WX hr (λt q=>hw t (by simp [q]))
  refine⟨s::t::p,rfl,.cons (qN hs (hw s (by simp)) ?_) (.cons (Ed ht (hw t (by simp))) hp)⟩
  cases f<;>decide
theorem FT{x:lH}(h:BH x l q)(hw: ∀t∈l,SA t): ∃p,l=p++q/\TokMs p (Od x):=by
 obtain⟨t,m,rfl,h1,h2,h3,h4⟩:=h
 have ht:Zf t (1,x.1,0,0,x.2.2,0):=by
  obtain⟨a,b,-⟩:=hw t (by simp)
  have h1:t.1=1:=h1
  exact⟨h1,h2,b (by omega),a (by omega),.inr h3⟩
 unfold Od
 rcases h4 with⟨h5,rfl⟩|⟨h5,h6⟩
 ·rw[h5];exact⟨[t],rfl,.cons ht .nil⟩
 ·obtain⟨p,rfl,hp⟩:=WX h6 (λt q=>hw t (by simp [q]))
  rw[ah h5]
  exact⟨t::p,rfl,.cons ht hp⟩
def wB(x:lV):Prop:=(x.1=1/\aed x/\x.2.2.2.2.2=x.2.1.2.2)\/(x.1=2/\aed x)\/(x.1=3/\x.2.1=og/\x.2.2.2.2.2=x.2.2.2.1.2.2.2)
theorem YZ(t:Tok):(lN t).2.2.2=tO t:=by
 unfold lN
 repeat' split
 all_goals rfl
theorem af8{x:lV}(h:Xa x l q)(hw: ∀t∈l,SA t):(∃p,l=p++q/\TokMs p (Zd x))/\yf x/\wB x:=by
 obtain⟨h8,h⟩:=h
 unfold Zd yf wB
 rcases h with⟨h1,hb,hx,h4⟩|⟨h1,hb,t,m,rfl,ht,ho,h4⟩|⟨h1,hb,t,o,y,rfl,ht,e1,ko,e2,hy,e3,hx⟩
 ·rw[ay h1];exact⟨FT h4 hw,⟨h8,.inl h1⟩,.inl ⟨h1,hb,hx⟩⟩
 ·rw[ah (by omega),ay h1]
  obtain⟨p,rfl,hp⟩:=FT h4 (λt q=>hw t (by simp [q]))
  refine⟨⟨t::p,rfl,.cons ?_ hp⟩,⟨h8,.inr (.inl h1)⟩,.inr (.inl ⟨h1,hb⟩)⟩
  obtain⟨a,b,c,-⟩:=hw t (by simp)
  have ht:t.1=10:=ht
  exact⟨ht,c ⟨by omega,by omega,by omega⟩,b (by omega),a (by omega),.inr ho.symm⟩
 ·rw[ah (by omega),ah (by omega),e1,e3]
  obtain⟨a,b,c,d,-⟩:=hw o (by simp)
  have ko:o.1=11:=ko
  have:=d ko
  refine⟨⟨[t,o,y],rfl,.cons (Ed ht (hw t (by simp))) (.cons ⟨ko,c ⟨by omega,by omega,by omega⟩,b (by omega),e2.symm,.inl rfl⟩ (.cons (Ed hy (hw y (by simp))) .nil))⟩,⟨h8,.inr (.inr ⟨h1,?_⟩)⟩,.inr (.inr ⟨h1,hb,?_⟩)⟩
  ·rw[e2];exact this
  ·rw[hx,YZ]
theorem WY: ∀{xs:List lV} {f:Bool} {l q:List Tok},Ob f xs l q->(∀t∈l,SA t)->(∃p,l=p++q/\TokMs p (Jm f xs++[uf 8]))/\ ∀x∈xs,yf x/\wB x
 |[],f,l,q,h,hw=>by
  obtain⟨c,rfl,hc⟩:=h
  exact⟨⟨[c],rfl,.cons (qN hc (hw c (by simp)) (by decide)) .nil⟩,λx q=>by cases q⟩
 |x::xs,f,l,q,h,hw=>by
  obtain⟨m,n,h1,h2,h3⟩:=h
  have key:(∀t∈m,SA t)->(∃p,m=p++q/\TokMs p (Zd x++Jm false xs++[uf 8]))/\ ∀y∈x::xs,yf y/\wB y:=λhm=>by
   obtain⟨⟨p1,rfl,k1⟩,k2⟩:=af8 h2 hm
   obtain⟨⟨p2,rfl,k3⟩,k4⟩:=WY h3 (λt q=>hm t (by simp [q]))
   refine⟨⟨p1++p2,by simp,by rw[bB];exact k1.app k3⟩,λy hy=> ?_⟩
   rcases bn.1 hy with rfl|hy
   ·exact k2
   ·exact k4 y hy
  cases f with
  |true=>
   obtain rfl:l=m:=h1
   obtain⟨⟨p,e,k⟩,k2⟩:=key hw
   exact⟨⟨p,e,by unfold Jm;simpa using k⟩,k2⟩
  |false=>
   obtain⟨s,rfl,hs⟩: ∃s,l=s::m/\tK s=7:=h1
   obtain⟨⟨p,rfl,k⟩,k2⟩:=key (λt q=>hw t (by simp [q]))
   exact⟨⟨s::p,rfl,by unfold Jm;rw[bB]at k;simpa using TokMs.cons (qN hs (hw s (by simp)) (by decide)) k⟩,k2⟩
theorem Za{c:kX}(h:Jb c l q)(hw: ∀t∈l,SA t):(∃p,l=p++q/\TokMs p (Ze c))/\mH c/\ ∀x∈c.2,wB x:=by
 obtain⟨h8,m,h1,h2⟩:=h
 obtain⟨p,rfl,hp⟩:=FT h1 hw
 unfold Ze
 rcases h2 with⟨h3,d,rfl,hd⟩|⟨h3,h16,d,n,rfl,hd,h4⟩
 ·rw[ay h3]
  refine⟨⟨p++[d],by simp,hp.app (.cons (qN hd (hw d (by simp)) (by decide)) .nil)⟩,⟨h8,by rw[h3];simp,λl q=>by rw[h3]at q;cases q⟩,λl q=>by rw[h3]at q;cases q⟩
 ·obtain⟨⟨p2,rfl,k⟩,k2⟩:=WY h4 (λt q=>hw t (by simp [q]))
  rw[ah h3]
  refine⟨⟨p++d::p2,by simp,hp.app ?_⟩,⟨h8,h16,λx q=>(k2 x q).1⟩,λx q=>(k2 x q).2⟩
  exact .cons (qN hd (hw d (by simp)) (by decide)) k
theorem WZ: ∀{p:List kX} {l:List Tok},Vb p l->(∀t∈l,SA t)->TokMs l (ftP p)/\ ∀c∈p,mH c/\ ∀x∈c.2,wB x
 |[],l,h,hw=>by
  obtain⟨e,rfl,he⟩:=h
  exact⟨.cons (qN he (hw e (by simp)) (by decide)) .nil,λc q=>by cases q⟩
 |c::p,l,h,hw=>by
  obtain⟨m,h1,h2⟩:=h
  obtain⟨⟨p1,rfl,k⟩,k2⟩:=Za h1 hw
  obtain⟨i1,i2⟩:=WZ h2 (λt q=>hw t (by simp [q]))
  refine⟨?_,λx hx=> ?_⟩
  ·unfold ftP at i1 ⊢
   rw[dQ,bB]
   exact k.app i1
  ·rcases bn.1 hx with rfl|hx
   ·exact k2
   ·exact i2 x hx
theorem Sa: ∀{p:List lH} {l:List Tok},Oc p l->(∀t∈l,SA t)->TokMs l (ftF p)/\ ∀a∈p,a.2.1.length<=8
 |[],l,h,hw=>by
  obtain⟨e,rfl,he⟩:=h
  exact⟨.cons (qN he (hw e (by simp)) (by decide)) .nil,λc q=>by cases q⟩
 |a::p,l,h,hw=>by
  obtain⟨m,d,n,h8,h1,rfl,hd,h2⟩:=h
  obtain⟨p1,rfl,k⟩:=FT h1 hw
  obtain⟨i1,i2⟩:=Sa h2 (λt q=>hw t (by simp [q]))
  refine⟨?_,λx hx=> ?_⟩
  ·unfold ftF at i1 ⊢
   rw[dQ,bB,bB]
   exact k.app (.cons (qN hd (hw d (by simp)) (by decide)) i1)
  ·rcases bn.1 hx with rfl|hx
   ·exact h8
   ·exact i2 x hx
end Edict
