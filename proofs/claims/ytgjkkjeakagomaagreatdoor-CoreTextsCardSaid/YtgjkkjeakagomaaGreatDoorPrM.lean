/- A part of the proof. -/
import Derived.Test.YtgjkkjeakagomaaGreatDoorRefV
import Derived.WalkKit
import Derived.Defers
import Derived.Recover
import Derived.Test.YtgjkkjeakagomaaGreatDoorData
import Derived.Test.YtgjkkjeakagomaaGreatDoorRefS
set_option linter.all false
set_option maxRecDepth 100000
set_option maxHeartbeats 4000000
open Go.Value renaming int→Jx
open Go.IntKind renaming i64→JT
namespace Go.Ev
open Go
variable {D:List Deferred} {N:Nat} {P:Program} {Q:Exit->Act->World->Prop} {a:Act} {h:H} {lv:Nat->Bool} {o:Oper} {ops:Array Oper} {w w':World} {δ:List ql} {σ:ku}
theorem Qy [DS]{lv:Nat->Bool}{N:Nat}{a:Act}{h:H}(hs:a.tmps.size=N)(hd:a.defers=DS.d):uR lv N a (λi=>a.tmps.getD i undef) h []:=
 ⟨λ_ _=>rfl,hs,hd,λ_ _ hf=>(by cases hf),λ_ _ hf=>(by cases hf),λ_ _ hf=>(by cases hf),λ_ _ hf=>(by cases hf),zP⟩
theorem rG(R: @uR ⟨D⟩ lv N a σ h δ)(i:Nat)(hi:lv i=true):a.tmps.getD i undef=σ i:= @uR.lvs ⟨D⟩ lv N a σ h δ R i hi
theorem IR(R: @uR ⟨D⟩ lv N a σ h δ):a.tmps.size=N:= @uR.sz ⟨D⟩ lv N a σ h δ R
theorem IU(R: @uR ⟨D⟩ lv N a σ h δ):a.defers=D:= @uR.df ⟨D⟩ lv N a σ h δ R
theorem IV(hs:a.tmps.size=N)(hd:a.defers=D): @uR ⟨D⟩ lv N a (λi=>a.tmps.getD i undef) h []:= @Qy ⟨D⟩ lv N a h hs hd
theorem Yh{G:lq}(hG:lQ P G)(hmix:P.follows .mixedOrders=true){c:Code}{s:S}{Q:tH}(hc:oZ P lv N c=some s)(R: @uR ⟨D⟩ lv N a σ w.heap [])(Hw:wpS G s Q σ w.heap):c.wp P (@CQ ⟨D⟩ lv N w Q) a w:=
 letI:DS:=⟨D⟩
 vW hG hmix c s Q a σ w w hc R (pM.refl _) Hw
theorem aga {K K':Act->World->Prop} {Q':Exit->Act->World->Prop} (hK: ∀a w,K a w->K' a w) (hP: ∀c a w,Q (.panic c) a w->Q' (.panic c) a w) (hO:LetsOut Q->LetsOut Q')
  (hh:o.wp P a w K Q):o.wp P a w K' Q':=by
 unfold Oper.wp at*
 generalize (execOp a.eval o).run P w=r at*
 cases r with
 |ok n w'=>
  cases n<;>simp only[Oper.upon]at hh ⊢ <;>
   first
    |exact hK _ _ hh
    |exact Calls.mono hh (λe w'' he=>by cases e<;>first|exact hK _ _ he|exact hP _ _ _ he|exact hO he)
    |exact Rows.mono hh (λ_ _ he=>hK _ _ he)
 |halt x w'=>cases x<;>simp only[Oper.upon]at hh ⊢ <;>first|exact hh|exact hP _ _ _ hh
theorem agb{rest:List Oper}{v:Value}(hg:o.guard=none)(hr:(execOp a.eval o).run P w= .ok (.value v) w')(h:wpList P ops Q rest (a.put o.dst v) w'):wpList P ops Q (o::rest) a w:=by
 unfold wpList
 rw[ah (by unfold Region.wanted;rw[hg])]
 exact .inl (kX hr h)
theorem acS{rest:List Oper}{d:Deferred}(hg:o.guard=none)(hr:(execOp a.eval o).run P w= .ok (.defer d) w')(h:wpList P ops Q rest ({a with defers:=d::a.defers}.put o.dst undef) w'):wpList P ops Q (o::rest) a w:=by
 unfold wpList
 rw[ah (by unfold Region.wanted;rw[hg])]
 refine .inl ?_
 unfold Oper.wp
 rw[hr]
 exact h
theorem Cr{P:Program}{ops:Array Oper}{Q1 Q:Exit->Act->World->Prop}{l2:List Oper}(hN: ∀a w,Q1 .normal a w->wpList P ops Q l2 a w)(hP: ∀c a w,Q1 (.panic c) a w->Q (.panic c) a w)(hO:LetsOut Q1->LetsOut Q):
  ∀(l1:List Oper) (a:Act) (w:World),wpList P ops Q1 l1 a w->wpList P ops Q (l1++l2) a w
 |[],a,w,h=>hN a w h
 |o::r,a,w,h=>by
  rw[aP]
  unfold wpList at h ⊢
  split at h
  ·rename_i hw
   rw[ah hw]
   exact h.imp (aga (λa w=>Cr hN hP hO r a w) hP hO) (λq=>⟨q.1,hO q.2⟩)
  ·rename_i hw
   rw[af hw]
   exact Cr hN hP hO r _ _ h
end Go.Ev
namespace Go.Proofs.Z
open Go Go.Ev Edict Go.RowKit
variable {K:Value->H->Prop} {KP:List PanicEntry->H->Prop}
theorem agc(v:Value)(w:World):(Instr.typeAssert (.iface 125 v) 20 125 true).run Tryz.prog w= .ok (.tuple #[v,.bool true]) w:=by
 have hu:=Tryz.underlying125
 simp [Instr.typeAssert,go_sem]
theorem Vo(p:Addr)(w:World):
  CallsD Tryz.prog 49 #[.pointer (some p)] .returning w λe u' w'=>e= .returned (.tuple #[])/\u'= .returning/\w'=w:=by
 refine callsD_of_wpS Tryz.func49 rfl λc₀ cs hu=> ?_
 apply wpS_seq
 apply wpS_region
 simp [wpOpsS,go_sem,recoverD,hu,Tryz.ntmps49,Exit.thenS]
 apply wpS_seq
 apply wpS_seq
 apply wpS_region
 simp [wpOpsS,go_sem,Exit.thenS]
 refine wpS_cond (t:=true) (by simp [Act.eval,Array.replicate]) ?_
 simp only[bv]
 refine wpS_of_wp (wp_ret ?_)
 cases c₀
 simp_all [bodyPostS,results,Tryz.results49,Exit.thenS]
def agd:Nat->Bool:=λi=>Nat.testBit 65541 i
def Yi:S:=(.sts [(.chk [] (.c1 (.fld 0) (.t 2))),
  (.chk [] (.c1 (.ldn 3) (.o1 (.fld 0) (.t 2)))),
  (.set 16 (.o1 (.ldn 3) (.o1 (.fld 0) (.t 2)))),
  (.eff [] none (.store 3) [(.t 0),(.t 16)] [])])
theorem Gm(fb:Nat)(f:Flt)(w:World)(h1:lS w.heap fb=3)(h2:tJ w.heap fb=(0,0))(h3:fb<w.heap.size):
  CallsD Tryz.prog 49 #[.pointer (some ⟨fb,0,none⟩)] (.panicking (gu f)) w λe u' w'=>
   e= .returned (.tuple #[])/\u'= .panicking [{v:= .iface 125 (oo f),recovered:=true}]/\pM w w'/\w'.heap=jW (w.heap.push (.cells #[Jx JT f.1,Jx JT 0,Jx JT f.2] 125)) fb 0 [Jx JT f.1,Jx JT 0,Jx JT f.2]:=by
 refine callsD_of_wpS Tryz.func49 rfl λc₀ cs hu=> ?_
 apply wpS_seq
 apply wpS_region
 simp [wpOpsS,go_sem,recoverD,hu,Tryz.ntmps49,Exit.thenS,gu]
 apply wpS_seq
 apply wpS_seq
 apply wpS_region
 simp [wpOpsS,go_sem,Exit.thenS]
 refine wpS_cond (t:=false) (by simp [Act.eval,Array.replicate]) ?_
 simp only[aD,aW]
 refine wpS_of_wp (wp_skip ?_)
 show Code.wpS _ _ _ _ _ _
 apply wpS_seq
 apply wpS_region
 simp [wpOpsS,go_sem,Exit.thenS,agc,oo]
 apply wpS_seq
 apply wpS_seq
 apply wpS_region
 simp [wpOpsS,go_sem,Exit.thenS]
 refine wpS_cond (t:=false) (by simp [Act.eval,Array.replicate]) ?_
 simp only[aD,aW]
 refine wpS_of_wp (wp_skip ?_)
 show Code.wpS _ _ _ _ _ _
 letI:DS:=⟨[]⟩
 refine wpS_of_wp (wp_mono (vW (G:=λ_ _ _ _ _=>False) (lv:=agd) (N:=17) (λ_ _ _ _ _ h=>h.elim) mixed _ Yi (λe _ h'=>e= .normal/\h'=jW (w.heap.push (.cells #[Jx JT f.1,Jx JT 0,Jx JT f.2] 125)) fb 0 [Jx JT f.1,Jx JT 0,Jx JT f.2]) _ _ _ _ (by kernel_rfl) (Qy zP rfl) (pM.refl _) ?_) ?_)
 ·generalize hσ:(λi=>_:Nat->Value)=σ
  have e0:σ 0= .pointer (some ⟨fb,0,none⟩):=by rw[<-hσ];simp
  have e2:σ 2= .pointer (some ⟨w.heap.size,0,none⟩):=by rw[<-hσ];simp
  clear hσ
  obtain⟨h',hh'⟩:=kg (w.heap.push (.cells #[Jx JT f.1,Jx JT 0,Jx JT f.2] 125))
  have B:=jR.new (u:=λ_=>0) (h:=w.heap) [Jx JT f.1,Jx JT 0,Jx JT f.2] 125
  show wpS _ _ _ _ (w.heap.push (.cells #[Jx JT f.1,Jx JT 0,Jx JT f.2] 125))
  have g1:lS h' fb=3:=by rw[hh'];simp only[zK,h1,h3]
  have g2:tJ h' fb=(0,0):=by rw[hh'];simp only[MZ,h2,h3]
  rw[<-hh']
  have B':jR (ub (λ_=>0) w.heap.size 0) h' w.heap.size [Jx JT f.1,Jx JT 0,Jx JT f.2]:=by rw[hh'];exact B
  simp(disch:=first|omega|simp only[zz];try omega;done) only[↓reduceIte,go_sem,Yi,e0,e2,B'.at,B'.2.1,g1,g2]
 ·intro e a w' hq
  cases e with
  |normal=>
   obtain⟨hk,σ,R,-,hh⟩:=hq
   exact⟨R.df,_,rfl,.tuple #[],by simp [results,Tryz.results49,go_sem],rfl,rfl,⟨hk.os,hk.tape,hk.output⟩,hh⟩
  |panic c=>exact absurd hq.2.2.1 zP
  |outgrown=>exact hq.elim
  |_=>obtain⟨_,_,_,q,_⟩:=hq;cases q
/-! The parts of guarded. -/
def akH:Nat->Bool:=λi=>Nat.testBit 2228339 i
def akI:S:=(.sts [(.eff [] (some 4) (.alloc 27 #[(Jx JT 0),(Jx JT 0),(Jx JT 0)]) [] [])])
def aja:S:=(.seq (.sts [(.chk [] (.c1 .lens (.t 0))),
  (.chk [] (.c2 (.bin .gtr) (.o1 .lens (.t 0)) (.c (Jx JT 65536)))),
  (.set 9 (.o2 (.bin .gtr) (.o1 .lens (.t 0)) (.c (Jx JT 65536))))]) (.cond 9 (.seq (.sts [(.chk [] (.cb 3 [(0,(1,(.c (Jx JT 1))))])),
  (.eff [] none (.store 3) [(.t 4),(.o2 (.put 0 1) (.c (.agg #[(Jx JT 0),(Jx JT 0),(Jx JT 0)])) (.c (Jx JT 1)))] [])]) .ret) .skip))
def akJ:S:=(.sts [(.eff [] (some 14) (.call 50) [(.t 0)] []),
  (.chk [] (.c1 (.ext 0) (.t 14))),
  (.chk [] (.c1 (.ext 1) (.t 14))),
  (.eff [] (some 6) (.alloc 27 #[(Jx JT 0),(Jx JT 0),(Jx JT 0)]) [] []),
  (.set 5 (.o1 (.ext 0) (.t 14))),
  (.eff [] none (.store 3) [(.t 6),(.o1 (.ext 1) (.t 14))] [])])
def akK:List St:=[(.set 17 (.t 1)),(.chk [] (.c1 (.ldn 3) (.t 6))),
  (.chk [] (.cb 5 [(0,(1,(.t 5))),(2,(3,(.o1 (.ldn 3) (.t 6))))])),
  (.set 20 (.o2 (.put 2 3) (.o2 (.put 0 1) (.c (.agg #[(.slice none 0 0),(Jx JT 0),(Jx JT 0),(Jx JT 0),(Jx JT 0)])) (.t 5)) (.o1 (.ldn 3) (.t 6)))),
  (.eff [] (some 21) (.box 129) [(.t 20)] [])]
def akL:S:=(.seq (.sts [(.chk [] (.cb 3 [])),
  (.eff [] none (.store 3) [(.t 4),(.c (.agg #[(Jx JT 0),(Jx JT 0),(Jx JT 0)]))] [])]) .ret)
def ED(vs:List Value)(h:H)(K:Value->H->Prop):Prop:= ∃(u:U) (src:List UInt8) (g:FuncId) (cap:List Value) (Sx:Nat->Prop),vs=[str src,.func (.func g) #[] cap.toArray]/\src.length<=9223372036854775807/\UH u h/\(∀b,Sx b->b<h.size)/\
 (65536<src.length-> ∀u' h',jD S0 u h u' h'->K (oo (1,0)) h')/\
 (src.length<=65536-> ∀u' h' rb fb sl,jD S0 u h u' h'->h.size<=rb->h.size<=fb->fb≠rb->fb<h'.size->Af u' h' rb sl (ll src).1 ((ll src).2.1,((ll src).2.2:Int)) 0->
  kN Tryz.prog g (.pointer (some ⟨rb,0,none⟩)::cap) h'
   (λ_ h2=> ∃u2,jD (λb=>b=rb\/Sx b) u' h' u2 h2/\ ∀u3 h3,jD (λb=>b=fb) u2 h2 u3 h3->K (oo (0,0)) h3)
   (λch h2=> ∃u2 f,ch=gu f/\jD (λb=>b=rb\/Sx b) u' h' u2 h2/\ ∀u3 h3,jD (λb=>b=fb) u2 h2 u3 h3->K (oo f) h3))
def FF:lq:=λf vs h K KP=>kN Tryz.prog f vs h K KP
theorem xV:lQ Tryz.prog FF:=λ_ _ _ _ _ h=>h
theorem Yj{tmps:Array Value}{fb:Nat}{w0 w:World}{u:U}{f:Flt}(hs:tmps.size=24)(h4:tmps.getD 4 undef= .pointer (some ⟨fb,0,none⟩))(hk:pM w0 w)(hB:jR u w.heap fb [Jx JT f.1,Jx JT 0,Jx JT f.2])(hK:K (oo f) w.heap):
  Leaves Tryz.prog Tryz.f11 tmps (λe w'=>pM w0 w'/\pz K KP e w'.heap) [] .returning w:=by
 have h4':(λi=>(⟨tmps,[]⟩:Act).tmps.getD i undef) 4= .pointer (some ⟨fb,0,none⟩):=h4
 generalize hσ:(λi=>(⟨tmps,[]⟩:Act).tmps.getD i undef)=σ at h4'
 have R: @uR ⟨[]⟩ rU 24 ⟨tmps,[]⟩ σ w.heap []:=by rw[<-hσ];exact IV hs rfl
 have hB1:=hB.1
 letI:DS:=⟨[]⟩
 have:=zI (w:=w) R QL (by simp only[go_sem,xe,h4',hB.2.1])
 refine⟨_,this,hk,?_⟩
 have hv:one (xe.map λe=>val e.2 σ w.heap)=oo f:=by simp(disch:=first|omega|simp only[zz];try omega;done) only[go_sem,xe,h4',hB.at,oo]
 rw[hv]
 exact hK
set_option maxRecDepth 10000 in
theorem Dt{vs:List Value}{h:H}(hC:ED vs h K):kN Tryz.prog 11 vs h K KP:=by
 obtain⟨u,src,g,cap,Sx,rfl,hl,hG,hSx,hKL,hKR⟩:=hC
 refine .inl ⟨by kernel_rfl,λw hw=> ?_⟩
 subst hw
 refine calls_of_wp_defers Tryz.func11 rfl ?_
 obtain⟨fnv,hfnv⟩:=kg (Value.func (.func g) #[] cap.toArray)
 rw[<-hfnv]
 have s1:=jD.qZ S0 u w.heap #[Jx JT 0,Jx JT 0,Jx JT 0] 27
 have B1:=jR.new (u:=u) (h:=w.heap) [Jx JT 0,Jx JT 0,Jx JT 0] 27
 obtain⟨h1,hh1⟩:=kg (w.heap.push (.cells #[Jx JT 0,Jx JT 0,Jx JT 0] 27))
 obtain⟨u1,hu1⟩:=kg (ub u w.heap.size 0)
 have B1':jR u1 h1 w.heap.size [Jx JT 0,Jx JT 0,Jx JT 0]:=by rw[hu1,hh1];exact B1
 rw[<-hh1,<-hu1]at s1
 clear B1
 have hB1:=B1'.1
 obtain⟨Q0,hQ0⟩:=kg (α:=tH) λe σ h=>e= .normal/\σ 0=str src/\σ 1=fnv/\σ 4= .pointer (some ⟨w.heap.size,0,none⟩)/\h=h1
 -- the box of the result
 refine wp_seq (wp_mono (Yh (D:=[]) (G:=FF) (lv:=rU) (N:=24) xV mixed (s:=akI) (Q:=Q0) (by kernel_rfl) (IV zP rfl) ?_) ?_)
 ·generalize hσ:(λi=>_:Nat->Value)=σ
  have e0:σ 0=str src:=by rw[<-hσ];simp
  have e1:σ 1=fnv:=by rw[<-hσ];simp
  clear hσ
  simp only[go_sem,akI,<-hh1]
  rw[hQ0]
  exact⟨rfl,by simp [jI,e0],by simp [jI,e1],zJ,rfl⟩
 intro e a1 w1 hq
 rw[hQ0]at hq
 cases e with
 |panic c=>exact absurd hq.2.2.1 zP
 |outgrown=>exact hq.elim
 |normal=>
  obtain⟨hk1,σ1,R1,-,e0,e1,e4,hw1⟩:=hq
  -- the length
  obtain⟨Q1,hQ1⟩:=kg (α:=tH) λe σ h=>(e= .normal/\src.length<=65536/\σ 0=str src/\σ 1=fnv/\σ 4= .pointer (some ⟨w.heap.size,0,none⟩)/\h=h1)\/(e= .ret/\65536<src.length/\σ 4= .pointer (some ⟨w.heap.size,0,none⟩)/\h=jW h1 w.heap.size 0 [Jx JT 1,Jx JT 0,Jx JT 0])
  refine wp_seq (wp_mono (Yh (D:=[]) (G:=FF) (lv:=rU) (N:=24) xV mixed (s:=aja) (Q:=Q1) (by kernel_rfl) R1 ?_) ?_)
  ·rw[hw1]
   by_cases hlen:65536<src.length
   ·simp only[↓reduceIte,go_sem,aja,e0,e4,B1'.2.1,B1'.2.2.1,ai (show(65536:Int)<(src.length:Nat) by omega)]
    rw[hQ1]
    exact .inr ⟨rfl,hlen,by simp [jI,e4],rfl⟩
   ·simp only[↓reduceIte,go_sem,aja,e0,ae (show¬(65536:Int)<(src.length:Nat) by omega)]
    rw[hQ1]
    exact .inl ⟨rfl,zO,by simp [jI,e0],by simp [jI,e1],by simp [jI,e4],rfl⟩
  intro e a2 w2 hq
  rw[hQ1]at hq
  cases e with
  |panic c=>rcases hq.2.2 with⟨q,_⟩|⟨q,_⟩<;>cases q
  |outgrown=>exact hq.elim
  |ret=>
   obtain⟨hk2,σ2,R2,⟨q,_⟩|⟨-,hlen,e4',hw2⟩⟩:=hq
   ·cases q
   have B2:=B1'.sets (l:=[Jx JT 1,Jx JT 0,Jx JT 0]) rfl
   have s2:=s1.rZ (b:=w.heap.size) (o:=0) (l:=[Jx JT 1,Jx JT 0,Jx JT 0]) (.inl (ak _)) (by rw[B1'.2.2.2.1];exact aj _) (by rw[B1'.2.1];exact ak _)
   rw[<-hw2]at s2 B2
   show Leaves _ _ a2.tmps _ a2.defers .returning w2
   rw[IU R2]
   exact Yj (f:=(1,0)) (IR R2) ((rG R2 4 rfl).trans e4') (hk1.trans hk2) B2 (hKL hlen _ _ s2)
  |normal=>
   obtain⟨hk2,σ2,R2,⟨-,hlen,e0',e1',e4',hw2⟩|⟨q,_⟩⟩:=hq
   case inr=>cases q
   have t0:a2.tmps.getD 0 undef=str src:=(rG R2 0 rfl).trans e0'
   have t1:a2.tmps.getD 1 undef=fnv:=(rG R2 1 rfl).trans e1'
   have t4:a2.tmps.getD 4 undef= .pointer (some ⟨w.heap.size,0,none⟩):=(rG R2 4 rfl).trans e4'
   have tz:=IR R2
   have td:a2.defers=[]:=IU R2
   have t11: ∀X,(a2.tmps.setIfInBounds 11 X).getD 11 undef=X:=λX=>by simp [tz]
   clear R2 e0' e1' e4'
   refine wp_seq (wp_region_list ?_)
   refine agb rfl (v:= .func (.func 49) #[] #[.pointer (some ⟨w.heap.size,0,none⟩)]) (w':=w2) (by simp [execOp,Instr.makeFunc,Act.eval,t4]) ?_
   refine acS rfl (d:=⟨.fn (.func 49) #[.pointer (some ⟨w.heap.size,0,none⟩)],#[]⟩) (w':=w2) (by simp [execOp,resolve,Deferred.ofValue,Act.eval,Act.put,t11]) ?_
   obtain⟨D,hD⟩:=kg (α:=List Deferred) ([⟨.fn (.func 49) #[.pointer (some ⟨w.heap.size,0,none⟩)],#[]⟩])
   obtain⟨a3,ha3⟩:=kg (α:=Act) (⟨a2.tmps.setIfInBounds 11 (.func (.func 49) #[] #[.pointer (some ⟨w.heap.size,0,none⟩)]),D⟩)
   have z3:a3.tmps.size=24:=by rw[ha3];simp [tz]
   have d3:a3.defers=D:=by rw[ha3]
   have t30:a3.tmps.getD 0 undef=str src:=by rw[ha3];simpa [tz,eX]using t0
   have t31:a3.tmps.getD 1 undef=fnv:=by rw[ha3];simpa [tz,eX]using t1
   have t34:a3.tmps.getD 4 undef= .pointer (some ⟨w.heap.size,0,none⟩):=by rw[ha3];simpa [tz,eX]using t4
   show Code.wp _ _ _ (⟨a2.tmps.setIfInBounds 11 _,_::a2.defers⟩:Act) w2
   rw[td,<-hD,<-ha3]
   letI:DS:=⟨D⟩
   have hk02:pM w w2:=hk1.trans hk2
   obtain⟨L,hL⟩:=kg ((ll src).1)
   obtain⟨c,hc⟩:=kg ((ll src).2.1)
   obtain⟨p,hp⟩:=kg ((ll src).2.2)
   have hLl:L.length<=65537:=by rw[hL];exact vG src
   have hKR':=hKR hlen
   rw[<-hL,<-hc,<-hp]at hKR'
   obtain⟨fb,hfb⟩:=kg w.heap.size
   rw[<-hfb]at t34 B1'
   obtain⟨Q3,hQ3⟩:=kg (α:=tH) λe σ h=>e= .normal/\σ 1=fnv/\σ 4= .pointer (some ⟨fb,0,none⟩)/\ ∃(u3:U) (sl:Value) (b6:Nat),σ 5=sl/\σ 6= .pointer (some ⟨b6,0,none⟩)/\jD S0 u w.heap u3 h/\jR u3 h fb [Jx JT 0,Jx JT 0,Jx JT 0]/\jR u3 h b6 [Jx JT c,Jx JT 0,Jx JT (p:Int)]/\jS u3 h sl L
   refine wp_seq (wp_mono (vW (G:=FF) (lv:=rU) (N:=24) xV mixed _ akJ Q3 a3 _ w2 w2 (by kernel_rfl) (IV z3 d3) (pM.refl _) ?_) ?_)
   ·generalize hσ:(λi=>a3.tmps.getD i undef)=σ
    have e0:σ 0=str src:=by rw[<-hσ];exact t30
    have e1:σ 1=fnv:=by rw[<-hσ];exact t31
    have e4:σ 4= .pointer (some ⟨fb,0,none⟩):=by rw[<-hσ];exact t34
    rw[hw2]
    simp only[go_sem,akJ,e0]
    refine jC (ZP ⟨u1,src,rfl,hl,hG.mono s1.ge,λu3 h3 v s3 o3=>⟨jO,?_⟩⟩)
    rw[<-hL]at o3
    rw[<-hc,<-hp]
    obtain⟨h4,h5,u5,hh4,hh5,B4,B5,s5,hz5⟩:=rA u3 h3 [Jx JT 0,Jx JT 0,Jx JT 0] (jH c p) 27 rfl
    have st5:=(s1.tZ s3).tZ s5
    have Bf:=(B1'.sZ s3).sZ s5
    have i5:=o3.iZ.mono s5.ge
    have B41:=B4.1
    simp only[jH]at hh5 B5 ⊢
    simp(disch:=omega) only[↓reduceIte,go_sem,<-hh4,<-hh5,B4.2.1,B4.2.2.1]
    rw[hQ3]
    exact⟨rfl,by simp [jI,e1],by simp [jI,e4],u5,v,h3.size,zJ,zJ,st5,Bf,B5,i5⟩
   intro e a4 w4 hq
   rw[hQ3]at hq
   cases e with
   |panic c=>exact absurd hq.2.2.1 zP
   |outgrown=>exact hq.elim
   |normal=>
    obtain⟨hk4,σ4,R4,-,e1,e4,u4,sl,b6,e5,e6,st4,Bf4,B64,i4⟩:=hq
    obtain⟨Q5,hQ5⟩:=kg (α:=tH) λe σ h=>e= .normal/\σ 4= .pointer (some ⟨fb,0,none⟩)/\σ 17=fnv/\ ∃(u5:U) (rb:Nat),σ 21= .pointer (some ⟨rb,0,none⟩)/\jD S0 u w.heap u5 h/\jR u5 h fb [Jx JT 0,Jx JT 0,Jx JT 0]/\Af u5 h rb sl L (c,(p:Int)) 0/\fb<rb
    refine wp_seq (wp_region_list ?_)
    show wpList _ _ _ ([_,_,_,_,_]++[_]) a4 w4
    refine Cr (Q1:=CQ akH 24 w4 Q5) ?_ ?_ ?_ _ _ _ (uu (G:=FF) (lv:=akH) (N:=24) xV _ [] akK a4 _ w4 (by kernel_rfl) (IV (IR R4) (IU R4)) (pM.refl _) ?_)
    ·intro a5 w5 hq
     rw[hQ5]at hq
     obtain⟨hk5,σ5,R5,-,f4,f17,u5,rb,f21,st5,Bf5,hR5,hlt5⟩:=hq
     have g4:a5.tmps.getD 4 undef= .pointer (some ⟨fb,0,none⟩):=(rG R5 4 rfl).trans f4
     have g17:a5.tmps.getD 17 undef=fnv:=(rG R5 17 rfl).trans f17
     have g21:a5.tmps.getD 21 undef= .pointer (some ⟨rb,0,none⟩):=(rG R5 21 rfl).trans f21
     have z5:=IR R5
     have d5:=IU R5
     have hk05:pM w w5:=(hk02.trans hk4).trans hk5
     have hBf5:=Bf5.1
     have hH:=hKR' u5 w5.heap rb fb sl st5 (by rw[<-hfb];omega) (by rw[hfb];exact ak _) zO Bf5.1 hR5
     have hcat: ∀(fr:Flt) (w6:World) (u6:U),pM w w6->jR u6 w6.heap fb [Jx JT fr.1,Jx JT 0,Jx JT fr.2]->K (oo fr) w6.heap-> ∀tmps:Array Value,tmps.size=24->tmps.getD 4 undef= .pointer (some ⟨fb,0,none⟩)->
       Leaves Tryz.prog Tryz.f11 tmps (λe w'=>pM w w'/\pz K KP e w'.heap) [] .returning w6:=λfr w6 u6 hk hB hK tmps hs ht=>Yj (f:=fr) hs ht hk hB hK
     have hinv: ∀w6:World,(invoke (.fn (.func 49) #[.pointer (some ⟨w.heap.size,0,none⟩)]) #[]).run Tryz.prog w6= .ok (.enter 49 #[.pointer (some ⟨fb,0,none⟩)]) w6:=λw6=>by
      rw[<-hfb]
      have hf:=Tryz.func49
      have hb:Tryz.f49.body.isSome=true:=by kernel_rfl
      have hn : (Tryz.f49.name != "runtime.NumGoroutine") = true := by kernel_rfl
      obtain⟨bd,hbd⟩:=dC.1 hb
      simp only[bne_iff_ne,ne_eq]at hn
      simp [invoke,callFunc,hf,hn,hbd]
     unfold wpList
     rw[ah (by unfold Region.wanted;rfl)]
     refine .inl (Bd (P:=Tryz.prog) (k:= .ef .callv [.tmp 17,.tmp 21]) (by kernel_rfl) FF xV a5 w5 _ _ (λ_ h2=> ∃u2,jD (λb=>b=rb\/Sx b) u5 w5.heap u2 h2/\ ∀u3 h3,jD (λb=>b=fb) u2 h2 u3 h3->K (oo (0,0)) h3)
      (λch h2=> ∃u2 f,ch=gu f/\jD (λb=>b=rb\/Sx b) u5 w5.heap u2 h2/\ ∀u3 h3,jD (λb=>b=fb) u2 h2 u3 h3->K (oo f) h3) ?_ ?_ ?_)
     ·simp only[aS,bK,Act.eval,g17,g21,hfnv,qp]
      simpa [FF]using hH
     ·rintro v w6 hk6 ⟨u6,s6,hK6⟩
      have Bf6:=Bf5.step s6 (λq=>q.elim zO (λq=>by have:=hSx _ q;omega))
      have hBf6:=Bf6.1
      have B7:=Bf6.sets (l:=[Jx JT 0,Jx JT 0,Jx JT 0]) rfl
      have s7:=jD.sets (S:=λb=>b=fb) u6 w6.heap (b:=fb) (o:=0) [Jx JT 0,Jx JT 0,Jx JT 0] rfl (by rw[Bf6.2.2.2.1];exact aj _) (by rw[Bf6.2.1];exact ak _)
      have hK7:=hK6 _ _ s7
      obtain⟨a6,ha6⟩:=kg (a5.put (some 22) v)
      have z6:a6.tmps.size=24:=by rw[ha6];simp [Act.put,z5]
      have d6:a6.defers=D:=by rw[ha6];exact d5
      have t64:a6.tmps.getD 4 undef= .pointer (some ⟨fb,0,none⟩):=by rw[ha6];simpa [Act.put,z5,eX]using g4
      rw[<-ha6]
      obtain⟨Q6,hQ6⟩:=kg (α:=tH) λe σ h=>e= .ret/\σ 4= .pointer (some ⟨fb,0,none⟩)/\h=jW w6.heap fb 0 [Jx JT 0,Jx JT 0,Jx JT 0]
      show Code.wp _ _ _ a6 w6
      refine wp_mono (vW (G:=FF) (lv:=rU) (N:=24) xV mixed _ akL Q6 a6 _ w6 w6 (by kernel_rfl) (IV z6 d6) (pM.refl _) ?_) ?_
      ·generalize hσ:(λi=>a6.tmps.getD i undef)=σ
       have e4:σ 4= .pointer (some ⟨fb,0,none⟩):=by rw[<-hσ];exact t64
       simp only[↓reduceIte,go_sem,akL,e4,Bf6.2.1,Bf6.2.2.1]
       rw[hQ6]
       exact⟨rfl,e4,rfl⟩
      intro e a7 w7 hq
      rw[hQ6]at hq
      cases e with
      |panic c=>exact absurd hq.2.2.1 zP
      |outgrown=>exact hq.elim
      |ret=>
       obtain⟨hk7,σ7,R7,-,e4,hw7⟩:=hq
       show Leaves _ _ a7.tmps _ a7.defers .returning w7
       rw[IU R7,hD]
       refine leaves_cons zP (hinv w7) ((Vo _ w7).mono ?_)
       rintro e u' w8 ⟨rfl,rfl,rfl⟩
       rw[<-hw7]at B7 hK7
       exact hcat (0,0) w8 u6 ((hk05.trans hk6).trans hk7) B7 hK7 a7.tmps (IR R7) ((rG R7 4 rfl).trans e4)
      |_=>obtain⟨_,_,_,q,_⟩:=hq;cases q
     ·rintro ch w6 hk6 ⟨u6,f,rfl,s6,hK6⟩
      have Bf6:=Bf5.step s6 (λq=>q.elim zO (λq=>by have:=hSx _ q;omega))
      show Leaves _ _ a5.tmps _ a5.defers (.panicking (gu f)) w6
      rw[d5]
      show Leaves _ _ a5.tmps _ D (.panicking (gu f)) w6
      rw[hD]
      have s7:=jD.qZ (λb=>b=fb) u6 w6.heap #[Jx JT f.1,Jx JT 0,Jx JT f.2] 125
      have Bf7:=Bf6.sZ (jD.qZ S0 u6 w6.heap #[Jx JT f.1,Jx JT 0,Jx JT f.2] 125)
      have B8:=Bf7.sets (l:=[Jx JT f.1,Jx JT 0,Jx JT f.2]) rfl
      have s8:=s7.rZ (b:=fb) (o:=0) (l:=[Jx JT f.1,Jx JT 0,Jx JT f.2]) (.inr rfl) (by rw[Bf7.2.2.2.1];exact aj _) (by rw[Bf7.2.1];exact ak _)
      have hK8:=hK6 _ _ s8
      refine leaves_cons zP (hinv w6) ((Gm fb f w6 Bf6.2.1 Bf6.2.2.1 Bf6.1).mono ?_)
      rintro e u' w8 ⟨rfl,rfl,hk8,hw8⟩
      rw[<-hw8]at B8 hK8
      show Leaves _ _ a5.tmps _ [] (settle _) w8
      exact hcat f w8 _ ((hk05.trans hk6).trans hk8) B8 hK8 a5.tmps z5 g4
    ·intro ch a5 w5 hq
     rw[hQ5]at hq
     exact absurd hq.2.2.1 zP
    ·rintro ⟨_,_,hq⟩;exact hq.elim
    ·generalize hσ:(λi=>a4.tmps.getD i undef)=σ
     have e1':σ 1=fnv:=by rw[<-hσ];exact(rG R4 1 rfl).trans e1
     have e4':σ 4= .pointer (some ⟨fb,0,none⟩):=by rw[<-hσ];exact(rG R4 4 rfl).trans e4
     have e5':σ 5=sl:=by rw[<-hσ];exact(rG R4 5 rfl).trans e5
     have e6':σ 6= .pointer (some ⟨b6,0,none⟩):=by rw[<-hσ];exact(rG R4 6 rfl).trans e6
     obtain⟨sa,sc,rfl,m1,m2⟩:=i4.sl
     have sp:=jD.qZ S0 u4 w4.heap #[.slice sa L.length sc,Jx JT 0,Jx JT c,Jx JT 0,Jx JT (p:Int)] 129
     have Bn:=jR.new (u:=u4) (h:=w4.heap) [.slice sa L.length sc,Jx JT 0,Jx JT c,Jx JT 0,Jx JT (p:Int)] 129
     have Bf5:=Bf4.sZ sp
     have i5:=i4.mono sp.ge
     have hB64:=B64.1
     have hBf4:=Bf4.1
     simp(disch:=first|omega|simp only[zz];try omega;done) only[↓reduceIte,go_sem,akK,e1',e5',e6',B64.at,B64.2.1]
     rw[hQ5]
     exact⟨rfl,by simp [jI,e4'],zJ,_,w4.heap.size,zJ,st4.tZ sp,Bf5,⟨Bn,aj _,i5,hLl⟩,zO⟩
   |_=>obtain⟨_,_,_,q,_⟩:=hq;cases q
  |_=>obtain⟨_,_,_,⟨q,_⟩|⟨q,_⟩⟩:=hq<;>cases q
 |_=>obtain⟨_,_,_,q,_⟩:=hq;cases q
end Go.Proofs.Z
namespace Edict
def Vn(src:List UInt8):Flt:=((ll src).2.1,((ll src).2.2:Int))
def mg{α:Type}(r:Flt->List kR->Except Flt α)(src:List UInt8):Except Flt α:=if 65536<src.length then .error (1,0)else r (Vn src) (ll src).1
theorem Ae{src:List UInt8}(h:src.length<=65536):oO (ll src).1 (Vn src):=by
 have hs:ll src=mH src 0:=by unfold ll mH;rw[af zO]
 exact ZL (IY (s:=src) (k:=0) (l:=(ll src).1) (c:=(ll src).2.1) (p:=(ll src).2.2) (aj _) (by rw[<-hs]))
end Edict
namespace Go.Ev
open Go Rep Edict
end Go.Ev
namespace Go.Proofs.Z
open Go Go.Ev Edict
def sF:S->S| .seq a _=>a|s=>s
def sS:S->S| .seq _ b=>b|s=>s
end Go.Proofs.Z
namespace Edict
open Go Go.Ev
variable {bad:Flt} {l:List kR} {n o:Nat} {q:List kR} {s:List UInt8} {t:kR}
def TW(t:kR):Prop:=(tX t).length<=65536/\(-9223372036854775808<=tI t/\tI t<=9223372036854775807)/\(0<=tP t/\tP t<=6)/\0<=tO t/\tO t<=65536
theorem Vl{s:List UInt8}{o i:Nat}{acc:List UInt8}{t:kR}(h:og s o i acc= .ok t)(ha:acc.length<=255)(ho:o<=65536):TW t:=by
 unfold og at h
 split at h
 ·split at h
  ·cases h;exact⟨by simp only[tX];omega,⟨by simp [tI],by simp [tI]⟩,⟨by simp [tP],by simp [tP]⟩,by simp [tO],by simp only[tO];omega⟩
  ·split at h
   ·split at h
    ·cases h
    ·split at h
     ·cases h
     ·exact Vl h (by rw[ay,aZ];omega) ho
   ·split at h
    ·cases h
    ·exact Vl h (by rw[ay,aZ];omega) ho
 ·cases h
termination_by s.length - i
decreasing_by all_goals first|omega|(have:=Dm s i;omega)
theorem Yd{k n p o e:Int}{v:List UInt8}(h1:v.length<=65536)(h2: -9223372036854775808<=n)(h3:n<=9223372036854775807)(h4:0<=p)(h5:p<=6)(h6:0<=o)(h7:o<=65536):TW (k,v,n,p,o,e):=⟨h1,⟨h2,h3⟩,⟨h4,h5⟩,h6,h7⟩
theorem af7(ho:o<=65536)(h:uz s o= .ok t):TW t:=by
 have k: ∀{c:Prop} [Decidable c] {a b:TR},(a= .ok t->TW t)->(b= .ok t->TW t)->(if c then a else b)= .ok t->TW t:=λh1 h2 h=>by
  split at h
  ·exact h1 h
  ·exact h2 h
 have g: ∀{k p:Int} {n:Nat},0<=p->p<=6->Pq k p o n= .ok t->TW t:=λh1 h2 h=>by cases h;exact Yd zP zO zO h1 h2 zO zO
 unfold uz at h
 repeat' first
  |exact absurd h zP
  |refine k (g zD zD) (λh=> ?_) h
  |cases h
theorem ai8(hs:s.length<=65536)(ho:o<=s.length)(h:xw s o= .ok t):TW t:=by
 have h1:=wV s o ho
 have hl:(sub s o (oW s o)).length<=65536:=by rw[Dn h1];omega
 have hi: ∀b,si s o b= .ok t->TW t:=λb h=>by
  unfold si at h
  repeat' split at h
  all_goals cases h
  all_goals exact Yd zP zO zO zO zO zO zO
 unfold xw at h
 split at h
 ·cases h;exact Yd zP zO zO zO zO zO zO
 split at h
 ·exact hi _ h
 split at h
 ·exact hi _ h
 split at h
 ·unfold nP at h
  repeat' split at h
  all_goals cases h
  all_goals exact Yd (by first|exact hl|simp) zO zO zO zO zO zO
 split at h
 ·exact Vl h zP zO
 ·exact af7 zO h
theorem Ye{s:List UInt8}(hs:s.length<=65536): ∀n k,k<=s.length->(wh s n k).1.length<=n/\ ∀t∈(wh s n k).1,TW t
 |0,_,_=>⟨ak _,λt h=>by cases h⟩
 |n+1,k,hk=>by
  unfold wh
  cases hx:oK s k with
  |bad c o=>exact⟨aj _,λt h=>by cases h⟩
  |ok t=>
   obtain⟨c,v,a,p,o,e,h1,q1,q2,q3,q4⟩:=wW hk hx
   have ht:TW t:=by
    unfold oK at hx
    split at hx
    ·exact ai8 hs (zX hk) hx
    ·cases hx
   have ih:=Ye hs n e q2
   by_cases h0:t.1=0
   ·simp only[h0,bv];exact⟨zP,λx hx=>by rw[aY]at hx;rwa [hx]⟩
   ·simp only[h0,aW]
    rw[show t.2.2.2.2.2.toNat=e by rw[h1];rfl]
    refine⟨by rw[au];omega,λx hx=> ?_⟩
    rcases aH.1 hx with rfl|hx
    ·exact ht
    ·exact ih.2 x hx
def LK(n:Nat)(l:List kR):Prop:=l.length<=n/\ ∀t∈l,TW t
theorem LK.tail(h:LK n (t::l)):TW t/\LK n l/\l.length<n:=⟨h.2 t zP,⟨Nat.le_of_succ_le h.1,λx hx=>h.2 x (by simp [hx])⟩,h.1⟩
theorem NK(h:TW t):Rep.wf (kM t):=by
 obtain⟨h1,h2,-,h3,h4⟩:=h
 have e:maxLen=9223372036854775807:=rfl
 unfold kM
 repeat' split
 all_goals (refine⟨⟨zP,zP⟩,⟨?_,?_⟩,?_,⟨?_,?_⟩⟩<;>simp only[Rep.wf,aA]<;>omega)
theorem Yf{bad:Flt}{vars:Bool}{n:Nat}: ∀{l:List kR} {acc a:List uQ} {q:List kR},rD bad vars acc l= .ok (a,q)->LK n l->(∀x∈acc,Rep.wf x)->(∀x∈a,Rep.wf x)/\a.length+q.length<=acc.length+l.length/\LK n q
 |[],acc,a,q,h,hl,ha=>by unfold rD at h;cases h
 |[t],acc,a,q,h,hl,ha=>by
  unfold rD at h
  split at h
  ·cases h
  ·split at h<;>cases h
 |t::c::r,acc,a,q,h,hl,ha=>by
  obtain⟨t1,t2,-⟩:=hl.tail
  obtain⟨-,t3,-⟩:=t2.tail
  have hn: ∀x∈acc++[kM t],Rep.wf x:=λx hx=>by
   rcases aV.1 hx with hx|hx
   ·exact ha x hx
   ·rw[aY]at hx;rw[hx];exact NK t1
  rw[wB]at h
  split at h
  ·cases h
  split at h
  ·cases h
  simp only at h
  split at h
  ·obtain⟨k1,k2,k3⟩:=Yf h t3 hn
   exact⟨k1,by simp only[ay,au,aA]at k2 ⊢;omega,k3⟩
  split at h
  ·cases h
   exact⟨hn,by simp only[ay,au,aA];omega,t3⟩
  ·cases h
theorem GM{vars:Bool}{a:qX}(hn:n<=65537)(h:nI bad vars l= .ok (a,q))(hl:LK n l):Rep.wf a/\LK n q:=by
 have e:maxLen=9223372036854775807:=rfl
 unfold nI at h
 split at h
 ·cases h
 rename_i t l
 obtain⟨⟨b1,b2,-,b3,b4⟩,t2,hn2⟩:=hl.tail
 split at h
 ·cases h
 split at h
 ·cases h
 rename_i p r
 split at h
 ·cases h
  exact⟨⟨aT b1 zD,⟨aj _,λx hx=>by cases hx⟩,by show -9223372036854775808<=tO t;omega,by show tO t<=9223372036854775807;omega⟩,t2⟩
 split at h
 ·cases h
 rename_i a' q' hx
 cases h
 obtain⟨k1,k2,k3⟩:=Yf hx t2.tail.2.1 (λx hx=>by cases hx)
 have:=t2.1
 simp only[au,aA]at k2 this
 exact⟨⟨aT b1 zD,⟨by show a'.length<=9223372036854775807;omega,k1⟩,by show -9223372036854775808<=tO t;omega,by show tO t<=9223372036854775807;omega⟩,k3⟩
theorem Dr:Rep.wf kD/\Rep.wf nM:=by
 refine⟨⟨⟨?_,?_⟩,⟨?_,?_⟩,?_,⟨?_,?_⟩⟩,?_,⟨?_,λx hx=>by cases hx⟩,⟨?_,?_⟩⟩<;>first|exact aj _|decide
theorem ai9{x:uD}(hn:n<=65537)(h:uX bad l= .ok (x,q))(hl:LK n l):Rep.wf x/\LK n q:=by
 unfold uX at h
 split at h
 ·cases h
 rename_i t l
 obtain⟨t1,t2,-⟩:=hl.tail
 obtain⟨-,-,-,b3,b4⟩:=t1
 have hk: ∀k:Int,0<=k->k<=65536->Rep.wf k:=λk h1 h2=>⟨zO,zO⟩
 split at h
 ·split at h
  ·cases h
  rename_i a q hx
  cases h
  obtain⟨k1,k2⟩:=GM hn hx t2
  exact⟨⟨hk 2 zO zO,k1,hk 0 zO zO,Dr.1,Dr.1,hk _ b3 b4⟩,k2⟩
 split at h
 ·split at h
  ·cases h
  rename_i a q hx
  cases h
  obtain⟨k1,k2⟩:=GM hn hx hl
  exact⟨⟨hk 1 zO zO,k1,hk 0 zO zO,Dr.1,Dr.1,hk _ b3 b4⟩,k2⟩
 split at h
 ·cases h
 split at h
 ·cases h
 split at h
 ·cases h
 split at h
 ·cases h
 split at h
 ·cases h
 cases h
 obtain⟨o1,o2,-⟩:=t2.tail
 obtain⟨y1,y2,-⟩:=o2.tail
 obtain⟨-,-,⟨c1,c2⟩,-⟩:=o1
 exact⟨⟨hk 3 zO zO,Dr.2,hk _ c1 (Int.le_trans c2 zD),NK (hl.tail.1),NK y1,hk _ b3 b4⟩,y2⟩
theorem Yg{bad:Flt}{n:Nat}(hn:n<=65537): ∀{l:List kR} {acc a:List uD} {q:List kR},pV bad acc l= .ok (a,q)->LK n l->(∀x∈acc,Rep.wf x)->(∀x∈a,Rep.wf x)/\a.length+q.length<=acc.length+l.length/\LK n q
 |[],acc,a,q,h,hl,ha=>by rw[xZ]at h;cases h
 |t::l,acc,a,q,h,hl,ha=>by
  by_cases hf:16<=acc.length/\(tK t=10\/pK (tK t) true=true)
  ·rw[yO hf]at h;cases h
  cases he:uX bad (t::l)with
  |error e=>rw[vE hf he]at h;cases h
  |ok xq=>
   obtain⟨x,r⟩:=xq
   rw[Bv hf he]at h
   have hll:=Ah he
   obtain⟨x1,x2⟩:=ai9 hn he hl
   have hx: ∀y∈acc++[x],Rep.wf y:=λy hy=>by
    rcases aV.1 hy with hy|hy
    ·exact ha y hy
    ·rw[aY]at hy;rw[hy];exact x1
   cases r with
   |nil=>cases h
   |cons c r=>
    simp only[au]at hll ⊢
    simp only at h
    split at h
    ·obtain⟨k1,k2,k3⟩:=Yg hn (l:=r) h x2.tail.2.1 hx
     exact⟨k1,by simp only[ay,au,aA]at k2 ⊢;omega,k3⟩
    ·split at h
     ·cases h;exact⟨hx,by simp only[ay,au,aA];omega,x2.tail.2.1⟩
     ·cases h
termination_by l=>l.length
decreasing_by simp only[au]at*;omega
theorem ZJ{x:qg}(hn:n<=65537)(h:nO bad l= .ok (x,q))(hl:LK n l):Rep.wf x/\LK n q:=by
 have e:maxLen=9223372036854775807:=rfl
 unfold nO at h
 split at h
 ·cases h
 rename_i a q' ha
 obtain⟨k1,k2⟩:=GM hn ha hl
 split at h
 ·cases h
 rename_i c r
 split at h
 ·cases h;exact⟨⟨k1,zP,λx hx=>by cases hx⟩,k2.tail.2.1⟩
 split at h
 ·split at h
  ·cases h
  rename_i hb
  cases h
  obtain⟨j1,j2,j3⟩:=Yg hn hb k2.tail.2.1 (λx hx=>by cases hx)
  have:=k2.tail.2.2
  simp only[aA]at j2
  exact⟨⟨k1,aT (aT (gN _ _) j2) zO,j1⟩,j3⟩
 ·cases h
theorem af8{x:qX}(hn:n<=65537)(h:rq bad l= .ok (x,q))(hl:LK n l):Rep.wf x/\LK n q:=by
 unfold rq at h
 split at h
 ·cases h
 rename_i a q' ha
 obtain⟨k1,k2⟩:=GM hn ha hl
 split at h
 ·cases h
 rename_i c r
 split at h
 ·cases h;exact⟨k1,k2.tail.2.1⟩
 ·cases h
theorem Vm{α:Type} [Rep α]{bad:Flt}{m n:Nat}{one:List kR->PR α}{hone: ∀l x q,one l= .ok (x,q)->q.length<l.length}(hw: ∀l x q,one l= .ok (x,q)->LK n l->Rep.wf x/\LK n q):
  ∀{l:List kR} {acc r:List α},Aj bad m one hone acc l= .ok r->LK n l->(∀x∈acc,Rep.wf x)->(∀x∈r,Rep.wf x)/\r.length<=acc.length+l.length
 |[],acc,r,h,hl,ha=>by rw[Dy]at h;cases h
 |t::l,acc,r,h,hl,ha=>by
  by_cases h0:tK t=0
  ·rw[Dz h0]at h;cases h;exact⟨ha,gN _ _⟩
  by_cases h1:m<=acc.length/\tK t=1
  ·rw[Bz h0 h1]at h;cases h
  cases he:one (t::l)with
  |error e=>rw[DD h0 h1 he]at h;cases h
  |ok xq=>
   obtain⟨x,q⟩:=xq
   rw[GR h0 h1 he]at h
   have hlt:=hone _ _ _ he
   obtain⟨k1,k2⟩:=hw _ _ _ he hl
   obtain⟨j1,j2⟩:=Vm hw h k2 λy hy=>by
    rcases aV.1 hy with hy|hy
    ·exact ha y hy
    ·rw[aY]at hy;rw[hy];exact k1
   exact⟨j1,by simp only[ay,au,aA]at j2 hlt ⊢;omega⟩
termination_by l=>l.length
def BU{α:Type}(r:Flt->List kR->Except Flt (List α))(src:List UInt8):List α×Flt:=match mg r src with| .error e=>([],e)| .ok a=>(a,(0,0))
theorem acQ{α:Type} [Rep α]{r:Flt->List kR->Except Flt (List α)}{src:List UInt8}(h: ∀b l a,r b l= .ok a->LK 65537 l->(∀x∈a,Rep.wf x)/\a.length<=65537):Rep.wf (BU r src).1:=by
 unfold BU mg
 by_cases hs:65536<src.length
 ·rw[ah hs];exact⟨zP,λx hx=>by cases hx⟩
 ·rw[af hs]
  cases he:r (Vn src) (ll src).1 with
  |error e=>exact⟨zP,λx hx=>by cases hx⟩
  |ok a=>
   have k:LK 65537 (ll src).1:=by
    unfold ll;rw[af hs]
    have:=Ye (s:=src) zO (src.length+1) 0 (aj _)
    exact⟨zO,this.2⟩
   obtain⟨h1,h2⟩:=h _ _ _ he k
   exact⟨aT h2 zD,h1⟩
theorem af9(src:List UInt8):Rep.wf (BU (λb l=>nQ b [] l) src).1:=
 acQ λb l a h k=>by
  obtain⟨h1,h2⟩:=Vm (λl x q=>ZJ (ak _)) h k λx hx=>by cases hx
  exact⟨h1,by have:=k.1;simp only[aA]at h2;omega⟩
theorem acR(src:List UInt8):Rep.wf (BU (λb l=>mh b [] l) src).1:=
 acQ λb l a h k=>by
  obtain⟨h1,h2⟩:=Vm (λl x q=>af8 (ak _)) h k λx hx=>by cases hx
  exact⟨h1,by have:=k.1;simp only[aA]at h2;omega⟩
end Edict
namespace Edict
def Lf(k:Int):Bool:=decide (k=10) || pK k true
def yx(bad:Flt)(t:kR)(l:List kR):PR uD:=if pK (tK t) true=false then .error (kH t)else
   match l with
   |[]=> .error bad
   |o::r=>if tK o≠11 then .error (kH o)else
    match r with
    |[]=> .error bad
    |y::q=>if pK (tK y) true=false then .error (kH y)else .ok ((3,nM,tP o,kM t,kM y,tO t),q)
section
variable {bad:Flt} {t o y:kR} {l r q:List kR} {e:Flt} {a:qX}
theorem aa5(h:tK t=10)(he:nI bad true l= .error e):uX bad (t::l)= .error e:=by
 show(if tK t=10 then _ else _)=_
 rw[ah h,he]
theorem aa6(h:tK t=10)(he:nI bad true l= .ok (a,q)):uX bad (t::l)= .ok ((2,a,0,kD,kD,tO t),q):=by
 show(if tK t=10 then _ else _)=_
 rw[ah h,he]
theorem aa7(h:tK t≠10)(h1:tK t=1/\zm l=false)(he:nI bad true (t::l)= .error e):uX bad (t::l)= .error e:=by
 show(if tK t=10 then _ else if _ then _ else _)=_
 rw[af h,ah h1,he]
theorem aa8(h:tK t≠10)(h1:tK t=1/\zm l=false)(he:nI bad true (t::l)= .ok (a,q)):uX bad (t::l)= .ok ((1,a,0,kD,kD,tO t),q):=by
 show(if tK t=10 then _ else if _ then _ else _)=_
 rw[af h,ah h1,he]
theorem MI(h:tK t≠10)(h1: ¬(tK t=1/\zm l=false)):uX bad (t::l)=yx bad t l:=by
 show(if tK t=10 then _ else if _ then _ else _)=_
 rw[af h,af h1]
 cases l with
 |nil=>rfl
 |cons o r=>cases r<;>rfl
theorem OW(h:pK (tK t) true=false):yx bad t l= .error (kH t):=by unfold yx;rw[ah h]
theorem ahb(h:pK (tK t) true=true):yx bad t []= .error bad:=by unfold yx;rw[af (by simp [h])]
theorem ahc(h:pK (tK t) true=true)(ho:tK o≠11):yx bad t (o::r)= .error (kH o):=by unfold yx;rw[af (by simp [h])];show(if tK o≠11 then _ else _)=_;rw[ah ho]
theorem ahd(h:pK (tK t) true=true)(ho:tK o=11):yx bad t [o]= .error bad:=by unfold yx;rw[af (by simp [h])];show(if tK o≠11 then _ else _)=_;rw[af (by simp [ho])]
theorem ahe(h:pK (tK t) true=true)(ho:tK o=11)(hy:pK (tK y) true=false):yx bad t (o::y::q)= .error (kH y):=by unfold yx;rw[af (by simp [h])];show(if tK o≠11 then _ else _)=_;rw[af (by simp [ho])];show(if pK (tK y) true=false then _ else _)=_;rw[ah hy]
theorem ahf(h:pK (tK t) true=true)(ho:tK o=11)(hy:pK (tK y) true=true):yx bad t (o::y::q)= .ok ((3,nM,tP o,kM t,kM y,tO t),q):=by unfold yx;rw[af (by simp [h])];show(if tK o≠11 then _ else _)=_;rw[af (by simp [ho])];show(if pK (tK y) true=false then _ else _)=_;rw[af (by simp [hy])]
end
def qj(x:uD)(w:Go.Value):List Go.Value:=[Jx JT x.1,Go.Ev.str x.2.1.1,w,Jx JT x.2.1.2.2,Jx JT x.2.2.1,Jx JT x.2.2.2.1.1,Jx JT x.2.2.2.1.2.1,Go.Ev.str x.2.2.2.1.2.2.1,Jx JT x.2.2.2.1.2.2.2,Jx JT x.2.2.2.2.1.1,Jx JT x.2.2.2.2.1.2.1,Go.Ev.str x.2.2.2.2.1.2.2.1,Jx JT x.2.2.2.2.1.2.2.2,Jx JT x.2.2.2.2.2]
end Edict
namespace Go.Ev
theorem jR.sets4{u:U}{h:H}{b:Nat}{cs:List Value}{o:Nat}{x0 x1 x2 x3:Value}(k:jR u h b cs)(ho:o+4<=cs.length):jR u (jW h b o [x0,x1,x2,x3]) b ((((cs.set o x0).set (o+1) x1).set (o+2) x2).set (o+3) x3):=
 (((k.set (i:=o) (v:=x0) zO).set (i:=o+1) (v:=x1) (by simp;omega)).set (i:=o+2) (v:=x2) (by simp;omega)).set (i:=o+3) (v:=x3) (by simp;omega)
end Go.Ev
namespace Go.Proofs.Z
open Go Go.Ev Edict
variable {vs:List Value} {h:H} {K:Value->H->Prop} {KP:List PanicEntry->H->Prop}
def MJ(vs:List Value)(h:H)(K:Value->H->Prop):Prop:= ∃(k:Int),vs=[Jx JT k]/\K (.bool (Lf k)) h
def akZ:lq:=λf vs h K KP=>f=53/\Bt vs h K
theorem aes:lQ Tryz.prog akZ:=by
 rintro f vs h K KP ⟨rfl,hC⟩;exact Ag hC
theorem TE(hC:MJ vs h K):kN Tryz.prog 91 vs h K KP:=by
 obtain⟨k,rfl,hK⟩:=hC
 refine jJ 5 [(none,(.t 2))] aes Tryz.func91 ?_
 unfold Lf at hK
 by_cases hk:k=10
 ·subst hk
  simp only[decide_true,eF]at hK
  simp only[↓reduceIte,go_sem]
  exact hK
 rw[aI hk,dZ]at hK
 simp only[↓reduceIte,go_sem,ae hk]
 refine jC ⟨rfl,k,true,rfl,⟨jO,?_⟩⟩
 simp only[↓reduceIte,go_sem,ae hk]
 exact hK
def TF(vs:List Value)(h:H)(K:Value->H->Prop):Prop:= ∃(u:U) (rb:Nat) (sl:Value) (L:List kR) (bad:Flt) (i:Nat),vs=[.pointer (some ⟨rb,0,none⟩)]/\Af u h rb sl L bad i/\K (.bool (zm (L.drop (i+1)))) h
theorem Xd(hC:TF vs h K):kN Tryz.prog 113 vs h K KP:=by
 obtain⟨u,rb,sl,L,bad,i,rfl,⟨hB,hi,hL,hLl⟩,hK⟩:=hC
 obtain⟨a,c,rfl,q1,q2⟩:=hL.sl
 refine jJ 5 [(none,(.t 2))] (G:=(λ_ _ _ _ _=>False)) (λ_ _ _ _ _ h=>h.elim) Tryz.func113 ?_ (by kernel_rfl) (by apply c0 rfl;repeat' first|apply cS|apply cK|apply cL|apply cX|(apply cC zD)|with_reducible exact cV 1 (.sts [(zk .nilck (.t 0)),(zg 1 (.t 0)),(zh (zf 1 (.t 0))),(zq .add (zl (zf 1 (.t 0))) (zv 1)),(zk .nilck (.t 0)),(zg 0 (.t 0)),(zh (zf 0 (.t 0))),(zk .len (zl (zf 0 (.t 0)))),(zq .lss (zb .add (zl (zf 1 (.t 0))) (zv 1)) (.o1 .len (zl (zf 0 (.t 0))))),(.chk [((zb .lss (zb .add (zl (zf 1 (.t 0))) (zv 1)) (.o1 .len (zl (zf 0 (.t 0))))),true)] (.c1 .nilck (.t 0))),(.chk [((zb .lss (zb .add (zl (zf 1 (.t 0))) (zv 1)) (.o1 .len (zl (zf 0 (.t 0))))),true)] (.c1 (.fld 0) (.t 0))),(.chk [((zb .lss (zb .add (zl (zf 1 (.t 0))) (zv 1)) (.o1 .len (zl (zf 0 (.t 0))))),true)] (.c1 .ld1 (zf 0 (.t 0)))),(.chk [((zb .lss (zb .add (zl (zf 1 (.t 0))) (zv 1)) (.o1 .len (zl (zf 0 (.t 0))))),true)] (.c1 .nilck (.t 0))),(.chk [((zb .lss (zb .add (zl (zf 1 (.t 0))) (zv 1)) (.o1 .len (zl (zf 0 (.t 0))))),true)] (.c1 (.fld 1) (.t 0))),(.chk [((zb .lss (zb .add (zl (zf 1 (.t 0))) (zv 1)) (.o1 .len (zl (zf 0 (.t 0))))),true)] (.c1 .ld1 (zf 1 (.t 0)))),(.chk [((zb .lss (zb .add (zl (zf 1 (.t 0))) (zv 1)) (.o1 .len (zl (zf 0 (.t 0))))),true)] (.c2 (.bin .add) (zl (zf 1 (.t 0))) (zv 1))),(.chk [((zb .lss (zb .add (zl (zf 1 (.t 0))) (zv 1)) (.o1 .len (zl (zf 0 (.t 0))))),true)] (.c2 (.idxA 6) (zl (zf 0 (.t 0))) (zb .add (zl (zf 1 (.t 0))) (zv 1)))),(.chk [((zb .lss (zb .add (zl (zf 1 (.t 0))) (zv 1)) (.o1 .len (zl (zf 0 (.t 0))))),true)] (.c1 (.fld 0) (zi 6 (zl (zf 0 (.t 0))) (zb .add (zl (zf 1 (.t 0))) (zv 1))))),(.chk [((zb .lss (zb .add (zl (zf 1 (.t 0))) (zv 1)) (.o1 .len (zl (zf 0 (.t 0))))),true)] (.c1 .ld1 (zf 0 (zi 6 (zl (zf 0 (.t 0))) (zb .add (zl (zf 1 (.t 0))) (zv 1)))))),(.chk [((zb .lss (zb .add (zl (zf 1 (.t 0))) (zv 1)) (.o1 .len (zl (zf 0 (.t 0))))),true)] (.c2 (.bin .eql) (zl (zf 0 (zi 6 (zl (zf 0 (.t 0))) (zb .add (zl (zf 1 (.t 0))) (zv 1))))) (zv 11))),(.chk [] (.c3 .pick (zb .lss (zb .add (zl (zf 1 (.t 0))) (zv 1)) (.o1 .len (zl (zf 0 (.t 0))))) (zb .eql (zl (zf 0 (zi 6 (zl (zf 0 (.t 0))) (zb .add (zl (zf 1 (.t 0))) (zv 1))))) (zv 11)) (.c (.bool false)))),(.set 2 (.o3 .pick (zb .lss (zb .add (zl (zf 1 (.t 0))) (zv 1)) (.o1 .len (zl (zf 0 (.t 0))))) (zb .eql (zl (zf 0 (zi 6 (zl (zf 0 (.t 0))) (zb .add (zl (zf 1 (.t 0))) (zv 1))))) (zv 11)) (.c (.bool false))))]) (by kernel_rfl)|(conv=>lhs;cbv;try simp only[Kw]))
 have hB1:=hB.1
 cases hd:L.drop (i+1)with
 |nil=>
  have hge:=QA hd
  rw[hd]at hK
  have hK':K (.bool false) h:=hK
  simp(disch:=first|omega|simp only[zz];try omega;done) only[↓reduceIte,go_sem,hB.at,hB.2.1,ae (show¬((i:Int)+1<(L.length:Nat)) by omega)]
  exact hK'
 |cons t r=>
  obtain⟨hlt,hget,hd'⟩:=mD hd
  rw[hd]at hK
  have hK':K (.bool (decide (t.1=11))) h:=hK
  obtain⟨pb,po,rfl,hpb,hpu,hpz,hpr⟩:=hL.row (i+1) t hget
  rw[qh]at hpr
  simp only[kU,yP,qU,ax,aC]at hpr hpu hpz
  obtain⟨p0,p1,p2,p3,p4,p5⟩:=hpr
  have hn:((i:Int)+1).toNat=i+1:=zO
  have hz0:po+(i+1)*6<lS h pb:=zO
  by_cases h11:t.1=11
  ·rw[bq h11]at hK'
   simp(disch:=first|omega|simp only[zz];try omega;done) only[↓reduceIte,go_sem,hB.at,hB.2.1,ai (show((i:Int)+1<(L.length:Nat)) by omega),ai (show(0:Int)<=(i:Int)+1 by omega),hn,hz0,p0,h11]
   exact hK'
  ·rw[aI h11]at hK'
   simp(disch:=first|omega|simp only[zz];try omega;done) only[↓reduceIte,go_sem,hB.at,hB.2.1,ai (show((i:Int)+1<(L.length:Nat)) by omega),ai (show(0:Int)<=(i:Int)+1 by omega),hn,hz0,p0,ae h11]
   exact hK'
def aet(vs:List Value)(h:H)(K:Value->H->Prop)(KP:List PanicEntry->H->Prop):Prop:= ∃(u:U) (rb:Nat) (sl:Value) (L:List kR) (bad:Flt) (i:Nat),vs=[.pointer (some ⟨rb,0,none⟩)]/\Af u h rb sl L bad i/\
 (∀e,uX bad (L.drop i)= .error e-> ∀u' h',jD (λb=>b=rb) u h u' h'->KP (gu e) h')/\
 (∀x q,uX bad (L.drop i)= .ok (x,q)-> ∀u' h' w i',jD (λb=>b=rb) u h u' h'->Af u' h' rb sl L bad i'->L.drop i'=q->jS u' h' w x.2.1.2.1->K (.agg (qj x w).toArray) h')
def ahO:lq:=λf vs h K KP=>(f=13/\sJ vs h K KP)\/(f=17/\GN vs h K KP)\/(f=113/\TF vs h K)\/(f=54/\NL vs h K KP)\/(f=18/\GQ vs h K KP)
theorem aeu:lQ Tryz.prog ahO:=by
 rintro f vs h K KP (⟨rfl,hC⟩|⟨rfl,hC⟩|⟨rfl,hC⟩|⟨rfl,hC⟩|⟨rfl,hC⟩)
 ·exact qA hC
 ·exact EE hC
 ·exact Xd hC
 ·exact LM hC
 ·exact EF hC
def ajx:S:=sS (sS (sS (sS uY)))
theorem ahg:uY= .seq (sF uY) (.seq (sF (sS uY)) (.seq (sF (sS (sS uY))) (.seq (sF (sS (sS (sS uY)))) ajx))):=rfl
theorem aev(hC:aet vs h K KP):kN Tryz.prog 92 vs h K KP:=by
 obtain⟨u,rb,sl,L,bad,i,rfl,hR,hKE,hKO⟩:=hC
 refine jJ (s:=uY) 536871453 [((some (.c1 (.ldn 14) (.t 2))),(.o1 (.ldn 14) (.t 2)))] aeu Tryz.func92 ?_ (by kernel_rfl) (by kernel_rfl)
 have s1:=jD.qZ S0 u h #[Jx JT 0,str [],.slice none 0 0,Jx JT 0,Jx JT 0,Jx JT 0,Jx JT 0,str [],Jx JT 0,Jx JT 0,Jx JT 0,str [],Jx JT 0,Jx JT 0] 141
 have B1:=jR.new (u:=u) (h:=h) [Jx JT 0,str [],.slice none 0 0,Jx JT 0,Jx JT 0,Jx JT 0,Jx JT 0,str [],Jx JT 0,Jx JT 0,Jx JT 0,str [],Jx JT 0,Jx JT 0] 141
 obtain⟨h1,hh1⟩:=kg (h.push (.cells #[Jx JT 0,str [],.slice none 0 0,Jx JT 0,Jx JT 0,Jx JT 0,Jx JT 0,str [],Jx JT 0,Jx JT 0,Jx JT 0,str [],Jx JT 0,Jx JT 0] 141))
 obtain⟨u1,hu1⟩:=kg (ub u h.size 0)
 have B1':jR u1 h1 h.size [Jx JT 0,str [],.slice none 0 0,Jx JT 0,Jx JT 0,Jx JT 0,Jx JT 0,str [],Jx JT 0,Jx JT 0,Jx JT 0,str [],Jx JT 0,Jx JT 0]:=by rw[hu1,hh1];exact B1
 rw[<-hh1,<-hu1]at s1
 clear B1
 have hR1:=hR.sZ s1
 have hrb:rb<h.size:=hR.1.1
 have hLl:=hR.2.2.2
 have hne1:h.size≠rb:=zO
 rw[ahg]
 simp only[↓reduceIte,go_sem,sF,sS,uY,NP,<-hh1]
 refine jC (.inl ⟨rfl,u1,rb,sl,L,bad,i,rfl,hR1,λu2 h2 s2=>⟨λhd=> ?_,λt r hd=>⟨jO,?_⟩⟩⟩)
 ·exact hKE bad (by rw[hd];rfl) _ _ ((s1.tZ s2).mono (λ_ _ q=>q.elim))
 obtain⟨hlt,hget,hd'⟩:=mD hd
 rw[hd]at hKE hKO
 obtain⟨h3,h4,u4,hh3,hh4,B3,B4,s4,hz4⟩:=rA u2 h2 [Jx JT 0,str [],Jx JT 0,Jx JT 0,Jx JT 0,Jx JT 0] (kU t) 46 rfl
 have hb1:h.size<h2.size:=bP B1'.1 s2.ge.sz
 have st4:jD (λb=>b=rb) u h u4 h4:=((s1.tZ s2).tZ s4).mono (λ_ _ q=>q.elim)
 have B14:=(B1'.sZ s2).sZ s4
 have hR4:=(hR1.sZ s2).sZ s4
 simp only[kU]at hh4 B4 ⊢
 have B31:=B3.1
 have B41:=B4.1
 have hne2:h2.size≠rb:=zO
 have hRB:=hR4.1
 have hRb:=hRB.1
 clear hh1 s1 B1' hR1
 by_cases h10:t.1=10
 ·obtain⟨h5,hh5,s5,hR5⟩:=hR4.adv hlt
  have B15:=B14.step s5 hne1
  have B45:=B4.step s5 hne2
  have st5:jD (λb=>b=rb) u h u4 h5:=st4.trans s5 (λb _ q=>q)
  simp(disch:=first|omega|simp only[zz];try omega;done) only[↓reduceIte,go_sem,<-hh3,<-hh4,B3.2.1,B3.2.2.1,B4.at,B4.2.1,ai h10,hRB.at,hRB.2.1,hRB.2.2.1,<-hh5,B45.at,B45.2.1]
  refine jC (.inr (.inl ⟨rfl,u4,rb,sl,L,bad,i+1,true,rfl,hR5,λe he u6 h6 s6=> ?_,λa q ha u6 h6 w i6 s6 hR6 hd6 ow=> ?_⟩))
  ·rw[hd']at he
   exact hKE e (aa5 h10 he) _ _ (st5.trans s6 (λb _ q=>q))
  rw[hd']at ha
  have B16:=B15.step s6 hne1
  have B46:=B45.step s6 hne2
  have B161:=B16.1
  have B461:=B46.1
  refine⟨by simp(disch:=first|omega|simp only[zz];try omega;done) only[↓reduceIte,go_sem,B45.at,B46.at,B46.2.1],?_⟩
  have iw:=ow.iZ
  obtain⟨wa,wc,rfl,m1,m2⟩:=ow.sl
  have st6:jD (λb=>b=rb) u h u6 h6:=st5.trans s6 (λb _ q=>q)
  have w1:=B16.sets (l:=qj (2,a,0,kD,kD,tO t) (.slice wa a.2.1.length wc)) rfl
  have s7:=st6.rZ (b:=h.size) (o:=0) (l:=qj (2,a,0,kD,kD,tO t) (.slice wa a.2.1.length wc)) (.inl (ak _)) (by rw[B16.2.2.2.1];exact aj _) (by rw[B16.2.1];exact ak _)
  have s67:=jD.sets (S:=λb=>b=h.size) u6 h6 (b:=h.size) (o:=0) (qj (2,a,0,kD,kD,tO t) (.slice wa a.2.1.length wc)) rfl (by rw[B16.2.2.2.1];exact aj _) (by rw[B16.2.1];exact ak _)
  have hK':=hKO _ _ (aa6 h10 ha) _ _ _ _ s7 (hR6.step s67 (λq=>hne1 q.symm)) hd6 (iw.mono s67.ge)
  simp only[qj,kD,tO]at hK' w1
  simp(disch:=first|omega|simp only[zz];try omega;done) only[↓reduceIte,go_sem,B16.2.1,B16.2.2.1,w1.at,w1.2.1]
  exact hK'
 have tl: ¬(tK t=1/\zm r=false)-> ∀σ:ku,σ 0= .pointer (some ⟨rb,0,none⟩)->σ 2= .pointer (some ⟨h.size,0,none⟩)->σ 3= .pointer (some ⟨h2.size,0,none⟩)->wpS ahO ajx (uK NP (pz K KP)) σ h4:=by
  intro hnp σ e0 e2 e3
  rw[MI h10 hnp]at hKE hKO
  obtain⟨M,hM⟩:=kg (α:=ku->H->Prop) λσ' h'=> ∃(u':U) (b4:Nat),σ' 0= .pointer (some ⟨rb,0,none⟩)/\σ' 2= .pointer (some ⟨h.size,0,none⟩)/\σ' 4= .pointer (some ⟨b4,0,none⟩)/\pK (tK t) true=true/\jD (λb=>b=rb) u h u' h'/\Af u' h' rb sl L bad (i+1)/\jR u' h' h.size [Jx JT 0,str [],.slice none 0 0,Jx JT 0,Jx JT 0,Jx JT 0,Jx JT 0,str [],Jx JT 0,Jx JT 0,Jx JT 0,str [],Jx JT 0,Jx JT 0]/\jR u' h' b4 (qj (3,nM,0,kM t,kD,tO t) (.slice none 0 0))/\h.size<b4/\b4≠rb
  have s5:=jD.qZ S0 u4 h4 #[Jx JT 0,str [],.slice none 0 0,Jx JT 0,Jx JT 0,Jx JT 0,Jx JT 0,str [],Jx JT 0,Jx JT 0,Jx JT 0,str [],Jx JT 0,Jx JT 0] 141
  have B55:=jR.new (u:=u4) (h:=h4) [Jx JT 0,str [],.slice none 0 0,Jx JT 0,Jx JT 0,Jx JT 0,Jx JT 0,str [],Jx JT 0,Jx JT 0,Jx JT 0,str [],Jx JT 0,Jx JT 0] 141
  obtain⟨h5,hh5⟩:=kg (h4.push (.cells #[Jx JT 0,str [],.slice none 0 0,Jx JT 0,Jx JT 0,Jx JT 0,Jx JT 0,str [],Jx JT 0,Jx JT 0,Jx JT 0,str [],Jx JT 0,Jx JT 0] 141))
  obtain⟨u5,hu5⟩:=kg (ub u4 h4.size 0)
  have B55':jR u5 h5 h4.size [Jx JT 0,str [],.slice none 0 0,Jx JT 0,Jx JT 0,Jx JT 0,Jx JT 0,str [],Jx JT 0,Jx JT 0,Jx JT 0,str [],Jx JT 0,Jx JT 0]:=by rw[hu5,hh5];exact B55
  rw[<-hh5,<-hu5]at s5
  clear B55
  have B45:=B4.sZ s5
  have B451:=B45.1
  have hR5:=hR4.sZ s5
  have B15:=B14.sZ s5
  have st5:=st4.tZ s5
  have hne4:h4.size≠rb:=zO
  simp only[go_sem,ajx,sS,uY,NP]
  refine vX M ?_ ?_
  ·simp(disch:=first|omega|simp only[zz];try omega;done) only[↓reduceIte,go_sem,vQ,e0,e3,B4.at,B4.2.1,<-hh5,B45.at,B45.2.1]
   refine⟨?_,?_⟩
   ·clear hh5 B15 B45 hR5 s5 st5 B451 B55'
    refine jC (.inr (.inr (.inr (.inl ⟨rfl,u4,rb,sl,L,bad,i,true,rfl,hR4,λu5 h5 s5 hd5=>(uP hd hd5).elim,λu5 h5 t' r' s5 hd5 hT=> ?_,λu5 h5 t' r' s5 hd5 hT hR5=> ?_⟩))))
    ·obtain⟨rfl,rfl⟩:=sI hd hd5
     exact hKE _ (OW hT) _ _ (st4.tZ s5)
    obtain⟨rfl,rfl⟩:=sI hd hd5
    have B15:=B14.step s5 hne1
    have B45:=B4.step s5 hne2
    have st5:=st4.trans s5 (λb _ q=>q)
    have B451:=B45.1
    refine⟨by simp(disch:=first|omega|simp only[zz];try omega;done) only[↓reduceIte,go_sem,e3,B4.at,B45.at,B45.2.1],?_⟩
    obtain⟨h6,h7,u7,hh6,hh7,B66,B67,s7,hz7⟩:=rA u5 h5 [Jx JT 0,str [],.slice none 0 0,Jx JT 0,Jx JT 0,Jx JT 0,Jx JT 0,str [],Jx JT 0,Jx JT 0,Jx JT 0,str [],Jx JT 0,Jx JT 0] (qj (3,nM,0,kM t,kD,tO t) (.slice none 0 0)) 141 rfl
    have B46:jR (ub u5 h5.size 0) h6 h2.size (kU t):=by rw[hh6];exact B45.sZ (jD.qZ S0 u5 h5 _ _)
    have B661:=B66.1
    have B671:=B67.1
    simp only[kU]at B46
    simp only[qj,kD,nM,tO]at hh7
    simp only[tQ]
    simp(disch:=first|omega|simp only[zz];try omega;done) only[↓reduceIte,go_sem,e3,B45.at,<-hh6,B46.at,B46.2.1,B66.2.1,B66.2.2.1,<-hh7]
    rw[hM]
    refine⟨u7,h5.size,?_,?_,?_,hT,st5.tZ s7,hR5.sZ s7,B15.sZ s7,B67,zO,by have:=hR5.1.1;omega⟩<;>simp [jI,e0,e2]
   ·refine jC (.inr (.inr (.inr (.inl ⟨rfl,u5,rb,sl,L,bad,i,true,rfl,hR5,λu6 h6 s6 hd6=>(uP hd hd6).elim,λu6 h6 t' r' s6 hd6 hT=> ?_,λu6 h6 t' r' s6 hd6 hT hR6=> ?_⟩))))
    ·obtain⟨rfl,rfl⟩:=sI hd hd6
     exact hKE _ (OW hT) _ _ (st5.tZ s6)
    obtain⟨rfl,rfl⟩:=sI hd hd6
    have B16:=B15.step s6 hne1
    have B46:=B45.step s6 hne2
    have B56:=B55'.step s6 hne4
    have st6:=st5.trans s6 (λb _ q=>q)
    have B461:=B46.1
    have B561:=B56.1
    refine⟨by simp(disch:=first|omega|simp only[zz];try omega;done) only[↓reduceIte,go_sem,e3,B45.at,B46.at,B46.2.1],?_⟩
    have w:=B56.sets (l:=qj (3,nM,0,kM t,kD,tO t) (.slice none 0 0)) rfl
    have s67:=jD.sets (S:=λb=>b=h4.size) u6 h6 (b:=h4.size) (o:=0) (qj (3,nM,0,kM t,kD,tO t) (.slice none 0 0)) rfl (by rw[B56.2.2.2.1];exact aj _) (by rw[B56.2.1];exact ak _)
    obtain⟨h7,hh7⟩:=kg (jW h6 h4.size 0 (qj (3,nM,0,kM t,kD,tO t) (.slice none 0 0)))
    rw[<-hh7]at w s67
    simp only[qj,kD,nM,tO]at hh7
    simp only[tQ]
    simp only[↓reduceIte,go_sem,B56.2.1,B56.2.2.1,<-hh7]
    rw[hM]
    refine⟨u6,h4.size,?_,?_,?_,hT,st6.trans s67 (λb hb q=>zO),hR6.step s67 (λq=>hne4 q.symm),B16.step s67 zO,w,zO,hne4⟩<;>simp [jI,e0,e2]
  ·clear hh5 B15 B45 hR5 s5 st5 B451 B55' hu5 hne4
   intro σ' h' hm
   rw[hM]at hm
   obtain⟨u',b4,e0,e2,e4,hT,st,hRj,B1j,Bj,hb4,hb4r⟩:=hm
   have hz':=st.ge.sz
   simp only[go_sem,e0]
   refine jC (.inr (.inr (.inr (.inr ⟨rfl,u',rb,sl,L,bad,i+1,11,rfl,hRj,λu5 h5 s5 hd5=> ?_,λu5 h5 o r5 s5 hd5 hk=> ?_,λu5 h5 o r5 s5 hd5 hk h0=>absurd h0 zD,λu5 h5 o r5 s5 hd5 hk _ hR5=>⟨jO,?_⟩⟩))))
   ·rw[hd']at hd5;subst hd5
    exact hKE _ (ahb hT) _ _ (st.tZ s5)
   ·rw[hd']at hd5;subst hd5
    exact hKE _ (ahc hT hk) _ _ (st.tZ s5)
   have hd6:=(mD hd5).2.2
   rw[hd']at hd5
   subst hd5
   have B15:=B1j.step s5 hne1
   have Bj5:=Bj.step s5 hb4r
   have st5:=st.trans s5 (λb _ q=>q)
   simp only[qj,kD,nM]at Bj5
   have Bj51:=Bj5.1
   have Bj6:=Bj5.set (i:=4) (v:= Jx JT (tP o)) zP
   have s6:=jD.set (S:=λb=>b=b4) u5 h5 (b:=b4) (o:=4) (Jx JT (tP o)) rfl (by rw[Bj5.2.2.2.1];exact aj _)
   obtain⟨h6,hh6⟩:=kg (ky h5 b4 4 (Jx JT (tP o)))
   rw[<-hh6]at Bj6 s6
   simp only[dK,cu]at Bj6
   have hb4':h.size<=b4:=zO
   have R6:=hR5.step s6 (λq=>hb4r q.symm)
   have B16:=B15.step s6 zO
   have st6:=st5.trans s6 (λb hb q=>zO)
   simp only[tP]at hh6
   simp only[kU]
   simp(disch:=omega) only[↓reduceIte,go_sem,e0,e4,Bj5.2.1,Bj5.2.2.1,<-hh6]
   refine jC (.inr (.inr (.inr (.inl ⟨rfl,u5,rb,sl,L,bad,i+1+1,true,rfl,R6,λu7 h7 s7 hd7=> ?_,λu7 h7 y q7 s7 hd7 hy=> ?_,λu7 h7 y q7 s7 hd7 hy hR7=>⟨jO,?_⟩⟩))))
   ·rw[hd6]at hd7;subst hd7
    exact hKE _ (ahd hT hk) _ _ (st6.tZ s7)
   ·rw[hd6]at hd7;subst hd7
    exact hKE _ (ahe hT hk hy) _ _ (st6.tZ s7)
   have hd8:=(mD hd7).2.2
   rw[hd6]at hd7
   subst hd7
   have B17:=B16.step s7 hne1
   have Bj7:=Bj6.step s7 hb4r
   have st7:=st6.trans s7 (λb _ q=>q)
   have Bj71:=Bj7.1
   have Bj8:=Bj7.sets4 (o:=9) (x0:= Jx JT (kM y).1) (x1:= Jx JT (kM y).2.1) (x2:=str (kM y).2.2.1) (x3:= Jx JT (kM y).2.2.2) zP
   have s8:=jD.sets (S:=λb=>b=b4) u7 h7 (b:=b4) (o:=9) [Jx JT (kM y).1,Jx JT (kM y).2.1,str (kM y).2.2.1,Jx JT (kM y).2.2.2] rfl (by rw[Bj7.2.2.2.1];exact aj _) (by rw[Bj7.2.1];simp)
   obtain⟨h8,hh8⟩:=kg (jW h7 b4 9 [Jx JT (kM y).1,Jx JT (kM y).2.1,str (kM y).2.2.1,Jx JT (kM y).2.2.2])
   rw[<-hh8]at Bj8 s8
   simp only[Nat.reduceAdd,dK,cu]at Bj8
   have R8:=hR7.step s8 (λq=>hb4r q.symm)
   have B18:=B17.step s8 zO
   have st8:=st7.trans s8 (λb hb q=>zO)
   have Bj81:=Bj8.1
   have B181:=B18.1
   have w:=B18.sets (l:=qj (3,nM,tP o,kM t,kM y,tO t) (.slice none 0 0)) rfl
   have s9:=st8.rZ (b:=h.size) (o:=0) (l:=qj (3,nM,tP o,kM t,kM y,tO t) (.slice none 0 0)) (.inl (ak _)) (by rw[B18.2.2.2.1];exact aj _) (by rw[B18.2.1];exact ak _)
   have s89:=jD.sets (S:=λb=>b=h.size) u7 h8 (b:=h.size) (o:=0) (qj (3,nM,tP o,kM t,kM y,tO t) (.slice none 0 0)) rfl (by rw[B18.2.2.2.1];exact aj _) (by rw[B18.2.1];exact ak _)
   have hK':=hKO _ _ (ahf hT hk hy) _ _ (.slice none 0 0) _ s9 (R8.step s89 (λq=>hne1 q.symm)) hd8 (.nil _ _)
   simp only[qj,nM,tO,tP]at hK' w Bj8
   simp only[tQ]
   simp(disch:=first|omega|simp only[zz];try omega;done) only[↓reduceIte,go_sem,e2,e4,Bj7.2.1,Bj7.2.2.1,<-hh8,Bj8.at,Bj8.2.1,B18.2.1,B18.2.2.1,w.at,w.2.1]
   exact hK'
 by_cases h1:t.1=1
 case neg=>
  simp(disch:=first|omega|simp only[zz];try omega;done) only[↓reduceIte,go_sem,<-hh3,<-hh4,B3.2.1,B3.2.2.1,B4.at,B4.2.1,ae h10,ae h1]
  exact tl (λq=>h1 q.1) _ zJ zJ zJ
 simp(disch:=first|omega|simp only[zz];try omega;done) only[↓reduceIte,go_sem,<-hh3,<-hh4,B3.2.1,B3.2.2.1,B4.at,B4.2.1,ae h10,ai h1]
 refine jC (.inr (.inr (.inl ⟨rfl,u4,rb,sl,L,bad,i,rfl,hR4,⟨jO,?_⟩⟩)))
 rw[hd']
 cases hob:zm r with
 |true=>
  simp only[↓reduceIte,go_sem]
  exact tl (λq=>by rw[hob]at q;cases q.2) _ zJ zJ zJ
 |false=>
  clear tl
  simp(disch:=first|omega|simp only[zz];try omega;done) only[↓reduceIte,go_sem,B4.at,B4.2.1]
  refine jC (.inr (.inl ⟨rfl,u4,rb,sl,L,bad,i,true,rfl,hR4,λe he u6 h6 s6=> ?_,λa q ha u6 h6 w i6 s6 hR6 hd6 ow=> ?_⟩))
  ·rw[hd]at he
   exact hKE e (aa7 h10 ⟨h1,hob⟩ he) _ _ (st4.trans s6 (λb _ q=>q))
  rw[hd]at ha
  have B16:=B14.step s6 hne1
  have B46:=B4.step s6 hne2
  have B161:=B16.1
  have B461:=B46.1
  refine⟨by simp(disch:=first|omega|simp only[zz];try omega;done) only[↓reduceIte,go_sem,B4.at,B46.at,B46.2.1],?_⟩
  have iw:=ow.iZ
  obtain⟨wa,wc,rfl,m1,m2⟩:=ow.sl
  have st6:jD (λb=>b=rb) u h u6 h6:=st4.trans s6 (λb _ q=>q)
  have w1:=B16.sets (l:=qj (1,a,0,kD,kD,tO t) (.slice wa a.2.1.length wc)) rfl
  have s7:=st6.rZ (b:=h.size) (o:=0) (l:=qj (1,a,0,kD,kD,tO t) (.slice wa a.2.1.length wc)) (.inl (ak _)) (by rw[B16.2.2.2.1];exact aj _) (by rw[B16.2.1];exact ak _)
  have s67:=jD.sets (S:=λb=>b=h.size) u6 h6 (b:=h.size) (o:=0) (qj (1,a,0,kD,kD,tO t) (.slice wa a.2.1.length wc)) rfl (by rw[B16.2.2.2.1];exact aj _) (by rw[B16.2.1];exact ak _)
  have hK':=hKO _ _ (aa8 h10 ⟨h1,hob⟩ ha) _ _ _ _ s7 (hR6.step s67 (λq=>hne1 q.symm)) hd6 (iw.mono s67.ge)
  simp only[qj,kD,tO]at hK' w1
  simp(disch:=first|omega|simp only[zz];try omega;done) only[↓reduceIte,go_sem,B16.2.1,B16.2.2.1,w1.at,w1.2.1]
  exact hK'
end Go.Proofs.Z
namespace Go.Ev
open Go Rep Edict
theorem TG{u:U}{h:H}{x:qX}{cs:List Value}:rep u h x cs=(∃v,cs=[str x.1,v,Jx JT x.2.2]/\jS u h v x.2.1):=by
 apply propext
 obtain⟨p,l,o⟩:=x
 simp only[lg,mE,mG,mf]
 constructor
 ·rintro ⟨a,b,rfl,rfl,c,d,rfl,⟨v,rfl,hv⟩,rfl⟩
  exact⟨v,rfl,hv⟩
 ·rintro ⟨v,rfl,hv⟩
  exact⟨_,_,rfl,rfl,_,_,rfl,⟨v,rfl,hv⟩,rfl⟩
end Go.Ev
namespace Edict
variable {acc:List qX} {bad e:Flt} {l q r:List kR} {t:kR} {α:Type} {x:α}
theorem Kk(h:nI bad false l= .error e):rq bad l= .error e:=by unfold rq;rw[h]
def ajy{α:Type}(bad:Flt)(x:α):List kR->PR α
 |[]=> .error bad
 |c::r=>if tK c=8 then .ok (x,r)else .error (kH c)
theorem Fh{a:qX}(h:nI bad false l= .ok (a,q)):rq bad l=ajy bad a q:=by unfold rq;rw[h];cases q<;>rfl
theorem ahh(h:tK t≠8):ajy bad x (t::r)= .error (kH t):=by show(if tK t=8 then _ else _)=_;rw[af h]
theorem ahi(h:tK t=8):ajy bad x (t::r)= .ok (x,r):=by show(if tK t=8 then _ else _)=_;rw[ah h]
theorem Xe:mh bad acc []= .error bad:=by unfold mh;exact Dy
theorem Xf(h:tK t=0):mh bad acc (t::l)= .ok acc:=by unfold mh;exact Dz h
theorem TH(h0:tK t≠0)(h:4096<=acc.length/\tK t=1):mh bad acc (t::l)= .error (wZ 24 t):=by unfold mh;exact Bz h0 h
theorem yY(h0:tK t≠0)(h: ¬(4096<=acc.length/\tK t=1))(he:rq bad (t::l)= .error e):mh bad acc (t::l)= .error e:=by unfold mh;exact DD h0 h he
theorem aa9{x:qX}(h0:tK t≠0)(h: ¬(4096<=acc.length/\tK t=1))(he:rq bad (t::l)= .ok (x,q)):mh bad acc (t::l)=mh bad (acc++[x]) q:=by unfold mh;exact GR h0 h he
theorem aba(bad:Flt)(l:List kR)(hg:oO l bad)(e:Flt)(h:mh bad [] l= .error e):e.1≠0:=((IW hg).1 e h).2
end Edict
namespace Go.Proofs.Z
open Go Go.Ev Edict
variable {vs:List Value} {h:H} {K:Value->H->Prop} {KP:List PanicEntry->H->Prop}
def abb(vs:List Value)(h:H)(K:Value->H->Prop)(KP:List PanicEntry->H->Prop):Prop:= ∃(u:U) (rb xb:Nat) (sl:Value) (L:List kR) (bad:Flt),vs=[.pointer (some ⟨rb,0,none⟩),.pointer (some ⟨xb,0,none⟩)]/\Af u h rb sl L bad 0/\jR u h xb [.slice none 0 0]/\xb≠rb/\
 (∀e,mh bad [] L= .error e-> ∀u' h',jD (λb=>b=rb\/b=xb) u h u' h'->KP (gu e) h')/\
 (∀l,mh bad [] L= .ok l-> ∀u' h' w v,jD (λb=>b=rb\/b=xb) u h u' h'->jR u' h' xb [w]->lm h.size u' h' w l->K v h')
def ajz:lq:=λf vs h K KP=>(f=13/\sJ vs h K KP)\/(f=14/\Br vs h KP)\/(f=17/\GN vs h K KP)\/(f=18/\GQ vs h K KP)
theorem abd:lQ Tryz.prog ajz:=by
 rintro f vs h K KP (⟨rfl,hC⟩|⟨rfl,hC⟩|⟨rfl,hC⟩|⟨rfl,hC⟩)
 ·exact qA hC
 ·exact xW hC
 ·exact EE hC
 ·exact EF hC
theorem TI(hC:abb vs h K KP):kN Tryz.prog 16 vs h K KP:=by
 obtain⟨u,rb,xb,sl,L,bad,rfl,hR,hX,hxr,hKE,hKO⟩:=hC
 refine jJ 32835 [] abd Tryz.func16 ?_
 have hrb:=hR.1.1
 have hxb:=hX.1
 have hLl:=hR.2.2.2
 have up: ∀{u1:U} {h1:H} {u':U} {h':H},jD (λb=>b=rb) u1 h1 u' h'->jD (λb=>b=rb\/b=xb) u1 h1 u' h':=λs=>s.mono (λ_ _ q=> .inl q)
 obtain⟨R,hRR⟩: ∃R,mh bad [] L=R:=⟨_,rfl⟩
 rw[hRR]at hKE hKO
 simp only[go_sem]
 obtain⟨I,hI⟩:=kg (α:=Nat->ku->H->Prop) λj σ h'=> ∃(u':U) (w:Value) (acc:List qX),σ 0= .pointer (some ⟨rb,0,none⟩)/\σ 1= .pointer (some ⟨xb,0,none⟩)/\jD (λb=>b=rb\/b=xb) u h u' h'/\Af u' h' rb sl L bad j/\jR u' h' xb [w]/\lm h.size u' h' w acc/\acc.length<=4096/\mh bad acc (L.drop j)=R
 refine jE I (λj=>L.length - j) 0 (by rw[hI];exact⟨u,_,[],zJ,zJ,jD.refl _ _ _,hR,hX,.nil _ _ _,zP,by rw[eU];exact hRR⟩) ?_
 clear hRR
 intro j σ h' hy
 rw[hI]at hy
 obtain⟨u',w,acc,e0,e1,st,hRj,X,ow,hacc,hA⟩:=hy
 obtain⟨wa,wc,rfl,m1,m2⟩:=ow.sl
 have hX1:=X.1
 have hz:=st.ge.sz
 simp only[go_sem,e0]
 refine jC (.inl ⟨rfl,u',rb,sl,L,bad,j,rfl,hRj,λu2 h2 s2=>⟨λhd=> ?_,λt r hd=>⟨jO,?_⟩⟩⟩)
 ·rw[hd,Xe]at hA
  exact hKE _ hA.symm _ _ (st.tZ s2)
 have hR2:=hRj.sZ s2
 have X2:=X.sZ s2
 have ow2:=ow.sZ s2
 have st2:=st.tZ s2
 have hX2:=X2.1
 rw[hd]at hA
 simp only[kU]
 by_cases h0:t.1=0
 ·rw[Xf (show tK t=0 from h0)]at hA
  simp(disch:=omega) only[↓reduceIte,go_sem,ai h0]
  exact hKO _ hA.symm _ _ _ _ st2 X2 ow2
 have h0':tK t≠0:=h0
 have hwr: ∀b,jL (.slice wa acc.length wc) b->b≠rb/\b≠xb:=λb q=>by have:=ow.ge q;omega
 -- a fact, from here
 obtain⟨M,hM⟩:=kg (α:=ku->H->Prop) λσ' h'=> ∃(u3:U),σ' 0= .pointer (some ⟨rb,0,none⟩)/\σ' 1= .pointer (some ⟨xb,0,none⟩)/\jD S0 u2 h2 u3 h'
 by_cases hfull:4096<=acc.length
 ·simp(disch:=first|omega|simp only[zz];try omega;done) only[↓reduceIte,go_sem,ae h0,e0,e1,X2.at,X2.2.1,ai (show(4096:Int)<=(acc.length:Nat) by omega)]
  refine jC (.inl ⟨rfl,u2,rb,sl,L,bad,j,rfl,hR2,λu3 h3 s3=>⟨λq=>(uP hd q).elim,λt' r' hd'=>⟨jO,?_⟩⟩⟩)
  obtain⟨rfl,rfl⟩:=sI hd hd'
  have hR3:=hR2.sZ s3
  have st3:=st2.tZ s3
  have X3:=X2.sZ s3
  have hX3:=X3.1
  simp only[kU]
  by_cases h1:t.1=1
  ·rw[TH h0' ⟨hfull,h1⟩]at hA
   simp(disch:=omega) only[↓reduceIte,go_sem,ai h1,e0]
   exact jC (.inr (.inl ⟨rfl,u3,rb,sl,L,bad,j,24,rfl,hR3,λu5 h5 s5=>⟨λq=>(uP hd q).elim,λt' r' hd'=>(by obtain⟨rfl,rfl⟩:=sI hd hd';exact hKE _ hA.symm _ _ (st3.tZ s5))⟩⟩))
  ·rw[yY h0' (λq=>h1 q.2) (Kk (uC (show tK t≠1 from h1)))]at hA
   simp(disch:=first|omega|simp only[zz];try omega;done) only[↓reduceIte,go_sem,ae h1,e0,e1,X3.at,X3.2.1]
   refine jC (.inr (.inr (.inl ⟨rfl,u3,rb,sl,L,bad,j,false,rfl,hR3,λe he u5 h5 s5=> ?_,λa q ha=> ?_⟩)))
   ·rw[hd,uC (show tK t≠1 from h1)]at he
    cases he
    exact hKE _ hA.symm _ _ (st3.trans (up s5) (λ_ _ q=>q))
   ·rw[hd,uC (show tK t≠1 from h1)]at ha
    cases ha
 ·have hnf: ¬(4096<=acc.length/\tK t=1):=λq=>hfull q.1
  simp(disch:=first|omega|simp only[zz];try omega;done) only[↓reduceIte,go_sem,ae h0,e0,e1,X2.at,X2.2.1,ae (show¬(4096:Int)<=(acc.length:Nat) by omega)]
  refine jC (.inr (.inr (.inl ⟨rfl,u2,rb,sl,L,bad,j,false,rfl,hR2,λe he u5 h5 s5=> ?_,λa q ha u3 h3 w3 i3 s3 hR3 hd3 o3=> ?_⟩)))
  ·rw[hd]at he
   rw[yY h0' hnf (Kk he)]at hA
   exact hKE _ hA.symm _ _ (st2.trans (up s5) (λ_ _ q=>q))
  rw[hd]at ha
  have hlen3:=xY ha
  have X3:=X2.step s3 hxr
  have ow3:=ow2.step s3 (λb q q'=>(hwr b q).1 q')
  have st3:=st2.trans (up s3) (λ_ _ q=>q)
  have hX3:=X3.1
  have hz3:=st3.ge.sz
  refine⟨by simp(disch:=first|omega|simp only[zz];try omega;done) only[↓reduceIte,go_sem,e1,X2.at,X3.at,X3.2.1],?_⟩
  obtain⟨w3a,w3c,rfl,k1,k2⟩:=o3.sl
  simp(disch:=first|omega|simp only[zz];try omega;done) only[↓reduceIte,go_sem,e1,X3.at,X3.2.1]
  refine lD (by simp only[]) ow3 (x:=a) (by rw[TG];exact⟨_,rfl,o3.iZ⟩) rfl rfl zO zO λa5 n5 c5 u5 h5 o5 s5 hO5=>⟨jO,?_⟩
  obtain⟨_,_,hme,m51,m52⟩:=o5.sl
  simp only[Value.slice.injEq]at hme
  obtain⟨rfl,rfl,rfl⟩:=hme
  obtain⟨ac2,hac2⟩:=kg (acc++[a])
  have hl2:ac2.length=acc.length+1:=by rw[hac2];simp
  rw[<-hac2]at o5 hO5 m51 ⊢
  have X5:=X3.step s5 (λq=>(hwr _ q).2 rfl)
  have hR5:=hR3.step s5 (λq=>(hwr _ q).1 rfl)
  have hX5:=X5.1
  have X6:=X5.set (i:=0) (v:= .slice a5 ac2.length c5) zP
  have s6:=jD.set (S:=λb=>b=xb) u5 h5 (b:=xb) (o:=0) (.slice a5 ac2.length c5) rfl (by rw[X5.2.2.2.1];exact aj _)
  obtain⟨h6,hh6⟩:=kg (ky h5 xb 0 (.slice a5 ac2.length c5))
  rw[<-hh6]at X6 s6
  simp only[cu]at X6
  have o6:=o5.step s6 (λb q q'=>by have:=o5.ge q;omega)
  have hR6:=hR5.step s6 (λq=>hxr q.symm)
  have st6:=(st3.trans s5 (λb hb q=>by have:=ow3.ge q;omega)).trans s6 (λb _ q=> .inr q)
  simp only[↓reduceIte,go_sem,X5.2.1,X5.2.2.1,<-hh6,e0,e1]
  refine jC (.inr (.inr (.inr ⟨rfl,u5,rb,sl,L,bad,i3,8,rfl,hR6,λu7 h7 s7 hd7=> ?_,λu7 h7 t7 r7 s7 hd7 hk7=> ?_,λu7 h7 t7 r7 s7 hd7 hk7 q=>absurd q zD,λu7 h7 t7 r7 s7 hd7 hk7 _ hR7=>⟨jO,?_⟩⟩)))
  ·rw[hd3]at hd7;subst hd7
   rw[yY h0' hnf (by rw[Fh ha];rfl)]at hA
   exact hKE _ hA.symm _ _ (st6.tZ s7)
  ·rw[hd3]at hd7;subst hd7
   rw[yY h0' hnf (by rw[Fh ha];exact ahh hk7)]at hA
   exact hKE _ hA.symm _ _ (st6.tZ s7)
  rw[hd3]at hd7;subst hd7
  rw[aa9 h0' hnf (by rw[Fh ha];exact ahi hk7),<-hac2]at hA
  have hd8:=mD hd3
  have hjl:=mD hd
  have hlt8:j<i3+1:=by
   have e1:(L.drop i3).length=r7.length+1:=by rw[hd3];rfl
   have e2:(L.drop j).length=r.length+1:=by rw[hd];rfl
   rw[bY]at e1 e2
   simp only[au]at hlen3
   omega
  simp only[go_sem,jN]
  refine⟨i3+1,?_,zO⟩
  rw[hI]
  refine⟨u7,_,ac2,?_,?_,st6.trans (up s7) (λ_ _ q=>q),hR7,X6.step s7 hxr,o6.step s7 (λb q q'=>by have:=o6.ge q;omega),zO,by rw[hd8.2.2];exact hA⟩<;>simp [jI,e0,e1]
def YV:S:=sF (sS (sS qB))
def OX:S:=sS (sS (sS qB))
theorem Xg:qB= .seq (sF qB) (.seq (sF (sS qB)) (.seq YV OX)):=rfl
def aew(vs:List Value)(h:H)(K:Value->H->Prop):Prop:= ∃(u:U) (src:List UInt8),vs=[str src]/\src.length<=9223372036854775807/\UH u h/\
 (∀e,mg (λb l=>mh b [] l) src= .error e-> ∀u' h',jD S0 u h u' h'->K (.tuple #[.slice none 0 0,oo e]) h')/\
 (∀l,mg (λb l=>mh b [] l) src= .ok l-> ∀u' h' w,jD S0 u h u' h'->lm h.size u' h' w l->K (.tuple #[w,oo (0,0)]) h')
def yz:lq:=λf vs h K KP=>f=11/\ED vs h K
theorem TJ:lQ Tryz.prog yz:=by
 rintro f vs h K KP ⟨rfl,hC⟩;exact Dt hC
theorem Xh(hC:aew vs h K):kN Tryz.prog 5 vs h K KP:=by
 obtain⟨u,src,rfl,hl,hG,hKE,hKO⟩:=hC
 refine jJ (s:=qB) 2109 [(none,(.t 2)),((some (.c1 (.ldn 3) (.t 3))),(.o1 (.ldn 3) (.t 3)))] TJ Tryz.func5 ?_ (by kernel_rfl) (by kernel_rfl)
 have s1:=jD.qZ S0 u h #[Jx JT 0,Jx JT 0,Jx JT 0] 27
 have B1:=jR.new (u:=u) (h:=h) [Jx JT 0,Jx JT 0,Jx JT 0] 27
 obtain⟨h1,hh1⟩:=kg (h.push (.cells #[Jx JT 0,Jx JT 0,Jx JT 0] 27))
 obtain⟨u1,hu1⟩:=kg (ub u h.size 0)
 have B1':jR u1 h1 h.size [Jx JT 0,Jx JT 0,Jx JT 0]:=by rw[hu1,hh1];exact B1
 rw[<-hh1,<-hu1]at s1
 clear B1
 have s2:=jD.qZ S0 u1 h1 #[.slice none 0 0] 30
 have B2:=jR.new (u:=u1) (h:=h1) [.slice none 0 0] 30
 obtain⟨h2,hh2⟩:=kg (h1.push (.cells #[.slice none 0 0] 30))
 obtain⟨u2,hu2⟩:=kg (ub u1 h1.size 0)
 have B2':jR u2 h2 h1.size [.slice none 0 0]:=by rw[hu2,hh2];exact B2
 rw[<-hh2,<-hu2]at s2
 clear B2
 have z1:h1.size=h.size+1:=by rw[hh1];simp
 have z2:h2.size=h1.size+1:=by rw[hh2];simp
 have st2:=s1.tZ s2
 have A1:=B1'.sZ s2
 obtain⟨T,hT⟩:=kg (α:=Flt->U->H->Prop) λf uE h'=>jD S0 u h uE h'/\jR uE h' h.size [Jx JT 0,Jx JT 0,Jx JT 0]/\h1.size<h'.size/\
  ((f.1≠0/\mg (λb l=>mh b [] l) src= .error f)\/(f=(0,0)/\ ∃(l:List qX) (w:Value),mg (λb l=>mh b [] l) src= .ok l/\jR uE h' h1.size [w]/\lm h2.size uE h' w l))
 obtain⟨M,hM⟩:=kg (α:=ku->H->Prop) λσ' h'=> ∃(f:Flt) (uE:U) (b5:Nat),σ' 3= .pointer (some ⟨h.size,0,none⟩)/\σ' 4= .pointer (some ⟨h1.size,0,none⟩)/\σ' 5= .pointer (some ⟨b5,0,none⟩)/\T f uE h'/\jR uE h' b5 [Jx JT f.1,Jx JT 0,Jx JT f.2]/\h1.size<b5
 rw[Xg]
 simp only[go_sem,sF,sS,qB,<-hh1,<-hh2]
 have cut: ∀(A B:S) (Q:tH) (σ:ku) (h:H),(∀R:ku->H->Prop,(∀σ' h',M σ' h'->R σ' h')->wpS yz A (BL R Q) σ h)->(∀σ' h',M σ' h'->wpS yz B Q σ' h')->wpS yz A (BL (wpS yz B Q) Q) σ h:=λA B Q σ h k1 k2=>k1 _ k2
 refine cut _ _ _ _ _ ?_ ?_
 ·intro R hR
  have fin: ∀(f:Flt) (uE:U) (hE:H) (σ0:ku) (Q:tH) (KPx:List PanicEntry->H->Prop),σ0 3= .pointer (some ⟨h.size,0,none⟩)->σ0 4= .pointer (some ⟨h1.size,0,none⟩)->T f uE hE->
    kT yz [St.eff [] (some 5) (F.alloc 27 #[Jx JT 0,Jx JT 0,Jx JT 0]) [] [],St.eff [] none (F.store 3) [E.t 5,E.t 8] []] (BL R Q Exit.normal) KPx (nD σ0 (some 8) (oo f)) hE:=by
   intro f uE hE σ0 Q KPx e3 e4 hTf
   obtain⟨h5,h6,u6,hh5,hh6,B5,B6,s6,hz6⟩:=rA uE hE [Jx JT 0,Jx JT 0,Jx JT 0] [Jx JT f.1,Jx JT 0,Jx JT f.2] 27 rfl
   rw[hT]at hTf
   obtain⟨st,A1',hz,hres⟩:=hTf
   have B51:=B5.1
   simp only[oo]
   simp only[↓reduceIte,go_sem,<-hh5,<-hh6,B5.2.1,B5.2.2.1]
   apply hR
   rw[hM,hT]
   refine⟨f,u6,hE.size,by simp [jI,e3],by simp [jI,e4],zJ,⟨st.tZ s6,A1'.sZ s6,zO,?_⟩,B6,hz⟩
   rcases hres with q|⟨q,a,w,q1,q2,q3⟩
   ·exact .inl q
   ·exact .inr ⟨q,a,w,q1,q2.sZ s6,q3.sZ s6⟩
  simp only[↓reduceIte,go_sem,YV,sF,sS,qB]
  refine jC ⟨rfl,u2,src,16,[.pointer (some ⟨h1.size,0,none⟩)],λb=>b=h1.size,rfl,hl,hG.mono st2.ge,λb q=>zO,λhlong u4 h4 s4=>⟨jO,?_⟩,λhshort u4 h4 rb fb sl s4 hrb hfb tJ hfl hRd=> ?_⟩
  ·refine fin (1,0) u4 h4 _ _ _ zJ zJ ?_
   rw[hT]
   exact⟨st2.tZ s4,A1.sZ s4,by have:=s4.ge.sz;omega,.inl ⟨(show(1:Int)≠0 by decide),by unfold mg;rw[ah hlong]⟩⟩
  ·have hpf:mg (λb l=>mh b [] l) src=(λb l=>mh b [] l) (Vn src) (ll src).1:=by unfold mg;rw[af zO]
   refine TI ⟨u4,rb,h1.size,sl,_,_,rfl,hRd,B2'.sZ s4,zO,λe he u5 h5 s5=>⟨u5,e,rfl,s5.mono (λb _ q=>q),λu6 h6 s6=>⟨jO,?_⟩⟩,λa ha u5 h5 w v s5 hX ow=>⟨u5,s5.mono (λb _ q=>q),λu6 h6 s6=>⟨jO,?_⟩⟩⟩
   ·refine fin e u6 h6 _ _ _ zJ zJ ?_
    rw[hT]
    exact⟨((st2.tZ s4).trans s5 (λb hb q=>zO)).trans s6 (λb hb q=>zO),((A1.sZ s4).step s5 zO).step s6 zO,by have:=s4.ge.sz;have:=s5.ge.sz;have:=s6.ge.sz;omega,.inl ⟨aba _ _ (Ae hshort) e he,by rw[hpf];exact he⟩⟩
   ·refine fin (0,0) u6 h6 _ _ _ zJ zJ ?_
    rw[hT]
    have hz4:=s4.ge.sz
    exact⟨((st2.tZ s4).trans s5 (λb hb q=>zO)).trans s6 (λb hb q=>zO),((A1.sZ s4).step s5 zO).step s6 zO,by have:=s5.ge.sz;have:=s6.ge.sz;omega,.inr ⟨rfl,a,w,by rw[hpf];exact ha,hX.step s6 zO,(ow.step s6 (λb q q'=>by have:=ow.ge q;omega)).mono hz4⟩⟩
 ·intro σ' h' hm
  rw[hM]at hm
  obtain⟨f,uE,b5,e3,e4,e5,hTf,A5,hb5⟩:=hm
  rw[hT]at hTf
  obtain⟨st,A1',hz,hres⟩:=hTf
  have A11:=A1'.1
  have A51:=A5.1
  have w1:=A1'.sets (l:=[Jx JT f.1,Jx JT 0,Jx JT f.2]) rfl
  have s7:=jD.sets (S:=λb=>b=h.size) uE h' (b:=h.size) (o:=0) [Jx JT f.1,Jx JT 0,Jx JT f.2] rfl (by rw[A1'.2.2.2.1];exact aj _) (by rw[A1'.2.1];exact ak _)
  have st8:=st.trans s7 (λb hb q=>zO)
  rcases hres with⟨hf,hp⟩|⟨rfl,a,w,hp,X,ow⟩
  ·have hK':=hKE f hp _ _ st8
   simp only[oo]at hK'
   simp(disch:=first|omega|simp only[zz];try omega;done) only[↓reduceIte,go_sem,OX,sS,qB,e3,e5,A5.at,A5.2.1,hf,A1'.2.1,A1'.2.2.1,w1.at,w1.2.1]
   exact hK'
  ·have X1:=X.1
   have hK':=hKO a hp _ _ _ st8 ((ow.step s7 (λb q q'=>by have:=ow.ge q;omega)).mono zO)
   simp only[oo]at hK'
   obtain⟨xa,xc,rfl,n1,n2⟩:=ow.sl
   simp(disch:=first|omega|simp only[zz];try omega;done) only[↓reduceIte,go_sem,OX,sS,qB,e3,e4,e5,A5.at,A5.2.1,A1'.2.1,A1'.2.2.1,X.at,X.2.1,w1.at,w1.2.1]
   exact hK'
end Go.Proofs.Z
namespace Go.Ev
open Go Rep Edict
variable {cs:List Value} {h:H} {u:U}
theorem YT{x:uD}:rep u h x cs=(∃v,cs=qj x v/\jS u h v x.2.1.2.1):=by
 apply propext
 obtain⟨k,⟨p,l,o⟩,op,⟨l1,l2,l3,l4⟩,⟨r1,r2,r3,r4⟩,of⟩:=x
 simp only[lg,mE,mG,mf]
 constructor
 ·rintro ⟨_,_,rfl,rfl,_,_,rfl,⟨_,_,rfl,rfl,_,_,rfl,⟨v,rfl,hv⟩,rfl⟩,_,_,rfl,rfl,_,_,rfl,⟨_,_,rfl,rfl,_,_,rfl,rfl,_,_,rfl,rfl,rfl⟩,_,_,rfl,⟨_,_,rfl,rfl,_,_,rfl,rfl,_,_,rfl,rfl,rfl⟩,rfl⟩
  exact⟨v,rfl,hv⟩
 ·rintro ⟨v,rfl,hv⟩
  exact⟨_,_,rfl,rfl,_,_,rfl,⟨_,_,rfl,rfl,_,_,rfl,⟨v,rfl,hv⟩,rfl⟩,_,_,rfl,rfl,_,_,rfl,⟨_,_,rfl,rfl,_,_,rfl,rfl,_,_,rfl,rfl,rfl⟩,_,_,rfl,⟨_,_,rfl,rfl,_,_,rfl,rfl,_,_,rfl,rfl,rfl⟩,rfl⟩
theorem CG{x:qg}:rep u h x cs=(∃v w,cs=[str x.1.1,v,Jx JT x.1.2.2,w]/\jS u h v x.1.2.1/\jS u h w x.2):=by
 apply propext
 obtain⟨⟨p,l,o⟩,b⟩:=x
 simp only[lg,mE,mG,mf]
 constructor
 ·rintro ⟨_,_,rfl,⟨_,_,rfl,rfl,_,_,rfl,⟨v,rfl,hv⟩,rfl⟩,w,rfl,hw⟩
  exact⟨v,w,rfl,hv,hw⟩
 ·rintro ⟨v,w,rfl,hv,hw⟩
  exact⟨_,_,rfl,⟨_,_,rfl,rfl,_,_,rfl,⟨v,rfl,hv⟩,rfl⟩,w,rfl,hw⟩
end Go.Ev
namespace Edict
variable {a:qX} {acc:List uD} {bad:Flt} {c:kR} {e:Flt} {k:Int} {l q r:List kR} {t:kR}
theorem Xa(h:Lf (tK t)=false): ∃e,uX bad (t::l)= .error e:=by
 unfold Lf at h
 rw[dx]at h
 have h10:tK t≠10:=of_decide_eq_false h.1
 have h1:tK t≠1:=λq=>by have:=h.2;rw[q]at this;cases this
 exact⟨_,by rw[MI h10 (λq=>h1 q.1)];exact OW h.2⟩
theorem ag9(h:Lf k=true):k=10\/pK k true=true:=by
 unfold Lf at h
 rw[dW]at h
 exact h.imp of_decide_eq_true id
theorem aek(h:Lf k=false): ¬(k=10\/pK k true=true):=by
 unfold Lf at h
 rw[dx]at h
 rintro (q|q)
 ·exact of_decide_eq_false h.1 q
 ·rw[h.2]at q;cases q
def ael(bad:Flt)(acc:List uD):List kR->PR (List uD)
 |[]=> .error bad
 |c::r=>if tK c=7 then pV bad acc r else if tK c=8 then .ok (acc,r)else .error (kH c)
theorem aem{x:uD}(h: ¬(16<=acc.length/\(tK t=10\/pK (tK t) true=true)))(he:uX bad (t::l)= .ok (x,q)):pV bad acc (t::l)=ael bad (acc++[x]) q:=by
 rw[Bv h he]
 cases q<;>rfl
theorem aa3:ael bad acc []= .error bad:=rfl
theorem Xb:ael bad acc (c::r)=if tK c=7 then pV bad acc r else if tK c=8 then .ok (acc,r)else .error (kH c):=rfl
def TC(bad:Flt)(a:qX):List kR->PR qg
 |[]=> .error bad
 |c::r=>if tK c=8 then .ok ((a,[]),r)else if tK c=9 then
    (match pV bad [] r with
    | .error e=> .error e
    | .ok (b,p)=> .ok ((a,b),p))
   else .error (kH c)
theorem Gc(h:nI bad true l= .error e):nO bad l= .error e:=by unfold nO;rw[h]
theorem Xc(h:nI bad true l= .ok (a,q)):nO bad l=TC bad a q:=by unfold nO;rw[h];cases q<;>rfl
theorem aha(h:tK c=8):TC bad a (c::r)= .ok ((a,[]),r):=by show(if tK c=8 then _ else _)=_;rw[ah h]
theorem aen(h:tK c=9)(hb:pV bad [] r= .error e):TC bad a (c::r)= .error e:=by show(if tK c=8 then _ else if tK c=9 then _ else _)=_;rw[af (by rw[h];decide),ah h,hb]
theorem aeo{b:List uD}(h:tK c=9)(hb:pV bad [] r= .ok (b,q)):TC bad a (c::r)= .ok ((a,b),q):=by show(if tK c=8 then _ else if tK c=9 then _ else _)=_;rw[af (by rw[h];decide),ah h,hb]
theorem aep(h:tK c≠8)(h':tK c≠9):TC bad a (c::r)= .error (kH c):=by show(if tK c=8 then _ else if tK c=9 then _ else _)=_;rw[af h,af h']
end Edict
namespace Go.Proofs.Z
open Go Go.Ev Edict
variable {vs:List Value} {h:H} {K:Value->H->Prop} {KP:List PanicEntry->H->Prop}
def YU(vs:List Value)(h:H)(K:Value->H->Prop)(KP:List PanicEntry->H->Prop):Prop:= ∃(u:U) (rb:Nat) (sl:Value) (L:List kR) (bad:Flt) (i:Nat),vs=[.pointer (some ⟨rb,0,none⟩)]/\Af u h rb sl L bad i/\
 (∀e,pV bad [] (L.drop i)= .error e-> ∀u' h',jD (λb=>b=rb) u h u' h'->KP (gu e) h')/\
 (∀l q,pV bad [] (L.drop i)= .ok (l,q)-> ∀u' h' w i',jD (λb=>b=rb) u h u' h'->Af u' h' rb sl L bad i'->L.drop i'=q->lm h.size u' h' w l->K w h')
def akX:lq:=λf vs h K KP=>(f=13/\sJ vs h K KP)\/(f=91/\MJ vs h K)\/(f=14/\Br vs h KP)\/(f=92/\aet vs h K KP)\/(f=52/\vD vs h KP)
theorem aeq:lQ Tryz.prog akX:=by
 rintro f vs h K KP (⟨rfl,hC⟩|⟨rfl,hC⟩|⟨rfl,hC⟩|⟨rfl,hC⟩|⟨rfl,hC⟩)
 ·exact qA hC
 ·exact TE hC
 ·exact xW hC
 ·exact aev hC
 ·exact uB hC
theorem aa4(hC:YU vs h K KP):kN Tryz.prog 51 vs h K KP:=by
 obtain⟨u,rb,sl,L,bad,i,rfl,hR,hKE,hKO⟩:=hC
 refine jJ 17217622029 [(none,(.t 2))] aeq Tryz.func51 ?_
 have hrb:rb<h.size:=hR.1.1
 have hLl:=hR.2.2.2
 obtain⟨R,hRR⟩: ∃R,pV bad [] (L.drop i)=R:=⟨_,rfl⟩
 rw[hRR]at hKE hKO
 simp only[go_sem]
 obtain⟨I,hI⟩:=kg (α:=Nat->ku->H->Prop) λj σ h'=> ∃(u':U) (w:Value) (acc:List uD),σ 0= .pointer (some ⟨rb,0,none⟩)/\σ 3=w/\jD (λb=>b=rb) u h u' h'/\Af u' h' rb sl L bad j/\lm h.size u' h' w acc/\acc.length<=16/\pV bad acc (L.drop j)=R
 refine jE I (λj=>L.length - j) i (by rw[hI];exact⟨u,_,[],zJ,zJ,jD.refl _ _ _,hR,.nil _ _ _,zP,hRR⟩) ?_
 clear hRR
 intro j σ h' hy
 rw[hI]at hy
 obtain⟨u',w,acc,e0,e3,st,hRj,ow,hacc,hA⟩:=hy
 obtain⟨wa,wc,rfl,m1,m2⟩:=ow.sl
 have hz:=st.ge.sz
 have hwr: ∀b,jL (.slice wa acc.length wc) b->b≠rb:=λb q=>by have:=ow.ge q;omega
 by_cases h16:16<=acc.length
 ·simp only[↓reduceIte,go_sem,e0,e3,ai (show(16:Int)<=(acc.length:Nat) by omega)]
  refine jC (.inl ⟨rfl,u',rb,sl,L,bad,j,rfl,hRj,λu2 h2 s2=>⟨λhd=> ?_,λt r hd=>⟨jO,?_⟩⟩⟩)
  ·rw[hd,xZ]at hA
   exact hKE _ hA.symm _ _ (st.tZ s2)
  have hR2:=hRj.sZ s2
  have st2:=st.tZ s2
  rw[hd]at hA
  simp only[kU]
  simp(disch:=omega) only[↓reduceIte,go_sem,e3,ai (show(16:Int)<=(acc.length:Nat) by omega)]
  refine jC (.inr (.inl ⟨rfl,t.1,rfl,⟨jO,?_⟩⟩))
  cases hb:Lf t.1 with
  |true=>
   rw[yO ⟨h16,ag9 hb⟩]at hA
   simp only[↓reduceIte,go_sem,e0,e3,ai (show(16:Int)<=(acc.length:Nat) by omega)]
   exact jC (.inr (.inr (.inl ⟨rfl,u2,rb,sl,L,bad,j,23,rfl,hR2,λu5 h5 s5=>⟨λq=>(uP hd q).elim,λt' r' hd'=>(by obtain⟨rfl,rfl⟩:=sI hd hd';exact hKE _ hA.symm _ _ (st2.tZ s5))⟩⟩)))
  |false=>
   obtain⟨e,he⟩:=Xa (bad:=bad) (l:=r) (show Lf (tK t)=false from hb)
   rw[vE (λq=>aek hb q.2) he]at hA
   simp only[↓reduceIte,go_sem,e0,e3,ai (show(16:Int)<=(acc.length:Nat) by omega)]
   refine jC (.inr (.inr (.inr (.inl ⟨rfl,u2,rb,sl,L,bad,j,rfl,hR2,λe' he' u5 h5 s5=> ?_,λx q hx=> ?_⟩))))
   ·rw[hd,he]at he'
    cases he'
    exact hKE _ hA.symm _ _ (st2.trans s5 (λ_ _ q=>q))
   ·rw[hd,he]at hx
    cases hx
 ·have hnf: ∀k:Int,¬(16<=acc.length/\(k=10\/pK k true=true)):=λk q=>h16 q.1
  simp only[↓reduceIte,go_sem,e0,e3,ae (show¬(16:Int)<=(acc.length:Nat) by omega)]
  refine jC (.inr (.inr (.inr (.inl ⟨rfl,u',rb,sl,L,bad,j,rfl,hRj,λe he u2 h2 s2=> ?_,λx q hx u2 h2 w2 i2 s2 hR2 hd2 iw2=>⟨jO,?_⟩⟩))))
  ·refine hKE e ?_ _ _ (st.trans s2 (λ_ _ q=>q))
   rw[<-hA]
   cases hd:L.drop j with
   |nil=>rw[hd]at he;cases he;rw[xZ]
   |cons t r=>rw[hd]at he;exact vE (hnf _) he
  cases hd:L.drop j with
  |nil=>rw[hd]at hx;cases hx
  |cons t r=>
  rw[hd]at hx hA
  rw[aem (hnf _) hx]at hA
  have hlen:=Ah hx
  clear hx
  have ow2:=ow.step s2 (λb q q'=>hwr b q q')
  have st2:=st.trans s2 (λ_ _ q=>q)
  have hz2:=s2.ge.sz
  obtain⟨ya,yc,rfl,k1,k2⟩:=iw2.sl
  have hrep:Rep.rep u2 h2 x (qj x (.slice ya x.2.1.2.1.length yc)):=by rw[YT];exact⟨_,rfl,iw2⟩
  simp only[qj]at hrep ⊢
  simp only[↓reduceIte,go_sem,e3]
  refine lD (by simp only[]) ow2 (x:=x) hrep rfl rfl zO zO λa5 n5 c5 u5 h5 o5 s5 hO5=>⟨jO,?_⟩
  obtain⟨_,_,hme,m51,m52⟩:=o5.sl
  simp only[Value.slice.injEq]at hme
  obtain⟨rfl,rfl,rfl⟩:=hme
  obtain⟨ac2,hac2⟩:=kg (acc++[x])
  have hl2:ac2.length=acc.length+1:=by rw[hac2];simp
  rw[<-hac2]at o5 hO5 m51 hA ⊢
  have hR5:=hR2.step s5 (λq=>hwr _ q rfl)
  have st5:=st2.trans s5 (λb hb q=>by have:=ow2.ge q;omega)
  have hn5: ∀b,jL (.slice a5 ac2.length c5) b->b≠rb:=λb q=>by have:=o5.ge q;omega
  simp only[↓reduceIte,go_sem,e0]
  refine jC (.inl ⟨rfl,u5,rb,sl,L,bad,i2,rfl,hR5,λu6 h6 s6=>⟨λhd'=> ?_,λc r' hd'=>⟨jO,?_⟩⟩⟩)
  ·rw[hd2]at hd'
   subst hd'
   rw[aa3]at hA
   exact hKE _ hA.symm _ _ (st5.tZ s6)
  have hd2':=hd'
  rw[hd2]at hd'
  subst hd'
  rw[Xb]at hA
  obtain⟨hlt2,-,hd3⟩:=mD hd2'
  have hlt8:j<i2+1:=by
   have e1:(L.drop i2).length=r'.length+1:=by rw[hd2'];rfl
   have e2:(L.drop j).length=r.length+1:=by rw[hd];rfl
   rw[bY]at e1 e2
   simp only[au]at hlen
   omega
  have hR6:=hR5.sZ s6
  have o6:=o5.sZ s6
  have st6:=st5.tZ s6
  have hRB6:=hR6.1
  have hRb6:=hRB6.1
  obtain⟨h7,hh7,s7,hR7⟩:=hR6.adv hlt2
  have o7:=o6.step s7 (λb q q'=>hn5 b q q')
  have st7:jD (λb=>b=rb) u h u6 h7:=st6.trans s7 (λb _ q=>q)
  simp only[kU]
  by_cases h7':c.1=7
  ·rw[ah (show tK c=7 from h7')]at hA
   simp(disch:=first|omega|simp only[zz];try omega;done) only[↓reduceIte,go_sem,ai h7',e0,hRB6.at,hRB6.2.1,hRB6.2.2.1,<-hh7]
   refine⟨i2+1,?_,zO⟩
   rw[hI]
   refine⟨u6,_,ac2,?_,?_,st7,hR7,o7,zO,by rw[hd3];exact hA⟩<;>simp [jI,e0]
  rw[af (show¬tK c=7 from h7')]at hA
  by_cases h8':c.1=8
  ·rw[ah (show tK c=8 from h8')]at hA
   simp(disch:=first|omega|simp only[zz];try omega;done) only[↓reduceIte,go_sem,ae h7',ai h8',e0,hRB6.at,hRB6.2.1,hRB6.2.2.1,<-hh7]
   exact hKO _ _ hA.symm _ _ _ _ st7 hR7 hd3 o7
  ·rw[af (show¬tK c=8 from h8')]at hA
   simp(disch:=omega) only[↓reduceIte,go_sem,ae h7',ae h8',e0]
   exact jC (.inr (.inr (.inr (.inr ⟨rfl,u6,rb,sl,L,bad,i2,rfl,hR6,λu8 h8 s8=>⟨λq=>(uP hd2' q).elim,λt' r' hd'=>(by obtain⟨rfl,rfl⟩:=sI hd2' hd';exact hKE _ hA.symm _ _ (st6.tZ s8))⟩⟩))))
def MH(vs:List Value)(h:H)(K:Value->H->Prop)(KP:List PanicEntry->H->Prop):Prop:= ∃(u:U) (rb:Nat) (sl:Value) (L:List kR) (bad:Flt) (i:Nat),vs=[.pointer (some ⟨rb,0,none⟩)]/\Af u h rb sl L bad i/\
 (∀e,nO bad (L.drop i)= .error e-> ∀u' h',jD (λb=>b=rb) u h u' h'->KP (gu e) h')/\
 (∀x q,nO bad (L.drop i)= .ok (x,q)-> ∀u' h' v w i',jD (λb=>b=rb) u h u' h'->Af u' h' rb sl L bad i'->L.drop i'=q->jS u' h' v x.1.2.1->jS u' h' w x.2->K (.agg #[str x.1.1,v,Jx JT x.1.2.2,w]) h')
def akY:lq:=λf vs h K KP=>(f=13/\sJ vs h K KP)\/(f=17/\GN vs h K KP)\/(f=51/\YU vs h K KP)\/(f=52/\vD vs h KP)
theorem aer:lQ Tryz.prog akY:=by
 rintro f vs h K KP (⟨rfl,hC⟩|⟨rfl,hC⟩|⟨rfl,hC⟩|⟨rfl,hC⟩)
 ·exact qA hC
 ·exact EE hC
 ·exact aa4 hC
 ·exact uB hC
theorem TD(hC:MH vs h K KP):kN Tryz.prog 15 vs h K KP:=by
 obtain⟨u,rb,sl,L,bad,i,rfl,hR,hKE,hKO⟩:=hC
 refine jJ 2101773 [((some (.c1 (.ldn 4) (.t 2))),(.o1 (.ldn 4) (.t 2)))] aer Tryz.func15 ?_
 have s1:=jD.qZ S0 u h #[str [],.slice none 0 0,Jx JT 0,.slice none 0 0] 54
 have B1:=jR.new (u:=u) (h:=h) [str [],.slice none 0 0,Jx JT 0,.slice none 0 0] 54
 obtain⟨h1,hh1⟩:=kg (h.push (.cells #[str [],.slice none 0 0,Jx JT 0,.slice none 0 0] 54))
 obtain⟨u1,hu1⟩:=kg (ub u h.size 0)
 have B1':jR u1 h1 h.size [str [],.slice none 0 0,Jx JT 0,.slice none 0 0]:=by rw[hu1,hh1];exact B1
 rw[<-hh1,<-hu1]at s1
 clear B1
 have hR1:=hR.sZ s1
 have hrb:rb<h.size:=hR.1.1
 have hLl:=hR.2.2.2
 have hne1:h.size≠rb:=zO
 have st1:jD (λb=>b=rb) u h u1 h1:=s1.mono (λ_ _ q=>q.elim)
 simp only[↓reduceIte,go_sem,<-hh1]
 refine jC (.inr (.inl ⟨rfl,u1,rb,sl,L,bad,i,true,rfl,hR1,λe he u2 h2 s2=> ?_,λa q ha u2 h2 w2 i2 s2 hR2 hd2 ow2=>⟨jO,?_⟩⟩))
 ·exact hKE _ (Gc he) _ _ (st1.trans s2 (λ_ _ q=>q))
 rw[Xc ha]at hKE hKO
 have iw2:=ow2.iZ
 obtain⟨wa,wc,rfl,m1,m2⟩:=ow2.sl
 have B12:=B1'.step s2 hne1
 have hz2:=s2.ge.sz
 have hz1:=B1'.1
 obtain⟨h3,h4,u4,hh3,hh4,B3,B4,s4,hz4⟩:=rA u2 h2 [str [],.slice none 0 0,Jx JT 0,.slice none 0 0] [str a.1,.slice wa a.2.1.length wc,Jx JT a.2.2,.slice none 0 0] 54 rfl
 have B14:=B12.sZ s4
 have hR4:=hR2.sZ s4
 have iw4:=iw2.mono s4.ge
 have st4:=(st1.trans s2 (λ_ _ q=>q)).tZ s4
 have B31:=B3.1
 have B41:=B4.1
 have hne2:h2.size≠rb:=zO
 simp only[↓reduceIte,go_sem,<-hh3,<-hh4,B3.2.1,B3.2.2.1]
 refine jC (.inl ⟨rfl,u4,rb,sl,L,bad,i2,rfl,hR4,λu5 h5 s5=>⟨λhd=> ?_,λc r hd=>⟨jO,?_⟩⟩⟩)
 ·rw[hd2]at hd
  subst hd
  exact hKE _ rfl _ _ (st4.tZ s5)
 have hd':=hd
 rw[hd2]at hd
 subst hd
 obtain⟨hlt,-,hd3⟩:=mD hd'
 have hR5:=hR4.sZ s5
 have B15:=B14.sZ s5
 have B45:=B4.sZ s5
 have iw5:=iw4.mono s5.ge
 have st5:=st4.tZ s5
 have hRB5:=hR5.1
 have hRb5:=hRB5.1
 obtain⟨h6,hh6,s6,hR6⟩:=hR5.adv hlt
 have B16:=B15.step s6 hne1
 have B46:=B45.step s6 hne2
 have iw6:=iw5.mono s6.ge
 have st6:jD (λb=>b=rb) u h u5 h6:=st5.trans s6 (λ_ _ q=>q)
 have B161:=B16.1
 have B461:=B46.1
 simp only[kU]
 by_cases h8:c.1=8
 ·have w:=B16.sets (l:=[str a.1,.slice wa a.2.1.length wc,Jx JT a.2.2,.slice none 0 0]) rfl
  have s7:=st6.rZ (b:=h.size) (o:=0) (l:=[str a.1,.slice wa a.2.1.length wc,Jx JT a.2.2,.slice none 0 0]) (.inl (ak _)) (by rw[B16.2.2.2.1];exact aj _) (by rw[B16.2.1];exact ak _)
  have s67:=jD.sets (S:=λb=>b=h.size) u5 h6 (b:=h.size) (o:=0) [str a.1,.slice wa a.2.1.length wc,Jx JT a.2.2,.slice none 0 0] rfl (by rw[B16.2.2.2.1];exact aj _) (by rw[B16.2.1];exact ak _)
  have hK':=hKO _ _ (aha (show tK c=8 from h8)) _ _ _ (.slice none 0 0) _ s7 (hR6.step s67 (λq=>hne1 q.symm)) hd3 (iw6.mono s67.ge) (.nil _ _)
  simp(disch:=first|omega|simp only[zz];try omega;done) only[↓reduceIte,go_sem,ai h8,hRB5.at,hRB5.2.1,hRB5.2.2.1,<-hh6,B46.at,B46.2.1,B16.2.1,B16.2.2.1,w.at,w.2.1]
  exact hK'
 by_cases h9:c.1=9
 ·simp(disch:=first|omega|simp only[zz];try omega;done) only[↓reduceIte,go_sem,ae h8,ai h9,hRB5.at,hRB5.2.1,hRB5.2.2.1,<-hh6]
  refine jC (.inr (.inr (.inl ⟨rfl,u5,rb,sl,L,bad,i2+1,rfl,hR6,λe he u7 h7 s7=> ?_,λb q hb u7 h7 w7 i7 s7 hR7 hd7 ow7=>⟨jO,?_⟩⟩)))
  ·rw[hd3]at he
   exact hKE _ (aen h9 he) _ _ (st6.trans s7 (λ_ _ q=>q))
  rw[hd3]at hb
  have B17:=B16.step s7 hne1
  have B47:=B46.step s7 hne2
  have iw7:=iw6.mono s7.ge
  have ib7:=ow7.iZ
  have st7:=st6.trans s7 (λ_ _ q=>q)
  obtain⟨ba,bc,rfl,n1,n2⟩:=ow7.sl
  have B471:=B47.1
  have B48:=B47.set (i:=3) (v:= .slice ba b.length bc) zP
  have s8:=jD.set (S:=λb=>b=h2.size) u7 h7 (b:=h2.size) (o:=3) (.slice ba b.length bc) rfl (by rw[B47.2.2.2.1];exact aj _)
  obtain⟨h8',hh8⟩:=kg (ky h7 h2.size 3 (.slice ba b.length bc))
  rw[<-hh8]at B48 s8
  simp only[dK,cu]at B48
  have hR8:=hR7.step s8 (λq=>hne2 q.symm)
  have B18:=B17.step s8 zO
  have st8:=st7.trans s8 (λb hb q=>zO)
  have B481:=B48.1
  have B181:=B18.1
  have w:=B18.sets (l:=[str a.1,.slice wa a.2.1.length wc,Jx JT a.2.2,.slice ba b.length bc]) rfl
  have s9:=st8.rZ (b:=h.size) (o:=0) (l:=[str a.1,.slice wa a.2.1.length wc,Jx JT a.2.2,.slice ba b.length bc]) (.inl (ak _)) (by rw[B18.2.2.2.1];exact aj _) (by rw[B18.2.1];exact ak _)
  have s89:=jD.sets (S:=λb=>b=h.size) u7 h8' (b:=h.size) (o:=0) [str a.1,.slice wa a.2.1.length wc,Jx JT a.2.2,.slice ba b.length bc] rfl (by rw[B18.2.2.2.1];exact aj _) (by rw[B18.2.1];exact ak _)
  have hK':=hKO _ _ (aeo (show tK c=9 from h9) hb) _ _ _ _ _ s9 (hR8.step s89 (λq=>hne1 q.symm)) hd7 ((iw7.mono s8.ge).mono s89.ge) ((ib7.mono s8.ge).mono s89.ge)
  simp(disch:=first|omega|simp only[zz];try omega;done) only[↓reduceIte,go_sem,B47.2.1,B47.2.2.1,<-hh8,B48.at,B48.2.1,B18.2.1,B18.2.2.1,w.at,w.2.1]
  exact hK'
 ·simp(disch:=omega) only[↓reduceIte,go_sem,ae h8,ae h9]
  exact jC (.inr (.inr (.inr ⟨rfl,u5,rb,sl,L,bad,i2,rfl,hR5,λu8 hx8 s8=>⟨λq=>(uP hd' q).elim,λt' r' hd''=>(by obtain⟨rfl,rfl⟩:=sI hd' hd'';exact hKE _ (aep h8 h9) _ _ (st5.tZ s8))⟩⟩)))
end Go.Proofs.Z
namespace Edict
variable {acc:List qg} {bad:Flt} {l:List kR} {t:kR}
theorem aa0:nQ bad acc []= .error bad:=by unfold nQ;exact Dy
theorem aa1(h:tK t=0):nQ bad acc (t::l)= .ok acc:=by unfold nQ;exact Dz h
theorem WY(h0:tK t≠0)(h:512<=acc.length/\tK t=1):nQ bad acc (t::l)= .error (wZ 24 t):=by unfold nQ;exact Bz h0 h
theorem MF{e:Flt}(h0:tK t≠0)(h: ¬(512<=acc.length/\tK t=1))(he:nO bad (t::l)= .error e):nQ bad acc (t::l)= .error e:=by unfold nQ;exact DD h0 h he
theorem aef{x:qg}{q:List kR}(h0:tK t≠0)(h: ¬(512<=acc.length/\tK t=1))(he:nO bad (t::l)= .ok (x,q)):nQ bad acc (t::l)=nQ bad (acc++[x]) q:=by unfold nQ;exact GR h0 h he
theorem aeg(bad:Flt)(l:List kR)(hg:oO l bad)(e:Flt)(h:nQ bad [] l= .error e):e.1≠0:=((LU hg).1 e h).2
end Edict
namespace Go.Proofs.Z
open Go Go.Ev Edict
variable {vs:List Value} {h:H} {K:Value->H->Prop} {KP:List PanicEntry->H->Prop}
def TB(vs:List Value)(h:H)(K:Value->H->Prop)(KP:List PanicEntry->H->Prop):Prop:= ∃(u:U) (rb xb:Nat) (sl:Value) (L:List kR) (bad:Flt),vs=[.pointer (some ⟨rb,0,none⟩),.pointer (some ⟨xb,0,none⟩)]/\Af u h rb sl L bad 0/\jR u h xb [.slice none 0 0]/\xb≠rb/\
 (∀e,nQ bad [] L= .error e-> ∀u' h',jD (λb=>b=rb\/b=xb) u h u' h'->KP (gu e) h')/\
 (∀l,nQ bad [] L= .ok l-> ∀u' h' w v,jD (λb=>b=rb\/b=xb) u h u' h'->jR u' h' xb [w]->lm h.size u' h' w l->K v h')
def ajw:lq:=λf vs h K KP=>(f=13/\sJ vs h K KP)\/(f=14/\Br vs h KP)\/(f=15/\MH vs h K KP)
theorem aa2:lQ Tryz.prog ajw:=by
 rintro f vs h K KP (⟨rfl,hC⟩|⟨rfl,hC⟩|⟨rfl,hC⟩)
 ·exact qA hC
 ·exact xW hC
 ·exact TD hC
theorem Le(hC:TB vs h K KP):kN Tryz.prog 12 vs h K KP:=by
 obtain⟨u,rb,xb,sl,L,bad,rfl,hR,hX,hxr,hKE,hKO⟩:=hC
 refine jJ 65603 [] aa2 Tryz.func12 ?_
 have hrb:=hR.1.1
 have hxb:=hX.1
 have hLl:=hR.2.2.2
 have up: ∀{u1:U} {h1:H} {u':U} {h':H},jD (λb=>b=rb) u1 h1 u' h'->jD (λb=>b=rb\/b=xb) u1 h1 u' h':=λs=>s.mono (λ_ _ q=> .inl q)
 obtain⟨R,hRR⟩: ∃R,nQ bad [] L=R:=⟨_,rfl⟩
 rw[hRR]at hKE hKO
 simp only[go_sem]
 obtain⟨I,hI⟩:=kg (α:=Nat->ku->H->Prop) λj σ h'=> ∃(u':U) (w:Value) (acc:List qg),σ 0= .pointer (some ⟨rb,0,none⟩)/\σ 1= .pointer (some ⟨xb,0,none⟩)/\jD (λb=>b=rb\/b=xb) u h u' h'/\Af u' h' rb sl L bad j/\jR u' h' xb [w]/\lm h.size u' h' w acc/\acc.length<=512/\nQ bad acc (L.drop j)=R
 refine jE I (λj=>L.length - j) 0 (by rw[hI];exact⟨u,_,[],zJ,zJ,jD.refl _ _ _,hR,hX,.nil _ _ _,zP,by rw[eU];exact hRR⟩) ?_
 clear hRR
 intro j σ h' hy
 rw[hI]at hy
 obtain⟨u',w,acc,e0,e1,st,hRj,X,ow,hacc,hA⟩:=hy
 obtain⟨wa,wc,rfl,m1,m2⟩:=ow.sl
 have hX1:=X.1
 have hz:=st.ge.sz
 simp only[go_sem,e0]
 refine jC (.inl ⟨rfl,u',rb,sl,L,bad,j,rfl,hRj,λu2 h2 s2=>⟨λhd=> ?_,λt r hd=>⟨jO,?_⟩⟩⟩)
 ·rw[hd,aa0]at hA
  exact hKE _ hA.symm _ _ (st.tZ s2)
 have hR2:=hRj.sZ s2
 have X2:=X.sZ s2
 have ow2:=ow.sZ s2
 have st2:=st.tZ s2
 have hX2:=X2.1
 rw[hd]at hA
 simp only[kU]
 by_cases h0:t.1=0
 ·rw[aa1 (show tK t=0 from h0)]at hA
  simp(disch:=omega) only[↓reduceIte,go_sem,ai h0]
  exact hKO _ hA.symm _ _ _ _ st2 X2 ow2
 have h0':tK t≠0:=h0
 have hwr: ∀b,jL (.slice wa acc.length wc) b->b≠rb/\b≠xb:=λb q=>by have:=ow.ge q;omega
 by_cases hfull:512<=acc.length
 ·simp(disch:=first|omega|simp only[zz];try omega;done) only[↓reduceIte,go_sem,ae h0,e0,e1,X2.at,X2.2.1,ai (show(512:Int)<=(acc.length:Nat) by omega)]
  refine jC (.inl ⟨rfl,u2,rb,sl,L,bad,j,rfl,hR2,λu3 h3 s3=>⟨λq=>(uP hd q).elim,λt' r' hd'=>⟨jO,?_⟩⟩⟩)
  obtain⟨rfl,rfl⟩:=sI hd hd'
  have hR3:=hR2.sZ s3
  have st3:=st2.tZ s3
  have X3:=X2.sZ s3
  have hX3:=X3.1
  simp only[kU]
  by_cases h1:t.1=1
  ·rw[WY h0' ⟨hfull,h1⟩]at hA
   simp(disch:=omega) only[↓reduceIte,go_sem,ai h1,e0]
   exact jC (.inr (.inl ⟨rfl,u3,rb,sl,L,bad,j,24,rfl,hR3,λu5 h5 s5=>⟨λq=>(uP hd q).elim,λt' r' hd'=>(by obtain⟨rfl,rfl⟩:=sI hd hd';exact hKE _ hA.symm _ _ (st3.tZ s5))⟩⟩))
  ·obtain⟨e,he⟩: ∃e,nO bad (t::r)= .error e:=⟨_,Gc (uC (show tK t≠1 from h1))⟩
   rw[MF h0' (λq=>h1 q.2) he]at hA
   simp(disch:=first|omega|simp only[zz];try omega;done) only[↓reduceIte,go_sem,ae h1,e0,e1,X3.at,X3.2.1]
   refine jC (.inr (.inr ⟨rfl,u3,rb,sl,L,bad,j,rfl,hR3,λe' he' u5 h5 s5=> ?_,λx q hx=> ?_⟩))
   ·rw[hd,he]at he'
    cases he'
    exact hKE _ hA.symm _ _ (st3.trans (up s5) (λ_ _ q=>q))
   ·rw[hd,he]at hx
    cases hx
 ·have hnf: ¬(512<=acc.length/\tK t=1):=λq=>hfull q.1
  simp(disch:=first|omega|simp only[zz];try omega;done) only[↓reduceIte,go_sem,ae h0,e0,e1,X2.at,X2.2.1,ae (show¬(512:Int)<=(acc.length:Nat) by omega)]
  refine jC (.inr (.inr ⟨rfl,u2,rb,sl,L,bad,j,rfl,hR2,λe he u5 h5 s5=> ?_,λa q ha u3 h3 v3 w3 i3 s3 hR3 hd3 iv3 iw3=> ?_⟩))
  ·rw[hd]at he
   rw[MF h0' hnf he]at hA
   exact hKE _ hA.symm _ _ (st2.trans (up s5) (λ_ _ q=>q))
  rw[hd]at ha
  have hlen3:=Ai ha
  rw[aef h0' hnf ha]at hA
  clear ha
  have X3:=X2.step s3 hxr
  have ow3:=ow2.step s3 (λb q q'=>(hwr b q).1 q')
  have st3:=st2.trans (up s3) (λ_ _ q=>q)
  have hX3:=X3.1
  have hz3:=st3.ge.sz
  have hrep:Rep.rep u3 h3 a [str a.1.1,v3,Jx JT a.1.2.2,w3]:=by rw[CG];exact⟨_,_,rfl,iv3,iw3⟩
  obtain⟨v3a,v3c,rfl,k1,k2⟩:=iv3.sl
  obtain⟨w3a,w3c,rfl,k3,k4⟩:=iw3.sl
  refine⟨by simp(disch:=first|omega|simp only[zz];try omega;done) only[↓reduceIte,go_sem,e1,X2.at,X3.at,X3.2.1],?_⟩
  have X3':jR (ub u3 h3.size 0) (h3.push (.cells #[str a.1.1,.slice v3a a.1.2.1.length v3c,Jx JT a.1.2.2,.slice w3a a.2.length w3c] 54)) xb [.slice wa acc.length wc]:=X3.sZ (jD.qZ S0 u3 h3 _ _)
  simp(disch:=first|omega|simp only[zz];try omega;done) only[↓reduceIte,go_sem,e1,X3.at,X3.2.1]
  refine lD (by simp only[]) ow3 (x:=a) hrep rfl rfl zO zO λa5 n5 c5 u5 h5 o5 s5 hO5=>⟨jO,?_⟩
  obtain⟨_,_,hme,m51,m52⟩:=o5.sl
  simp only[Value.slice.injEq]at hme
  obtain⟨rfl,rfl,rfl⟩:=hme
  obtain⟨ac2,hac2⟩:=kg (acc++[a])
  have hl2:ac2.length=acc.length+1:=by rw[hac2];simp
  rw[<-hac2]at o5 hO5 m51 hA ⊢
  have X5:=X3.step s5 (λq=>(hwr _ q).2 rfl)
  have hR5:=hR3.step s5 (λq=>(hwr _ q).1 rfl)
  have hX5:=X5.1
  have X6:=X5.set (i:=0) (v:= .slice a5 ac2.length c5) zP
  have s6:=jD.set (S:=λb=>b=xb) u5 h5 (b:=xb) (o:=0) (.slice a5 ac2.length c5) rfl (by rw[X5.2.2.2.1];exact aj _)
  obtain⟨h6,hh6⟩:=kg (ky h5 xb 0 (.slice a5 ac2.length c5))
  rw[<-hh6]at X6 s6
  simp only[cu]at X6
  have o6:=o5.step s6 (λb q q'=>by have:=o5.ge q;omega)
  have hR6:=hR5.step s6 (λq=>hxr q.symm)
  have st6:=(st3.trans s5 (λb hb q=>by have:=ow3.ge q;omega)).trans s6 (λb _ q=> .inr q)
  have hlt8:j<i3:=by
   have hi3:i3<=L.length:=hR3.2.1
   have e1:(L.drop i3).length=q.length:=by rw[hd3]
   have e2:(L.drop j).length=r.length+1:=by rw[hd];rfl
   rw[bY]at e1 e2
   simp only[au]at hlen3
   omega
  simp only[↓reduceIte,go_sem,X5.2.1,X5.2.2.1,<-hh6,e1]
  refine⟨i3,?_,by have:=hR3.2.1;omega⟩
  rw[hI]
  refine⟨u5,_,ac2,?_,?_,st6,hR6,X6,o6,zO,by rw[hd3];exact hA⟩<;>simp [jI,e0,e1]
def ahN:S:=sF (sS (sS nS))
def aeh:S:=sS (sS (sS nS))
theorem aei:nS= .seq (sF nS) (.seq (sF (sS nS)) (.seq ahN aeh)):=rfl
def WZ(vs:List Value)(h:H)(K:Value->H->Prop):Prop:= ∃(u:U) (src:List UInt8),vs=[str src]/\src.length<=9223372036854775807/\UH u h/\
 (∀e,mg (λb l=>nQ b [] l) src= .error e-> ∀u' h',jD S0 u h u' h'->K (.tuple #[.agg #[.slice none 0 0],oo e]) h')/\
 (∀a,mg (λb l=>nQ b [] l) src= .ok a-> ∀u' h' w,jD S0 u h u' h'->lm h.size u' h' w a->K (.tuple #[.agg #[w],oo (0,0)]) h')
def MG:lq:=λf vs h K KP=>f=11/\ED vs h K
theorem aej:lQ Tryz.prog MG:=by
 rintro f vs h K KP ⟨rfl,hC⟩;exact Dt hC
theorem OV(hC:WZ vs h K):kN Tryz.prog 4 vs h K KP:=by
 obtain⟨u,src,rfl,hl,hG,hKE,hKO⟩:=hC
 refine jJ (s:=nS) 2109 [((some (.c1 (.ldn 1) (.t 2))),(.o1 (.ldn 1) (.t 2))),((some (.c1 (.ldn 3) (.t 3))),(.o1 (.ldn 3) (.t 3)))] aej Tryz.func4 ?_ (by kernel_rfl) (by kernel_rfl)
 have s1:=jD.qZ S0 u h #[.slice none 0 0] 24
 have B1:=jR.new (u:=u) (h:=h) [.slice none 0 0] 24
 obtain⟨h1,hh1⟩:=kg (h.push (.cells #[.slice none 0 0] 24))
 obtain⟨u1,hu1⟩:=kg (ub u h.size 0)
 have B1':jR u1 h1 h.size [.slice none 0 0]:=by rw[hu1,hh1];exact B1
 rw[<-hh1,<-hu1]at s1
 clear B1
 have s2:=jD.qZ S0 u1 h1 #[Jx JT 0,Jx JT 0,Jx JT 0] 27
 have B2:=jR.new (u:=u1) (h:=h1) [Jx JT 0,Jx JT 0,Jx JT 0] 27
 obtain⟨h2,hh2⟩:=kg (h1.push (.cells #[Jx JT 0,Jx JT 0,Jx JT 0] 27))
 obtain⟨u2,hu2⟩:=kg (ub u1 h1.size 0)
 have B2':jR u2 h2 h1.size [Jx JT 0,Jx JT 0,Jx JT 0]:=by rw[hu2,hh2];exact B2
 rw[<-hh2,<-hu2]at s2
 clear B2
 have s3:=jD.qZ S0 u2 h2 #[.slice none 0 0] 24
 have B3:=jR.new (u:=u2) (h:=h2) [.slice none 0 0] 24
 obtain⟨h3,hh3⟩:=kg (h2.push (.cells #[.slice none 0 0] 24))
 obtain⟨u3,hu3⟩:=kg (ub u2 h2.size 0)
 have B3':jR u3 h3 h2.size [.slice none 0 0]:=by rw[hu3,hh3];exact B3
 rw[<-hh3,<-hu3]at s3
 clear B3
 have z1:h1.size=h.size+1:=by rw[hh1];simp
 have z2:h2.size=h1.size+1:=by rw[hh2];simp
 have z3:h3.size=h2.size+1:=by rw[hh3];simp
 have st3:=(s1.tZ s2).tZ s3
 have A1:=(B1'.sZ s2).sZ s3
 have A2:=B2'.sZ s3
 obtain⟨T,hT⟩:=kg (α:=Flt->U->H->Prop) λf uE h'=>jD S0 u h uE h'/\jR uE h' h.size [.slice none 0 0]/\jR uE h' h1.size [Jx JT 0,Jx JT 0,Jx JT 0]/\h2.size<h'.size/\
  ((f.1≠0/\mg (λb l=>nQ b [] l) src= .error f)\/(f=(0,0)/\ ∃(a:List qg) (w:Value),mg (λb l=>nQ b [] l) src= .ok a/\jR uE h' h2.size [w]/\lm h3.size uE h' w a))
 obtain⟨M,hM⟩:=kg (α:=ku->H->Prop) λσ' h'=> ∃(f:Flt) (uE:U) (b5:Nat),σ' 2= .pointer (some ⟨h.size,0,none⟩)/\σ' 3= .pointer (some ⟨h1.size,0,none⟩)/\σ' 4= .pointer (some ⟨h2.size,0,none⟩)/\σ' 5= .pointer (some ⟨b5,0,none⟩)/\T f uE h'/\jR uE h' b5 [Jx JT f.1,Jx JT 0,Jx JT f.2]/\h2.size<b5
 rw[aei]
 simp only[go_sem,sF,sS,nS,<-hh1,<-hh2,<-hh3]
 have cut: ∀(A B:S) (Q:tH) (σ:ku) (h:H),(∀R:ku->H->Prop,(∀σ' h',M σ' h'->R σ' h')->wpS MG A (BL R Q) σ h)->(∀σ' h',M σ' h'->wpS MG B Q σ' h')->wpS MG A (BL (wpS MG B Q) Q) σ h:=λA B Q σ h k1 k2=>k1 _ k2
 refine cut _ _ _ _ _ ?_ ?_
 ·intro R hR
  have fin: ∀(f:Flt) (uE:U) (hE:H) (σ0:ku) (Q:tH) (KPx:List PanicEntry->H->Prop),σ0 2= .pointer (some ⟨h.size,0,none⟩)->σ0 3= .pointer (some ⟨h1.size,0,none⟩)->σ0 4= .pointer (some ⟨h2.size,0,none⟩)->T f uE hE->
    kT MG [St.eff [] (some 5) (F.alloc 27 #[Jx JT 0,Jx JT 0,Jx JT 0]) [] [],St.eff [] none (F.store 3) [E.t 5,E.t 8] []] (BL R Q Exit.normal) KPx (nD σ0 (some 8) (oo f)) hE:=by
   intro f uE hE σ0 Q KPx e2 e3 e4 hTf
   obtain⟨h5,h6,u6,hh5,hh6,B5,B6,s6,hz6⟩:=rA uE hE [Jx JT 0,Jx JT 0,Jx JT 0] [Jx JT f.1,Jx JT 0,Jx JT f.2] 27 rfl
   rw[hT]at hTf
   obtain⟨st,A1',A2',hz,hres⟩:=hTf
   have B51:=B5.1
   simp only[oo]
   simp only[↓reduceIte,go_sem,<-hh5,<-hh6,B5.2.1,B5.2.2.1]
   apply hR
   rw[hM,hT]
   refine⟨f,u6,hE.size,by simp [jI,e2],by simp [jI,e3],by simp [jI,e4],zJ,⟨st.tZ s6,A1'.sZ s6,A2'.sZ s6,zO,?_⟩,B6,hz⟩
   rcases hres with q|⟨q,a,w,q1,q2,q3⟩
   ·exact .inl q
   ·exact .inr ⟨q,a,w,q1,q2.sZ s6,q3.sZ s6⟩
  simp only[↓reduceIte,go_sem,ahN,sF,sS,nS]
  refine jC ⟨rfl,u3,src,12,[.pointer (some ⟨h2.size,0,none⟩)],λb=>b=h2.size,rfl,hl,hG.mono st3.ge,λb q=>zO,λhlong u4 h4 s4=>⟨jO,?_⟩,λhshort u4 h4 rb fb sl s4 hrb hfb tJ hfl hRd=> ?_⟩
  ·refine fin (1,0) u4 h4 _ _ _ zJ zJ zJ ?_
   rw[hT]
   exact⟨st3.tZ s4,A1.sZ s4,A2.sZ s4,by have:=s4.ge.sz;omega,.inl ⟨(show(1:Int)≠0 by decide),by unfold mg;rw[ah hlong]⟩⟩
  ·have hpf:mg (λb l=>nQ b [] l) src=(λb l=>nQ b [] l) (Vn src) (ll src).1:=by unfold mg;rw[af zO]
   refine Le ⟨u4,rb,h2.size,sl,_,_,rfl,hRd,B3'.sZ s4,zO,λe he u5 h5 s5=>⟨u5,e,rfl,s5.mono (λb _ q=>q),λu6 h6 s6=>⟨jO,?_⟩⟩,λa ha u5 h5 w v s5 hX ow=>⟨u5,s5.mono (λb _ q=>q),λu6 h6 s6=>⟨jO,?_⟩⟩⟩
   ·refine fin e u6 h6 _ _ _ zJ zJ zJ ?_
    rw[hT]
    exact⟨((st3.tZ s4).trans s5 (λb hb q=>zO)).trans s6 (λb hb q=>zO),((A1.sZ s4).step s5 zO).step s6 zO,((A2.sZ s4).step s5 zO).step s6 zO,by have:=s4.ge.sz;have:=s5.ge.sz;have:=s6.ge.sz;omega,.inl ⟨aeg _ _ (Ae hshort) e he,by rw[hpf];exact he⟩⟩
   ·refine fin (0,0) u6 h6 _ _ _ zJ zJ zJ ?_
    rw[hT]
    have hz4:=s4.ge.sz
    exact⟨((st3.tZ s4).trans s5 (λb hb q=>zO)).trans s6 (λb hb q=>zO),((A1.sZ s4).step s5 zO).step s6 zO,((A2.sZ s4).step s5 zO).step s6 zO,by have:=s5.ge.sz;have:=s6.ge.sz;omega,.inr ⟨rfl,a,w,by rw[hpf];exact ha,hX.step s6 zO,(ow.step s6 (λb q q'=>by have:=ow.ge q;omega)).mono hz4⟩⟩
 ·intro σ' h' hm
  rw[hM]at hm
  obtain⟨f,uE,b5,e2,e3,e4,e5,hTf,A5,hb5⟩:=hm
  rw[hT]at hTf
  obtain⟨st,A1',A2',hz,hres⟩:=hTf
  have A11:=A1'.1
  have A21:=A2'.1
  have A51:=A5.1
  rcases hres with⟨hf,hp⟩|⟨rfl,a,w,hp,X,ow⟩
  ·skip
   have A17:=A1'.sets (l:=[.slice none 0 0]) rfl
   have s7:=jD.sets (S:=λb=>b=h.size) uE h' (b:=h.size) (o:=0) [.slice none 0 0] rfl (by rw[A1'.2.2.2.1];exact aj _) (by rw[A1'.2.1];exact ak _)
   obtain⟨h7,hh7⟩:=kg (jW h' h.size 0 [.slice none 0 0])
   rw[<-hh7]at A17 s7
   have A27:=A2'.step s7 zO
   have A57:=A5.step s7 zO
   have A28:=A27.sets (l:=[Jx JT f.1,Jx JT 0,Jx JT f.2]) rfl
   have s8:=jD.sets (S:=λb=>b=h1.size) uE h7 (b:=h1.size) (o:=0) [Jx JT f.1,Jx JT 0,Jx JT f.2] rfl (by rw[A27.2.2.2.1];exact aj _) (by rw[A27.2.1];exact ak _)
   obtain⟨h8,hh8⟩:=kg (jW h7 h1.size 0 [Jx JT f.1,Jx JT 0,Jx JT f.2])
   rw[<-hh8]at A28 s8
   have A18:=A17.step s8 zO
   have st8:=(st.trans s7 (λb hb q=>zO)).trans s8 (λb hb q=>zO)
   have A181:=A18.1
   have A281:=A28.1
   have A571:=A57.1
   have A271:=A27.1
   simp(disch:=first|omega|simp only[zz];try omega;done) only[↓reduceIte,go_sem,aeh,sS,nS,e2,e3,e5,A5.at,A5.2.1,hf,A1'.2.1,A1'.2.2.1,<-hh7,A57.at,A57.2.1,A27.2.1,A27.2.2.1,<-hh8,A18.at,A18.2.1,A28.at,A28.2.1]
   exact hKE f hp _ _ st8
  ·have X1:=X.1
   have A17:=A1'.sets (l:=[w]) rfl
   have s7:=jD.sets (S:=λb=>b=h.size) uE h' (b:=h.size) (o:=0) [w] rfl (by rw[A1'.2.2.2.1];exact aj _) (by rw[A1'.2.1];exact ak _)
   obtain⟨h7,hh7⟩:=kg (jW h' h.size 0 [w])
   rw[<-hh7]at A17 s7
   have A27:=A2'.step s7 zO
   have A57:=A5.step s7 zO
   have A28:=A27.sets (l:=[Jx JT 0,Jx JT 0,Jx JT 0]) rfl
   have s8:=jD.sets (S:=λb=>b=h1.size) uE h7 (b:=h1.size) (o:=0) [Jx JT 0,Jx JT 0,Jx JT 0] rfl (by rw[A27.2.2.2.1];exact aj _) (by rw[A27.2.1];exact ak _)
   obtain⟨h8,hh8⟩:=kg (jW h7 h1.size 0 [Jx JT 0,Jx JT 0,Jx JT 0])
   rw[<-hh8]at A28 s8
   have A18:=A17.step s8 zO
   have st8:=(st.trans s7 (λb hb q=>zO)).trans s8 (λb hb q=>zO)
   have A181:=A18.1
   have A281:=A28.1
   have A571:=A57.1
   have A271:=A27.1
   have ow8:=(ow.step s7 (λb q q'=>by have:=ow.ge q;omega)).step s8 (λb q q'=>by have:=ow.ge q;omega)
   obtain⟨xa,xc,rfl,n1,n2⟩:=ow.sl
   simp(disch:=first|omega|simp only[zz];try omega;done) only[↓reduceIte,go_sem,aeh,sS,nS,e2,e3,e4,e5,A5.at,A5.2.1,A1'.2.1,A1'.2.2.1,X.at,X.2.1,<-hh7,A57.at,A57.2.1,A27.2.1,A27.2.2.1,<-hh8,A18.at,A18.2.1,A28.at,A28.2.1]
   exact hKO a hp _ _ _ st8 (ow8.mono zO)
end Go.Proofs.Z
namespace Go.Proofs.Z
open Go Go.Ev Edict
variable {vs:List Value} {h:H} {K:Value->H->Prop} {KP:List PanicEntry->H->Prop}
def Pf(vs:List Value)(h:H)(K:Value->H->Prop):Prop:= ∃k:Int,vs=[Jx JT k]/\K (.bool (pK k true)) h
def aeG(vs:List Value)(h:H)(K:Value->H->Prop):Prop:= ∃k:Int,vs=[Jx JT k]/\K (.bool (pK k false)) h
theorem AR(hC:Pf vs h K):kN Tryz.prog 59 vs h K KP:=by
 obtain⟨k,rfl,hK⟩:=hC
 refine jJ 5 [(none,(.t 2))] (G:=(λ_ _ _ _ _=>False)) (λ_ _ _ _ _ h=>h.elim) Tryz.func59 ?_
 unfold pK at hK
 by_cases k1:k=1
 ·subst k1
  simp at hK
  simp only[↓reduceIte,go_sem]
  exact hK
 by_cases k2:k=2
 ·subst k2
  simp at hK
  simp only[↓reduceIte,go_sem]
  exact hK
 by_cases k3:k=3
 ·subst k3
  simp at hK
  simp only[↓reduceIte,go_sem]
  exact hK
 by_cases k4:k=4
 ·subst k4
  simp at hK
  simp only[↓reduceIte,go_sem]
  exact hK
 rw[aI k1,aI k3,aI k4,aI k2]at hK
 simp only[↓reduceIte,go_sem,k1,k2,k3,k4]
 exact hK
theorem Pg(hC:aeG vs h K):kN Tryz.prog 124 vs h K KP:=by
 obtain⟨k,rfl,hK⟩:=hC
 refine jJ 5 [(none,(.t 2))] (G:=(λ_ _ _ _ _=>False)) (λ_ _ _ _ _ h=>h.elim) Tryz.func124 ?_
 unfold pK at hK
 by_cases k1:k=1
 ·subst k1
  simp at hK
  simp only[↓reduceIte,go_sem]
  exact hK
 by_cases k3:k=3
 ·subst k3
  simp at hK
  simp only[↓reduceIte,go_sem]
  exact hK
 by_cases k4:k=4
 ·subst k4
  simp at hK
  simp only[↓reduceIte,go_sem]
  exact hK
 rw[aI k1,aI k3,aI k4,fK]at hK
 simp only[↓reduceIte,go_sem,k1,k3,k4]
 exact hK
def Em(vs:List Value)(h:H)(K:Value->H->Prop):Prop:= ∃f s k:Int,vs=[Jx JT s,Jx JT k]/\(s=0\/s=1\/s=2\/s=3\/s=4)/\K (Jx JT (jT f s k)) h
def Ph:lq:=λfn vs h K _=>fn=59/\Pf vs h K
theorem Gz:lQ Tryz.prog Ph:=by
 rintro fn vs h K KP ⟨rfl,hC⟩;exact AR hC
theorem Lg(hC:Em vs h K):kN Tryz.prog 96 vs h K KP:=by
 obtain⟨f,s,k,rfl,hs,hK⟩:=hC
 refine jJ 144186110871343155 [(none,(.t 4))] Gz Tryz.func96 ?_
 rcases hs with rfl|rfl|rfl|rfl|rfl
 ·have hK:K (Jx JT (jT f 0 k)) h:=hK
  have hm:jT f 0 k=if k=1 then 1 else if k=0 then 26 else -1:=by simp [jT]
  rw[hm]at hK
  by_cases k1:k=1
  ·rw[ah k1]at hK
   subst k1
   simp only[↓reduceIte,go_sem]
   exact hK
  rw[af k1]at hK
  by_cases k0:k=0
  ·rw[ah k0]at hK
   subst k0
   simp only[↓reduceIte,go_sem]
   exact hK
  rw[af k0]at hK
  simp only[↓reduceIte,go_sem,ae k1,ae k0]
  exact hK
 ·have hK:K (Jx JT (jT f 1 k)) h:=hK
  have hm:jT f 1 k=if k=5 then 2 else if k=8 then 0 else if k=9 then 5 else -1:=by simp [jT]
  rw[hm]at hK
  by_cases k5:k=5
  ·rw[ah k5]at hK
   subst k5
   simp only[↓reduceIte,go_sem]
   exact hK
  rw[af k5]at hK
  by_cases k8:k=8
  ·rw[ah k8]at hK
   subst k8
   simp only[↓reduceIte,go_sem]
   exact hK
  rw[af k8]at hK
  by_cases k9:k=9
  ·rw[ah k9]at hK
   subst k9
   simp only[↓reduceIte,go_sem]
   exact hK
  rw[af k9]at hK
  simp only[↓reduceIte,go_sem,ae k5,ae k8,ae k9]
  exact hK
 ·have hK:K (Jx JT (jT f 2 k)) h:=hK
  have hm:jT f 2 k=if pK k true=true then 3 else -1:=by simp [jT]
  rw[hm]at hK
  simp only[↓reduceIte,go_sem]
  refine jC ⟨rfl,k,rfl,⟨jO,?_⟩⟩
  cases hT:pK k true with
  |true=>
   rw[hT,ah rfl]at hK
   simp only[↓reduceIte,go_sem,jN]
   exact hK
  |false=>
   rw[hT,af zP]at hK
   simp only[↓reduceIte,go_sem,jN]
   exact hK
 ·have hK:K (Jx JT (jT f 3 k)) h:=hK
  have hm:jT f 3 k=if k=7 then 2 else if k=6 then 4 else -1:=by simp [jT]
  rw[hm]at hK
  by_cases k7:k=7
  ·rw[ah k7]at hK
   subst k7
   simp only[↓reduceIte,go_sem]
   exact hK
  rw[af k7]at hK
  by_cases k6:k=6
  ·rw[ah k6]at hK
   subst k6
   simp only[↓reduceIte,go_sem]
   exact hK
  rw[af k6]at hK
  simp only[↓reduceIte,go_sem,ae k7,ae k6]
  exact hK
 ·have hK:K (Jx JT (jT f 4 k)) h:=hK
  have hm:jT f 4 k=if k=8 then 0 else if k=9 then 5 else -1:=by simp [jT]
  rw[hm]at hK
  by_cases k8:k=8
  ·rw[ah k8]at hK
   subst k8
   simp only[↓reduceIte,go_sem]
   exact hK
  rw[af k8]at hK
  by_cases k9:k=9
  ·rw[ah k9]at hK
   subst k9
   simp only[↓reduceIte,go_sem]
   exact hK
  rw[af k9]at hK
  simp only[↓reduceIte,go_sem,ae k8,ae k9]
  exact hK
def En(vs:List Value)(h:H)(K:Value->H->Prop):Prop:= ∃f s k:Int,vs=[Jx JT s,Jx JT k]/\(s=15\/s=16\/s=17\/s=18\/s=19\/s=20\/s=21\/s=22\/s=23\/s=24)/\K (Jx JT (jT f s k)) h
def Pj:lq:=λfn vs h K _=>fn=124/\aeG vs h K
theorem GA:lQ Tryz.prog Pj:=by
 rintro fn vs h K KP ⟨rfl,hC⟩;exact Pg hC
theorem Lh(hC:En vs h K):kN Tryz.prog 97 vs h K KP:=by
 obtain⟨f,s,k,rfl,hs,hK⟩:=hC
 refine jJ 2477098523491282114855833651 [(none,(.t 4))] GA Tryz.func97 ?_
 rcases hs with rfl|rfl|rfl|rfl|rfl|rfl|rfl|rfl|rfl|rfl
 ·have hK:K (Jx JT (jT f 15 k)) h:=hK
  have hm:jT f 15 k=if k=1 then 16 else if k=0 then 26 else -1:=by simp [jT]
  rw[hm]at hK
  by_cases k1:k=1
  ·rw[ah k1]at hK
   subst k1
   simp only[↓reduceIte,go_sem]
   exact hK
  rw[af k1]at hK
  by_cases k0:k=0
  ·rw[ah k0]at hK
   subst k0
   simp only[↓reduceIte,go_sem]
   exact hK
  rw[af k0]at hK
  simp only[↓reduceIte,go_sem,ae k1,ae k0]
  exact hK
 ·have hK:K (Jx JT (jT f 16 k)) h:=hK
  have hm:jT f 16 k=if k=5 then 17 else if k=8 then 15 else -1:=by simp [jT]
  rw[hm]at hK
  by_cases k5:k=5
  ·rw[ah k5]at hK
   subst k5
   simp only[↓reduceIte,go_sem]
   exact hK
  rw[af k5]at hK
  by_cases k8:k=8
  ·rw[ah k8]at hK
   subst k8
   simp only[↓reduceIte,go_sem]
   exact hK
  rw[af k8]at hK
  simp only[↓reduceIte,go_sem,ae k5,ae k8]
  exact hK
 ·have hK:K (Jx JT (jT f 17 k)) h:=hK
  have hm:jT f 17 k=if pK k false=true then 18 else -1:=by simp [jT]
  rw[hm]at hK
  simp only[↓reduceIte,go_sem]
  refine jC ⟨rfl,k,rfl,⟨jO,?_⟩⟩
  cases hT:pK k false with
  |true=>
   rw[hT,ah rfl]at hK
   simp only[↓reduceIte,go_sem,jN]
   exact hK
  |false=>
   rw[hT,af zP]at hK
   simp only[↓reduceIte,go_sem,jN]
   exact hK
 ·have hK:K (Jx JT (jT f 18 k)) h:=hK
  have hm:jT f 18 k=if k=7 then 17 else if k=6 then 19 else -1:=by simp [jT]
  rw[hm]at hK
  by_cases k7:k=7
  ·rw[ah k7]at hK
   subst k7
   simp only[↓reduceIte,go_sem]
   exact hK
  rw[af k7]at hK
  by_cases k6:k=6
  ·rw[ah k6]at hK
   subst k6
   simp only[↓reduceIte,go_sem]
   exact hK
  rw[af k6]at hK
  simp only[↓reduceIte,go_sem,ae k7,ae k6]
  exact hK
 ·have hK:K (Jx JT (jT f 19 k)) h:=hK
  have hm:jT f 19 k=if k=8 then 15 else -1:=by simp [jT]
  rw[hm]at hK
  by_cases k8:k=8
  ·rw[ah k8]at hK
   subst k8
   simp only[↓reduceIte,go_sem]
   exact hK
  rw[af k8]at hK
  simp only[↓reduceIte,go_sem,ae k8]
  exact hK
 ·have hK:K (Jx JT (jT f 20 k)) h:=hK
  have hm:jT f 20 k=if k=1 then 21 else -1:=by simp [jT]
  rw[hm]at hK
  by_cases k1:k=1
  ·rw[ah k1]at hK
   subst k1
   simp only[↓reduceIte,go_sem]
   exact hK
  rw[af k1]at hK
  simp only[↓reduceIte,go_sem,ae k1]
  exact hK
 ·have hK:K (Jx JT (jT f 21 k)) h:=hK
  have hm:jT f 21 k=if k=5 then 22 else if k=0 then 26 else -1:=by simp [jT]
  rw[hm]at hK
  by_cases k5:k=5
  ·rw[ah k5]at hK
   subst k5
   simp only[↓reduceIte,go_sem]
   exact hK
  rw[af k5]at hK
  by_cases k0:k=0
  ·rw[ah k0]at hK
   subst k0
   simp only[↓reduceIte,go_sem]
   exact hK
  rw[af k0]at hK
  simp only[↓reduceIte,go_sem,ae k5,ae k0]
  exact hK
 ·have hK:K (Jx JT (jT f 22 k)) h:=hK
  have hm:jT f 22 k=if pK k false=true then 23 else -1:=by simp [jT]
  rw[hm]at hK
  simp only[↓reduceIte,go_sem]
  refine jC ⟨rfl,k,rfl,⟨jO,?_⟩⟩
  cases hT:pK k false with
  |true=>
   rw[hT,ah rfl]at hK
   simp only[↓reduceIte,go_sem,jN]
   exact hK
  |false=>
   rw[hT,af zP]at hK
   simp only[↓reduceIte,go_sem,jN]
   exact hK
 ·have hK:K (Jx JT (jT f 23 k)) h:=hK
  have hm:jT f 23 k=if k=7 then 22 else if k=6 then 24 else -1:=by simp [jT]
  rw[hm]at hK
  by_cases k7:k=7
  ·rw[ah k7]at hK
   subst k7
   simp only[↓reduceIte,go_sem]
   exact hK
  rw[af k7]at hK
  by_cases k6:k=6
  ·rw[ah k6]at hK
   subst k6
   simp only[↓reduceIte,go_sem]
   exact hK
  rw[af k6]at hK
  simp only[↓reduceIte,go_sem,ae k7,ae k6]
  exact hK
 ·have hK:K (Jx JT (jT f 24 k)) h:=hK
  have hm:jT f 24 k=if k=0 then 26 else -1:=by simp [jT]
  rw[hm]at hK
  by_cases k0:k=0
  ·rw[ah k0]at hK
   subst k0
   simp only[↓reduceIte,go_sem]
   exact hK
  rw[af k0]at hK
  simp only[↓reduceIte,go_sem,ae k0]
  exact hK
def Eo(vs:List Value)(h:H)(K:Value->H->Prop):Prop:= ∃f s k:Int,vs=[Jx JT s,Jx JT k,Jx JT (xy f)]/\(s=5\/s=6\/s=7\/s=8\/s=9\/s=10\/s=11\/s=12\/s=13\/s=14\/s=25\/s=26)/\K (Jx JT (jT f s k)) h
def Pk:lq:=λfn vs h K _=>fn=59/\Pf vs h K
theorem GD:lQ Tryz.prog Pk:=by
 rintro fn vs h K KP ⟨rfl,hC⟩;exact AR hC
theorem Li(hC:Eo vs h K):kN Tryz.prog 98 vs h K KP:=by
 obtain⟨f,s,k,rfl,hs,hK⟩:=hC
 refine jJ 26620682099911473780999246069959 [(none,(.t 6))] GD Tryz.func98 ?_
 rcases hs with rfl|rfl|rfl|rfl|rfl|rfl|rfl|rfl|rfl|rfl|rfl|rfl
 ·have hK:K (Jx JT (jT f 5 k)) h:=hK
  have hm:jT f 5 k=if k=1 then 6 else if k=10 then 7 else if pK k true=true then 8 else -1:=by simp [jT]
  rw[hm]at hK
  by_cases k1:k=1
  ·rw[ah k1]at hK
   subst k1
   simp only[↓reduceIte,go_sem]
   exact hK
  rw[af k1]at hK
  by_cases k10:k=10
  ·rw[ah k10]at hK
   subst k10
   simp only[↓reduceIte,go_sem]
   exact hK
  rw[af k10]at hK
  simp only[↓reduceIte,go_sem,ae k1,ae k10]
  refine jC ⟨rfl,k,rfl,⟨jO,?_⟩⟩
  cases hT:pK k true with
  |true=>
   rw[hT,ah rfl]at hK
   simp only[↓reduceIte,go_sem]
   exact hK
  |false=>
   rw[hT,af zP]at hK
   simp only[↓reduceIte,go_sem,ae k1]
   exact hK
 ·have hK:K (Jx JT (jT f 6 k)) h:=hK
  have hm:jT f 6 k=if k=11 then 11 else if k=5 then 9 else if k=7 then 5 else if k=8 then xy f else -1:=by simp [jT]
  rw[hm]at hK
  by_cases k11:k=11
  ·rw[ah k11]at hK
   subst k11
   simp only[↓reduceIte,go_sem]
   exact hK
  rw[af k11]at hK
  by_cases k5:k=5
  ·rw[ah k5]at hK
   subst k5
   simp only[↓reduceIte,go_sem]
   exact hK
  rw[af k5]at hK
  by_cases k7:k=7
  ·rw[ah k7]at hK
   subst k7
   simp only[↓reduceIte,go_sem]
   exact hK
  rw[af k7]at hK
  by_cases k8:k=8
  ·rw[ah k8]at hK
   subst k8
   simp only[↓reduceIte,go_sem]
   exact hK
  rw[af k8]at hK
  simp only[↓reduceIte,go_sem,ae k11,ae k5,ae k7,ae k8]
  exact hK
 ·have hK:K (Jx JT (jT f 7 k)) h:=hK
  have hm:jT f 7 k=if k=1 then 12 else -1:=by simp [jT]
  rw[hm]at hK
  by_cases k1:k=1
  ·rw[ah k1]at hK
   subst k1
   simp only[↓reduceIte,go_sem]
   exact hK
  rw[af k1]at hK
  simp only[↓reduceIte,go_sem,ae k1]
  exact hK
 ·have hK:K (Jx JT (jT f 8 k)) h:=hK
  have hm:jT f 8 k=if k=11 then 11 else -1:=by simp [jT]
  rw[hm]at hK
  by_cases k11:k=11
  ·rw[ah k11]at hK
   subst k11
   simp only[↓reduceIte,go_sem]
   exact hK
  rw[af k11]at hK
  simp only[↓reduceIte,go_sem,ae k11]
  exact hK
 ·have hK:K (Jx JT (jT f 9 k)) h:=hK
  have hm:jT f 9 k=if pK k true=true then 10 else -1:=by simp [jT]
  rw[hm]at hK
  simp only[↓reduceIte,go_sem]
  refine jC ⟨rfl,k,rfl,⟨jO,?_⟩⟩
  cases hT:pK k true with
  |true=>
   rw[hT,ah rfl]at hK
   simp only[↓reduceIte,go_sem,jN]
   exact hK
  |false=>
   rw[hT,af zP]at hK
   simp only[↓reduceIte,go_sem,jN]
   exact hK
 ·have hK:K (Jx JT (jT f 10 k)) h:=hK
  have hm:jT f 10 k=if k=7 then 9 else if k=6 then 13 else -1:=by simp [jT]
  rw[hm]at hK
  by_cases k7:k=7
  ·rw[ah k7]at hK
   subst k7
   simp only[↓reduceIte,go_sem]
   exact hK
  rw[af k7]at hK
  by_cases k6:k=6
  ·rw[ah k6]at hK
   subst k6
   simp only[↓reduceIte,go_sem]
   exact hK
  rw[af k6]at hK
  simp only[↓reduceIte,go_sem,ae k7,ae k6]
  exact hK
 ·have hK:K (Jx JT (jT f 11 k)) h:=hK
  have hm:jT f 11 k=if pK k true=true then 14 else -1:=by simp [jT]
  rw[hm]at hK
  simp only[↓reduceIte,go_sem]
  refine jC ⟨rfl,k,rfl,⟨jO,?_⟩⟩
  cases hT:pK k true with
  |true=>
   rw[hT,ah rfl]at hK
   simp only[↓reduceIte,go_sem,jN]
   exact hK
  |false=>
   rw[hT,af zP]at hK
   simp only[↓reduceIte,go_sem,jN]
   exact hK
 ·have hK:K (Jx JT (jT f 12 k)) h:=hK
  have hm:jT f 12 k=if k=5 then 9 else if k=7 then 5 else if k=8 then xy f else -1:=by simp [jT]
  rw[hm]at hK
  by_cases k5:k=5
  ·rw[ah k5]at hK
   subst k5
   simp only[↓reduceIte,go_sem]
   exact hK
  rw[af k5]at hK
  by_cases k7:k=7
  ·rw[ah k7]at hK
   subst k7
   simp only[↓reduceIte,go_sem]
   exact hK
  rw[af k7]at hK
  by_cases k8:k=8
  ·rw[ah k8]at hK
   subst k8
   simp only[↓reduceIte,go_sem]
   exact hK
  rw[af k8]at hK
  simp only[↓reduceIte,go_sem,ae k5,ae k7,ae k8]
  exact hK
 ·have hK:K (Jx JT (jT f 13 k)) h:=hK
  have hm:jT f 13 k=if k=7 then 5 else if k=8 then xy f else -1:=by simp [jT]
  rw[hm]at hK
  by_cases k7:k=7
  ·rw[ah k7]at hK
   subst k7
   simp only[↓reduceIte,go_sem]
   exact hK
  rw[af k7]at hK
  by_cases k8:k=8
  ·rw[ah k8]at hK
   subst k8
   simp only[↓reduceIte,go_sem]
   exact hK
  rw[af k8]at hK
  simp only[↓reduceIte,go_sem,ae k7,ae k8]
  exact hK
 ·have hK:K (Jx JT (jT f 14 k)) h:=hK
  have hm:jT f 14 k=if k=7 then 5 else if k=8 then xy f else -1:=by simp [jT]
  rw[hm]at hK
  by_cases k7:k=7
  ·rw[ah k7]at hK
   subst k7
   simp only[↓reduceIte,go_sem]
   exact hK
  rw[af k7]at hK
  by_cases k8:k=8
  ·rw[ah k8]at hK
   subst k8
   simp only[↓reduceIte,go_sem]
   exact hK
  rw[af k8]at hK
  simp only[↓reduceIte,go_sem,ae k7,ae k8]
  exact hK
 ·have hK:K (Jx JT (jT f 25 k)) h:=hK
  have hm:jT f 25 k=if k=0 then 26 else -1:=by simp [jT]
  rw[hm]at hK
  by_cases k0:k=0
  ·rw[ah k0]at hK
   subst k0
   simp only[↓reduceIte,go_sem]
   exact hK
  rw[af k0]at hK
  simp only[↓reduceIte,go_sem,ae k0]
  exact hK
 ·have hK:K (Jx JT (jT f 26 k)) h:=hK
  have hm:jT f 26 k= -1:=by simp [jT]
  rw[hm]at hK
  simp only[↓reduceIte,go_sem]
  exact hK
def TM(vs:List Value)(h:H)(K:Value->H->Prop):Prop:= ∃f s k:Int,vs=[Jx JT f,Jx JT s,Jx JT k]/\(0<=s/\s<=26)/\K (Jx JT (jT f s k)) h
def aeH:lq:=λfn vs h K _=>(fn=96/\Em vs h K)\/(fn=97/\En vs h K)\/(fn=98/\Eo vs h K)
theorem TN:lQ Tryz.prog aeH:=by
 rintro fn vs h K KP (⟨rfl,hC⟩|⟨rfl,hC⟩|⟨rfl,hC⟩)
 ·exact Lg hC
 ·exact Lh hC
 ·exact Li hC
theorem abq(hC:TM vs h K):kN Tryz.prog 56 vs h K KP:=by
 obtain⟨f,s,k,rfl,⟨s0,s26⟩,hK⟩:=hC
 refine jJ 8651463 [(none,(.t 6))] TN Tryz.func56 ?_
 by_cases h4:s<=4
 ·simp only[↓reduceIte,go_sem,ai h4]
  refine jC (.inl ⟨rfl,f,s,k,rfl,zO,⟨jO,?_⟩⟩)
  simp only[↓reduceIte,go_sem,jN]
  exact hK
 by_cases h15:15<=s
 ·by_cases h24:s<=24
  ·simp only[↓reduceIte,go_sem,ae h4,ai h15,ai h24]
   refine jC (.inr (.inl ⟨rfl,f,s,k,rfl,zO,⟨jO,?_⟩⟩))
   simp only[↓reduceIte,go_sem,jN]
   exact hK
  ·by_cases hf:f=5
   ·have hb:xy f=25:=by unfold xy;rw[ah hf]
    simp only[↓reduceIte,go_sem,ae h4,ai h15,ae h24,ai hf]
    refine jC (.inr (.inr ⟨rfl,f,s,k,by rw[hb],zO,⟨jO,?_⟩⟩))
    simp only[↓reduceIte,go_sem,jN]
    exact hK
   ·have hb:xy f=0:=by unfold xy;rw[af hf]
    simp only[↓reduceIte,go_sem,ae h4,ai h15,ae h24,ae hf]
    refine jC (.inr (.inr ⟨rfl,f,s,k,by rw[hb],zO,⟨jO,?_⟩⟩))
    simp only[↓reduceIte,go_sem,jN]
    exact hK
 ·by_cases hf:f=5
  ·have hb:xy f=25:=by unfold xy;rw[ah hf]
   simp only[↓reduceIte,go_sem,ae h4,ae h15,ai hf]
   refine jC (.inr (.inr ⟨rfl,f,s,k,by rw[hb],zO,⟨jO,?_⟩⟩))
   simp only[↓reduceIte,go_sem,jN]
   exact hK
  ·have hb:xy f=0:=by unfold xy;rw[af hf]
   simp only[↓reduceIte,go_sem,ae h4,ae h15,ae hf]
   refine jC (.inr (.inr ⟨rfl,f,s,k,by rw[hb],zO,⟨jO,?_⟩⟩))
   simp only[↓reduceIte,go_sem,jN]
   exact hK
end Go.Proofs.Z
