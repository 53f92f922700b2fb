/- A part of the proof. -/
import Derived.Test.YtgjkkjeakagomaaGreatDoorCards
import Derived.Test.YtgjkkjeakagomaaGreatDoorTie
import Derived.Test.YtgjkkjeakagomaaGreatDoorRead
import Derived.Test.YtgjkkjeakagomaaGreatDoorLexS
import Derived.Deep.DeepHandedRow
import Derived.Deep.DeepWitnessRowRef
import Derived.LaidMore
import Derived.LaidHandle
import Derived.MakeChecks
import Derived.Lib.LaidU8
set_option linter.all false
open Go.Value renaming int→Jx
open Go.IntKind renaming i64→JT
namespace Go.Proofs.Z
open Go.Proofs.YtgjkkjeakagomaaGreatDoor
open Go Go.Ev Edict Go.ChangeShapes Go.WideShapes Go.ChangeAt Go.RowKit
theorem ajB:CO Tryz.prog 219 Sg:=
 MP Tryz.underlying219 (by kernel_rfl) (Fs (Et Tryz.underlying9) (by kernel_rfl) (by kernel_rfl) (Fs (Lp Tryz.underlying3) (by kernel_rfl) (by kernel_rfl) (Uf (Lp Tryz.underlying3) (by kernel_rfl) (by kernel_rfl))))
theorem ahQ:CO Tryz.prog 217 (List Sg):=Pv Tryz.underlying217 (by kernel_rfl) ajB
def abB{H:Type}(x:Sg):DataW H:= .agg [.lit (.string x.1),.lit (.int .i64 x.2.1),.lit (.int .i64 x.2.2)]
set_option maxRecDepth 100000 in
theorem ahR{H:Type}(enc:TypeId×Value->H)(w:World){hd:Bool}(fuel:Nat)(cs:List Value)(x:Sg)(p:List MemPlace)(h:DataW.trod enc Tryz.prog w 0 (λ_=>true) hd fuel 219 cs=some (abB x,p)):
  cs=[str x.1,Jx JT x.2.1,Jx JT x.2.2]:=by
 obtain⟨xs,n,rfl,hx,hl,hxl,hall⟩:=DataW.trod_struct Tryz.underlying219 h
 have c1:Tryz.prog.cellsOf 219=3:=by kernel_rfl
 have c2:Tryz.prog.cellsOf 9=1:=by kernel_rfl
 have c3:Tryz.prog.cellsOf 3=1:=by kernel_rfl
 rw[c1]at hl
 match cs,hl with
 |[a,b,c],_=>
  match xs,hxl with
  |[y0,y1,y2],_=>
   have h0:DataW.trod enc Tryz.prog w 0 (λ_=>true) hd n 9 (List.take (Tryz.prog.cellsOf 9) [a,b,c])=some y0:=hall 0 _ rfl
   have h1:DataW.trod enc Tryz.prog w 0 (λ_=>true) hd n 3 (List.take (Tryz.prog.cellsOf 3) [b,c])=some y1:=hall 1 _ rfl
   have h2:DataW.trod enc Tryz.prog w 0 (λ_=>true) hd n 3 (List.take (Tryz.prog.cellsOf 3) [c])=some y2:=hall 2 _ rfl
   rw[c2]at h0
   rw[c3]at h1 h2
   obtain⟨s,e0,f0,-⟩:=DataW.trod_string Tryz.underlying9 h0
   obtain⟨m,e1,f1,-⟩:=DataW.trod_int Tryz.underlying3 h1
   obtain⟨k,e2,f2,-⟩:=DataW.trod_int Tryz.underlying3 h2
   have e0:a= .string s:=by simpa using e0
   have e1:b= Jx JT m:=by simpa using e1
   have e2:c= Jx JT k:=by simpa using e2
   subst e0 e1 e2 f0 f1 f2
   simp only[abB,dB,DataW.agg.injEq,aS,bK,ax,DataW.lit.injEq,Lit.string.injEq,Lit.int.injEq,true_and,aC]at hx
   obtain⟨⟨g0,g1,g2⟩,-⟩:=hx
   rw[g0,g1,g2,abH]
set_option maxRecDepth 100000 in
theorem ale{W:World}(h:laidMetH Tryz.prog Rows.coreTextsRow.laid W):UH (lS W.heap) W.heap:=by
 rw[MakeChecks.laidMetH_plain _ _ _ (by kernel_rfl)]at h
 refine⟨?_,?_⟩
 ·obtain ⟨g, t, cs, fuel, p, q1, q2, q3, q4⟩ := Lib.laidMet.reads h (n := "edict/lex.signs") (d := Rows.laid_edict_lex_signs) (by simp [Rows.coreTextsRow])
  obtain rfl : 0 = g := bR ((show Tryz.prog.globalNamed "edict/lex.signs" = some 0 by kernel_rfl).symm.trans q1)
  obtain rfl:217=t:=bR ((show(Tryz.prog.globals[0]?).map (·.type)=some 217 by kernel_rfl).symm.trans q2)
  have hcell: ∀i,W.cell? ⟨0,i,none⟩=cs[i]? :=λi=>World.var?_cell q1 q3 i
  obtain⟨l,⟨v,hv,hl⟩,-,-⟩:=ahQ (λ_=>()) W fuel cs.toList _ q4
  have hc0:hc W.heap 0 0=some v:=by
   rw[<-pY,hcell,<-eu,hv];rfl
  have hz:1<=lS W.heap 0:=by
   unfold hc at hc0;unfold lS
   cases hx:W.heap[0]? with
   |none=>simp [hx]at hc0
   |some o=>cases o<;>simp only[hx]at hc0 ⊢ <;>first|exact(bi.1 hc0).1|cases hc0
  have hb:0<W.heap.size:=by
   unfold lS at hz
   cases hx:W.heap[0]? with
   |none=>simp [hx]at hz
   |some o=>exact(bi.1 hx).1
  have hvv:Go.Ev.hv W.heap 0 0=v:=by unfold Go.Ev.hv;rw[hc0];rfl
  refine⟨hb,hz,hz,?_⟩
  rw[hvv]
  -- the list is the one that is written down
  have hll:l=nG:=by
   rcases Go.Deep.open_slice Tryz.underlying217 q4 with⟨-,e⟩|⟨a,len,cap,m,n,D,Pl,hcs,-,hlc,hcm,hm,hx,hel⟩
   ·cases e
   ·simp only[bv]at hm
    subst hm
    have c1:Tryz.prog.cellsOf 219=3:=by kernel_rfl
    rw[c1]at hel
    have Ub:=bA Prod.fst hx
    have hlist:((List.range len).map D:List (DataW Unit))=nG.map abB:=by
     have e2:(Rows.laid_edict_lex_signs:DataW Unit)= .slice (nG.map abB) []:=rfl
     rw[e2]at Ub
     simp only[DataW.slice.injEq]at Ub
     exact Ub.1.symm
    have hlen:len=nG.length:=by
     have:=bA List.length hlist
     simpa using this
    rw[hv]at hcs
    simp only[ax,aC]at hcs
    obtain⟨va,vc,hve,-,-⟩:=hl.sl
    rw[hcs]at hve
    simp only[Value.slice.injEq]at hve
    obtain⟨ha,hln,hcc⟩:=hve
    apply dV
    intro i
    by_cases hi:i<len
    ·obtain⟨x,hlx⟩: ∃x,l[i]? =some x:=⟨l[i]'zO,bf zO⟩
     obtain⟨y,hy⟩: ∃y,nG[i]? =some y:=⟨nG[i]'zO,bf zO⟩
     obtain⟨cs',hcs',htr⟩:=hel i zO
     have hD:D i=abB y:=by
      have:=bA (·[i]?) hlist
      simp only[bL,hy,bn]at this
      rw[di hi]at this
      simpa using this
     rw[hD]at htr
     have hcs2:=ahR _ _ _ _ _ _ htr
     rw[hcs]at hl
     obtain⟨pb,po,hae,hpb,hpu,hpz,hpr⟩:=hl.row i x hlx
     rw[UG,acw]at hpr
     obtain⟨-,-,h4⟩:=World.cells?_some hcs'
     cases hae
     have hcell2: ∀j,j<3->Go.Ev.hv W.heap pb (po+i*3+j)=cs'.getD j undef:=λj hj=>by
      have h5:=h4 j hj
      rw[Addr.add_lit,Addr.add_lit,pY]at h5
      unfold Go.Ev.hv
      rw[h5,aG]
     have hrow:qV W.heap pb (po+i*3) 3=cs':=CS hcell2 (by rw[hcs2];rfl)
     rw[hrow,hcs2]at hpr
     simp only[ax,Value.int.injEq,true_and,aC]at hpr
     obtain⟨w1,w2,w3⟩:=hpr
     rw[hlx,hy]
     exact bA some (Prod.ext (CV w1).symm (Prod.ext w2.symm w3.symm))
    ·rw[dh zO,dh zO]
  rw[<-hll];exact hl
 ·obtain ⟨g, t, cs, fuel, p, q1, q2, q3, q4⟩ := Lib.laidMet.reads h (n := "strconv.ErrRange") (d := Rows.laid_strconv_ErrRange) (by simp [Rows.coreTextsRow])
  obtain rfl : 2 = g := bR ((show Tryz.prog.globalNamed "strconv.ErrRange" = some 2 by kernel_rfl).symm.trans q1)
  obtain rfl:237=t:=bR ((show(Tryz.prog.globals[2]?).map (·.type)=some 237 by kernel_rfl).symm.trans q2)
  have hcell: ∀i,W.cell? ⟨2,i,none⟩=cs[i]? :=λi=>World.var?_cell q1 q3 i
  obtain⟨u,v,hv⟩: ∃u v,cs.toList=[.iface u v]:=by
   cases fuel with
   |zero=>simp [DataW.trod]at q4
   |succ n=>
    unfold DataW.trod at q4
    rw[Tryz.underlying237]at q4
    split at q4
    all_goals first
     |contradiction
     |exact⟨_,_,by assumption⟩
     |(exfalso;injections;done)
     |(exfalso;exact absurd (bA (λz=>z.map (·.1)) q4) (by unfold Rows.laid_strconv_ErrRange;intro q;cases q))
  have hc0:hc W.heap 2 0=some (.iface u v):=by
   rw[<-pY,hcell,<-eu,hv];rfl
  have hz:1<=lS W.heap 2:=by
   unfold hc at hc0;unfold lS
   cases hx:W.heap[2]? with
   |none=>simp [hx]at hc0
   |some o=>cases o<;>simp only[hx]at hc0 ⊢ <;>first|exact(bi.1 hc0).1|cases hc0
  have hb:2<W.heap.size:=by
   unfold lS at hz
   cases hx:W.heap[2]? with
   |none=>simp [hx]at hz
   |some o=>exact(bi.1 hx).1
  exact⟨hb,hz,hz,.inr ⟨u,v,by unfold Go.Ev.hv;rw[hc0];rfl⟩⟩
end Go.Proofs.Z
