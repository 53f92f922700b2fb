/- Names and variables: words, in sym and in the reference. -/
import Derived.Test.YtmjinnbdnpedcaaGreatWellS
import Derived.Test.YtmjinnbdnpedcaaGreatEvE
namespace Edict
def smallB(n:Int):Bool:=decide (97≤n) && decide (n≤122)
def bigB(n:Int):Bool:=(decide (65≤n) && decide (n≤90)) || decide (n=95)
def okB(n:Int):Bool:=smallB n || bigB n || !(decide (n<48) || decide (57<n))
def wordB(f:Int→Bool):List UInt8→Bool
 |[]=>false
 |b::r=>decide (r.length+1≤64) && (f b.toNat && r.all fun c=>okB c.toNat)
def nameB(s:List UInt8):Bool:= !decide (s=[110,111,116]) && wordB smallB s
def varB(s:List UInt8):Bool:=wordB bigB s
theorem all_take{s:List UInt8}{f:UInt8→Bool}{i:Nat}{b:UInt8}(hb:s[i]? =some b):(s.take (i+1)).all f=((s.take i).all f && f b):=by
 rw[List.take_add_one,hb,Option.toList_some,List.all_append];simp
theorem all_none{s:List UInt8}{f:UInt8→Bool}{i:Nat}{b:UInt8}(hb:s[i]? =some b)(hf:f b=false):s.all f=false:=by
 cases h:s.all f with
 |false=>rfl
 |true=>rw[List.all_eq_true]at h;rw[h b (List.mem_of_getElem? hb)]at hf;cases hf
end Edict
namespace Go.Proofs.YtmjinnbdnpedcaaGreat
open Go Go.Ev Edict
variable {vs:List Value} {h:H} {K:Value→H→Prop} {KP:List PanicEntry→H→Prop}

def C_byte(f:Int→Bool)(vs:List Value)(h:H)(K:Value→H→Prop):Prop:= ∃n:Int,vs=[.int .u8 n]∧K (.bool (f n)) h
theorem symSmall_ok(hC:C_byte smallB vs h K):HCX Tryz.prog 99 vs h K KP:=by
 obtain⟨n,rfl,hK⟩:=hC
 refine symSmall_H (fun _ _ _ _ _=>False) (fun _ _ _ _ _ h=>h.elim) _ ?_
 simp(disch:=first|omega|(simp only[zz];try omega;done)) only[↓reduceIte,go_sem,symSmall_S,symSmall_E]
 exact hK
theorem symBig_ok(hC:C_byte bigB vs h K):HCX Tryz.prog 105 vs h K KP:=by
 obtain⟨n,rfl,hK⟩:=hC
 refine symBig_H (fun _ _ _ _ _=>False) (fun _ _ _ _ _ h=>h.elim) _ ?_
 simp(disch:=first|omega|(simp only[zz];try omega;done)) only[↓reduceIte,go_sem,symBig_S,symBig_E]
 exact hK
theorem r1lower_ok(hC:C_byte smallB vs h K):HCX Tryz.prog 92 vs h K KP:=by
 obtain⟨n,rfl,hK⟩:=hC
 refine r1lower_H (fun _ _ _ _ _=>False) (fun _ _ _ _ _ h=>h.elim) _ ?_
 simp(disch:=first|omega|(simp only[zz];try omega;done)) only[↓reduceIte,go_sem,r1lower_S,r1lower_E]
 exact hK
def upB(n:Int):Bool:=decide (65≤n) && decide (n≤90)
def digB(n:Int):Bool:=decide (48≤n) && decide (n≤57)
theorem r1upper_ok(hC:C_byte upB vs h K):HCX Tryz.prog 103 vs h K KP:=by
 obtain⟨n,rfl,hK⟩:=hC
 refine r1upper_H (fun _ _ _ _ _=>False) (fun _ _ _ _ _ h=>h.elim) _ ?_
 simp(disch:=first|omega|(simp only[zz];try omega;done)) only[↓reduceIte,go_sem,r1upper_S,r1upper_E]
 exact hK
theorem r1digit_ok(hC:C_byte digB vs h K):HCX Tryz.prog 104 vs h K KP:=by
 obtain⟨n,rfl,hK⟩:=hC
 refine r1digit_H (fun _ _ _ _ _=>False) (fun _ _ _ _ _ h=>h.elim) _ ?_
 simp(disch:=first|omega|(simp only[zz];try omega;done)) only[↓reduceIte,go_sem,r1digit_S,r1digit_E]
 exact hK

def C_symWord(vs:List Value)(h:H)(K:Value→H→Prop):Prop:=
 ∃(u:U) (s:List UInt8) (g:FuncId) (f:Int→Bool),vs=[str s,.func (.func g) #[] #[]]∧((g=99∧f=smallB)∨(g=105∧f=bigB))∧s.length≤9223372036854775807∧ ∀u' h',Step S0 u h u' h'→K (.bool (wordB f s)) h'
def G_symWord:Ctr:=fun f vs h K _=>(f=99∧C_byte smallB vs h K)∨(f=105∧C_byte bigB vs h K)
theorem G_symWord_ok:GOk Tryz.prog G_symWord:=by
 rintro f vs h K KP (⟨rfl,hC⟩|⟨rfl,hC⟩)
 ·exact symSmall_ok hC
 ·exact symBig_ok hC
theorem symWord_ok(hC:C_symWord vs h K):HCX Tryz.prog 98 vs h K KP:=by
 obtain⟨u,s,g,f,rfl,hg,hsl,hK⟩:=hC
 refine symWord_H G_symWord G_symWord_ok _ _ ?_
 cases s with
 |nil=>
  simp(disch:=first|omega|(simp only[zz];try omega;done)) only[↓reduceIte,go_sem,symWord_S,symWord_E]
  exact hK u h (.refl _ _ _)
 |cons b r=>
  simp only[List.length_cons]at hsl
  by_cases hl:r.length+1≤64
  ·have hne:=eq_false (List.cons_ne_nil b r)
   have hle:=eq_false (show¬(64:Int)<((r.length+1:Nat):Int) by omega)
   simp(disch:=first|omega|(simp only[zz];try omega;done)) only[↓reduceIte,go_sem,symWord_S,symWord_E,hne,hle]
   refine⟨by omega,effS_callv ?_⟩
   have hfst: ∀K' KP',K' (.bool (f b.toNat)) h→G_symWord g [.int .u8 (b.toNat:Int)] h K' KP':=by
    intro K' KP' hk
    rcases hg with⟨rfl,rfl⟩|⟨rfl,rfl⟩
    ·exact .inl ⟨rfl,_,rfl,hk⟩
    ·exact .inr ⟨rfl,_,rfl,hk⟩
   refine hfst _ _ ⟨zz0,?_⟩
   simp only[wordB,eq_true hl,decide_true,Bool.true_and]at hK
   cases hf:f b.toNat with
   |false=>
    rw[hf]at hK
    simp(disch:=first|omega|(simp only[zz];try omega;done)) only[↓reduceIte,go_sem,hne,hle]
    exact hK u h (.refl _ _ _)
   |true=>
    rw[hf]at hK
    simp only[Bool.true_and]at hK
    simp(disch:=first|omega|(simp only[zz];try omega;done)) only[↓reduceIte,go_sem,hne,hle]
    refine⟨by omega,effS_s2b u (by omega) fun cap u2 h2 hcap s2 hlt2 hz hcell=>⟨zz0,?_⟩⟩
    simp(disch:=first|omega|(simp only[zz];try omega;done)) only[↓reduceIte,go_sem]
    obtain⟨I,hI⟩: ∃I:Nat→Env→H→Prop,I=fun j σ h'=>σ 23= .slice (some ⟨h.size,0,none⟩) r.length cap∧σ 24= .int .i64 r.length∧σ 25= .int .i64 j∧j≤r.length∧(r.take j).all (fun c=>okB c.toNat)=true∧h'=h2:=⟨_,rfl⟩
    refine wpS_loop I (fun j=>r.length - j) 0 (by rw[hI];exact⟨by simp [upd],by simp [upd],by simp [upd],Nat.zero_le _,rfl,rfl⟩) ?_
    intro j σ h' hy
    rw[hI]at hy
    obtain⟨e23,e24,e25,hj,hall,rfl⟩:=hy
    by_cases hlt:j<r.length
    ·obtain⟨c,hc⟩: ∃c,r[j]? =some c:=⟨r[j],by simp [hlt]⟩
     have hcl:Go.Ev.hv h' h.size (j*1)= .int .u8 c.toNat:=by rw[Nat.mul_one];exact hcell j c hc
     have yes: ∀σ',σ' 23= .slice (some ⟨h.size,0,none⟩) r.length cap→σ' 24= .int .i64 r.length→σ' 25= .int .i64 ((j:Int)+1)→okB c.toNat=true→ ∃y,I y σ' h'∧r.length - y<r.length - j:=fun σ' q1 q2 q3 q4=>
      ⟨j+1,by rw[hI];exact⟨q1,q2,q3,hlt,by rw[all_take hc,hall,q4];rfl,rfl⟩,by omega⟩
     have no:okB c.toNat=false→K (.bool false) h':=fun q=>by
      rw[all_none (f:=fun c=>okB c.toNat) hc q]at hK
      exact hK _ _ s2
     simp only[okB]at yes no
     cases h1:smallB c.toNat<;>cases h2:bigB c.toNat
     all_goals
      simp only[h1,h2,Bool.false_or,Bool.true_or,true_implies]at yes no
      simp(disch:=first|omega|(simp only[zz];try omega;done)) only[↓reduceIte,go_sem,e_call,symWord_L1,e23,e24,e25,hlt,hcl,G_symWord,C_byte,h1,h2]
     ·refine⟨fun hx=>no ?_,fun hx=>yes _ (by simp [upd,e23]) (by simp [upd,e24]) (by simp [upd]) ?_⟩
      ·rw[Bool.not_eq_false',Bool.or_eq_true,decide_eq_true_eq,decide_eq_true_eq];exact hx
      ·rw[Bool.not_eq_true',Bool.or_eq_false_iff,decide_eq_false_iff_not,decide_eq_false_iff_not]
       exact⟨fun h=>hx (.inl h),fun h=>hx (.inr h)⟩
     all_goals exact yes _ (by simp [upd,e23]) (by simp [upd,e24]) (by simp [upd])
    ·obtain rfl:j=r.length:=by omega
     rw[List.take_length]at hall
     rw[hall]at hK
     simp(disch:=first|omega|(simp only[zz];try omega;done)) only[↓reduceIte,go_sem,symWord_L1,e24,e25]
     exact hK _ _ s2
  ·simp(disch:=first|omega|(simp only[zz];try omega;done)) only[↓reduceIte,go_sem,symWord_S,symWord_E,eq_false (List.cons_ne_nil b r),eq_true (show(64:Int)<((r.length+1:Nat):Int) by omega)]
   simp only[wordB,eq_false hl,decide_false,Bool.false_and]at hK
   exact hK u h (.refl _ _ _)
def C_str(f:List UInt8→Bool)(vs:List Value)(h:H)(K:Value→H→Prop):Prop:= ∃(u:U) (s:List UInt8),vs=[str s]∧s.length≤9223372036854775807∧ ∀u' h',Step S0 u h u' h'→K (.bool (f s)) h'
def G_symName:Ctr:=fun f vs h K _=>f=98∧C_symWord vs h K
theorem G_symName_ok:GOk Tryz.prog G_symName:=by
 rintro f vs h K KP ⟨rfl,hC⟩;exact symWord_ok hC
theorem symIsName_ok(hC:C_str nameB vs h K):HCX Tryz.prog 87 vs h K KP:=by
 obtain⟨u,s,rfl,hsl,hK⟩:=hC
 refine symIsName_H G_symName G_symName_ok _ ?_
 by_cases hn:s=[110,111,116]
 ·simp only[nameB,eq_true hn,decide_true,Bool.not_true,Bool.false_and]at hK
  simp(disch:=first|omega|(simp only[zz];try omega;done)) only[↓reduceIte,go_sem,symIsName_S,symIsName_E,eq_true hn]
  exact hK u h (.refl _ _ _)
 ·simp only[nameB,eq_false hn,decide_false,Bool.not_false,Bool.true_and]at hK
  simp(disch:=first|omega|(simp only[zz];try omega;done)) only[↓reduceIte,go_sem,symIsName_S,symIsName_E,eq_false hn]
  refine effS_call ⟨rfl,u,s,_,_,rfl,.inl ⟨rfl,rfl⟩,hsl,fun u2 h2 s2=>⟨zz0,?_⟩⟩
  simp(disch:=first|omega|(simp only[zz];try omega;done)) only[↓reduceIte,go_sem,eq_false hn]
  exact hK _ _ s2
theorem symIsVar_ok(hC:C_str varB vs h K):HCX Tryz.prog 100 vs h K KP:=by
 obtain⟨u,s,rfl,hsl,hK⟩:=hC
 refine symIsVar_H G_symName G_symName_ok _ ?_
 simp(disch:=first|omega|(simp only[zz];try omega;done)) only[↓reduceIte,go_sem,symIsVar_S,symIsVar_E]
 refine effS_call ⟨rfl,u,s,_,_,rfl,.inr ⟨rfl,rfl⟩,hsl,fun u2 h2 s2=>⟨zz0,?_⟩⟩
 simp(disch:=first|omega|(simp only[zz];try omega;done)) only[↓reduceIte,go_sem]
 exact hK _ _ s2
/-! ### The reference -/
def C_tail(vs:List Value)(h:H)(K:Value→H→Prop):Prop:= ∃s:List UInt8,vs=[str s]∧s.length≤9223372036854775806∧K (.bool ((s.drop 1).all fun c=>okB c.toNat)) h
def G_r1tail:Ctr:=fun f vs h K _=>(f=92∧C_byte smallB vs h K)∨(f=103∧C_byte upB vs h K)∨(f=104∧C_byte digB vs h K)
theorem G_r1tail_ok:GOk Tryz.prog G_r1tail:=by
 rintro f vs h K KP (⟨rfl,hC⟩|⟨rfl,hC⟩|⟨rfl,hC⟩)
 ·exact r1lower_ok hC
 ·exact r1upper_ok hC
 ·exact r1digit_ok hC
theorem okB_eq(n:Int):okB n=(smallB n || upB n || digB n || decide (n=95)):=by
 unfold okB bigB upB digB
 by_cases h1:n<48<;>by_cases h2:57<n<;>by_cases h3:48≤n<;>by_cases h4:n≤57<;>first|omega|(simp only[h1,h2,h3,h4,decide_true,decide_false,Bool.or_true,Bool.or_false,Bool.and_true,Bool.and_false,Bool.not_true,Bool.not_false,Bool.true_or,Bool.or_assoc])
theorem r1tail_ok(hC:C_tail vs h K):HCX Tryz.prog 93 vs h K KP:=by
 obtain⟨s,rfl,hsl,hK⟩:=hC
 refine r1tail_H G_r1tail G_r1tail_ok _ ?_
 simp(disch:=first|omega|(simp only[zz];try omega;done)) only[go_sem,r1tail_S,r1tail_E]
 obtain⟨I,hI⟩: ∃I:Nat→Env→H→Prop,I=fun j σ h'=>σ 0=str s∧σ 3= .int .i64 ((j:Int)+1)∧j≤s.length∧((s.drop 1).take j).all (fun c=>okB c.toNat)=true∧h'=h:=⟨_,rfl⟩
 refine wpS_loop I (fun j=>s.length - j) 0 (by rw[hI];exact⟨by simp [upd],by simp [upd],Nat.zero_le _,rfl,rfl⟩) ?_
 intro j σ h' hy
 rw[hI]at hy
 obtain⟨e0,e3,hj,hall,rfl⟩:=hy
 by_cases hlt:j+1<s.length
 ·obtain⟨c,hc⟩: ∃c,(s.drop 1)[j]? =some c:=⟨s[1+j],by simp [hlt,Nat.add_comm]⟩
  have hcs:(s.getD (j+1) 0)=c:=by
   rw[List.getElem?_drop,Nat.add_comm]at hc
   rw[List.getD_eq_getElem?_getD,hc];rfl
  have yes: ∀σ',σ' 0=str s→σ' 3= .int .i64 ((j:Int)+1+1)→okB c.toNat=true→ ∃y,I y σ' h'∧s.length - y<s.length - j:=fun σ' q1 q3 q4=>
   ⟨j+1,by rw[hI];exact⟨q1,q3,by omega,by rw[all_take hc,hall,q4];rfl,rfl⟩,by omega⟩
  have no:okB c.toNat=false→K (.bool false) h':=fun q=>by
   rw[all_none (f:=fun c=>okB c.toNat) hc q]at hK
   exact hK
  rw[okB_eq]at yes no
  have l1:(0:Int)≤(j:Int)+1:=by omega
  have l2:(j:Int)+1<(s.length:Int):=by omega
  have l3:((j:Int)+1).toNat=j+1:=by omega
  simp(disch:=first|omega|(simp only[zz];try omega;done)) only[↓reduceIte,go_sem,r1tail_L1,e0,e3,eq_true l1,eq_true l2,l3,hcs]
  refine effS_call (.inl ⟨rfl,_,rfl,by simp(disch:=first|omega|(simp only[zz];try omega;done)) only[go_sem],?_⟩)
  cases h1:smallB c.toNat with
  |true=>
   simp only[h1,Bool.true_or,true_implies]at yes
   simp(disch:=first|omega|(simp only[zz];try omega;done)) only[↓reduceIte,go_sem,e0,e3,l3,hcs]
   exact yes _ (by simp [upd,e0]) (by simp [upd])
  |false=>
   simp only[h1,Bool.false_or]at yes no
   simp(disch:=first|omega|(simp only[zz];try omega;done)) only[↓reduceIte,go_sem,e0,e3,eq_true l1,eq_true l2,l3,hcs]
   refine effS_call (.inr (.inl ⟨rfl,_,rfl,by simp(disch:=first|omega|(simp only[zz];try omega;done)) only[go_sem],?_⟩))
   cases h2:upB c.toNat with
   |true=>
    simp only[h2,Bool.true_or,true_implies]at yes
    simp(disch:=first|omega|(simp only[zz];try omega;done)) only[↓reduceIte,go_sem,e0,e3,l3,hcs]
    exact yes _ (by simp [upd,e0]) (by simp [upd])
   |false=>
    simp only[h2,Bool.false_or]at yes no
    simp(disch:=first|omega|(simp only[zz];try omega;done)) only[↓reduceIte,go_sem,e0,e3,eq_true l1,eq_true l2,l3,hcs]
    refine effS_call (.inr (.inr ⟨rfl,_,rfl,by simp(disch:=first|omega|(simp only[zz];try omega;done)) only[go_sem],?_⟩))
    cases h3:digB c.toNat with
    |true=>
     simp only[h3,Bool.true_or,true_implies]at yes
     simp(disch:=first|omega|(simp only[zz];try omega;done)) only[↓reduceIte,go_sem,e0,e3,l3,hcs]
     exact yes _ (by simp [upd,e0]) (by simp [upd])
    |false=>
     simp only[h3,Bool.false_or,decide_eq_true_eq,decide_eq_false_iff_not]at yes no
     simp(disch:=first|omega|(simp only[zz];try omega;done)) only[↓reduceIte,go_sem,e0,e3,eq_true l1,eq_true l2,l3,hcs]
     exact⟨fun hx=>no hx,fun hx=>yes _ (by simp [upd,e0]) (by simp [upd]) (Decidable.of_not_not hx)⟩
 ·have he:((s.drop 1).take j)=s.drop 1:=List.take_of_length_le (by rw[List.length_drop];omega)
  rw[he]at hall
  rw[hall]at hK
  simp(disch:=first|omega|(simp only[zz];try omega;done)) only[↓reduceIte,go_sem,r1tail_L1,e0,e3,eq_false (show¬(j:Int)+1<(s.length:Int) by omega)]
  exact hK
theorem wordB_eq{f:Int→Bool}{s:List UInt8}:wordB f s=(!decide (s.length<1) && !decide (64<s.length) && (f (s.getD 0 0).toNat && (s.drop 1).all fun c=>okB c.toNat)):=by
 cases s with
 |nil=>rfl
 |cons b r=>
  simp only[wordB,List.length_cons,List.getD_cons_zero,List.drop_succ_cons,List.drop_zero]
  by_cases h:r.length+1≤64
  ·rw[decide_eq_true h,decide_eq_false (show¬r.length+1<1 by omega),decide_eq_false (show¬64<r.length+1 by omega)];rfl
  ·rw[decide_eq_false h,decide_eq_true (show 64<r.length+1 by omega)];simp
def G_r1name:Ctr:=fun f vs h K _=>(f=92∧C_byte smallB vs h K)∨(f=103∧C_byte upB vs h K)∨(f=93∧C_tail vs h K)
theorem G_r1name_ok:GOk Tryz.prog G_r1name:=by
 rintro f vs h K KP (⟨rfl,hC⟩|⟨rfl,hC⟩|⟨rfl,hC⟩)
 ·exact r1lower_ok hC
 ·exact r1upper_ok hC
 ·exact r1tail_ok hC
theorem r1IsName_ok(hC:C_str nameB vs h K):HCX Tryz.prog 82 vs h K KP:=by
 obtain⟨u,s,rfl,hsl,hK⟩:=hC
 replace hK:=hK u h (.refl _ _ _)
 simp only[nameB,wordB_eq]at hK
 refine r1IsName_H G_r1name G_r1name_ok _ ?_
 by_cases h0:(s.length:Int)<1
 ·rw[decide_eq_true (show s.length<1 by omega)]at hK
  simp only[Bool.not_true,Bool.false_and,Bool.and_false]at hK
  simp(disch:=first|omega|(simp only[zz];try omega;done)) only[↓reduceIte,go_sem,r1IsName_S,r1IsName_E,eq_true h0]
  exact hK
 by_cases h6:64<(s.length:Int)
 ·rw[decide_eq_true (show 64<s.length by omega)]at hK
  simp only[Bool.not_true,Bool.false_and,Bool.and_false]at hK
  simp(disch:=first|omega|(simp only[zz];try omega;done)) only[↓reduceIte,go_sem,r1IsName_S,r1IsName_E,eq_false h0,eq_true h6]
  exact hK
 by_cases hn:s=[110,111,116]
 ·rw[decide_eq_true hn]at hK
  simp only[Bool.not_true,Bool.false_and]at hK
  simp(disch:=first|omega|(simp only[zz];try omega;done)) only[↓reduceIte,go_sem,r1IsName_S,r1IsName_E,eq_false h0,eq_false h6,eq_true hn]
  exact hK
 rw[decide_eq_false hn,decide_eq_false (show¬s.length<1 by omega),decide_eq_false (show¬64<s.length by omega)]at hK
 simp only[Bool.not_false,Bool.true_and]at hK
 have l1:(0:Int)<(s.length:Int):=by omega
 simp(disch:=first|omega|(simp only[zz];try omega;done)) only[↓reduceIte,go_sem,r1IsName_S,r1IsName_E,eq_false h0,eq_false h6,eq_false hn,eq_true l1]
 refine effS_call (.inl ⟨rfl,_,rfl,by simp(disch:=first|omega|(simp only[zz];try omega;done)) only[go_sem],?_⟩)
 cases hf:smallB (s.getD 0 0).toNat with
 |false=>
  rw[hf]at hK
  simp(disch:=first|omega|(simp only[zz];try omega;done)) only[↓reduceIte,go_sem]
  exact hK
 |true=>
  rw[hf]at hK
  simp(disch:=first|omega|(simp only[zz];try omega;done)) only[↓reduceIte,go_sem]
  refine effS_call (.inr (.inr ⟨rfl,s,rfl,by omega,by simp(disch:=first|omega|(simp only[zz];try omega;done)) only[go_sem],?_⟩))
  simp(disch:=first|omega|(simp only[zz];try omega;done)) only[↓reduceIte,go_sem]
  exact hK
theorem bigB_eq(n:Int):bigB n=(upB n || decide (n=95)):=rfl
theorem r1IsVar_ok(hC:C_str varB vs h K):HCX Tryz.prog 94 vs h K KP:=by
 obtain⟨u,s,rfl,hsl,hK⟩:=hC
 replace hK:=hK u h (.refl _ _ _)
 simp only[varB,wordB_eq,bigB_eq]at hK
 refine r1IsVar_H G_r1name G_r1name_ok _ ?_
 by_cases h0:(s.length:Int)<1
 ·rw[decide_eq_true (show s.length<1 by omega)]at hK
  simp only[Bool.not_true,Bool.false_and]at hK
  simp(disch:=first|omega|(simp only[zz];try omega;done)) only[↓reduceIte,go_sem,r1IsVar_S,r1IsVar_E,eq_true h0]
  exact hK
 by_cases h6:64<(s.length:Int)
 ·rw[decide_eq_true (show 64<s.length by omega)]at hK
  simp only[Bool.not_true,Bool.false_and,Bool.and_false]at hK
  simp(disch:=first|omega|(simp only[zz];try omega;done)) only[↓reduceIte,go_sem,r1IsVar_S,r1IsVar_E,eq_false h0,eq_true h6]
  exact hK
 rw[decide_eq_false (show¬s.length<1 by omega),decide_eq_false (show¬64<s.length by omega)]at hK
 simp only[Bool.not_false,Bool.true_and]at hK
 have l1:(0:Int)<(s.length:Int):=by omega
 simp(disch:=first|omega|(simp only[zz];try omega;done)) only[↓reduceIte,go_sem,r1IsVar_S,r1IsVar_E,eq_false h0,eq_false h6,eq_true l1]
 refine effS_call (.inr (.inl ⟨rfl,_,rfl,by simp(disch:=first|omega|(simp only[zz];try omega;done)) only[go_sem],?_⟩))
 cases hf:upB (s.getD 0 0).toNat with
 |true=>
  rw[hf]at hK
  simp only[Bool.true_or]at hK
  simp(disch:=first|omega|(simp only[zz];try omega;done)) only[↓reduceIte,go_sem]
  refine effS_call (.inr (.inr ⟨rfl,s,rfl,by omega,by simp(disch:=first|omega|(simp only[zz];try omega;done)) only[go_sem],?_⟩))
  simp(disch:=first|omega|(simp only[zz];try omega;done)) only[↓reduceIte,go_sem]
  exact hK
 |false=>
  rw[hf]at hK
  simp only[Bool.false_or]at hK
  by_cases h95:((s.getD 0 0).toNat:Int)=95
  ·rw[decide_eq_true h95]at hK
   simp(disch:=first|omega|(simp only[zz];try omega;done)) only[↓reduceIte,go_sem,eq_true l1,eq_true h95]
   refine effS_call (.inr (.inr ⟨rfl,s,rfl,by omega,by simp(disch:=first|omega|(simp only[zz];try omega;done)) only[go_sem],?_⟩))
   simp(disch:=first|omega|(simp only[zz];try omega;done)) only[↓reduceIte,go_sem,eq_true h95]
   exact hK
  ·rw[decide_eq_false h95]at hK
   simp(disch:=first|omega|(simp only[zz];try omega;done)) only[↓reduceIte,go_sem,eq_true l1,eq_false h95]
   exact hK
end Go.Proofs.YtmjinnbdnpedcaaGreat
