import Derived.Test.YtmjinnbdnpedcaaGreatVarsC
import Derived.Test.YtmjinnbdnpedcaaGreatShelfB
import Derived.Test.YtmjinnbdnpedcaaGreatWell
section Merged
namespace Go.Proofs.YtmjinnbdnpedcaaGreat
open Go Go.Ev
variable {vs:List Value} {h:H} {K:Value→H→Prop} {KP:List PanicEntry→H→Prop}
theorem e_cutPc{h:H}{b o l m:Nat}{k k':IntKind}{i j:Int}:s3 (.cutP l m) (.pointer (some ⟨b,o,none⟩)) (.int k i) (.int k' j) h=(0≤i∧i≤j∧j≤l):=by simp [s3,isInt,ti]
theorem e_cutP{h:H}{b:Nat}{k k':IntKind}{j:Int}:v3 (.cutP 24 1) (.pointer (some ⟨b,0,none⟩)) (.int k 1) (.int k' j) h= .slice (some ⟨b,1,none⟩) (j.toNat - 1) 23:=(rfl)
theorem e_cutPHc{h:H}{b o l:Nat}{k:IntKind}{i:Int}:s2 (.cutPH l) (.pointer (some ⟨b,o,none⟩)) (.int k i) h=(0≤i∧i≤l):=by simp [s2,isInt,ti]
theorem e_cutPH{h:H}{b o l:Nat}{k:IntKind}{i:Int}:v2 (.cutPH l) (.pointer (some ⟨b,o,none⟩)) (.int k i) h= .slice (some ⟨b,o,none⟩) i.toNat l:=(rfl)
theorem bitLen_le: ∀(f x:Nat),Lib.bitLenAux f x≤f
 |0,_=>Nat.le_refl _
 |f+1,x=>by
  unfold Lib.bitLenAux
  split
  ·omega
  ·have:=bitLen_le f (x / 2);omega
theorem l10_le: ∀x≤64,Lib.l10 x≤19:=by decide
def PowT(u:U)(h:H):Prop:=0<h.size∧hsz h 0=20∧20≤u 0∧ ∀i,i<20→ ∃x:Int,Go.Ev.hv h 0 i= .int .u64 x
theorem PowT.mono{u u':U}{h h':H}(k:PowT u h)(g:Ge u h u' h'):PowT u' h':=by
 obtain⟨k1,k2,k3,k4⟩:=k
 exact⟨Nat.lt_of_lt_of_le k1 g.sz,by rw[(g.hs _ k1).1];exact k2,Nat.le_trans k3 (g.up _ k1),fun i hi=>by rw[g.cl _ k1 i (by omega)];exact k4 i hi⟩
def C_len64(vs:List Value)(h:H)(K:Value→H→Prop):Prop:= ∃x:Int,vs=[.int .u64 x]∧0≤x∧x≤18446744073709551615∧ ∀n:Nat,n≤64→K (.int .i64 n) h
theorem mbLen64_ok(hC:C_len64 vs h K):HCX Tryz.prog 146 vs h K KP:=by
 obtain⟨x,rfl,h0,h1,hK⟩:=hC
 refine .inl ⟨by kernel_rfl,fun w hw=> ?_⟩
 subst hw
 refine(Tryz.bits_Len64 x w h0 h1).mono ?_
 rintro e w' ⟨rfl,rfl⟩
 exact⟨⟨rfl,rfl,rfl⟩,hK _ (bitLen_le 64 _)⟩
def C_log(vs:List Value)(h:H)(K:Value→H→Prop):Prop:= ∃x:Nat,vs=[.int .i64 x]∧x≤64∧ ∀n:Nat,n≤19→K (.int .i64 n) h
theorem cvLog_ok(hC:C_log vs h K):HCX Tryz.prog 145 vs h K KP:=by
 obtain⟨x,rfl,h0,hK⟩:=hC
 refine .inl ⟨by kernel_rfl,fun w hw=> ?_⟩
 subst hw
 refine(Tryz.internal_strconv_log10Pow2 x h0 w).mono ?_
 rintro e w' ⟨rfl,rfl⟩
 exact⟨⟨rfl,rfl,rfl⟩,hK _ (l10_le x h0)⟩
def C_bool2(vs:List Value)(h:H)(K:Value→H→Prop):Prop:= ∃x:Bool,vs=[.bool x]∧K (.int .i64 (if x then 1 else 0)) h
theorem cvBool_ok(hC:C_bool2 vs h K):HCX Tryz.prog 147 vs h K KP:=by
 obtain⟨x,rfl,hK⟩:=hC
 refine .inl ⟨by kernel_rfl,fun w hw=> ?_⟩
 subst hw
 refine(Tryz.internal_strconv_bool2_int x w).mono ?_
 rintro e w' ⟨rfl,rfl⟩
 exact⟨⟨rfl,rfl,rfl⟩,hK⟩
def C_small(vs:List Value)(h:H)(K:Value→H→Prop):Prop:= ∃x:Nat,vs=[.int .i64 x]∧x<100∧ ∀s:List UInt8,s.length≤24→K (str s) h
theorem dec_small: ∀x<100,(Lib.decDigits x).length≤24:=by decide+kernel
theorem cvSmall_ok(hC:C_small vs h K):HCX Tryz.prog 141 vs h K KP:=by
 obtain⟨x,rfl,h0,hK⟩:=hC
 refine .inl ⟨by kernel_rfl,fun w hw=> ?_⟩
 subst hw
 refine(Tryz.internal_strconv_small x h0 w).mono ?_
 rintro e w' ⟨rfl,rfl⟩
 exact⟨⟨rfl,rfl,rfl⟩,hK _ (dec_small x h0)⟩
def C_digs(vs:List Value)(h:H)(K:Value→H→Prop):Prop:= ∃(u:U) (x:Int),vs=[.int .u64 x]∧0≤x∧x≤18446744073709551615∧PowT u h∧ ∀n:Nat,n≤20→K (.int .i64 n) h
def G_cvDigits:Ctr:=fun f vs h K _=>(f=146∧C_len64 vs h K)∨(f=145∧C_log vs h K)∨(f=147∧C_bool2 vs h K)
theorem G_cvDigits_ok:GOk Tryz.prog G_cvDigits:=by
 rintro f vs h K KP (⟨rfl,hC⟩|⟨rfl,hC⟩|⟨rfl,hC⟩)
 ·exact mbLen64_ok hC
 ·exact cvLog_ok hC
 ·exact cvBool_ok hC
theorem cvDigits_ok(hC:C_digs vs h K):HCX Tryz.prog 142 vs h K KP:=by
 obtain⟨u,x,rfl,h0,h1,⟨k1,k2,k3,k4⟩,hK⟩:=hC
 refine cvDigits_H G_cvDigits G_cvDigits_ok _ ?_
 simp(disch:=first|omega|(simp only[zz];try omega;done)) only[↓reduceIte,go_sem,cvDigits_S,cvDigits_E]
 refine effS_call (.inl ⟨rfl,x,rfl,h0,h1,fun n hn=>⟨zz0,?_⟩⟩)
 simp(disch:=first|omega|(simp only[zz];try omega;done)) only[↓reduceIte,go_sem]
 refine effS_call (.inr (.inl ⟨rfl,n,rfl,hn,fun m hm=>⟨zz0,?_⟩⟩))
 obtain⟨y,hy⟩:=k4 m (by omega)
 simp(disch:=first|omega|(simp only[zz];try omega;done)) only[↓reduceIte,go_sem,k2,hy,Nat.mul_one]
 refine⟨by omega,by omega,?_⟩
 refine effS_call (.inr (.inr ⟨rfl,_,rfl,⟨zz0,?_⟩⟩))
 obtain⟨q,hq,hq1⟩: ∃q:Nat,(if y≤x then(1:Int)else 0)=q∧q≤1:=by
  by_cases e:y≤x
  ·exact⟨1,by simp [e],Nat.le_refl _⟩
  ·exact⟨0,by simp [e],Nat.zero_le _⟩
 simp(disch:=first|omega|(simp only[zz];try omega;done)) only[↓reduceIte,go_sem,hq,decide_eq_true_eq]
 have e:((m:Int)+q)=((m+q:Nat):Int):=by omega
 rw[e]
 exact hK (m+q) (by omega)
theorem effS_b2sB {G:Ctr} {d:Option Nat} {st:Stab} {r:List St} {K:Env→H→Prop} {KP:List PanicEntry→H→Prop} {σ:Env} {h:H} {b o n c N:Nat} (hB:Byt h b N) (hn:o+n≤N)
  (hK: ∀l:List UInt8,l.length=n→stabP st σ h h∧wpSts G r K KP (updo σ d (str l)) h):effS G .b2s d st r K KP [.slice (some ⟨b,o,none⟩) n c] σ h:=by
 obtain⟨k1,k2,k3⟩:=hB
 have hex: ∀m,m≤n→ ∃l:List UInt8,l.length=m∧hvs h b o m=l.map byteV:=by
  intro m
  induction m with
  |zero=>exact fun _=>⟨[],rfl,rfl⟩
  |succ m ih=>
   intro hm
   obtain⟨l,h1,h2⟩:=ih (by omega)
   obtain⟨x,hx⟩:=k3 (o+m) (by omega)
   refine⟨l++[x],by simp [h1],?_⟩
   unfold hvs at h2 ⊢
   rw[List.range_succ,List.map_append,h2,List.map_append]
   simp [hx,byteV]
 obtain⟨l,h1,h2⟩:=hex n (Nat.le_refl _)
 exact⟨by rw[k1];exact hn,l,h2,hK l h1⟩
def C_fmt(vs:List Value)(h:H)(K:Value→H→Prop):Prop:= ∃(u:U) (x:Int),vs=[.int .i64 x,.int .i64 10]∧(-9223372036854775808≤x∧x≤9223372036854775807)∧PowT u h∧ ∀u' h' (s:List UInt8),Step S0 u h u' h'→s.length≤24→K (str s) h'
def G_cvFormat:Ctr:=fun f vs h K _=>(f=141∧C_small vs h K)∨(f=142∧C_digs vs h K)∨(f=143∧C_b10 vs h K)
theorem G_cvFormat_ok:GOk Tryz.prog G_cvFormat:=by
 rintro f vs h K KP (⟨rfl,hC⟩|⟨rfl,hC⟩|⟨rfl,hC⟩)
 ·exact cvSmall_ok hC
 ·exact cvDigits_ok hC
 ·exact cvBase10_ok hC
theorem cvFormat_ok(hC:C_fmt vs h K):HCX Tryz.prog 138 vs h K KP:=by
 obtain⟨u,x,rfl,⟨x0,x1⟩,hP,hK⟩:=hC
 refine cvFormat_H G_cvFormat G_cvFormat_ok _ _ ?_
 by_cases q1:0≤x∧x<100
 ·obtain⟨n,rfl⟩: ∃n:Nat,x=n:=⟨x.toNat,by omega⟩
  simp(disch:=first|omega|(simp only[zz];try omega;done)) only[↓reduceIte,go_sem,cvFormat_S,cvFormat_E,eq_true q1.1,eq_true q1.2]
  refine effS_call (.inl ⟨rfl,n,rfl,by omega,fun s hs=>⟨zz0,?_⟩⟩)
  simp(disch:=first|omega|(simp only[zz];try omega;done)) only[↓reduceIte,go_sem]
  exact hK u h s (.refl _ _ _) hs
 ·obtain⟨y,hy,hy0,hy1⟩: ∃y:Int,y=(if x<0 then IntKind.u64.wrap (0 - IntKind.u64.wrap x)else IntKind.u64.wrap x)∧0≤y∧y≤18446744073709551615:=by
   refine⟨_,rfl,?_⟩
   have e: ∀z,IntKind.u64.wrap z=z % 18446744073709551616:=fun _=>rfl
   rw[e,e];split<;>omega
  have sp:Step S0 u h (ub u h.size 0) (h.push (.cells #[(.int .u8 0),(.int .u8 0),(.int .u8 0),(.int .u8 0),(.int .u8 0),(.int .u8 0),(.int .u8 0),(.int .u8 0),(.int .u8 0),(.int .u8 0),(.int .u8 0),(.int .u8 0),(.int .u8 0),(.int .u8 0),(.int .u8 0),(.int .u8 0),(.int .u8 0),(.int .u8 0),(.int .u8 0),(.int .u8 0),(.int .u8 0),(.int .u8 0),(.int .u8 0),(.int .u8 0)] 212)):=Step.push0 S0 u h _ _
  have hB0:Byt (h.push (.cells #[(.int .u8 0),(.int .u8 0),(.int .u8 0),(.int .u8 0),(.int .u8 0),(.int .u8 0),(.int .u8 0),(.int .u8 0),(.int .u8 0),(.int .u8 0),(.int .u8 0),(.int .u8 0),(.int .u8 0),(.int .u8 0),(.int .u8 0),(.int .u8 0),(.int .u8 0),(.int .u8 0),(.int .u8 0),(.int .u8 0),(.int .u8 0),(.int .u8 0),(.int .u8 0),(.int .u8 0)] 212)) h.size 24:=by
   refine⟨by rw[e_hszpe rfl];rfl,e_hfrpe rfl,fun i hi=>⟨0,?_⟩⟩
   rw[e_hvpe rfl]
   have:(List.replicate 24 (Value.int .u8 0)).getD i undef=Value.int .u8 0:=by
    rw[List.getD_eq_getElem?_getD,List.getElem?_replicate,if_pos hi];rfl
   exact this
  by_cases q2:x<0
  ·rw[if_pos q2]at hy
   simp(disch:=first|omega|(simp only[zz];try omega;done)) only[↓reduceIte,go_sem,cvFormat_S,cvFormat_E,eq_false (show¬(0:Int)≤x by omega),eq_true q2,←hy]
   refine effS_call (.inr (.inl ⟨rfl,_,y,rfl,hy0,hy1,hP.mono sp.ge,fun n hn=>⟨zz0,?_⟩⟩))
   have en:(1+(n:Int)).toNat - 1=n:=by omega
   simp(disch:=first|omega|(simp only[zz];try omega;done)) only[↓reduceIte,go_sem,e_cutPc,e_cutP,en]
   refine⟨by omega,by omega,?_⟩
   refine effS_call (.inr (.inr ⟨rfl,ub u h.size 0,h.size,1,n,_,y,24,rfl,hy0,hy1,hn,hB0,by omega,ub_self,fun h2 s2 hB2=>⟨zz0,?_⟩⟩))
   simp(disch:=first|omega|(simp only[zz];try omega;done)) only[↓reduceIte,go_sem,hB2.1,hB2.2.1,eq_true q2,e_cutPHc,e_cutPH]
   refine⟨by omega,by omega,?_⟩
   have st2:Step S0 u h (ub u h.size 0) h2:=sp.trans s2 (fun i hi e=>by have e:i=h.size:=e;omega)
   have hB3:Byt (hset h2 h.size 0 (.int .u8 45)) h.size 24:=hB2.set (x:=45)
   refine effS_b2sB hB3 (by omega) fun l hl=>⟨zz0,?_⟩
   simp(disch:=first|omega|(simp only[zz];try omega;done)) only[↓reduceIte,go_sem]
   exact hK _ _ l (st2.setR (.inl (Nat.le_refl _)) (by rw[ub_self];exact Nat.le_refl _)) (by omega)
  ·rw[if_neg q2]at hy
   simp(disch:=first|omega|(simp only[zz];try omega;done)) only[↓reduceIte,go_sem,cvFormat_S,cvFormat_E,eq_true (show(0:Int)≤x by omega),eq_false (show¬x<100 by omega),eq_false q2,←hy]
   refine effS_call (.inr (.inl ⟨rfl,_,y,rfl,hy0,hy1,hP.mono sp.ge,fun n hn=>⟨zz0,?_⟩⟩))
   have en:(1+(n:Int)).toNat - 1=n:=by omega
   simp(disch:=first|omega|(simp only[zz];try omega;done)) only[↓reduceIte,go_sem,e_cutPc,e_cutP,en]
   refine⟨by omega,by omega,?_⟩
   refine effS_call (.inr (.inr ⟨rfl,ub u h.size 0,h.size,1,n,_,y,24,rfl,hy0,hy1,hn,hB0,by omega,ub_self,fun h2 s2 hB2=>⟨zz0,?_⟩⟩))
   simp(disch:=first|omega|(simp only[zz];try omega;done)) only[↓reduceIte,go_sem,eq_false q2,e_cutPc,e_cutP,en]
   refine⟨by omega,by omega,?_⟩
   have st2:Step S0 u h (ub u h.size 0) h2:=sp.trans s2 (fun i hi e=>by have e:i=h.size:=e;omega)
   refine effS_b2sB hB2 (by omega) fun l hl=>⟨zz0,?_⟩
   simp(disch:=first|omega|(simp only[zz];try omega;done)) only[↓reduceIte,go_sem]
   exact hK _ _ l st2 (by omega)
def G_cvFormatInt:Ctr:=fun f vs h K _=>f=138∧C_fmt vs h K
theorem G_cvFormatInt_ok:GOk Tryz.prog G_cvFormatInt:=by
 rintro f vs h K KP ⟨rfl,hC⟩
 exact cvFormat_ok hC
theorem cvFormatInt_ok(hC:C_fmt vs h K):HCX Tryz.prog 136 vs h K KP:=by
 obtain⟨u,x,rfl,hx,hP,hK⟩:=hC
 refine cvFormatInt_H G_cvFormatInt G_cvFormatInt_ok _ _ ?_
 simp(disch:=first|omega|(simp only[zz];try omega;done)) only[↓reduceIte,go_sem,cvFormatInt_S,cvFormatInt_E]
 refine effS_call ⟨rfl,u,x,rfl,hx,hP,fun u' h' s st hs=>⟨zz0,?_⟩⟩
 simp(disch:=first|omega|(simp only[zz];try omega;done)) only[↓reduceIte,go_sem]
 exact hK u' h' s st hs
end Go.Proofs.YtmjinnbdnpedcaaGreat
end Merged
section Merged
namespace Go.Ev
open Go
theorem eb_bits{h:H}{op:BinOp}{k k':IntKind}{a b:Int}:v2 (.bits op) (.int k a) (.int k' b) h= .int k (bitsI op k a b):=(rfl)
theorem eb_bitsc{h:H}{op:BinOp}{k k':IntKind}{a b:Int}:s2 (.bits op) (.int k a) (.int k' b) h=(if isShift op then 0≤b else k=k'):=by simp [s2,isInt,ti,tk]
theorem nib_hi: ∀a<256,0≤bitsI .shr .u8 ((a:Nat):Int) 4∧bitsI .shr .u8 ((a:Nat):Int) 4<16:=by decide+kernel
theorem nib_lo: ∀a<256,0≤bitsI .and .u8 ((a:Nat):Int) 15∧bitsI .and .u8 ((a:Nat):Int) 15<16:=by decide+kernel
theorem isY2(u:U)(h:H)(e:TypeId)(x y:UInt8):IsSlY (ub u h.size 2) (h.push (.cells #[.int .u8 x.toNat,.int .u8 y.toNat] e)) (.slice (some ⟨h.size,0,none⟩) 2 2) [x,y]:=by
 have:= @Own.isSl UInt8 repB8 _ _ _ _ _ (@Own.made UInt8 repB8 0 u h (Nat.zero_le _) e [x,y] [.int .u8 x.toNat,.int .u8 y.toNat] rfl (by simp only[List.length_cons,List.length_nil];decide) (fun i z hz=> ?_))
 ·exact this
 ·match i,hz with
  |0,hz=>cases hz;rfl
  |1,hz=>cases hz;rfl
end Go.Ev
namespace Go.Proofs.YtmjinnbdnpedcaaGreat
open Go Go.Ev Edict
variable {vs:List Value} {h:H} {K:Value→H→Prop} {KP:List PanicEntry→H→Prop}
def C_letter(vs:List Value)(h:H)(K:Value→H→Prop):Prop:= ∃c:UInt8,vs=[.int .u8 c.toNat]∧ ∀d:UInt8,K (.int .u8 d.toNat) h
theorem syLetter_ok(hC:C_letter vs h K):HCX Tryz.prog 139 vs h K KP:=by
 obtain⟨c,rfl,hK⟩:=hC
 refine syLetter_H (fun _ _ _ _ _=>False) (fun _ _ _ _ _ h=>h.elim) _ ?_
 by_cases h1:(c.toNat:Int)=34
 ·simp(disch:=first|omega|(simp only[zz];try omega;done)) only[↓reduceIte,go_sem,syLetter_S,syLetter_E,eq_true h1]
  exact hK c
 by_cases h2:(c.toNat:Int)=92
 ·simp(disch:=first|omega|(simp only[zz];try omega;done)) only[↓reduceIte,go_sem,syLetter_S,syLetter_E,eq_false h1,eq_true h2]
  exact hK c
 by_cases h3:(c.toNat:Int)=10
 ·simp(disch:=first|omega|(simp only[zz];try omega;done)) only[↓reduceIte,go_sem,syLetter_S,syLetter_E,eq_false h1,eq_false h2,eq_true h3]
  exact hK 110
 by_cases h4:(c.toNat:Int)=9
 ·simp(disch:=first|omega|(simp only[zz];try omega;done)) only[↓reduceIte,go_sem,syLetter_S,syLetter_E,eq_false h1,eq_false h2,eq_false h3,eq_true h4]
  exact hK 116
 by_cases h5:(c.toNat:Int)=13
 ·simp(disch:=first|omega|(simp only[zz];try omega;done)) only[↓reduceIte,go_sem,syLetter_S,syLetter_E,eq_false h1,eq_false h2,eq_false h3,eq_false h4,eq_true h5]
  exact hK 114
 ·simp(disch:=first|omega|(simp only[zz];try omega;done)) only[↓reduceIte,go_sem,syLetter_S,syLetter_E,eq_false h1,eq_false h2,eq_false h3,eq_false h4,eq_false h5]
  exact hK 0
def C_quoted(vs:List Value)(h:H)(K:Value→H→Prop):Prop:= ∃(u:U) (s:List UInt8),vs=[str s]∧s.length≤255∧ ∀u' h' (l:List UInt8),Step S0 u h u' h'→l.length≤2048→K (str l) h'
def G_syQuoted:Ctr:=fun f vs h K _=>(f=139∧C_letter vs h K)∨(f=127∧C_wbyte vs h K)∨(f=126∧C_wstr vs h K)∨(f=140∧C_write vs h K)∨(f=91∧C_bstring vs h K)
theorem G_syQuoted_ok:GOk Tryz.prog G_syQuoted:=by
 rintro f vs h K KP (⟨rfl,hC⟩|⟨rfl,hC⟩|⟨rfl,hC⟩|⟨rfl,hC⟩|⟨rfl,hC⟩)
 ·exact syLetter_ok hC
 ·exact sbWriteByte_ok hC
 ·exact sbWriteString_ok hC
 ·exact sbWrite_ok hC
 ·exact sbString_ok hC
theorem syQuoted_ok(hC:C_quoted vs h K):HCX Tryz.prog 137 vs h K KP:=by
 obtain⟨u,s,rfl,hs,hK⟩:=hC
 refine syQuoted_H G_syQuoted G_syQuoted_ok _ ?_
 simp(disch:=first|omega|(simp only[zz];try omega;done)) only[↓reduceIte,go_sem,syQuoted_S,syQuoted_E]
 have sp:Step S0 u h _ _:=Step.push0 S0 u h #[.pointer none,.slice none 0 0] 168
 have B0:=Bu.new u h
 refine effS_call (.inr (.inl ⟨rfl,_,34,rfl,h.size,_,h.size,[],rfl,B0,by decide,fun u1 h1 s1 B1 hb1=>⟨zz0,?_⟩⟩))
 have st1:Step S0 u h u1 h1:=sp.trans s1 (fun i hi hB=>by have:=(B0.ge hB).1;omega)
 simp(disch:=first|omega|(simp only[zz];try omega;done)) only[↓reduceIte,go_sem]
 refine effS_s2b u1 (by omega) fun cap u2 h2 hcap s2 hlt2 hz hcell=>⟨zz0,?_⟩
 obtain⟨B2,e2⟩:=B1.step0 s2
 have st2:=st1.trans0 s2
 obtain⟨r,hr⟩: ∃r,r=h1.size:=⟨_,rfl⟩
 rw[←hr]at hlt2 hz hcell
 have hnr: ¬BldB h2 h.size r:=fun hB=>by
  have hB:BldB h1 h.size r:=by
   rcases hB with hB|hB
   ·exact .inl hB
   ·exact .inr (by rw[e2]at hB;exact hB)
  have:=(B1.ge hB).2
  omega
 simp(disch:=first|omega|(simp only[zz];try omega;done)) only[↓reduceIte,go_sem,←hr]
 obtain⟨I,hI⟩: ∃I:Nat→Env→H→Prop,I=fun i σ h'=>σ 3= .pointer (some ⟨h.size,0,none⟩)∧σ 9= .slice (some ⟨r,0,none⟩) s.length cap∧σ 10= .int .i64 s.length∧σ 11= .int .i64 i∧i≤s.length∧
  ∃(u':U) (l:List UInt8),Step S0 u h u' h'∧Bu h.size u' h' h.size l∧l.length≤1+4*i∧r<h'.size∧ ¬BldB h' h.size r∧s.length≤hsz h' r∧ ∀(j:Nat) (b:UInt8),s[j]? =some b→Go.Ev.hv h' r j= .int .u8 b.toNat:=⟨_,rfl⟩
 refine wpS_loop I (fun i=>s.length - i) 0 (by
  rw[hI]
  exact⟨by simp [upd],by simp [upd],by simp [upd],by simp [upd],Nat.zero_le _,u2,_,st2,B2,by simp,hlt2,hnr,hz,hcell⟩) ?_
 clear hz hcell hnr B2 st2 s2 B1 st1 s1 hb1 e2 B0 sp hlt2 hr
 intro i σ h' hy
 rw[hI]at hy
 obtain⟨e3,e9,e10,e11,hi,u',l,st,B,hl,hrl,hnr,hz,hcell⟩:=hy
 by_cases hlt:i<s.length
 ·obtain⟨c,hc⟩: ∃c,s[i]? =some c:=⟨s[i],by simp [hlt]⟩
  have hci:=hcell i c hc
  have hc256:=c.toNat_lt
  -- the next round
  have next: ∀(σ':Env) (u3:U) (h3:H) (m:List UInt8),σ' 3=σ 3→σ' 9=σ 9→σ' 10=σ 10→σ' 11= .int .i64 ((i:Int)+1)→Step (BldB h' h.size) u' h' u3 h3→Bu h.size u3 h3 h.size (l++m)→m.length≤4→
    (∀j,BldB h3 h.size j→BldB h' h.size j∨h'.size≤j)→ ∃y,I y σ' h3∧s.length - y<s.length - i:=fun σ' u3 h3 m g3 g9 g10 g11 s3 B3 hm hb3=>by
   refine⟨i+1,?_,by omega⟩
   rw[hI]
   obtain⟨q1,q2⟩:=s3.same r hrl hnr
   refine⟨by rw[g3,e3],by rw[g9,e9],by rw[g10,e10],g11,hlt,u3,_,st.trans s3 (fun j hj hB=>by have:=(B.ge hB).1;omega),B3,by rw[List.length_append];omega,Nat.lt_of_lt_of_le hrl s3.ge.sz,fun hB=> ?_,by rw[(s3.ge.hs r hrl).1];exact hz,fun j b hb=>by unfold Go.Ev.hv Go.Ev.hc;rw[q1];exact hcell j b hb⟩
   rcases hb3 r hB with hB|hB
   ·exact hnr hB
   ·omega
  simp(disch:=first|omega|(simp only[zz];try omega;done)) only[↓reduceIte,go_sem,syQuoted_L1,e9,e10,e11,hlt,hci,Nat.mul_one]
  refine effS_call (.inl ⟨rfl,c,rfl,fun d=>⟨zz0,?_⟩⟩)
  by_cases hd:(d.toNat:Int)=0
  ·by_cases hp:32≤(c.toNat:Int)∧(c.toNat:Int)≤126
   ·simp(disch:=first|omega|(simp only[zz];try omega;done)) only[↓reduceIte,go_sem,e3,eq_true hd,eq_true hp.1,eq_true hp.2]
    refine effS_call (.inr (.inl ⟨rfl,_,c,rfl,h.size,u',h.size,l,rfl,B,by simp;omega,fun u3 h3 s3 B3 hb3=>⟨zz0,?_⟩⟩))
    simp(disch:=first|omega|(simp only[zz];try omega;done)) only[↓reduceIte,go_sem,e11]
    exact next _ u3 h3 [c] (by simp [upd]) (by simp [upd]) (by simp [upd]) (by simp [upd]) s3 B3 (by simp) hb3
   ·have hsh:=nib_hi c.toNat hc256
    have hlo:=nib_lo c.toNat hc256
    have chain: ∀{ua ub uc:U} {ha hb hc:H},Step (BldB ha h.size) ua ha ub hb→(∀j,BldB hb h.size j→BldB ha h.size j∨ha.size≤j)→Step (BldB hb h.size) ub hb uc hc→(∀j,BldB hc h.size j→BldB hb h.size j∨hb.size≤j)→
      Step (BldB ha h.size) ua ha uc hc∧ ∀j,BldB hc h.size j→BldB ha h.size j∨ha.size≤j:=fun p1 p2 p3 p4=>
     ⟨p1.trans p3 (fun j hj hB=>(p2 j hB).elim id (fun h=>by omega)),fun j hB=>(p4 j hB).elim (p2 j) (fun h=> .inr (Nat.le_trans p1.ge.sz h))⟩
    by_cases q:32≤(c.toNat:Int)
    ·have q2: ¬(c.toNat:Int)≤126:=fun h=>hp ⟨q,h⟩
     simp(disch:=first|omega|(simp only[zz];try omega;done)) only[↓reduceIte,go_sem,e3,eq_true hd,eq_true q,eq_false q2]
     refine effS_call (.inr (.inr (.inl ⟨rfl,_,[92,120],rfl,h.size,u',h.size,l,rfl,B,by simp;omega,fun u3 h3 s3 B3 hb3=>⟨zz0,?_⟩⟩)))
     simp(disch:=first|omega|(simp only[zz];try omega;done)) only[↓reduceIte,go_sem,e3,eb_bits,eb_bitsc,isShift]
     refine⟨hsh.1,hsh.2,?_⟩
     refine effS_call (.inr (.inl ⟨rfl,_,_,rfl,h.size,u3,h.size,_,rfl,B3,by simp;omega,fun u4 h4 s4 B4 hb4=>⟨zz0,?_⟩⟩))
     simp(disch:=first|omega|(simp only[zz];try omega;done)) only[↓reduceIte,go_sem,e3,eb_bits,eb_bitsc,isShift]
     refine⟨hlo.1,hlo.2,?_⟩
     refine effS_call (.inr (.inl ⟨rfl,_,_,rfl,h.size,u4,h.size,_,rfl,B4,by simp;omega,fun u5 h5 s5 B5 hb5=>⟨zz0,?_⟩⟩))
     simp(disch:=first|omega|(simp only[zz];try omega;done)) only[↓reduceIte,go_sem,e11]
     obtain⟨c1,c2⟩:=chain s3 hb3 s4 hb4
     obtain⟨c3,c4⟩:=chain c1 c2 s5 hb5
     rw[List.append_assoc,List.append_assoc]at B5
     exact next _ u5 h5 _ (by simp [upd]) (by simp [upd]) (by simp [upd]) (by simp [upd]) c3 B5 (by simp) c4
    ·simp(disch:=first|omega|(simp only[zz];try omega;done)) only[↓reduceIte,go_sem,e3,eq_true hd,eq_false q]
     refine effS_call (.inr (.inr (.inl ⟨rfl,_,[92,120],rfl,h.size,u',h.size,l,rfl,B,by simp;omega,fun u3 h3 s3 B3 hb3=>⟨zz0,?_⟩⟩)))
     simp(disch:=first|omega|(simp only[zz];try omega;done)) only[↓reduceIte,go_sem,e3,eb_bits,eb_bitsc,isShift]
     refine⟨hsh.1,hsh.2,?_⟩
     refine effS_call (.inr (.inl ⟨rfl,_,_,rfl,h.size,u3,h.size,_,rfl,B3,by simp;omega,fun u4 h4 s4 B4 hb4=>⟨zz0,?_⟩⟩))
     simp(disch:=first|omega|(simp only[zz];try omega;done)) only[↓reduceIte,go_sem,e3,eb_bits,eb_bitsc,isShift]
     refine⟨hlo.1,hlo.2,?_⟩
     refine effS_call (.inr (.inl ⟨rfl,_,_,rfl,h.size,u4,h.size,_,rfl,B4,by simp;omega,fun u5 h5 s5 B5 hb5=>⟨zz0,?_⟩⟩))
     simp(disch:=first|omega|(simp only[zz];try omega;done)) only[↓reduceIte,go_sem,e11]
     obtain⟨c1,c2⟩:=chain s3 hb3 s4 hb4
     obtain⟨c3,c4⟩:=chain c1 c2 s5 hb5
     rw[List.append_assoc,List.append_assoc]at B5
     exact next _ u5 h5 _ (by simp [upd]) (by simp [upd]) (by simp [upd]) (by simp [upd]) c3 B5 (by simp) c4
  ·simp(disch:=first|omega|(simp only[zz];try omega;done)) only[↓reduceIte,go_sem,e3,eq_false hd]
   have sp:Step S0 u' h' (ub u' h'.size 2) (h'.push (.cells #[.int .u8 92,.int .u8 d.toNat] 5)):=Step.push S0 u' h' _ _ 2
   obtain⟨B2,e2⟩:=B.step0 sp
   have hy:=isY2 u' h' 5 92 d
   refine effS_call (.inr (.inr (.inr (.inl ⟨rfl,h.size,_,h.size,l,[92,d],_,rfl,B2,hy,by simp;omega,fun u3 h3 s3 B3 hb3=>⟨zz0,?_⟩⟩))))
   simp(disch:=first|omega|(simp only[zz];try omega;done)) only[↓reduceIte,go_sem,e11]
   have eB: ∀j,BldB (h'.push (.cells #[.int .u8 92,.int .u8 d.toNat] 5)) h.size j→BldB h' h.size j:=fun j hB=>hB.imp id fun hB=>by rw[e2]at hB;exact hB
   exact next _ u3 h3 [92,d] (by simp [upd]) (by simp [upd]) (by simp [upd]) (by simp [upd]) ((sp.mono (S':=BldB h' h.size) (fun _ _ h=>h.elim)).trans s3 (fun j _ hB=>eB j hB)) B3 (by simp) (fun j hB=>(hb3 j hB).imp (eB j) (fun h=>by simp at h;omega))
 ·obtain rfl:i=s.length:=by omega
  simp(disch:=first|omega|(simp only[zz];try omega;done)) only[↓reduceIte,go_sem,syQuoted_L1,e3,e10,e11]
  refine effS_call (.inr (.inl ⟨rfl,_,34,rfl,h.size,u',h.size,l,rfl,B,by simp;omega,fun u3 h3 s3 B3 hb3=>⟨zz0,?_⟩⟩))
  simp(disch:=first|omega|(simp only[zz];try omega;done)) only[↓reduceIte,go_sem,e3]
  have st3:Step S0 u h u3 h3:=st.trans s3 (fun j hj hB=>by have:=(B.ge hB).1;omega)
  refine effS_call (.inr (.inr (.inr (.inr ⟨rfl,h.size,u3,h.size,_,rfl,B3,by simp,fun h4 hs4 hb4=>⟨zz0,?_⟩⟩))))
  simp(disch:=first|omega|(simp only[zz];try omega;done)) only[↓reduceIte,go_sem]
  exact hK u3 h4 _ (Step.below st3 hs4 hb4) (by rw[List.length_append,List.length_singleton];omega)
end Go.Proofs.YtmjinnbdnpedcaaGreat
end Merged
