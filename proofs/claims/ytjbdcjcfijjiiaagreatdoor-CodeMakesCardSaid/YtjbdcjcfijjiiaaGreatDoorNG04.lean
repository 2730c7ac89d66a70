/- NG04: Qp, Uc, Up joined. -/
import Derived.Laws.BytesArg
import Derived.Test.YtjbdcjcfijjiiaaGreatDoorNG03
namespace Go.Proofs.YtjbdcjcfijjiiaaGreatDoor
open Go.RowKit
/- Queries read, plain: behind a fault nothing is read (no word of a dump). -/
section
def BadP (P:Nat→PSt→ExprT×PSt):Prop:=∀d t,t.fe≠0→(P d t).2=t
section
variable  {E:Int}{t:PSt}
theorem kind_bad (h:t.fe≠0):kindS t=0:=by unfold kindS;rw [hdT_bad h];rfl
theorem must_bad (l:List UInt8)(h:t.fe≠0):mustS E l t=t:=by unfold mustS;rw [isS_bad l h];exact formS_bad h
theorem openS_bad (d:Nat)(h:t.fe≠0):openS E d t=t:=by
 unfold openS
 split
 ·rw [failS_bad h,nextS_bad h]
 ·exact nextS_bad h
theorem numS_bad (h:t.fe≠0):numS E t=(0,false,t):=by unfold numS;rw [kind_bad h];rfl
theorem isSeg_bad (h:t.fe≠0):isSeg t=false:=by unfold isSeg;rw [isS_bad _ h,isS_bad _ h,isS_bad _ h];rfl
theorem isPath_bad (h:t.fe≠0):isPath t=false:=by unfold isPath;rw [isS_bad _ h,isS_bad _ h];rfl
theorem litS_bad (h:t.fe≠0):litS t=none:=by unfold litS;rw [kind_bad h];rfl
theorem opS_bad (h:t.fe≠0):opS t = -1:=by unfold opS;rw [kind_bad h];rfl
end
section
variable  {E:Int}{P:Nat→PSt→ExprT×PSt}{d:Nat}{t:PSt}
theorem segsL_bad (f:Nat)(h:t.fe≠0):segsL E P d f t=([],t):=by
 cases f with
 | zero=>rfl
 | succ f=>rw [segsL,isSeg_bad h];rfl
theorem pathF_bad (h:t.fe≠0):pathF E P d t=(path0,t):=by
 unfold pathF
 rw [nextS_bad h,segsL_bad _ h,isS_bad _ h]
 rfl
theorem selF_bd (h:t.fe≠0):selF E P d t=(sel0,t):=by
 unfold selF
 rw [kind_bad h,isS_bad _ h,isS_bad _ h,isS_bad _ h,formS_bad h]
 rfl
theorem selsL_bad (f:Nat)(h:t.fe≠0):selsL E P d f t=([],t):=by
 cases f with
 | zero=>rfl
 | succ f=>rw [selsL,isS_bad _ h];rfl
theorem sideF_bad (h:t.fe≠0):sideF E P d t=(side0,t):=by
 unfold sideF
 rw [isPath_bad h,litS_bad h,formS_bad h]
 rfl
theorem cmp2_bad (a:SideT)(h:t.fe≠0):cmp2 E P d a t=(tstE a.p,t):=by
 unfold cmp2
 rw [opS_bad h,if_pos (by decide)]
 split
 ·rw [formS_bad h]
 ·rfl
theorem cmpF_bad (h:t.fe≠0):cmpF E P d t=(tstE path0,t):=by
 unfold cmpF
 rw [sideF_bad h,cmp2_bad _ h]
 rfl
theorem notF_bad (m:Bool)(h:t.fe≠0):(notF m E P d t).2=t:=by
 unfold notF
 rw [isS_bad _ h,isPath_bad h,formS_bad h]
 rfl
theorem oneF_bad (m:Bool)(h:t.fe≠0):(oneF m E P d t).2=t:=by
 unfold oneF
 rw [isS_bad _ h,isS_bad _ h,cmpF_bad h]
 rfl
end
theorem listL_bad {E:Int}{sg:List UInt8}{F:PSt→ExprT×PSt}{t:PSt}(f:Nat)(h:t.fe≠0):listL E sg F f t=([],t):=by
 cases f with
 | zero=>rfl
 | succ f=>rw [listL,isS_bad _ h];rfl
theorem listF_bad {E:Int}{sg:List UInt8}{k:Int}{F:PSt→ExprT×PSt}(hF:∀t,t.fe≠0→(F t).2=t)(t:PSt)(h:t.fe≠0):(listF E sg k F t).2=t:=by
 unfold listF
 rw [hF t h,listL_bad _ h]
theorem andF_bad {E:Int}{P:Nat→PSt→ExprT×PSt}{d:Nat}(m:Bool)(t:PSt)(h:t.fe≠0):(andF m E P d t).2=t:=listF_bad (fun _ h=>oneF_bad m h) t h
theorem orF_bad {E:Int}{P:Nat→PSt→ExprT×PSt}(m:Bool):BadP (orF m E P):=fun _ t h=>listF_bad (fun t h=>andF_bad m t h) t h
theorem orS_bad (m:Bool)(E:Int):∀n,BadP (orS m E n)
 | 0=>fun _ _ _=>rfl
 | _+1=>orF_bad m
theorem andF_le {m:Bool}{E:Int}{P:Nat→PSt→ExprT×PSt}(hP:LeP P)(d:Nat)(t:PSt):(andF m E P d t).2.toks.length≤t.toks.length:=listF_le (fun t=>oneF_le hP d m t) t
end
/- qlex on byte lists: how long tokens are; plain. -/
section
theorem ite_P {α:Type}{c:Prop} [Decidable c] {a b:α} (Q:α→Prop) (ha:c→Q a) (hb:¬c→Q b):Q (if c then a else b):=by
 by_cases h:c
 ·rw [if_pos h];exact ha h
 ·rw [if_neg h];exact hb h
def sOK (n:Nat)(x:Int×Int):Prop:=0≤x.2∧x.2.toNat≤n∧0≤x.1
theorem sOK_no (n:Nat):sOK n (0,0):=⟨by simp,by simp,by simp⟩
theorem sOK_mk {n:Nat}{a b:Int}(h1:0≤a)(h2:0≤b)(h3:b.toNat≤n):sOK n (a,b):=⟨h2,h3,h1⟩
theorem scalV_ok (l:List UInt8):sOK l.length (scalV l):=by
 cases l with
 | nil=>exact sOK_no 0
 | cons b0 r =>
  unfold scalV
  refine ite_P (sOK _) (fun h=>sOK_mk (by omega) (by omega) (by simp)) (fun h=>?_)
  refine ite_P (sOK _) (fun h=>?_) (fun h=>?_)
  ·cases r with
   | nil=>exact sOK_no _
   | cons b1 r=>exact ite_P (sOK _) (fun h=>sOK_mk (by omega) (by omega) (by simp)) (fun h=>sOK_no _)
  ·refine ite_P (sOK _) (fun h=>?_) (fun h=>?_)
   ·cases r with
    | nil=>exact sOK_no _
    | cons b1 r =>
     cases r with
     | nil=>exact sOK_no _
     | cons b2 r=>exact ite_P (sOK _) (fun h=>sOK_mk (by have:=h.1;split at this <;> omega) (by omega) (by simp)) (fun h=>sOK_no _)
   ·refine ite_P (sOK _) (fun h=>?_) (fun h=>sOK_no _)
    cases r with
    | nil=>exact sOK_no _
    | cons b1 r =>
     cases r with
     | nil=>exact sOK_no _
     | cons b2 r =>
      cases r with
      | nil=>exact sOK_no _
      | cons b3 r=>exact ite_P (sOK _) (fun h=>sOK_mk (by have:=h.1;split at this <;> omega) (by omega) (by simp)) (fun h=>sOK_no _)
theorem scalV_len (l:List UInt8):0≤(scalV l).2∧(scalV l).2.toNat≤l.length∧0≤(scalV l).1:=scalV_ok l
theorem letL_le (l:List UInt8):letL l≤l.length:=by
 unfold letL;split
 ·exact(scalV_len l).2.1
 ·omega
theorem letR_le (l:List UInt8):letR l≤l.length:=by
 unfold letR;split
 ·cases l with
  | nil=>simp
  | cons c r=>simp only;split <;> simp
 ·exact letL_le l
theorem namF_le :∀(f:Nat) (l:List UInt8),namF f l≤l.length
 | 0,_=>by simp [namF]
 | f+1,l=>by
  unfold namF;split
  ·omega
  ·have h1:=letR_le l
   have h2:=namF_le f (l.drop (letR l))
   rw [List.length_drop] at h2;omega
theorem nameL_le (l:List UInt8):nameL l≤l.length:=by
 unfold nameL;split
 ·omega
 ·have h1:=letL_le l
  have h2:=namF_le l.length (l.drop (letL l))
  rw [List.length_drop] at h2;omega
theorem charT_len (mark:UInt8)(l:List UInt8)(x:Int)(n:Nat)(h:charT mark l=some (x,n)):0<n∧n≤l.length:=by
 unfold charT at h
 match l with
 | []=>simp at h
 | c::r =>
  simp only at h
  split at h
  ·cases h
  ·split at h
   ·have hs:=scalV_len (c::r)
    split at h
    ·cases h
    ·simp only [Option.some.injEq,Prod.mk.injEq] at h
     omega
   ·match r with
    | []=>simp at h
    | d::r2 =>
     simp only at h
     split at h
     ·match hr:r2 with
      | a1::a2::a3::a4::r3 =>
       revert h
       cases hu:unitV (a1::a2::a3::a4::r3) with
       | none=>intro h;cases h
       | some a =>
        simp only
        intro h
        split at h
        ·simp only [Option.some.injEq,Prod.mk.injEq] at h;simp;omega
        ·split at h
         ·cases h
         ·split at h
          ·match hr3:r3 with
           | e1::e2::e3::e4::e5::e6::r4 =>
            revert h
            cases unitV ((a1::a2::a3::a4::e1::e2::e3::e4::e5::e6::r4).drop 6) with
            | none=>intro h;cases h
            | some b =>
             simp only
             intro h
             split at h
             ·simp only [Option.some.injEq,Prod.mk.injEq] at h;simp;omega
             ·cases h
           | []|[_]|[_,_]|[_,_,_]|[_,_,_,_]|[_,_,_,_,_]=>simp [unitV] at h
          ·cases h
      | []|[_]|[_,_]|[_,_,_]=>simp [unitV] at h
     ·cases he:escV mark d with
      | none=>rw [he] at h;cases h
      | some e=>rw [he] at h;simp only [Option.map_some,Option.some.injEq,Prod.mk.injEq] at h;simp;omega
theorem txtF_len :∀(f:Nat) (mark:UInt8) (l:List UInt8) (t:List UInt8) (n:Nat),txtF f mark l=some (t,n)→0<n∧n≤l.length
 | 0,_,_,_,_,h=>by simp [txtF] at h
 | f+1,mark,l,t,n,h=>by
  unfold txtF at h
  match l with
  | []=>simp at h
  | c::r =>
   simp only at h
   split at h
   ·simp only [Option.some.injEq,Prod.mk.injEq] at h;simp;omega
   ·cases hc:charT mark (c::r) with
    | none=>rw [hc] at h;cases h
    | some xn =>
     obtain⟨x,m⟩:=xn
     rw [hc] at h
     simp only at h
     have h1:=charT_len mark (c::r) x m hc
     cases ht:txtF f mark ((c::r).drop m) with
     | none=>rw [ht] at h;cases h
     | some tk =>
      obtain⟨t',k⟩:=tk
      rw [ht] at h
      simp only [Option.map_some,Option.some.injEq,Prod.mk.injEq] at h
      have h2:=txtF_len f mark _ t' k ht
      rw [List.length_drop] at h2
      omega
theorem num_aux (P Q:Prop) [Decidable P] [Decidable Q] (a:Int) (m n:Nat) (v:Int) (h:(if P then (.error 3:Except Int (Int×Nat)) else if Q then .error 6 else .ok (a,m))=.ok (v,n)):¬P∧¬Q∧a=v∧m=n:=by
 by_cases hp:P
 ·rw [if_pos hp] at h;cases h
 ·rw [if_neg hp] at h
  by_cases hq:Q
  ·rw [if_pos hq] at h;cases h
  ·rw [if_neg hq] at h
   simp only [Except.ok.injEq,Prod.mk.injEq] at h
   exact⟨hp,hq,h.1,h.2⟩
theorem numT_len (l:List UInt8)(v:Int)(n:Nat)(h:numT l=.ok (v,n)):0<n∧n≤l.length:=by
 unfold numT at h
 obtain⟨h1,_,_,h3⟩:=num_aux _ _ _ _ _ _ h
 have h2:digN (l.drop (if hd l 45 then 1 else 0))≠0:=fun e=>h1 (.inl e)
 have hd':=digN_le (l.drop (if hd l 45 then 1 else 0))
 rw [List.length_drop] at hd'
 omega
theorem signs_pos :∀x∈signsL,0<x.length:=by decide
def tokOK (l:List UInt8)(k:Int)(t:List UInt8)(n:Nat):Prop:=0<n∧n≤l.length∧((k=1∨k=2)→t=l.take n∧t.length=n)
theorem tokT_ok (l:List UInt8)(k:Int)(t:List UInt8)(v:Int)(n:Nat)(h:tokT l=.ok (k,t,v,n)):tokOK l k t n:=by
 unfold tokT at h
 cases l with
 | nil=>cases h
 | cons c r =>
  simp only at h
  split at h
  ·cases ht:txtF (r.length+1) c r with
   | none=>rw [ht] at h;cases h
   | some tn =>
    obtain⟨t',m⟩:=tn
    rw [ht] at h
    simp only [Except.ok.injEq,Prod.mk.injEq] at h
    have h1:=txtF_len _ _ _ _ _ ht
    obtain⟨rfl,rfl,rfl,rfl⟩:=h
    exact⟨by omega,by simp;omega,by omega⟩
  ·split at h
   ·cases hn:numT (c::r) with
    | error e=>rw [hn] at h;cases h
    | ok vn =>
     obtain⟨v',m⟩:=vn
     rw [hn] at h
     simp only [Except.ok.injEq,Prod.mk.injEq] at h
     have h1:=numT_len _ _ _ hn
     obtain⟨rfl,rfl,rfl,rfl⟩:=h
     exact⟨h1.1,h1.2,by omega⟩
   ·split at h
    ·simp only [Except.ok.injEq,Prod.mk.injEq] at h
     obtain⟨rfl,rfl,rfl,rfl⟩:=h
     rename_i hp
     have hl:=nameL_le (c::r)
     exact⟨hp,hl,fun _=>⟨rfl,by rw [List.length_take];omega⟩⟩
    ·cases hs:signsL.find? (fun x=>(c::r).take x.length==x) with
     | none=>rw [hs] at h;cases h
     | some x =>
      rw [hs] at h
      simp only [Except.ok.injEq,Prod.mk.injEq] at h
      obtain⟨rfl,rfl,rfl,rfl⟩:=h
      have hx:=List.find?_some hs
      have hm:=signs_pos x (List.mem_of_find?_eq_some hs)
      have he:(c::r).take x.length=x:=by simpa using hx
      have hle:x.length≤(c::r).length:=by
       have:=congrArg List.length he
       rw [List.length_take] at this;omega
      exact⟨hm,hle,fun _=>⟨he.symm,rfl⟩⟩
end
/- Bytes, characters, numbers, names, tokens: plain (no word of a dump). -/
section
open Go.RowKit
theorem all_u8 {P:UInt8→Prop}(h:∀n:Fin 256,P (UInt8.ofNat n.val))(c:UInt8):P c:=by
 have:=h ⟨c.toNat,c.toNat_lt⟩
 simpa using this
def hexF :Nat→List UInt8→Int→Option Int
 | 0,_,n=>some n
 | _+1,[],_=>none
 | f+1,c::r,n=>match hexV c with|some d=>hexF f r (n*16+d)|none=>none
theorem unit_hexF (l:List UInt8)(h:4≤l.length):unitV l=hexF 4 l 0:=by
 match l,h with
 | a::b::c::d::r,_ =>
  simp only [unitV,hexF]
  cases hexV a <;> simp only [Option.bind_none,Option.bind_some]
  cases hexV b <;> simp only [Option.bind_none,Option.bind_some]
  cases hexV c <;> simp only [Option.bind_none,Option.bind_some]
  cases hexV d <;> simp
theorem unit_short (l:List UInt8)(h:l.length<4):unitV l=none:=by
 match l,h with
 | [],_=>rfl
 | [_],_=>rfl
 | [_,_],_=>rfl
 | [_,_,_],_=>rfl
 | _::_::_::_::_,h=>simp at h;omega
def uval (o:Option Int):Int:=o.getD (-1)
def unitsV (r2:List UInt8):Option (Int×Nat) :=
 match unitV r2 with
 | none=>none
 | some a =>
  if a<55296∨57343<a then some (a,6)
  else if 56320≤a then none
  else if hd (r2.drop 4) 92 && hd (r2.drop 5) 117 then
   (match unitV (r2.drop 6) with
    | none=>none
    | some b=>if 56320≤b∧b≤57343 then some (65536+(a-55296)*1024+(b-56320),12) else none)
  else none
theorem hexV_bd {c:UInt8}{d:Int}(h:hexV c=some d):0≤d∧d<16:=by
 unfold hexV at h
 split at h
 ·cases h;omega
 ·split at h
  ·cases h;omega
  ·split at h
   ·cases h;omega
   ·cases h
theorem hexF_bd (f:Nat)(l:List UInt8)(n a:Int)(h:hexF f l n=some a)(h0:0≤n)(hf:f≤4)(h1:n<16 ^ (4-f)):0≤a∧a<65536:=by
 induction f generalizing l n with
 | zero=>simp [hexF] at h;omega
 | succ f ih =>
  cases l with
  | nil=>simp [hexF] at h
  | cons c r =>
   rw [hexF] at h
   cases hx:hexV c with
   | none=>rw [hx] at h;cases h
   | some d =>
    rw [hx] at h
    have hb:=hexV_bd hx
    refine ih r (n*16+d) h (by omega) (by omega) ?_
    have:(16:Int) ^ (4-f)=16 ^ (4-(f+1))*16:=by rw [show 4-f=4-(f+1)+1 by omega];exact Int.pow_succ _ _
    omega
theorem unitV_bd {l:List UInt8}{a:Int}(h:unitV l=some a):0≤a∧a<65536:=by
 by_cases hl:4≤l.length
 ·rw [unit_hexF l hl] at h;exact hexF_bd 4 l 0 a h (by omega) (by omega) (by simp)
 ·rw [unit_short l (by omega)] at h;cases h
theorem unitV_len {l:List UInt8}{a:Int}(h:unitV l=some a):4≤l.length:=by
 rcases Nat.lt_or_ge l.length 4 with hl|hl
 ·rw [unit_short l hl] at h;cases h
 ·exact hl
theorem charT_ctl {s:ByteArray}{p:Nat}{mark:UInt8}(h:p<s.size)(h1:(s[p].toNat:Int)<32):charT mark (dr s p)=none:=by
 rw [dr,drop_cons s p h];unfold charT;simp only;rw [if_pos (by omega)]
theorem charT_pl {s:ByteArray}{p:Nat}{mark:UInt8}(h:p<s.size)(h1:¬(s[p].toNat:Int)<32)(h2:(s[p].toNat:Int)≠92):charT mark (dr s p)=if (scalV (dr s p)).2=0 then none else some ((scalV (dr s p)).1,(scalV (dr s p)).2.toNat):=by
 have e:dr s p=s[p]::dr s (p+1):=drop_cons s p h
 rw [e];unfold charT;simp only
 rw [if_neg (by omega),if_pos (by intro c;apply h2;rw [c];rfl)]
theorem charT_end {s:ByteArray}{p:Nat}{mark:UInt8}(h:p<s.size)(h2:(s[p].toNat:Int)=92)(h3:s.size≤p+1):charT mark (dr s p)=none:=by
 have hc:s[p]=92:=by rw [←UInt8.toNat_inj];simp;omega
 rw [dr,drop_cons s p h,drop_nil s (p+1) h3];unfold charT;simp only
 rw [if_neg (by omega),if_neg (by rw [hc];simp)]
theorem charT_u {s:ByteArray}{p:Nat}{mark:UInt8}(h:p+1<s.size)(h2:(s[p].toNat:Int)=92)(h3:(s[p+1].toNat:Int)=117):charT mark (dr s p)=unitsV (dr s (p+2)):=by
 have hc:s[p]=92:=by rw [←UInt8.toNat_inj];simp;omega
 have hc2:s[p+1]=117:=by rw [←UInt8.toNat_inj];simp;omega
 rw [dr,drop_cons s p (by omega),drop_cons s (p+1) h];unfold charT;simp only
 rw [if_neg (by omega),if_neg (by rw [hc];simp),if_pos hc2];rfl
theorem charT_e {s:ByteArray}{p:Nat}{mark:UInt8}(h:p+1<s.size)(h2:(s[p].toNat:Int)=92)(h3:(s[p+1].toNat:Int)≠117):charT mark (dr s p)=(escV mark s[p+1]).map (·,2):=by
 have hc:s[p]=92:=by rw [←UInt8.toNat_inj];simp;omega
 rw [dr,drop_cons s p (by omega),drop_cons s (p+1) h];unfold charT;simp only
 rw [if_neg (by omega),if_neg (by rw [hc];simp),if_neg (by intro c;apply h3;rw [c];rfl)]
def putI (c:Int):List Int :=
 if c<0∨1114111<c∨(55296≤c∧c≤57343) then []
 else if c<128 then [c]
 else if c<2048 then [192+c / 64,128+c % 64]
 else if c<65536 then [224+c / 4096,128+c / 64 % 64,128+c % 64]
 else [240+c / 262144,128+c / 4096 % 64,128+c / 64 % 64,128+c % 64]
def okS (c:Int):Prop:=0≤c∧c≤1114111∧(c<55296∨57343<c)
def oS (x:Int×Int):Prop:=okS x.1
theorem okS_no :oS (0,0):=by unfold oS okS;simp
theorem scalV_val (l:List UInt8):okS (scalV l).1:=by
 show oS (scalV l)
 cases l with
 | nil=>exact okS_no
 | cons b0 r =>
  unfold scalV
  refine ite_P oS (fun h=>by unfold oS okS;simp;omega) (fun h=>?_)
  refine ite_P oS (fun h=>?_) (fun h=>?_)
  ·cases r with
   | nil=>exact okS_no
   | cons b1 r=>exact ite_P oS (fun h=>by unfold oS okS;simp;omega) (fun h=>okS_no)
  ·refine ite_P oS (fun h=>?_) (fun h=>?_)
   ·match r with
    | []=>exact okS_no
    | [_]=>exact okS_no
    | b1::b2::r =>
     refine ite_P oS (fun h2=>?_) (fun h=>okS_no)
     have k1:=h2.1
     have k2:=h2.2.1
     split at k1 <;> split at k2 <;> (unfold oS okS;simp only;omega)
   ·refine ite_P oS (fun h=>?_) (fun h=>okS_no)
    match r with
    | []=>exact okS_no
    | [_]=>exact okS_no
    | [_,_]=>exact okS_no
    | b1::b2::b3::r =>
     refine ite_P oS (fun h2=>?_) (fun h=>okS_no)
     have k1:=h2.1
     have k2:=h2.2.1
     split at k1 <;> split at k2 <;> (unfold oS okS;simp only;omega)
theorem escV_val (m c:UInt8)(x:Int)(h:escV m c=some x):okS x:=by
 have hc:=c.toNat_lt
 unfold okS
 unfold escV at h
 (repeat' split at h) <;> simp only [Option.some.injEq,reduceCtorEq] at h <;> omega
theorem charT_val (mark:UInt8)(l:List UInt8)(x:Int)(n:Nat)(h:charT mark l=some (x,n)):okS x:=by
 unfold charT at h
 match l with
 | []=>simp at h
 | c::r =>
  simp only at h
  split at h
  ·cases h
  ·split at h
   ·have hs:=scalV_val (c::r)
    split at h
    ·cases h
    ·simp only [Option.some.injEq,Prod.mk.injEq] at h
     rw [←h.1];exact hs
   ·match r with
    | []=>simp at h
    | d::r2 =>
     simp only at h
     split at h
     ·revert h
      cases hu:unitV r2 with
      | none=>intro h;cases h
      | some a =>
       have hb:=unitV_bd hu
       simp only
       intro h
       split at h
       ·simp only [Option.some.injEq,Prod.mk.injEq] at h;unfold okS;omega
       ·split at h
        ·cases h
        ·split at h
         ·revert h
          cases hv:unitV (r2.drop 6) with
          | none=>intro h;cases h
          | some b =>
           simp only
           intro h
           split at h
           ·simp only [Option.some.injEq,Prod.mk.injEq] at h;unfold okS;omega
           ·cases h
         ·cases h
     ·cases he:escV mark d with
      | none=>rw [he] at h;cases h
      | some e =>
       rw [he] at h;simp only [Option.map_some,Option.some.injEq,Prod.mk.injEq] at h
       rw [←h.1];exact escV_val _ _ _ he
theorem put_val (c:Int)(h:okS c):strOfNums (putI c)=bs (putV c):=by
 unfold okS at h
 apply bs_of
 rw [strOfNums_data]
 unfold putI putV
 rw [if_neg (by omega)]
 (repeat' split) <;> rfl
theorem putV_len (c:Int):(putV c).length≤4:=by unfold putV;(repeat' split) <;> simp
def digB (c:Int):Bool:=decide (48≤c) && decide (c≤57)
theorem digB_eq (c:UInt8):digB (c.toNat:Int)=isDig c:=by
 rw [Bool.eq_iff_iff,dig_int];simp [digB]
theorem dig_step {s:ByteArray}{p:Nat}(h:p<s.size)(hd:digB (s[p].toNat:Int)=true):digN (dr s p)=digN (dr s (p+1))+1:=by
 rw [digB_eq] at hd
 unfold dr;rw [drop_cons s p h,digN,if_pos hd]
theorem dig_stop {s:ByteArray}{p:Nat}(h:∀h:p<s.size,digB (s[p].toNat:Int)=false):digN (dr s p)=0:=by
 by_cases hp:p<s.size
 ·have:=h hp
  rw [digB_eq] at this
  unfold dr;rw [drop_cons s p hp,digN,this];rfl
 ·unfold dr;rw [drop_nil s p (by omega)];rfl
theorem letR_nil :letR []=0:=by decide
theorem namF_stop (f:Nat)(l:List UInt8)(h:letR l=0):namF f l=0:=by
 cases f with
 | zero=>rfl
 | succ f=>rw [namF,if_pos h]
theorem namF_go (f:Nat)(l:List UInt8)(m:Nat)(h:letR l=m)(h0:m≠0):namF (f+1) l=m+namF f (l.drop m):=by rw [namF,if_neg (by omega),h]
theorem numV_snoc (l:List UInt8)(c:UInt8):numV (l++[c])=capI (numV l) c:=by simp [numV,List.foldl_append]
theorem capI_bd (a:Int)(c:UInt8)(h0:0≤a)(h:48≤(c.toNat:Int)):0≤capI a c∧capI a c≤9007199254740992:=by unfold capI;omega
theorem dr_snoc (s:ByteArray)(a p:Nat)(ha:a≤p)(h:p<s.size):(dr s a).take (p+1-a)=(dr s a).take (p-a)++[s[p]]:=by
 have e:p+1-a=(p-a)+1:=by omega
 have hl:p-a<(dr s a).length:=by unfold dr;rw [List.length_drop,len_toList];omega
 rw [e,List.take_succ_eq_append_getElem hl]
 congr 2
 show (s.data.toList.drop a)[p-a]'(by rw [List.length_drop,len_toList];omega)=s[p]
 rw [List.getElem_drop]
 have:a+(p-a)=p:=by omega
 simp only [this];rfl
theorem dig_le (s:ByteArray)(a p:Nat)(h1:a≤p)(h2:p≤a+digN (dr s a)):a+digN (dr s a)=p+digN (dr s p):=by
 induction p with
 | zero =>
  obtain rfl:a=0:=by omega
  rfl
 | succ p ih =>
  by_cases e:a=p+1
  ·rw [e]
  ·have h3:=ih (by omega) (by omega)
   by_cases hp:p<s.size
   ·cases hb:digB (s[p].toNat:Int) with
    | true=>have:=dig_step hp hb;omega
    | false=>have:=dig_stop (s:=s) (p:=p) (fun _=>hb);omega
   ·have:=dig_stop (s:=s) (p:=p) (fun h=>absurd h hp);omega
theorem dig_at (s:ByteArray)(a p:Nat)(h1:a≤p)(h2:p<a+digN (dr s a)):∃h:p<s.size,digB (s[p].toNat:Int)=true:=by
 have h3:=dig_le s a p h1 (by omega)
 by_cases hp:p<s.size
 ·refine⟨hp,?_⟩
  cases hb:digB (s[p].toNat:Int) with
  | true=>rfl
  | false=>have:=dig_stop (s:=s) (p:=p) (fun _=>hb);omega
 ·have:=dig_stop (s:=s) (p:=p) (fun h=>absurd h hp);omega
theorem dig_end (s:ByteArray)(a p:Nat)(h1:p=a+digN (dr s a))(hp:p<s.size):digB (s[p].toNat:Int)=false:=by
 have h3:=dig_le s a p (by omega) (by omega)
 cases hb:digB (s[p].toNat:Int) with
 | true=>have:=dig_step hp hb;omega
 | false=>rfl
theorem digB_bd {c:Int}(h:digB c=true):48≤c∧c≤57:=by unfold digB at h;simpa using h
theorem numT_eq (l:List UInt8)(a D:Nat)(b:Bool)(hb:hd l 45=b)(ha:a=if b then 1 else 0)(hD:digN (l.drop a)=D) :
  numT l=if D=0∨(hd (l.drop a) 48=true∧(b=true∨1<D)) then .error 3 else if numV ((l.drop a).take D)=9007199254740992 then .error 6 else .ok (if b then-numV ((l.drop a).take D) else numV ((l.drop a).take D),a+D):=by
 subst ha
 unfold numT
 rw [hb,hD]
 cases b <;> simp only [Bool.false_eq_true,if_true,if_false,List.drop_zero] at * <;> rw [hD]
theorem numT_t (s:ByteArray)(h:hd s.data.toList 45=true) :
  numT s.data.toList=if digN (dr s 1)=0∨hd (dr s 1) 48=true then .error 3 else if numV ((dr s 1).take (digN (dr s 1)))=9007199254740992 then .error 6 else .ok (- numV ((dr s 1).take (digN (dr s 1))),1+digN (dr s 1)):=by
 rw [numT_eq s.data.toList 1 (digN (dr s 1)) true h rfl rfl];simp only [true_or,and_true,if_true];rfl
theorem numT_f (s:ByteArray)(h:hd s.data.toList 45=false) :
  numT s.data.toList=if digN (dr s 0)=0∨(hd (dr s 0) 48=true∧1<digN (dr s 0)) then .error 3 else if numV ((dr s 0).take (digN (dr s 0)))=9007199254740992 then .error 6 else .ok (numV ((dr s 0).take (digN (dr s 0))),0+digN (dr s 0)):=by
 rw [numT_eq s.data.toList 0 (digN (dr s 0)) false h rfl rfl];simp only [Bool.false_eq_true,false_or,if_false];rfl
def preB (l p:List UInt8):Bool:=l.take p.length==p
theorem preB_eq (l p:List UInt8):p.isPrefixOf l=preB l p:=by
 rw [Bool.eq_iff_iff,List.isPrefixOf_iff_prefix,List.prefix_iff_eq_take,preB,beq_iff_eq,eq_comm]
theorem preB_two (l:List UInt8)(c d:UInt8):preB l [c,d]=(hd l c && hd (l.drop 1) d):=by
 unfold preB hd
 match l with
 | []=>rfl
 | [x]=>cases x==c <;> simp
 | x::y::r=>simp
theorem preB_one (l:List UInt8)(c:UInt8):preB l [c]=hd l c:=by
 unfold preB hd;cases l with
 | nil=>rfl
 | cons x r=>simp
theorem sg_len :signsL.length=21:=rfl
theorem find_from (l:List UInt8)(i:Nat)(h:i<21)(hp:preB l (signsL[i]'(by rw [sg_len];exact h))=true)(hn:∀j (hj:j<21),j<i→preB l (signsL[j]'(by rw [sg_len];exact hj))=false) :
  signsL.find? (fun x=>l.take x.length==x)=some (signsL[i]'(by rw [sg_len];exact h)):=by
 rw [List.find?_eq_some_iff_getElem]
 exact⟨hp,i,by rw [sg_len];exact h,rfl,fun j hj=>by have:=hn j (by omega) hj;unfold preB at this;simp only [Bool.not_eq_true'];exact this⟩
theorem find_no (l:List UInt8)(hn:∀j (hj:j<21),preB l (signsL[j]'(by rw [sg_len];exact hj))=false) :
  signsL.find? (fun x=>l.take x.length==x)=none:=by
 rw [List.find?_eq_none]
 intro x hx
 obtain⟨j,hj,rfl⟩:=List.getElem_of_mem hx
 have:=hn j (by rw [sg_len] at hj;exact hj)
 unfold preB at this;simp [this]
theorem list_0 (s:ByteArray)(h:0<s.size):s.data.toList=s[0]::dr s 1:=by
 have:=drop_cons s 0 h
 rw [List.drop_zero] at this;exact this
theorem tokT_str (s:ByteArray)(h:0<s.size)(hc:s[0]=34∨s[0]=39):tokT s.data.toList=match txtF s.size s[0] (dr s 1) with|some (t,n)=>.ok (4,t,0,n+1)|none=>.error 3:=by
 rw [list_0 s h];unfold tokT;simp only;rw [if_pos hc,show (dr s 1).length+1=s.size by unfold dr;rw [List.length_drop,len_toList];omega];try rfl
theorem tokT_num (s:ByteArray)(h:0<s.size)(hc:¬(s[0]=34∨s[0]=39))(hd:isDig s[0]=true∨s[0]=45):tokT s.data.toList=match numT s.data.toList with|.ok (v,n)=>.ok (3,[],v,n)|.error e=>.error e:=by
 rw [list_0 s h];unfold tokT;simp only;rw [if_neg hc,if_pos hd];try rfl
theorem tokT_nam (s:ByteArray)(h:0<s.size)(hc:¬(s[0]=34∨s[0]=39))(hd:¬(isDig s[0]=true∨s[0]=45))(hn:0<nameL s.data.toList):tokT s.data.toList=.ok (2,s.data.toList.take (nameL s.data.toList),0,nameL s.data.toList):=by
 rw [list_0 s h] at hn ⊢;unfold tokT;simp only;rw [if_neg hc,if_neg hd,if_pos hn]
theorem tokT_sgn (s:ByteArray)(h:0<s.size)(hc:¬(s[0]=34∨s[0]=39))(hd:¬(isDig s[0]=true∨s[0]=45))(hn:nameL s.data.toList=0):tokT s.data.toList=match signsL.find? (fun x=>s.data.toList.take x.length==x) with|some x=>.ok (1,x,0,x.length)|none=>.error 3:=by
 rw [list_0 s h] at hn ⊢;unfold tokT;simp only;rw [if_neg hc,if_neg hd,if_neg (by omega)];try rfl
end

end Go.Proofs.YtjbdcjcfijjiiaaGreatDoor
