/- NG03: A1, Qa, Ua, Ub, Qb joined. -/
import Derived.Test.YtjbdcjcfijjiiaaGreatDoorNA0
namespace Go.Proofs.YtjbdcjcfijjiiaaGreatDoor
open Go.RowKit
/- Bytes: heads, digits; plain. -/
section
def hd (l:List UInt8)(c:UInt8):Bool:=match l with|x::_=>x==c|[]=>false
def isDig (c:UInt8):Bool:=decide (48≤c.toNat) && decide (c.toNat≤57)
def digN :List UInt8→Nat
 | []=>0
 | c::r=>if isDig c then digN r+1 else 0
def dr (s:ByteArray)(a:Nat):List UInt8:=s.data.toList.drop a
theorem dr_dr (s:ByteArray)(a k:Nat):(dr s a).drop k=dr s (a+k):=by unfold dr;rw [List.drop_drop]
theorem hd_t {s:ByteArray}{p:Nat}{c:UInt8}(h:p<s.size)(e:(s[p].toNat:Int)=(c.toNat:Int)):hd (dr s p) c=true:=by
 rw [dr,drop_cons s p h,hd,beq_iff_eq,←UInt8.toNat_inj];omega
theorem hd_f {s:ByteArray}{p:Nat}{c:UInt8}(h:∀h:p<s.size,(s[p].toNat:Int)≠(c.toNat:Int)):hd (dr s p) c=false:=by
 by_cases hp:p<s.size
 ·rw [dr,drop_cons s p hp,hd,beq_eq_false_iff_ne];intro e;exact h hp (by rw [e])
 ·rw [dr,drop_nil s p (by omega)];rfl
theorem hd_lt {s:ByteArray}{p:Nat}{c:UInt8}(h:hd (dr s p) c=true):p<s.size:=by
 rcases Nat.lt_or_ge p s.size with h'|h'
 ·exact h'
 ·rw [dr,drop_nil s p h'] at h;cases h
theorem digN_le (l:List UInt8):digN l≤l.length:=by
 induction l with
 | nil=>simp [digN]
 | cons c r ih=>rw [digN];split <;> simp <;> omega
theorem digN_bd (s:ByteArray)(a:Nat)(h:a≤s.size):a+digN (dr s a)≤s.size:=by
 have:=digN_le (dr s a)
 rw [dr,List.length_drop,show s.data.toList.length=s.size by simp] at this
 unfold dr;omega
theorem hd_i {s:ByteArray}{p:Nat}{c:UInt8}(h:p<s.size):hd (dr s p) c=((s[p].toNat:Int)==(c.toNat:Int)):=by
 rw [dr,drop_cons s p h,hd,Bool.eq_iff_iff,beq_iff_eq,beq_iff_eq,←UInt8.toNat_inj];omega
theorem hd_i' {s:ByteArray}{p:Nat}{c:UInt8}{n:Int}(h:p<s.size)(e:(c.toNat:Int)=n):((s[p].toNat:Int)==n)=hd (dr s p) c:=by rw [hd_i h,e]
theorem dig_int (c:UInt8):isDig c=true↔(48≤(c.toNat:Int)∧(c.toNat:Int)≤57):=by
 simp [isDig];omega
theorem te_t {t:ByteArray}(h:t.size=0):t.toList.isEmpty=true:=by
 rw [ByteArray.toList_eq]
 have:t.data.toList.length=0:=by simpa using h
 rw [List.isEmpty_iff];exact List.eq_nil_of_length_eq_zero this
theorem te_f {t:ByteArray}(h:0<t.size):t.toList.isEmpty=false:=by
 rw [ByteArray.toList_eq]
 have:0<t.data.toList.length:=by simpa using h
 cases hl:t.data.toList with
 | nil=>rw [hl] at this;simp at this
 | cons=>rfl
def bs (l:List UInt8):ByteArray:=⟨l.toArray⟩
theorem bs_of {t:ByteArray}{l:List UInt8}(h:t.data.toList=l):t=bs l:=by
 subst h;apply ByteArray.ext;apply Array.toList_inj.1;simp [bs]
theorem bs_list (l:List UInt8):(bs l).data.toList=l:=by simp [bs]
end
/- Queries as trees: plain data, and how they lie in memory (no word of a dump). -/
section
structure SelG (E:Type) where
 kind:Int
 name:List UInt8
 index:Int
 fr:Int
 tt:Int
 step:Int
 hf:Bool
 ht:Bool
 f:Option E
structure SegG (E:Type) where
 deep:Bool
 sels:List (SelG E)
structure PathG (E:Type) where
 abs:Bool
 segs:List (SegG E)
structure SideG (E:Type) where
 lit:Bool
 kind:Int
 n:Int
 s:List UInt8
 p:PathG E
structure ExprT where
 kind:Int
 kids:List ExprT
 q:PathG ExprT
 op:Int
 left:SideG ExprT
 right:SideG ExprT
abbrev SelT :=SelG ExprT
abbrev SegT :=SegG ExprT
abbrev PathT :=PathG ExprT
abbrev SideT :=SideG ExprT
def path0 :PathT:=⟨false,[]⟩
def side0 :SideT:=⟨false,0,0,[],path0⟩
def expr0 :ExprT:=⟨0,[],path0,0,side0,side0⟩
def sel0 :SelT:=⟨0,[],0,0,0,0,false,false,none⟩
def RowG {α:Type}(K:Nat→Prop)(k:Nat)(R:List Value→α→Prop)(w:World)(v:Value)(l:List α):Prop :=
 ∃A cap,v=.slice A l.length cap∧(l.length≤cap∧cap≤9223372036854775807)∧(l=[]∨∃b off,A=some ⟨b,off,none⟩∧K b∧b<w.heap.size∧∀(i:Nat) (x:α),l[i]? = some x→∃cs:List Value,cs.length=k∧(∀(j:Nat) u,cs[j]? = some u→w.cell? ⟨b,off+i*k+j,none⟩=some u)∧R cs x)
def PtrG (K:Nat→Prop)(R:List Value→ExprT→Prop)(w:World)(v:Value):Option ExprT→Prop
 | none=>v=.pointer none
 | some e=>∃b off,∃cs:List Value,v=.pointer (some ⟨b,off,none⟩)∧K b∧b<w.heap.size∧cs.length=17∧(∀(j:Nat) u,cs[j]? = some u→w.cell? ⟨b,off+j,none⟩=some u)∧R cs e
def selL (x:SelT)(pv:Value):List Value:=[.int .i64 x.kind,.string (bs x.name),.int .i64 x.index,.int .i64 x.fr,.int .i64 x.tt,.int .i64 x.step,.bool x.hf,.bool x.ht,pv]
def SelC (K:Nat→Prop)(R:List Value→ExprT→Prop)(w:World)(cs:List Value)(x:SelT):Prop:=∃pv,cs=selL x pv∧PtrG K R w pv x.f
def SegC (K:Nat→Prop)(R:List Value→ExprT→Prop)(w:World)(cs:List Value)(x:SegT):Prop:=∃sv,cs=[.bool x.deep,sv]∧RowG K 9 (SelC K R w) w sv x.sels
def SegsG (K:Nat→Prop)(R:List Value→ExprT→Prop)(w:World)(v:Value)(l:List SegT):Prop:=RowG K 2 (SegC K R w) w v l
def exL (x:ExprT)(kv qv lv rv:Value):List Value:=[.int .i64 x.kind,kv,.bool x.q.abs,qv,.int .i64 x.op,.bool x.left.lit,.int .i64 x.left.kind,.int .i64 x.left.n,.string (bs x.left.s),.bool x.left.p.abs,lv,.bool x.right.lit,.int .i64 x.right.kind,.int .i64 x.right.n,.string (bs x.right.s),.bool x.right.p.abs,rv]
def ExprC (K:Nat→Prop)(R:List Value→ExprT→Prop)(w:World)(cs:List Value)(x:ExprT):Prop :=
 ∃kv qv lv rv,cs=exL x kv qv lv rv∧RowG K 17 R w kv x.kids∧SegsG K R w qv x.q.segs∧SegsG K R w lv x.left.p.segs∧SegsG K R w rv x.right.p.segs
def ExR (K:Nat→Prop):Nat→World→List Value→ExprT→Prop
 | 0,_,_,_=>False
 | n+1,w,cs,x=>ExprC K (ExR K n w) w cs x
structure Kp (K K':Nat→Prop)(w w':World):Prop where
 size:w.heap.size≤w'.heap.size
 block:∀b,K b→b<w.heap.size→K' b∧w'.heap[b]? = w.heap[b]?
theorem Kp.cell {K K':Nat→Prop}{w w':World}(h:Kp K K' w w'){b o:Nat}(hK:K b)(hb:b<w.heap.size):w'.cell? ⟨b,o,none⟩=w.cell? ⟨b,o,none⟩:=World.cell?_of_block (h.block b hK hb).2
theorem RowG.keep {α:Type}{K K':Nat→Prop}{k:Nat}{R R':List Value→α→Prop}{w w':World}{v:Value}{l:List α}(h:RowG K k R w v l)(hk:Kp K K' w w')(hR:∀cs x,R cs x→R' cs x):RowG K' k R' w' v l:=by
 obtain⟨A,cap,h1,h2,h3⟩:=h
 refine⟨A,cap,h1,h2,h3.imp id ?_⟩
 rintro ⟨b,off,e,hK,hb,hc⟩
 refine⟨b,off,e,(hk.block b hK hb).1,Nat.lt_of_lt_of_le hb hk.size,fun i x hx=>?_⟩
 obtain⟨cs,hl,hcs,hr⟩:=hc i x hx
 exact⟨cs,hl,fun j u hu=>(hk.cell hK hb).trans (hcs j u hu),hR cs x hr⟩
theorem PtrG.keep {K K':Nat→Prop}{R R':List Value→ExprT→Prop}{w w':World}{v:Value}{f:Option ExprT}(h:PtrG K R w v f)(hk:Kp K K' w w')(hR:∀cs x,R cs x→R' cs x):PtrG K' R' w' v f:=by
 cases f with
 | none=>exact h
 | some e =>
  obtain⟨b,off,cs,h1,hK,hb,hl,hcs,hr⟩:=h
  exact⟨b,off,cs,h1,(hk.block b hK hb).1,Nat.lt_of_lt_of_le hb hk.size,hl,fun j u hu=>(hk.cell hK hb).trans (hcs j u hu),hR cs e hr⟩
theorem SelC.keep {K K':Nat→Prop}{R R':List Value→ExprT→Prop}{w w':World}{cs:List Value}{x:SelT}(h:SelC K R w cs x)(hk:Kp K K' w w')(hR:∀cs x,R cs x→R' cs x):SelC K' R' w' cs x:=by
 obtain⟨pv,h1,h2⟩:=h
 exact⟨pv,h1,h2.keep hk hR⟩
theorem SegC.keep {K K':Nat→Prop}{R R':List Value→ExprT→Prop}{w w':World}{cs:List Value}{x:SegT}(h:SegC K R w cs x)(hk:Kp K K' w w')(hR:∀cs x,R cs x→R' cs x):SegC K' R' w' cs x:=by
 obtain⟨sv,h1,h2⟩:=h
 exact⟨sv,h1,h2.keep hk fun _ _ h=>h.keep hk hR⟩
theorem SegsG.keep {K K':Nat→Prop}{R R':List Value→ExprT→Prop}{w w':World}{v:Value}{l:List SegT}(h:SegsG K R w v l)(hk:Kp K K' w w')(hR:∀cs x,R cs x→R' cs x):SegsG K' R' w' v l :=
 RowG.keep h hk fun _ _ h=>h.keep hk hR
theorem ExprC.keep {K K':Nat→Prop}{R R':List Value→ExprT→Prop}{w w':World}{cs:List Value}{x:ExprT}(h:ExprC K R w cs x)(hk:Kp K K' w w')(hR:∀cs x,R cs x→R' cs x):ExprC K' R' w' cs x:=by
 obtain⟨kv,qv,lv,rv,h1,h2,h3,h4,h5⟩:=h
 exact⟨kv,qv,lv,rv,h1,h2.keep hk hR,h3.keep hk hR,h4.keep hk hR,h5.keep hk hR⟩
theorem ExR.keep {K K':Nat→Prop}{w w':World}(hk:Kp K K' w w'):∀(n m:Nat),n≤m→∀(cs:List Value) (x:ExprT),ExR K n w cs x→ExR K' m w' cs x
 | 0,_,_,_,_,h=>h.elim
 | n+1,0,hn,_,_,_=>absurd hn (by omega)
 | n+1,m+1,hn,cs,x,h=>ExprC.keep h hk fun cs x h=>ExR.keep hk n m (by omega) cs x h
theorem Kp.refl (K:Nat→Prop)(w:World):Kp K K w w:=⟨Nat.le_refl _,fun _ h _=>⟨h,rfl⟩⟩
theorem Kp.trans {K K' K'':Nat→Prop}{a b c:World}(h:Kp K K' a b)(k:Kp K' K'' b c):Kp K K'' a c :=
 ⟨Nat.le_trans h.size k.size,fun i hi hl=>⟨(k.block i (h.block i hi hl).1 (Nat.lt_of_lt_of_le hl h.size)).1,(k.block i (h.block i hi hl).1 (Nat.lt_of_lt_of_le hl h.size)).2.trans (h.block i hi hl).2⟩⟩
theorem Kp.of_bel {K K':Nat→Prop}{w w':World}(h:Bel w.heap.size w w')(hK:∀b,K b→b<w.heap.size→K' b):Kp K K' w w':=⟨h.size,fun b hb hl=>⟨hK b hb hl,h.block b hl⟩⟩
end
/- UTF-8: the machine of states is the ranges of bytes; plain (for the seats of laceworklaw16 on; no word of a dump in it). -/
section
def ufirst (b:Int):Int :=
 if b<128 then 0 else if 194≤b∧b≤223 then 1 else if b=224 then 4 else if b=237 then 5 else if 225≤b∧b≤239 then 2
 else if b=240 then 6 else if 241≤b∧b≤243 then 3 else if b=244 then 7 else 8
def ustep (st b:Int):Int :=
 if st=0 then ufirst b
 else if st=4 then (if 160≤b∧b≤191 then 1 else 8)
 else if st=5 then (if 128≤b∧b≤159 then 1 else 8)
 else if st=6 then (if 144≤b∧b≤191 then 2 else 8)
 else if st=7 then (if 128≤b∧b≤143 then 2 else 8)
 else if 1≤st∧st≤3 then (if 128≤b∧b≤191 then st-1 else 8)
 else 8
def ulead (b:Int):Int:=if 240≤b then 3 else if 224≤b then 2 else 1
def uadd (i:Nat)(c b:Int):Int :=
 if 0<i then c*64+b % 64 else if b<128 then b else if 240≤b then b % 8 else if 224≤b then b % 16 else b % 32
def uscF :List UInt8→Nat→Int→Int→Int×Int
 | [],_,_,_=>(0,0)
 | b::r,i,st,c =>
  if ustep st b.toNat=8 then (0,0)
  else if ustep st b.toNat=0 then (uadd i c b.toNat,(i:Int)+1)
  else uscF r (i+1) (ustep st b.toNat) (uadd i c b.toNat)
def scalV :List UInt8→Int×Int
 | []=>(0,0)
 | b0::r =>
  if (b0.toNat:Int)<128 then ((b0.toNat:Int),1)
  else if 194≤(b0.toNat:Int)∧(b0.toNat:Int)≤223 then
   (match r with
    | b1::_=>if 128≤(b1.toNat:Int)∧(b1.toNat:Int)≤191 then (((b0.toNat:Int)-192)*64+((b1.toNat:Int)-128),2) else (0,0)
    | []=>(0,0))
  else if 224≤(b0.toNat:Int)∧(b0.toNat:Int)≤239 then
   (match r with
    | b1::b2::_=>if (if (b0.toNat:Int)=224 then 160 else 128)≤(b1.toNat:Int)∧(b1.toNat:Int)≤(if (b0.toNat:Int)=237 then 159 else 191)∧128≤(b2.toNat:Int)∧(b2.toNat:Int)≤191 then ((((b0.toNat:Int)-224)*64+((b1.toNat:Int)-128))*64+((b2.toNat:Int)-128),3) else (0,0)
    | _=>(0,0))
  else if 240≤(b0.toNat:Int)∧(b0.toNat:Int)≤244 then
   (match r with
    | b1::b2::b3::_=>if (if (b0.toNat:Int)=240 then 144 else 128)≤(b1.toNat:Int)∧(b1.toNat:Int)≤(if (b0.toNat:Int)=244 then 143 else 191)∧128≤(b2.toNat:Int)∧(b2.toNat:Int)≤191∧128≤(b3.toNat:Int)∧(b3.toNat:Int)≤191 then (((((b0.toNat:Int)-240)*64+((b1.toNat:Int)-128))*64+((b2.toNat:Int)-128))*64+((b3.toNat:Int)-128),4) else (0,0)
    | _=>(0,0))
  else (0,0)
theorem uscF_dead (b:UInt8)(r:List UInt8)(i:Nat)(st c:Int)(h:ustep st b.toNat=8):uscF (b::r) i st c=(0,0):=by rw [uscF,if_pos h]
theorem uscF_end (b:UInt8)(r:List UInt8)(i:Nat)(st c:Int)(h:ustep st b.toNat=0):uscF (b::r) i st c=(uadd i c b.toNat,(i:Int)+1):=by rw [uscF,if_neg (by omega),if_pos h]
theorem uscF_go (b:UInt8)(r:List UInt8)(i:Nat)(st c t:Int)(h:ustep st b.toNat=t)(h0:t≠0)(h8:t≠8):uscF (b::r) i st c=uscF r (i+1) t (uadd i c b.toNat):=by
 rw [uscF,if_neg (by omega),if_neg (by omega),h]
theorem uscF_one (r:List UInt8)(i:Nat)(c:Int)(hi:0<i):uscF r i 1 c=match r with|b::_=>if 128≤(b.toNat:Int)∧(b.toNat:Int)≤191 then (c*64+((b.toNat:Int)-128),(i:Int)+1) else (0,0)|[]=>(0,0):=by
 cases r with
 | nil=>rfl
 | cons b r =>
  by_cases h:128≤(b.toNat:Int)∧(b.toNat:Int)≤191
  ·have hs:ustep 1 b.toNat=0:=by unfold ustep;simp;omega
   rw [uscF_end b r i 1 c hs];simp only;rw [if_pos h,uadd,if_pos hi]
   congr 2;omega
  ·have hs:ustep 1 b.toNat=8:=by unfold ustep;simp;omega
   rw [uscF_dead b r i 1 c hs];simp only;rw [if_neg h]
theorem uscF_st (st t lo hi:Int)(hst:∀b:Int,ustep st b=if lo≤b∧b≤hi then t else 8)(h0:t≠0)(h8:t≠8)(hlo:128≤lo)(hhi:hi≤191)(r:List UInt8)(i:Nat)(c:Int)(hi0:0<i) :
  uscF r i st c=match r with|b::r'=>if lo≤(b.toNat:Int)∧(b.toNat:Int)≤hi then uscF r' (i+1) t (c*64+((b.toNat:Int)-128)) else (0,0)|[]=>(0,0):=by
 cases r with
 | nil=>rfl
 | cons b r =>
  have hb:=hst b.toNat
  by_cases h:lo≤(b.toNat:Int)∧(b.toNat:Int)≤hi
  ·rw [if_pos h] at hb
   rw [uscF_go b r i st c t hb h0 h8];simp only;rw [if_pos h,uadd,if_pos hi0,show (b.toNat:Int) % 64=(b.toNat:Int)-128 by omega]
  ·rw [if_neg h] at hb
   rw [uscF_dead b r i st c hb];simp only;rw [if_neg h]
theorem us2 (b:Int):ustep 2 b=if 128≤b∧b≤191 then 1 else 8:=by unfold ustep;simp
theorem us3 (b:Int):ustep 3 b=if 128≤b∧b≤191 then 2 else 8:=by unfold ustep;simp
theorem us4 (b:Int):ustep 4 b=if 160≤b∧b≤191 then 1 else 8:=by unfold ustep;simp
theorem us5 (b:Int):ustep 5 b=if 128≤b∧b≤159 then 1 else 8:=by unfold ustep;simp
theorem us6 (b:Int):ustep 6 b=if 144≤b∧b≤191 then 2 else 8:=by unfold ustep;simp
theorem us7 (b:Int):ustep 7 b=if 128≤b∧b≤143 then 2 else 8:=by unfold ustep;simp
theorem uscF_two (st lo hi:Int)(hst:∀b:Int,ustep st b=if lo≤b∧b≤hi then 1 else 8)(hlo:128≤lo)(hhi:hi≤191)(r:List UInt8)(i:Nat)(c:Int)(hi0:0<i) :
  uscF r i st c=match r with|b1::b2::_=>if lo≤(b1.toNat:Int)∧(b1.toNat:Int)≤hi∧128≤(b2.toNat:Int)∧(b2.toNat:Int)≤191 then ((c*64+((b1.toNat:Int)-128))*64+((b2.toNat:Int)-128),(i:Int)+2) else (0,0)|_=>(0,0):=by
 rw [uscF_st st 1 lo hi hst (by omega) (by omega) hlo hhi r i c hi0]
 match r with
 | []=>rfl
 | [b1] =>
  simp only
  split
  ·rw [uscF_one _ _ _ (by omega)]
  ·rfl
 | b1::b2::r' =>
  simp only
  by_cases h:lo≤(b1.toNat:Int)∧(b1.toNat:Int)≤hi
  ·rw [if_pos h,uscF_one _ _ _ (by omega)]
   simp only
   by_cases h2:128≤(b2.toNat:Int)∧(b2.toNat:Int)≤191
   ·rw [if_pos h2,if_pos ⟨h.1,h.2,h2.1,h2.2⟩,show ((i+1:Nat):Int)+1=(i:Int)+2 by omega]
   ·rw [if_neg h2,if_neg (fun hc=>h2 hc.2.2)]
  ·rw [if_neg h,if_neg (fun hc=>h ⟨hc.1,hc.2.1⟩)]
theorem uscF_three (st lo hi:Int)(hst:∀b:Int,ustep st b=if lo≤b∧b≤hi then 2 else 8)(hlo:128≤lo)(hhi:hi≤191)(r:List UInt8)(i:Nat)(c:Int)(hi0:0<i) :
  uscF r i st c=match r with|b1::b2::b3::_=>if lo≤(b1.toNat:Int)∧(b1.toNat:Int)≤hi∧128≤(b2.toNat:Int)∧(b2.toNat:Int)≤191∧128≤(b3.toNat:Int)∧(b3.toNat:Int)≤191 then (((c*64+((b1.toNat:Int)-128))*64+((b2.toNat:Int)-128))*64+((b3.toNat:Int)-128),(i:Int)+3) else (0,0)|_=>(0,0):=by
 rw [uscF_st st 2 lo hi hst (by omega) (by omega) hlo hhi r i c hi0]
 match r with
 | []=>rfl
 | b1::r' =>
  by_cases h:lo≤(b1.toNat:Int)∧(b1.toNat:Int)≤hi
  ·simp only
   rw [if_pos h,uscF_two 2 128 191 us2 (by omega) (by omega) _ _ _ (by omega)]
   match r' with
   | []=>rfl
   | [b2]=>rfl
   | b2::b3::r'' =>
    simp only
    by_cases h2:128≤(b2.toNat:Int)∧(b2.toNat:Int)≤191∧128≤(b3.toNat:Int)∧(b3.toNat:Int)≤191
    ·rw [if_pos h2,if_pos ⟨h.1,h.2,h2⟩,show ((i+1:Nat):Int)+2=(i:Int)+3 by omega]
    ·rw [if_neg h2,if_neg (fun hc=>h2 hc.2.2)]
  ·simp only
   rw [if_neg h]
   match r' with
   | []=>rfl
   | [b2]=>rfl
   | b2::b3::r''=>simp only;rw [if_neg (fun hc=>h ⟨hc.1,hc.2.1⟩)]
theorem usc_scal (l:List UInt8):uscF l 0 0 0=scalV l:=by
 match l with
 | []=>rfl
 | b0::r =>
  have hb:=b0.toNat_lt
  unfold scalV
  simp only
  by_cases h1:(b0.toNat:Int)<128
  ·rw [if_pos h1,uscF_end b0 r 0 0 0 (by unfold ustep ufirst;rw [if_pos rfl,if_pos h1]),uadd,if_neg (by omega),if_pos h1];rfl
  ·rw [if_neg h1]
   by_cases h2:194≤(b0.toNat:Int)∧(b0.toNat:Int)≤223
   ·rw [if_pos h2,uscF_go b0 r 0 0 0 1 (by unfold ustep ufirst;rw [if_pos rfl,if_neg h1,if_pos h2]) (by omega) (by omega),uscF_one _ _ _ (by omega)]
    rw [uadd,if_neg (by omega),if_neg h1,if_neg (by omega),if_neg (by omega),show (b0.toNat:Int) % 32=(b0.toNat:Int)-192 by omega]
    cases r <;> rfl
   ·rw [if_neg h2]
    by_cases h3:224≤(b0.toNat:Int)∧(b0.toNat:Int)≤239
    ·rw [if_pos h3]
     have ha:uadd 0 0 b0.toNat=(b0.toNat:Int)-224:=by rw [uadd,if_neg (by omega),if_neg h1,if_neg (by omega),if_pos h3.1];omega
     have hz:(((0+1:Nat):Int)+2)=3:=rfl
     by_cases h4:(b0.toNat:Int)=224
     ·rw [uscF_go b0 r 0 0 0 4 (by unfold ustep ufirst;rw [if_pos rfl,if_neg h1,if_neg h2,if_pos h4]) (by omega) (by omega),uscF_two 4 160 191 us4 (by omega) (by omega) _ _ _ (by omega),ha,hz,if_pos h4,if_neg (by omega)]
     ·by_cases h5:(b0.toNat:Int)=237
      ·rw [uscF_go b0 r 0 0 0 5 (by unfold ustep ufirst;rw [if_pos rfl,if_neg h1,if_neg h2,if_neg h4,if_pos h5]) (by omega) (by omega),uscF_two 5 128 159 us5 (by omega) (by omega) _ _ _ (by omega),ha,hz,if_neg h4,if_pos h5]
      ·rw [uscF_go b0 r 0 0 0 2 (by unfold ustep ufirst;rw [if_pos rfl,if_neg h1,if_neg h2,if_neg h4,if_neg h5,if_pos (by omega)]) (by omega) (by omega),uscF_two 2 128 191 us2 (by omega) (by omega) _ _ _ (by omega),ha,hz,if_neg h4,if_neg h5]
    ·rw [if_neg h3]
     by_cases h6:240≤(b0.toNat:Int)∧(b0.toNat:Int)≤244
     ·rw [if_pos h6]
      have ha:uadd 0 0 b0.toNat=(b0.toNat:Int)-240:=by rw [uadd,if_neg (by omega),if_neg h1,if_pos h6.1];omega
      have hz:(((0+1:Nat):Int)+3)=4:=rfl
      by_cases h4:(b0.toNat:Int)=240
      ·rw [uscF_go b0 r 0 0 0 6 (by unfold ustep ufirst;rw [if_pos rfl,if_neg h1,if_neg h2,if_neg (by omega),if_neg (by omega),if_neg (by omega),if_pos h4]) (by omega) (by omega),uscF_three 6 144 191 us6 (by omega) (by omega) _ _ _ (by omega),ha,hz,if_pos h4,if_neg (by omega)]
      ·by_cases h5:(b0.toNat:Int)=244
       ·rw [uscF_go b0 r 0 0 0 7 (by unfold ustep ufirst;rw [if_pos rfl,if_neg h1,if_neg h2,if_neg (by omega),if_neg (by omega),if_neg (by omega),if_neg h4,if_neg (by omega),if_pos h5]) (by omega) (by omega),uscF_three 7 128 143 us7 (by omega) (by omega) _ _ _ (by omega),ha,hz,if_neg h4,if_pos h5]
       ·rw [uscF_go b0 r 0 0 0 3 (by unfold ustep ufirst;rw [if_pos rfl,if_neg h1,if_neg h2,if_neg (by omega),if_neg (by omega),if_neg (by omega),if_neg h4,if_pos (by omega)]) (by omega) (by omega),uscF_three 3 128 191 us3 (by omega) (by omega) _ _ _ (by omega),ha,hz,if_neg h4,if_neg h5]
     ·rw [if_neg h6,uscF_dead b0 r 0 0 0 (by unfold ustep ufirst;rw [if_pos rfl,if_neg h1,if_neg h2,if_neg (by omega),if_neg (by omega),if_neg (by omega),if_neg (by omega),if_neg (by omega),if_neg (by omega)])]
end
/- qlex on byte lists: tokens; plain. -/
section
structure TokD where
 kind:Int
 s:List UInt8
 n:Int
 at_:Nat
 gap:Bool
def isBk (c:UInt8):Bool:=c==32 || c==9 || c==10 || c==13
def bkN :List UInt8→Nat
 | []=>0
 | c::r=>if isBk c then bkN r+1 else 0
def isLet (c:Int):Bool:=(decide (97≤c) && decide (c≤122)) || (decide (65≤c) && decide (c≤90)) || decide (c=95) || decide (128≤c)
def letL (l:List UInt8):Nat:=if isLet (scalV l).1 && decide (0<(scalV l).2) then (scalV l).2.toNat else 0
def letR (l:List UInt8):Nat:=if letL l=0 then (match l with|c::_=>if isDig c then 1 else 0|[]=>0) else letL l
def namF :Nat→List UInt8→Nat
 | 0,_=>0
 | f+1,l=>if letR l=0 then 0 else letR l+namF f (l.drop (letR l))
def nameL (l:List UInt8):Nat:=if letL l=0 then 0 else letL l+namF l.length (l.drop (letL l))
def capI (a:Int)(c:UInt8):Int:=min (a*10+((c.toNat:Int)-48)) 9007199254740992
def numV (l:List UInt8):Int:=l.foldl capI 0
def numT (l:List UInt8):Except Int (Int×Nat) :=
 if digN (l.drop (if hd l 45 then 1 else 0))=0∨(hd (l.drop (if hd l 45 then 1 else 0)) 48=true∧(hd l 45=true∨1<digN (l.drop (if hd l 45 then 1 else 0)))) then .error 3
 else if numV ((l.drop (if hd l 45 then 1 else 0)).take (digN (l.drop (if hd l 45 then 1 else 0))))=9007199254740992 then .error 6
 else .ok ((if hd l 45 then -numV ((l.drop 1).take (digN (l.drop 1))) else numV (l.take (digN l))),(if hd l 45 then 1 else 0)+digN (l.drop (if hd l 45 then 1 else 0)))
def hexV (c:UInt8):Option Int :=
 if 48≤c.toNat∧c.toNat≤57 then some ((c.toNat:Int)-48) else if 97≤c.toNat∧c.toNat≤102 then some ((c.toNat:Int)-87) else if 65≤c.toNat∧c.toNat≤70 then some ((c.toNat:Int)-55) else none
def unitV :List UInt8→Option Int
 | a::b::c::d::_=>(hexV a).bind fun a=>(hexV b).bind fun b=>(hexV c).bind fun c=>(hexV d).map fun d=>((a*16+b)*16+c)*16+d
 | _=>none
def escV (mark c:UInt8):Option Int :=
 if c=mark then some c.toNat else if c=92 then some 92 else if c=47 then some 47 else if c=98 then some 8 else if c=102 then some 12 else if c=110 then some 10 else if c=114 then some 13 else if c=116 then some 9 else none
def charT (mark:UInt8)(l:List UInt8):Option (Int×Nat) :=
 match l with
 | []=>none
 | c::r =>
  if c.toNat<32 then none
  else if c≠92 then (if (scalV l).2=0 then none else some ((scalV l).1,(scalV l).2.toNat))
  else match r with
   | []=>none
   | d::r2 =>
    if d=117 then
     (match unitV r2 with
      | none=>none
      | some a =>
       if a<55296∨57343<a then some (a,6)
       else if 56320≤a then none
       else if hd (r2.drop 4) 92 && hd (r2.drop 5) 117 then
        (match unitV (r2.drop 6) with
         | none=>none
         | some b=>if 56320≤b∧b≤57343 then some (65536+(a-55296)*1024+(b-56320),12) else none)
       else none)
    else (escV mark d).map (·,2)
def putV (c:Int):List UInt8 :=
 if c<128 then [UInt8.ofNat c.toNat]
 else if c<2048 then [UInt8.ofNat (192+c / 64).toNat,UInt8.ofNat (128+c % 64).toNat]
 else if c<65536 then [UInt8.ofNat (224+c / 4096).toNat,UInt8.ofNat (128+c / 64 % 64).toNat,UInt8.ofNat (128+c % 64).toNat]
 else [UInt8.ofNat (240+c / 262144).toNat,UInt8.ofNat (128+c / 4096 % 64).toNat,UInt8.ofNat (128+c / 64 % 64).toNat,UInt8.ofNat (128+c % 64).toNat]
def txtF :Nat→UInt8→List UInt8→Option (List UInt8×Nat)
 | 0,_,_=>none
 | f+1,mark,l =>
  match l with
  | []=>none
  | c::_ =>
   if c=mark then some ([],1)
   else match charT mark l with
    | none=>none
    | some (x,n)=>(txtF f mark (l.drop n)).map fun (t,k)=>(putV x++t,n+k)
def signsL :List (List UInt8):=[[46,46],[38,38],[124,124],[61,61],[33,61],[60,61],[62,61],[36],[64],[46],[91],[93],[40],[41],[42],[44],[58],[63],[33],[60],[62]]
def tokT (l:List UInt8):Except Int (Int×List UInt8×Int×Nat) :=
 match l with
 | []=>.error 3
 | c::r =>
  if c=34∨c=39 then (match txtF (r.length+1) c r with|some (t,n)=>.ok (4,t,0,n+1)|none=>.error 3)
  else if isDig c=true∨c=45 then (match numT l with|.ok (v,n)=>.ok (3,[],v,n)|.error e=>.error e)
  else if 0<nameL l then .ok (2,l.take (nameL l),0,nameL l)
  else match signsL.find? (fun x=>l.take x.length==x) with
   | some x=>.ok (1,x,0,x.length)
   | none=>.error 3
def lexF :Nat→Nat→List UInt8→Except (Int×Nat) (List TokD)
 | 0,_,_=>.ok []
 | f+1,a,u =>
  if u=[] then .ok []
  else if 0<bkN u∧(a=0∨u.drop (bkN u)=[]) then .error (3,a)
  else match tokT (u.drop (bkN u)) with
   | .error e=>.error (e,a+bkN u)
   | .ok (k,t,v,n) =>
    match lexF f (a+bkN u+n) ((u.drop (bkN u)).drop n) with
    | .error e=>.error e
    | .ok r=>.ok (⟨k,t,v,a+bkN u,decide (0<bkN u)⟩::r)
def lexL (l:List UInt8):Except (Int×Nat) (List TokD) :=
 if 4096<l.length then .error (4,0)
 else match lexF (l.length+1) 0 l with
  | .error e=>.error e
  | .ok []=>.error (3,0)
  | .ok r=>.ok r
end
/- Queries read: the mirror of the reader, in plain words (m: the program's way, or the reference's). -/
section
structure PSt where
 toks:List TokD
 fe:Int
 fa:Int
def tok0 :TokD:=⟨0,[],0,0,false⟩
def ovS (t:PSt):Bool:=(t.fe != 0) || t.toks.isEmpty
def atS (E:Int)(t:PSt):Int:=match t.toks with|[]=>E|x::_=>(x.at_:Nat)
def failS (a e:Int)(t:PSt):PSt:=if t.fe=0 then ⟨t.toks,e,a⟩ else t
def formS (E:Int)(t:PSt):PSt:=failS (atS E t) 3 t
def hdT (t:PSt):TokD:=if t.fe=0 then (match t.toks with|x::_=>x|[]=>tok0) else tok0
def kindS (t:PSt):Int:=(hdT t).kind
def isS (l:List UInt8)(t:PSt):Bool:=decide (kindS t=1) && ((hdT t).s==l)
def nextS (E:Int)(t:PSt):PSt:=if t.fe=0 then (match t.toks with|_::r=>⟨r,t.fe,t.fa⟩|[]=>formS E t) else t
def mustS (E:Int)(l:List UInt8)(t:PSt):PSt:=if isS l t then nextS E t else formS E t
def openS (E:Int)(d:Nat)(t:PSt):PSt:=nextS E (if 32<d+1 then failS (atS E t) 5 t else t)
def closeS (E:Int)(t:PSt):PSt:=if (!ovS t && (hdT t).gap) then formS E t else t
def numS (E:Int)(t:PSt):Int×Bool×PSt:=if kindS t=3 then ((hdT t).n,true,nextS E t) else (0,false,t)
def num2S (E:Int)(n:Int)(ok:Bool)(t:PSt):SelT×PSt :=
 if isS [58] (numS E t).2.2 then
  (⟨3,[],0,n,(numS E t).1,if (numS E (nextS E (numS E t).2.2)).2.1 then (numS E (nextS E (numS E t).2.2)).1 else 1,ok,(numS E t).2.1,none⟩,(numS E (nextS E (numS E t).2.2)).2.2)
 else (⟨3,[],0,n,(numS E t).1,1,ok,(numS E t).2.1,none⟩,(numS E t).2.2)
def numbersS (E:Int)(t:PSt):SelT×PSt :=
 if isS [58] (numS E t).2.2 then num2S E (numS E t).1 (numS E t).2.1 (nextS E (numS E t).2.2)
 else (⟨2,[],(numS E t).1,0,0,0,false,false,none⟩,(numS E t).2.2)
def selF (E:Int)(P:Nat→PSt→ExprT×PSt)(d:Nat)(t:PSt):SelT×PSt :=
 if kindS t=4 then (⟨0,(hdT t).s,0,0,0,0,false,false,none⟩,nextS E t)
 else if isS [42] t then (⟨1,[],0,0,0,0,false,false,none⟩,nextS E t)
 else if isS [63] t then (⟨4,[],0,0,0,0,false,false,some (P (d+1) (openS E d t)).1⟩,(P (d+1) (openS E d t)).2)
 else if (decide (kindS t=3) || isS [58] t) then numbersS E t
 else (sel0,formS E t)
def selsL (E:Int)(P:Nat→PSt→ExprT×PSt)(d:Nat):Nat→PSt→List SelT×PSt
 | 0,t=>([],t)
 | f+1,t=>if isS [44] t then ((selF E P d (nextS E t)).1::(selsL E P d f (selF E P d (nextS E t)).2).1,(selsL E P d f (selF E P d (nextS E t)).2).2) else ([],t)
def selsF (E:Int)(P:Nat→PSt→ExprT×PSt)(d:Nat)(t:PSt):List SelT×PSt :=
 ((selF E P d (mustS E [91] t)).1::(selsL E P d (selF E P d (mustS E [91] t)).2.toks.length (selF E P d (mustS E [91] t)).2).1,
  mustS E [93] (selsL E P d (selF E P d (mustS E [91] t)).2.toks.length (selF E P d (mustS E [91] t)).2).2)
def dotF (E:Int)(P:Nat→PSt→ExprT×PSt)(d:Nat)(dp:Bool)(t:PSt):SegT×PSt :=
 if (dp && isS [91] t) then (⟨dp,(selsF E P d t).1⟩,(selsF E P d t).2)
 else if isS [42] t then (⟨dp,[⟨1,[],0,0,0,0,false,false,none⟩]⟩,nextS E t)
 else if kindS t=2 then (⟨dp,[⟨0,(hdT t).s,0,0,0,0,false,false,none⟩]⟩,nextS E t)
 else (⟨dp,[]⟩,formS E t)
def segF (E:Int)(P:Nat→PSt→ExprT×PSt)(d:Nat)(t:PSt):SegT×PSt :=
 if isS [91] t then (⟨false,(selsF E P d t).1⟩,(selsF E P d t).2)
 else dotF E P d (isS [46,46] t) (closeS E (nextS E t))
def isSeg (t:PSt):Bool:=isS [91] t || isS [46] t || isS [46,46] t
def segsL (E:Int)(P:Nat→PSt→ExprT×PSt)(d:Nat):Nat→PSt→List SegT×PSt
 | 0,t=>([],t)
 | f+1,t=>if isSeg t then ((segF E P d t).1::(segsL E P d f (segF E P d t).2).1,(segsL E P d f (segF E P d t).2).2) else ([],t)
def pathF (E:Int)(P:Nat→PSt→ExprT×PSt)(d:Nat)(t:PSt):PathT×PSt :=
 (⟨isS [36] t,(segsL E P d (nextS E t).toks.length (nextS E t)).1⟩,(segsL E P d (nextS E t).toks.length (nextS E t)).2)
def isPath (t:PSt):Bool:=isS [64] t || isS [36] t
def litS (t:PSt):Option SideT :=
 if kindS t=3 then some ⟨true,2,(hdT t).n,[],path0⟩
 else if kindS t=4 then some ⟨true,3,0,(hdT t).s,path0⟩
 else if kindS t=2 then (if (hdT t).s=[116,114,117,101] then some ⟨true,1,1,[],path0⟩ else if (hdT t).s=[102,97,108,115,101] then some ⟨true,1,0,[],path0⟩ else if (hdT t).s=[110,117,108,108] then some ⟨true,0,0,[],path0⟩ else none)
 else none
def sideF (E:Int)(P:Nat→PSt→ExprT×PSt)(d:Nat)(t:PSt):SideT×PSt :=
 if isPath t then (⟨false,0,0,[],(pathF E P d t).1⟩,(pathF E P d t).2)
 else match litS t with|some x=>(x,nextS E t)|none=>(side0,formS E t)
def singB (p:PathT):Bool:=p.segs.all fun s=>!s.deep && (match s.sels with|[x]=>decide (x.kind=0∨x.kind=2)|_=>false)
def opsL :List (List UInt8):=[[61,61],[33,61],[60],[60,61],[62],[62,61]]
def opS (t:PSt):Int:=if kindS t=1 then (match opsL.findIdx? (fun x=>x==(hdT t).s) with|some i=>(i:Int)|none=>-1) else -1
def mkE (k:Int)(l:List ExprT):ExprT:=⟨k,l,path0,0,side0,side0⟩
def tstE (p:PathT):ExprT:=⟨3,[],p,0,side0,side0⟩
def cmp2 (E:Int)(P:Nat→PSt→ExprT×PSt)(d:Nat)(a:SideT)(t:PSt):ExprT×PSt :=
 if opS t<0 then (tstE a.p,if a.lit then formS E t else t)
 else (⟨4,[],path0,opS t,a,(sideF E P d (nextS E t)).1⟩,
  if (a.lit==(sideF E P d (nextS E t)).1.lit || !singB (if a.lit then (sideF E P d (nextS E t)).1.p else a.p)) then failS (atS E t) 8 (sideF E P d (nextS E t)).2 else (sideF E P d (nextS E t)).2)
def cmpF (E:Int)(P:Nat→PSt→ExprT×PSt)(d:Nat)(t:PSt):ExprT×PSt:=cmp2 E P d (sideF E P d t).1 (sideF E P d t).2
def roundF (E:Int)(P:Nat→PSt→ExprT×PSt)(d:Nat)(t:PSt):ExprT×PSt:=((P (d+1) (openS E d t)).1,mustS E [41] (P (d+1) (openS E d t)).2)
def notF (m:Bool)(E:Int)(P:Nat→PSt→ExprT×PSt)(d:Nat)(t:PSt):ExprT×PSt :=
 if isS [40] t then (mkE 2 [(roundF E P d t).1],(roundF E P d t).2)
 else if isPath t then (mkE 2 [tstE (pathF E P d t).1],(pathF E P d t).2)
 else (if m then mkE 2 [expr0] else expr0,formS E t)
def oneF (m:Bool)(E:Int)(P:Nat→PSt→ExprT×PSt)(d:Nat)(t:PSt):ExprT×PSt :=
 if isS [33] t then notF m E P (d+1) (openS E d t)
 else if isS [40] t then roundF E P d t
 else cmpF E P d t
def listL (E:Int)(sg:List UInt8)(F:PSt→ExprT×PSt):Nat→PSt→List ExprT×PSt
 | 0,t=>([],t)
 | f+1,t=>if isS sg t then ((F (nextS E t)).1::(listL E sg F f (F (nextS E t)).2).1,(listL E sg F f (F (nextS E t)).2).2) else ([],t)
def joinE (k:Int)(x:ExprT)(l:List ExprT):ExprT:=if l=[] then x else mkE k (x::l)
def listF (E:Int)(sg:List UInt8)(k:Int)(F:PSt→ExprT×PSt)(t:PSt):ExprT×PSt :=
 (joinE k (F t).1 (listL E sg F (F t).2.toks.length (F t).2).1,(listL E sg F (F t).2.toks.length (F t).2).2)
def andF (m:Bool)(E:Int)(P:Nat→PSt→ExprT×PSt)(d:Nat)(t:PSt):ExprT×PSt:=listF E [38,38] 1 (oneF m E P d) t
def orF (m:Bool)(E:Int)(P:Nat→PSt→ExprT×PSt)(d:Nat)(t:PSt):ExprT×PSt:=listF E [124,124] 0 (andF m E P d) t
def orS (m:Bool)(E:Int):Nat→Nat→PSt→ExprT×PSt
 | 0,_,t=>(expr0,t)
 | n+1,d,t=>orF m E (orS m E n) d t
def parse1 (m:Bool)(E:Int)(t:PSt):PathT×PSt:=pathF E (orS m E 34) 0 (if isS [36] t then t else formS E t)
def parse2 (m:Bool)(E:Int)(t:PSt):Except (Int×Int) PathT :=
 if (if ovS (parse1 m E t).2 then (parse1 m E t).2 else formS E (parse1 m E t).2).fe=0 then .ok (parse1 m E t).1
 else .error ((if ovS (parse1 m E t).2 then (parse1 m E t).2 else formS E (parse1 m E t).2).fe,(if ovS (parse1 m E t).2 then (parse1 m E t).2 else formS E (parse1 m E t).2).fa)
def stOf (l:List UInt8):PSt:=match lexL l with|.ok r=>⟨r,0,0⟩|.error e=>⟨[],e.1,(e.2:Nat)⟩
def parseT (m:Bool)(l:List UInt8):Except (Int×Int) PathT:=parse2 m (l.length:Nat) (stOf l)
section
variable  {E:Int}{t:PSt}
theorem hdT_bad (h:t.fe≠0):hdT t=tok0:=by unfold hdT;rw [if_neg h]
theorem isS_bad (l:List UInt8)(h:t.fe≠0):isS l t=false:=by unfold isS kindS;rw [hdT_bad h];rfl
theorem isS_ok {l:List UInt8}(h:isS l t=true):t.fe=0∧∃x r,t.toks=x::r∧x.kind=1∧x.s=l:=by
 by_cases hf:t.fe=0
 ·refine⟨hf,?_⟩
  unfold isS kindS hdT at h
  rw [if_pos hf] at h
  cases ht:t.toks with
  | nil=>rw [ht] at h;simp [tok0] at h
  | cons x r=>rw [ht] at h;simp at h;exact⟨x,r,rfl,h.1,h.2⟩
 ·rw [isS_bad l hf] at h;cases h
theorem formS_bad (h:t.fe≠0):formS E t=t:=by unfold formS failS;rw [if_neg h]
theorem nextS_bad (h:t.fe≠0):nextS E t=t:=by unfold nextS;rw [if_neg h]
theorem failS_bad {a e:Int}(h:t.fe≠0):failS a e t=t:=by unfold failS;rw [if_neg h]
theorem failS_len (a e:Int)(t:PSt):(failS a e t).toks=t.toks:=by unfold failS;split <;> rfl
theorem formS_len (E:Int)(t:PSt):(formS E t).toks=t.toks:=failS_len _ _ _
theorem formS_fe (E:Int)(t:PSt):(formS E t).fe≠0:=by
 unfold formS failS
 split
 ·simp
 ·assumption
theorem nextS_le (E:Int)(t:PSt):(nextS E t).toks.length≤t.toks.length:=by
 unfold nextS
 split
 ·cases ht:t.toks with
  | nil=>simp only;rw [formS_len,ht];exact Nat.le_refl _
  | cons x r=>simp
 ·exact Nat.le_refl _
theorem nextS_lt {E:Int}{t:PSt}(h:t.fe=0)(h1:t.toks≠[]):(nextS E t).toks.length<t.toks.length:=by
 unfold nextS
 rw [if_pos h]
 cases ht:t.toks with
 | nil=>exact absurd ht h1
 | cons x r=>simp
theorem is_lt {E:Int}{l:List UInt8}{t:PSt}(h:isS l t=true):(nextS E t).toks.length<t.toks.length:=by
 obtain⟨h1,x,r,h2,-,-⟩:=isS_ok h
 exact nextS_lt h1 (by rw [h2];simp)
theorem mustS_le (E:Int)(l:List UInt8)(t:PSt):(mustS E l t).toks.length≤t.toks.length:=by
 unfold mustS;split
 ·exact nextS_le E t
 ·rw [formS_len];exact Nat.le_refl _
theorem closeS_le (E:Int)(t:PSt):(closeS E t).toks.length≤t.toks.length:=by
 unfold closeS;split
 ·rw [formS_len];exact Nat.le_refl _
 ·exact Nat.le_refl _
theorem openS_le (E:Int)(d:Nat)(t:PSt):(openS E d t).toks.length≤t.toks.length:=by
 unfold openS
 refine Nat.le_trans (nextS_le E _) ?_
 split
 ·rw [failS_len];exact Nat.le_refl _
 ·exact Nat.le_refl _
theorem numS_le (E:Int)(t:PSt):(numS E t).2.2.toks.length≤t.toks.length:=by
 unfold numS;split
 ·exact nextS_le E t
 ·exact Nat.le_refl _
end
def LeP (P:Nat→PSt→ExprT×PSt):Prop:=∀d t,(P d t).2.toks.length≤t.toks.length
section
variable  {E:Int}{P:Nat→PSt→ExprT×PSt}(hP:LeP P)(d:Nat)
theorem num2S_le (n:Int)(ok:Bool)(t:PSt):(num2S E n ok t).2.toks.length≤t.toks.length:=by
 unfold num2S
 have h1:=numS_le E t
 split
 ·have h2:=numS_le E (nextS E (numS E t).2.2)
  have h3:=nextS_le E (numS E t).2.2
  simp only;omega
 ·exact h1
theorem numbersS_le (t:PSt):(numbersS E t).2.toks.length≤t.toks.length:=by
 unfold numbersS
 have h1:=numS_le E t
 split
 ·have h2:=num2S_le (E:=E) (numS E t).1 (numS E t).2.1 (nextS E (numS E t).2.2)
  have h3:=nextS_le E (numS E t).2.2
  omega
 ·exact h1
include hP
theorem selF_le (t:PSt):(selF E P d t).2.toks.length≤t.toks.length:=by
 unfold selF
 have h1:=nextS_le E t
 have h2:=hP (d+1) (openS E d t)
 have h3:=openS_le E d t
 have h4:=numbersS_le (E:=E) t
 (repeat' split) <;> first|exact h1|(simp only;omega)|exact h4|(rw [formS_len];exact Nat.le_refl _)
theorem selsL_le :∀(f:Nat) (t:PSt),(selsL E P d f t).2.toks.length≤t.toks.length
 | 0,_=>Nat.le_refl _
 | f+1,t=>by
  rw [selsL]
  split
  ·have h1:=selsL_le f (selF E P d (nextS E t)).2
   have h2:=selF_le hP d (E:=E) (nextS E t)
   have h3:=nextS_le E t
   simp only;omega
  ·exact Nat.le_refl _
theorem selsF_le (t:PSt):(selsF E P d t).2.toks.length≤t.toks.length:=by
 unfold selsF
 have h1:=mustS_le E [91] t
 have h2:=selF_le hP d (E:=E) (mustS E [91] t)
 have h3:=selsL_le hP d (E:=E) (selF E P d (mustS E [91] t)).2.toks.length (selF E P d (mustS E [91] t)).2
 have h4:=mustS_le E [93] (selsL E P d (selF E P d (mustS E [91] t)).2.toks.length (selF E P d (mustS E [91] t)).2).2
 simp only;omega
theorem dotF_le (dp:Bool)(t:PSt):(dotF E P d dp t).2.toks.length≤t.toks.length:=by
 unfold dotF
 have h1:=nextS_le E t
 have h2:=selsF_le hP d (E:=E) t
 (repeat' split) <;> first|exact h1|exact h2|(simp only;omega)|(rw [formS_len];exact Nat.le_refl _)
theorem segF_lt {t:PSt}(h:isSeg t=true):(segF E P d t).2.toks.length<t.toks.length:=by
 unfold segF
 have h0:∃l,isS l t=true:=by
  unfold isSeg at h
  rw [Bool.or_eq_true,Bool.or_eq_true] at h
  rcases h with(h|h)|h
  ·exact⟨_,h⟩
  ·exact⟨_,h⟩
  ·exact⟨_,h⟩
 obtain⟨l,hl⟩:=h0
 have h1:=is_lt (E:=E) hl
 split
 ·rename_i h91
  unfold selsF
  have h2:(mustS E [91] t).toks.length<t.toks.length:=by unfold mustS;rw [if_pos h91];exact h1
  have h3:=selF_le hP d (E:=E) (mustS E [91] t)
  have h4:=selsL_le hP d (E:=E) (selF E P d (mustS E [91] t)).2.toks.length (selF E P d (mustS E [91] t)).2
  have h5:=mustS_le E [93] (selsL E P d (selF E P d (mustS E [91] t)).2.toks.length (selF E P d (mustS E [91] t)).2).2
  simp only;omega
 ·have h2:=dotF_le hP d (E:=E) (isS [46,46] t) (closeS E (nextS E t))
  have h3:=closeS_le E (nextS E t)
  omega
theorem segsL_le :∀(f:Nat) (t:PSt),(segsL E P d f t).2.toks.length≤t.toks.length
 | 0,_=>Nat.le_refl _
 | f+1,t=>by
  rw [segsL]
  split
  ·rename_i h
   have h1:=segsL_le f (segF E P d t).2
   have h2:=segF_lt hP d (E:=E) h
   simp only;omega
  ·exact Nat.le_refl _
theorem pathF_le (t:PSt):(pathF E P d t).2.toks.length≤t.toks.length:=by
 unfold pathF
 have h1:=segsL_le hP d (E:=E) (nextS E t).toks.length (nextS E t)
 have h2:=nextS_le E t
 simp only;omega
theorem sideF_le (t:PSt):(sideF E P d t).2.toks.length≤t.toks.length:=by
 unfold sideF
 have h1:=pathF_le hP d (E:=E) t
 have h2:=nextS_le E t
 (repeat' split) <;> first|exact h1|exact h2|(simp only;omega)|(rw [formS_len];exact Nat.le_refl _)
theorem cmp2_le (a:SideT)(t:PSt):(cmp2 E P d a t).2.toks.length≤t.toks.length:=by
 unfold cmp2
 have h1:=nextS_le E t
 have h2:=sideF_le hP d (E:=E) (nextS E t)
 split
 ·simp only;split
  ·rw [formS_len];exact Nat.le_refl _
  ·exact Nat.le_refl _
 ·have k:∀b:Bool,(if b=true then failS (atS E t) 8 (sideF E P d (nextS E t)).2 else (sideF E P d (nextS E t)).2).toks.length≤t.toks.length:=by
   intro b
   cases b
   ·simp only [Bool.false_eq_true,if_false];omega
   ·simp only [if_true];rw [failS_len];omega
  exact k _
theorem cmpF_le (t:PSt):(cmpF E P d t).2.toks.length≤t.toks.length:=by
 unfold cmpF
 exact Nat.le_trans (cmp2_le hP d _ _) (sideF_le hP d t)
theorem roundF_le (t:PSt):(roundF E P d t).2.toks.length≤t.toks.length:=by
 unfold roundF
 have h1:=hP (d+1) (openS E d t)
 have h2:=openS_le E d t
 have h3:=mustS_le E [41] (P (d+1) (openS E d t)).2
 simp only;omega
theorem notF_le (m:Bool)(t:PSt):(notF m E P d t).2.toks.length≤t.toks.length:=by
 unfold notF
 have h1:=roundF_le hP d (E:=E) t
 have h2:=pathF_le hP d (E:=E) t
 (repeat' split) <;> first|exact h1|exact h2|(simp only;omega)|(simp only;rw [formS_len];exact Nat.le_refl _)
theorem oneF_le (m:Bool)(t:PSt):(oneF m E P d t).2.toks.length≤t.toks.length:=by
 unfold oneF
 have h1:=notF_le hP (d+1) m (E:=E) (openS E d t)
 have h2:=openS_le E d t
 have h3:=roundF_le hP d (E:=E) t
 have h4:=cmpF_le hP d (E:=E) t
 (repeat' split) <;> first|exact h3|exact h4|omega
end
theorem listL_le {E:Int}{sg:List UInt8}{F:PSt→ExprT×PSt}(hF:∀t,(F t).2.toks.length≤t.toks.length):∀(f:Nat) (t:PSt),(listL E sg F f t).2.toks.length≤t.toks.length
 | 0,_=>Nat.le_refl _
 | f+1,t=>by
  rw [listL]
  split
  ·have h1:=listL_le hF (E:=E) (sg:=sg) f (F (nextS E t)).2
   have h2:=hF (nextS E t)
   have h3:=nextS_le E t
   simp only;omega
  ·exact Nat.le_refl _
theorem listF_le {E:Int}{sg:List UInt8}{k:Int}{F:PSt→ExprT×PSt}(hF:∀t,(F t).2.toks.length≤t.toks.length)(t:PSt):(listF E sg k F t).2.toks.length≤t.toks.length:=by
 unfold listF
 exact Nat.le_trans (listL_le hF _ _) (hF t)
theorem orF_le {m:Bool}{E:Int}{P:Nat→PSt→ExprT×PSt}(hP:LeP P):LeP (orF m E P):=fun d t=>listF_le (fun t=>listF_le (fun t=>oneF_le hP d m t) t) t
theorem orS_le (m:Bool)(E:Int):∀n,LeP (orS m E n)
 | 0=>fun _ _=>Nat.le_refl _
 | n+1=>orF_le (orS_le m E n)
end

end Go.Proofs.YtjbdcjcfijjiiaaGreatDoor
