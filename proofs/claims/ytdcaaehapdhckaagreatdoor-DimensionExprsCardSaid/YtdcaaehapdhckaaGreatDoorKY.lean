/- Schemes of features and zones, and their first error. No program stands here. -/
import Derived.IntWalk
import Derived.Test.YtdcaaehapdhckaaGreatDoorKH
import Derived.Test.YtdcaaehapdhckaaGreatDoorKM
set_option linter.unusedSimpArgs false
set_option linter.unusedVariables false
set_option maxRecDepth 100000
namespace Go.Dtm

structure Feat where
 name:ByteArray
 kind:Int
 axis:Int
 datum:Int
 place:Int
 wide:Int
structure Zn where
 kind:Int
 feature:Int
 lower:Int
 upper:Int
 bonus:Bool
def Feat.none : Feat:=⟨ByteArray.empty,0,0,0,0,0⟩
def Zn.none : Zn:=⟨0,0,0,0,false⟩
def nameByte (b:UInt8):Bool:=decide (33≤b.toNat)&&decide (b.toNat≤126)
def isName (s:ByteArray):Bool:=decide (0<s.size)&&decide (s.size≤40)&&s.data.toList.all nameByte
def dotless (s:ByteArray):Bool:=!s.data.toList.contains 46
def goodName (s:ByteArray):Bool:=isName s&&decide (s.size≤30)&&dotless s
def far (n:Int):Bool:=decide (n < -268435456) || decide (268435456<n)
def featErr (fs:List Feat) (i:Nat):Int:=
 let f:=fs.getD i Feat.none
 if goodName f.name=false then 11
 else if (fs.take i).any (fun g=>g.name.toList==f.name.toList)=true then 9
 else if f.kind≠1∧f.kind≠2 then 12
 else if f.axis<0∨2<f.axis∨f.datum < -1∨(i:Int)≤f.datum then 2
 else if 0≤f.datum∧(fs.getD f.datum.toNat Feat.none).axis≠f.axis then 17
 else if far f.place=true∨far f.wide=true∨(f.kind=2∧f.wide<1) then 2
 else if f.kind=1∧f.wide≠0 then 3 else 0
def zoneErr (fs:List Feat) (zs:List Zn) (i:Nat):Int:=
 let z:=zs.getD i Zn.none
 if z.kind<1∨3<z.kind then 12
 else if z.feature<0∨(fs.length:Int)≤z.feature then 10
 else if (z.kind=2∧(fs.getD z.feature.toNat Feat.none).kind≠2)∨(z.kind=3∧(fs.getD z.feature.toNat Feat.none).kind=2)∨(z.bonus=true∧(z.kind≠1∨(fs.getD z.feature.toNat Feat.none).kind≠2)) then 3
 else if far z.lower=true∨far z.upper=true then 2
 else if z.upper<z.lower then 8
 else if (zs.take i).any (fun y=>decide (y.kind=z.kind)&&decide (y.feature=z.feature))=true then 9 else 0
def firstErr (e:Nat→Int):Nat→Nat→Int
 | 0,_=>0
 | n+1,k=>if e k=0 then firstErr e n (k+1) else e k
def check (fs:List Feat) (zs:List Zn):Int:=
 if 16<fs.length∨32<zs.length then 6
 else if firstErr (featErr fs) fs.length 0=0 then firstErr (zoneErr fs zs) zs.length 0 else firstErr (featErr fs) fs.length 0
theorem firstErr_zero {e:Nat→Int}:∀{n k:Nat},firstErr e n k=0→∀i,k≤i→i<k+n→e i=0
 | 0,k,_,i,h1,h2=>by omega
 | n+1,k,h,i,h1,h2=>by
  unfold firstErr at h
  by_cases h0:e k=0
  ·rw[if_pos h0] at h
   by_cases hi:i=k
   ·rw[hi,h0]
   ·exact firstErr_zero h i (by omega) (by omega)
  ·rw[if_neg h0] at h
   exact absurd h h0
end Go.Dtm
set_option maxRecDepth 100000
namespace Go.Proofs.YtdcaaehapdhckaaGreatDoor
open Go.Dtm
set_option maxHeartbeats 4000000

def pos (p:Nat→Bool):Nat→Nat→Int
 | 0,_=>-1
 | n+1,k=>if p k=true then (k:Int) else pos p n (k+1)
theorem pos_none {p:Nat→Bool}:∀{n k:Nat},(∀j,k≤j→j<k+n→p j=false)→pos p n k = -1
 | 0,_,_=>rfl
 | n+1,k,h=>by
  unfold pos
  rw[if_neg (by rw[h k (Nat.le_refl _) (by omega)]; simp)]
  exact pos_none fun j h1 h2=>h j (by omega) (by omega)
theorem pos_some {p:Nat→Bool}:∀{n k i:Nat},k≤i→i<k+n→(∀j,k≤j→j<i→p j=false)→p i=true→pos p n k=i
 | 0,k,i,h1,h2,_,_=>by omega
 | n+1,k,i,h1,h2,h,hi=>by
  unfold pos
  by_cases e:k=i
  ·subst e
   rw[if_pos hi]
  ·rw[if_neg (by rw[h k (Nat.le_refl _) (by omega)]; simp)]
   exact pos_some (by omega) (by omega) (fun j h3 h4=>h j (by omega) h4) hi
theorem pos_cases (p:Nat→Bool):∀(n k:Nat),(pos p n k = -1∧∀j,k≤j→j<k+n→p j=false)∨(∃i:Nat,pos p n k=i∧k≤i∧i<k+n∧p i=true∧∀j,k≤j→j<i→p j=false)
 | 0,k=>.inl ⟨rfl,fun j h1 h2=>by omega⟩
 | n+1,k=>by
  unfold pos
  cases h:p k with
  | true=>exact .inr ⟨k,by rw[if_pos rfl],Nat.le_refl _,by omega,h,fun j h1 h2=>by omega⟩
  | false=>
   rw[if_neg (by simp)]
   rcases pos_cases p n (k+1) with ⟨h1,h2⟩ | ⟨i,h1,h2,h3,h4,h5⟩
   ·refine .inl ⟨h1,fun j h3 h4=>?_⟩
    by_cases e:j=k
    ·rw[e]; exact h
    ·exact h2 j (by omega) (by omega)
   ·refine .inr ⟨i,h1,by omega,by omega,h4,fun j h6 h7=>?_⟩
    by_cases e:j=k
    ·rw[e]; exact h
    ·exact h5 j (by omega) h7
theorem firstErr_none {e:Nat→Int}:∀{n k:Nat},(∀j,k≤j→j<k+n→e j=0)→firstErr e n k=0
 | 0,_,_=>rfl
 | n+1,k,h=>by
  unfold firstErr
  rw[if_pos (h k (Nat.le_refl _) (by omega))]
  exact firstErr_none fun j h1 h2=>h j (by omega) (by omega)
theorem firstErr_at {e:Nat→Int}:∀{n k i:Nat},k≤i→i<k+n→(∀j,k≤j→j<i→e j=0)→e i≠0→firstErr e n k=e i
 | 0,k,i,h1,h2,_,_=>by omega
 | n+1,k,i,h1,h2,h,hi=>by
  unfold firstErr
  by_cases hk:k=i
  ·subst hk
   rw[if_neg hi]
  ·rw[if_pos (h k (Nat.le_refl _) (by omega))]
   exact firstErr_at (by omega) (by omega) (fun j h3 h4=>h j (by omega) h4) hi
theorem pos_mem {p:Nat→Bool} {n j:Nat} (hj:j<n) (hp:p j=true):0≤pos p n 0:=by
 rcases pos_cases p n 0 with ⟨h,h2⟩ | ⟨i,h,h1,h2,-⟩
 ·have:=h2 j (Nat.zero_le _) (by omega)
  rw[hp] at this
  cases this
 ·omega
end Go.Proofs.YtdcaaehapdhckaaGreatDoor
set_option maxRecDepth 100000
namespace Go.Proofs.YtdcaaehapdhckaaGreatDoor
open Go.RowKit Go.Num Go.Flow Go.Dtm
set_option maxHeartbeats 4000000

theorem beq_dec {x y:Int}:(x==y)=decide (x=y):=by
 rw[Bool.eq_iff_iff,beq_iff_eq,decide_eq_true_iff]
theorem bne_dec {x y:Int}:(x != y)=decide (x≠y):=by
 unfold bne
 rw[beq_dec]
 by_cases h:x=y<;>simp[h]
def badN (r:Nat):Bool:=decide (r<33) || decide (126<r)
theorem name1_any (W:World) (r:Nat):Calls Tryz.prog 139 #[.int .i32 (r:Int)] W fun e w'=>e=.returned (.bool (badN r))∧∃q,w'=W.drewN q:=by
 by_cases h1:r<33
 ·have e1:((r:Int)<33)=True:=eq_true (by omega)
  have hb:badN r=true:=by simp[badN,h1]
  have HB:=ZH hb
  clear hb h1
  go_enter Tryz.func139,Tryz.ntmps139
  go_wp2_with fail
  go_ret
  exact ⟨by rw[HB.out]; rfl,0,rfl⟩
 ·have e1:((r:Int)<33)=False:=eq_false (by omega)
  by_cases h2:126<r
  ·have e2:((126:Int)<(r:Int))=True:=eq_true (by omega)
   have hb:badN r=true:=by simp[badN,h2]
   have HB:=ZH hb
   clear hb h1
   go_enter Tryz.func139,Tryz.ntmps139
   go_wp2_with fail
   go_ret
   exact ⟨by rw[HB.out]; rfl,0,rfl⟩
  ·have e2:((126:Int)<(r:Int))=False:=eq_false (by omega)
   have hb:badN r=false:=by simp[badN]; omega
   have HB:=ZH hb
   clear hb h1 h2
   go_enter Tryz.func139,Tryz.ntmps139
   go_wp2_with fail
   go_ret
   exact ⟨by rw[HB.out]; rfl,0,rfl⟩
theorem enters_name1 (args:Array Value) (w:World):(callFunc 139 args).run Tryz.prog w=.ok (.enter 139 args) w:=by
 exact enters_of Tryz.func139 (by kernel_rfl) rfl args w
theorem badN_byte (b:UInt8):badN b.toNat = !nameByte b:=by
 unfold badN nameByte
 rw[Bool.eq_iff_iff]
 simp
theorem containsN (s:ByteArray) (w:World):Calls Tryz.prog 138 #[.string s,.func (.func 139) #[] #[]] w fun e w'=>e=.returned (.bool (!s.data.toList.all nameByte))∧Below w.heap.size w w':=by
 have h:=Tryz.strings_ContainsFunc 139 #[] enters_name1 badN s w (fun W r _=>name1_any W r)
 rw[idx_any (fun r hr=>by simp[badN]; omega)] at h
 have e:(s.data.toList.any fun b=>badN b.toNat) = !s.data.toList.all nameByte:=by
  simp only[badN_byte]
  rw[List.not_all_eq_any_not]
 rw[e] at h
 exact h
theorem isName_any (s:ByteArray) (w:World):Calls Tryz.prog 107 #[.string s] w fun e w'=>e=.returned (.bool (isName s))∧Below w.heap.size w w':=by
 have HC:=ZH (containsN s w)
 by_cases h1:0<s.size
 ·have e1:((0:Int)<(s.size:Int))=True:=eq_true (by omega)
  by_cases h2:s.size≤40
  ·have e2:((s.size:Int)≤40)=True:=eq_true (by omega)
   have HF:=ZH (show isName s=s.data.toList.all nameByte by unfold isName; rw[ZT h1,ZT h2]; rfl)
   go_enter Tryz.func107,Tryz.ntmps107
   go_wp2_with fail
   refine HC.out.mono ?_
   rintro e w1 ⟨rfl,hb⟩
   go_wp2_with fail
   go_ret
   exact ⟨by rw[HF.out]; simp,hb⟩
  ·have e2:((s.size:Int)≤40)=False:=eq_false (by omega)
   have HF:=ZH (show isName s=false by unfold isName; rw[ZT h1,ZU h2]; rfl)
   go_enter Tryz.func107,Tryz.ntmps107
   go_wp2_with fail
   go_ret
   exact ⟨by rw[HF.out]; rfl,ZR _ _⟩
 ·have e1:((0:Int)<(s.size:Int))=False:=eq_false (by omega)
  have HF:=ZH (show isName s=false by unfold isName; rw[ZU h1]; rfl)
  go_enter Tryz.func107,Tryz.ntmps107
  go_wp2_with fail
  go_ret
  exact ⟨by rw[HF.out]; rfl,ZR _ _⟩
structure Dm where
 name:ByteArray
 nominal:Int
 lower:Int
 upper:Int
def dmCells (l:List Dm):List Value:=l.flatMap fun d=>[.string d.name,.int .i64 d.nominal,.int .i64 d.lower,.int .i64 d.upper]
theorem infoDim : (Tryz.prog.info? 70).map (fun i=>(i.zero,i.size,i.bytes))=some (some (.agg #[.string ⟨#[]⟩,.int .i64 0,.int .i64 0,.int .i64 0]),4,40):=by kernel_rfl
def dmV (a:Dm):Value:=.agg #[.string a.name,.int .i64 a.nominal,.int .i64 a.lower,.int .i64 a.upper]
def Dm.none : Dm:=⟨⟨#[]⟩,0,0,0⟩
def DimsIn (w:World) (ao:Option Addr) (c:Nat) (l:List Dm):Prop:=l.length≤c∧c≤maxLen∧(0<l.length→∃g o,ao=some ⟨g,o,none⟩∧g<w.heap.size∧∀j,j<l.length→w.cell? ⟨g,o+j*4,none⟩=some (.string (l.getD j Dm.none).name)∧w.cell? ⟨g,o+j*4+1,none⟩=some (.int .i64 (l.getD j Dm.none).nominal)∧w.cell? ⟨g,o+j*4+2,none⟩=some (.int .i64 (l.getD j Dm.none).lower)∧w.cell? ⟨g,o+j*4+3,none⟩=some (.int .i64 (l.getD j Dm.none).upper))
theorem DimsIn.below {w w':World} {ao:Option Addr} {c:Nat} {l:List Dm} (h:DimsIn w ao c l) (hb:Below w.heap.size w w'):DimsIn w' ao c l:=by
 refine ⟨h.1,h.2.1,fun h0=>?_⟩
 obtain ⟨g,o,e,hl,hc⟩:=h.2.2 h0
 exact ⟨g,o,e,Nat.lt_of_lt_of_le hl hb.size,fun j hj=>⟨ZJ hb (hc j hj).1,ZJ hb (hc j hj).2.1,ZJ hb (hc j hj).2.2.1,ZJ hb (hc j hj).2.2.2⟩⟩
theorem dims_read {w:World} {B:Nat} {v:Value} {l:List Dm} (h:w.ownsRow B 70 4 v l.length (dmCells l)):∃ao c,v=.slice ao l.length c∧DimsIn w ao c l:=by
 obtain ⟨ao,c,e,h1,h2,h3⟩:=row_cells h
 refine ⟨ao,c,e,h1,h2,fun h0=>?_⟩
 obtain ⟨g,rfl,hg,hc⟩:=h3 h0
 refine ⟨g,0,rfl,hg,fun j hj=>?_⟩
 have k:=fun r (hr:r<4)=>flat_at (fun d:Dm=>[.string d.name,.int .i64 d.nominal,.int .i64 d.lower,.int .i64 d.upper]) 4 (fun _=>rfl) l j hj r hr
 have e1:l.getD j Dm.none=l[j]:=by rw[List.getD_eq_getElem?_getD,List.getElem?_eq_getElem hj]; rfl
 rw[e1,Nat.zero_add]
 exact ⟨hc _ _ (k 0 (by omega)),hc _ _ (k 1 (by omega)),hc _ _ (k 2 (by omega)),hc _ _ (k 3 (by omega))⟩
theorem mRange_any {W:World} (d:Dm) (h1:-1000000000≤d.nominal∧d.nominal≤1000000000) (h2:-1000000000≤d.lower∧d.lower≤1000000000) (h3:-1000000000≤d.upper∧d.upper≤1000000000) :
  Calls Tryz.prog 73 #[dmV d] W fun e w'=>e=.returned (.tuple #[.int .i64 (d.nominal+d.lower),.int .i64 (d.nominal+d.upper)])∧Below W.heap.size W w':=by
 unfold dmV
 obtain ⟨wa,hwa⟩:∃x,x=W.alloc (.cells #[.string d.name,.int .i64 d.nominal,.int .i64 d.lower,.int .i64 d.upper] 70):=⟨_,rfl⟩
 obtain ⟨ba,hba⟩:∃x,x=W.heap.size:=⟨_,rfl⟩
 have hal:Below W.heap.size W wa:=by rw[hwa]; exact (ZR _ W).alloc (Nat.le_refl _) _
 have k0:wa.heap[ba]?=some (.cells #[.string d.name,.int .i64 d.nominal,.int .i64 d.lower,.int .i64 d.upper] 70 (0,0)):=by rw[hwa,hba]; exact ZW W _
 have s1:=ZI k0 1
 have s2:=ZI k0 2
 have s3:=ZI k0 3
 simp at s1 s2 s3
 have HAL:=ZH hal
 have HW:=ZH (ZN hwa hba)
 have w1:IntKind.i64.wrap (d.nominal+d.lower)=d.nominal+d.lower:=IntWalk.i64_in _ (by omega)
 have w2:IntKind.i64.wrap (d.nominal+d.upper)=d.nominal+d.upper:=IntWalk.i64_in _ (by omega)
 clear hal hwa hba k0 h1 h2 h3
 go_enter Tryz.func73,Tryz.ntmps73
 go_upto_region 1 with fail
 rw[←HW.out.1,←HW.out.2]
 clear HW
 go_quiet (fail)
 go_wp2_with fail
 go_ret2
 exact ⟨rfl,HAL.out.trans ((below_drawn wa _).mono HAL.out.size)⟩
set_option maxHeartbeats 8000000
theorem sIndexD_any {w:World} {ao:Option Addr} {c:Nat} {zs:List Dm} (h:DimsIn w ao c zs) (hsm:zs.length≤1000000) {k:Nat} {caps:Array Value} (he:∀(args:Array Value) (W:World),(callFunc k args).run Tryz.prog W=.ok (.enter k args) W) (p:Nat→Bool)
  (hp:∀(W:World) (j:Nat),j<zs.length→Below w.heap.size w W→Calls Tryz.prog k (#[dmV (zs.getD j Dm.none)]++caps) W fun e w'=>e=.returned (.bool (p j))∧Below W.heap.size W w') :
  Calls Tryz.prog 140 #[.slice ao zs.length c,.func (.func k) #[] caps] w fun e w'=>e=.returned (.int .i64 (pos p zs.length 0))∧Below w.heap.size w w':=by
 obtain ⟨n,hn⟩:∃n,n=zs.length:=⟨_,rfl⟩
 obtain ⟨h1,h2,h3⟩:=h
 rw[←hn] at h1 h3 hsm hp⊢
 unfold maxLen at h2
 have H3:=ZH h3
 have HP:=ZH hp
 clear h3 hp hn
 go_enter Tryz.func140,Tryz.ntmps140
 go_wp2_with fail
 go_loopw [8] (fun i wr=>∃m:Nat,m≤n∧i=.int .i64 m∧Hid (∀j,j<m→p j=false)∧Hid (Below w.heap.size w wr)) (fun i _=>n-(intOf i).toNat)
 case atStart=>exact ⟨0,Nat.zero_le _,rfl,ZH (fun j hj=>absurd hj (by omega)),ZH (ZR _ _)⟩
 case round=>
  obtain ⟨m,hmn,rfl,hno,hbw⟩:=hrel
  by_cases hlt:m<n
  ·have e1:((m:Int)<(n:Int))=True:=eq_true (by omega)
   obtain ⟨b,o,rfl,hl,hc⟩:=H3.out (by omega)
   have HX:=hc m hlt
   have x0:=ZJ hbw.out (HX.1)
   have x1:=ZJ hbw.out (HX.2.1)
   have x2:=ZJ hbw.out (HX.2.2.1)
   have x3:=ZJ hbw.out (HX.2.2.2)
   have hi0:(0:Int)≤(m:Int):=by omega
   have hi1:(m:Int)<(n:Int):=by omega
   have HC:=ZH (HP.out wr m hlt hbw.out)
   unfold dmV at HC
   clear HX hc
   generalize zs.getD m Dm.none=x at *
   go_upto_region 4 with fail
   go_wp2_with fail
   refine HC.out.mono ?_
   rintro e w1 ⟨rfl,hb1⟩
   have hB1:=hbw.out.trans (hb1.mono hbw.out.size)
   have HB1:=ZH hB1
   clear hB1 hb1
   cases hpm:p m with
   | true=>
    have HN:=ZH (pos_some (p:=p) (n:=n) (k:=0) (i:=m) (Nat.zero_le _) (by omega) (fun j _ h=>hno.out j h) hpm)
    go_wp2_with fail
    go_ret
    exact ⟨by rw[HN.out]; rfl,HB1.out⟩
   | false=>
    go_wp2_with fail
    refine ⟨⟨m+1,hlt,by congr 1,ZH fun j hj=>?_,ZH HB1.out⟩,by simp[intOf]; omega⟩
    by_cases h:j<m
    ·exact hno.out j h
    ·obtain rfl:j=m:=by omega
     exact hpm
  ·have e1:((m:Int)<(n:Int))=False:=eq_false (by omega)
   obtain rfl:m=n:=by omega
   have HN:=ZH (pos_none (p:=p) (n:=m) (k:=0) (fun j _ h=>hno.out j (by omega)))
   go_wp2_with fail
   go_ret
   exact ⟨by rw[HN.out]; rfl,hbw.out⟩
theorem enters_f1 (args:Array Value) (w:World):(callFunc 141 args).run Tryz.prog w=.ok (.enter 141 args) w:=by
 exact enters_of Tryz.func141 (by kernel_rfl) rfl args w
theorem mFind1_any {W:World} {b:Nat} {s:ByteArray} (d:Dm) (h:W.cell? ⟨b,0,none⟩=some (.string s)):Calls Tryz.prog 141 (#[dmV d]++#[.pointer (some ⟨b,0,none⟩)]) W fun e w'=>e=.returned (.bool (d.name.toList==s.toList))∧Below W.heap.size W w':=by
 unfold dmV
 have hal:Below W.heap.size W (W.alloc (.cells #[.string d.name,.int .i64 d.nominal,.int .i64 d.lower,.int .i64 d.upper] 70)):=(ZR _ W).alloc (Nat.le_refl _) _
 have y0:=ZJ hal h
 have HAL:=ZH hal
 clear hal h
 show Calls Tryz.prog 141 #[_,.pointer (some ⟨b,0,none⟩)] W _
 go_enter Tryz.func141,Tryz.ntmps141
 go_wp2_with fail
 go_ret
 exact ⟨rfl,HAL.out⟩
def dimAt (D:List Dm) (s:ByteArray):Int:=pos (fun j=>(D.getD j Dm.none).name.toList==s.toList) D.length 0
theorem mFind_any {w:World} {ao:Option Addr} {c:Nat} {D:List Dm} (h:DimsIn w ao c D) (hsm:D.length≤1000000) (s:ByteArray) :
  Calls Tryz.prog 109 #[.slice ao D.length c,.string s] w fun e w'=>e=.returned (.tuple #[.int .i64 (max (dimAt D s) 0),.bool (decide (0≤dimAt D s))])∧Below w.heap.size w w':=by
 obtain ⟨wa,hwa⟩:∃wa,wa=w.alloc (.cells #[.string s] 9):=⟨_,rfl⟩
 obtain ⟨ba,hba⟩:∃b,b=w.heap.size:=⟨_,rfl⟩
 have hal:Below w.heap.size w wa:=by rw[hwa]; exact (ZR _ w).alloc (Nat.le_refl _) _
 have k0:wa.heap[ba]?=some (.cells #[.string s] 9 (0,0)):=by rw[hwa,hba]; exact ZW w _
 have HI:=ZH (sIndexD_any (h.below hal) hsm (k:=141) (caps:=#[.pointer (some ⟨ba,0,none⟩)]) enters_f1 (fun j=>(D.getD j Dm.none).name.toList==s.toList) (fun W j hj hb=>mFind1_any _ (by
  have:=ZI ((hb.block ba (ZL k0)).trans k0) 0
  simpa using this)))
 have HAL:=ZH hal
 have HW:=ZH (ZN hwa hba)
 obtain ⟨r,hr⟩:∃x,x=dimAt D s:=⟨_,rfl⟩
 rw[show pos (fun j=>(D.getD j Dm.none).name.toList==s.toList) D.length 0=r from hr.symm] at HI
 rw[←hr]
 obtain ⟨n,hn⟩:∃n,n=D.length:=⟨_,rfl⟩
 rw[←hn] at HI⊢
 clear hal k0 h hsm hwa hba hr hn
 go_enter Tryz.func109,Tryz.ntmps109
 go_upto_region 1 with fail
 rw[←HW.out.1,←HW.out.2]
 clear HW
 go_wp2_with fail
 refine HI.out.mono ?_
 rintro e w1 ⟨rfl,hb1⟩
 have HB:=ZH (HAL.out.trans (hb1.mono HAL.out.size))
 clear hb1
 go_wp2_with fail
 exact bodyPost_ret (v:=.tuple #[.int .i64 (max r 0),.bool (decide (0≤r))]) (by simp[results,Tryz.results109,go_sem]) rfl ⟨rfl,HB.out⟩
open List renaming setIfInBounds_toArray → zLa, set_cons_zero → zLb, set_cons_succ → zLc
open FlowR renaming putSel → zFp
open Act renaming put → zAp
open Nat renaming zero_add → zNz
open Flow.Steps renaming cons → zSc, nil → zSn
open FlowR.Step renaming of → zSo
def farM (n:Int):Bool:=decide (1073741824<n) || decide (n < -1073741824)
theorem mfar_any (n:Int) {W:World}:Calls Tryz.prog 108 #[.int .i64 n] W fun e w'=>e=.returned (.bool (farM n))∧Below W.heap.size W w':=by
 rcases (show (1073741824<n∧farM n=true)∨(¬1073741824<n∧n < -1073741824∧farM n=true)∨(¬1073741824<n∧¬n < -1073741824∧farM n=false) by
  unfold farM
  by_cases h1:1073741824<n<;>by_cases h2:n < -1073741824<;>simp[h1,h2]) with ⟨h1,h3⟩ | ⟨h1,h2,h3⟩ | ⟨h1,h2,h3⟩
 all_goals
  have HE2:=ZH h3
  clear h3
  go_enter Tryz.func108,Tryz.ntmps108
  go_wp2_with fail
  go_ret
  exact ⟨by rw[HE2.out]; rfl,ZR _ _⟩
def dimErr (D:List Dm) (i:Nat):Int:=
 if isName (D.getD i Dm.none).name=false then 11
 else if (farM (D.getD i Dm.none).nominal || farM (D.getD i Dm.none).lower || farM (D.getD i Dm.none).upper)=true then 2
 else if (D.getD i Dm.none).upper<(D.getD i Dm.none).lower then 8
 else if 0≤dimAt (D.take i) (D.getD i Dm.none).name then 9 else 0
def dimsErr (D:List Dm):Int:=if 64<D.length then 6 else firstErr (dimErr D) D.length 0
theorem dims_take {w:World} {ao:Option Addr} {c:Nat} {D:List Dm} (h:DimsIn w ao c D) {k:Nat} (hk:k≤D.length):DimsIn w ao c (D.take k):=by
 have hl:(D.take k).length=k:=by rw[List.length_take]; omega
 refine ⟨by rw[hl]; exact Nat.le_trans hk h.1,h.2.1,fun h0=>?_⟩
 rw[hl] at h0
 obtain ⟨g,o,e,hg,hc⟩:=h.2.2 (by omega)
 refine ⟨g,o,e,hg,fun j hj=>?_⟩
 rw[hl] at hj
 rw[show (D.take k).getD j Dm.none=D.getD j Dm.none by rw[List.getD_eq_getElem?_getD,List.getElem?_take,if_pos hj,←List.getD_eq_getElem?_getD]]
 exact hc j (by omega)
theorem mCheck_any {w:World} {ad:Option Addr} {cd:Nat} {D:List Dm} (hd:DimsIn w ad cd D) (hl:D.length≤1000000) :
  Calls Tryz.prog 72 #[.slice ad D.length cd] w fun e w'=>e=.returned (.int .i64 (dimsErr D))∧Below w.heap.size w w':=by
 obtain ⟨n,hn⟩:∃n,n=D.length:=⟨_,rfl⟩
 have hcap:n≤cd∧cd≤9223372036854775807:=by rw[hn]; exact ⟨hd.1,hd.2.1⟩
 obtain ⟨AN,hAN⟩:∃x,x=dimsErr D:=⟨_,rfl⟩
 have hfi:=fun (W:World) (hW:DimsIn W ad cd D) (k:Nat) (hk:k≤D.length) (s:ByteArray)=>mFind_any (dims_take hW hk) (by rw[List.length_take]; omega) s
 have HFI:=ZH hfi
 have HDI:=ZH hd
 rw[←hAN,←hn]
 by_cases h64:64<n
 ·have e1:((64:Int)<(n:Int))=True:=eq_true (by omega)
  have HE:=ZH (show AN=6 by rw[hAN,dimsErr,if_pos (by omega)])
  clear hfi hd hl hAN hn h64
  go_enter Tryz.func72,Tryz.ntmps72
  go_wp2_with fail
  go_ret
  exact ⟨by rw[HE.out]; rfl,ZR _ _⟩
 ·have e1:((64:Int)<(n:Int))=False:=eq_false (by omega)
  have HN:=ZH (ZN hn (ZN (show n≤64 by omega) (show AN=firstErr (dimErr D) D.length 0 by rw[hAN,dimsErr,if_neg (by omega)])))
  have HD:=ZH hd.2.2
  clear hfi hd hl hAN hn h64
  go_enter Tryz.func72,Tryz.ntmps72
  go_wp2_with fail
  go_loopg [12] n (fun gk x wr=>∃k:Nat,k+gk=n∧x=.int .i64 k∧Hid (∀j,j<k→dimErr D j=0)∧Hid (Below w.heap.size w wr))
  case atStart=>exact ⟨0,by omega,rfl,ZH (fun j hj=>by omega),ZH (ZR _ _)⟩
  case round=>
   obtain ⟨k,hk,rfl,hno,hbw⟩:=hrel
   by_cases hlt:k<n
   ·have e3:((k:Int)<(n:Int))=True:=eq_true (by omega)
    obtain ⟨db,dof,rfl,-,hdc⟩:=HD.out (by have:=HN.out.1; omega)
    obtain ⟨d,hdd⟩:∃x,x=D.getD k Dm.none:=⟨_,rfl⟩
    have hx:=hdc k (by have:=HN.out.1; omega)
    rw[←hdd] at hx
    have x0:=ZJ hbw.out hx.1
    have x1:=ZJ hbw.out hx.2.1
    have x2:=ZJ hbw.out hx.2.2.1
    have x3:=ZJ hbw.out hx.2.2.2
    have hk0:(0:Int)≤(k:Int):=by omega
    have hk1:(k:Int)<(n:Int):=by omega
    have HNO:=ZH hno.out
    have HERR:=ZH (show dimErr D k=if isName d.name=false then 11 else if (farM d.nominal || farM d.lower || farM d.upper)=true then 2 else if d.upper<d.lower then 8 else if 0≤dimAt (D.take k) d.name then 9 else 0 by rw[hdd]; rfl)
    have HLT:=ZH hlt
    have HAT:=ZH (show dimErr D k≠0→AN=dimErr D k from fun h=>by rw[HN.out.2.2]; exact firstErr_at (Nat.zero_le _) (by have:=HN.out.1; omega) (fun j _ hj=>hno.out j hj) h)
    clear hdc hdd hx hlt hno
    go_upto_region 6 with fail
    obtain ⟨w1,hw1⟩:∃x,x=wr.alloc (.cells #[.string d.name,.int .i64 d.nominal,.int .i64 d.lower,.int .i64 d.upper] 70):=⟨_,rfl⟩
    obtain ⟨bd,hbd⟩:∃b,b=wr.heap.size:=⟨_,rfl⟩
    rw[←hw1,←hbd]
    have hl1:Below wr.heap.size wr w1:=by rw[hw1]; exact (ZR _ wr).alloc (Nat.le_refl _) _
    have kd:w1.heap[bd]?=some (.cells #[.string d.name,.int .i64 d.nominal,.int .i64 d.lower,.int .i64 d.upper] 70 (0,0)):=by rw[hw1,hbd]; exact ZW wr _
    have HKD:=ZH kd
    have HB1:=ZH (hbw.out.trans (hl1.mono hbw.out.size))
    have HW1:=ZH (ZR w1.heap.size w1)
    clear hw1 hbd hl1 kd x0 x1 x2 x3 hk0 hk1 hbw
    have kk:=(HW1.out.block bd (ZL HKD.out)).trans HKD.out
    have y0:=ZI kk 0
    have y1:=ZI kk 1
    have y2:=ZI kk 2
    have y3:=ZI kk 3
    simp at y0 y1 y2 y3
    clear kk
    go_wp2_with fail
    refine (isName_any d.name w1).mono ?_
    rintro e w2 ⟨rfl,hb2⟩
    have HW2:=ZH hb2
    clear hb2 y0 y1 y2 y3
    have kk:=(HW2.out.block bd (ZL HKD.out)).trans HKD.out
    have y0:=ZI kk 0
    have y1:=ZI kk 1
    have y2:=ZI kk 2
    have y3:=ZI kk 3
    simp at y0 y1 y2 y3
    clear kk
    cases hI:isName d.name with
    | false=>
     have HE:=ZH (show AN=11 by rw[HAT.out (by rw[HERR.out,hI,if_pos rfl]; decide),HERR.out,hI,if_pos rfl])
     go_wp2_with fail
     go_ret
     exact ⟨by rw[HE.out]; rfl,HB1.out.trans (HW2.out.mono HB1.out.size)⟩
    | true=>
     have HE2:=ZH (show dimErr D k=if (farM d.nominal || farM d.lower || farM d.upper)=true then 2 else if d.upper<d.lower then 8 else if 0≤dimAt (D.take k) d.name then 9 else 0 by rw[HERR.out,hI,if_neg (by decide)])
     clear hI
     go_wp2_with fail
     refine (mfar_any d.nominal).mono ?_
     rintro e w3 ⟨rfl,hb3⟩
     have HW3:=ZH (HW2.out.trans (hb3.mono HW2.out.size))
     clear hb3 y0 y1 y2 y3
     have kk:=(HW3.out.block bd (ZL HKD.out)).trans HKD.out
     have y0:=ZI kk 0
     have y1:=ZI kk 1
     have y2:=ZI kk 2
     have y3:=ZI kk 3
     simp at y0 y1 y2 y3
     clear kk
     cases hF1:farM d.nominal with
     | true=>
      have HE:=ZH (show AN=2 by have h2:=HE2.out; rw[hF1,Bool.true_or,Bool.true_or,if_pos rfl] at h2; rw[HAT.out (by rw[h2]; decide),h2])
      go_wp2_with fail
      go_ret
      exact ⟨by rw[HE.out]; rfl,HB1.out.trans (HW3.out.mono HB1.out.size)⟩
     | false=>
      go_wp2_with fail
      refine (mfar_any d.lower).mono ?_
      rintro e w4 ⟨rfl,hb4⟩
      have HW4:=ZH (HW3.out.trans (hb4.mono HW3.out.size))
      clear hb4 y0 y1 y2 y3
      have kk:=(HW4.out.block bd (ZL HKD.out)).trans HKD.out
      have y0:=ZI kk 0
      have y1:=ZI kk 1
      have y2:=ZI kk 2
      have y3:=ZI kk 3
      simp at y0 y1 y2 y3
      clear kk
      cases hF2:farM d.lower with
      | true=>
       have HE:=ZH (show AN=2 by have h2:=HE2.out; rw[hF1,hF2,Bool.false_or,Bool.true_or,if_pos rfl] at h2; rw[HAT.out (by rw[h2]; decide),h2])
       go_wp2_with fail
       go_ret
       exact ⟨by rw[HE.out]; rfl,HB1.out.trans (HW4.out.mono HB1.out.size)⟩
      | false=>
       go_wp2_with fail
       refine (mfar_any d.upper).mono ?_
       rintro e w5 ⟨rfl,hb5⟩
       have HW5:=ZH (HW4.out.trans (hb5.mono HW4.out.size))
       clear hb5 y0 y1 y2 y3
       have kk:=(HW5.out.block bd (ZL HKD.out)).trans HKD.out
       have y0:=ZI kk 0
       have y1:=ZI kk 1
       have y2:=ZI kk 2
       have y3:=ZI kk 3
       simp at y0 y1 y2 y3
       clear kk
       cases hF3:farM d.upper with
       | true=>
        have HE:=ZH (show AN=2 by have h2:=HE2.out; rw[hF1,hF2,hF3,Bool.false_or,Bool.false_or,if_pos rfl] at h2; rw[HAT.out (by rw[h2]; decide),h2])
        go_wp2_with fail
        go_ret
        exact ⟨by rw[HE.out]; rfl,HB1.out.trans (HW5.out.mono HB1.out.size)⟩
       | false=>
        have HE3:=ZH (show dimErr D k=if d.upper<d.lower then 8 else if 0≤dimAt (D.take k) d.name then 9 else 0 by rw[HE2.out,hF1,hF2,hF3,Bool.false_or,Bool.false_or,if_neg (by decide)])
        clear hF1 hF2 hF3
        by_cases hlu:d.upper<d.lower
        ·have e4:(d.upper<d.lower)=True:=eq_true hlu
         have HE:=ZH (show AN=8 by rw[HAT.out (by rw[HE3.out,if_pos hlu]; decide),HE3.out,if_pos hlu])
         go_wp2_with fail
         go_ret
         exact ⟨by rw[HE.out]; rfl,HB1.out.trans (HW5.out.mono HB1.out.size)⟩
        ·have e4:(d.upper<d.lower)=False:=eq_false hlu
         have HE4:=ZH (show dimErr D k=if 0≤dimAt (D.take k) d.name then 9 else 0 by rw[HE3.out,if_neg hlu])
         obtain ⟨r,hr⟩:∃x,x=dimAt (D.take k) d.name:=⟨_,rfl⟩
         rw[←hr] at HE4
         have hff:=HFI.out
         have HRR:=ZH hr
         have HTL:=ZH (show (D.take k).length=k by rw[List.length_take]; have h1:=HLT.out; have h2:=HN.out.1; omega)
         clear hlu hr hff
         have hk0:(0:Int)≤(k:Int):=by omega
         have hk1:(k:Int)≤(n:Int):=by have:=HLT.out; omega
         have hkc:k≤cd:=by have h1:=HLT.out; have h2:=hcap.1; omega
         have HKD5:=ZH ((HW5.out.block bd (ZL HKD.out)).trans HKD.out)
         have HW6:=ZH (ZR w5.heap.size w5)
         have HB5:=ZH (HB1.out.trans (HW5.out.mono HB1.out.size))
         go_upto_region 12 with fail
         clear y0 y1 y2 y3
         refine FlowR.wp_region_sel (fun a b=>Below a.heap.size a b) (fun a=>ZR _ a) (fun _ _ _ h k=>h.trans (k.mono h.size)) [0,1,2,3,4,5,6,7,8,9,10] [false,false,false,false,false,false,false,false,false,false,false] [true,true,true,true,true,true,true,true,true,true,true] (fun i9 v w'=>match i9 with
          | 0=>v=.slice (some ⟨db,dof,none⟩) n cd
          | 1=>v=.int .i64 (k:Int)
          | 2=>v=.slice (some ⟨db,dof,none⟩) k cd
          | 3=>v=.pointer (some ⟨bd,0,none⟩)
          | 4=>v=.string d.name
          | 5=>v=.tuple #[.int .i64 (max r 0),.bool (decide (0≤r))]
          | 6=>v=.tuple #[.int .i64 (max r 0),.bool (decide (0≤r))]
          | 7=>v=.int .i64 (max r 0)
          | 8=>v=.bool (decide (0≤r))
          | 9=>v=.int .i64 (max r 0)
          | _=>v=.bool (decide (0≤r))) rfl rfl (by kernel_rfl) (by kernel_rfl) (by kernel_rfl) (by kernel_rfl) ?st ?steps ?fin
         case st=>
          intro i9 v u1 u2 h hb
          match i9 with
          | 0 | 1 | 2 | 3 | 4 | 6 | 7 | 8 | 9 | 10 | _+11=>exact h
          | 5=>exact (show v=.tuple #[.int .i64 (max r 0),.bool (decide (0≤r))] from h)
         case steps=>
          refine zSc (zSo rfl ?s0) (zSc (zSo rfl ?s1) (zSc (zSo rfl ?s2) (zSc (zSo rfl ?s3) (zSc (zSo rfl ?s4) (zSc (zSo rfl ?s5) (zSc (zSo rfl ?s6) (zSc (zSo rfl ?s7) (zSc (zSo rfl ?s8) (zSc (zSo rfl ?s9) (zSc (zSo rfl ?s10) zSn))))))))))
          case s0 | s1 | s3=>
           intro xs w' hb hT K9 hK9
           clear hT
           simp only[zFp,zAp,zLa,zLb,zLc,Nat.reduceAdd,zNz] at hK9⊢
           have hw:=Flow.hwD HW6.out hb
           go_simp
           exact hK9 _ _ (ZR _ _) rfl
          case s2=>
           intro xs w' hb hT K9 hK9
           have h0:(xs 0)=.slice (some ⟨db,dof,none⟩) n cd:=hT 0 (by kernel_rfl)
           have h1:(xs 1)=.int .i64 (k:Int):=hT 1 (by kernel_rfl)
           clear hT
           simp only[zFp,zAp,zLa,zLb,zLc,Nat.reduceAdd,zNz] at hK9⊢
           have hw:=Flow.hwD HW6.out hb
           (try simp only[h0] at hK9)
           (try simp only[h1] at hK9)
           go_simp
           (try rw[if_pos hkc])
           exact hK9 _ _ (ZR _ _) rfl
          case s4=>
           intro xs w' hb hT K9 hK9
           have h3:(xs 3)=.pointer (some ⟨bd,0,none⟩):=hT 3 (by kernel_rfl)
           clear hT
           simp only[zFp,zAp,zLa,zLb,zLc,Nat.reduceAdd,zNz] at hK9⊢
           have hw:=Flow.hwD HW6.out hb
           have kb:=(hw.block bd (ZL HKD5.out)).trans HKD5.out
           have y0:=ZI kb 0
           clear kb
           simp at y0
           (try simp only[h3] at hK9)
           go_simp
           exact hK9 _ _ (ZR _ _) rfl
          case s5=>
           intro xs w' hb hT K9 hK9
           have h2:(xs 2)=.slice (some ⟨db,dof,none⟩) k cd:=hT 2 (by kernel_rfl)
           have h4:(xs 4)=.string d.name:=hT 4 (by kernel_rfl)
           clear hT
           simp only[zFp,zAp,zLa,zLb,zLc,Nat.reduceAdd,zNz] at hK9⊢
           have hw:=Flow.hwD HW6.out hb
           (try simp only[h2] at hK9)
           (try simp only[h4] at hK9)
           (try simp only[h2] at hK9)
           go_simp
           go_at_call 109
           have hc:=HFI.out w' (HDI.out.below (HB5.out.trans (hw.mono HB5.out.size))) k (by have h1:=HLT.out; have h2:=HN.out.1; omega) d.name
           rw[HTL.out,←HRR.out] at hc
           refine hc.mono ?_
           rintro e w3 ⟨rfl,hb3⟩
           exact hK9 _ _ hb3 rfl
          case s6=>
           intro xs w' hb hT K9 hK9
           have h5:(xs 5)=.tuple #[.int .i64 (max r 0),.bool (decide (0≤r))]:=hT 5 (by kernel_rfl)
           clear hT
           simp only[zFp,zAp,zLa,zLb,zLc,Nat.reduceAdd,zNz] at hK9⊢
           have hw:=Flow.hwD HW6.out hb
           (try simp only[h5] at hK9)
           go_simp
           exact hK9 _ _ (ZR _ _) rfl
          case s7 | s8=>
           intro xs w' hb hT K9 hK9
           have h6:(xs 6)=.tuple #[.int .i64 (max r 0),.bool (decide (0≤r))]:=hT 6 (by kernel_rfl)
           clear hT
           simp only[zFp,zAp,zLa,zLb,zLc,Nat.reduceAdd,zNz] at hK9⊢
           have hw:=Flow.hwD HW6.out hb
           (try simp only[h6] at hK9)
           go_simp
           exact hK9 _ _ (ZR _ _) rfl
          case s9=>
           intro xs w' hb hT K9 hK9
           have h7:(xs 7)=.int .i64 (max r 0):=hT 7 (by kernel_rfl)
           clear hT
           simp only[zFp,zAp,zLa,zLb,zLc,Nat.reduceAdd,zNz] at hK9⊢
           have hw:=Flow.hwD HW6.out hb
           (try simp only[h7] at hK9)
           go_simp
           exact hK9 _ _ (ZR _ _) rfl
          case s10=>
           intro xs w' hb hT K9 hK9
           have h8:(xs 8)=.bool (decide (0≤r)):=hT 8 (by kernel_rfl)
           clear hT
           simp only[zFp,zAp,zLa,zLb,zLc,Nat.reduceAdd,zNz] at hK9⊢
           have hw:=Flow.hwD HW6.out hb
           (try simp only[h8] at hK9)
           go_simp
           exact hK9 _ _ (ZR _ _) rfl
         case fin=>
          intro xs w' hb hT
          have hw:=Flow.hwD HW6.out hb
          have h9:(xs 9)=.int .i64 (max r 0):=hT 9 (by rfl)
          have h10:(xs 10)=.bool (decide (0≤r)):=hT 10 (by rfl)
          clear hT
          simp only[zFp,zAp,zLa,zLb,zLc,Nat.reduceAdd,zNz,FlowR.restL,FlowR.orM,Bool.false_or]
          simp only[h9,h10]
          clear h9 h10 hb
          refine wpList_nil ?_
          obtain ⟨w7,hw7⟩:∃x,x=w':=⟨_,rfl⟩
          rw[←hw7] at hw⊢
          have HB7:=ZH (HB5.out.trans (hw.mono HB5.out.size))
          clear hw hw7
          by_cases hr0:0≤r
          ·have e5:decide (0≤r)=true:=ZT hr0
           have e6:(0≤r)=True:=eq_true hr0
           have HE:=ZH (show AN=9 by rw[HAT.out (by rw[HE4.out,if_pos hr0]; decide),HE4.out,if_pos hr0])
           go_wp2_with fail
           go_ret
           exact ⟨by rw[HE.out]; rfl,HB7.out⟩
          ·have e5:decide (0≤r)=false:=ZU hr0
           have e6:(0≤r)=False:=eq_false hr0
           have HZ:=ZH (show dimErr D k=0 by rw[HE4.out,if_neg hr0])
           go_wp2_with fail
           go_roundg (n-(k+1))
           case measure=>have:=HLT.out; omega
           case rel=>exact ⟨k+1,by have:=HLT.out; omega,by congr 1; first | rfl | exact IntWalk.wrap64_in _ (by have:=HLT.out; have:=HN.out; omega),ZH (fun j hj=>by
            rcases Nat.lt_or_ge j k with h | h
            ·exact HNO.out j h
            ·obtain rfl:j=k:=by omega
             exact HZ.out),HB7⟩
   ·have e3:((k:Int)<(n:Int))=False:=eq_false (by omega)
    obtain rfl:k=n:=by omega
    have HE:=ZH (show AN=0 by rw[HN.out.2.2]; exact firstErr_none (fun i _ hi=>hno.out i (by have:=HN.out.1; omega)))
    go_wp2_with fail
    go_ret
    exact ⟨by rw[HE.out]; rfl,hbw.out⟩
end Go.Proofs.YtdcaaehapdhckaaGreatDoor
