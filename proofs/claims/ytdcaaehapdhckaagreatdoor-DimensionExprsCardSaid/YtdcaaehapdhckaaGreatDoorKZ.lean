/- What Number writes, Read reads. No walk stands here. -/
import Derived.Test.YtdcaaehapdhckaaGreatDoorKH
import Derived.Test.YtdcaaehapdhckaaGreatDoorKM
import Derived.Test.YtdcaaehapdhckaaGreatDoorShelf2
import Derived.Lib.Hide
import Derived.Test.YtdcaaehapdhckaaGreatDoorFlow2M
import Derived.Deep.Onto
import Derived.Deep.DeepAppendWide
import Derived.Deep.Upon
set_option linter.unusedSimpArgs false
set_option linter.unusedVariables false
set_option maxRecDepth 100000
namespace Go.Proofs.YtdcaaehapdhckaaGreatDoor
open Go.RowKit Go.Num Go.Flow
set_option maxHeartbeats 4000000

theorem index_cons1 (b:UInt8) (l:List UInt8) (c:UInt8):Lib.index (b::l) [c]=if b=c then 0 else if Lib.index l [c]==-1 then -1 else Lib.index l [c]+1:=by
 rw[Lib.index]
 have e:List.isPrefixOf [c] (b::l)=(c==b):=by simp[List.isPrefixOf]
 rw[e]
 by_cases h:b=c
 ·rw[if_pos (by rw[h]; simp),if_pos h]
 ·rw[if_neg (by rw[beq_iff_eq]; exact fun e=>h e.symm),if_neg h]
theorem index_not : ∀{l:List UInt8} {c:UInt8},c∉l→Lib.index l [c] = -1
 | [],_,_=>rfl
 | b::l,c,h=>by
  rw[List.mem_cons,not_or] at h
  rw[index_cons1,if_neg (fun e=>h.1 e.symm),index_not h.2]
  rfl
theorem index_here : ∀{l m:List UInt8} {c:UInt8},c∉l→Lib.index (l++c::m) [c]=l.length
 | [],m,c,_=>by rw[List.nil_append,index_cons1,if_pos rfl]; rfl
 | b::l,m,c,h=>by
  rw[List.mem_cons,not_or] at h
  rw[List.cons_append,index_cons1,if_neg (fun e=>h.1 e.symm),index_here h.2,if_neg (by rw[beq_iff_eq]; omega),List.length_cons]
  omega
theorem cut_not {l:List UInt8} {c:UInt8} (h:c∉l):Lib.cut l [c]=(l,[],false):=by
 unfold Lib.cut
 rw[index_not h,if_neg (by decide)]
theorem cut_here {l m:List UInt8} {c:UInt8} (h:c∉l):Lib.cut (l++c::m) [c]=(l,m,true):=by
 unfold Lib.cut
 rw[index_here h,if_pos (by omega)]
 refine Prod.ext ?_ (Prod.ext ?_ rfl)
 ·simp
 ·simp
theorem dig_not {l:List UInt8} {c:UInt8} (h:l.all isDig=true) (hc:isDig c=false):c∉l:=fun hm=>by
 rw[List.all_eq_true] at h
 rw[h c hm] at hc
 cases hc
theorem dec_no (n:Nat) {c:UInt8} (hc:isDig c=false):c∉Lib.decDigits n:=dig_not (dec_dig n) hc
theorem dec_head_ne (n:Nat) {c:UInt8} (hc:isDig c=false):(Lib.decDigits n).head?≠some c:=fun h=>dec_no n hc (List.mem_of_mem_head? (by rw[h]; simp))
theorem itoa_no (n:Int) {c:UInt8} (hc:isDig c=false) (h45:c≠45):c∉Lib.itoa n:=by
 unfold Lib.itoa
 split
 ·rw[List.mem_cons,not_or]
  exact ⟨h45,dec_no _ hc⟩
 ·exact dec_no _ hc
theorem itoa_minus (n:Int):hasMinus (Lib.itoa n)=decide (n<0):=by
 unfold hasMinus Lib.itoa
 by_cases h:n<0
 ·rw[if_pos h]; simp[h]
 ·rw[if_neg h]
  rw[decide_eq_decide]
  exact ⟨fun e=>absurd e (dec_head_ne _ (by decide)),fun e=>absurd e h⟩
theorem itoa_unsign (n:Int):unsign (Lib.itoa n)=Lib.decDigits n.natAbs:=by
 unfold unsign Lib.itoa
 by_cases h:n<0
 ·rw[if_pos h,if_pos (by rfl)]; rfl
 ·rw[if_neg h,if_neg (dec_head_ne _ (by decide)),show n.toNat=n.natAbs by omega]
theorem parse_itoa (n:Int):parseVal (Lib.itoa n)=n:=by
 unfold parseVal
 rw[itoa_minus,itoa_unsign,dec_val]
 by_cases h:n<0
 ·rw[if_pos (ZT h)]; omega
 ·rw[if_neg (by simp[h])]; omega
theorem canon_head (n:Nat):(Lib.decDigits n).head?=some 48→n=0:=fun h=>by
 rcases Nat.eq_zero_or_pos n with h0 | h0
 ·exact h0
 ·obtain ⟨b,r,e,hb⟩:=dec_head h0
  rw[e] at h
  simp at h
  rw[h] at hb
  exact absurd rfl hb
theorem parse_itoa_ok {n:Int} (hl:(Lib.itoa n).length≤65536):parseErr (Lib.itoa n)=0:=by
 unfold parseErr
 rw[if_neg (by omega),itoa_unsign,itoa_minus,if_neg (by rw[dec_dig]; simp[dec_ne]),if_neg]
 rintro ⟨h1,h2⟩
 have h0:=canon_head _ h1
 rw[h0,dec_zero] at h2
 simp at h2
 omega
theorem digs_dec (n:Nat):digs (Lib.decDigits n)=true:=by
 unfold digs
 rw[dec_dig,Bool.and_true]
 cases h:Lib.decDigits n with
 | nil=>exact absurd h (dec_ne n)
 | cons b r=>rfl
theorem dec_pos_not_zeros {n:Nat} (h:0<n):((Lib.decDigits n).all fun b=>b==48)=false:=by
 obtain ⟨b,r,e,hb⟩:=dec_head h
 rw[e,List.all_cons,Bool.and_eq_false_iff]
 left
 rw[ZQ]
 rintro rfl
 exact hb rfl
theorem num_cut (q:Rat):Lib.cut (numText q) [47]=if isInt q=true then (Lib.itoa q.num,[],false) else (Lib.itoa q.num,Lib.decDigits q.den,true):=by
 unfold numText
 split
 ·exact cut_not (itoa_no _ (by decide) (by decide))
 ·exact cut_here (itoa_no _ (by decide) (by decide))
theorem read_num (q:Rat):readVal (numText q)=q:=by
 unfold readVal
 rw[num_cut]
 by_cases h:isInt q=true
 ·rw[if_pos h]
  simp only[parse_itoa]
  unfold isInt at h
  rw[beq_iff_eq] at h
  rw[if_neg (by decide)]
  exact Rat.ext (by simp) (by simp[h])
 ·rw[if_neg h]
  simp only[if_true,parse_itoa]
  rw[←itoa_nat,parse_itoa]
  rw[Rat.divInt_ofNat,Rat.mkRat_self]
theorem num_len_num (q:Rat):(Lib.itoa q.num).length≤(numText q).length:=by
 unfold numText
 split
 ·exact Nat.le_refl _
 ·rw[List.length_append]; omega
theorem num_len_den {q:Rat} (h:isInt q=false):(Lib.decDigits q.den).length≤(numText q).length:=by
 unfold numText
 rw[if_neg (by rw[h]; simp),List.length_append,List.length_cons]
 omega
theorem read_num_ok {q:Rat} {most:Nat} (hm:(numText q).length≤most) (hl:(numText q).length≤65536):readErr (numText q) most=0:=by
 have hn:=num_len_num q
 unfold readErr
 rw[if_neg (by omega),num_cut]
 by_cases h:isInt q=true
 ·rw[if_pos h]
  simp only[itoa_unsign,digs_dec,parse_itoa_ok (show (Lib.itoa q.num).length≤65536 by omega)]
  simp
 ·have h':isInt q=false:=by cases e:isInt q<;>simp_all
  have hd:=num_len_den h'
  rw[if_neg h]
  simp only[itoa_unsign,digs_dec,parse_itoa_ok (show (Lib.itoa q.num).length≤65536 by omega),dec_pos_not_zeros q.den_pos]
  rw[←itoa_nat,parse_itoa_ok (by rw[itoa_nat]; omega),parse_itoa,parse_itoa]
  have hg:Nat.gcd q.num.natAbs (q.den:Int).natAbs=1:=q.reduced
  have h1:¬(q.den:Int)=1:=by
   unfold isInt at h'
   rw[ZQ] at h'
   omega
  simp[h1]
  exact_mod_cast q.reduced
set_option maxHeartbeats 8000000
theorem Parse_any' (s:ByteArray) (hs:s.size≤4294967280) {w:World} (hg:Glob w):Calls Tryz.prog 57 #[.string s] w (ReadPost w s.data.toList 400):=by
 obtain ⟨wa,hwa⟩:∃wa,wa=w.alloc (.cells #[.bool false,.slice none 0 0,.bool false,.slice none 0 0] 47):=⟨_,rfl⟩
 obtain ⟨bc,hbc⟩:∃b,b=w.heap.size:=⟨_,rfl⟩
 have hal:Below w.heap.size w wa:=by rw[hwa]; exact (ZR _ w).alloc (Nat.le_refl _) _
 have hblk:wa.heap[bc]?=some (.cells #[.bool false,.slice none 0 0,.bool false,.slice none 0 0] 47 (0,0)):=by rw[hwa,hbc]; exact ZW w _
 have HGbc:=ZH (show w.heap.size≤bc by omega)
 have HR:=ZH (read_any s hs 400 (by omega) (hg.below hal))
 have HW:=ZH (ZN hwa hbc)
 have HAL:=ZH (ZN hal hblk)
 clear hal hblk hwa hbc hg
 go_enter Tryz.func57,Tryz.ntmps57
 go_upto_region 1 with fail
 rw[←HW.out.1,←HW.out.2]
 clear HW
 go_wp2_with fail
 refine HR.out.mono ?_
 rintro e w1 ⟨v,rfl,hok,hno,hb1⟩
 have hB1:=HAL.out.1.trans (hb1.mono HAL.out.1.size)
 have hk1:=(hb1.block bc (ZL HAL.out.2)).trans HAL.out.2
 obtain ⟨E,hE⟩:∃E,E=readErr s.data.toList 400:=⟨_,rfl⟩
 rw[←hE] at hok hno⊢
 have hv:∃s1 a1 c1 l1 s2 a2 c2 l2,v=.agg #[.bool s1,.slice a1 c1 l1,.bool s2,.slice a2 c2 l2]:=by
  by_cases h:E=0
  ·exact rt_shape (hok h)
  ·exact ⟨_,_,_,_,_,_,_,_,hno h⟩
 obtain ⟨s1,a1,c1,l1,s2,a2,c2,l2,rfl⟩:=hv
 have z0:=ZI hk1 0
 have z1:=ZI hk1 1
 have z2:=ZI hk1 2
 have z3:=ZI hk1 3
 have f0:=ZF hk1 0
 have f1:=ZF hk1 1
 have f2:=ZF hk1 2
 have f3:=ZF hk1 3
 simp at z0 z1 z2 z3
 have hbf:=(((hB1.setCell (p:=⟨bc,0,none⟩) HGbc.out (.bool s1)).setCell (p:=⟨bc,1,none⟩) HGbc.out (.slice a1 c1 l1)).setCell (p:=⟨bc,2,none⟩) HGbc.out (.bool s2)).setCell (p:=⟨bc,3,none⟩) HGbc.out (.slice a2 c2 l2)
 have HF:=ZH (ZN hE (ZN hno hbf))
 have HI:=ZH (show E=0→_ from fun h=>(hok h).store4 hk1 (.bool s1) (.slice a1 c1 l1) (.bool s2) (.slice a2 c2 l2))
 clear hok hno hbf hE hk1 hB1 hb1
 go_wp2_with fail
 exact bodyPost_ret (v:=.tuple #[.agg #[.bool s1,.slice a1 c1 l1,.bool s2,.slice a2 c2 l2],.int .i64 E]) (by simp[results,Tryz.results57,go_sem,z0,z1,z2,z3]) rfl ⟨_,by rw[HF.out.1],fun h=>HI.out (HF.out.1.trans h),fun h=>HF.out.2.1 (by rw[HF.out.1]; exact h),HF.out.2.2⟩
theorem number_any (s:ByteArray) (hs:s.size≤4294967280) {w:World} (hg:Glob w):Calls Tryz.prog 55 #[.string s] w (ReadPost w s.data.toList 400):=by
 have hlen:s.data.toList.length=s.size:=by rw[Array.length_toList]; rfl
 obtain ⟨wa,hwa⟩:∃wa,wa=w.alloc (.cells #[.bool false,.slice none 0 0,.bool false,.slice none 0 0] 47):=⟨_,rfl⟩
 obtain ⟨bc,hbc⟩:∃b,b=w.heap.size:=⟨_,rfl⟩
 have hal:Below w.heap.size w wa:=by rw[hwa]; exact (ZR _ w).alloc (Nat.le_refl _) _
 have hblk:wa.heap[bc]?=some (.cells #[.bool false,.slice none 0 0,.bool false,.slice none 0 0] 47 (0,0)):=by rw[hwa,hbc]; exact ZW w _
 have HGbc:=ZH (show w.heap.size≤bc by omega)
 have HR:=ZH (Parse_any' s hs (hg.below hal))
 have HW:=ZH (ZN hwa hbc)
 have HAL:=ZH (ZN hal hblk)
 clear hal hblk hwa hbc hg
 by_cases h4:400<s.size
 ·have e1:((400:Int)<(s.size:Int))=True:=eq_true (by omega)
  have HE:=ZH (show readErr s.data.toList 400=5 by unfold readErr; rw[if_pos (by omega)])
  clear h4 hlen
  go_enter Tryz.func55,Tryz.ntmps55
  go_upto_region 1 with fail
  rw[←HW.out.1,←HW.out.2]
  clear HW HR
  have hk1:=HAL.out.2
  have z0:=ZI hk1 0
  have z1:=ZI hk1 1
  have z2:=ZI hk1 2
  have z3:=ZI hk1 3
  have f0:=ZF hk1 0
  have f1:=ZF hk1 1
  have f2:=ZF hk1 2
  have f3:=ZF hk1 3
  simp at z0 z1 z2 z3
  have HF:=ZH ((((HAL.out.1.setCell (p:=⟨bc,0,none⟩) HGbc.out (.bool false)).setCell (p:=⟨bc,1,none⟩) HGbc.out (.slice none 0 0)).setCell (p:=⟨bc,2,none⟩) HGbc.out (.bool false)).setCell (p:=⟨bc,3,none⟩) HGbc.out (.slice none 0 0))
  clear hk1
  go_wp2_with fail
  exact bodyPost_ret (v:=.tuple #[.agg #[.bool false,.slice none 0 0,.bool false,.slice none 0 0],.int .i64 5]) (by simp[results,Tryz.results55,go_sem,z0,z1,z2,z3]) rfl ⟨_,by rw[HE.out],fun h=>absurd (HE.out.symm.trans h) (by decide),fun _=>rfl,HF.out⟩
 ·have e1:((400:Int)<(s.size:Int))=False:=eq_false (by omega)
  clear h4 hlen
  go_enter Tryz.func55,Tryz.ntmps55
  go_upto_region 1 with fail
  rw[←HW.out.1,←HW.out.2]
  clear HW
  go_wp2_with fail
  refine HR.out.mono ?_
  rintro e w1 ⟨v,rfl,hok,hno,hb1⟩
  have hB1:=HAL.out.1.trans (hb1.mono HAL.out.1.size)
  have hk1:=(hb1.block bc (ZL HAL.out.2)).trans HAL.out.2
  obtain ⟨E,hE⟩:∃E,E=readErr s.data.toList 400:=⟨_,rfl⟩
  rw[←hE] at hok hno⊢
  have hv:∃s1 a1 c1 l1 s2 a2 c2 l2,v=.agg #[.bool s1,.slice a1 c1 l1,.bool s2,.slice a2 c2 l2]:=by
   by_cases h:E=0
   ·exact rt_shape (hok h)
   ·exact ⟨_,_,_,_,_,_,_,_,hno h⟩
  obtain ⟨s1,a1,c1,l1,s2,a2,c2,l2,rfl⟩:=hv
  have z0:=ZI hk1 0
  have z1:=ZI hk1 1
  have z2:=ZI hk1 2
  have z3:=ZI hk1 3
  have f0:=ZF hk1 0
  have f1:=ZF hk1 1
  have f2:=ZF hk1 2
  have f3:=ZF hk1 3
  simp at z0 z1 z2 z3
  have hbf:=(((hB1.setCell (p:=⟨bc,0,none⟩) HGbc.out (.bool s1)).setCell (p:=⟨bc,1,none⟩) HGbc.out (.slice a1 c1 l1)).setCell (p:=⟨bc,2,none⟩) HGbc.out (.bool s2)).setCell (p:=⟨bc,3,none⟩) HGbc.out (.slice a2 c2 l2)
  have HF:=ZH (ZN hE (ZN hno hbf))
  have HI:=ZH (show E=0→_ from fun h=>(hok h).store4 hk1 (.bool s1) (.slice a1 c1 l1) (.bool s2) (.slice a2 c2 l2))
  clear hok hno hbf hE hk1 hB1 hb1
  go_wp2_with fail
  exact bodyPost_ret (v:=.tuple #[.agg #[.bool s1,.slice a1 c1 l1,.bool s2,.slice a2 c2 l2],.int .i64 E]) (by simp[results,Tryz.results55,go_sem,z0,z1,z2,z3]) rfl ⟨_,by rw[HF.out.1],fun h=>HI.out (HF.out.1.trans h),fun h=>HF.out.2.1 (by rw[HF.out.1]; exact h),HF.out.2.2⟩
theorem mread_any (s:ByteArray) (hs:s.size≤4294967280) {w:World} (hg:Glob w) (h0:readErr s.data.toList 65536=0):Calls Tryz.prog 40 #[.string s] w fun e w'=>∃v,e=.returned v∧RtIn w' v (readVal s.data.toList) (s.data.toList.length+2)∧Below w.heap.size w w':=by
 obtain ⟨wa,hwa⟩:∃wa,wa=w.alloc (.cells #[.bool false,.slice none 0 0,.bool false,.slice none 0 0] 47):=⟨_,rfl⟩
 obtain ⟨bc,hbc⟩:∃b,b=w.heap.size:=⟨_,rfl⟩
 have hal:Below w.heap.size w wa:=by rw[hwa]; exact (ZR _ w).alloc (Nat.le_refl _) _
 have hblk:wa.heap[bc]?=some (.cells #[.bool false,.slice none 0 0,.bool false,.slice none 0 0] 47 (0,0)):=by rw[hwa,hbc]; exact ZW w _
 have HGbc:=ZH (show w.heap.size≤bc by omega)
 have HR:=ZH (Read_any s hs (hg.below hal))
 have HW:=ZH (ZN hwa hbc)
 have HAL:=ZH (ZN hal hblk)
 clear hal hblk hwa hbc hg
 have H0:=ZH h0
 clear h0
 go_enter Tryz.func40,Tryz.ntmps40
 go_upto_region 1 with fail
 rw[←HW.out.1,←HW.out.2]
 clear HW
 go_wp2_with fail
 refine HR.out.mono ?_
 rintro e w1 ⟨v,rfl,hok,hno,hb1⟩
 have hrt:=hok H0.out
 rw[H0.out]
 obtain ⟨s1,a1,c1,l1,s2,a2,c2,l2,rfl⟩:=rt_shape hrt
 have hB1:=HAL.out.1.trans (hb1.mono HAL.out.1.size)
 have hk1:=(hb1.block bc (ZL HAL.out.2)).trans HAL.out.2
 have HX:=ZH (ZN hrt (ZN hB1 hk1))
 clear hok hno hb1 hrt hB1 hk1 HR
 go_upto_region 2 with fail
 obtain ⟨w2,hw2⟩:∃x,x=w1.alloc (.cells #[.bool s1,.slice a1 c1 l1,.bool s2,.slice a2 c2 l2] 47):=⟨_,rfl⟩
 obtain ⟨bd,hbd⟩:∃b,b=w1.heap.size:=⟨_,rfl⟩
 rw[←hw2,←hbd]
 have hl2:Below w1.heap.size w1 w2:=by rw[hw2]; exact (ZR _ w1).alloc (Nat.le_refl _) _
 have kd:w2.heap[bd]?=some (.cells #[.bool s1,.slice a1 c1 l1,.bool s2,.slice a2 c2 l2] 47 (0,0)):=by rw[hw2,hbd]; exact ZW w1 _
 have hk2:=(hl2.block bc (ZL HX.out.2.2)).trans HX.out.2.2
 have y0:=ZI kd 0
 have y1:=ZI kd 1
 have y2:=ZI kd 2
 have y3:=ZI kd 3
 have z0:=ZI hk2 0
 have z1:=ZI hk2 1
 have z2:=ZI hk2 2
 have z3:=ZI hk2 3
 have f0:=ZF hk2 0
 have f1:=ZF hk2 1
 have f2:=ZF hk2 2
 have f3:=ZF hk2 3
 simp at y0 y1 y2 y3 z0 z1 z2 z3
 have hB2:=HX.out.2.1.trans (hl2.mono HX.out.2.1.size)
 have HF:=ZH ((((hB2.setCell (p:=⟨bc,0,none⟩) HGbc.out (.bool s1)).setCell (p:=⟨bc,1,none⟩) HGbc.out (.slice a1 c1 l1)).setCell (p:=⟨bc,2,none⟩) HGbc.out (.bool s2)).setCell (p:=⟨bc,3,none⟩) HGbc.out (.slice a2 c2 l2))
 have HI:=ZH ((HX.out.1.below hl2).store4 hk2 (.bool s1) (.slice a1 c1 l1) (.bool s2) (.slice a2 c2 l2))
 clear hw2 hbd hl2 kd hk2 hB2
 go_wp2_with fail
 exact bodyPost_ret (v:=.agg #[.bool s1,.slice a1 c1 l1,.bool s2,.slice a2 c2 l2]) (by simp[results,Tryz.results40,go_sem,z0,z1,z2,z3]) rfl ⟨_,rfl,HI.out,HF.out⟩
def tot (m:Int→Option Rat) (i:Int):Rat:=(m i).getD 0
def termOf (r:Rat) (k:Nat):List (Nat×List UInt8):=if r.num=0 then [] else [(k,numText r)]
theorem sumTerms_succ (m:Int→Option Rat) (k:Nat):sumTerms m (k+1)=sumTerms m k++termOf (tot m k) k:=by
 rw[sumTerms]
 unfold termOf tot
 cases m k with
 | none=>rfl
 | some r=>rfl
theorem sumTerms_congr {m m':Int→Option Rat}:∀{K:Nat},(∀i:Nat,i<K→tot m i=tot m' i)→sumTerms m K=sumTerms m' K
 | 0,_=>rfl
 | K+1,h=>by rw[sumTerms_succ,sumTerms_succ,sumTerms_congr (K:=K) fun i hi=>h i (by omega),h K (by omega)]
theorem tot_addTo (m:Int→Option Rat) (i:Int) (q:Rat) (j:Int):tot (addTo m i q) j=tot m j+(if j=i then q else 0):=by
 unfold tot addTo
 by_cases h:j=i
 ·subst h; simp
 ·simp[h,Rat.add_zero]
def addAll (L:List (Nat×List UInt8)) (m:Int→Option Rat):Int→Option Rat:=L.foldl (fun m p=>addTo m (p.1:Int) (readVal p.2)) m
def worthAt : List (Nat×List UInt8)→Int→Rat
 | [],_=>0
 | p::L,j=>(if j=(p.1:Int) then readVal p.2 else 0)+worthAt L j
theorem worth_append : ∀(L M:List (Nat×List UInt8)) (j:Int),worthAt (L++M) j=worthAt L j+worthAt M j
 | [],M,j=>by simp[worthAt,Rat.zero_add]
 | p::L,M,j=>by rw[List.cons_append,worthAt,worthAt,worth_append L M j,Rat.add_assoc]
theorem tot_addAll : ∀(L:List (Nat×List UInt8)) (m:Int→Option Rat) (j:Int),tot (addAll L m) j=tot m j+worthAt L j
 | [],m,j=>by simp[addAll,worthAt,Rat.add_zero]
 | p::L,m,j=>by
  have h:=tot_addAll L (addTo m (p.1:Int) (readVal p.2)) j
  unfold addAll at h⊢
  rw[List.foldl_cons,h,tot_addTo,worthAt,Rat.add_assoc]
theorem worth_term (r:Rat) (k:Nat) (j:Int):worthAt (termOf r k) j=if j=(k:Int) then r else 0:=by
 unfold termOf
 by_cases h:r.num=0
 ·rw[if_pos h]
  have h0:r=0:=Rat.num_eq_zero.1 h
  simp[worthAt,h0]
 ·rw[if_neg h,worthAt,worthAt,read_num,Rat.add_zero]
theorem worth_terms (m:Int→Option Rat):∀(K:Nat) (j:Int),worthAt (sumTerms m K) j=if 0≤j∧j<(K:Int) then tot m j else 0
 | 0,j=>by
  rw[if_neg (by omega)]
  rfl
 | K+1,j=>by
  rw[sumTerms_succ,worth_append,worth_terms m K j,worth_term]
  by_cases h1:0≤j∧j<(K:Int)
  ·rw[if_pos h1,if_neg (by omega),if_pos (by omega),Rat.add_zero]
  ·rw[if_neg h1]
   by_cases h2:j=(K:Int)
   ·rw[if_pos h2,if_pos (by omega),h2,Rat.zero_add]
   ·rw[if_neg h2,if_neg (by omega),Rat.add_zero]
def setTo (m:Int→Option Rat) (i:Int) (q:Rat):Int→Option Rat:=fun j=>if j=i then some q else m j
theorem tot_setTo (m:Int→Option Rat) (i:Int) (q:Rat) (j:Int):tot (setTo m i q) j=if j=i then q else tot m j:=by
 unfold tot setTo
 by_cases h:j=i<;>simp[h]
def scaleAll (L:List (Nat×List UInt8)) (by_:Rat) (m:Int→Option Rat):Int→Option Rat:=L.foldl (fun m p=>setTo m (p.1:Int) (readVal p.2*by_)) m
theorem worth_none {L:List (Nat×List UInt8)} {j:Int} (h:∀p,p∈L→(p.1:Int)≠j):worthAt L j=0:=by
 induction L with
 | nil=>rfl
 | cons p L ih=>
  rw[worthAt,if_neg (fun e=>h p (by simp) e.symm),ih fun q hq=>h q (by simp[hq]),Rat.add_zero]
theorem tot_scaleAll : ∀(L:List (Nat×List UInt8)) (by_:Rat) (m:Int→Option Rat) (_:L.Pairwise fun a b=>a.1<b.1) (_:∀p,p∈L→m (p.1:Int)=none) (j:Int),tot (scaleAll L by_ m) j=tot m j+worthAt L j*by_
 | [],by_,m,_,_,j=>by simp[scaleAll,worthAt,Rat.zero_mul,Rat.add_zero]
 | p::L,by_,m,hp,hm,j=>by
  have hp2:=List.pairwise_cons.1 hp
  have h:=tot_scaleAll L by_ (setTo m (p.1:Int) (readVal p.2*by_)) hp2.2 (fun q hq=>by
   unfold setTo
   rw[if_neg (by have:=hp2.1 q hq; omega)]
   exact hm q (by simp[hq])) j
  unfold scaleAll at h⊢
  rw[List.foldl_cons,h,tot_setTo,worthAt]
  by_cases hj:j=(p.1:Int)
  ·have h0:worthAt L j=0:=worth_none fun q hq=>by have:=hp2.1 q hq; omega
   have h1:tot m j=0:=by unfold tot; rw[hj,hm p (by simp)]; rfl
   rw[if_pos hj,if_pos hj,h0,h1,Rat.zero_mul,Rat.add_zero,Rat.add_zero,Rat.zero_add]
  ·rw[if_neg hj,if_neg hj,Rat.zero_add]
theorem tot_noMap (j:Int):tot noMap j=0:=rfl
end Go.Proofs.YtdcaaehapdhckaaGreatDoor
set_option maxRecDepth 100000
namespace Go.Proofs.YtdcaaehapdhckaaGreatDoor
open Go.RowKit Go.Num Go.Flow Go.Maps Go.WideMaps Go.Sort Go.Shelf

theorem sorts_int (m:Nat):AnyZI.SortsIn Tryz.prog Tryz.sortedI_ren Fence.wide m:=
  ⟨fun blk off cap ss W hH hblk hsz=>callsIn_wide.2 (AnyM.slices_Sort_int Tryz.sortI blk off cap ss W hH hblk hsz),
   fun p cap W=>callsIn_wide.2 (AnyM.slices_Sort_int_none Tryz.sortI p cap W)⟩
theorem keysR_any (mb:Option Nat) (W:World):Calls Tryz.prog 83 #[.map mb] W fun e w'=>e=.returned (.func (.func 117) #[] #[.pointer (some ⟨W.heap.size,0,none⟩)])∧w'=W.alloc (.cells #[.map mb] 81):=
  callsIn_wide.1 (AnyZI.keys_in Tryz.keysI Fence.wide 5 trivial rfl mb W)
def KeysOf (m:Int→Option Rat) (l:List Int):Prop:=l.Pairwise (· < ·)∧∀i,i∈l↔(m i).isSome=true
theorem keys_sorted {w:World} {b n:Nat} {D:DataW Value} (hown:w.ownsMap Tryz.prog 3 asIs b n D) {ss:List Int} (hp:ss.Perm (intKeys D)):(ss.mergeSort fun x y=>decide (x≤y)).Pairwise (· < ·)∧∀i,i∈(ss.mergeSort fun x y=>decide (x≤y))↔Maps.has D (.int .i64 i)=true:=by
  obtain ⟨es,hD,hpw,_⟩:=hown.entries (int_keyed Tryz.underlying3)
  obtain ⟨es',hD',hko⟩:=hown.keysOf
  obtain rfl:es=es':=by rw[hD] at hD'; simpa using hD'
  subst hD
  have hk:∀p∈es,∃x,p.1=.int .i64 x:=fun p hp=>by obtain ⟨v,hv⟩:=hko p hp; obtain ⟨x,_,hx,_⟩:=Maps.keyOf_i64 Tryz.underlying3 hv; exact ⟨x,hx⟩
  have hnd:(es.map fun p=>_root_.Go.intOf p.1).Nodup:=List.pairwise_map.2 (hpw.imp_of_mem fun {p q} hp' hq' hne e=>hne (by
    obtain ⟨a,ha⟩:=hk p hp'
    obtain ⟨c,hc⟩:=hk q hq'
    rw[ha,hc] at e⊢
    exact congrArg _ e))
  have hms:=List.mergeSort_perm ss (fun x y=>decide (x≤y))
  have hper:(ss.mergeSort fun x y=>decide (x≤y)).Perm (es.map fun p=>_root_.Go.intOf p.1):=hms.trans hp
  have hnd2:(ss.mergeSort fun x y=>decide (x≤y)).Nodup:=hper.nodup_iff.2 hnd
  have hs:(ss.mergeSort fun x y=>decide (x≤y)).Pairwise fun a b=>decide (a≤b)=true:=List.pairwise_mergeSort (fun a b c h1 h2=>by simp only[decide_eq_true_eq] at *; omega) (fun a b=>by simp only[Bool.or_eq_true,decide_eq_true_eq]; omega) ss
  refine ⟨(List.pairwise_and_iff.2 ⟨hs,hnd2⟩).imp fun {a c} h=>?_,fun i=>?_⟩
  · have h1:a≤c:=by simpa using h.1
    have h2:a≠c:=h.2
    omega
  · rw[hper.mem_iff,Maps.has_eq,List.any_eq_true,List.mem_map]
    constructor
    · rintro ⟨p,hp',rfl⟩
      obtain ⟨a,ha⟩:=hk p hp'
      exact ⟨p,hp',by rw[ha]; simp[Lit.sameKey,_root_.Go.intOf]⟩
    · rintro ⟨p,hp',hs⟩
      obtain ⟨a,ha⟩:=hk p hp'
      rw[ha] at hs
      exact ⟨p,hp',by rw[ha]; simpa[Lit.sameKey,_root_.Go.intOf] using hs⟩
theorem sortedR_any {w:World} {b n K:Nat} {m:Int→Option Rat} (hm:RMapIn w b n K m) (hn:n≤1000000) :
    Calls Tryz.prog 44 #[.func (.func 117) #[] #[.pointer (some ⟨w.heap.size,0,none⟩)]] (w.alloc (.cells #[.map (some b)] 81)) fun e w'=>∃(v:Value) (l:List Int),e=.returned v∧KeysOf m l ∧
      w'.ownsRow (w.alloc (.cells #[.map (some b)] 81)).heap.size 3 1 v l.length (l.map encZ)∧Below (w.alloc (.cells #[.map (some b)] 81)).heap.size (w.alloc (.cells #[.map (some b)] 81)) w':=by
  obtain ⟨D,hown,hD⟩:=hm
  have hsz:=hown.size_le
  have hbl:=hown.lt
  have hseq:SeqGives Fence.wide 2 Tryz.prog 117 #[.pointer (some ⟨w.heap.size,0,none⟩)] encZ (fun ss=>ss.Perm (intKeys D)) (Maps.size D) (w.alloc (.cells #[.map (some b)] 81)):=
    AnyZI.keys_gives (ρ:=Tryz.keysI_ren) { Tryz.keysI with } Fence.wide _ trivial rfl (by omega) w.heap.size b n D _ (by simp) (by simp) (by
      obtain ⟨es,clock,hb,Ft,hs,hD⟩:=hown
      exact ⟨es,clock,(Below.heap_alloc _ _ b hbl).trans hb,Ft,hs,hD⟩)
  have cS:=AnyZI.sorted_in Tryz.sortedI Fence.wide 5 trivial trivial trivial trivial rfl (by omega) (sorts_int _) (enters_of Tryz.func88 (by kernel_rfl) rfl) 117 #[.pointer (some ⟨w.heap.size,0,none⟩)] trivial (enters_of Tryz.func117 (by kernel_rfl) rfl) _ _ (by unfold maxLen; omega) (by omega) _ hseq
  change CallsIn _ _ Tryz.prog 44 _ _ _ at cS
  refine (callsIn_wide.1 cS).mono ?_
  rintro e w' ⟨v,ss,rfl,hS,hrow,-,hb⟩
  have hks:=keys_sorted hown hS
  refine ⟨v,_,rfl,⟨hks.1,fun i=>?_⟩,?_,hb⟩
  · rw[hks.2]
    have h:=hD i
    cases hmi:m i with
    | none=>rw[hmi] at h; simp[h]
    | some r=>rw[hmi] at h; simp[h.1]
  · rw[List.length_mergeSort]
    exact hrow
def keyTerms (m:Int→Option Rat) (l:List Int):List (Nat×List UInt8):=l.flatMap fun i=>termOf (tot m i) i.toNat
theorem keyTerms_snoc (m:Int→Option Rat) (l:List Int) (i:Int):keyTerms m (l++[i])=keyTerms m l++termOf (tot m i) i.toNat:=by
  unfold keyTerms
  rw[List.flatMap_append]
  simp
theorem filter_next : ∀{l:List Int},l.Pairwise (· < ·)→∀k:Int,l.filter (fun x=>decide (x<k+1))=l.filter (fun x=>decide (x<k))++(if k∈l then [k] else [])
  | [],_,k=>by simp
  | x::l,h,k=>by
    have hp:=List.pairwise_cons.1 h
    have ih:=filter_next hp.2 k
    rcases Int.lt_trichotomy x k with hx | hx | hx
    · rw[List.filter_cons_of_pos (by simp; omega),List.filter_cons_of_pos (by simp; omega),ih,List.cons_append]
      have:(k∈x::l)↔k∈l:=by
        rw[List.mem_cons]
        exact ⟨fun h=>h.elim (fun e=>by omega) id,.inr⟩
      simp only[this]
    · subst hx
      have h1:l.filter (fun y=>decide (y<x)) = []:=List.filter_eq_nil_iff.2 fun y hy=>by have:=hp.1 y hy; simp; omega
      have h2:l.filter (fun y=>decide (y<x+1)) = []:=List.filter_eq_nil_iff.2 fun y hy=>by have:=hp.1 y hy; simp; omega
      rw[List.filter_cons_of_pos (by simp; omega),List.filter_cons_of_neg (by simp),h1,h2]
      simp
    · have h1:l.filter (fun y=>decide (y<k)) = []:=List.filter_eq_nil_iff.2 fun y hy=>by have:=hp.1 y hy; simp; omega
      have h2:l.filter (fun y=>decide (y<k+1)) = []:=List.filter_eq_nil_iff.2 fun y hy=>by have:=hp.1 y hy; simp; omega
      rw[List.filter_cons_of_neg (by simp; omega),List.filter_cons_of_neg (by simp; omega),h1,h2]
      have:k∉x::l:=fun h=>by
        rcases List.mem_cons.1 h with e | hm
        · omega
        · have:=hp.1 k hm; omega
      rw[if_neg this]
      rfl
theorem keyTerms_all {m:Int→Option Rat} {l:List Int} (hl:KeysOf m l) (h0:∀i,i∈l→0≤i):∀N:Nat,keyTerms m (l.filter fun x=>decide (x<(N:Int)))=sumTerms m N
  | 0=>by
    rw[List.filter_eq_nil_iff.2 fun y hy=>by have:=h0 y hy; simp; omega]
    rfl
  | N+1=>by
    rw[show ((N+1:Nat):Int)=(N:Int)+1 by omega,filter_next hl.1,sumTerms_succ,←keyTerms_all hl h0 N]
    by_cases hm:(N:Int)∈l
    · rw[if_pos hm,keyTerms_snoc]
      rfl
    · rw[if_neg hm,List.append_nil]
      have h1:(m (N:Int)).isSome=false:=by
        have h2:=(hl.2 (N:Int))
        cases h3:(m (N:Int)).isSome with
        | false=>rfl
        | true=>exact absurd (h2.2 h3) hm
      have h4:tot m (N:Int)=0:=by
        unfold tot
        cases h5:m (N:Int) with
        | none=>rfl
        | some r=>rw[h5] at h1; simp at h1
      rw[h4]
      simp[termOf]
theorem keyTerms_sum {m:Int→Option Rat} {l:List Int} (hl:KeysOf m l) {N:Nat} (hN:∀i,(m i).isSome=true→0≤i∧i<(N:Int)):keyTerms m l=sumTerms m N:=by
  rw[←keyTerms_all hl (fun i hi=>(hN i ((hl.2 i).1 hi)).1) N,List.filter_eq_self.2 fun i hi=>ZT (hN i ((hl.2 i).1 hi)).2]
end Go.Proofs.YtdcaaehapdhckaaGreatDoor
set_option maxRecDepth 100000
namespace Go.Proofs.YtdcaaehapdhckaaGreatDoor
open List renaming setIfInBounds_toArray → zLa, set_cons_zero → zLb, set_cons_succ → zLc
open FlowR renaming putSel → zFp
open Act renaming put → zAp
open Nat renaming zero_add → zNz
open Flow.Steps renaming cons → zSc, nil → zSn
open FlowR.Step renaming of → zSo
open Go.RowKit Go.Num Go.Flow Go.Maps Go.WideMaps
set_option maxHeartbeats 8000000
set_option linter.unusedVariables false

theorem key_row {w:World} {B n:Nat} {v:Value} {l:List Int} (h:w.ownsRow B 3 1 v n (l.map encZ)):∃ao c g cur,v=.slice ao n c∧n≤c∧c≤maxLen∧n=l.length∧(0<n→ao=some ⟨g,0,none⟩∧w.heap[g]?=some (.cells cur 3 (0,0)))∧∀j:Nat,j<n→cur[j]?=some (.int .i64 (l.getD j 0)):=by
 have hl:n=l.length:=by have:=h.1; rw[List.length_map] at this; omega
 rcases h.2 with ⟨rfl,h0⟩ | ⟨g,cap,cur,h1,-,h3,h4,h5,h6,h7⟩
 ·subst h0
  exact ⟨none,0,0,#[],rfl,Nat.le_refl _,by unfold maxLen; omega,hl,fun h=>absurd h (by omega),fun j hj=>by omega⟩
 ·refine ⟨_,cap,g,cur,h1,h4,h5,hl,fun _=>⟨rfl,h3⟩,fun j hj=>?_⟩
  have h8:(cur.toList.take (n*1))[j]?=(l.map encZ)[j]?:=by rw[h7]
  have h9:(l.map encZ)[j]?=some (encZ (l.getD j 0)):=by
   rw[List.getElem?_map,List.getD_eq_getElem?_getD,List.getElem?_eq_getElem (l:=l) (i:=j) (by omega)]
   rfl
  rw[List.getElem?_take,if_pos (by omega),h9] at h8
  rw[←Array.getElem?_toList,h8]
theorem keyTerms_take {m:Int→Option Rat} {ks:List Int} {k:Nat} (h:k<ks.length) {kn:Nat} (hk:ks.getD k 0=(kn:Int)):keyTerms m (ks.take (k+1))=keyTerms m (ks.take k)++termOf (tot m (kn:Int)) kn:=by
 rw[List.take_succ_eq_append_getElem h,keyTerms_snoc]
 have:ks[k]=(kn:Int):=by
  rw[←hk,List.getD_eq_getElem?_getD,List.getElem?_eq_getElem h]
  rfl
 rw[this]
 rfl
theorem keyTerms_len (m:Int→Option Rat):∀l:List Int,(keyTerms m l).length≤l.length
 | []=>Nat.le_refl _
 | i::l=>by
  have h1:=keyTerms_len m l
  have h2:(termOf (tot m i) i.toNat).length≤1:=by
   unfold termOf
   split<;>simp
  unfold keyTerms at h1⊢
  rw[List.flatMap_cons,List.length_append,List.length_cons]
  omega
theorem keys_len {m:Int→Option Rat} {l:List Int} (h:KeysOf m l) {N:Nat} (hN:∀i,(m i).isSome=true→0≤i∧i<(N:Int)):l.length≤N:=by
 have h1:∀(l:List Int) (a:Int),l.Pairwise (· < ·)→(∀i,i∈l→a≤i∧i<(N:Int))→a+(l.length:Int)≤(N:Int)∨l = []:=by
  intro l
  induction l with
  | nil=>exact fun _ _ _=>.inr rfl
  | cons x l ih=>
   intro a hp hm
   have hp2:=List.pairwise_cons.1 hp
   have hx:=hm x (by simp)
   rcases ih (x+1) hp2.2 (fun i hi=>⟨by have:=hp2.1 i hi; omega,(hm i (by simp[hi])).2⟩) with h | h
   ·exact .inl (by rw[List.length_cons]; omega)
   ·subst h; exact .inl (by simp; omega)
 rcases h1 l 0 h.1 (fun i hi=>hN i ((h.2 i).1 hi)) with h | h
 ·omega
 ·subst h; simp
theorem mForm_any {w:World} (hg:Glob w) {v:Value} {q0:Rat} {k0:Nat} (hq0:RtIn w v q0 k0) (hk900:k0≤900000) {b nm K:Nat} {m:Int→Option Rat} (hm:RMapIn w b nm K m) (hnm:nm≤1000000) (hK:K≤900000) {N:Nat} (hN1:N≤1000000) (hN:∀i,(m i).isSome=true→0≤i∧i<(N:Int)) :
  Calls Tryz.prog 39 #[v,.map (some b)] w fun e w'=>∃v,e=.returned v∧FormIn w' w.heap.size v (numText q0) (sumTerms m N)∧Below w.heap.size w w':=by
 obtain ⟨s01,a01,c01,l01,s02,a02,c02,l02,rfl⟩:=rt_shape hq0
 obtain ⟨wa,hwa⟩:∃wa,wa=(w.alloc (.cells #[.bool s01,.slice a01 c01 l01,.bool s02,.slice a02 c02 l02] 47)).alloc (.cells #[.string ⟨#[]⟩,.slice none 0 0] 27):=⟨_,rfl⟩
 obtain ⟨br,hbr⟩:∃b,b=w.heap.size:=⟨_,rfl⟩
 obtain ⟨bc,hbc⟩:∃b,b=w.heap.size+1:=⟨_,rfl⟩
 have hal:Below w.heap.size w wa:=by rw[hwa]; exact ((ZR _ w).alloc (Nat.le_refl _) _).alloc (by simp) _
 obtain ⟨k1,k2⟩:=two_made w #[.bool s01,.slice a01 c01 l01,.bool s02,.slice a02 c02 l02] #[.string ⟨#[]⟩,.slice none 0 0] 47 27
 rw[←hwa,←hbr] at k1
 rw[←hwa,←hbc] at k2
 have HGbc:=ZH (show w.heap.size≤bc by omega)
 have HAL:=ZH hal
 have HK0:=ZH k2
 have HM:=ZH (hm.below hal)
 have HG:=ZH (hg.below hal)
 have HQ0:=ZH (hq0.below hal)
 have HNN:=ZH (ZN hN1 hN)
 have HNM:=ZH (Number_any (hq0.below hal) hk900 (hg.below hal))
 have HW:=ZH (ZN hwa (ZN hbr hbc))
 have r0:=ZI k1 0
 have r1:=ZI k1 1
 have r2:=ZI k1 2
 have r3:=ZI k1 3
 simp at r0 r1 r2 r3
 clear hal hwa hbr hbc k1 k2 hm hg hq0 hN
 go_enter Tryz.func39,Tryz.ntmps39
 go_upto_region 1 with fail
 rw[←HW.out.1,←HW.out.2.2,←HW.out.2.1]
 clear HW
 go_wp2_with fail
 refine HNM.out.mono ?_
 rintro e w2 ⟨rfl,hb2⟩
 have HB2:=ZH hb2
 clear hb2 r0 r1 r2 r3
 go_upto_region 2 with fail
 obtain ⟨S,hS⟩:∃S:ByteArray,S=⟨(numText q0).toArray⟩:=⟨_,rfl⟩
 rw[←hS]
 obtain ⟨w3,hw3⟩:∃x,x=w2.alloc (.cells #[.string S,.slice none 0 0] 27):=⟨_,rfl⟩
 obtain ⟨bf,hbf⟩:∃b,b=w2.heap.size:=⟨_,rfl⟩
 rw[←hw3,←hbf]
 have hl3:Below w2.heap.size w2 w3:=by rw[hw3]; exact (ZR _ w2).alloc (Nat.le_refl _) _
 have HGF:=ZH (show wa.heap.size≤bf by rw[hbf]; exact HB2.out.size)
 have kf:w3.heap[bf]?=some (.cells #[.string S,.slice none 0 0] 27 (0,0)):=by rw[hw3,hbf]; exact ZW w2 _
 have HB3:=ZH (HB2.out.trans (hl3.mono HB2.out.size))
 have HKF:=ZH kf
 have HS:=ZH hS
 clear hw3 hl3 kf hS hbf
 go_wp2_with fail
 refine (keysR_any _ _).mono ?_
 rintro e w' ⟨rfl,rfl⟩
 go_wp2_with fail
 refine (sortedR_any (HM.out.below HB3.out) hnm).mono ?_
 rintro e w4 ⟨kv,ks,rfl,hks,hrow,hb4⟩
 obtain ⟨ao,kc,gr,cur,rfl,hkc1,hkc2,hkl,hkb,hcur⟩:=key_row hrow
 have hb34:Below w3.heap.size w3 w4:=((ZR _ w3).alloc (Nat.le_refl _) _).trans (hb4.mono (by simp))
 have HB4:=ZH (HB3.out.trans (hb34.mono HB3.out.size))
 have HKF4:=ZH ((hb34.block bf (ZL HKF.out)).trans HKF.out)
 obtain ⟨n,hn⟩:∃n,n=ks.length:=⟨_,rfl⟩
 rw[←hn] at hkc1 hkb hcur⊢
 have hnN:n≤N:=by rw[hn]; exact keys_len hks HNN.out.2
 have HKS:=ZH (ZN hks (ZN hn hnN))
 have HKB:=ZH hkb
 have HCUR:=ZH hcur
 have hkc2':kc≤9223372036854775807:=hkc2
 have hn10:n≤1000000:=by have:=HNN.out.1; omega
 clear hks hrow hb4 hkl hkb hcur hb34 hn hkc2 HB3 HKF hnN
 go_wp2_with fail
 go_loopg [16] n (fun gkk x wr=>∃(k:Nat) (tv:Value),k+gkk=n∧x=.int .i64 k∧Hid (wr.heap[bf]?=some (.cells #[.string S,tv] 27 (0,0))∧TermRow wr wa.heap.size tv (keyTerms m (ks.take k)))∧Hid (0<n→ao=some ⟨gr,0,none⟩∧wr.heap[gr]?=some (.cells cur 3 (0,0)))∧Hid (Below wa.heap.size wa wr))
 case atStart=>exact ⟨0,_,Nat.zero_add _,rfl,ZH ⟨HKF4.out,World.ownsRow_nil _ _ _ _⟩,HKB,HB4⟩
 case round=>
  obtain ⟨k,tv,hk,rfl,hkf,hkk,hbw⟩:=hrel
  by_cases hlt:k<n
  ·have e1:((k:Int)<(n:Int))=True:=eq_true (by omega)
   have hk0:(0:Int)≤(k:Int):=by omega
   have hk1:(k:Int)<(n:Int):=by omega
   obtain ⟨rfl,hgk⟩:=hkk.out (by omega)
   have hkey:=(HNN.out.2 (ks.getD k 0)) ((HKS.out.1.2 _).1 (by
    have h1:k<ks.length:=by have:=HKS.out.2.1; omega
    rw[List.getD_eq_getElem?_getD,List.getElem?_eq_getElem h1]
    exact List.getElem_mem h1))
   obtain ⟨kn,hkn⟩:∃kn:Nat,ks.getD k 0=(kn:Int):=⟨(ks.getD k 0).toNat,by omega⟩
   have HKT:=ZH (keyTerms_take (m:=m) (show k<ks.length by have:=HKS.out.2.1; omega) hkn)
   have x0:wr.cell? ⟨gr,k,none⟩=some (.int .i64 (kn:Int)):=by rw[ZI hgk k,HCUR.out k hlt,hkn]
   have HGK:=ZH hgk
   have hknN:kn<N:=by omega
   obtain ⟨u,hrun,hu⟩:=(HM.out.below hbw.out).look (i:=(kn:Int)) (by omega) (by have:=HNN.out.1; omega)
   obtain ⟨q,hq⟩:∃q,q=tot m (kn:Int):=⟨_,rfl⟩
   have hu2:RtIn wr u q K:=by rw[hq]; exact hu
   obtain ⟨s1,a1,c1,l1,s2,a2,c2,l2,rfl⟩:=rt_shape hu2
   have HR:=ZH hu2
   have HQ:=ZH hq
   have HLT:=ZH (ZN hlt hknN)
   clear hkey hkn hgk hu hu2 hq hkk hlt hknN
   go_upto_region 6 with fail
   obtain ⟨w4',hw4⟩:∃x,x=wr.alloc (.cells #[.bool s1,.slice a1 c1 l1,.bool s2,.slice a2 c2 l2] 47):=⟨_,rfl⟩
   obtain ⟨bq,hbq⟩:∃b,b=wr.heap.size:=⟨_,rfl⟩
   rw[←hw4,←hbq]
   have hl4:Below wr.heap.size wr w4':=by rw[hw4]; exact (ZR _ wr).alloc (Nat.le_refl _) _
   have kq:w4'.heap[bq]?=some (.cells #[.bool s1,.slice a1 c1 l1,.bool s2,.slice a2 c2 l2] 47 (0,0)):=by rw[hw4,hbq]; exact ZW wr _
   have hkf4:=(hl4.block bf (ZL hkf.out.1)).trans hkf.out.1
   have HT4:=ZH (hkf.out.2.below hl4)
   have HB5:=ZH (hbw.out.trans (hl4.mono hbw.out.size))
   have HR4:=ZH (HR.out.below hl4)
   have HQ4:=ZH kq
   have HF4:=ZH hkf4
   have HGK4:=ZH ((hl4.block gr (ZL HGK.out)).trans HGK.out)
   have z0:=ZI kq 0
   have z1:=ZI kq 1
   have z2:=ZI kq 2
   have z3:=ZI kq 3
   simp at z0 z1 z2 z3
   have HSG:=ZH (ratSign_any HR4.out)
   clear hw4 hbq hl4 kq hkf4 hkf hbw HR x0 hrun HGK
   go_wp2_with fail
   refine HSG.out.mono ?_
   rintro e wc ⟨rfl,hb5⟩
   have HT5:=ZH (HT4.out.below hb5)
   have HF5:=ZH ((hb5.block bf (ZL HF4.out)).trans HF4.out)
   have HBF:=ZH (HB5.out.trans (hb5.mono HB5.out.size))
   have HKQ:=ZH ((hb5.block bq (ZL HQ4.out)).trans HQ4.out)
   have HRQ:=ZH (HR4.out.below hb5)
   have HGK5:=ZH ((hb5.block gr (ZL HGK4.out)).trans HGK4.out)
   clear hb5 z0 z1 z2 z3
   by_cases hz:q.num=0
   ·have e2:(cmpI q.num 0 != 0)=false:=by rw[cmp_nez,hz]; rfl
    have HTE:=ZH (show keyTerms m (ks.take (k+1))=keyTerms m (ks.take k) by
     rw[HKT.out,←HQ.out]
     unfold termOf
     rw[if_pos hz,List.append_nil])
    clear hz
    go_wp2_with fail
    go_roundg (n-(k+1))
    case measure=>have:=HLT.out; omega
    case rel=>exact ⟨k+1,tv,by have:=HLT.out; omega,by congr 1,ZH ⟨HF5.out,by rw[HTE.out]; exact HT5.out⟩,ZH fun _=>⟨trivial,HGK5.out⟩,HBF⟩
   ·have e2:(cmpI q.num 0 != 0)=true:=by rw[cmp_nez]; exact ZT hz
    obtain ⟨ta,tn,tc,rfl⟩:=HT5.out.shape
    obtain ⟨NT,hNT⟩:∃S:ByteArray,S=⟨(numText q).toArray⟩:=⟨_,rfl⟩
    have HNT:=ZH hNT
    have HTS:=ZH (show keyTerms m (ks.take (k+1))=keyTerms m (ks.take k)++[(kn,numText q)] by
     rw[HKT.out,←HQ.out]
     unfold termOf
     rw[if_neg hz])
    obtain ⟨i0,hi,hz0,hz1,hz2⟩:=info_parts infoTerm
    have HI:=ZH (ZN hi (ZN hz0 (ZN hz1 hz2)))
    have HTL:=ZH (show (keyTerms m (ks.take k)).length≤k by have h1:=keyTerms_len m (ks.take k); rw[List.length_take] at h1; omega)
    have HOB:=ZH (HT5.out.off HF5.out (by decide))
    have HOK:=ZH (HT5.out.off HGK5.out (by decide))
    have HWC:=ZH (ZR wc.heap.size wc)
    clear hi hz0 hz1 hz2 hNT hz
    go_upto_region 7 with fail
    refine FlowR.wp_region_sel (fun a b=>Below a.heap.size a b) (fun a=>ZR _ a) (fun _ _ _ h k=>h.trans (k.mono h.size)) [0,1,2,3,4,5,6] [false,false,false,false,false,false,false,false,false,false] [true,true,true,true,true,true,true,false,false,false] (fun i9 v w'=>match i9 with
     | 0=>v=.pointer (some ⟨bf,1,none⟩)
     | 1=>v=.slice ta tn tc
     | 2=>v=.int .i64 (kn:Int)
     | 3=>v=.agg #[.bool s1,.slice a1 c1 l1,.bool s2,.slice a2 c2 l2]
     | 4=>v=.string NT
     | 5=>v=.agg #[.int .i64 (kn:Int),.string NT]
     | _=>∃b,v=.slice (some ⟨b,0,none⟩) 1 1∧w'.heap[b]?=some (.cells #[.int .i64 (kn:Int),.string NT] 85 (0,0))∧wc.heap.size≤b) rfl rfl (by kernel_rfl) (by kernel_rfl) (by kernel_rfl) (by kernel_rfl) ?st ?steps ?fin
    case st=>
     intro i9 v u1 u2 h hb
     match i9 with
     | 0 | 1 | 2 | 3 | 4 | 5=>exact h
     | 6 | _+7=>exact by obtain ⟨b,e,hk,hl⟩:=(show ∃b,v=.slice (some ⟨b,0,none⟩) 1 1∧u1.heap[b]?=some (.cells #[.int .i64 (kn:Int),.string NT] 85 (0,0))∧wc.heap.size≤b from h); exact ⟨b,e,(hb.block b (ZL hk)).trans hk,hl⟩
    case steps=>
     refine zSc (zSo rfl ?s0) (zSc (zSo rfl ?s1) (zSc (zSo rfl ?s2) (zSc (zSo rfl ?s3) (zSc (zSo rfl ?s4) (zSc (zSo rfl ?s5) (zSc (zSo rfl ?s6) zSn))))))
     case s0 | s2=>
      intro xs w' hb hT K9 hK9
      clear hT
      simp only[zFp,zAp,zLa,zLb,zLc,Nat.reduceAdd,zNz] at hK9⊢
      have hw:=Flow.hwD HWC.out hb
      go_simp
      exact hK9 _ _ (ZR _ _) rfl
     case s1=>
      intro xs w' hb hT K9 hK9
      have h0:(xs 0)=.pointer (some ⟨bf,1,none⟩):=hT 0 (by kernel_rfl)
      clear hT
      simp only[zFp,zAp,zLa,zLb,zLc,Nat.reduceAdd,zNz] at hK9⊢
      have hw:=Flow.hwD HWC.out hb
      have kb:=(hw.block bf (ZL HF5.out)).trans HF5.out
      have y0:=ZI kb 1
      clear kb
      simp at y0
      (try simp only[h0] at hK9)
      go_simp
      exact hK9 _ _ (ZR _ _) rfl
     case s3=>
      intro xs w' hb hT K9 hK9
      clear hT
      simp only[zFp,zAp,zLa,zLb,zLc,Nat.reduceAdd,zNz] at hK9⊢
      have hw:=Flow.hwD HWC.out hb
      have kb:=(hw.block bq (ZL HKQ.out)).trans HKQ.out
      have y0:=ZI kb 0
      have y1:=ZI kb 1
      have y2:=ZI kb 2
      have y3:=ZI kb 3
      clear kb
      simp at y0 y1 y2 y3
      go_simp
      exact hK9 _ _ (ZR _ _) rfl
     case s4=>
      intro xs w' hb hT K9 hK9
      have h3:(xs 3)=.agg #[.bool s1,.slice a1 c1 l1,.bool s2,.slice a2 c2 l2]:=hT 3 (by kernel_rfl)
      clear hT
      simp only[zFp,zAp,zLa,zLb,zLc,Nat.reduceAdd,zNz] at hK9⊢
      have hw:=Flow.hwD HWC.out hb
      (try simp only[h3] at hK9)
      go_simp
      go_at_call 37
      refine (Number_any (HRQ.out.below hw) hK (HG.out.below (HBF.out.trans (hw.mono HBF.out.size)))).mono ?_
      rintro e w3 ⟨rfl,hb3⟩
      exact hK9 _ _ hb3 (by rw[HNT.out])
     case s5=>
      intro xs w' hb hT K9 hK9
      have h2:(xs 2)=.int .i64 (kn:Int):=hT 2 (by kernel_rfl)
      have h4:(xs 4)=.string NT:=hT 4 (by kernel_rfl)
      clear hT
      simp only[zFp,zAp,zLa,zLb,zLc,Nat.reduceAdd,zNz] at hK9⊢
      have hw:=Flow.hwD HWC.out hb
      (try simp only[h2] at hK9)
      (try simp only[h4] at hK9)
      go_simp
      exact hK9 _ _ (ZR _ _) rfl
     case s6=>
      intro xs w' hb hT K9 hK9
      have h5:(xs 5)=.agg #[.int .i64 (kn:Int),.string NT]:=hT 5 (by kernel_rfl)
      clear hT
      simp only[zFp,zAp,zLa,zLb,zLc,Nat.reduceAdd,zNz] at hK9⊢
      have hw:=Flow.hwD HWC.out hb
      (try simp only[h5] at hK9)
      go_simp
      exact hK9 _ _ ((ZR _ _).alloc (Nat.le_refl _) _) ⟨_,rfl,ZW _ _,by have h1:=(ZR wc.heap.size wc).drew.size; have h2:=hw.size; omega⟩
    case fin=>
     intro xs w' hb hT
     have hw:=Flow.hwD HWC.out hb
     have h1:(xs 1)=.slice ta tn tc:=hT 1 (by rfl)
     have h6:∃b,(xs 6)=.slice (some ⟨b,0,none⟩) 1 1∧w'.heap[b]?=some (.cells #[.int .i64 (kn:Int),.string NT] 85 (0,0))∧wc.heap.size≤b:=hT 6 (by rfl)
     clear hT
     simp only[zFp,zAp,zLa,zLb,zLc,Nat.reduceAdd,zNz,FlowR.restL,FlowR.orM,Bool.false_or]
     obtain ⟨b6,e6,k6,hl6⟩:=h6
     simp only[h1,e6]
     clear h1 e6 hb
     have kf7:=(hw.block bf (ZL HF5.out)).trans HF5.out
     have TT:=ZH (HT5.out.below hw)
     have HW7:=ZH hw
     have HKF7:=ZH kf7
     have HK6:=ZH (ZN k6 hl6)
     clear hw kf7 k6 hl6
     refine wpList_append_own _ rfl _ _ 25 rfl wa.heap.size 85 i0 _ 2 24 Tryz.underlying25 HI.out.1 HI.out.2.1 HI.out.2.2.1 HI.out.2.2.2 rfl (by decide) _ _ _ rfl TT.out ⟨b6,0,none⟩ 1 1 [.int .i64 (kn:Int),.string NT] rfl rfl ?c1 ?c2 ?c3 ?c4 ?c5 ?_
     case c1=>exact World.news_of_block HK6.out.1
     case c2=>simp[Value.oneCell']
     case c3=>have:=HTL.out; have:=HLT.out; unfold maxLen; omega
     case c4=>have:=HTL.out; have:=HLT.out; omega
     case c5=>have h1:=HBF.out.size; have h2:=HW7.out.size; omega
     intro v7 w7 hown7 hg7 _
     have k7:=(hg7.block bf (by have h1:=ZL HF5.out; have h2:=HW7.out.size; omega) (fun e=>HOB.out bf e.symm rfl)).trans HKF7.out
     have kk7:=(hg7.block gr (by have h1:=ZL HGK5.out; have h2:=HW7.out.size; omega) (fun e=>HOK.out gr e.symm rfl)).trans ((HW7.out.block gr (ZL HGK5.out)).trans HGK5.out)
     have y1:=ZI k7 1
     have g1:=ZF k7 1
     simp at y1
     have hb7:=(HBF.out.trans (HW7.out.mono HBF.out.size)).grown hg7 (by have h1:=HBF.out.size; have h2:=HW7.out.size; omega) (fun q e=>(World.ownsRow.lt TT.out q e).1)
     have hr7:TermRow w7 wa.heap.size v7 (keyTerms m (ks.take (k+1))):=by
      rw[HTS.out]
      rw[HNT.out] at hown7
      exact TermRow.snoc hown7
     obtain ⟨a7,n7,c7,rfl⟩:=hr7.shape
     have HO7:=ZH (hr7.off k7 (by decide))
     have HR7:=ZH hr7
     clear hr7
     have hgb:gr≠bf:=fun e=>by
      rw[e] at kk7
      rw[k7] at kk7
      simp at kk7
     have H7:=ZH (ZN hown7 (ZN k7 (ZN hb7 (ZN kk7 hgb))))
     clear hown7 hg7 k7 hb7 kk7 hgb
     go_wp2_with fail
     go_roundg (n-(k+1))
     case measure=>have:=HLT.out; omega
     case rel=>exact ⟨k+1,_,by have:=HLT.out; omega,by congr 1,ZH ⟨two_set1 H7.out.2.1 _,TermRow.setNe HR7.out HO7.out 1 _⟩,ZH fun _=>⟨trivial,(Below.heap_setCell _ _ _ _ H7.out.2.2.2.2).trans H7.out.2.2.2.1⟩,ZH (H7.out.2.2.1.setCell (p:=⟨bf,1,none⟩) HGF.out _)⟩
  ·have e1:((k:Int)<(n:Int))=False:=eq_false (by omega)
   obtain rfl:k=n:=by omega
   have HSUM:=ZH (show keyTerms m (ks.take k)=sumTerms m N by
    rw[List.take_of_length_le (by have:=HKS.out.2.1; omega)]
    exact keyTerms_sum HKS.out.1 HNN.out.2)
   obtain ⟨ta,tn,tc,rfl⟩:=hkf.out.2.shape
   have y0:=ZI hkf.out.1 0
   have y1:=ZI hkf.out.1 1
   simp at y0 y1
   have hkc:=(hbw.out.block bc (ZL HK0.out)).trans HK0.out
   have z0:=ZI hkc 0
   have z1:=ZI hkc 1
   have f0:=ZF hkc 0
   have f1:=ZF hkc 1
   simp at z0 z1
   have hr:=(hkf.out.2.set (ZL HK0.out) 0 (.string S)).set (ZL HK0.out) 1 (.slice ta tn tc)
   have hb:=((HAL.out.trans (hbw.out.mono HAL.out.size)).setCell (p:=⟨bc,0,none⟩) HGbc.out (.string S)).setCell (p:=⟨bc,1,none⟩) HGbc.out (.slice ta tn tc)
   rw[HSUM.out] at hr
   have HF:=ZH (ZN hr hb)
   clear hr hb hkc hkf
   go_wp2_with fail
   refine bodyPost_ret (v:=.agg #[.string S,.slice ta tn tc]) (by simp[results,Tryz.results39,go_sem,z0,z1]) rfl ⟨_,rfl,⟨_,by rw[HS.out],?_⟩,HF.out.2⟩
   exact World.ownsRow.mono HF.out.1 HAL.out.size
end Go.Proofs.YtdcaaehapdhckaaGreatDoor
set_option maxRecDepth 100000
namespace Go.Proofs.YtdcaaehapdhckaaGreatDoor
open Go.RowKit Go.Num Go.Flow
set_option maxHeartbeats 8000000
set_option linter.unusedVariables false

theorem grow_any {w:World} {n:Nat} (hn:n≤1000000):Calls Tryz.prog 98 #[.slice none 0 0,.int .i64 (n:Int)] w fun e w'=>∃v,e=.returned v∧TermRow w' w.heap.size v []∧Below w.heap.size w w':=by
 rcases Nat.eq_zero_or_pos n with h0 | h0
 ·subst h0
  refine (Any8.slices_Grow_room Tryz.growT none 0 0 0 w (Nat.le_refl _) (by omega) (by omega) (Nat.le_refl _)).mono ?_
  rintro e w' ⟨rfl,rfl⟩
  exact ⟨_,rfl,World.ownsRow_nil _ _ _ _,ZR _ _⟩
 ·obtain ⟨i0,hi,hz0,hz1,hz2⟩:=info_parts infoTerm
  refine (Any8.slices_Grow_grow Tryz.growT i0 _ hi hz0 (by omega) none 0 0 n [] w (Nat.le_refl _) (by omega) (by rw[hz2]; omega) (by omega) (by simp) (fun _=>rfl) (fun _ h=>by cases h)).mono ?_
  rintro e w' ⟨rfl,rfl⟩
  have hge:=grownCap_ge w (0+n) 0 85
  have hcm:=grownCap_le_maxLen w (0+n) 0 85 (by unfold maxLen; omega)
  refine ⟨_,rfl,⟨by simp[termCells],.inr ⟨w.heap.size,_,_,rfl,Nat.le_refl _,ZW w.drew _,Nat.zero_le _,hcm,?_,by simp[termCells]⟩⟩,((ZR _ w).drew).alloc ((ZR w.heap.size w).drew.size) _⟩
  simp only[Array.size_append,List.size_toArray,size_zeroCells,List.length_nil]
  rw[show (Value.agg #[.int .i64 0,.string ⟨#[]⟩]).cells.size=2 from rfl]
  have hge2:0+n≤grownCap w (0+n) 0 (Tryz.growT_ren.t 25):=hge
  omega
theorem termCells_len : ∀l:List (Nat×List UInt8),(termCells l).length=l.length*2
 | []=>rfl
 | p::l=>by
  have h:=termCells_len l
  unfold termCells at h⊢
  rw[List.flatMap_cons,List.length_append,h,List.length_cons]
  simp
  omega
theorem news_at {w:World} {g o:Nat} {l:List (Nat×List UInt8)} (h:∀j,j<l.length→w.cell? ⟨g,o+j*2,none⟩=some (.int .i64 ((l.getD j (0,[])).1:Int))∧w.cell? ⟨g,o+j*2+1,none⟩=some (.string ⟨(l.getD j (0,[])).2.toArray⟩)) :
  ∀j u,(termCells l)[j]?=some u→w.cell? ((⟨g,o,none⟩:Addr).add j)=some u:=by
 intro j u hj
 have hl:=termCells_len l
 have hjl:=(List.getElem?_eq_some_iff.1 hj).1
 have hq:j/2<l.length:=by omega
 have hf:=flat_at (fun p:Nat×List UInt8=>[Value.int .i64 (p.1:Int),.string ⟨p.2.toArray⟩]) 2 (fun _=>rfl) l (j/2) hq (j%2) (by omega)
 rw[show j/2*2+j%2=j by omega] at hf
 have hh:=h (j/2) hq
 rw[List.getD_eq_getElem?_getD,List.getElem?_eq_getElem hq] at hh
 have hf2:(termCells l)[j]? = [Value.int .i64 ((l[j/2]).1:Int),.string ⟨(l[j/2]).2.toArray⟩][j%2]?:=hf
 rw[hf2] at hj
 have hadd:((⟨g,o,none⟩:Addr).add j)=⟨g,o+j,none⟩:=by simp[Addr.add]
 rw[hadd]
 rcases (show j%2=0∨j%2=1 by omega) with h2 | h2
 ·rw[h2] at hj
  rw[show o+j=o+j/2*2 by omega,hh.1]
  simpa using hj
 ·rw[h2] at hj
  rw[show o+j=o+j/2*2+1 by omega,hh.2]
  simpa using hj
theorem news_one (l:List (Nat×List UInt8)):∀u∈termCells l,u.oneCell'=true:=by
 intro u hu
 unfold termCells at hu
 obtain ⟨p,_,hp⟩:=List.mem_flatMap.1 hu
 simp only[List.mem_cons,List.not_mem_nil,or_false] at hp
 rcases hp with rfl | rfl<;>rfl
theorem wpList_append_run {P:Program} (w:World) {ops:Array Oper} {rest:List Oper} {o:Oper} {a:Act} {Q:Exit→Act→World→Prop} (hgd:o.guard=none) (s x:Operand) (t:TypeId)
  (ho:o.op=.call { callee:=.builtin .append,args:=#[s,x],argTypes:=#[t,t] }) (v xv:Value) (hs:a.eval s=v) (hx:a.eval x=xv) {v':Value} {w':World} (hr:(Builtin.append_ #[t,t] o.type #[v,xv]).run P w=.ok v' w')
  (h:wpList P ops Q rest (a.put o.dst v') w'):wpList P ops Q (o::rest) a w:=
 wpList_plain hgd fun _ hK=>by
  unfold Oper.wp execOp
  simp only[ho,resolve,invoke,builtin,Sem.run_bind,Sem.run_pure,Result.andThen_ok,List.map_toArray,List.map_cons,List.map_nil,hs,hx,hr]
  exact hK _ _ h
theorem append_terms {w:World} {B:Nat} {v x:Value} {l m:List (Nat×List UInt8)} (hv:TermRow w B v l) (hx:TermsIn w x m) (hl:l.length+m.length≤1000000) (hB:B≤w.heap.size) :
  ∃v' w',(Builtin.append_ #[25,25] 25 #[v,x]).run Tryz.prog w=.ok v' w'∧TermRow w' B v' (l++m)∧w.grownBy w' v.ownBlock:=by
 obtain ⟨ao,c,rfl,h1,h2,h3⟩:=hx
 obtain ⟨i0,hi,hz0,hz1,hz2⟩:=info_parts infoTerm
 have hc:termCells (l++m)=termCells l++termCells m:=by unfold termCells; rw[List.flatMap_append]
 cases ao with
 | none=>
  have hm:m = []:=by
   rcases Nat.eq_zero_or_pos m.length with h | h
   ·exact List.eq_nil_of_length_eq_zero h
   ·obtain ⟨g,o,e,-⟩:=h3 h; cases e
  subst hm
  obtain ⟨ao,n,c',rfl⟩:=hv.shape
  have hle:n≤c':=by
   rcases hv.2 with ⟨h4,h5⟩ | ⟨g,cap,cur,h4,h5,h6,h7,-⟩
   ·cases h4; omega
   ·cases h4; exact h7
  refine ⟨_,w,run_append_nothing w 25 25 25 85 i0 Tryz.underlying25 hi ao n c' hle (.slice none 0 c) ⟨.inl ⟨_,Tryz.underlying25⟩,fun w'=>rfl,?_,?_,by simp,by simp⟩,by rw[List.append_nil]; exact hv,grown_refl _ _⟩
  ·exact run_firstCells_none w i0.size 0 0 c
  ·exact run_firstCells_none w.drew i0.size 0 0 c
 | some a=>
  obtain ⟨g,o,sp⟩:=a
  have hcell:∀j u,(termCells m)[j]?=some u→w.cell? ((⟨g,o,sp⟩:Addr).add j)=some u:=by
   rcases Nat.eq_zero_or_pos m.length with h | h
   ·rw[List.eq_nil_of_length_eq_zero h]
    intro j u hj
    simp[termCells] at hj
   ·obtain ⟨g',o',e,hg,hcc⟩:=h3 h
    cases e
    exact news_at hcc
  obtain ⟨v',w',hr,hr2,hr3,-⟩:=run_append_own_wide (P:=Tryz.prog) (w:=w) B 25 25 85 i0 _ 2 24 Tryz.underlying25 hi hz0 hz1 hz2 rfl (by decide) v l.length (termCells l) hv ⟨g,o,sp⟩ m.length c (termCells m) (termCells_len m) hcell (news_one m) (by unfold maxLen; omega) (by omega) hB
  exact ⟨v',w',hr,by unfold TermRow; rw[List.length_append,hc]; exact hr2,hr3⟩
theorem concat_any {w:World} {b:Nat} {v1 v2:Value} {l1 l2:List (Nat×List UInt8)} (hk:w.heap[b]?=some (.cells #[v1,v2] 25 (0,0))) (h1:TermsIn w v1 l1) (h2:TermsIn w v2 l2) (hs1:l1.length≤10000) (hs2:l2.length≤10000) :
  Calls Tryz.prog 58 #[.slice (some ⟨b,0,none⟩) 2 2] w fun e w'=>∃v,e=.returned v∧TermRow w' w.heap.size v (l1++l2)∧Below w.heap.size w w':=by
 obtain ⟨a1,c1,e1,-,hc1,-⟩:=id h1
 obtain ⟨a2,c2,e2,-,hc2,-⟩:=id h2
 obtain ⟨n1,hn1⟩:∃n,n=l1.length:=⟨_,rfl⟩
 obtain ⟨n2,hn2⟩:∃n,n=l2.length:=⟨_,rfl⟩
 rw[←hn1] at e1
 rw[←hn2] at e2
 subst e1 e2
 have HK:=ZH hk
 have H1:=ZH h1
 have H2:=ZH h2
 have HN:=ZH (ZN hn1 (ZN hn2 (ZN hs1 hs2)))
 have x0:=ZI hk 0
 have x1:=ZI hk 1
 simp at x0 x1
 have w1:wrap64 (n1:Int)=(n1:Int):=IntWalk.wrap64_in _ (by omega)
 have w2:wrap64 ((n1:Int)+(n2:Int))=((n1+n2:Nat):Int):=by rw[IntWalk.wrap64_in _ (by omega)]; omega
 clear hk h1 h2 hs1 hs2 hn1 hn2 hc1 hc2
 go_enter Tryz.func58,Tryz.ntmps58
 go_wp2_with fail
 go_loopg [3,11] 2 (fun gk y x wr=>∃(k s:Nat),k+gk=2∧x=.int .i64 k∧y=.int .i64 s∧w=wr∧(k=0∧0=s∨k=1∧n1=s∨k=2∧n1+n2=s))
 case atStart=>exact ⟨0,0,rfl,rfl,rfl,rfl,.inl ⟨rfl,rfl⟩⟩
 case round=>
  obtain ⟨k,s,hk,rfl,rfl,rfl,h⟩:=hrel
  have l1:((n1:Int)<0)=False:=eq_false (by omega)
  have l2:(((n1+n2:Nat):Int)<0)=False:=eq_false (by omega)
  rcases h with ⟨rfl,rfl⟩ | ⟨rfl,rfl⟩ | ⟨rfl,rfl⟩
  ·go_wp2_with fail
   go_roundg 1
   case measure=>omega
   case rel=>exact ⟨1,n1,rfl,rfl,by rw[w1],rfl,.inr (.inl ⟨rfl,rfl⟩)⟩
  ·go_wp2_with fail
   go_roundg 0
   case measure=>omega
   case rel=>exact ⟨2,n1+n2,rfl,rfl,by rw[w2],rfl,.inr (.inr ⟨rfl,rfl⟩)⟩
  ·clear l1 l2 w1 w2
   go_wp2_with fail
   refine (grow_any (by have:=HN.out; omega)).mono ?_
   rintro e w1 ⟨v,rfl,hv,hb1⟩
   obtain ⟨ag,ng,cg,rfl⟩:=hv.shape
   have HB1:=ZH hb1
   have HV2:=ZH hv
   have HK1:=ZH ((hb1.block b (ZL HK.out)).trans HK.out)
   clear hv hb1 x0 x1
   go_wp2_with fail
   go_loopg [6,27] 2 (fun gk y x wr=>∃(k:Nat) (l:List (Nat×List UInt8)),k+gk=2∧x=.int .i64 k∧Hid (TermRow wr w.heap.size y l)∧Hid (Below w.heap.size w wr)∧(k=0∧[]=l∨k=1∧l1=l∨k=2∧l1++l2=l))
   case atStart=>exact ⟨0,[],rfl,rfl,HV2,HB1,.inl ⟨rfl,rfl⟩⟩
   case round=>
    obtain ⟨k,l,hk,rfl,hrow,hbw,h⟩:=hrel
    have hkk:=(hbw.out.block b (ZL HK.out)).trans HK.out
    have y0:=ZI hkk 0
    have y1:=ZI hkk 1
    simp at y0 y1
    clear hkk
    rcases h with ⟨rfl,rfl⟩ | ⟨rfl,rfl⟩ | ⟨rfl,rfl⟩
    ·obtain ⟨v2,w2,hrun,hr2,hg2⟩:=append_terms hrow.out (H1.out.below hbw.out) (by have:=HN.out; simp; omega) hbw.out.size
     have HR2:=ZH hr2
     have HB2:=ZH (hbw.out.grown hg2 hbw.out.size (fun q e=>(World.ownsRow.lt hrow.out q e).1))
     clear hr2 hg2
     go_wp2_with (at_builtin; refine wpList_append_run _ rfl _ _ 25 rfl _ _ rfl rfl hrun ?_)
     go_roundg 1
     case measure=>omega
     case rel=>exact ⟨1,_,rfl,rfl,HR2,HB2,.inr (.inl ⟨rfl,rfl⟩)⟩
    ·obtain ⟨v2,w2,hrun,hr2,hg2⟩:=append_terms hrow.out (H2.out.below hbw.out) (by have:=HN.out; omega) hbw.out.size
     have HR2:=ZH hr2
     have HB2:=ZH (hbw.out.grown hg2 hbw.out.size (fun q e=>(World.ownsRow.lt hrow.out q e).1))
     clear hr2 hg2
     go_wp2_with (at_builtin; refine wpList_append_run _ rfl _ _ 25 rfl _ _ rfl rfl hrun ?_)
     go_roundg 0
     case measure=>omega
     case rel=>exact ⟨2,_,rfl,rfl,HR2,HB2,.inr (.inr ⟨rfl,rfl⟩)⟩
    ·go_wp2_with fail
     go_ret
     exact ⟨_,rfl,hrow.out,hbw.out⟩
end Go.Proofs.YtdcaaehapdhckaaGreatDoor
