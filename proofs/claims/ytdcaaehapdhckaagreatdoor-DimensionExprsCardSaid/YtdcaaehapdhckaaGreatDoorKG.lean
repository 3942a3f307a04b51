/- Rationals: digits; Cut, Trim, TrimPrefix as read asks for them. -/
import Derived.Test.YtdcaaehapdhckaaGreatDoorKF
import Derived.Shelf.Strings.SlTrimAscii
import Derived.Test.YtdcaaehapdhckaaGreatDoorKD
set_option linter.unusedSimpArgs false
set_option linter.unusedVariables false
set_option maxRecDepth 100000
namespace Go.Proofs.YtdcaaehapdhckaaGreatDoor
open Go.RowKit Go.Num
set_option maxHeartbeats 4000000

theorem isDig_mem (b:UInt8):([48,49,50,51,52,53,54,55,56,57]:List UInt8).contains b=isDig b:=by
 unfold isDig
 rw[Bool.eq_iff_iff,List.contains_iff_mem]
 simp only[List.mem_cons,List.not_mem_nil,or_false,Bool.and_eq_true,decide_eq_true_eq,←UInt8.toNat_inj]
 simp
 omega
theorem drop_while_all {p:UInt8→Bool}:∀l:List UInt8,(l.dropWhile p = [])↔l.all p=true:=by
 intro l
 induction l with
 | nil=>simp
 | cons b r ih=>rw[List.dropWhile_cons,List.all_cons]; cases h:p b<;>simp[ih]
theorem trim_all (l cs:List UInt8):(Lib.trimS l cs = [])↔(l.all fun b=>cs.contains b)=true:=by
 unfold Lib.trimS Lib.trimLeftS Lib.trimRightS
 rw[drop_while_all]
 constructor
 ·intro h
  by_cases h2:(l.reverse.dropWhile (cs.contains ·)).reverse = []
  ·rw[List.reverse_eq_nil_iff,drop_while_all,List.all_reverse] at h2
   exact h2
  ·obtain ⟨b,r,hb⟩:=List.exists_cons_of_ne_nil (l:=l.reverse.dropWhile (cs.contains ·)) (by intro h3; exact h2 (by rw[h3]; rfl))
   have hn:=List.head?_dropWhile_not (cs.contains ·) l.reverse
   rw[hb] at hn
   rw[hb,List.all_reverse,List.all_cons,Bool.and_eq_true] at h
   simp at hn
   simp[hn] at h
 ·intro h
  have h2:l.reverse.dropWhile (cs.contains ·) = []:=(drop_while_all _).2 (by rw[List.all_reverse]; exact h)
  rw[h2]
  rfl
theorem trim_zero (l:List UInt8):(Lib.trimB l 48 = [])↔(l.all fun b=>b==48)=true:=by
 rw[←Lib.trimS_one,trim_all]
 simp only[List.contains_cons,List.contains_nil,Bool.or_false]
def digs (l:List UInt8):Bool:=!l.isEmpty&&l.all isDig
theorem Trim_digits (s:ByteArray) (hs:s.size≤1099511627776) (w:World):Calls Tryz.prog 128 #[.string s,.string ⟨#[48,49,50,51,52,53,54,55,56,57]⟩] w fun e w'=>e=.returned (.string ⟨(Lib.trimS s.data.toList [48,49,50,51,52,53,54,55,56,57]).toArray⟩)∧Below w.heap.size w w':=
 Any.strings_Trim_laid Tryz.lays160 (by kernel_rfl) s ⟨#[48,49,50,51,52,53,54,55,56,57]⟩ w (by omega) (by decide) (ascii_of_all (by decide))
theorem digits_any (s:ByteArray) (hs:s.size≤1099511627776) (w:World):Calls Tryz.prog 126 #[.string s] w fun e w'=>e=.returned (.bool (digs s.data.toList))∧Below w.heap.size w w':=by
 have HT:=ZH (Trim_digits s hs w)
 have hta:=trim_all s.data.toList [48,49,50,51,52,53,54,55,56,57]
 simp only[isDig_mem] at hta
 by_cases h0:s.toList = []
 ·have hd:digs s.data.toList=false:=by
   unfold digs
   rw[←ByteArray.toList_eq,h0]
   rfl
  have hE2:s.toList.isEmpty=true:=by rw[h0]; rfl
  have HD:=ZH hd
  clear hd hta
  go_enter Tryz.func126,Tryz.ntmps126
  go_upto_region 1 with fail
  go_wp2_with fail
  go_ret
  exact ⟨by rw[HD.out]; rfl,ZR _ _⟩
 ·have hE2:s.toList.isEmpty=false:=by simpa using h0
  have hE3:(s.toList = [])=False:=eq_false h0
  have hd:digs s.data.toList=s.data.toList.all isDig:=by
   unfold digs
   rw[←ByteArray.toList_eq,hE2]
   rfl
  obtain ⟨T,hT⟩:∃T:ByteArray,T=⟨(Lib.trimS s.data.toList [48,49,50,51,52,53,54,55,56,57]).toArray⟩:=⟨_,rfl⟩
  rw[←hT] at HT
  have hTl:T.toList=Lib.trimS s.data.toList [48,49,50,51,52,53,54,55,56,57]:=by rw[ByteArray.toList_eq,hT]
  rw[←hTl] at hta
  have HD:=ZH (ZN hd hta)
  clear hd hta hT hTl
  by_cases h1:T.toList = []
  ·have hE4:T.toList.isEmpty=true:=by rw[h1]; rfl
   go_enter Tryz.func126,Tryz.ntmps126
   go_upto_region 1 with fail
   go_wp2_with fail
   refine HT.out.mono ?_
   rintro e w1 ⟨rfl,hb⟩
   go_wp2_with fail
   go_ret
   exact ⟨by rw[HD.out.1,HD.out.2.1 h1]; rfl,hb⟩
  ·have hE4:T.toList.isEmpty=false:=by simpa using h1
   have hE5:(T.toList = [])=False:=eq_false h1
   go_enter Tryz.func126,Tryz.ntmps126
   go_upto_region 1 with fail
   go_wp2_with fail
   refine HT.out.mono ?_
   rintro e w1 ⟨rfl,hb⟩
   go_wp2_with fail
   go_ret
   refine ⟨?_,hb⟩
   rw[HD.out.1]
   cases ha:s.data.toList.all isDig with
   | true=>exact absurd (HD.out.2.2 ha) h1
   | false=>rfl
end Go.Proofs.YtdcaaehapdhckaaGreatDoor
set_option maxRecDepth 100000
namespace Go.Proofs.YtdcaaehapdhckaaGreatDoor
open List renaming setIfInBounds_toArray → zLa, set_cons_zero → zLb, set_cons_succ → zLc, take_succ_cons → zLd, take_zero → zLe
open Act renaming put → zAp
open Nat renaming zero_add → zNz
open Go.RowKit Go.Num Go.Flow
set_option maxHeartbeats 16000000

theorem trimPrefix_minus (l:List UInt8):Lib.trimPrefix l [45]=unsign l:=by
 unfold Lib.trimPrefix unsign
 rw[prefix_minus]
 unfold hasMinus
 by_cases h:l.head?=some 45
 ·rw[if_pos h,if_pos (ZT h)]
  exact List.drop_one
 ·rw[if_neg h,if_neg (by simpa using h)]
theorem cut_le (l sep:List UInt8):(Lib.cut l sep).1.length≤l.length∧(Lib.cut l sep).2.1.length≤l.length:=by
 unfold Lib.cut
 split
 ·exact ⟨by rw[List.length_take]; omega,by rw[List.length_drop]; omega⟩
 ·exact ⟨Nat.le_refl _,Nat.zero_le _⟩
theorem unsign_le (l:List UInt8):(unsign l).length≤l.length:=by
 unfold unsign
 split
 ·rw[List.length_tail]; omega
 ·exact Nat.le_refl _
def readErr (l:List UInt8) (most:Nat):Int:=
 if most<l.length then 5
 else if digs (unsign (Lib.cut l [47]).1)=false∨((Lib.cut l [47]).2.2=true∧digs (Lib.cut l [47]).2.1=false) then 14
 else if (Lib.cut l [47]).2.2=true∧((Lib.cut l [47]).2.1.all fun b=>b==48)=true then 19
 else if parseErr (Lib.cut l [47]).1≠0 then 3
 else if (Lib.cut l [47]).2.2=false then 0
 else if parseErr (Lib.cut l [47]).2.1≠0∨parseVal (Lib.cut l [47]).2.1=1∨((Nat.gcd (parseVal (Lib.cut l [47]).1).natAbs (parseVal (Lib.cut l [47]).2.1).natAbs:Nat):Int)≠1 then 3 else 0
def readVal (l:List UInt8):Rat:=if (Lib.cut l [47]).2.2=true then Rat.divInt (parseVal (Lib.cut l [47]).1) (parseVal (Lib.cut l [47]).2.1) else ((parseVal (Lib.cut l [47]).1:Int):Rat)
def ReadPost (w:World) (l:List UInt8) (most:Nat) (e:Ending) (w':World):Prop:=∃v,e=.returned (.tuple #[v,.int .i64 (readErr l most)])∧(readErr l most=0→RtIn w' v (readVal l) (l.length+2))∧(readErr l most≠0→v=.agg #[.bool false,.slice none 0 0,.bool false,.slice none 0 0])∧Below w.heap.size w w'
theorem dval_zero : ∀l:List UInt8,l.all isDig=true→dval 0 l=0→(l.all fun b=>b==48)=true:=by
 intro l
 induction l with
 | nil=>intro _ _; rfl
 | cons b r ih=>
  intro h h0
  rw[List.all_cons,Bool.and_eq_true] at h
  rw[dval_cons,dval_shift] at h0
  have h1:(0*10+(b.toNat-48))*10^r.length=0:=by omega
  have h2:dval 0 r=0:=by omega
  have h3:b.toNat-48=0:=by
   rcases Nat.mul_eq_zero.1 h1 with h4 | h4
   ·omega
   ·exact absurd h4 (Nat.ne_of_gt (Nat.pow_pos (by decide)))
  have h5:=h.1
  unfold isDig at h5
  rw[List.all_cons,Bool.and_eq_true]
  refine ⟨?_,ih h.2 h2⟩
  rw[beq_iff_eq,←UInt8.toNat_inj]
  simp at h5
  show b.toNat=48
  omega
theorem digs_plain {l:List UInt8} (h:digs l=true):hasMinus l=false∧parseVal l=(dval 0 l:Int):=by
 have h1:hasMinus l=false:=by
  unfold digs at h
  rw[Bool.and_eq_true] at h
  unfold hasMinus
  cases l with
  | nil=>rfl
  | cons b r=>
   rw[List.all_cons,Bool.and_eq_true] at h
   have h2:=h.2.1
   rw[decide_eq_false_iff_not,List.head?_cons]
   intro h3
   obtain rfl:=Option.some.inj h3
   exact absurd h2 (by decide)
 refine ⟨h1,?_⟩
 unfold parseVal unsign
 unfold hasMinus at h1
 rw[if_neg (by simp[hasMinus]; simpa using h1),if_neg (by simpa using h1)]
theorem read_any (s:ByteArray) (hs:s.size≤4294967280) (most:Nat) (hm:most≤65536) {w:World} (hg:Glob w):Calls Tryz.prog 97 #[.string s,.int .i64 (most:Int)] w (ReadPost w s.data.toList most):=by
 obtain ⟨wa,hwa⟩:∃wa,wa=w.alloc (.cells #[.bool false,.slice none 0 0,.bool false,.slice none 0 0] 47):=⟨_,rfl⟩
 obtain ⟨bc,hbc⟩:∃b,b=w.heap.size:=⟨_,rfl⟩
 have hal:Below w.heap.size w wa:=by rw[hwa]; exact (ZR _ w).alloc (Nat.le_refl _) _
 have hblk:wa.heap[bc]?=some (.cells #[.bool false,.slice none 0 0,.bool false,.slice none 0 0] 47 (0,0)):=by rw[hwa,hbc]; exact ZW w _
 have HGbc:=ZH (show w.heap.size≤bc by omega)
 obtain ⟨mm,hmm⟩:=(hg.below hal).maxl
 have hcut:=Tryz.strings_Cut s ⟨#[47]⟩ mm wa (by omega) hmm
 rw[show (⟨#[47]⟩:ByteArray).data.toList = [47] from rfl] at hcut
 obtain ⟨T,hT⟩:∃T,T=(Lib.cut s.data.toList [47]).1:=⟨_,rfl⟩
 obtain ⟨B,hB⟩:∃B,B=(Lib.cut s.data.toList [47]).2.1:=⟨_,rfl⟩
 obtain ⟨dv,hdv⟩:∃d,d=(Lib.cut s.data.toList [47]).2.2:=⟨_,rfl⟩
 rw[←hT,←hB,←hdv] at hcut
 obtain ⟨TB,hTB⟩:∃D:ByteArray,D=⟨T.toArray⟩:=⟨_,rfl⟩
 obtain ⟨BB,hBB⟩:∃D:ByteArray,D=⟨B.toArray⟩:=⟨_,rfl⟩
 rw[←hTB,←hBB] at hcut
 have hTl:TB.data.toList=T:=by rw[hTB]
 have hBl:BB.data.toList=B:=by rw[hBB]
 have hlen:=cut_le s.data.toList [47]
 rw[←hT,←hB,size_list] at hlen
 have hts:TB.size≤s.size:=by rw[←size_list TB,hTl]; exact hlen.1
 have hbs:BB.size≤s.size:=by rw[←size_list BB,hBl]; exact hlen.2
 have HW:=ZH (ZN hwa hbc)
 have HAL:=ZH (ZN hal hblk)
 have HCUT:=ZH hcut
 have HEQ:=ZH (ZN hT (ZN hB (ZN hdv (ZN hTl hBl))))
 have HLEN:=ZH hlen
 have HSL:=ZH (size_list s)
 have herr:readErr s.data.toList most=if most<s.size then 5 else if digs (unsign T)=false∨(dv=true∧digs B=false) then 14 else if dv=true∧(B.all fun b=>b==48)=true then 19 else if parseErr T≠0 then 3 else if dv=false then 0 else if parseErr B≠0∨parseVal B=1∨((Nat.gcd (parseVal T).natAbs (parseVal B).natAbs:Nat):Int)≠1 then 3 else 0:=by unfold readErr; rw[←hT,←hB,←hdv,size_list]
 have HERR:=ZH herr
 clear herr hlen hmm hcut hT hB hdv hTB hBB hTl hBl hal hblk hwa hbc hg
 go_enter Tryz.func97,Tryz.ntmps97
 go_upto_region 1 with fail
 rw[←HW.out.1,←HW.out.2]
 clear HW
 go_wp2_with fail
 refine HCUT.out.mono ?_
 rintro e w1 ⟨rfl,nd,hw1⟩
 have HB1:=ZH (show Below w.heap.size w w1 by rw[hw1]; exact HAL.out.1.trans ((below_drawn wa nd).mono HAL.out.1.size))
 have HK1:=ZH (show w1.heap[bc]?=some (.cells #[.bool false,.slice none 0 0,.bool false,.slice none 0 0] 47 (0,0)) by rw[hw1]; exact HAL.out.2)
 clear hw1
 by_cases h1:most<s.size
 ·have e1:((most:Int)<(s.size:Int))=True:=eq_true (by omega)
  have HE:=ZH (show readErr s.data.toList most=5 by rw[HERR.out]; rw[if_pos h1])
  have z0:=ZI HK1.out 0
  have f0:=ZF HK1.out 0
  have z1:=ZI HK1.out 1
  have f1:=ZF HK1.out 1
  have z2:=ZI HK1.out 2
  have f2:=ZF HK1.out 2
  have z3:=ZI HK1.out 3
  have f3:=ZF HK1.out 3
  simp at z0 z1 z2 z3
  clear h1
  go_wp2_with fail
  refine bodyPost_ret (v:=.tuple #[.agg #[.bool false,.slice none 0 0,.bool false,.slice none 0 0],.int .i64 5]) (by simp[results,Tryz.results97,go_sem,z0,z1,z2,z3]) rfl ⟨_,by rw[HE.out],fun h=>?_,fun _=>rfl,?_⟩
  ·rw[HE.out] at h
   cases h
  ·exact ((((HB1.out).setCell HGbc.out _).setCell HGbc.out _).setCell HGbc.out _).setCell HGbc.out _
 ·have e1:((most:Int)<(s.size:Int))=False:=eq_false (by omega)
  have HL:=ZH h1
  have hs2:s.size≤65536:=by omega
  clear h1
  go_upto_region 5 with fail
  obtain ⟨PB,hPB⟩:∃D:ByteArray,D=⟨(unsign T).toArray⟩:=⟨_,rfl⟩
  have htp:=Tryz.strings_TrimPrefix TB ⟨#[45]⟩ w1
  rw[show (⟨#[45]⟩:ByteArray).data.toList = [45] from rfl,HEQ.out.2.2.2.1,trimPrefix_minus,←hPB] at htp
  have hPl:PB.data.toList=unsign T:=by rw[hPB]
  have hPs:PB.size≤1099511627776:=by
   have h1:=unsign_le T
   rw[←hPl,size_list PB,←HEQ.out.2.2.2.1,size_list TB] at h1
   omega
  have hdg:=digits_any PB hPs w1
  rw[hPl] at hdg
  have HTP:=ZH htp
  clear htp hPB hPl hPs
  cases hd1:digs (unsign T) with
  | false=>
   have HE:=ZH (show readErr s.data.toList most=14 by rw[HERR.out]; rw[if_neg HL.out,if_pos (.inl hd1)])
   rw[hd1] at hdg
   have HDG:=ZH hdg
   clear hdg hd1
   go_wp2_with fail
   refine HTP.out.mono ?_
   rintro e w2 ⟨rfl,rfl⟩
   go_wp2_with fail
   refine HDG.out.mono ?_
   rintro e w3 ⟨rfl,hb3⟩
   have HB3:=ZH (HB1.out.trans (hb3.mono HB1.out.size))
   have HK3:=ZH ((hb3.block bc (ZL HK1.out)).trans HK1.out)
   have z0:=ZI HK3.out 0
   have f0:=ZF HK3.out 0
   have z1:=ZI HK3.out 1
   have f1:=ZF HK3.out 1
   have z2:=ZI HK3.out 2
   have f2:=ZF HK3.out 2
   have z3:=ZI HK3.out 3
   have f3:=ZF HK3.out 3
   simp at z0 z1 z2 z3
   clear hb3
   go_wp2_with fail
   refine bodyPost_ret (v:=.tuple #[.agg #[.bool false,.slice none 0 0,.bool false,.slice none 0 0],.int .i64 14]) (by simp[results,Tryz.results97,go_sem,z0,z1,z2,z3]) rfl ⟨_,by rw[HE.out],fun h=>?_,fun _=>rfl,?_⟩
   ·rw[HE.out] at h
    cases h
   ·exact ((((HB3.out).setCell HGbc.out _).setCell HGbc.out _).setCell HGbc.out _).setCell HGbc.out _
  | true=>
   rw[hd1] at hdg
   have HDG:=ZH hdg
   have HD1:=ZH hd1
   clear hdg hd1
   go_wp2_with fail
   refine HTP.out.mono ?_
   rintro e w2 ⟨rfl,rfl⟩
   go_wp2_with fail
   refine HDG.out.mono ?_
   rintro e w3 ⟨rfl,hb3⟩
   have HB3:=ZH (HB1.out.trans (hb3.mono HB1.out.size))
   have HK3:=ZH ((hb3.block bc (ZL HK1.out)).trans HK1.out)
   clear hb3
   cases dv with
   | false=>
    have hpt:=Parse_any TB (by omega) w3
    rw[HEQ.out.2.2.2.1] at hpt
    have HPT:=ZH hpt
    clear hpt
    go_upto_region 9 with fail
    go_wp2_with fail
    refine HPT.out.mono ?_
    rintro e w5 ⟨v5,rfl,hi5,hn5,hb5⟩
    obtain ⟨E,hE⟩:∃E,E=parseErr T:=⟨_,rfl⟩
    rw[←hE] at hi5 hn5⊢
    have HB5:=ZH (HB3.out.trans (hb5.mono HB3.out.size))
    have HK5:=ZH ((hb5.block bc (ZL HK3.out)).trans HK3.out)
    clear hb5
    by_cases hp:E=0
    ·obtain ⟨sn,an,cn,ln,rfl,-⟩:=int_sign (hi5 hp)
     have hi:=hi5 hp
     generalize ln.length=nn at *
     have e2:(E==0)=true:=by rw[hp]; rfl
     have HP0:=ZH (show parseErr T=0 by rw[←hE]; exact hp)
     have HI5:=ZH hi
     clear hi5 hn5 hE hi
     subst hp
     go_upto_region 10 with fail
     obtain ⟨w6,hw6⟩:∃x,x=w5.alloc (.cells #[.bool sn,.slice an nn cn] 45):=⟨_,rfl⟩
     obtain ⟨bn,hbn⟩:∃b,b=w5.heap.size:=⟨_,rfl⟩
     rw[←hw6,←hbn]
     have hb6:Below w5.heap.size w5 w6:=by rw[hw6]; exact (ZR _ w5).alloc (Nat.le_refl _) _
     have HB6:=ZH (HB5.out.trans (hb6.mono HB5.out.size))
     have HK6:=ZH ((hb6.block bc (ZL HK5.out)).trans HK5.out)
     have HKN:=ZH (show w6.heap[bn]?=some (.cells #[.bool sn,.slice an nn cn] 45 (0,0)) by rw[hw6,hbn]; exact ZW w5 _)
     have HI6:=ZH ((HI5.out.below hb6).more (show T.length+1≤s.data.toList.length+2 by rw[size_list]; have:=HLEN.out.1; omega))
     have hl5:=ZL HK5.out
     have n1:¬bc=bn:=by omega
     have n2:¬bn=bc:=by omega
     have HGbn:=ZH (show w.heap.size≤bn by have:=HB5.out.size; omega)
     clear hb6 hw6 hbn hl5
     have HE:=ZH (show readErr s.data.toList most=0 by rw[HERR.out]; rw[if_neg HL.out,if_neg (by rw[HD1.out]; simp),if_neg (by simp),if_neg (fun h=>h HP0.out),if_pos (by trivial)])
     have HRV:=ZH (show readVal s.data.toList=((parseVal T:Int):Rat) by unfold readVal; rw[←HEQ.out.1,←HEQ.out.2.2.1]; rfl)
     have y0:=ZI HKN.out 0
     have y1:=ZI HKN.out 1
     simp at y0 y1
     have z0:=ZI HK6.out 0
     have f0:=ZF HK6.out 0
     have z1:=ZI HK6.out 1
     have f1:=ZF HK6.out 1
     have z2:=ZI HK6.out 2
     have f2:=ZF HK6.out 2
     have z3:=ZI HK6.out 3
     have f3:=ZF HK6.out 3
     simp at z0 z1 z2 z3
     have i1:=HI6.out.store4 HK6.out (.bool sn) (.slice an nn cn) (.bool false) (.slice none 0 0)
     have hbf:=(((HB6.out.setCell (p:=⟨bc,0,none⟩) HGbc.out (.bool sn)).setCell (p:=⟨bc,1,none⟩) HGbc.out (.slice an nn cn)).setCell (p:=⟨bc,2,none⟩) HGbc.out (.bool false)).setCell (p:=⟨bc,3,none⟩) HGbc.out (.slice none 0 0)
     have HF:=ZH (ZN i1 hbf)
     clear i1 hbf
     go_wp2_with fail
     refine bodyPost_ret (v:=.tuple #[.agg #[.bool sn,.slice an nn cn,.bool false,.slice none 0 0],.int .i64 0]) (by simp[results,Tryz.results97,go_sem,z0,z1,z2,z3]) rfl ⟨_,by rw[HE.out],fun _=>?_,fun h=>absurd HE.out h,HF.out.2⟩
     rw[HRV.out]
     exact rt_int ⟨_,_,_,_,rfl,HF.out.1,int_nil _ _,by decide⟩
    ·obtain rfl:=hn5 hp
     have e2:(E==0)=false:=by rw[ZQ]; exact hp
     have HE:=ZH (show readErr s.data.toList most=3 by rw[HERR.out]; rw[if_neg HL.out,if_neg (by rw[HD1.out]; simp),if_neg (by simp),if_pos (by rw[←hE]; exact hp)])
     clear hi5 hn5 hE hp
     go_upto_region 10 with fail
     obtain ⟨w6,hw6⟩:∃x,x=w5.alloc (.cells #[.bool false,.slice none 0 0] 45):=⟨_,rfl⟩
     rw[←hw6]
     have hb6:Below w5.heap.size w5 w6:=by rw[hw6]; exact (ZR _ w5).alloc (Nat.le_refl _) _
     have HB6:=ZH (HB5.out.trans (hb6.mono HB5.out.size))
     have HK6:=ZH ((hb6.block bc (ZL HK5.out)).trans HK5.out)
     have z0:=ZI HK6.out 0
     have f0:=ZF HK6.out 0
     have z1:=ZI HK6.out 1
     have f1:=ZF HK6.out 1
     have z2:=ZI HK6.out 2
     have f2:=ZF HK6.out 2
     have z3:=ZI HK6.out 3
     have f3:=ZF HK6.out 3
     simp at z0 z1 z2 z3
     clear hb6 hw6
     go_wp2_with fail
     refine bodyPost_ret (v:=.tuple #[.agg #[.bool false,.slice none 0 0,.bool false,.slice none 0 0],.int .i64 3]) (by simp[results,Tryz.results97,go_sem,z0,z1,z2,z3]) rfl ⟨_,by rw[HE.out],fun h=>?_,fun _=>rfl,?_⟩
     ·rw[HE.out] at h
      cases h
     ·exact ((((HB6.out).setCell HGbc.out _).setCell HGbc.out _).setCell HGbc.out _).setCell HGbc.out _
   | true=>
    have hdb:=digits_any BB (by omega) w3
    rw[HEQ.out.2.2.2.2] at hdb
    cases hd2:digs B with
    | false=>
     have HE:=ZH (show readErr s.data.toList most=14 by rw[HERR.out]; rw[if_neg HL.out,if_pos (.inr ⟨rfl,hd2⟩)])
     rw[hd2] at hdb
     have HDB:=ZH hdb
     clear hdb hd2
     go_wp2_with fail
     refine HDB.out.mono ?_
     rintro e w4 ⟨rfl,hb4⟩
     have HB4:=ZH (HB3.out.trans (hb4.mono HB3.out.size))
     have HK4:=ZH ((hb4.block bc (ZL HK3.out)).trans HK3.out)
     have z0:=ZI HK4.out 0
     have f0:=ZF HK4.out 0
     have z1:=ZI HK4.out 1
     have f1:=ZF HK4.out 1
     have z2:=ZI HK4.out 2
     have f2:=ZF HK4.out 2
     have z3:=ZI HK4.out 3
     have f3:=ZF HK4.out 3
     simp at z0 z1 z2 z3
     clear hb4
     go_wp2_with fail
     refine bodyPost_ret (v:=.tuple #[.agg #[.bool false,.slice none 0 0,.bool false,.slice none 0 0],.int .i64 14]) (by simp[results,Tryz.results97,go_sem,z0,z1,z2,z3]) rfl ⟨_,by rw[HE.out],fun h=>?_,fun _=>rfl,?_⟩
     ·rw[HE.out] at h
      cases h
     ·exact ((((HB4.out).setCell HGbc.out _).setCell HGbc.out _).setCell HGbc.out _).setCell HGbc.out _
    | true=>
     rw[hd2] at hdb
     have HDB:=ZH hdb
     have HD2:=ZH hd2
     clear hdb hd2
     go_wp2_with fail
     refine HDB.out.mono ?_
     rintro e w4 ⟨rfl,hb4⟩
     have HB4:=ZH (HB3.out.trans (hb4.mono HB3.out.size))
     have HK4:=ZH ((hb4.block bc (ZL HK3.out)).trans HK3.out)
     clear hb4
     have htz:=trim_zero B
     have hto:=Tryz.strings_Trim_one BB 48 (by decide) w4 (by omega)
     rw[HEQ.out.2.2.2.2] at hto
     obtain ⟨ZB,hZB⟩:∃D:ByteArray,D=⟨(Lib.trimB B 48).toArray⟩:=⟨_,rfl⟩
     rw[←hZB] at hto
     have hZl:ZB.toList=Lib.trimB B 48:=by rw[ByteArray.toList_eq,hZB]
     rw[←hZl] at htz
     have HTO:=ZH hto
     have HTZ:=ZH htz
     clear hto htz hZB hZl
     by_cases h7:ZB.toList = []
     ·have e7:ZB.toList.isEmpty=true:=by rw[h7]; rfl
      have HE:=ZH (show readErr s.data.toList most=19 by rw[HERR.out]; rw[if_neg HL.out,if_neg (by rw[HD1.out,HD2.out]; simp),if_pos ⟨by trivial,HTZ.out.1 h7⟩])
      go_wp2_with fail
      refine HTO.out.mono ?_
      rintro e w8 ⟨rfl,hw8⟩
      have hb8:Below w4.heap.size w4 w8:=by
       rcases hw8 with rfl | rfl
       ·exact ZR _ _
       ·exact (ZR _ _).drew
      have HB8:=ZH (HB4.out.trans (hb8.mono HB4.out.size))
      have HK8:=ZH ((hb8.block bc (ZL HK4.out)).trans HK4.out)
      have z0:=ZI HK8.out 0
      have f0:=ZF HK8.out 0
      have z1:=ZI HK8.out 1
      have f1:=ZF HK8.out 1
      have z2:=ZI HK8.out 2
      have f2:=ZF HK8.out 2
      have z3:=ZI HK8.out 3
      have f3:=ZF HK8.out 3
      simp at z0 z1 z2 z3
      clear hb8 hw8
      go_wp2_with fail
      refine bodyPost_ret (v:=.tuple #[.agg #[.bool false,.slice none 0 0,.bool false,.slice none 0 0],.int .i64 19]) (by simp[results,Tryz.results97,go_sem,z0,z1,z2,z3]) rfl ⟨_,by rw[HE.out],fun h=>?_,fun _=>rfl,?_⟩
      ·rw[HE.out] at h
       cases h
      ·exact ((((HB8.out).setCell HGbc.out _).setCell HGbc.out _).setCell HGbc.out _).setCell HGbc.out _
     ·have e7:ZB.toList.isEmpty=false:=by simpa using h7
      have e71:(ZB.toList = [])=False:=eq_false h7
      have HNZ:=ZH (show ¬(B.all fun b=>b==48)=true from fun h=>h7 (HTZ.out.2 h))
      go_wp2_with fail
      refine HTO.out.mono ?_
      rintro e w8 ⟨rfl,hw8⟩
      have hb8:Below w4.heap.size w4 w8:=by
       rcases hw8 with rfl | rfl
       ·exact ZR _ _
       ·exact (ZR _ _).drew
      have HB8:=ZH (HB4.out.trans (hb8.mono HB4.out.size))
      have HK8:=ZH ((hb8.block bc (ZL HK4.out)).trans HK4.out)
      clear hb8 hw8 h7 e71
      have hpt:=Parse_any TB (by omega) w8
      rw[HEQ.out.2.2.2.1] at hpt
      have HPT:=ZH hpt
      clear hpt
      go_upto_region 9 with fail
      go_wp2_with fail
      refine HPT.out.mono ?_
      rintro e w5 ⟨v5,rfl,hi5,hn5,hb5⟩
      obtain ⟨E,hE⟩:∃E,E=parseErr T:=⟨_,rfl⟩
      rw[←hE] at hi5 hn5⊢
      have HB5:=ZH (HB8.out.trans (hb5.mono HB8.out.size))
      have HK5:=ZH ((hb5.block bc (ZL HK8.out)).trans HK8.out)
      clear hb5
      by_cases hp:E=0
      ·obtain ⟨sn,an,cn,ln,rfl,-⟩:=int_sign (hi5 hp)
       have hi:=hi5 hp
       generalize ln.length=nn at *
       have e2:(E==0)=true:=by rw[hp]; rfl
       have HP0:=ZH (show parseErr T=0 by rw[←hE]; exact hp)
       have HI5:=ZH hi
       clear hi5 hn5 hE hi
       subst hp
       go_upto_region 10 with fail
       obtain ⟨w6,hw6⟩:∃x,x=w5.alloc (.cells #[.bool sn,.slice an nn cn] 45):=⟨_,rfl⟩
       obtain ⟨bn,hbn⟩:∃b,b=w5.heap.size:=⟨_,rfl⟩
       rw[←hw6,←hbn]
       have hb6:Below w5.heap.size w5 w6:=by rw[hw6]; exact (ZR _ w5).alloc (Nat.le_refl _) _
       have HB6:=ZH (HB5.out.trans (hb6.mono HB5.out.size))
       have HK6:=ZH ((hb6.block bc (ZL HK5.out)).trans HK5.out)
       have HKN:=ZH (show w6.heap[bn]?=some (.cells #[.bool sn,.slice an nn cn] 45 (0,0)) by rw[hw6,hbn]; exact ZW w5 _)
       have HI6:=ZH ((HI5.out.below hb6).more (show T.length+1≤s.data.toList.length+2 by rw[size_list]; have:=HLEN.out.1; omega))
       have hl5:=ZL HK5.out
       have n1:¬bc=bn:=by omega
       have n2:¬bn=bc:=by omega
       have HGbn:=ZH (show w.heap.size≤bn by have:=HB5.out.size; omega)
       clear hb6 hw6 hbn hl5
       have hqt:=Parse_any BB (by omega) w6
       rw[HEQ.out.2.2.2.2] at hqt
       have HQT:=ZH hqt
       clear hqt
       go_upto_region 14 with fail
       go_wp2_with fail
       refine HQT.out.mono ?_
       rintro e w7 ⟨v7,rfl,hi7,hn7,hb7⟩
       obtain ⟨E2,hE2⟩:∃E,E=parseErr B:=⟨_,rfl⟩
       rw[←hE2] at hi7 hn7⊢
       have HB7:=ZH (HB6.out.trans (hb7.mono HB6.out.size))
       have HK7:=ZH ((hb7.block bc (ZL HK6.out)).trans HK6.out)
       have hkn7:=(hb7.block bn (ZL HKN.out)).trans HKN.out
       have HI7:=ZH (HI6.out.below hb7)
       obtain ⟨q,hq7,hqv⟩:∃q,IntIn w7 v7 q (s.data.toList.length+2)∧(E2=0→q=parseVal B):=by
        by_cases h:E2=0
        ·exact ⟨parseVal B,(hi7 h).more (by rw[size_list]; have:=HLEN.out.2; omega),fun _=>rfl⟩
        ·exact ⟨0,by rw[hn7 h]; exact int_nil _ _,fun h2=>absurd h2 h⟩
       clear hb7 hi7 hn7
       obtain ⟨sd,ad,cd,ld,rfl,-⟩:=int_sign hq7
       generalize ld.length=nd at *
       have HQV:=ZH (ZN hqv hE2)
       clear hqv hE2
       go_upto_region 15 with fail
       obtain ⟨w8',hw8⟩:∃x,x=w7.alloc (.cells #[.bool sd,.slice ad nd cd] 45):=⟨_,rfl⟩
       obtain ⟨bd,hbd⟩:∃b,b=w7.heap.size:=⟨_,rfl⟩
       rw[←hw8,←hbd]
       have hb8:Below w7.heap.size w7 w8':=by rw[hw8]; exact (ZR _ w7).alloc (Nat.le_refl _) _
       have hkd:w8'.heap[bd]?=some (.cells #[.bool sd,.slice ad nd cd] 45 (0,0)):=by rw[hw8,hbd]; exact ZW w7 _
       have HR:=ZH (show RedAt w w8' bn bd bc sn an nn cn sd ad nd cd (parseVal T) q (s.data.toList.length+2) from
        ⟨(hb8.block bn (ZL hkn7)).trans hkn7,hkd,(hb8.block bc (ZL HK7.out)).trans HK7.out,HI7.out.below hb8,hq7.below hb8,HB7.out.trans (hb8.mono HB7.out.size)⟩)
       have hk:s.data.toList.length+2≤900000:=by rw[size_list]; omega
       clear hb8 hkd hw8 hbd hkn7 hq7
       have HBbn:=ZH HR.out.ha
       have HBbd:=ZH HR.out.hb
       have HW8:=ZH (ZR w8'.heap.size w8')
       obtain ⟨eb,heb⟩:∃b,(E2 != 0)=b:=⟨_,rfl⟩
       obtain ⟨b1,hb1⟩:∃b,decide (q=1)=b:=⟨_,rfl⟩
       obtain ⟨b2,hb2⟩:∃b,decide (((Nat.gcd (parseVal T).natAbs q.natAbs:Nat):Int)≠1)=b:=⟨_,rfl⟩
       have HF1:=ZH hb1
       have HF2:=ZH hb2
       clear hb1 hb2
       refine wp_region_flow [0,1,2,3,4,5,6,7,8,9,10,11,12,13,14,15] 16 (fun i v w'=>match i with
        | 0=>v=.int .i64 E2
        | 1=>v=.bool eb
        | 2=>v=.bool eb
        | 3=>(eb)=false→v=.agg #[.bool sd,.slice ad nd cd]
        | 4=>(eb)=false→IntIn w' v 1 2
        | 5=>(eb)=false→v=.int .i64 (cmpI q 1)
        | 6=>(eb)=false→v=.bool b1
        | 7=>v=.bool (eb || b1)
        | 8=>v=.bool (eb || b1)
        | 9=>(eb || b1)=false→v=.agg #[.bool sn,.slice an nn cn]
        | 10=>(eb || b1)=false→v=.agg #[.bool sd,.slice ad nd cd]
        | 11=>(eb || b1)=false→IntIn w' v (Nat.gcd (parseVal T).natAbs q.natAbs:Nat) (s.data.toList.length+2)
        | 12=>(eb || b1)=false→IntIn w' v 1 2
        | 13=>(eb || b1)=false→v=.int .i64 (cmpI (Nat.gcd (parseVal T).natAbs q.natAbs:Nat) 1)
        | 14=>(eb || b1)=false→v=.bool b2
        | _=>v=.bool ((eb || b1) || b2)) rfl rfl (by kernel_rfl) (by kernel_rfl) ?st ?steps ?fin
       case st=>
        intro i v w1 w2 h hb
        match i with
        | 0 | 1 | 2 | 3 | 5 | 6 | 7 | 8 | 9 | 10 | 13 | 14 | _+15=>exact h
        | 4=>exact fun hq=>((show (eb)=false→IntIn w1 v 1 2 from h) hq).below hb
        | 11=>exact fun hq=>((show (eb || b1)=false→IntIn w1 v (Nat.gcd (parseVal T).natAbs q.natAbs:Nat) (s.data.toList.length+2) from h) hq).below hb
        | 12=>exact fun hq=>((show (eb || b1)=false→IntIn w1 v 1 2 from h) hq).below hb
       case steps=>
        refine Steps.cons (Step.of rfl ?s0) (Steps.cons (Step.of rfl ?s1) (Steps.cons (Step.of rfl ?s2) (Steps.cons (Step.of rfl ?s3) (Steps.cons (Step.of rfl ?s4) (Steps.cons (Step.of rfl ?s5) (Steps.cons (Step.of rfl ?s6) (Steps.cons (Step.of rfl ?s7) (Steps.cons (Step.of rfl ?s8) (Steps.cons (Step.of rfl ?s9) (Steps.cons (Step.of rfl ?s10) (Steps.cons (Step.of rfl ?s11) (Steps.cons (Step.of rfl ?s12) (Steps.cons (Step.of rfl ?s13) (Steps.cons (Step.of rfl ?s14) (Steps.cons (Step.of rfl ?s15) Steps.nil)))))))))))))))
        case s0=>
         intro xs w' hb hT K hK
         clear hT
         simp only[zLd,zLe,putAll,zAp,zLa,zLb,zLc,Nat.reduceAdd,zNz] at hK⊢
         have hw:=Flow.hwD HW8.out hb
         go_simp
         exact hK _ _ (ZR _ _) rfl
        case s1=>
         intro xs w' hb hT K hK
         have h0:(xs 0)=.int .i64 E2:=hT 0 (by kernel_rfl)
         clear hT
         simp only[zLd,zLe,putAll,zAp,zLa,zLb,zLc,Nat.reduceAdd,zNz] at hK⊢
         have hw:=Flow.hwD HW8.out hb
         (try simp only[h0] at hK)
         go_simp
         exact hK _ _ (ZR _ _) (by rw[←heb])
        case s2=>
         intro xs w' hb hT K hK
         have h1:(xs 1)=.bool eb:=hT 1 (by kernel_rfl)
         clear hT
         simp only[zLd,zLe,putAll,zAp,zLa,zLb,zLc,Nat.reduceAdd,zNz] at hK⊢
         have hw:=Flow.hwD HW8.out hb
         (try simp only[h1] at hK)
         go_simp
         exact hK _ _ (ZR _ _) rfl
        case s3=>
         intro xs w' hb hT K hK
         have h2:(xs 2)=.bool eb:=hT 2 (by kernel_rfl)
         clear hT
         simp only[zLd,zLe,putAll,zAp,zLa,zLb,zLc,Nat.reduceAdd,zNz] at hK⊢
         have hw:=Flow.hwD HW8.out hb
         by_cases hg:(eb)=false
         ·rw[hg] at h2
          have kb:=(hw.block bd (ZL HBbd.out)).trans HBbd.out
          have y0:=ZI kb 0
          have y1:=ZI kb 1
          clear kb
          simp at y0 y1
          (try simp only[h2] at hK)
          go_simp
          exact hK _ _ (ZR _ _) (fun _=>rfl)
         ·have hg':(eb)=true:=eq_true_of_ne_false hg
          rw[hg'] at h2
          (try simp only[h2] at hK)
          go_simp
          exact hK _ _ (ZR _ _) (fun h=>absurd h hg)
        case s4=>
         intro xs w' hb hT K hK
         have h2:(xs 2)=.bool eb:=hT 2 (by kernel_rfl)
         clear hT
         simp only[zLd,zLe,putAll,zAp,zLa,zLb,zLc,Nat.reduceAdd,zNz] at hK⊢
         have hw:=Flow.hwD HW8.out hb
         by_cases hg:(eb)=false
         ·rw[hg] at h2
          (try simp only[h2] at hK)
          go_simp
          go_at_call 111
          refine (one_any _).mono ?_
          rintro e w3 ⟨v3,rfl,hi3,hb3⟩
          exact hK _ _ hb3 (fun _=>hi3)
         ·have hg':(eb)=true:=eq_true_of_ne_false hg
          rw[hg'] at h2
          (try simp only[h2] at hK)
          go_simp
          exact hK _ _ (ZR _ _) (fun h=>absurd h hg)
        case s5=>
         intro xs w' hb hT K hK
         have h2:(xs 2)=.bool eb:=hT 2 (by kernel_rfl)
         have h3:(eb)=false→(xs 3)=.agg #[.bool sd,.slice ad nd cd]:=hT 3 (by kernel_rfl)
         have h4:(eb)=false→IntIn w' (xs 4) 1 2:=hT 4 (by kernel_rfl)
         clear hT
         simp only[zLd,zLe,putAll,zAp,zLa,zLb,zLc,Nat.reduceAdd,zNz] at hK⊢
         have hw:=Flow.hwD HW8.out hb
         by_cases hg:(eb)=false
         ·rw[hg] at h2
          replace h3:=h3 hg
          replace h4:=h4 hg
          (try simp only[h2] at hK)
          (try simp only[h3] at hK)
          go_simp
          go_at_call 106
          refine (Compare_any (HR.out.ib.below hw) h4).mono ?_
          rintro e w3 ⟨rfl,hb3⟩
          exact hK _ _ hb3 (fun _=>rfl)
         ·have hg':(eb)=true:=eq_true_of_ne_false hg
          rw[hg'] at h2
          (try simp only[h2] at hK)
          clear h3 h4
          go_simp
          exact hK _ _ (ZR _ _) (fun h=>absurd h hg)
        case s6=>
         intro xs w' hb hT K hK
         have h2:(xs 2)=.bool eb:=hT 2 (by kernel_rfl)
         have h5:(eb)=false→(xs 5)=.int .i64 (cmpI q 1):=hT 5 (by kernel_rfl)
         clear hT
         simp only[zLd,zLe,putAll,zAp,zLa,zLb,zLc,Nat.reduceAdd,zNz] at hK⊢
         have hw:=Flow.hwD HW8.out hb
         by_cases hg:(eb)=false
         ·rw[hg] at h2
          replace h5:=h5 hg
          (try simp only[h2] at hK)
          (try simp only[h5] at hK)
          go_simp
          exact hK _ _ (ZR _ _) (fun _=>(by rw[cmp_zero,HF1.out]))
         ·have hg':(eb)=true:=eq_true_of_ne_false hg
          rw[hg'] at h2
          (try simp only[h2] at hK)
          clear h5
          go_simp
          exact hK _ _ (ZR _ _) (fun h=>absurd h hg)
        case s7=>
         intro xs w' hb hT K hK
         have h2:(xs 2)=.bool eb:=hT 2 (by kernel_rfl)
         have h6:(eb)=false→(xs 6)=.bool b1:=hT 6 (by kernel_rfl)
         clear hT
         simp only[zLd,zLe,putAll,zAp,zLa,zLb,zLc,Nat.reduceAdd,zNz] at hK⊢
         have hw:=Flow.hwD HW8.out hb
         by_cases hg:(eb)=false
         ·rw[hg] at h2
          replace h6:=h6 hg
          (try simp only[h2] at hK)
          (try simp only[h6] at hK)
          go_simp
          exact hK _ _ (ZR _ _) (by simp[ hg])
         ·have hg':(eb)=true:=eq_true_of_ne_false hg
          rw[hg'] at h2
          clear h6
          (try simp only[h2] at hK)
          go_simp
          exact hK _ _ (ZR _ _) (by simp[ hg'])
        case s8=>
         intro xs w' hb hT K hK
         have h7:(xs 7)=.bool (eb || b1):=hT 7 (by kernel_rfl)
         clear hT
         simp only[zLd,zLe,putAll,zAp,zLa,zLb,zLc,Nat.reduceAdd,zNz] at hK⊢
         have hw:=Flow.hwD HW8.out hb
         (try simp only[h7] at hK)
         go_simp
         exact hK _ _ (ZR _ _) rfl
        case s9=>
         intro xs w' hb hT K hK
         have h8:(xs 8)=.bool (eb || b1):=hT 8 (by kernel_rfl)
         clear hT
         simp only[zLd,zLe,putAll,zAp,zLa,zLb,zLc,Nat.reduceAdd,zNz] at hK⊢
         have hw:=Flow.hwD HW8.out hb
         by_cases hg:(eb || b1)=false
         ·rw[hg] at h8
          have kb:=(hw.block bn (ZL HBbn.out)).trans HBbn.out
          have y0:=ZI kb 0
          have y1:=ZI kb 1
          clear kb
          simp at y0 y1
          (try simp only[h8] at hK)
          go_simp
          exact hK _ _ (ZR _ _) (fun _=>rfl)
         ·have hg':(eb || b1)=true:=eq_true_of_ne_false hg
          rw[hg'] at h8
          (try simp only[h8] at hK)
          go_simp
          exact hK _ _ (ZR _ _) (fun h=>absurd h hg)
        case s10=>
         intro xs w' hb hT K hK
         have h8:(xs 8)=.bool (eb || b1):=hT 8 (by kernel_rfl)
         clear hT
         simp only[zLd,zLe,putAll,zAp,zLa,zLb,zLc,Nat.reduceAdd,zNz] at hK⊢
         have hw:=Flow.hwD HW8.out hb
         by_cases hg:(eb || b1)=false
         ·rw[hg] at h8
          have kb:=(hw.block bd (ZL HBbd.out)).trans HBbd.out
          have y0:=ZI kb 0
          have y1:=ZI kb 1
          clear kb
          simp at y0 y1
          (try simp only[h8] at hK)
          go_simp
          exact hK _ _ (ZR _ _) (fun _=>rfl)
         ·have hg':(eb || b1)=true:=eq_true_of_ne_false hg
          rw[hg'] at h8
          (try simp only[h8] at hK)
          go_simp
          exact hK _ _ (ZR _ _) (fun h=>absurd h hg)
        case s11=>
         intro xs w' hb hT K hK
         have h8:(xs 8)=.bool (eb || b1):=hT 8 (by kernel_rfl)
         have h9:(eb || b1)=false→(xs 9)=.agg #[.bool sn,.slice an nn cn]:=hT 9 (by kernel_rfl)
         have h10:(eb || b1)=false→(xs 10)=.agg #[.bool sd,.slice ad nd cd]:=hT 10 (by kernel_rfl)
         clear hT
         simp only[zLd,zLe,putAll,zAp,zLa,zLb,zLc,Nat.reduceAdd,zNz] at hK⊢
         have hw:=Flow.hwD HW8.out hb
         by_cases hg:(eb || b1)=false
         ·rw[hg] at h8
          replace h9:=h9 hg
          replace h10:=h10 hg
          (try simp only[h8] at hK)
          (try simp only[h9] at hK)
          (try simp only[h10] at hK)
          go_simp
          go_at_call 130
          refine (Gcd_any (HR.out.ia.below hw) (HR.out.ib.below hw) hk).mono ?_
          rintro e w3 ⟨v3,rfl,hi3,hb3⟩
          exact hK _ _ hb3 (fun _=>hi3)
         ·have hg':(eb || b1)=true:=eq_true_of_ne_false hg
          rw[hg'] at h8
          (try simp only[h8] at hK)
          clear h9 h10
          go_simp
          exact hK _ _ (ZR _ _) (fun h=>absurd h hg)
        case s12=>
         intro xs w' hb hT K hK
         have h8:(xs 8)=.bool (eb || b1):=hT 8 (by kernel_rfl)
         clear hT
         simp only[zLd,zLe,putAll,zAp,zLa,zLb,zLc,Nat.reduceAdd,zNz] at hK⊢
         have hw:=Flow.hwD HW8.out hb
         by_cases hg:(eb || b1)=false
         ·rw[hg] at h8
          (try simp only[h8] at hK)
          go_simp
          go_at_call 111
          refine (one_any _).mono ?_
          rintro e w3 ⟨v3,rfl,hi3,hb3⟩
          exact hK _ _ hb3 (fun _=>hi3)
         ·have hg':(eb || b1)=true:=eq_true_of_ne_false hg
          rw[hg'] at h8
          (try simp only[h8] at hK)
          go_simp
          exact hK _ _ (ZR _ _) (fun h=>absurd h hg)
        case s13=>
         intro xs w' hb hT K hK
         have h8:(xs 8)=.bool (eb || b1):=hT 8 (by kernel_rfl)
         have h11:(eb || b1)=false→IntIn w' (xs 11) (Nat.gcd (parseVal T).natAbs q.natAbs:Nat) (s.data.toList.length+2):=hT 11 (by kernel_rfl)
         have h12:(eb || b1)=false→IntIn w' (xs 12) 1 2:=hT 12 (by kernel_rfl)
         clear hT
         simp only[zLd,zLe,putAll,zAp,zLa,zLb,zLc,Nat.reduceAdd,zNz] at hK⊢
         have hw:=Flow.hwD HW8.out hb
         by_cases hg:(eb || b1)=false
         ·rw[hg] at h8
          replace h11:=h11 hg
          replace h12:=h12 hg
          (try simp only[h8] at hK)
          go_simp
          go_at_call 106
          refine (Compare_any h11 h12).mono ?_
          rintro e w3 ⟨rfl,hb3⟩
          exact hK _ _ hb3 (fun _=>rfl)
         ·have hg':(eb || b1)=true:=eq_true_of_ne_false hg
          rw[hg'] at h8
          (try simp only[h8] at hK)
          clear h11 h12
          go_simp
          exact hK _ _ (ZR _ _) (fun h=>absurd h hg)
        case s14=>
         intro xs w' hb hT K hK
         have h8:(xs 8)=.bool (eb || b1):=hT 8 (by kernel_rfl)
         have h13:(eb || b1)=false→(xs 13)=.int .i64 (cmpI (Nat.gcd (parseVal T).natAbs q.natAbs:Nat) 1):=hT 13 (by kernel_rfl)
         clear hT
         simp only[zLd,zLe,putAll,zAp,zLa,zLb,zLc,Nat.reduceAdd,zNz] at hK⊢
         have hw:=Flow.hwD HW8.out hb
         by_cases hg:(eb || b1)=false
         ·rw[hg] at h8
          replace h13:=h13 hg
          (try simp only[h8] at hK)
          (try simp only[h13] at hK)
          go_simp
          exact hK _ _ (ZR _ _) (fun _=>(by rw[cmp_nez,HF2.out]))
         ·have hg':(eb || b1)=true:=eq_true_of_ne_false hg
          rw[hg'] at h8
          (try simp only[h8] at hK)
          clear h13
          go_simp
          exact hK _ _ (ZR _ _) (fun h=>absurd h hg)
        case s15=>
         intro xs w' hb hT K hK
         have h8:(xs 8)=.bool (eb || b1):=hT 8 (by kernel_rfl)
         have h14:(eb || b1)=false→(xs 14)=.bool b2:=hT 14 (by kernel_rfl)
         clear hT
         simp only[zLd,zLe,putAll,zAp,zLa,zLb,zLc,Nat.reduceAdd,zNz] at hK⊢
         have hw:=Flow.hwD HW8.out hb
         by_cases hg:(eb || b1)=false
         ·rw[hg] at h8
          replace h14:=h14 hg
          (try simp only[h8] at hK)
          (try simp only[h14] at hK)
          go_simp
          exact hK _ _ (ZR _ _) (by simp[ hg])
         ·have hg':(eb || b1)=true:=eq_true_of_ne_false hg
          rw[hg'] at h8
          clear h14
          (try simp only[h8] at hK)
          go_simp
          exact hK _ _ (ZR _ _) (by simp[ hg'])
       case fin=>
        intro xs w' hb hT
        have hw:=Flow.hwD HW8.out hb
        have h15:(xs 15)=.bool ((eb || b1) || b2):=hT 15 (by omega)
        clear hT
        simp only[zLd,zLe,putAll,zAp,zLa,zLb,zLc,Nat.reduceAdd,zNz]
        refine wpAny_done (by kernel_rfl) ?_ _
        obtain ⟨w9,e9⟩:∃w5,w5=w':=⟨_,rfl⟩
        rw[←e9] at hw⊢
        have HRC:=ZH (HR.out.later hw)
        clear e9 hw hb
        cases hfl:((eb || b1) || b2) with
        | true=>
         rw[hfl] at h15
         have HE:=ZH (show readErr s.data.toList most=3 by
          rw[HERR.out,if_neg HL.out,if_neg (by rw[HD1.out,HD2.out]; simp),if_neg (fun h=>HNZ.out h.2),if_neg (fun h=>h HP0.out),if_neg (by simp),if_pos ?_]
          by_cases hz:E2=0
          ·rw[←HQV.out.1 hz]
           have:eb=false:=by rw[←heb,hz]; rfl
           rw[this,Bool.false_or,Bool.or_eq_true,←HF1.out,←HF2.out,decide_eq_true_iff,decide_eq_true_iff] at hfl
           exact .inr hfl
          ·rw[←HQV.out.2]
           exact .inl hz)
         simp only[h15]
         clear h15 hfl
         have z0:=ZI HRC.out.hc 0
         have f0:=ZF HRC.out.hc 0
         have z1:=ZI HRC.out.hc 1
         have f1:=ZF HRC.out.hc 1
         have z2:=ZI HRC.out.hc 2
         have f2:=ZF HRC.out.hc 2
         have z3:=ZI HRC.out.hc 3
         have f3:=ZF HRC.out.hc 3
         simp at z0 z1 z2 z3
         go_wp2_with fail
         refine bodyPost_ret (v:=.tuple #[.agg #[.bool false,.slice none 0 0,.bool false,.slice none 0 0],.int .i64 3]) (by simp[results,Tryz.results97,go_sem,z0,z1,z2,z3]) rfl ⟨_,by rw[HE.out],fun h=>?_,fun _=>rfl,?_⟩
         ·rw[HE.out] at h
          cases h
         ·exact ((((HRC.out.below).setCell HGbc.out _).setCell HGbc.out _).setCell HGbc.out _).setCell HGbc.out _
        | false=>
         rw[hfl] at h15
         rw[Bool.or_eq_false_iff,Bool.or_eq_false_iff,←HF1.out,←HF2.out,decide_eq_false_iff_not,decide_eq_false_iff_not] at hfl
         obtain ⟨⟨g1,g2⟩,g3⟩:=hfl
         have hz:E2=0:=by
          rw[←heb] at g1
          simpa using g1
         have hqb:=HQV.out.1 hz
         have g4:((Nat.gcd (parseVal T).natAbs q.natAbs:Nat):Int)=1:=Decidable.not_not.1 g3
         have hpos:0<q:=by
          have h1:=(digs_plain HD2.out).2
          have h2:dval 0 B≠0:=fun h=>HNZ.out (dval_zero B (by have:=HD2.out; unfold digs at this; rw[Bool.and_eq_true] at this; exact this.2) h)
          omega
         have HE:=ZH (show readErr s.data.toList most=0 by
          rw[HERR.out,if_neg HL.out,if_neg (by rw[HD1.out,HD2.out]; simp),if_neg (fun h=>HNZ.out h.2),if_neg (fun h=>h HP0.out),if_neg (by simp),if_neg ?_]
          rw[←HQV.out.2,←hqb]
          rintro (h | h | h)
          ·exact h hz
          ·exact g2 h
          ·exact h g4)
         obtain ⟨r1,r2⟩:=divInt_norm (a:=parseVal T) (b:=q) (g:=1) (p:=parseVal T) (q:=q) hpos g4.symm (Int.mul_one _).symm (Int.mul_one _).symm
         have HRV:=ZH (show (readVal s.data.toList).num=parseVal T∧((readVal s.data.toList).den:Int)=q∧0<q by
          have h:readVal s.data.toList=Rat.divInt (parseVal T) q:=by
           unfold readVal
           rw[←HEQ.out.1,←HEQ.out.2.1,←HEQ.out.2.2.1,←hqb]
           rfl
          rw[h]
          exact ⟨r1,r2,hpos⟩)
         simp only[h15]
         clear h15 g1 g2 g3 g4 hz hqb hpos r1 r2
         have ya0:=ZI HRC.out.ha 0
         have ya1:=ZI HRC.out.ha 1
         have yb0:=ZI HRC.out.hb 0
         have yb1:=ZI HRC.out.hb 1
         simp at ya0 ya1 yb0 yb1
         have z0:=ZI HRC.out.hc 0
         have f0:=ZF HRC.out.hc 0
         have z1:=ZI HRC.out.hc 1
         have f1:=ZF HRC.out.hc 1
         have z2:=ZI HRC.out.hc 2
         have f2:=ZF HRC.out.hc 2
         have z3:=ZI HRC.out.hc 3
         have f3:=ZF HRC.out.hc 3
         simp at z0 z1 z2 z3
         have i1:=HRC.out.ia.store4 HRC.out.hc (.bool sn) (.slice an nn cn) (.bool sd) (.slice ad nd cd)
         have i2:=HRC.out.ib.store4 HRC.out.hc (.bool sn) (.slice an nn cn) (.bool sd) (.slice ad nd cd)
         have hbf:=(((HRC.out.below.setCell (p:=⟨bc,0,none⟩) HGbc.out (.bool sn)).setCell (p:=⟨bc,1,none⟩) HGbc.out (.slice an nn cn)).setCell (p:=⟨bc,2,none⟩) HGbc.out (.bool sd)).setCell (p:=⟨bc,3,none⟩) HGbc.out (.slice ad nd cd)
         have HF:=ZH (ZN i1 (ZN i2 hbf))
         clear i1 i2 hbf
         go_wp2_with fail
         refine bodyPost_ret (v:=.tuple #[.agg #[.bool sn,.slice an nn cn,.bool sd,.slice ad nd cd],.int .i64 0]) (by simp[results,Tryz.results97,go_sem,z0,z1,z2,z3]) rfl ⟨_,by rw[HE.out],fun _=>⟨q,⟨_,_,_,_,rfl,by rw[HRV.out.1]; exact HF.out.1,HF.out.2.1,by have:=HRV.out.2.2; omega⟩,by rw[HRV.out.2.1,den,if_neg (by have:=HRV.out.2.2; omega)]⟩,fun h=>absurd HE.out h,HF.out.2.2⟩
      ·obtain rfl:=hn5 hp
       have e2:(E==0)=false:=by rw[ZQ]; exact hp
       have HE:=ZH (show readErr s.data.toList most=3 by rw[HERR.out]; rw[if_neg HL.out,if_neg (by rw[HD1.out,HD2.out]; simp),if_neg (fun h=>HNZ.out h.2),if_pos (by rw[←hE]; exact hp)])
       clear hi5 hn5 hE hp
       go_upto_region 10 with fail
       obtain ⟨w6,hw6⟩:∃x,x=w5.alloc (.cells #[.bool false,.slice none 0 0] 45):=⟨_,rfl⟩
       rw[←hw6]
       have hb6:Below w5.heap.size w5 w6:=by rw[hw6]; exact (ZR _ w5).alloc (Nat.le_refl _) _
       have HB6:=ZH (HB5.out.trans (hb6.mono HB5.out.size))
       have HK6:=ZH ((hb6.block bc (ZL HK5.out)).trans HK5.out)
       have z0:=ZI HK6.out 0
       have f0:=ZF HK6.out 0
       have z1:=ZI HK6.out 1
       have f1:=ZF HK6.out 1
       have z2:=ZI HK6.out 2
       have f2:=ZF HK6.out 2
       have z3:=ZI HK6.out 3
       have f3:=ZF HK6.out 3
       simp at z0 z1 z2 z3
       clear hb6 hw6
       go_wp2_with fail
       refine bodyPost_ret (v:=.tuple #[.agg #[.bool false,.slice none 0 0,.bool false,.slice none 0 0],.int .i64 3]) (by simp[results,Tryz.results97,go_sem,z0,z1,z2,z3]) rfl ⟨_,by rw[HE.out],fun h=>?_,fun _=>rfl,?_⟩
       ·rw[HE.out] at h
        cases h
       ·exact ((((HB6.out).setCell HGbc.out _).setCell HGbc.out _).setCell HGbc.out _).setCell HGbc.out _
end Go.Proofs.YtdcaaehapdhckaaGreatDoor
