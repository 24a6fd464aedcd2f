/- Parts of the proof of TopInstructions. -/
import Derived.Test.YtceaodnohnekkaaGreatDoorMK1
import Derived.Test.YtceaodnohnekkaaGreatDoorMK2
import Derived.Test.YtceaodnohnekkaaGreatDoorMK3
import Derived.Deep.QuietTactic
import Derived.BigQuiet
import Derived.RangeFuncNested
import Derived.RangeFuncBound
import Derived.RangeFuncCalls
import Derived.RangeFuncLeaves
import Derived.WalkSpells
import Derived.Lib.OthersKept
import Derived.Lib.AppendZeros
import Derived.Laws.CopyRow
import Derived.Recover
import Derived.Defers
import Derived.Test.YtceaodnohnekkaaGreatDoorRows
import Derived.ProofKit
import Derived.OpenShut
import Derived.SizedLaws
namespace Go.Proofs.YtceaodnohnekkaaGreatDoor
open Go.RowKit Ex
def aZ (wd:Nat)(k:Nat)(l:List ay):List ay:=(l.take k).map (kv wd)++l.drop k
theorem gT {wd k:Nat}{l:List ay}{o:ay}(h:l[k]? =some o):(aZ wd k l)[k]? =some o:=by
 have hlt:k < l.length:=(List.getElem?_eq_some_iff.1 h).1
 unfold aZ
 rw[List.getElem?_append_right (by simp;omega)]
 simp[Nat.min_eq_left (Nat.le_of_lt hlt),h]
theorem lS {wd k:Nat}{l:List ay}{o:ay}(h:l[k]? =some o):(aZ wd k l).set k (kv wd o)=aZ wd (k+1) l:=by
 have hlt:k < l.length:=(List.getElem?_eq_some_iff.1 h).1
 have hd:l.drop k=o::l.drop (k+1):=by
  rw[List.drop_eq_getElem_cons hlt,(List.getElem_eq_iff hlt).2 h]
 have ht:l.take (k+1)=l.take k++[o]:=by
  rw[List.take_add_one,h];rfl
 unfold aZ
 rw[hd,ht,List.map_append,List.set_append_right _ _ (by simp;omega)]
 simp[Nat.min_eq_left (Nat.le_of_lt hlt)]
theorem iH {wd k:Nat}{l:List ay}{o:ay}(h:l[k]? =some o)(e:kv wd o=o):aZ wd k l=aZ wd (k+1) l:=by
 have hlt:k < l.length:=(List.getElem?_eq_some_iff.1 h).1
 have hd:l.drop k=o::l.drop (k+1):=by
  rw[List.drop_eq_getElem_cons hlt,(List.getElem_eq_iff hlt).2 h]
 have ht:l.take (k+1)=l.take k++[o]:=by
  rw[List.take_add_one,h];rfl
 unfold aZ
 rw[hd,ht,List.map_append,List.map_cons,List.map_nil,e]
 simp
theorem iG (wd:Nat)(l:List ay):aZ wd 0 l=l:=by simp[aZ]
theorem jm (wd:Nat)(l:List ay){k:Nat}(h:l.length≤k):aZ wd k l=l.map (kv wd):=by simp[aZ,List.take_of_length_le h,List.drop_eq_nil_of_le h]
theorem jl (wd k:Nat)(l:List ay):(aZ wd k l).length=l.length:=by simp[aZ];omega
def jR (wd:Nat)(o:ay):Bool:=decide (o.1=6) && (decide (o.2.2 < 0) && (decide (-((2 ^ (8 * wd):Int) / 2)≤o.2.2) && decide ((1:Int) < 2 ^ (8 * wd))))
theorem qI {wd:Nat}{o:ay}(h:jR wd o=true):kv wd o=(o.1,o.2.1,o.2.2+2 ^ (8 * wd)):=by
 unfold kv
 simp only
 unfold jR at h
 rw[if_pos h]
theorem kM {wd:Nat}{o:ay}(h:jR wd o=false):kv wd o=o:=by
 unfold kv
 simp only
 unfold jR at h
 rw[if_neg (by rw[h];simp)]
abbrev vX (w:World)(nm:List Nat)(A:Option Addr)(n c:Nat)(wd:Int):Prop:=∀W,Below w.heap.size w W→Calls Tryz.prog 131 #[.agg #[.string (aa nm),.slice A n c]] W fun e w'=>e= .returned (.int .i64 wd)∧Below W.heap.size W w'
abbrev NuW (w:World)(B b:Nat)(nm:List Nat)(A:Option Addr)(n c:Nat)(l:List ay)(W:World):Prop:=Bk W b 135 [.string (aa nm),.slice A n c]∧Ow W B A l∧Below B w W
theorem l9 {B:Nat}{w W:World}(h:Below B w W)(hB:B≤W.heap.size)(O:Obj):Below B w (W.alloc O):=h.alloc hB O
set_option maxHeartbeats 8000000 in
theorem agv (B b:Nat)(nm:List Nat)(A:Option Addr)(l:List ay)(n c:Nat)(w:World)(hk:Bk w b 135 [.string (aa nm),.slice A n c])(ho:Ow w B A l)(hn:n=l.length)(hc:n≤c)(hm:l.length≤3)(hB:B≤w.heap.size)(hne:l≠[]→∀a,A=some a→a.block≠b)(h64:∀o∈l,-9223372036854775808≤o.2.2∧o.2.2≤9223372036854775807)
 (CW:vX w nm A n c 1):
 Calls Tryz.prog 71 #[.pointer (some ⟨b,0,none⟩)] w fun e w'=>e= .returned (.tuple #[])∧Wr B b nm (l.map (kv 1)) w'∧Below B w w':=by
 have CW:=zz CW
 have g0:=hk.cell 0 rfl
 have g1:=hk.cell 1 rfl
 have H0:=zz (zy hk (zy ho hB))
 have HN:=zz (zy hn hc)
 have HNE:=zz hne
 have H64:=zz h64
 have hni:(n:Int)≤3:=by omega
 clear hk ho hn hc hm hB hne h64
 go_enter Tryz.func71,Tryz.ntmps71
 go_wp2_with (go_at_call 131;refine (CW.out _ (zo _ _)).mono ?_;rintro e w1 ⟨rfl,hb⟩;have H1:Hid (NuW w B b nm A n c l w1∧B≤w1.heap.size):=⟨⟨H0.out.1.after hb,H0.out.2.1.after hb,hb.mono H0.out.2.2⟩,zt H0.out.2.2 hb.size⟩;have x0:=H1.out.1.1.cell 0 rfl;have x1:=H1.out.1.1.cell 1 rfl;clear hb)
 go_loopw [18] (fun v wr=>∃k:Nat,v= .int .i64 (k:Int)∧k≤n∧Hid (NuW w B b nm A n c (aZ 1 k l) wr∧B≤wr.heap.size)) (fun v _=>n - (intOf v).toNat)
 case atStart=>exact⟨0,rfl,Nat.zero_le _,by rw[iG];exact H1.out⟩
 case round=>
  obtain⟨k,rfl,hk,hr⟩:=hrel
  by_cases hlt:k < n
  ·have hk1:k < l.length:=by rw[← HN.out.1];exact hlt
   have e1:=List.getElem?_eq_getElem hk1
   obtain⟨o,ho⟩:∃o,l[k]=o:=⟨_,rfl⟩
   rw[ho] at e1
   have lW:=H64.out o (List.mem_of_getElem? e1)
   obtain⟨q,off,rfl,hq,c0,c1,c2,f2,hset⟩:=hr.out.1.2.1.cells (gT e1)
   have HQ:Hid (q≠b):=HNE.out (fun e=>by rw[e] at hk1;exact absurd hk1 (Nat.not_lt_zero _)) _ rfl
   have y0:=jY (.cells #[.int .i64 o.1,.int .i64 o.2.1,.int .i64 o.2.2] 65) (hr.out.1.1.cell 0 rfl)
   have y1:=jY (.cells #[.int .i64 o.1,.int .i64 o.2.1,.int .i64 o.2.2] 65) (hr.out.1.1.cell 1 rfl)
   have y2:=jY (.cells #[.int .i64 o.1,.int .i64 o.2.1,.int .i64 o.2.2] 65) c2
   have HR2:Hid (NuW w B b nm (some ⟨q,off,none⟩) n c (aZ 1 k l) (wr.alloc (.cells #[.int .i64 o.1,.int .i64 o.2.1,.int .i64 o.2.2] 65))∧B≤(wr.alloc (.cells #[.int .i64 o.1,.int .i64 o.2.1,.int .i64 o.2.2] 65)).heap.size):=⟨⟨hr.out.1.1.alloc _,hr.out.1.2.1.alloc _,l9 hr.out.1.2.2 hr.out.2 _⟩,by have:=hr.out.2;simp;omega⟩
   have E1:=zz e1
   clear hset ho e1
   cases hp:jR 1 o
   ·have HS:Hid (aZ 1 k l=aZ 1 (k+1) l):=iH E1.out (kM hp)
    have HF:Hid ((o.1 == 6)=false∨((o.1 == 6)=true∧decide (o.2.2 < 0)=false)∨((o.1 == 6)=true∧decide (o.2.2 < 0)=true∧decide (-128≤o.2.2)=false)):=by
     simp only[jR,Bool.and_eq_false_iff] at hp
     cases h6:(o.1 == 6)
     ·exact .inl rfl
     ·have h6':o.1=6:=by simpa using h6
      refine .inr ?_
      cases h0:decide (o.2.2 < 0)
      ·exact .inl ⟨rfl,rfl⟩
      ·refine .inr ⟨rfl,rfl,?_⟩
       simp[h6'] at hp
       simp at h0
       simp
       omega
    clear hp
    generalize o.1=k0 at c0 c1 c2 y0 y1 y2 HR2 HF lW
    generalize o.2.1=r0 at c0 c1 c2 y0 y1 y2 HR2 HF lW
    generalize o.2.2=n0 at c0 c1 c2 y0 y1 y2 HR2 HF lW
    rcases HF.out with d0 | ⟨d0,d1⟩ | ⟨d0,d1,d2⟩
    all_goals
     clear HF
     go_wp2
     go_roundw
     case rel=>exact⟨k+1,by go_num,by omega,by rw[← HS.out];exact HR2.out⟩
     case measure=>simp[intOf];omega
   ·have hp':=hp
    simp only[jR,Bool.and_eq_true,decide_eq_true_eq] at hp'
    have d0:(o.1 == 6)=true:=by simpa using hp'.1
    have d1:decide (o.2.2 < 0)=true:=by simpa using hp'.2.1
    have d2:decide (-128≤o.2.2)=true:=by
     have:=hp'.2.2.1
     simp at this ⊢
     omega
    have HP:=zz (qI hp)
    have hpb: -128≤o.2.2∧o.2.2 < 0:=by
     simp at d1 d2
     exact⟨d2,d1⟩
    obtain⟨q',off',hq',_,z0,z1,z2,fz2,hset⟩:=HR2.out.1.2.1.cells (gT E1.out)
    obtain⟨rfl,rfl⟩:q=q'∧off=off':=by simpa using hq'
    have HE:Hid (NuW w B b nm (some ⟨q,off,none⟩) n c (aZ 1 (k+1) l) ((wr.alloc (.cells #[.int .i64 o.1,.int .i64 o.2.1,.int .i64 o.2.2] 65)).setCell ⟨q,off+k * 3+2,none⟩ (.int .i64 (o.2.2+256)))∧B≤((wr.alloc (.cells #[.int .i64 o.1,.int .i64 o.2.1,.int .i64 o.2.2] 65)).setCell ⟨q,off+k * 3+2,none⟩ (.int .i64 (o.2.2+256))).heap.size):=by
     have h3:=hset (o.2.2+256)
     have e2:(aZ 1 k l).set k (o.1,o.2.1,o.2.2+256)=aZ 1 (k+1) l:=by
      rw[← lS E1.out,HP.out]
      rfl
     rw[e2] at h3
     exact⟨⟨HR2.out.1.1.other (by show b≠q;exact Ne.symm HQ.out) _,h3,HR2.out.1.2.2.setCell hq _⟩,by rw[World.size_setCell];exact HR2.out.2⟩
    clear hp hp' hset hq' z0 z1
    generalize o.1=k0 at c0 c1 c2 y0 y1 y2 HR2 lW z2 fz2 d0 HE
    generalize o.2.1=r0 at c0 c1 c2 y0 y1 y2 HR2 lW z2 fz2 HE
    generalize o.2.2=n0 at c0 c1 c2 y0 y1 y2 HR2 lW z2 fz2 d1 d2 hpb HE
    obtain⟨hp0,hp1⟩:=hpb
    go_wp2
    go_roundw
    case rel=>exact⟨k+1,by go_num,by omega,HE⟩
    case measure=>simp[intOf];omega
  ·have HS:Hid (aZ 1 k l=l.map (kv 1)):=jm 1 l (by rw[← HN.out.1];omega)
   go_wp2
   first | go_end0 | refine bodyPost_ret (results_none rfl _ _ _) rfl ?_
   rw[← HS.out]
   exact⟨rfl,⟨A,n,c,hr.out.1.1,hr.out.1.2.1,by rw[jl];exact HN.out.1,HN.out.2⟩,hr.out.1.2.2⟩
set_option maxHeartbeats 8000000 in
theorem agu (B b:Nat)(nm:List Nat)(A:Option Addr)(l:List ay)(n c:Nat)(w:World)(hk:Bk w b 135 [.string (aa nm),.slice A n c])(ho:Ow w B A l)(hn:n=l.length)(hc:n≤c)(hm:l.length≤3)(hB:B≤w.heap.size)(hne:l≠[]→∀a,A=some a→a.block≠b)(h64:∀o∈l,-9223372036854775808≤o.2.2∧o.2.2≤9223372036854775807)
 (CW:vX w nm A n c 2):
 Calls Tryz.prog 71 #[.pointer (some ⟨b,0,none⟩)] w fun e w'=>e= .returned (.tuple #[])∧Wr B b nm (l.map (kv 2)) w'∧Below B w w':=by
 have CW:=zz CW
 have g0:=hk.cell 0 rfl
 have g1:=hk.cell 1 rfl
 have H0:=zz (zy hk (zy ho hB))
 have HN:=zz (zy hn hc)
 have HNE:=zz hne
 have H64:=zz h64
 have hni:(n:Int)≤3:=by omega
 clear hk ho hn hc hm hB hne h64
 go_enter Tryz.func71,Tryz.ntmps71
 go_wp2_with (go_at_call 131;refine (CW.out _ (zo _ _)).mono ?_;rintro e w1 ⟨rfl,hb⟩;have H1:Hid (NuW w B b nm A n c l w1∧B≤w1.heap.size):=⟨⟨H0.out.1.after hb,H0.out.2.1.after hb,hb.mono H0.out.2.2⟩,zt H0.out.2.2 hb.size⟩;have x0:=H1.out.1.1.cell 0 rfl;have x1:=H1.out.1.1.cell 1 rfl;clear hb)
 go_loopw [18] (fun v wr=>∃k:Nat,v= .int .i64 (k:Int)∧k≤n∧Hid (NuW w B b nm A n c (aZ 2 k l) wr∧B≤wr.heap.size)) (fun v _=>n - (intOf v).toNat)
 case atStart=>exact⟨0,rfl,Nat.zero_le _,by rw[iG];exact H1.out⟩
 case round=>
  obtain⟨k,rfl,hk,hr⟩:=hrel
  by_cases hlt:k < n
  ·have hk1:k < l.length:=by rw[← HN.out.1];exact hlt
   have e1:=List.getElem?_eq_getElem hk1
   obtain⟨o,ho⟩:∃o,l[k]=o:=⟨_,rfl⟩
   rw[ho] at e1
   have lW:=H64.out o (List.mem_of_getElem? e1)
   obtain⟨q,off,rfl,hq,c0,c1,c2,f2,hset⟩:=hr.out.1.2.1.cells (gT e1)
   have HQ:Hid (q≠b):=HNE.out (fun e=>by rw[e] at hk1;exact absurd hk1 (Nat.not_lt_zero _)) _ rfl
   have y0:=jY (.cells #[.int .i64 o.1,.int .i64 o.2.1,.int .i64 o.2.2] 65) (hr.out.1.1.cell 0 rfl)
   have y1:=jY (.cells #[.int .i64 o.1,.int .i64 o.2.1,.int .i64 o.2.2] 65) (hr.out.1.1.cell 1 rfl)
   have y2:=jY (.cells #[.int .i64 o.1,.int .i64 o.2.1,.int .i64 o.2.2] 65) c2
   have HR2:Hid (NuW w B b nm (some ⟨q,off,none⟩) n c (aZ 2 k l) (wr.alloc (.cells #[.int .i64 o.1,.int .i64 o.2.1,.int .i64 o.2.2] 65))∧B≤(wr.alloc (.cells #[.int .i64 o.1,.int .i64 o.2.1,.int .i64 o.2.2] 65)).heap.size):=⟨⟨hr.out.1.1.alloc _,hr.out.1.2.1.alloc _,l9 hr.out.1.2.2 hr.out.2 _⟩,by have:=hr.out.2;simp;omega⟩
   have E1:=zz e1
   clear hset ho e1
   cases hp:jR 2 o
   ·have HS:Hid (aZ 2 k l=aZ 2 (k+1) l):=iH E1.out (kM hp)
    have HF:Hid ((o.1 == 6)=false∨((o.1 == 6)=true∧decide (o.2.2 < 0)=false)∨((o.1 == 6)=true∧decide (o.2.2 < 0)=true∧decide (-32768≤o.2.2)=false)):=by
     simp only[jR,Bool.and_eq_false_iff] at hp
     cases h6:(o.1 == 6)
     ·exact .inl rfl
     ·have h6':o.1=6:=by simpa using h6
      refine .inr ?_
      cases h0:decide (o.2.2 < 0)
      ·exact .inl ⟨rfl,rfl⟩
      ·refine .inr ⟨rfl,rfl,?_⟩
       simp[h6'] at hp
       simp at h0
       simp
       omega
    clear hp
    generalize o.1=k0 at c0 c1 c2 y0 y1 y2 HR2 HF lW
    generalize o.2.1=r0 at c0 c1 c2 y0 y1 y2 HR2 HF lW
    generalize o.2.2=n0 at c0 c1 c2 y0 y1 y2 HR2 HF lW
    rcases HF.out with d0 | ⟨d0,d1⟩ | ⟨d0,d1,d2⟩
    all_goals
     clear HF
     go_wp2
     go_roundw
     case rel=>exact⟨k+1,by go_num,by omega,by rw[← HS.out];exact HR2.out⟩
     case measure=>simp[intOf];omega
   ·have hp':=hp
    simp only[jR,Bool.and_eq_true,decide_eq_true_eq] at hp'
    have d0:(o.1 == 6)=true:=by simpa using hp'.1
    have d1:decide (o.2.2 < 0)=true:=by simpa using hp'.2.1
    have d2:decide (-32768≤o.2.2)=true:=by
     have:=hp'.2.2.1
     simp at this ⊢
     omega
    have HP:=zz (qI hp)
    have hpb: -32768≤o.2.2∧o.2.2 < 0:=by
     simp at d1 d2
     exact⟨d2,d1⟩
    obtain⟨q',off',hq',_,z0,z1,z2,fz2,hset⟩:=HR2.out.1.2.1.cells (gT E1.out)
    obtain⟨rfl,rfl⟩:q=q'∧off=off':=by simpa using hq'
    have HE:Hid (NuW w B b nm (some ⟨q,off,none⟩) n c (aZ 2 (k+1) l) ((wr.alloc (.cells #[.int .i64 o.1,.int .i64 o.2.1,.int .i64 o.2.2] 65)).setCell ⟨q,off+k * 3+2,none⟩ (.int .i64 (o.2.2+65536)))∧B≤((wr.alloc (.cells #[.int .i64 o.1,.int .i64 o.2.1,.int .i64 o.2.2] 65)).setCell ⟨q,off+k * 3+2,none⟩ (.int .i64 (o.2.2+65536))).heap.size):=by
     have h3:=hset (o.2.2+65536)
     have e2:(aZ 2 k l).set k (o.1,o.2.1,o.2.2+65536)=aZ 2 (k+1) l:=by
      rw[← lS E1.out,HP.out]
      rfl
     rw[e2] at h3
     exact⟨⟨HR2.out.1.1.other (by show b≠q;exact Ne.symm HQ.out) _,h3,HR2.out.1.2.2.setCell hq _⟩,by rw[World.size_setCell];exact HR2.out.2⟩
    clear hp hp' hset hq' z0 z1
    generalize o.1=k0 at c0 c1 c2 y0 y1 y2 HR2 lW z2 fz2 d0 HE
    generalize o.2.1=r0 at c0 c1 c2 y0 y1 y2 HR2 lW z2 fz2 HE
    generalize o.2.2=n0 at c0 c1 c2 y0 y1 y2 HR2 lW z2 fz2 d1 d2 hpb HE
    obtain⟨hp0,hp1⟩:=hpb
    go_wp2
    go_roundw
    case rel=>exact⟨k+1,by go_num,by omega,HE⟩
    case measure=>simp[intOf];omega
  ·have HS:Hid (aZ 2 k l=l.map (kv 2)):=jm 2 l (by rw[← HN.out.1];omega)
   go_wp2
   first | go_end0 | refine bodyPost_ret (results_none rfl _ _ _) rfl ?_
   rw[← HS.out]
   exact⟨rfl,⟨A,n,c,hr.out.1.1,hr.out.1.2.1,by rw[jl];exact HN.out.1,HN.out.2⟩,hr.out.1.2.2⟩
set_option maxHeartbeats 8000000 in
theorem num_1 (B b:Nat)(nm:List Nat)(A:Option Addr)(l:List ay)(n c:Nat)(w:World)(hk:Bk w b 135 [.string (aa nm),.slice A n c])(ho:Ow w B A l)(hn:n=l.length)(hc:n≤c)(hm:l.length≤3)(hB:B≤w.heap.size)(hne:l≠[]→∀a,A=some a→a.block≠b)(h64:∀o∈l,-9223372036854775808≤o.2.2∧o.2.2≤9223372036854775807)
 (CW:vX w nm A n c 0):
 Calls Tryz.prog 71 #[.pointer (some ⟨b,0,none⟩)] w fun e w'=>e= .returned (.tuple #[])∧Wr B b nm (l.map (kv 0)) w'∧Below B w w':=by
 have CW:=zz CW
 have g0:=hk.cell 0 rfl
 have g1:=hk.cell 1 rfl
 have H0:=zz (zy hk (zy ho hB))
 have HN:=zz (zy hn hc)
 have HNE:=zz hne
 have H64:=zz h64
 have hni:(n:Int)≤3:=by omega
 clear hk ho hn hc hm hB hne h64
 go_enter Tryz.func71,Tryz.ntmps71
 go_wp2_with (go_at_call 131;refine (CW.out _ (zo _ _)).mono ?_;rintro e w1 ⟨rfl,hb⟩;have H1:Hid (NuW w B b nm A n c l w1∧B≤w1.heap.size):=⟨⟨H0.out.1.after hb,H0.out.2.1.after hb,hb.mono H0.out.2.2⟩,zt H0.out.2.2 hb.size⟩;have x0:=H1.out.1.1.cell 0 rfl;have x1:=H1.out.1.1.cell 1 rfl;clear hb)
 go_loopw [18] (fun v wr=>∃k:Nat,v= .int .i64 (k:Int)∧k≤n∧Hid (NuW w B b nm A n c (aZ 0 k l) wr∧B≤wr.heap.size)) (fun v _=>n - (intOf v).toNat)
 case atStart=>exact⟨0,rfl,Nat.zero_le _,by rw[iG];exact H1.out⟩
 case round=>
  obtain⟨k,rfl,hk,hr⟩:=hrel
  by_cases hlt:k < n
  ·have hk1:k < l.length:=by rw[← HN.out.1];exact hlt
   have e1:=List.getElem?_eq_getElem hk1
   obtain⟨o,ho⟩:∃o,l[k]=o:=⟨_,rfl⟩
   rw[ho] at e1
   have lW:=H64.out o (List.mem_of_getElem? e1)
   obtain⟨q,off,rfl,hq,c0,c1,c2,f2,hset⟩:=hr.out.1.2.1.cells (gT e1)
   have HQ:Hid (q≠b):=HNE.out (fun e=>by rw[e] at hk1;exact absurd hk1 (Nat.not_lt_zero _)) _ rfl
   have y0:=jY (.cells #[.int .i64 o.1,.int .i64 o.2.1,.int .i64 o.2.2] 65) (hr.out.1.1.cell 0 rfl)
   have y1:=jY (.cells #[.int .i64 o.1,.int .i64 o.2.1,.int .i64 o.2.2] 65) (hr.out.1.1.cell 1 rfl)
   have y2:=jY (.cells #[.int .i64 o.1,.int .i64 o.2.1,.int .i64 o.2.2] 65) c2
   have HR2:Hid (NuW w B b nm (some ⟨q,off,none⟩) n c (aZ 0 k l) (wr.alloc (.cells #[.int .i64 o.1,.int .i64 o.2.1,.int .i64 o.2.2] 65))∧B≤(wr.alloc (.cells #[.int .i64 o.1,.int .i64 o.2.1,.int .i64 o.2.2] 65)).heap.size):=⟨⟨hr.out.1.1.alloc _,hr.out.1.2.1.alloc _,l9 hr.out.1.2.2 hr.out.2 _⟩,by have:=hr.out.2;simp;omega⟩
   have E1:=zz e1
   clear hset ho e1
   have hp:jR 0 o=false:=by
    simp[jR]
   have HS:Hid (aZ 0 k l=aZ 0 (k+1) l):=iH E1.out (kM hp)
   have HF:Hid ((o.1 == 6)=false∨((o.1 == 6)=true∧decide (o.2.2 < 0)=false)∨((o.1 == 6)=true∧decide (o.2.2 < 0)=true∧decide (0≤o.2.2)=false)):=by
    simp only[jR,Bool.and_eq_false_iff] at hp
    cases h6:(o.1 == 6)
    ·exact .inl rfl
    ·have h6':o.1=6:=by simpa using h6
     refine .inr ?_
     cases h0:decide (o.2.2 < 0)
     ·exact .inl ⟨rfl,rfl⟩
     ·refine .inr ⟨rfl,rfl,?_⟩
      simp[h6'] at hp
      simp at h0
      simp
      omega
   clear hp
   generalize o.1=k0 at c0 c1 c2 y0 y1 y2 HR2 HF lW
   generalize o.2.1=r0 at c0 c1 c2 y0 y1 y2 HR2 HF lW
   generalize o.2.2=n0 at c0 c1 c2 y0 y1 y2 HR2 HF lW
   rcases HF.out with d0 | ⟨d0,d1⟩ | ⟨d0,d1,d2⟩
   all_goals
    clear HF
    go_wp2
    go_roundw
    case rel=>exact⟨k+1,by go_num,by omega,by rw[← HS.out];exact HR2.out⟩
    case measure=>simp[intOf];omega
  ·have HS:Hid (aZ 0 k l=l.map (kv 0)):=jm 0 l (by rw[← HN.out.1];omega)
   go_wp2
   first | go_end0 | refine bodyPost_ret (results_none rfl _ _ _) rfl ?_
   rw[← HS.out]
   exact⟨rfl,⟨A,n,c,hr.out.1.1,hr.out.1.2.1,by rw[jl];exact HN.out.1,HN.out.2⟩,hr.out.1.2.2⟩
theorem ET {w:World}{B b n c:Nat}{nm:List Nat}{A:Option Addr}{l:List ay}(hk:Bk w b 135 [.string (aa nm),.slice A n c])(ho:Ow w B A l)(hl:l≠[]):∀a,A=some a→a.block≠b:=by
 rintro a rfl e
 cases l with
 |nil=>exact hl rfl
 |cons o l=>
  obtain⟨q,off,hA,_,c0,_⟩:=ho.first
  obtain rfl:=zx hA
  have e:q=b:=e
  subst e
  match off,c0 with
  |0,c0=>
   have:=hk.cell 0 rfl
   rw[this] at c0
   cases c0
  |1,c0=>
   have:=hk.cell 1 rfl
   rw[this] at c0
   cases c0
  |k+2,c0=>
   have hh:w.heap[q]? =some (.cells #[.string (aa nm),.slice (some ⟨q,k+2,none⟩) n c] 135 (0,0)):=hk
   simp[World.cell?,hh] at c0
structure Words (w:World)(nm:List Nat):Prop where
 sub:dX w XI nm (bU nm jr)
 add:dX w afA nm (bU nm mH)
 bit:dX w XJ nm (bU nm zB)
 jp:dX w tJp nm (bU nm wJp)
theorem dX.after {w w':World}{L:ByteArray}{nm:List Nat}{b:Bool}(h:dX w L nm b)(hb:Below w.heap.size w w'):dX w' L nm b:=fun W hW=>h W (hb.trans (hW.mono hb.size))
theorem Words.after {w w':World}{nm:List Nat}(h:Words w nm)(hb:Below w.heap.size w w'):Words w' nm:=⟨h.sub.after hb,h.add.after hb,h.bit.after hb,h.jp.after hb⟩
theorem Ox {nm:List Nat}(h:bU nm jr=true):bU nm mH=false:=by
 simp only[bU,jr,List.any_cons,List.any_nil,Bool.or_false,Bool.or_eq_true,decide_eq_true_eq] at h
 rcases h with rfl | rfl | rfl | rfl | rfl <;> rfl
theorem ahF (B b:Nat)(nm:List Nat)(l:List ay)(w:World)(h:Wr B b nm l w)(hm:l.length≤3)(hB:B≤w.heap.size)(hBb:B≤b)(hW:Words w nm):
 Calls Tryz.prog 69 #[.pointer (some ⟨b,0,none⟩)] w fun e w'=>e= .returned (.tuple #[])∧Wr B b nm (fC nm l) w'∧Below B w w':=by
 obtain⟨A,n,c,hk,ho,hn,hc⟩:=h
 have h1:=hW.sub
 have h2:=hW.add
 have hne:=fun hl=>ET hk ho hl
 match l,hm,hn,ho,hne with
 |[],_,hn,ho,_=>
  subst hn
  exact rP B b nm A [] 0 c w _ _ hk ho rfl hc (by simp) hB h1 h2 (by cases bU nm jr <;> simp) (by cases bU nm mH <;> simp)
 |[y],_,hn,ho,_=>
  subst hn
  cases ha:bU nm mH with
  |true=>
   have hs:bU nm jr=false:=by
    cases hs:bU nm jr
    ·rfl
    ·rw[Ox hs] at ha;cases ha
   rw[ha] at h2
   rw[hs] at h1
   have e:fC nm [y]=[(1,7,0),y]:=by simp[fC,ha]
   rw[e]
   exact ahD B b nm A y c w hk ho hB hBb h1 h2
  |false=>
   rw[ha] at h2
   have e:fC nm [y]=[y]:=by simp[fC,ha]
   rw[e]
   exact rP B b nm A [y] 1 c w _ _ hk ho rfl hc (by simp) hB h1 h2 (by cases bU nm jr <;> simp) (.inl rfl)
 |[x,y],_,hn,ho,hne=>
  subst hn
  cases hs:bU nm jr with
  |true=>
   have ha:=Ox hs
   rw[hs] at h1
   rw[ha] at h2
   by_cases hx:x=(1,7,0)
   ·subst hx
    have e:fC nm [(1,7,0),y]=[y]:=by simp[fC,hs]
    rw[e]
    exact aes B b nm A y c w hk ho hc hB hBb (hne (by simp)) h1
   ·have e:fC nm [x,y]=[x,y]:=by simp[fC,hx]
    rw[e]
    exact ahE B b nm A x y c w hk ho hc hB h1 h2 hx
  |false=>
   rw[hs] at h1
   have e:fC nm [x,y]=[x,y]:=by simp[fC,hs]
   rw[e]
   exact rP B b nm A [x,y] 2 c w _ _ hk ho rfl hc (by simp) hB h1 h2 (.inl rfl) (by cases bU nm mH <;> simp)
 |[x,y,z],_,hn,ho,_=>
  subst hn
  exact rP B b nm A [x,y,z] 3 c w _ _ hk ho rfl hc (by simp) hB h1 h2 (by cases bU nm jr <;> simp) (by cases bU nm mH <;> simp)
theorem an4 (B b:Nat)(nm:List Nat)(hnm:∀x∈nm,x < 256)(l:List ay)(w:World)(h:Wr B b nm l w)(hm:l.length≤3)(hB:B≤w.heap.size):
 Calls Tryz.prog 70 #[.pointer (some ⟨b,0,none⟩)] w fun e w'=>e= .returned (.tuple #[])∧Wr B b nm (iW nm l) w'∧Below B w w':=by
 obtain⟨A,n,c,hk,ho,hn,hc⟩:=h
 by_cases he:nm=[69,88]
 ·subst he
  exact atU B b A l n c w hk ho hn hc hm hB (fun hl=>ET hk ho hl)
 ·have e:iW nm l=l:=by simp[iW,he]
  rw[e]
  exact ahh B b nm A l n c w hk ho hn hc hB he hnm
theorem agt (B b:Nat)(nm:List Nat)(hnm:∀x∈nm,x < 256)(l:List ay)(w:World)(h:Wr B b nm l w)(hm:l.length≤3)(hB:B≤w.heap.size)(h64:∀o∈l,-9223372036854775808≤o.2.2∧o.2.2≤9223372036854775807)(hW:Words w nm):
 Calls Tryz.prog 71 #[.pointer (some ⟨b,0,none⟩)] w fun e w'=>e= .returned (.tuple #[])∧Wr B b nm (l.map (kv (dx nm l))) w'∧Below B w w':=by
 obtain⟨A,n,c,hk,ho,hn,hc⟩:=h
 have CW:vX w nm A n c (dx nm l:Nat):=fun W hb=>SB nm hnm A l n c W _ hn hm (ho.after hb).rd (hW.after hb).bit (hW.after hb).jp
 have hw:dx nm l=0∨dx nm l=1∨dx nm l=2:=by
  unfold dx
  split
  ·exact .inl rfl
  ·split
   ·exact .inr (.inr rfl)
   ·exact .inr (.inl rfl)
 rcases hw with hw | hw | hw <;> rw[hw] at CW ⊢
 ·exact num_1 B b nm A l n c w hk ho hn hc hm hB (fun hl=>ET hk ho hl) h64 CW
 ·exact agv B b nm A l n c w hk ho hn hc hm hB (fun hl=>ET hk ho hl) h64 CW
 ·exact agu B b nm A l n c w hk ho hn hc hm hB (fun hl=>ET hk ho hl) h64 CW
abbrev mD (k:Nat):Value:=.func (.func k) #[] #[]
theorem step0 (w:World):(Instr.index 137 (.agg #[mD 69,mD 70,mD 71]) (.int .i64 0)).run Tryz.prog w= .ok (mD 69) w:=by kernel_rfl
theorem step1 (w:World):(Instr.index 137 (.agg #[mD 69,mD 70,mD 71]) (.int .i64 1)).run Tryz.prog w= .ok (mD 70) w:=by kernel_rfl
theorem step2 (w:World):(Instr.index 137 (.agg #[mD 69,mD 70,mD 71]) (.int .i64 2)).run Tryz.prog w= .ok (mD 71) w:=by kernel_rfl
theorem Dy {nm:List Nat}{l:List ay}{o:ay}(h:o∈fC nm l):o∈l∨o=(1,7,0):=by
 unfold fC at h
 split at h
 ·split at h
  ·simp at h
   exact .inl (by simp[h])
  ·exact .inl h
 ·split at h
  ·simp at h
   rcases h with rfl | rfl
   ·exact .inr rfl
   ·exact .inl (by simp)
  ·exact .inl h
 ·exact .inl h
theorem M3 {nm:List Nat}{l:List ay}{o:ay}(h:o∈iW nm l):o∈l:=by
 unfold iW at h
 split at h
 ·rename_i hc
  simp only[Bool.and_eq_true,decide_eq_true_eq] at hc
  rw[hc.2]
  simp at h ⊢
  rcases h with rfl | rfl <;> simp
 ·exact h
end Go.Proofs.YtceaodnohnekkaaGreatDoor
namespace Go.Proofs.YtceaodnohnekkaaGreatDoor
open Go.RowKit
def u7 (s:ByteArray):List ByteArray→Nat→Int
 |[],_=>-1
 |t::l,k=>if s=t then (k:Int) else u7 s l (k+1)
theorem sN {s:ByteArray}:∀{l:List ByteArray} {k i:Nat},(∀j t,j < i→l[j]? =some t→s≠t)→i≤l.length→u7 s l k=u7 s (l.drop i) (k+i)
 |l,k,0,_,_=>by simp
 |[],k,i+1,_,h=>by simp at h
 |t::l,k,i+1,h,hl=>by
  have h0:=h 0 t (by omega) rfl
  rw[show u7 s (t::l) k=(if s=t then (k:Int) else u7 s l (k+1)) from rfl,if_neg h0,List.drop_succ_cons]
  rw[sN (l:=l) (k:=k+1) (i:=i) (fun j t hj ht=>h (j+1) t (by omega) (by simpa using ht)) (by simpa using hl),show k+1+i=k+(i+1) by omega]
theorem Jm {s:ByteArray}:∀(l:List ByteArray) (k:Nat),decide (0≤u7 s l k)=l.any fun t=>decide (s=t)
 |[],k=>by simp[u7]
 |t::l,k=>by
  unfold u7
  by_cases h:s=t
  ·subst h
   simp
  ·rw[if_neg h,Jm l (k+1),List.any_cons,decide_eq_false h,Bool.false_or]
theorem Lu {s t:ByteArray}(h:s≠t):(s.toList == t.toList)=false:=by
 simp only[beq_eq_false_iff_ne]
 intro e
 rw[ByteArray.toList_eq,ByteArray.toList_eq] at e
 exact h (ByteArray.ext (Array.ext' e))
set_option maxHeartbeats 400000 in
theorem abN (A:Option Addr)(l:List ByteArray)(n c:Nat)(s:ByteArray)(w:World)(p:Nat→Prop)(hn:l.length=n)(hm:(n:Int)≤140737488355328)(h:Rd w p A (qw l)):
 Calls Tryz.prog 199 #[.slice A n c,.string s] w fun e w'=>e= .returned (.int .i64 (u7 s l 0))∧w=w':=by
 have HR:=zz h
 have HN:=zz hn
 clear h hn
 go_enter Tryz.func199,Tryz.ntmps199
 go_wp2
 go_loop [8] (fun v=>∃k:Nat,v= .int .i64 k∧k≤n∧Hid (∀j t,j < k→l[j]? =some t→s≠t)) (fun v=>n - (intOf v).toNat)
 case atStart=>exact⟨0,rfl,by omega,fun j _ hj=>absurd hj (Nat.not_lt_zero _)⟩
 case round=>
  obtain⟨k,rfl,hk,hr⟩:=hrel
  by_cases hlt:k < n
  ·obtain⟨b',o,t,rfl,hc0,hz⟩:=HR.out.Oy (k:=k) (by rw[HN.out];exact hlt)
   have HZ:=zz hz
   clear hz
   by_cases hf:s=t
   ·subst hf
    have e1:(s.toList == s.toList)=true:=beq_self_eq_true _
    have HI:Hid (u7 s l 0=(k:Int)):=by
     have h1:=sN (k:=0) hr.out (by have:=HN.out;omega)
     have hlt2:k < l.length:=by rw[HN.out];exact hlt
     have h2:l.drop k=s::l.drop (k+1):=by
      rw[List.drop_eq_getElem_cons hlt2]
      have:=List.getElem?_eq_getElem hlt2
      rw[HZ.out] at this
      rw[Option.some.inj this]
     show _=_
     rw[h1,h2]
     unfold u7
     simp
    go_wp2
    all_goals go_ret
    all_goals exact⟨bH HI.out.symm,rfl⟩
   ·have e1:=Lu hf
    have HF:=zz hf
    clear hf
    go_wp2
    go_round
    case rel=>exact⟨k+1,by go_num,by omega,fun j t' hj ht=>by
     by_cases e:j=k
     ·subst e
      rw[HZ.out] at ht
      rw[← Option.some.inj ht];exact HF.out
     ·exact hr.out j t' (by omega) ht⟩
    case measure=>simp[intOf];omega
  ·have HI:Hid (u7 s l 0= -1):=by
    have h1:=sN (k:=0) (i:=l.length) (fun j t hj=>hr.out j t (by have:=HN.out;omega)) (zu _)
    show _=_
    rw[h1,List.drop_length];rfl
   go_wp2
   all_goals go_ret
   all_goals exact⟨bH HI.out.symm,rfl⟩
theorem J3 (A:Option Addr)(l:List ByteArray)(n c:Nat)(s:ByteArray)(w:World)(p:Nat→Prop)(hn:l.length=n)(hm:(n:Int)≤140737488355328)(h:Rd w p A (qw l)):
 Calls Tryz.prog 139 #[.slice A n c,.string s] w fun e w'=>e= .returned (.bool (l.any fun t=>decide (s=t)))∧w=w':=by
 have F:=zz (fun W (hW:w=W)=>abN A l n c s W p hn hm (by rw[← hW];exact h))
 have HA:=zz (Jm (s:=s) l 0)
 clear h hn hm
 go_enter Tryz.func139,Tryz.ntmps139
 go_wp2_with (go_at_call 199;refine (F.out _ rfl).mono ?_;rintro e w' ⟨rfl,rfl⟩)
 all_goals go_ret
 all_goals exact⟨aQ HA.out,rfl⟩
def fU (o:ay):Bool:=(o.1 == 2) || ((decide (3≤o.1) && decide (o.1≤5)) && ((o.2.1 == 5) || (o.2.1 == 6)))
def oU (l:List ay):Int:=if l.any fU then 3 else 0
def sK (l:List ay):Int:=if l.any fU then 6 else 2
theorem anF {l:List ay}(h:l.any fU=true):(3:Int)=oU l:=by unfold oU;rw[h];rfl
theorem anG {l:List ay}(h:l.any fU=false):(0:Int)=oU l:=by unfold oU;rw[h];rfl
set_option maxHeartbeats 4000000 in
theorem BF (s:ByteArray)(A:Option Addr)(l:List ay)(n c:Nat)(w:World)(p:Nat→Prop)(hn:n=l.length)(hm:l.length≤1000)(h:Rd w p A (bE l)):
 Calls Tryz.prog 19 #[.agg #[.string s,.slice A n c]] w fun e w'=>e= .returned (.int .i64 (oU l))∧Below w.heap.size w w':=by
 have H0:Hid (Bk (w.alloc (.cells #[.string s,.slice A n c] 24)) w.heap.size 24 [.string s,.slice A n c]∧Below w.heap.size w (w.alloc (.cells #[.string s,.slice A n c] 24))):=⟨Bk.new w 24 [.string s,.slice A n c],(zo _ _).alloc (zu _) _⟩
 have HR:=zz h
 have HN:=zz hn
 have hni:(n:Int)≤1000:=by omega
 clear h hn hm
 go_enter Tryz.func19,Tryz.ntmps19
 go_wp2
 generalize w.alloc (.cells #[.string s,.slice A n c] 24)=W0 at H0 ⊢
 go_loopw [3] (fun v wr=>∃k:Nat,v= .int .i64 (k:Int)∧k≤n∧Hid (∀j o,j < k→l[j]? =some o→fU o=false)∧Hid (Bk wr w.heap.size 24 [.string s,.slice A n c]∧Below w.heap.size w wr)) (fun v _=>n - (intOf v).toNat)
 case atStart=>exact⟨0,rfl,Nat.zero_le _,fun j _ hj=>absurd hj (Nat.not_lt_zero _),H0.out⟩
 case round=>
  obtain⟨k,rfl,hk,hr,hw⟩:=hrel
  have g1:=hw.out.1.cell 1 rfl
  by_cases hlt:k < n
  ·have hk1:k < l.length:=by rw[← HN.out];exact hlt
   have e1:=List.getElem?_eq_getElem hk1
   obtain⟨o,ho⟩:∃o,l[k]=o:=⟨_,rfl⟩
   rw[ho] at e1
   obtain⟨q,off,rfl,_,c0,c1,c2⟩:=(HR.out.after hw.out.2).o3 e1
   have HA:Hid (Bk (wr.alloc (.cells #[.int .i64 o.1,.int .i64 o.2.1,.int .i64 o.2.2] 65)) w.heap.size 24 [.string s,.slice (some ⟨q,off,none⟩) n c]∧Below w.heap.size w (wr.alloc (.cells #[.int .i64 o.1,.int .i64 o.2.1,.int .i64 o.2.2] 65))):=⟨hw.out.1.alloc _,hw.out.2.alloc hw.out.2.size _⟩
   have HY:Hid (fU o=true→(l.any fU=true)):=fun hx=>List.any_eq_true.2 ⟨o,List.mem_of_getElem? e1,hx⟩
   have HZ:Hid (fU o=false→∀j o,j < k+1→l[j]? =some o→fU o=false):=fun hx j t hj ht=>by
    by_cases e:j=k
    ·subst e
     rw[e1] at ht
     rw[← Option.some.inj ht];exact hx
    ·exact hr.out j t (by omega) ht
   have HF:Hid (((o.1 == 2)=true∧fU o=true)∨((o.1 == 2)=false∧((decide (3≤o.1)=false∧fU o=false)∨(decide (3≤o.1)=true∧((decide (o.1≤5)=false∧fU o=false)∨(decide (o.1≤5)=true∧(((o.2.1 == 5)=true∧fU o=true)∨((o.2.1 == 5)=false∧(((o.2.1 == 6)=true∧fU o=true)∨((o.2.1 == 6)=false∧fU o=false)))))))))):=by
    unfold fU Hid
    cases (o.1 == 2) <;> cases decide (3≤o.1) <;> cases decide (o.1≤5) <;> cases (o.2.1 == 5) <;> cases (o.2.1 == 6) <;> simp
   clear ho e1
   generalize fU o=hx at HY HZ HF
   generalize o.1=k0 at c0 c1 c2 HA HF
   generalize o.2.1=r0 at c0 c1 c2 HA HF
   generalize o.2.2=n0 at c0 c1 c2 HA HF
   rcases HF.out with⟨d1,rfl⟩ | ⟨d1,⟨d2,rfl⟩ | ⟨d2,⟨d3,rfl⟩ | ⟨d3,⟨d4,rfl⟩ | ⟨d4,⟨d5,rfl⟩ | ⟨d5,rfl⟩⟩⟩⟩⟩ <;> clear HF
   all_goals
    go_wp2
    first
     |(go_ret;exact⟨bH (anF (HY.out (by first | trivial | rfl))),HA.out.2⟩)
     |(go_roundw
       case rel=>exact⟨k+1,by go_num,by omega,HZ.out (by first | trivial | rfl),HA.out⟩
       case measure=>simp[intOf];omega)
  ·have HX:Hid (l.any fU=false):=by
    show _=_
    rw[List.any_eq_false]
    intro o ho
    obtain⟨j,hj,rfl⟩:=List.getElem_of_mem ho
    have:=hr.out j _ (by have:=HN.out;omega) (List.getElem?_eq_getElem hj)
    simp[this]
   go_wp2
   go_ret
   exact⟨bH (anG HX.out),hw.out.2⟩
theorem abF (s:ByteArray)(A:Option Addr)(l:List ay)(n c:Nat)(w:World)(p:Nat→Prop)(hn:n=l.length)(hm:l.length≤1000)(h:Rd w p A (bE l)):
 Calls Tryz.prog 20 #[.agg #[.string s,.slice A n c]] w fun e w'=>e= .returned (.int .i64 (sK l))∧Below w.heap.size w w':=by
 have C:Hid (∀W,Below w.heap.size w W→Calls Tryz.prog 19 #[.agg #[.string s,.slice A n c]] W fun e w'=>e= .returned (.int .i64 (oU l))∧Below W.heap.size W w'):=fun W hb=>BF s A l n c W p hn hm (h.after hb)
 have HA:Hid (Below w.heap.size w (w.alloc (.cells #[.string s,.slice A n c] 24))):=(zo _ _).alloc (zu _) _
 clear h hn hm
 unfold oU at C
 unfold sK
 generalize l.any fU=b at C ⊢
 cases b
 all_goals
  simp only[if_true,if_false,Bool.false_eq_true] at C ⊢
  go_enter Tryz.func20,Tryz.ntmps20
  go_wp2_with (go_at_call 19;refine (C.out _ HA.out).mono ?_;rintro e w1 ⟨rfl,hb⟩;have HB:=zz (HA.out.trans (hb.mono HA.out.size));clear hb)
  go_ret
  exact⟨rfl,HB.out⟩
theorem Lr {l l':List ay}(hlen:l.length=l'.length)(h:∀(j:Nat) (o o':ay),l[j]? =some o→l'[j]? =some o'→o.1=o'.1∧o.2.1=o'.2.1):l.map aY=l'.map aY:=by
 apply List.ext_getElem?
 intro j
 rw[List.getElem?_map,List.getElem?_map]
 cases e:l[j]? with
 |none=>
  have:l'[j]? =none:=by
   rw[List.getElem?_eq_none_iff] at e ⊢
   omega
  rw[this]
 |some o=>
  have hj:j < l'.length:=by
   have:=(List.getElem?_eq_some_iff.1 e).1
   omega
  have e':=List.getElem?_eq_getElem hj
  rw[e']
  obtain⟨h1,h2⟩:=h j o _ e e'
  show some (aY o)=some (aY l'[j])
  unfold aY
  rw[h1,h2]
theorem XR {l l':List ay}{j:Nat}{o o':ay}(h1:l[j]? =some o)(h2:l'[j]? =some o')(hne:¬(o.1=o'.1∧o.2.1=o'.2.1)):l.map aY≠l'.map aY:=fun e=>by
 have h3:=Az e j
 rw[h1,h2] at h3
 have h4:aY o=aY o':=zx h3
 unfold aY at h4
 exact hne ⟨congrArg (fun x=>x.1) h4,congrArg (fun x=>x.2.1) h4⟩
theorem rZ {s s':ByteArray}{l l':List ay}(h:¬(s=s'∧l.map aY=l'.map aY)):false=bK s s' l l':=(decide_eq_false h).symm
theorem Tk {s s':ByteArray}{l l':List ay}(h:s=s'∧l.map aY=l'.map aY):true=bK s s' l l':=(decide_eq_true h).symm
theorem rX {s s':ByteArray}(h:s≠s'):(s.toList == s'.toList)=false:=by
 simp only[beq_eq_false_iff_ne]
 intro e
 rw[ByteArray.toList_eq,ByteArray.toList_eq] at e
 exact h (ByteArray.ext (Array.ext' e))
set_option maxHeartbeats 4000000 in
theorem uu (pg o:Value)(s s':ByteArray)(ex al:Value)(A A':Option Addr)(l l':List ay)(n n' c c':Nat)(w:World)(p p':Nat→Prop)(hn:n=l.length)(hn':n'=l'.length)(hm:l.length≤1000)(hm':l'.length≤1000)(h:Rd w p A (bE l))(h':Rd w p' A' (bE l')):
 Calls Tryz.prog 22 #[.agg #[pg,o,.string s,.slice A n c,ex,al],.agg #[.string s',.slice A' n' c']] w fun e w'=>e= .returned (.bool (bK s s' l l'))∧Below w.heap.size w w':=by
 have HA:Hid (Below w.heap.size w ((w.alloc (.cells #[pg,o,.string s,.slice A n c,ex,al] 31)).alloc (.cells #[.string s',.slice A' n' c'] 24))):=((zo _ _).alloc (zu _) _).alloc (by simp) _
 have fE:Hid (Bk ((w.alloc (.cells #[pg,o,.string s,.slice A n c,ex,al] 31)).alloc (.cells #[.string s',.slice A' n' c'] 24)) w.heap.size 31 [pg,o,.string s,.slice A n c,ex,al]):=
  (Bk.new w 31 [pg,o,.string s,.slice A n c,ex,al]).alloc _
 have kE:Hid (Bk ((w.alloc (.cells #[pg,o,.string s,.slice A n c,ex,al] 31)).alloc (.cells #[.string s',.slice A' n' c'] 24)) (w.heap.size+1) 24 [.string s',.slice A' n' c']):=by
  have:=Bk.new (w.alloc (.cells #[pg,o,.string s,.slice A n c,ex,al] 31)) 24 [.string s',.slice A' n' c']
  rwa [World.size_alloc] at this
 have hni:(n:Int)≤1000:=by omega
 have hni':(n':Int)≤1000:=by omega
 have HR:=zz (h.after (zo w.heap.size w))
 have HR':=zz (h'.after (zo w.heap.size w))
 have HN:=zz hn
 have HN':=zz hn'
 clear h h' hn hn' hm hm'
 by_cases hs:s=s'
 case neg=>
  have HX:Hid (false=bK s s' l l'):=rZ fun e=>hs e.1
  have e1:=rX hs
  clear hs
  go_enter Tryz.func22,Tryz.ntmps22
  go_wp2
  generalize ((w.alloc (.cells #[pg,o,.string s,.slice A n c,ex,al] 31)).alloc (.cells #[.string s',.slice A' n' c'] 24))=W0 at HA fE kE ⊢
  have x0:=fE.out.cell 2 rfl
  have x1:=fE.out.cell 3 rfl
  have x2:=kE.out.cell 0 rfl
  have x3:=kE.out.cell 1 rfl
  go_wp2
  go_ret
  exact⟨aQ HX.out,HA.out⟩
 subst hs
 have e1:(s.toList == s.toList)=true:=beq_self_eq_true _
 by_cases hl:n=n'
 case neg=>
  have HX:Hid (false=bK s s l l'):=rZ fun e=>hl (by
   have:=congrArg List.length e.2
   rw[List.length_map,List.length_map] at this
   rw[HN.out,HN'.out,this])
  have e2:((n:Int) == (n':Int))=false:=by
   rw[beq_eq_false_iff_ne]
   omega
  clear hl
  go_enter Tryz.func22,Tryz.ntmps22
  go_wp2
  generalize ((w.alloc (.cells #[pg,o,.string s,.slice A n c,ex,al] 31)).alloc (.cells #[.string s,.slice A' n' c'] 24))=W0 at HA fE kE ⊢
  have x0:=fE.out.cell 2 rfl
  have x1:=fE.out.cell 3 rfl
  have x2:=kE.out.cell 0 rfl
  have x3:=kE.out.cell 1 rfl
  go_wp2
  go_ret
  exact⟨aQ HX.out,HA.out⟩
 subst hl
 go_enter Tryz.func22,Tryz.ntmps22
 go_wp2
 generalize ((w.alloc (.cells #[pg,o,.string s,.slice A n c,ex,al] 31)).alloc (.cells #[.string s,.slice A' n c'] 24))=W0 at HA fE kE ⊢
 have x0:=fE.out.cell 2 rfl
 have x1:=fE.out.cell 3 rfl
 have x2:=kE.out.cell 0 rfl
 have x3:=kE.out.cell 1 rfl
 go_wp2
 go_loopw [5] (fun v wr=>∃k:Nat,v= .int .i64 (k:Int)∧k≤n∧Hid (Below w.heap.size w wr∧Bk wr w.heap.size 31 [pg,o,.string s,.slice A n c,ex,al]∧Bk wr (w.heap.size+1) 24 [.string s,.slice A' n c'])∧Hid (∀(j:Nat) (o o':ay),j < k→l[j]? =some o→l'[j]? =some o'→o.1=o'.1∧o.2.1=o'.2.1)) (fun v _=>n - (intOf v).toNat)
 case atStart=>exact⟨0,rfl,Nat.zero_le _,⟨HA.out,fE.out,kE.out⟩,fun j _ _ hj=>absurd hj (Nat.not_lt_zero _)⟩
 case round=>
  obtain⟨k,rfl,hk,hw,hr⟩:=hrel
  clear x0 x1 x2 x3
  have x1:=hw.out.2.1.cell 3 rfl
  have x3:=hw.out.2.2.cell 1 rfl
  by_cases hlt:k < n
  ·have hk1:k < l.length:=by rw[← HN.out];exact hlt
   have hk2:k < l'.length:=by rw[← HN'.out];exact hlt
   obtain⟨a,ha⟩:∃a,l[k]? =some a:=⟨_,List.getElem?_eq_getElem hk1⟩
   obtain⟨b,hb⟩:∃b,l'[k]? =some b:=⟨_,List.getElem?_eq_getElem hk2⟩
   obtain⟨q,off,rfl,_,c0,c1,c2⟩:=(HR.out.after hw.out.1).o3 ha
   obtain⟨q',off',rfl,_,d0,d1,d2⟩:=(HR'.out.after hw.out.1).o3 hb
   have HY:Hid (¬(a.1=b.1∧a.2.1=b.2.1)→false=bK s s l l'):=fun hne=>rZ fun e=>XR ha hb hne e.2
   have HZ:Hid ((a.1=b.1∧a.2.1=b.2.1)→∀(j:Nat) (o o':ay),j < k+1→l[j]? =some o→l'[j]? =some o'→o.1=o'.1∧o.2.1=o'.2.1):=fun hx j t t' hj ht ht'=>by
    by_cases e:j=k
    ·subst e
     rw[ha] at ht
     rw[hb] at ht'
     rw[← Option.some.inj ht,← Option.some.inj ht'];exact hx
    ·exact hr.out j t t' (by omega) ht ht'
   clear ha hb
   obtain⟨a0,a1,a2⟩:=a
   obtain⟨b0,b1,b2⟩:=b
   simp only at c0 c1 d0 d1 HY HZ
   by_cases e3:a0=b0
   case neg=>
    have HX:=zz (HY.out fun e=>e3 e.1)
    have e4:(a0 != b0)=true:=bne_iff_ne.2 e3
    clear e3 HY HZ
    go_wp2
    go_quiet (fail)
    go_wp2
    go_ret
    exact⟨aQ HX.out,hw.out.1.trans (aU _ _ _)⟩
   subst e3
   have e4:(a0 != a0)=false:=bne_self_eq_false a0
   by_cases e3:a1=b1
   case neg=>
    have HX:=zz (HY.out fun e=>e3 e.2)
    have e5:(a1 != b1)=true:=bne_iff_ne.2 e3
    clear e3 HY HZ
    go_wp2
    go_quiet (fail)
    go_wp2
    go_ret
    exact⟨aQ HX.out,hw.out.1.trans (aU _ _ _)⟩
   subst e3
   have e5:(a1 != a1)=false:=bne_self_eq_false a1
   have HX:=zz (HZ.out ⟨rfl,rfl⟩)
   clear HY HZ
   go_wp2
   go_quiet (fail)
   go_wp2
   go_roundw
   case rel=>exact⟨k+1,by go_num,by omega,⟨hw.out.1.trans (aU _ _ _),hw.out.2⟩,HX.out⟩
   case measure=>simp[intOf];omega
  ·have HX:Hid (true=bK s s l l'):=Tk ⟨rfl,Lr (by rw[← HN.out,← HN'.out]) fun j o o' h1 h2=>hr.out j o o' (by
    have:=(List.getElem?_eq_some_iff.1 h1).1
    have:=HN.out
    omega) h1 h2⟩
   go_wp2
   go_ret
   exact⟨aQ HX.out,hw.out.1⟩
end Go.Proofs.YtceaodnohnekkaaGreatDoor
namespace Go.Proofs.YtceaodnohnekkaaGreatDoor
def gW (m:Bool)(l:List ay):Bool:=m && (match l with
 |[a,_]=>decide (a=(1,7,0))
 |_=>false)
def mE (d:Bool)(l:List ay):List ay:=match d with
 |true=>l.drop 1
 |false=>l
def vk (d:Bool)(l:List ay):List ay:=match d with
 |true=>(1,7,0)::l
 |false=>l
def D6 (x:Bool)(l:List ay):Bool:=x && (match l with
 |[a,b]=>decide (a=(3,2,0)) && decide (b=(3,1,0))
 |_=>false)
def Vt (d:Bool)(l:List ay):List ay:=match d with
 |true=>[(3,1,0),(3,2,0)]
 |false=>l
theorem uj {nm:List Nat}(h:bU nm jr=true):bU nm mH=false:=by
 unfold bU jr at h
 simp only[List.any_cons,List.any_nil,Bool.or_false,Bool.or_eq_true,decide_eq_true_eq] at h
 rcases h with rfl | rfl | rfl | rfl | rfl <;> decide
theorem WS (nm:List Nat)(l:List ay):vk (bU nm mH && (((mE (gW (bU nm jr) l) l).length:Int) == 1)) (mE (gW (bU nm jr) l) l)=fC nm l:=by
 cases hs:bU nm jr
 ·have hd:gW false l=false:=rfl
  rw[hd]
  show vk (bU nm mH && ((l.length:Int) == 1)) l=fC nm l
  match l with
  |[]=>simp[vk,fC]
  |[b]=>
   cases ha:bU nm mH <;> simp[vk,fC,ha]
  |[a,b]=>simp[vk,fC,hs]
  |a::b::c::l=>
   have:((((a::b::c::l).length:Nat):Int) == 1)=false:=by
    rw[beq_eq_false_iff_ne]
    simp only[List.length_cons]
    omega
   rw[this]
   simp[vk,fC]
 ·rw[uj hs]
  simp only[Bool.false_and,vk]
  match l with
  |[]=>simp[gW,mE,fC]
  |[b]=>simp[gW,mE,fC,uj hs]
  |[a,b]=>
   by_cases h:a=(1,7,0) <;> simp[gW,mE,fC,hs,h]
  |a::b::c::l=>simp[gW,mE,fC]
theorem acx (nm:List Nat)(l:List ay):Vt (D6 (decide (nm=[69,88])) l) l=iW nm l:=by
 unfold iW
 cases hx:decide (nm=[69,88])
 ·simp[D6,Vt]
 ·match l with
  |[]=>simp[D6,Vt]
  |[a]=>simp[D6,Vt]
  |[a,b]=>
   by_cases h:a=(3,2,0) <;> by_cases h':b=(3,1,0) <;> simp[D6,Vt,h,h']
  |a::b::c::l=>simp[D6,Vt]
theorem KL (nm:List Nat)(l:List ay):dx nm (iW nm (fC nm l))=dx nm l:=by
 by_cases h:nm=[76,68]
 ·subst h
  have e1:fC [76,68] l=l:=by
   have hs:bU [76,68] jr=false:=by decide
   have ha:bU [76,68] mH=false:=by decide
   unfold fC
   split
   ·rw[hs];simp
   ·rw[ha];simp
   ·rfl
  have e2:iW [76,68] l=l:=by
   unfold iW
   rw[decide_eq_false (by decide)]
   simp
  rw[e1,e2]
 ·unfold dx
  rw[decide_eq_false h]
  simp
theorem nM {nm:List Nat}{l L5 L6 L7:List ay}{m m2 xe d e d':Bool}{wd n5:Nat}(hs:bU nm jr=m)(ha:bU nm mH=m2)(hx:decide (nm=[69,88])=xe)(hd:gW m l=d)(h5:mE d l=L5)(mK:n5=L5.length)
 (he:(m2 && ((n5:Int) == 1))=e) (h6:vk e L5=L6) (hd':D6 xe L6=d') (h7:Vt d' L6=L7) (hw:dx nm l=wd):L7.map (kv wd)=aK nm l:=by
 subst hs ha hx hd h5 mK he h6 hd' h7 hw
 unfold aK
 rw[KL,WS,acx]
end Go.Proofs.YtceaodnohnekkaaGreatDoor
namespace Go.Proofs.YtceaodnohnekkaaGreatDoor.Ex
open Go.RowKit Go.MapKept
def KT (i k:Nat):Info→Bool
 |[x,y]=>(Nat.beq x.1 i && Nat.beq y.1 k) || (Nat.beq x.1 k && Nat.beq y.1 i)
 |_=>false
theorem pE {ops:Array Oper}{listed:Array Bool}{m i k:Nat}(hrl:RelB ops.size listed m)(h:KT i k (dF (bR ops) m)=true):(∀q,q∈Region.ready .any ops listed↔q=i∨q=k)∧Region.ready .any ops listed≠[]:=by
 rw[← ji hrl]
 unfold KT at h
 split at h
 ·rename_i x y hx
  rw[hx]
  simp only[Bool.or_eq_true,Bool.and_eq_true,beq_iff] at h
  rcases h with⟨h1,h2⟩ | ⟨h1,h2⟩ <;> simp[h1,h2,or_comm]
 ·cases h
def ldB (T:bG)(t:TT)(bl:List (Nat×aF)):Op→Option AV
 | .load e x=>qQ T bl e (ev t x)
 |_=>none
section
variable {P:Program} {T:bG} {call ext:ag} {yl:eQ} {N:Nat}
theorem RN {t:TT}{W:AW}{o:Oper}{v:AV}(h:ldB T t W.bl o.op=some v):rR P T call ext t W o=some (v,W):=by
 obtain⟨dst,op,type,pos,after,guard⟩:=o
 unfold ldB at h
 split at h
 ·rename_i e x heq
  dsimp only at heq
  subst heq
  simp only[rR,pq,qb,h]
 ·cases h
def rcB (_T:bG)(N:Nat)(ops:Array Oper)(z:Nat)(info:Info)(m i j k1 k2:Nat)(oi oj o1 o2:Oper):Bool:=
 oi.guard.isNone && oj.guard.isNone && o1.guard.isNone && o2.guard.isNone && kT N oi.dst && kT N oj.dst && kT N o1.dst && kT N o2.dst && oj.apart ops oi && o1.apart ops oi && o2.apart ops oi &&
 !(Nat.beq i z) && !(Nat.beq j z) && !(Nat.beq k1 z) && !(Nat.beq k2 z) &&
 KT i k1 (dF info (dz m j)) && KT i k2 (dF info (dz (dz m j) k1)) && LV i (dF info (dz (dz (dz m j) k1) k2)) &&
 LV j (dF info (dz m i)) && LV k1 (dF info (dz (dz m i) j)) && LV k2 (dF info (dz (dz (dz m i) j) k1)) && !(Nat.beq i j) && !(Nat.beq i k1) && !(Nat.beq i k2)
def rcA (P:Program)(T:bG)(call ext:ag)(yl:eQ)(N dV:Nat)(ops:Array Oper)(z:Nat)(info:Info)(fin:gq)(n m:Nat)(t:TT)(W:AW)(ld:List Nat)(i j k1 k2:Nat)(oi oj o1 o2:Oper):Option (TT×AW×List Nat):=
 cond (rcB T N ops z info m i j k1 k2 oi oj o1 o2) (match vW T t oj.op with
  |some (l,e,sh)=>match rR P T call ext t ⟨W.nx,W.bl,[],W.gl⟩ oi with
   |some (vi,W1)=>match o6 T (dO oj.dst (uo sh W.nx) t) o1.op,o6 T (dO oj.dst (uo sh W1.nx) (dO oi.dst vi t)) o1.op with
    |some (.ptr b y),some (.ptr b' y')=>match ldB T (dO o1.dst (.ptr b y) (dO oj.dst (uo sh W.nx) t)) ((W.nx,.cells l e none)::W.bl) o2.op,ldB T (dO o1.dst (.ptr b' y') (dO oj.dst (uo sh W1.nx) (dO oi.dst vi t))) ((W1.nx,.cells l e none)::W1.bl) o2.op with
     |some v2,some v2'=>cond (Nat.beq b W.nx && Nat.beq b' W1.nx && Nat.beq y y' && mq v2 && lD v2 v2')
       (j3 P T call ext yl fin N dV ops z info (n - 4) (dz (dz (dz (dz m i) j) k1) k2) (dO o2.dst v2 (dO o1.dst (.ptr b' y') (dO oj.dst (uo sh W1.nx) (dO oi.dst vi t)))) ⟨W1.nx+1,(W1.nx,.cells l e none)::W1.bl,iL W1.az W.az,W1.gl⟩ ld) none
     |_,_=>none
    |_,_=>none
   |none=>none
  |none=>none) none
def Zz (i:Nat):Info→Option Nat
 |[x,y]=>cond (Nat.beq x.1 i) (some y.1) (cond (Nat.beq y.1 i) (some x.1) none)
 |_=>none
def Zp (P:Program)(T:bG)(call ext:ag)(yl:eQ)(N dV:Nat)(ops:Array Oper)(z:Nat)(info:Info)(fin:gq)(n m:Nat)(t:TT)(W:AW)(ld:List Nat)(i j:Nat):Option (TT×AW×List Nat):=
 match Zz i (dF info (dz m j)) with
 |some k1=>match Zz i (dF info (dz (dz m j) k1)) with
  |some k2=>match ops[i]?,ops[j]?,ops[k1]?,ops[k2]? with
   |some oi,some oj,some o1,some o2=>cond (KT i j (dF info m)) (cond (Nat.ble 4 n) (rcA P T call ext yl N dV ops z info fin n m t W ld i j k1 k2 oi oj o1 o2) none) none
   |_,_,_,_=>none
  |none=>none
 |none=>none
def rcF (P:Program)(T:bG)(call ext:ag)(yl:eQ)(N dV:Nat)(ops:Array Oper)(z:Nat)(info:Info)(fin:gq):gq:=fun n m t W ld=>
 match dF info m with
 |[x,y]=>match Zp P T call ext yl N dV ops z info fin n m t W ld x.1 y.1 with
  |some r=>some r
  |none=>Zp P T call ext yl N dV ops z info fin n m t W ld y.1 x.1
 |_=>none
theorem Zr (hC:ah P call)(hX:dK P ext)(hY:eP P yl){dV z:Nat}{ops:Array Oper}{info:Info}{fin:gq}(hF:bS fin){n m:Nat}{t:TT}{W:AW}{ld:List Nat}{i j k1 k2:Nat}{oi oj o1 o2:Oper}{tf:TT}{Wf:AW}{di:List Nat}
 (h:rcA P T call ext yl N dV ops z info fin n m t W ld i j k1 k2 oi oj o1 o2=some (tf,Wf,di)):(∀b,b∈W.az→b∈Wf.az)∧∀c,c∈ld→c∈di:=by
 unfold rcA at h
 cases hq:rcB T N ops z info m i j k1 k2 oi oj o1 o2 with
 |false=>rw[hq] at h;cases h
 |true=>
 rw[hq] at h
 simp only[cond_true] at h
 split at h
 case h_2=>cases h
 case h_1 l e sh _=>
 split at h
 case h_2=>cases h
 case h_1 vi W1 _=>
 split at h
 case h_2=>cases h
 case h_1 b y b' y' _ _=>
 split at h
 case h_2=>cases h
 case h_1 v2 v2' _ _=>
 generalize (Nat.beq b W.nx && Nat.beq b' W1.nx && Nat.beq y y' && mq v2 && lD v2 v2')=c at h
 cases c with
 |false=>cases h
 |true=>
  obtain⟨q1,q2⟩:=gm hC hX hY hF _ h
  exact⟨fun b hb=>q1 b (dS.2 (.inr hb)),q2⟩
theorem Bb {dV z:Nat}{ops:Array Oper}{info:Info}{fin:gq}{n m:Nat}{t:TT}{W:AW}{ld:List Nat}{i j:Nat}{r:TT×AW×List Nat}(h:Zp P T call ext yl N dV ops z info fin n m t W ld i j=some r):
 ∃k1 k2 oi oj o1 o2,ops[i]? =some oi∧ops[j]? =some oj∧ops[k1]? =some o1∧ops[k2]? =some o2∧KT i j (dF info m)=true∧4≤n∧rcA P T call ext yl N dV ops z info fin n m t W ld i j k1 k2 oi oj o1 o2=some r:=by
 unfold Zp at h
 split at h
 case h_2=>cases h
 case h_1 k1 _=>
 split at h
 case h_2=>cases h
 case h_1 k2 _=>
 split at h
 case h_2=>cases h
 case h_1 oi oj o1 o2 h1 h2 h3 h4=>
 cases h5:KT i j (dF info m) with
 |false=>rw[h5] at h;cases h
 |true=>
 cases h6:Nat.ble 4 n with
 |false=>rw[h5,h6] at h;cases h
 |true=>
 rw[h5,h6] at h
 exact⟨k1,k2,oi,oj,o1,o2,h1,h2,h3,h4,rfl,Nat.le_of_ble_eq_true h6,h⟩
theorem FK {dV z:Nat}{ops:Array Oper}{info:Info}{fin:gq}{n m:Nat}{t:TT}{W:AW}{ld:List Nat}{r:TT×AW×List Nat}(h:rcF P T call ext yl N dV ops z info fin n m t W ld=some r):
 ∃i j,Zp P T call ext yl N dV ops z info fin n m t W ld i j=some r:=by
 unfold rcF at h
 split at h
 case h_2=>cases h
 case h_1 x y _=>
 split at h
 ·rename_i r' hr
  obtain rfl:=zx h
  exact⟨_,_,hr⟩
 ·exact⟨_,_,h⟩
theorem Zq (hC:ah P call)(hX:dK P ext)(hY:eP P yl){dV z:Nat}{ops:Array Oper}{info:Info}{fin:gq}(hF:bS fin):bS (rcF P T call ext yl N dV ops z info fin):=fun n m t W ld tf Wf di h=>by
 obtain⟨i,j,h⟩:=FK h
 obtain⟨k1,k2,oi,oj,o1,o2,_,_,_,_,_,_,h⟩:=Bb h
 exact Zr hC hX hY hF h
section
variable (hT:aW P T) (hC:ah P call) (hX:dK P ext) (hY:eP P yl) {w0:World} {cB:Env} {Ws:AW} {ws:World} (hws:aO w0 cB Ws ws) (hm0:Ws.az=[]) {ops:Array Oper} (hsel:Region.noSelect ops=true) (hnd:∀(j:Nat) (o:Oper),ops[j]? =some o→∀c,o.op≠ .defer c) {z:Nat} {rb:Option Nat} {Q:Act→World→Prop} {tf:TT} {Wf:AW} {di:List Nat}
 (hld:∀c,c∈di→c < Ws.nx∧(au c Ws.bl).isSome=true) (hno:∀c,c∈di→c ∉ Wf.az) (hz:ZOk ops z)
 (hQ:ops.size≤z→∀ρ' a' w',Post w0 cB Ws ws ρ' Wf w'→aR ρ' Wf.nx N tf a'→Q a' w')
 (hZ:∀n listed m ρ' a' w',RelB ops.size listed m→jK m z ops.size=true→z∈Region.ready .any ops listed→Post w0 cB Ws ws ρ' Wf w'→aR ρ' Wf.nx N tf a'→bu P .any ops (nS Q) (bQ cB ws Ws.gl di) z rb (n+1) listed a' w')
include hT hC hX hY hws hm0 hsel hnd hld hno hz hQ hZ
theorem af1 {fin:gq}(hF:bS fin)(hfin:mG P N ops z w0 cB Ws ws Q tf Wf di rb fin){n m:Nat}{t:TT}{W:AW}{ld:List Nat}{i j k1 k2:Nat}{oi oj o1 o2:Oper}(hoi:ops[i]? =some oi)(hoj:ops[j]? =some oj)(ho1:ops[k1]? =some o1)(ho2:ops[k2]? =some o2)(hn:4≤n)
 (h:rcA P T call ext yl N Ws.nx ops z (bR ops) fin n m t W ld i j k1 k2 oi oj o1 o2=some (tf,Wf,di)) {listed:Array Bool} {ρ:Env} {a:Act} {w:World} (hrl:RelB ops.size listed m) (hzu:tb m z=false) (hrd:∀k,k∈Region.ready .any ops listed↔k=i∨k=j) (hne:Region.ready .any ops listed≠[]) (ht:aR ρ W.nx N t a) (hp:Post w0 cB Ws ws ρ W w):
 bu P .any ops (nS Q) (bQ cB ws Ws.gl di) z rb n listed a w:=by
 unfold rcA at h
 cases hq:rcB T N ops z (bR ops) m i j k1 k2 oi oj o1 o2 with
 |false=>rw[hq] at h;cases h
 |true=>
 rw[hq] at h
 simp only[cond_true] at h
 split at h
 case h_2=>cases h
 case h_1 l e sh hal=>
 split at h
 case h_2=>cases h
 case h_1 vi W1 hv=>
 split at h
 case h_2=>cases h
 case h_1 b y b' y' hB1 hA1=>
 split at h
 case h_2=>cases h
 case h_1 v2 v2' hB2 hA2=>
 cases hc:(Nat.beq b W.nx && Nat.beq b' W1.nx && Nat.beq y y' && mq v2 && lD v2 v2') with
 |false=>rw[hc] at h;cases h
 |true=>
 rw[hc] at h
 simp only[cond_true] at h
 simp only[Bool.and_eq_true,beq_iff] at hc
 obtain⟨⟨⟨⟨rfl,rfl⟩,rfl⟩,ato⟩,axp⟩:=hc
 obtain rfl:=mf axp
 unfold rcB at hq
 simp only[Bool.and_eq_true,Bool.not_eq_true',Option.isNone_iff_eq_none] at hq
 obtain⟨⟨⟨⟨⟨⟨⟨⟨⟨⟨⟨⟨⟨⟨⟨⟨⟨⟨⟨⟨⟨⟨⟨hgi,hgj⟩,hg1⟩,hg2⟩,hdi⟩,hdj⟩,hd1⟩,hd2⟩,axZ⟩,ax0⟩,Jo⟩,hiz⟩,hjz⟩,h1z⟩,h2z⟩,hr1⟩,hr2⟩,hr3⟩,hs1⟩,hs2⟩,hs3⟩,hij⟩,hi1⟩,hi2⟩:=hq
 have nb:∀{x y:Nat},Nat.beq x y=false→x≠y:=fun hh e=>by rw[(beq_iff _ _).2 e] at hh;cases hh
 have hiz:=nb hiz
 have hjz:=nb hjz
 have h1z:=nb h1z
 have h2z:=nb h2z
 have hij:=nb hij
 have hi1:=nb hi1
 have hi2:=nb hi2
 obtain⟨aj1,aj2,aj3⟩:=Oper.apart_spec axZ
 obtain⟨a11,a12,a13⟩:=Oper.apart_spec ax0
 obtain⟨a21,a22,a23⟩:=Oper.apart_spec Jo
 obtain⟨n',rfl⟩:∃n',n=n'+4:=⟨n - 4,by omega⟩
 rw[show n'+4 - 4=n' by omega] at h
 have hli:i < ops.size:=(Array.getElem?_eq_some_iff.1 hoi).1
 have hlj:j < ops.size:=(Array.getElem?_eq_some_iff.1 hoj).1
 have hl1:k1 < ops.size:=(Array.getElem?_eq_some_iff.1 ho1).1
 have hl2:k2 < ops.size:=(Array.getElem?_eq_some_iff.1 ho2).1
 have hw:∀{o:Oper},o.guard=none→∀a:Act,Region.wanted o (yielded ops a.tmps)=true:=fun hg a=>by unfold Region.wanted;rw[hg]
 have htt:aR ρ (AW.mk W.nx W.bl [] W.gl).nx N t a:=ht
 have hfm:=hp.rep.bI
 have hm2:=(gm hC hX hY hF _ h).1
 have iw:∀ρ' W' w',Post w0 cB Ws ws ρ' W' w'→(∀b,b∈W'.az→b∈Wf.az)→bQ cB ws Ws.gl di w':=fun ρ' W' w' hp' hmm=>hp'.stand hws hm0 hld fun c hc hcm=>hno c hc (hmm c hcm)
 have hWf:∀b,b∈W.az→b∈Wf.az:=fun b hb=>hm2 b (dS.2 (.inr hb))
 have ag1:oks W.nx l:=aer (_P:=P) hal ht
 obtain⟨_,_,kc,_⟩:=yZ hal
 have hbj:∀k' W',vW T k' oj.op=some (l,e,sh)→rR P T call ext k' W' oj=some (uo sh W'.nx,W'.push (.cells l e none)):=fun k' W' hk=>by
  unfold rR
  rw[kc]
  exact rJ hk W'
 have ax1:vW T (dO oi.dst vi t) oj.op=some (l,e,sh):=by rw[EB hdi aj3];exact hal
 let Wi:AW:=⟨W1.nx,W1.bl,iL W1.az W.az,W1.gl⟩
 let WA:AW:=⟨W1.nx+1,(W1.nx,.cells l e none)::W1.bl,iL W1.az W.az,W1.gl⟩
 let t1:=dO oi.dst vi t
 let t2:=dO oj.dst (uo sh W1.nx) t1
 let t3:=dO o1.dst (.ptr W1.nx y) t2
 let t4:=dO o2.dst v2 t3
 let La:=listed.setIfInBounds i true
 let Lb:=La.setIfInBounds j true
 let Lc:=Lb.setIfInBounds k1 true
 let Ld:=Lc.setIfInBounds k2 true
 have hra:RelB ops.size La (dz m i):=hrl.set hli
 have hrb:RelB ops.size Lb (dz (dz m i) j):=hra.set hlj
 have hrc:RelB ops.size Lc (dz (dz (dz m i) j) k1):=hrb.set hl1
 have as5:RelB ops.size Ld (dz (dz (dz (dz m i) j) k1) k2):=hrc.set hl2
 have asq:∀ρ' a' w',aR ρ' WA.nx N t4 a'→Post w0 cB Ws ws ρ' WA w'→bu P .any ops (nS Q) (bQ cB ws Ws.gl di) z rb n' Ld a' w':=fun ρ' a' w' ht' hp'=>by
  rw[iQ _ _ as5] at h
  refine dh hT hC hX hY hF hws hm0 hsel hnd hld hno hz hfin hQ hZ n' as5 ?_ h ht' hp'
  rw[fq,fq,fq,fq,hzu]
  simp[hiz,hjz,h1z,h2z]
 have aso:∀ρ' a' w',aR ρ' WA.nx N t3 a'→Post w0 cB Ws ws ρ' WA w'→bu P .any ops (nS Q) (bQ cB ws Ws.gl di) z rb (n'+1) Lc a' w':=fun ρ' a' w' ht' hp'=>by
  refine dw (jC hrc hs3) (by simp) fun q hq=>?_
  obtain rfl:k2=q:=by simpa [eq_comm] using hq
  unfold wpOpIn
  simp only[ho2,hw hg2,if_true]
  have hop:rR P T call ext t3 ⟨WA.nx,WA.bl,[],WA.gl⟩ o2=some (v2,⟨WA.nx,WA.bl,[],WA.gl⟩):=RN hA2
  refine (gH (W:=⟨WA.nx,WA.bl,[],WA.gl⟩) hT hC hX ht' hp'.rep.bI hop).wpIn (hnd _ _ ho2) fun dM w2 hp2 ve=>?_
  have uF:=hp'.trans hp2.iC
  exact⟨fun _=>iw _ _ _ uF hm2,asq dM _ w2 ((ht'.mono hp2.ext hp2.nx).put hd2 ve) uF⟩
 have asn:∀ρ' a' w',aR ρ' WA.nx N t2 a'→Post w0 cB Ws ws ρ' WA w'→bu P .any ops (nS Q) (bQ cB ws Ws.gl di) z rb (n'+2) Lb a' w':=fun ρ' a' w' ht' hp'=>by
  refine dw (jC hrb hs2) (by simp) fun q hq=>?_
  obtain rfl:k1=q:=by simpa [eq_comm] using hq
  unfold wpOpIn
  simp only[ho1,hw hg1,if_true]
  obtain⟨q1,q2⟩:=kJ (P:=P) hT ht' hA1 w'
  refine Does.wpIn (.inl ⟨ρ',w',.inl q1,Post.refl hp'.rep,q2⟩) (hnd _ _ ho1) fun dM w2 hp2 ve=>?_
  have uF:=hp'.trans hp2
  exact⟨fun _=>iw _ _ _ uF hm2,aso dM _ w2 ((ht'.mono hp2.ext hp2.nx).put hd1 ve) uF⟩
 have XM:∀(gG:Env) (w1:World) (a1:Act) (x:Nat),execOp a1.eval oi=execOp a.eval oi→Post w0 cB Ws ws gG W w1→aR gG W.nx N t a→Float ws w1 gG W x l e→∀(K:Act→World→Prop),
  (∀zk w3 vv,Post w0 cB Ws ws zk WA w3→zk.blk W1.nx=x→aR zk WA.nx N t2 ((a.put oi.dst vv).put oj.dst (nZ sh x))→K (a1.put oi.dst vv) w3)→wpOpIn (fw rb) 0 P ops (nS Q) i K a1 w1:=fun gG w1 a1 x hex hp1 ht1 hfl K hK=>by
  unfold wpOpIn
  simp only[hoi,hw hgi,if_true]
  have anh:aR gG (AW.mk W.nx W.bl [] W.gl).nx N t a:=ht1
  refine ((gH hT hC hX anh hp1.rep.bI hv).act hex).wpIn (hnd _ _ hoi) fun dM w2 hp2 ve=>?_
  have uF:Post w0 cB Ws ws dM Wi w2:=hp1.trans hp2.iC
  have hf2:Float ws w2 dM Wi x l e:=have hs:=hfl.step hp1.rep hp2;⟨hs.lo,hs.hi,hs.row,hs.no,hs.ok⟩
  have hpd:=hf2.done hws uF
  have ev:cv (dM.up Wi.nx x 0) (uo sh W1.nx)=nZ sh x:=by rw[si,Env.aP]
  have hti:aR dM Wi.nx N t1 (a.put oi.dst (cv dM vi)):=(ht1.mono hp2.ext hp2.nx).put hdi ve
  have htd:=(hti.mono (Env.fM dM Wi.nx x 0) (Nat.le_succ _)).put hdj (v:=uo sh W1.nx) (CG (Nat.lt_succ_self _))
  rw[ev] at htd
  exact hK _ w2 _ hpd (Env.aP _ _ _ _) htd
 refine dw rfl hne fun q hqr=>?_
 rcases (hrd q).1 hqr with hqi | hqi <;> have hqi:=hqi.symm <;> subst hqi
 ·
  unfold wpOpIn
  simp only[hoi,hw hgi,if_true]
  refine (gH hT hC hX htt hfm hv).wpIn (hnd _ _ hoi) fun gG w1 hp1 ve=>?_
  have uF:Post w0 cB Ws ws gG Wi w1:=hp.trans hp1.iC
  have hti:aR gG Wi.nx N t1 (a.put oi.dst (cv gG vi)):=(ht.mono hp1.ext hp1.nx).put hdi ve
  refine⟨fun _=>iw _ _ _ uF hm2,dw (jC hra hs1) (by simp) fun q hq=>?_⟩
  obtain rfl:j=q:=by simpa [eq_comm] using hq
  unfold wpOpIn
  simp only[hoj,hw hgj,if_true]
  refine (gH (W:=⟨Wi.nx,Wi.bl,[],Wi.gl⟩) hT hC hX hti uF.rep.bI (hbj _ _ ax1)).wpIn (hnd _ _ hoj) fun dM w2 hp2 axo=>?_
  have ata:=uF.trans hp2.iC
  exact⟨fun _=>iw _ _ _ ata hm2,asn dM _ w2 ((hti.mono hp2.ext hp2.nx).put hdj axo) ata⟩
 ·
  unfold wpOpIn
  simp only[hoj,hw hgj,if_true]
  obtain⟨gG,w1,q1,q2,q3⟩:=ru hT htt hfm (rJ hal ⟨W.nx,W.bl,[],W.gl⟩)
  have q1:=q1.resolve_right (fun h=>by cases sh <;> cases h.2)
  have hT0:∀i,¬fD ρ ⟨W.nx,W.bl,[],W.gl⟩ (AW.push ⟨W.nx,W.bl,[],W.gl⟩ (.cells l e none)) i:=fun i ⟨b,q,_,_⟩=>by cases q
  have hg1:Gr w w1 (fun _=>False):=q2.gr.mono fun i _ h=>hT0 i h
  have hpq:=hp.trans (hp.rep.quiet hg1)
  have hk1:au W.nx (AW.push ⟨W.nx,W.bl,[],W.gl⟩ (.cells l e none)).bl=some (.cells l e none):=aC _ _ _
  have hxw:w.heap.size≤gG.blk W.nx:=by
   rcases Nat.lt_or_ge (gG.blk W.nx) w.heap.size with hh | hh
   ·exact (hT0 _ (q2.fresh W.nx (zu _) (Nat.lt_succ_self _) hh)).elim
   ·exact hh
  have hfl:Float ws w1 ρ W (gG.blk W.nx) l e:=by
   refine⟨zt hp.gr.size hxw,(q2.rep.ok _ _ hk1).2.2.2,?_,fun b k hb hx=>?_,ag1⟩
   ·have:=q2.rep.rep _ _ hk1
    have hE:Ext W.nx ρ gG:=q2.ext
    rw[← cu hE l ag1]
    exact this
   ·have:=(hp.rep.ok b k hb).2.2.2
    omega
  refine⟨fun _ _=>trivial,?_⟩
  rw[Oper.semAt_eq _ _ _ (hnd _ _ hoj),q1,si]
  refine⟨fun _=>iw _ _ _ hpq hWf,?_⟩
  generalize hx:gG.blk W.nx=x at hfl
  clear hx q1 q2 q3 hk1 hxw hg1
  have hLj:RelB ops.size (listed.setIfInBounds j true) (dz m j):=hrl.set hlj
  have atq:execOp (a.put oj.dst (nZ sh x)).eval oi=execOp a.eval oi:=execOp_put (ops:=ops) oi (Region.noSelect_spec hsel i oi · · hoi) a oj.dst (nZ sh x) fun d hd=>aj1 d hd
  have cji:∀u,(a.put oj.dst (nZ sh x)).put oi.dst u=(a.put oi.dst u).put oj.dst (nZ sh x):=fun u=>Act.put_comm a _ _ aj2
  obtain⟨axT,axU⟩:=pE hLj hr1
  refine dw rfl axU fun q hqr=>?_
  rcases (axT q).1 hqr with hqi | hqi <;> have hqi:=hqi.symm <;> subst hqi
  ·
   refine XM ρ w1 _ x atq hpq ht hfl _ fun zk w3 vv hp3 _ ht3=>?_
   refine⟨fun _=>iw _ _ _ hp3 hm2,?_⟩
   rw[cji,Array.setIfInBounds_comm _ _ hij.symm]
   exact asn zk _ w3 ht3 hp3
  ·
   unfold wpOpIn
   simp only[ho1,hw hg1,if_true]
   have hpd:=hfl.done hws hpq
   have ev:cv (ρ.up W.nx x 0) (uo sh W.nx)=nZ sh x:=by rw[si,Env.aP]
   have htB:aR (ρ.up W.nx x 0) (W.nx+1) N (dO oj.dst (uo sh W.nx) t) (a.put oj.dst (nZ sh x)):=by
    have:=(ht.mono (Env.fM ρ W.nx x 0) (Nat.le_succ W.nx)).put hdj (v:=uo sh W.nx) (CG (Nat.lt_succ_self _))
    rwa [ev] at this
   obtain⟨g1,g2⟩:=kJ (P:=P) hT htB hB1 w1
   have epv:cv (ρ.up W.nx x 0) (.ptr W.nx y)= .pointer (some ⟨x,y,none⟩):=by simp only[cv,Env.aP]
   rw[epv] at g1
   refine⟨fun _ _=>trivial,?_⟩
   rw[Oper.semAt_eq _ _ _ (hnd _ _ ho1),g1]
   refine⟨fun _=>iw _ _ _ hpq hWf,?_⟩
   have htC:aR (ρ.up W.nx x 0) (W.nx+1) N (dO o1.dst (.ptr W.nx y) (dO oj.dst (uo sh W.nx) t)) ((a.put oj.dst (nZ sh x)).put o1.dst (.pointer (some ⟨x,y,none⟩))):=by
    have:=htB.put hd1 (v:=.ptr W.nx y) g2
    rwa [epv] at this
   have hLc:RelB ops.size ((listed.setIfInBounds j true).setIfInBounds k1 true) (dz (dz m j) k1):=hLj.set hl1
   have atr:execOp ((a.put oj.dst (nZ sh x)).put o1.dst (.pointer (some ⟨x,y,none⟩))).eval oi=execOp a.eval oi:=
    (execOp_put (ops:=ops) oi (Region.noSelect_spec hsel i oi · · hoi) _ o1.dst _ fun d hd=>a11 d hd).trans atq
   have ev1:∀zk:Env,zk.blk W1.nx=x→cv zk (.ptr W1.nx y)= .pointer (some ⟨x,y,none⟩):=fun zk h3=>by simp only[cv,h3]
   have lc1:((listed.setIfInBounds j true).setIfInBounds k1 true).setIfInBounds i true=Lc:=by
    show _=((listed.setIfInBounds i true).setIfInBounds j true).setIfInBounds k1 true
    rw[Array.setIfInBounds_comm (xs:=listed.setIfInBounds j true) _ _ hi1.symm,Array.setIfInBounds_comm (xs:=listed) _ _ hij.symm]
   have c1i:∀u,((a.put oj.dst (nZ sh x)).put o1.dst (.pointer (some ⟨x,y,none⟩))).put oi.dst u=((a.put oi.dst u).put oj.dst (nZ sh x)).put o1.dst (.pointer (some ⟨x,y,none⟩)):=fun u=>by
    rw[Act.put_comm _ _ _ a12,cji]
   obtain⟨axR,axS⟩:=pE hLc hr2
   refine dw rfl axS fun q hqr=>?_
   rcases (axR q).1 hqr with hqi | hqi <;> have hqi:=hqi.symm <;> subst hqi
   ·
    refine XM ρ w1 _ x atr hpq ht hfl _ fun zk w3 vv hp3 hb3 ht3=>?_
    refine⟨fun _=>iw _ _ _ hp3 hm2,?_⟩
    rw[c1i,lc1]
    have:=ht3.put hd1 (v:=.ptr W1.nx y) (Nat.lt_succ_self _)
    rw[ev1 zk hb3] at this
    exact aso zk _ w3 this hp3
   ·
    unfold wpOpIn
    simp only[ho2,hw hg2,if_true]
    have axz:rR P T call ext (dO o1.dst (.ptr W.nx y) (dO oj.dst (uo sh W.nx) t)) ⟨W.nx+1,(W.nx,.cells l e none)::W.bl,[],W.gl⟩ o2=some (v2,⟨W.nx+1,(W.nx,.cells l e none)::W.bl,[],W.gl⟩):=RN hB2
    refine (gH (W:=⟨W.nx+1,(W.nx,.cells l e none)::W.bl,[],W.gl⟩) hT hC hX htC hpd.rep.bI axz).wpIn (hnd _ _ ho2) fun ρ4 w4 hp4 aAJ=>?_
    have hT4:∀i,¬fD (ρ.up W.nx x 0) ⟨W.nx+1,(W.nx,.cells l e none)::W.bl,[],W.gl⟩ ⟨W.nx+1,(W.nx,.cells l e none)::W.bl,[],W.gl⟩ i:=fun i ⟨b,q,_,_⟩=>by cases q
    have hg4:Gr w1 w4 (fun _=>False):=hp4.gr.mono fun i _ h=>hT4 i h
    have as9:=hpq.trans (hpq.rep.quiet hg4)
    have axM:Float ws w4 ρ W x l e:=⟨hfl.lo,zq hfl.hi hg4.size,(hg4.block x hfl.hi id).trans hfl.row,hfl.no,hfl.ok⟩
    refine⟨fun _=>iw _ _ _ as9 hWf,?_⟩
    have hLd:RelB ops.size (((listed.setIfInBounds j true).setIfInBounds k1 true).setIfInBounds k2 true) (dz (dz (dz m j) k1) k2):=hLc.set hl2
    have axP:execOp (((a.put oj.dst (nZ sh x)).put o1.dst (.pointer (some ⟨x,y,none⟩))).put o2.dst (cv ρ4 v2)).eval oi=execOp a.eval oi:=
     (execOp_put (ops:=ops) oi (Region.noSelect_spec hsel i oi · · hoi) _ o2.dst _ fun d hd=>a21 d hd).trans atr
    refine dw (jC hLd hr3) (by simp) fun q hq=>?_
    obtain rfl:i=q:=by simpa [eq_comm] using hq
    refine XM ρ w4 _ x axP as9 ht axM _ fun zk w3 vv hp3 hb3 ht3=>?_
    refine⟨fun _=>iw _ _ _ hp3 hm2,?_⟩
    have lc2:(((listed.setIfInBounds j true).setIfInBounds k1 true).setIfInBounds k2 true).setIfInBounds i true=Ld:=by
     show _=Lc.setIfInBounds k2 true
     rw[Array.setIfInBounds_comm (xs:=(listed.setIfInBounds j true).setIfInBounds k1 true) _ _ hi2.symm,lc1]
    rw[lc2,Act.put_comm _ _ _ a22,c1i]
    have h5:=ht3.put hd1 (v:=.ptr W1.nx y) (Nat.lt_succ_self _)
    rw[ev1 zk hb3] at h5
    have h6:=h5.put hd2 (v:=v2) (qX _ v2 ato)
    rw[ag7 ato ρ4 zk] at h6
    exact asq zk _ w3 h6 hp3
theorem af0 {fin:gq}(hF:bS fin)(hfin:mG P N ops z w0 cB Ws ws Q tf Wf di rb fin):mG P N ops z w0 cB Ws ws Q tf Wf di rb (rcF P T call ext yl N Ws.nx ops z (bR ops) fin):=fun n m listed t W ld ρ a w hrl hzu h ht hp=>by
 obtain⟨i,j,h⟩:=FK h
 obtain⟨k1,k2,oi,oj,o1,o2,h1,h2,h3,h4,h5,hn,h⟩:=Bb h
 obtain⟨q1,q2⟩:=pE hrl h5
 exact af1 hT hC hX hY hws hm0 hsel hnd hld hno hz hQ hZ hF hfin h1 h2 h3 h4 hn h hrl hzu q1 q2 ht hp
end
end
def acp (P:Program)(T:bG)(call ext:ag)(yl:eQ)(N dV:Nat)(ops:Array Oper)(z:Nat)(info:Info):Nat→gq
 |0=>Vp P T call ext yl N dV ops z info 3
 |d+1=>orF (Vp P T call ext yl N dV ops z info 3) (rcF P T call ext yl N dV ops z info (acp P T call ext yl N dV ops z info d))
def Ei (P:Program)(T:bG)(ext call:ag)(yl:eQ)(N:Nat):nW:=fun ops t W=>
 if Region.noSelect ops.toArray && Dq ops.toArray then
  match j3 P T call ext yl (acp P T call ext yl N W.nx ops.toArray (Ad ops.toArray) (bR ops.toArray) 2) N W.nx ops.toArray (Ad ops.toArray) (bR ops.toArray) ops.length 0 t ⟨W.nx,W.bl,[],W.gl⟩ [] with
  |some (t',W',ld)=>if ld.all fun b=>!iD b W'.az && Nat.blt b W.nx && (au b W.bl).isSome then
    match Bz P T ext call yl N ops (Ad ops.toArray) t' W' with
    |some (t2,W2)=>some (t2,⟨W2.nx,W2.bl,iL W2.az W.az,W2.gl⟩)
    |none=>none
   else none
  |none=>none
 else none
section
variable {P:Program} {T:bG} {call ext:ag} {yl:eQ} {N:Nat}
theorem tu (hC:ah P call)(hX:dK P ext)(hY:eP P yl){dV z:Nat}{ops:Array Oper}{info:Info}:∀d,bS (acp P T call ext yl N dV ops z info d)
 |0=>tq hC hX hY 3
 |d+1=>FU (tq hC hX hY 3) (Zq hC hX hY (tu hC hX hY d))
section
variable (hT:aW P T) (hC:ah P call) (hX:dK P ext) (hY:eP P yl) {w0:World} {cB:Env} {Ws:AW} {ws:World} (hws:aO w0 cB Ws ws) (hm0:Ws.az=[]) {ops:Array Oper} (hsel:Region.noSelect ops=true) (hnd:∀(j:Nat) (o:Oper),ops[j]? =some o→∀c,o.op≠ .defer c) {z:Nat} {rb:Option Nat} {Q:Act→World→Prop} {tf:TT} {Wf:AW} {di:List Nat}
 (hld:∀c,c∈di→c < Ws.nx∧(au c Ws.bl).isSome=true) (hno:∀c,c∈di→c ∉ Wf.az) (hz:ZOk ops z)
 (hQ:ops.size≤z→∀ρ' a' w',Post w0 cB Ws ws ρ' Wf w'→aR ρ' Wf.nx N tf a'→Q a' w')
 (hZ:∀n listed m ρ' a' w',RelB ops.size listed m→jK m z ops.size=true→z∈Region.ready .any ops listed→Post w0 cB Ws ws ρ' Wf w'→aR ρ' Wf.nx N tf a'→bu P .any ops (nS Q) (bQ cB ws Ws.gl di) z rb (n+1) listed a' w')
include hT hC hX hY hws hm0 hsel hnd hld hno hz hQ hZ
theorem Jw:∀d,mG P N ops z w0 cB Ws ws Q tf Wf di rb (acp P T call ext yl N Ws.nx ops z (bR ops) d)
 |0=>x8 hT hC hX hY hws hm0 hsel hnd hld hno hz hQ hZ 3
 |d+1=>fun n m listed t W ld ρ a w hrl hzu h ht hp=>by
  unfold acp orF at h
  split at h
  ·rename_i r hr
   obtain rfl:=zx h
   exact x8 hT hC hX hY hws hm0 hsel hnd hld hno hz hQ hZ 3 _ _ _ _ _ _ _ _ _ hrl hzu hr ht hp
  ·exact af0 hT hC hX hY hws hm0 hsel hnd hld hno hz hQ hZ (tu hC hX hY d) (Jw d) _ _ _ _ _ _ _ _ _ hrl hzu h ht hp
end
theorem VF (hM:P.follows .mixedOrders=true)(hT:aW P T)(hC:ah P call)(hX:dK P ext)(hY:eP P yl):EJ P N (Ei P T ext call yl N):=fun ro id ops t W tf Wf h w0 ρ a w Q hro ht hW hQ=>by
 unfold Ei at h
 rw[Array.toArray_toList] at h
 split at h
 case isFalse=>cases h
 case isTrue hsel=>
 simp only[Bool.and_eq_true] at hsel
 split at h
 case h_2=>cases h
 case h_1 t' W' ld hl=>
 split at h
 case isFalse=>cases h
 case isTrue hall=>
 split at h
 case h_2=>cases h
 case h_1 t2 W2 hlast=>
 obtain⟨rfl,rfl⟩:=zw (zx h)
 have hld:=List.all_eq_true.1 hall
 have h0:Post w0 ρ ⟨W.nx,W.bl,[],W.gl⟩ w ρ ⟨W.nx,W.bl,[],W.gl⟩ { w with drawn:=w.drawn+1}:=hW.bI.quiet ⟨rfl,rfl,rfl,zu _,fun _ _ _=>rfl⟩
 rw[Array.length_toList,iQ _ _ (RelB.start ops.size)] at hl
 have hnd:=qJ hsel.2
 have hany:wpAnyIn (fw (ro.map ρ.blk)) 0 P .any ops (nS fun a' w'=>Q .normal a' w') ops.size (Array.replicate ops.size false) a { w with drawn:=w.drawn+1}:=by
  refine lH (S:=bQ ρ w W.gl ld) (z:=Ad ops) _ _ _ _ ?_
  have xK:∀c,c∈ld→c < W.nx∧(au c W.bl).isSome=true:=fun c hc=>by
   have:=hld c hc
   simp only[Bool.and_eq_true] at this
   exact⟨aT this.1.2,this.2⟩
  have hno':∀c,c∈ld→c ∉ W'.az:=fun c hc=>by
   have:=hld c hc
   simp only[Bool.and_eq_true,Bool.not_eq_true'] at this
   exact oC this.1.1
  have hz:ZOk ops (Ad ops):=ER ops
  have hQ0:ops.size≤Ad ops→∀ρ' a' w',Post w0 ρ ⟨W.nx,W.bl,[],W.gl⟩ w ρ' W' w'→aR ρ' W'.nx N t' a'→Q .normal a' w':=fun hge ρ' a' w' hp ht'=>by
   unfold Bz at hlast
   rw[Array.length_toList,Nat.ble_eq_true_of_le hge] at hlast
   simp only[cond_true] at hlast
   obtain⟨rfl,rfl⟩:=zw (zx hlast)
   exact hQ ρ' a' w' hp.iC ht'
  have hZ0:∀n listed m ρ' a' w',RelB ops.size listed m→jK m (Ad ops) ops.size=true→Ad ops∈Region.ready .any ops listed→Post w0 ρ ⟨W.nx,W.bl,[],W.gl⟩ w ρ' W' w'→aR ρ' W'.nx N t' a'→bu P .any ops (nS fun a' w'=>Q .normal a' w') (bQ ρ w W.gl ld) (Ad ops) (ro.map ρ.blk) (n+1) listed a' w':=fun n listed m ρ' a' w' hrl kU hr hp ht'=>
   Jg hT hC hX hY hnd hlast (jy hr) ht' hp.rep (fun dM a2 w2 hp2 ht2=>hQ dM a2 w2 (hp.trans hp2).iC ht2) hrl kU hr
  exact dh hT hC hX hY (tu hC hX hY 2) (Ws:=⟨W.nx,W.bl,[],W.gl⟩) hW.bI rfl hsel.1 hnd xK hno' hz (Jw hT hC hX hY (Ws:=⟨W.nx,W.bl,[],W.gl⟩) hW.bI rfl hsel.1 hnd xK hno' hz hQ0 hZ0 2) hQ0 hZ0 ops.size (RelB.start ops.size) (by rw[qh];exact Nat.zero_testBit _) hl ht h0
 have anj:(Code.region id ops true).wpIn (fw (ro.map ρ.blk)) 0 P (nS fun a' w'=>Q .normal a' w') a w:=wpIn_region_any hM hany
 refine wpIn_mono anj fun e a' w' hq=>?_
 cases e <;> first | exact hq | exact hq.elim
end
noncomputable def aL (S:ag):ag:=(pR Tryz.prog Tu (Ei Tryz.prog Tu zJ) Ft S zJ R3).call
theorem abq (hM:Tryz.prog.follows .mixedOrders=true){S:ag}(hS:ah Tryz.prog S)(n:Nat):tV Tryz.prog (pR Tryz.prog Tu (Ei Tryz.prog Tu zJ) Ft S zJ n):=
 Dz Sl aiY hS vO (fun _ _ _ hC hY=>VF hM Sl hC vO hY) n
theorem OB (hM:Tryz.prog.follows .mixedOrders=true){S:ag}(hS:ah Tryz.prog S):ah Tryz.prog (aL S):=(abq hM hS R3).call
end Go.Proofs.YtceaodnohnekkaaGreatDoor.Ex
namespace Go.Proofs.YtceaodnohnekkaaGreatDoor
open Go.RowKit Ex
abbrev gX (A:Option Addr)(N c:Nat)(at':Nat)(pv e0 e1 e2 e3 e4 e5:Value)(d n:Int):List Value:=[.slice A N c,.int .i64 (at':Int),pv,e0,e1,e2,e3,e4,e5,.int .i64 d,.int .i64 n]
theorem Rd.v {w:World}{p:Nat→Prop}{A:Option Addr}{V:List Value}(h:Rd w p A V){k:Nat}{u:Value}(hk:V[k]? =some u):∃q off,A=some ⟨q,off,none⟩∧p q∧w.cell? ⟨q,off+k,none⟩=some u:=by
 have hne:V≠[]:=fun e=>by rw[e] at hk;simp at hk
 obtain⟨q,off,h1,h2,h3⟩:=h.ex hne
 exact⟨q,off,h1,h2,h3 k u hk⟩
theorem Jp {w W:World}{row:Option Nat}(h:w.grownBy W row)(m:Nat):w.grownBy (W.drewN m) row:=⟨h.os,h.tape,h.output,h.size,h.block⟩
set_option maxHeartbeats 4000000 in
theorem Am (bx:Nat)(A:Option Addr)(N c at':Nat)(pv e0 e1 e2 e3 e4 e5:Value)(d n:Int)(V:List Value)(z:Int)(w:World)(p:Nat→Prop)(hb:Bk w bx 103 (gX A N c at' pv e0 e1 e2 e3 e4 e5 d n))(hr:Rd w p A V)(hp:∀i,p i→i≠bx)(hz:V[at']? =some (.int .u8 z))(hN:V.length=N)(hm:(N:Int)≤1000):
 Calls Tryz.prog 103 #[.pointer (some ⟨bx,0,none⟩)] w fun e w'=>e= .returned (.int .u8 z)∧Bk w' bx 103 (gX A N c (at'+1) pv e0 e1 e2 e3 e4 e5 d n)∧w.grownBy w' (some bx):=by
 obtain⟨q,off,rfl,hq,hc⟩:=hr.v hz
 have hat:at' < N:=by rw[← hN];exact (List.getElem?_eq_some_iff.1 hz).1
 have hat':¬((N:Int)≤(at':Int)):=by omega
 have hd:decide ((N:Int)≤(at':Int))=false:=decide_eq_false hat'
 have x0:=hb.cell 0 rfl
 have x1:=hb.cell 1 rfl
 have f1:=hb.frozen 1
 have hne:q≠bx:=hp q hq
 have K1:Hid (∀m,Bk ((w.drewN m).setCell ⟨bx,1,none⟩ (.int .i64 ((at':Int)+1))) bx 103 (gX (some ⟨q,off,none⟩) N c (at'+1) pv e0 e1 e2 e3 e4 e5 d n)):=fun m=>by
  have hb':Bk (w.drewN m) bx 103 (gX (some ⟨q,off,none⟩) N c at' pv e0 e1 e2 e3 e4 e5 d n):=hb
  have:=hb'.set 1 (.int .i64 ((at':Int)+1))
  exact this
 have HG:Hid (∀m,w.grownBy ((w.drewN m).setCell ⟨bx,1,none⟩ (.int .i64 ((at':Int)+1))) (some bx)):=fun m=>by
  refine⟨rfl,rfl,rfl,by simp,fun k hk hne=>(Below.heap_setCell (w.drewN m) ⟨bx,1,none⟩ _ k ?_).trans rfl⟩
  exact fun e=>hne (by rw[e])
 have Y2:Hid (∀m,((w.drewN m).setCell ⟨bx,1,none⟩ (.int .i64 ((at':Int)+1))).cell? ⟨q,off+at',none⟩=some (.int .u8 z)):=fun m=>by
  rw[World.cell?_of_block (w:=w) ((Below.heap_setCell (w.drewN m) ⟨bx,1,none⟩ _ q hne).trans rfl)]
  exact hc
 clear hr hp hz hN hb hq hc
 go_enter Tryz.func103,Tryz.ntmps103
 go_wp2
 go_quiet (fail)
 all_goals
  go_wp2
  have z0:=(K1.out nq).cell 0 rfl
  have z1:((w.drewN nq).setCell ⟨bx,1,none⟩ (.int .i64 ((at':Int)+1))).cell? ⟨bx,1,none⟩=some (.int .i64 ((at':Int)+1)):=(K1.out nq).cell 1 rfl
  have z2:=Y2.out nq
  have HK:=zz (K1.out nq)
  have HH:=zz (HG.out nq)
  generalize ((w.drewN nq).setCell ⟨bx,1,none⟩ (.int .i64 ((at':Int)+1)))=W1 at z0 z1 z2 HK HH ⊢
  have e1:(at':Int)+1 - 1=(at':Int):=by omega
  go_quiet (fail)
  all_goals
   go_wp2
   go_ret
   exact⟨rfl,HK.out,Jp HH.out _⟩
end Go.Proofs.YtceaodnohnekkaaGreatDoor
namespace Go.Proofs.YtceaodnohnekkaaGreatDoor
open Go.RowKit
section
variable {F:Fence} {n:Nat} {P:Program}
def aua {α:Type}(F:Fence)(n:Nat)(P:Program)(g:Nat)(lb:Array Value)(encs:α→Array Value)(E:α→World→Prop)(Kp:World→World→Prop)(S Sp:List α→Prop)(w:World):Prop:=
 ∀(l:Nat) (J Jx:List α→World→Prop) (W:World),Below w.heap.size w W→AbidesFrom W.heap.size J→AbidesFrom W.heap.size Jx→
  (∀pre x W1,J pre W1→E x W1→YieldAt F (n - 1) P l (encs x) W1 fun e W'=>
    (e= .returned (.bool true)∧J (pre++[x]) W'∧Kp W1 W')∨(e= .returned (.bool false)∧Jx (pre++[x]) W'))→
  J [] W→
  CallsIn F n P g (#[.func (.yield l) #[] #[]]++lb) W fun e W'=>(∃v,e= .returned v)∧((∃xs,S xs∧J xs W')∨(∃pre,Sp pre∧Jx pre W'))
theorem af3 {α:Type}{g:Operand}{ps:Array Tmp}{assign body:Code}{Q:Exit→Act→World→Prop}{a:Act}{w:World}
 (hro:F.round=none) (h1:1≤n) {gf:Nat} {lb:Array Value} (hg:a.eval g= .func (.func gf) #[] lb) (hFg:F.fn gf) (eg:∀args w,(callFunc gf args).run P w= .ok (.enter gf args) w)
 {encs:α→Array Value} {E:α→World→Prop} {Kp:World→World→Prop} {S Sp:List α→Prop} (hseq:aua F (n - 1) P gf lb encs E Kp S Sp w)
 (hKt:∀{A B C:World},Kp A B→Kp B C→Kp A C) (hKb:∀(W:World) (l:Nat) (o o':Obj),w.heap.size≤l→W.heap[l]? =some o→o.isCells=false→o.isWalk=false→Kp W (W.putObj l o')) (hps:∀x,(encs x).size=ps.size)
 (I:List α→World→Prop) (Ix:Code→List α→World→Prop) (hI:OwnFrom w.heap.size I) (hIx:∀c,OwnFrom w.heap.size (Ix c)) (h0:I [] w) (Ax:α→Act→World→Prop) (hAx:∀x a',OwnFrom w.heap.size (fun (_:Unit) W=>Ax x a' W))
 (hassign:∀(l:Nat) (pre:List α) (x:α) (W:World) (K:Act→World→Prop),I pre W→E x W→(∀a' W',KeepsFrom w.heap.size W W'→Kp W W'→I pre W'→Ax x a' W'→K a' W')→
   assign.wpIn (F.inRound l) (n - 1 - 1) P (Exit.then K (fun _ _ _=>False)) { tmps:=(ps.zip (encs x)).foldl (fun t (p,v)=>t.setIfInBounds p v) a.tmps,defers:=[]} W)
 (hbody:∀(l:Nat) (pre:List α) (x:α) (a':Act) (W:World),I pre W→Ax x a' W→body.wpIn (F.inRound l) (n - 1 - 1) P (ownPostG w.heap.size Kp I Ix (pre++[x]) W) a' W)
 (hdone:∀(D:Nat) (xs:List α) (W:World),w.heap.size≤D→S xs→I xs W→W.heap[D]? =some (.deferred (some []))→Q .normal { a with defers:={ target:=.collected D,args:=#[]}::a.defers} W)
 (hstop:∀(D:Nat) (c:Code) (pre:List α) (W:World),w.heap.size≤D→Sp pre→Ix c pre W→W.heap[D]? =some (.deferred (some []))→c.wpIn F n P Q { a with defers:={ target:=.collected D,args:=#[]}::a.defers} W):
 (Code.rangeFunc g ps assign body).wpIn F n P Q a w:=by
 refine wpIn_rangeFunc fun fn hfn=>?_
 rw[hro]
 have hw1:∃rec:LoopState→Option Code→Loop,rec=fun st pe=>{ state:=st,pending:=pe,fn,tmps:=a.tmps,params:=ps,assign,body,defers:=w.heap.size}:=⟨_,rfl⟩
 obtain⟨rec,hrec⟩:=hw1
 obtain⟨D,hD⟩:∃D,w.heap.size=D:=⟨_,rfl⟩
 obtain⟨V,hV⟩:∃V,(w.alloc (.deferred (some []))).alloc (.loop (rec .ready none))=V:=⟨_,rfl⟩
 have vL:V.heap[D+1]? =some (.loop (rec .ready none)):=by
  have:=World.alloc_heap_new (w.alloc (.deferred (some []))) (.loop (rec .ready none))
  rw[World.size_alloc,hD] at this
  rw[← hV];exact this
 have vD:V.heap[D]? =some (.deferred (some [])):=by
  rw[← hV,← hD]
  exact (Below.heap_alloc _ _ _ (by simp)).trans (World.alloc_heap_new w _)
 have vI:I [] V:=by
  rw[← hV]
  exact hI.alloc _ (hI.alloc _ h0)
 have vB:Below w.heap.size w V:=by
  rw[← hV]
  exact ((zo _ w).alloc (zu _) _).alloc (by simp) _
 have vS:V.heap.size=D+2:=by rw[← hV,← hD];simp
 refine⟨D+1,[{ target:=.collected D,args:=#[]}],V,{ target:=.fn (.func gf) lb,args:=#[.func (.yield (D+1)) #[] #[]]},V,gf,#[.func (.yield (D+1)) #[] #[]]++lb,V,?_,?_,?_,?_,fun _=>h1,?_⟩
 ·rw[← hV,hrec,← hD]
  exact run_enterLoop_outer _ _ _ _ _
 ·simp only[resolve,hg]
  simp[go_sem]
 ·intro f' hf'
  simp[Target.leads] at hf'
  subst hf'
  exact hFg
 ·simp[invoke,go_sem,eg]
 have turn:∀{A:World} {row:Option Nat},(∀r,row=some r→V.heap.size≤r∧∃o:Obj,A.heap[r]? =some o∧o.isWalk=true)→∀r,row=some r→w.heap.size≤r∧∃o:Obj,A.heap[r]? =some o∧o.isCells=false:=fun {A row} hr r e=>by
  obtain⟨hB,o,ho,hw⟩:=hr r e
  exact⟨by omega,o,ho,Obj.not_cells_of_walk hw⟩
 have keep:∀{A B:World} {row:Option Nat} {k:Nat} {o:Obj},A.grownBy B row→(∀r,row=some r→V.heap.size≤r∧∃o:Obj,A.heap[r]? =some o∧o.isWalk=true)→A.heap[k]? =some o→o.isWalk=false→B.heap[k]? =some o:=fun hg' hr ho hw=>(grownBy_keeps hg' (fun r e=>(hr r e).2) ho hw).trans ho
 refine (hseq (D+1) (fun pre W=>I pre W∧W.heap[D+1]? =some (.loop (rec .ready none))∧W.heap[D]? =some (.deferred (some [])))
  (fun pre W=>∃c,Ix c pre W∧W.heap[D+1]? =some (.loop (rec .done (some c)))∧W.heap[D]? =some (.deferred (some []))) V vB
  (fun s A B row hs hg' hr=>⟨hI s A B row hs.1 hg' (turn hr),keep hg' hr hs.2.1 rfl,keep hg' hr hs.2.2 rfl⟩)
  (fun s A B row hs hg' hr=>let ⟨c,hc,hl,hk⟩:=hs;⟨c,hIx c s A B row hc hg' (turn hr),keep hg' hr hl rfl,keep hg' hr hk rfl⟩) ?_ ⟨vI,vL,vD⟩).mono ?_
 ·
  rintro pre x W ⟨hi,hl,hk⟩ hx
  have hy:=run_yield (P:=P) (args:=encs x) hl (by rw[hrec];exact hps x)
  rw[hrec] at hy
  refine⟨fn,_,assign,body,hy,roundIn_of_wpIn hfn (hassign _ pre x W _ hi hx fun a' Wa kf kp ia ax=>?_)⟩
  clear hy
  have la:=kf.same _ _ (by omega) hl rfl
  have da:=kf.same _ _ (by omega) hk rfl
  have lt:=(Array.getElem?_eq_some_iff.1 la).1
  refine⟨_,run_beginRound la (by rw[hrec]),?_⟩
  obtain⟨busy,aiK⟩:∃b:Loop,{ rec .ready none with state:=.busy}=b:=⟨_,rfl⟩
  rw[aiK]
  have lb:=World.putObj_heap_same (w:=Wa) (r:=D+1) (o:=.loop busy) lt
  have db:(Wa.putObj (D+1) (.loop busy)).heap[D]? =some (.deferred (some [])):=(World.putObj_heap_other (by omega)).trans da
  have out:∀(j:Option Code) (U:World),KeepsFrom w.heap.size (Wa.putObj (D+1) (.loop busy)) U→
   (Instr.endRound (D+1) j).run P U= .ok (.bool j.isNone) (U.putObj (D+1) (.loop (rec (if j.isNone then .ready else .done) j)))∧U.heap[D+1]? =some (.loop busy)∧
   (U.putObj (D+1) (.loop (rec (if j.isNone then .ready else .done) j))).heap[D+1]? =some (.loop (rec (if j.isNone then .ready else .done) j))∧
   (U.putObj (D+1) (.loop (rec (if j.isNone then .ready else .done) j))).heap[D]? =some (.deferred (some [])):=fun j U hU=>by
   have lu:=hU.same _ _ (by omega) lb rfl
   have du:=hU.same _ _ (by omega) db rfl
   refine⟨?_,lu,World.putObj_heap_same (Array.getElem?_eq_some_iff.1 lu).1,(World.putObj_heap_other (by omega)).trans du⟩
   rw[← aiK] at lu
   have:=run_endRound (P:=P) j lu
   rw[hrec] at this ⊢
   exact this
  refine wpIn_mono (hbody _ pre x a' _ (hI.putObj _ ia (by omega) la rfl) ((hAx x a').putObj (s:=()) _ ax (by omega) la rfl)) ?_
  rintro e a3 U hp
  cases e with
  |normal=>
   obtain⟨h3,h4,h5⟩:=hp
   obtain⟨r1,r2,r3,r4⟩:=out none U h3
   exact⟨_,_,r1,.inl ⟨rfl,⟨hI.putObj _ h5 (by omega) r2 rfl,r3,r4⟩,hKt kp (hKt (hKt (hKb _ _ _ _ (by omega) la rfl rfl) h4) (hKb _ _ _ _ (by omega) r2 rfl rfl))⟩⟩
  |ret=>
   obtain⟨r1,r2,r3,r4⟩:=out (some .ret) U hp.1
   exact⟨_,_,r1,.inr ⟨rfl,.ret,(hIx _).putObj _ hp.2 (by omega) r2 rfl,r3,r4⟩⟩
  |exit id=>
   obtain⟨r1,r2,r3,r4⟩:=out (some (.exit id)) U hp.1
   exact⟨_,_,r1,.inr ⟨rfl,.exit id,(hIx _).putObj _ hp.2 (by omega) r2 rfl,r3,r4⟩⟩
  |goto t=>
   obtain⟨r1,r2,r3,r4⟩:=out (some (.goto t)) U hp.1
   exact⟨_,_,r1,.inr ⟨rfl,.goto t,(hIx _).putObj _ hp.2 (by omega) r2 rfl,r3,r4⟩⟩
  |panic ch=>exact hp.elim
  |outgrown=>exact hp.elim
 ·
  rintro e W2 ⟨⟨v,rfl⟩,(⟨xs,hS,hi,hl,hk⟩ | ⟨pre,hSp,c,hi,hl,hk⟩)⟩
  ·exact⟨none,_,by have:=run_endLoop (P:=P) hl (by rw[hrec];simp);rw[hrec] at this;exact this,hdone _ xs _ (by omega) hS (hI.putObj _ hi (by omega) hl rfl) ((World.putObj_heap_other (by omega)).trans hk)⟩
  ·exact⟨some c,_,by have:=run_endLoop (P:=P) hl (by rw[hrec];simp);rw[hrec] at this;exact this,hstop _ c pre _ (by omega) hSp ((hIx c).putObj _ hi (by omega) hl rfl) ((World.putObj_heap_other (by omega)).trans hk)⟩
end
theorem U9 (lo hi x:Int):ic lo hi [x]=qU lo hi x:=by
 unfold qU
 simp[ic]
theorem RO (lo hi x:Int)(b1 b2:Nat)(w:World)(h1:w.cell? ⟨b1,0,none⟩=some (.int .i64 lo))(h2:w.cell? ⟨b2,0,none⟩=some (.int .i64 hi)):
 Calls Tryz.prog 201 #[.int .i64 x,.pointer (some ⟨b1,0,none⟩),.pointer (some ⟨b2,0,none⟩)] w fun e w'=>e= .returned (.bool (qU lo hi x))∧Below w.heap.size w w':=by
 have C:Hid (∀W:World,Calls Tryz.prog 188 #[.int .i64 lo,.int .i64 hi,.slice (some ⟨W.heap.size,0,none⟩) 1 1] (W.alloc (.cells #[.int .i64 x] 3)) fun e w'=>e= .returned (.bool (qU lo hi x))∧W.alloc (.cells #[.int .i64 x] 3)=w'):=fun W=>by
  rw[← U9]
  exact Bj lo hi _ [x] 1 _ (fun _=>True) (by simp) (Rd.new W #[.int .i64 x] 3 trivial)
 have HB:Hid (Below w.heap.size w (w.alloc (.cells #[.int .i64 x] 3))):=(zo _ _).alloc (zu _) _
 go_enter Tryz.func201,Tryz.ntmps201
 go_wp2_with (go_at_call 188;refine (C.out w).mono ?_;rintro e w1 ⟨rfl,rfl⟩)
 go_ret
 exact⟨rfl,HB.out⟩
def iY (W:World)(v:Option Vr)(idx:Int)(f:Value)(there:Bool):Prop:=match v with
 |none=>there=false
 |some v=>there=true∧idx=(v.1:Int)∧∃b1 b2,f= .func (.func 201) #[] #[.pointer (some ⟨b1,0,none⟩),.pointer (some ⟨b2,0,none⟩)]∧W.cell? ⟨b1,0,none⟩=some (.int .i64 v.2.1)∧W.cell? ⟨b2,0,none⟩=some (.int .i64 v.2.2)
def Rest (B r:Nat)(s:ByteArray)(ok:Bool)(A:Option Addr)(n c:Nat)(l:List ay)(W:World):Prop:=Bk W r 24 [.string (if ok then s else ⟨#[]⟩),.slice A n c]∧Ow W B A l∧B≤r∧(l≠[]→∀a,A=some a→a.block≠r)
set_option maxHeartbeats 2000000 in
theorem Tc (B r:Nat)(s:ByteArray)(ok:Bool)(A:Option Addr)(n c:Nat)(l:List ay)(w:World)(idx:Int)(f:Value)(hB:B≤w.heap.size)(h:Rest B r s ok A n c l w):
 Calls Tryz.prog 77 #[.agg #[.int .i64 idx,f],.bool false,.pointer (some ⟨r,0,none⟩)] w fun e w'=>e= .returned (.int .i64 0)∧Rest B r s ok A n c l w'∧Below B w w':=by
 have HB:Hid (Below w.heap.size w (w.alloc (.cells #[.int .i64 idx,f] 146))):=(zo _ _).alloc (zu _) _
 have HR:Hid (Rest B r s ok A n c l (w.alloc (.cells #[.int .i64 idx,f] 146))∧Below B w (w.alloc (.cells #[.int .i64 idx,f] 146))):=⟨⟨h.1.alloc _,h.2.1.after HB.out,h.2.2⟩,HB.out.mono hB⟩
 clear h hB
 go_enter Tryz.func77,Tryz.ntmps77
 go_wp2
 go_ret
 exact⟨rfl,HR.out⟩
set_option maxHeartbeats 4000000 in
theorem Ta (B r:Nat)(s:ByteArray)(A:Option Addr)(n c:Nat)(l:List ay)(w:World)(f:Value)(k:Nat)(lo hi:Int)(b1 b2:Nat)(o:ay)(ok:Bool)(hf:f= .func (.func 201) #[] #[.pointer (some ⟨b1,0,none⟩),.pointer (some ⟨b2,0,none⟩)])(h1:w.cell? ⟨b1,0,none⟩=some (.int .i64 lo))(h2:w.cell? ⟨b2,0,none⟩=some (.int .i64 hi))
 (hB:B≤w.heap.size) (hk:l[k]? =some o) (hn:n=l.length) (hm:l.length≤3) (hr:Rest B r s ok A n c l w):
 Calls Tryz.prog 77 #[.agg #[.int .i64 (k:Int),f],.bool true,.pointer (some ⟨r,0,none⟩)] w fun e w'=>e= .returned (.int .i64 o.2.2)∧Rest B r s (cond (qU lo hi o.2.2) ok false) A n c (cond (qU lo hi o.2.2) (fO l k 0) l) w'∧Below B w w':=by
 subst hf
 have hBs:=hB
 have C:Hid (∀W,Below w.heap.size w W→Calls Tryz.prog 201 #[.int .i64 o.2.2,.pointer (some ⟨b1,0,none⟩),.pointer (some ⟨b2,0,none⟩)] W fun e w'=>e= .returned (.bool (qU lo hi o.2.2))∧Below W.heap.size W w'):=fun W hb=>RO lo hi o.2.2 b1 b2 W (eB hb h1) (eB hb h2)
 have HB:Hid (Below w.heap.size w (w.alloc (.cells #[.int .i64 (k:Int),.func (.func 201) #[] #[.pointer (some ⟨b1,0,none⟩),.pointer (some ⟨b2,0,none⟩)]] 146))):=(zo _ _).alloc (zu _) _
 have HR:Hid (Rest B r s ok A n c l (w.alloc (.cells #[.int .i64 (k:Int),.func (.func 201) #[] #[.pointer (some ⟨b1,0,none⟩),.pointer (some ⟨b2,0,none⟩)]] 146))∧Below B w (w.alloc (.cells #[.int .i64 (k:Int),.func (.func 201) #[] #[.pointer (some ⟨b1,0,none⟩),.pointer (some ⟨b2,0,none⟩)]] 146))):=⟨⟨hr.1.alloc _,hr.2.1.after HB.out,hr.2.2⟩,HB.out.mono hB⟩
 have HV:Hid (Bk (w.alloc (.cells #[.int .i64 (k:Int),.func (.func 201) #[] #[.pointer (some ⟨b1,0,none⟩),.pointer (some ⟨b2,0,none⟩)]] 146)) w.heap.size 146 [.int .i64 (k:Int),.func (.func 201) #[] #[.pointer (some ⟨b1,0,none⟩),.pointer (some ⟨b2,0,none⟩)]]):=Bk.new w 146 [.int .i64 (k:Int),.func (.func 201) #[] #[.pointer (some ⟨b1,0,none⟩),.pointer (some ⟨b2,0,none⟩)]]
 obtain⟨q,off,rfl,hq,c0,c1,c2,fr2,_⟩:=HR.out.1.2.1.cells hk
 have hl0:l≠[]:=fun e=>by rw[e] at hk;cases hk
 have HQ:Hid (q≠r):=hr.2.2.2 hl0 _ rfl
 clear hl0
 have g0:=HR.out.1.1.cell 0 rfl
 have g1:=HR.out.1.1.cell 1 rfl
 have hkn:k < n:=by rw[hn];exact (List.getElem?_eq_some_iff.1 hk).1
 have hn3:(n:Int)≤3:=by omega
 have HK:=zz hk
 clear hr hk hn hm h1 h2 hB c0 c1
 have HS:Hid (∀W,Below (w.alloc (.cells #[.int .i64 (k:Int),.func (.func 201) #[] #[.pointer (some ⟨b1,0,none⟩),.pointer (some ⟨b2,0,none⟩)]] 146)).heap.size (w.alloc (.cells #[.int .i64 (k:Int),.func (.func 201) #[] #[.pointer (some ⟨b1,0,none⟩),.pointer (some ⟨b2,0,none⟩)]] 146)) W→
  Rest B r s ok (some ⟨q,off,none⟩) n c l W∧Below B w W∧Bk W w.heap.size 146 [.int .i64 (k:Int),.func (.func 201) #[] #[.pointer (some ⟨b1,0,none⟩),.pointer (some ⟨b2,0,none⟩)]]):=fun W hW=>
  ⟨⟨HR.out.1.1.after hW,HR.out.1.2.1.after hW,HR.out.1.2.2⟩,HR.out.2.trans (hW.mono (zt (by have:=HR.out.2.size;exact hBs) HB.out.size)),HV.out.after hW⟩
 generalize hx:qU lo hi o.2.2=b at C ⊢
 generalize o.2.2=x at C c2 ⊢
 cases b with
 |true=>
  go_enter Tryz.func77,Tryz.ntmps77
  go_wp2_with (go_at_call 201;refine (C.out _ HB.out).mono ?_;rintro e w2 ⟨rfl,hb⟩;have H2:=zz (HS.out w2 hb);obtain⟨q',off',hq',_,d0,d1,d2,fd2,hset⟩:=H2.out.1.2.1.cells HK.out;obtain⟨rfl,rfl⟩:q=q'∧off=off':=(by simpa using hq');have e0:=H2.out.1.1.cell 0 rfl;have e1:=H2.out.1.1.cell 1 rfl;have v0:=H2.out.2.2.cell 0 rfl;have v1:=H2.out.2.2.cell 1 rfl;have ayx:=zz (hset 0);clear hb hset hq' d0 d1)
  go_ret
  refine⟨rfl,⟨H2.out.1.1.other (by show r≠q;exact Ne.symm HQ.out) _,?_,H2.out.1.2.2.1,fun _ a ha=>?_⟩,H2.out.2.1.setCell hq _⟩
  rotate_left
  ·obtain rfl:=zx ha
   exact HQ.out
  have:=ayx.out
  simp only[cond_true]
  unfold fO
  rw[HK.out]
  exact this
 |false=>
  go_enter Tryz.func77,Tryz.ntmps77
  go_wp2_with (go_at_call 201;refine (C.out _ HB.out).mono ?_;rintro e w2 ⟨rfl,hb⟩;have H2:=zz (HS.out w2 hb);have e0:=H2.out.1.1.cell 0 rfl;have e1:=H2.out.1.1.cell 1 rfl;have fe0:=H2.out.1.1.frozen 0;clear hb)
  go_ret
  refine⟨rfl,⟨?_,H2.out.1.2.1.ne (fun hl a ha=>H2.out.1.2.2.2 hl a ha) _,H2.out.1.2.2⟩,H2.out.2.1.setCell H2.out.1.2.2.1 _⟩
  exact H2.out.1.1.set 0 _
theorem XE (B r:Nat)(s:ByteArray)(A:Option Addr)(n c:Nat)(l:List ay)(w:World)(f:Value)(idx:Int)(there:Bool)(v:Option Vr)(ok:Bool)(hv:iY w v idx f there)(hB:B≤w.heap.size)(hl:∀x,v=some x→x.1 < l.length)(hn:n=l.length)(hm:l.length≤3)(hr:Rest B r s ok A n c l w):
 Calls Tryz.prog 77 #[.agg #[.int .i64 idx,f],.bool there,.pointer (some ⟨r,0,none⟩)] w fun e w'=>e= .returned (.int .i64 (takeN v l))∧Rest B r s (ok && takeB v l) A n c (eT v l) w'∧Below B w w':=by
 cases v with
 |none=>
  obtain rfl:there=false:=hv
  refine (Tc B r s ok A n c l w idx f hB hr).mono ?_
  rintro e w' ⟨rfl,h1,h2⟩
  exact⟨rfl,by simpa [takeB,eT] using h1,h2⟩
 |some x=>
  obtain⟨rfl,rfl,b1,b2,hf,h1,h2⟩:=hv
  have hx:=hl x rfl
  have hk:=List.getElem?_eq_getElem hx
  refine (Ta B r s A n c l w f x.1 x.2.1 x.2.2 b1 b2 l[x.1] ok hf h1 h2 hB hk hn hm hr).mono ?_
  have e1:dC l x.1=l[x.1].2.2:=bJ hk
  rintro e w' ⟨rfl,h3,h4⟩
  refine⟨by simp only[takeN,e1],?_,h4⟩
  simp only[takeB,eT,e1]
  cases h:qU x.2.1 x.2.2 l[x.1].2.2 with
  |true=>rw[h] at h3;simpa using h3
  |false=>rw[h] at h3;simpa using h3
theorem nY (v:Option Vr)(l:List ay):(eT v l).length=l.length:=by
 unfold eT
 split
 ·rfl
 ·rename_i v'
  cases qU v'.2.1 v'.2.2 (dC l v'.1)
  ·rfl
  ·exact uq _ _ _
abbrev ahH (w:World)(g:Nat)(eV:Value)(v:Option Vr):Prop:=∀W,Below w.heap.size w W→Calls Tryz.prog g #[eV] W fun e w'=>∃idx f there,e= .returned (.tuple #[.agg #[.int .i64 idx,f],.bool there])∧iY w' v idx f there∧Below W.heap.size W w'
abbrev Cn (w:World)(B r:Nat)(s:ByteArray)(ok:Bool)(A:Option Addr)(n c:Nat)(l:List ay)(e:List Value)(W:World):Prop:=Rest B r s ok A n c l W∧Below w.heap.size w W∧Bk W w.heap.size 49 e∧B≤W.heap.size
theorem xS {w w1 w2:World}{A:Option Addr}{l:List ay}{e:List Value}(ho:Ow w2 w1.heap.size A l)(hk:Bk w2 w.heap.size 49 e)(hb:Below w.heap.size w w2)(hs:w1.heap.size≤w2.heap.size)(s:ByteArray)(n c:Nat):
 Cn w w1.heap.size w2.heap.size s true A n c l e (w2.alloc (.cells #[.string s,.slice A n c] 24)):=by
 refine⟨⟨Bk.new w2 24 [.string s,.slice A n c],ho.after ((zo _ _).alloc (zu _) _),hs,fun hl a ha=>?_⟩,hb.alloc hb.size _,hk.alloc _,by simp;omega⟩
 obtain⟨q,off,cur,T,hA,_,hh,_⟩:=ho hl
 rw[hA] at ha
 obtain rfl:=zx ha
 have:=gU hh
 show q≠w2.heap.size
 omega
theorem sS {w W W':World}{B r n c:Nat}{s:ByteArray}{ok:Bool}{A:Option Addr}{l:List ay}{e:List Value}(h:Cn w B r s ok A n c l e W)(hb:Below W.heap.size W W'):Cn w B r s ok A n c l e W':=
 ⟨⟨h.1.1.after hb,h.1.2.1.after hb,h.1.2.2⟩,h.2.1.trans (hb.mono h.2.1.size),h.2.2.1.after hb,zt h.2.2.2 hb.size⟩
theorem sQ {w W W':World}{B r n c:Nat}{s:ByteArray}{ok ok':Bool}{A:Option Addr}{l l':List ay}{e:List Value}(h:Cn w B r s ok A n c l e W)(hlt:w.heap.size < B)(hr:Rest B r s ok' A n c l' W')(hb:Below B W W'):Cn w B r s ok' A n c l' e W':=
 ⟨hr,h.2.1.trans (hb.mono (by omega)),h.2.2.1.below hb hlt,zt h.2.2.2 hb.size⟩
def Ju (b:Bool)(d n:Int):Value:=if b then .tuple #[.int .i64 d,.int .i64 n,.bool true] else .tuple #[.int .i64 0,.int .i64 0,.bool false]
set_option maxHeartbeats 8000000 in
theorem acb (pg o:Int)(s ex:ByteArray)(al:Bool)(A A':Option Addr)(l l':List ay)(n n' c c':Nat)(w:World)(p p':Nat→Prop)(vd vn:Option Vr)(hs:s.size≤1000)(hup:upS s=s)(hs0:s≠⟨#[]⟩)(hn:n=l.length)(hn':n'=l'.length)(_hm:l.length≤3)(hm':l'.length≤3)(hll:l.length=l'.length)(hvd:∀x,vd=some x→x.1 < l.length)(Kz:∀x,vn=some x→x.1 < l.length)(h:Rd w p A (bE l))(h':Rd w p' A' (bE l'))
 (C1:∀W,Below w.heap.size w W→Calls Tryz.prog 36 #[.agg #[.int .i64 pg,.int .u8 o,.string s,.slice A n c,.string ex,.bool al],.agg #[.string s,.slice A' n' c']] W fun e w'=>e= .returned (.bool true)∧Below W.heap.size W w')
 (C3:ahH w 78 (.agg #[.int .i64 pg,.int .u8 o,.string s,.slice A n c,.string ex,.bool al]) vd) (C4:ahH w 79 (.agg #[.int .i64 pg,.int .u8 o,.string s,.slice A n c,.string ex,.bool al]) vn):
 Calls Tryz.prog 37 #[.agg #[.int .i64 pg,.int .u8 o,.string s,.slice A n c,.string ex,.bool al],.agg #[.string s,.slice A' n' c']] w fun e w'=>e= .returned (Ju (nE vd vn l l') (takeN vd l') (takeN vn (eT vd l')))∧Below w.heap.size w w':=by
 have C1:=zz C1
 have C3:=zz C3
 have C4:=zz C4
 have C2:Hid (∀W,Below w.heap.size w W→Calls Tryz.prog 76 #[.string s,.slice A' n' c'] W fun e w'=>∃A2 c2,e= .returned (.agg #[.string s,.slice A2 n' c2])∧Ow w' W.heap.size A2 l'∧n'≤c2∧Below W.heap.size W w'):=fun W hb=>by
  have:=xx s A' l' n' c' W p' hs hn' (by omega) (h'.after hb)
  rwa [hup] at this
 have CT:=zz (fun B r A2 c2 (L:List ay) W f idx there v ok (hv:iY W v idx f there) hB hl (hL:L.length=l'.length) hr=>XE B r s A2 n' c2 L W f idx there v ok hv hB hl (by rw[hL,hn']) (by omega) hr)
 have CS:Hid (∀(W:World) (t:ByteArray) (A2:Option Addr) (c2:Nat) (L:List ay),L.length=l'.length→Below w.heap.size w W→Rd W (fun _=>True) A2 (bE L)→Calls Tryz.prog 12 #[.agg #[.string t,.slice A2 n' c2],.agg #[.string s,.slice A n c]] W fun e w'=>e= .returned (.bool (decide (t=s∧L=l)))∧Below W.heap.size W w'):=fun W t A2 c2 L hL hb r=>sM t s A2 A L l n' n c2 c W _ _ (by rw[hL,hn']) hn.symm (by omega) r (h.after hb)
 have HA:Hid (Below w.heap.size w ((w.alloc (.cells #[.int .i64 pg,.int .u8 o,.string s,.slice A n c,.string ex,.bool al] 49)).alloc (.cells #[.string s,.slice A' n' c'] 24))):=((zo _ _).alloc (zu _) _).alloc (by simp) _
 have fE:Hid (Bk ((w.alloc (.cells #[.int .i64 pg,.int .u8 o,.string s,.slice A n c,.string ex,.bool al] 49)).alloc (.cells #[.string s,.slice A' n' c'] 24)) w.heap.size 49 [.int .i64 pg,.int .u8 o,.string s,.slice A n c,.string ex,.bool al]):=
  (Bk.new w 49 [.int .i64 pg,.int .u8 o,.string s,.slice A n c,.string ex,.bool al]).alloc _
 have kE:Hid (Bk ((w.alloc (.cells #[.int .i64 pg,.int .u8 o,.string s,.slice A n c,.string ex,.bool al] 49)).alloc (.cells #[.string s,.slice A' n' c'] 24)) (w.heap.size+1) 24 [.string s,.slice A' n' c']):=by
  have:=Bk.new (w.alloc (.cells #[.int .i64 pg,.int .u8 o,.string s,.slice A n c,.string ex,.bool al] 49)) 24 [.string s,.slice A' n' c']
  rwa [World.size_alloc] at this
 have hmf:∀(fn:Fn) (first cap:Array Value) (w:World),(Instr.makeFunc fn first cap).run Tryz.prog w= .ok (.func fn first cap) w:=fun _ _ _ _=>rfl
 have HV1:=zz hvd
 have HV2:=zz Kz
 have HLL:=zz hll
 have HS0:=zz hs0
 clear h h' hs hn hn' _hm hm' hup hvd Kz hll hs0
 have HF:Hid (∀ok,ok=((true && takeB vd l') && takeB vn (eT vd l'))→decide ((if ok=true then s else ⟨#[]⟩)=s∧eT vn (eT vd l')=l)=nE vd vn l l'):=by
  rintro ok rfl
  unfold nE
  cases takeB vd l' <;> cases takeB vn (eT vd l') <;> simp[Ne.symm HS0.out]
 generalize nE vd vn l l'=b at HF ⊢
 cases b
 all_goals
  go_enter Tryz.func37,Tryz.ntmps37
  go_wp2_with (first
   |(go_at_call 36;refine (C1.out _ HA.out).mono ?_;rintro e w1 ⟨rfl,hb⟩;have HB1:=zz (HA.out.trans (hb.mono HA.out.size));have K1:=zz (zy (fE.out.after hb) (kE.out.after hb));have HLT:=zz K1.out.1.lt;have a0:=K1.out.2.cell 0 rfl;have a1:=K1.out.2.cell 1 rfl;clear hb)
   |(go_at_call 76;refine (C2.out _ HB1.out).mono ?_;rintro e w2 ⟨A2,c2,rfl,ho,hc,hb⟩;have H3:=zz (xS ho (K1.out.1.after hb) (HB1.out.trans (hb.mono HB1.out.size)) hb.size s n' c2);have b0:=H3.out.2.2.1.cell 0 rfl;have b1:=H3.out.2.2.1.cell 1 rfl;have b2:=H3.out.2.2.1.cell 2 rfl;have b3:=H3.out.2.2.1.cell 3 rfl;have b4:=H3.out.2.2.1.cell 4 rfl;have b5:=H3.out.2.2.1.cell 5 rfl;clear a0 a1 hb ho hc)
   |(go_at_call 78;refine (C3.out _ H3.out.2.1).mono ?_;rintro e w4 ⟨idx,f,there,rfl,hv,hb⟩;have H4:=zz (sS H3.out hb);have HV:=zz hv;clear hb hv b0 b1 b2 b3 b4 b5)
   |(go_at_call 77;(with_reducible refine (CT.out _ _ _ _ _ w4 f idx there vd true HV.out (H4.out.2.2.2) (fun x hx=>by rw[← HLL.out];exact HV1.out x hx) rfl H4.out.1).mono ?_);rintro e w5 ⟨rfl,hr,hb⟩;have H5:=zz (sQ H4.out HLT.out hr hb);have b0:=H5.out.2.2.1.cell 0 rfl;have b1:=H5.out.2.2.1.cell 1 rfl;have b2:=H5.out.2.2.1.cell 2 rfl;have b3:=H5.out.2.2.1.cell 3 rfl;have b4:=H5.out.2.2.1.cell 4 rfl;have b5:=H5.out.2.2.1.cell 5 rfl;clear hb hr)
   |(go_at_call 79;refine (C4.out _ H5.out.2.1).mono ?_;rintro e w6 ⟨Nk,f2,KZ,rfl,hv,hb⟩;have H6:=zz (sS H5.out hb);have HW:=zz hv;clear hb hv b0 b1 b2 b3 b4 b5)
   |(go_at_call 77;(with_reducible refine (CT.out _ _ _ _ _ w6 f2 Nk KZ vn _ HW.out (H6.out.2.2.2) (fun x hx=>by rw[nY,← HLL.out];exact HV2.out x hx) (nY _ _) H6.out.1).mono ?_);rintro e w7 ⟨rfl,hr,hb⟩;have H7:=zz (sQ H6.out HLT.out hr hb);obtain⟨t,ht⟩:∃t:ByteArray,(if ((true && takeB vd l') && takeB vn (eT vd l'))=true then s else ⟨#[]⟩)=t:=⟨_,rfl⟩;have r0:=H7.out.1.1.cell 0 rfl;have r1:=H7.out.1.1.cell 1 rfl;rw[ht] at r0;have HT:=zz ht;have b2:=H7.out.2.2.1.cell 2 rfl;have b3:=H7.out.2.2.1.cell 3 rfl;clear hb hr ht)
   |(go_at_call 12;refine (CS.out _ t _ _ (eT vn (eT vd l')) (by rw[nY,nY]) H7.out.2.1 (H7.out.1.2.1.rd.gz fun _ _=>trivial)).mono ?_;rintro e w8 ⟨he,hb⟩;rw[← HT.out,HF.out _ rfl] at he;subst he;have H8:=zz (H7.out.2.1.trans (hb.mono H7.out.2.1.size));clear hb))
  go_ret3
  exact⟨rfl,H8.out⟩
end Go.Proofs.YtceaodnohnekkaaGreatDoor
namespace Go.Proofs.YtceaodnohnekkaaGreatDoor
open Go.RowKit Ex
def OfP (w:World)(b:Nat)(nm:List Nat)(l:List ay)(W:World):Prop:=Wr (w.heap.size+1+1) b nm l W∧Below w.heap.size w W∧Bk W (w.heap.size+1) 24 [.string ⟨#[]⟩,.slice none 0 0]∧w.heap.size+1+1≤W.heap.size
theorem OfP.step {w W W':World}{b:Nat}{nm:List Nat}{l l':List ay}(h:OfP w b nm l W)(hw:Wr (w.heap.size+1+1) b nm l' W')(hb:Below (w.heap.size+1+1) W W'):OfP w b nm l' W':=
 ⟨hw,h.2.1.trans (hb.mono (by omega)),h.2.2.1.below hb (by omega),zt h.2.2.2 hb.size⟩
set_option maxHeartbeats 4000000 in
theorem BR (nm:List Nat)(hnm:∀x∈nm,x < 256)(A:Option Addr)(l:List ay)(n c:Nat)(w:World)(p:Nat→Prop)(hn:n=l.length)(hm:l.length≤3)(h64:∀o∈l,-9223372036854775808≤o.2.2∧o.2.2≤9223372036854775807)(h:Rd w p A (bE l))(hW:Words w nm):
 Calls Tryz.prog 34 #[.agg #[.string (aa nm),.slice A n c]] w fun e w'=>∃A' c',e= .returned (.agg #[.string (aa nm),.slice A' (aK nm l).length c'])∧Ow w' w.heap.size A' (aK nm l)∧Below w.heap.size w w':=by
 have C1:Hid (∀W,Below w.heap.size w W→Calls Tryz.prog 68 #[.slice A n c] W fun e w'=>∃A' c',e= .returned (.slice A' n c')∧Ow w' W.heap.size A' l∧n≤c'∧Below W.heap.size W w'):=fun W hb=>by
  refine (wX A l n c W p hn (by omega) (h.after hb)).mono ?_
  rintro e w' ⟨v,rfl,ho,hb'⟩
  obtain⟨A',c',rfl,hc,_⟩:=jB ho
  subst hn
  exact⟨A',c',rfl,Ow.sI ho,hc,hb'⟩
 have L1:(fC nm l).length≤3:=Kt nm l hm
 have L2:(iW nm (fC nm l)).length≤3:=by rw[R6];exact L1
 have D2:∀o∈iW nm (fC nm l),-9223372036854775808≤o.2.2∧o.2.2≤9223372036854775807:=fun o ho=>by
  rcases Dy (M3 ho) with h1 | rfl
  ·exact h64 o h1
  ·simp
 have CA:=zz (fun (b:Nat) (W:World) (hb:Below w.heap.size w W) (hB:w.heap.size+1+1≤W.heap.size) (hBb:w.heap.size+1+1≤b) (hw:Wr (w.heap.size+1+1) b nm l W)=>ahF (w.heap.size+1+1) b nm l W hw hm hB hBb (hW.after hb))
 have CE:=zz (fun (b:Nat) (W:World) (hB:w.heap.size+1+1≤W.heap.size) (hw:Wr (w.heap.size+1+1) b nm (fC nm l) W)=>an4 (w.heap.size+1+1) b nm hnm (fC nm l) W hw L1 hB)
 have CN:=zz (fun (b:Nat) (W:World) (hb:Below w.heap.size w W) (hB:w.heap.size+1+1≤W.heap.size) (hw:Wr (w.heap.size+1+1) b nm (iW nm (fC nm l)) W)=>agt (w.heap.size+1+1) b nm hnm _ W hw L2 hB D2 (hW.after hb))
 have H0:Hid (Bk ((w.alloc (.cells #[.string (aa nm),.slice A n c] 24)).alloc (.cells #[.string ⟨#[]⟩,.slice none 0 0] 24)) w.heap.size 24 [.string (aa nm),.slice A n c]∧Bk ((w.alloc (.cells #[.string (aa nm),.slice A n c] 24)).alloc (.cells #[.string ⟨#[]⟩,.slice none 0 0] 24)) (w.heap.size+1) 24 [.string ⟨#[]⟩,.slice none 0 0]∧Below w.heap.size w ((w.alloc (.cells #[.string (aa nm),.slice A n c] 24)).alloc (.cells #[.string ⟨#[]⟩,.slice none 0 0] 24))):=
  ⟨(Bk.new w 24 [.string (aa nm),.slice A n c]).alloc _,by
    have:=Bk.new (w.alloc (.cells #[.string (aa nm),.slice A n c] 24)) 24 [.string ⟨#[]⟩,.slice none 0 0]
    rwa [World.size_alloc] at this,((zo _ _).alloc (zu _) _).alloc (by simp) _⟩
 have s0:=step0
 have s1:=step1
 have s2:=step2
 have g0:=H0.out.1.cell 0 rfl
 have g1:=H0.out.1.cell 1 rfl
 have HN:=zz hn
 clear h h64 hW hn hm L1 L2 D2
 go_enter Tryz.func34,Tryz.ntmps34
 go_wp2
 generalize ((w.alloc (.cells #[.string (aa nm),.slice A n c] 24)).alloc (.cells #[.string ⟨#[]⟩,.slice none 0 0] 24))=W0 at H0 g0 g1 ⊢
 have Hd:=zz (aM H0.out.2.2)
 first | (go_region_held3 (fun w'=>w'.cell? ⟨w.heap.size,0,none⟩=some (.string (aa nm))∧w'.cell? ⟨w.heap.size,1,none⟩=some (.slice A n c)) (first | assumption | go_keep) ((go_at_call 68;refine (C1.out _ Hd.out).mono ?_;rintro e w1 ⟨A1,c1,rfl,ho,hc,hb⟩;have H1:=zz (zy (H0.out.1.drew.after hb) (zy (H0.out.2.1.drew.after hb) (zy (Hd.out.trans (hb.mono Hd.out.size)) (zy (ho.mono (zu _)) hc))));have HS1:=zz hb.size;have x0:=H1.out.1.cell 0 rfl;have x1:=H1.out.1.cell 1 rfl;clear hb ho hc))) | fail
 all_goals
  have atG:w.heap.size+1+1≤W0.heap.size:=H0.out.2.1.lt
  have axn:W0.heap.size≤w1.heap.size:=by
   have:=H1.out.2.2.2.1
   exact HS1.out
  have H2:Hid (OfP w w1.heap.size nm l (w1.alloc (.cells #[.string (aa nm),.slice A1 n c1] 135))):=
   ⟨⟨A1,n,c1,Bk.new w1 135 [.string (aa nm),.slice A1 n c1],(H1.out.2.2.2.1.mono atG).alloc _,HN.out,H1.out.2.2.2.2⟩,(H1.out.2.2.1.alloc (by omega) _),H1.out.2.1.alloc _,by simp;omega⟩
  have HB2:Hid (w.heap.size+1+1≤w1.heap.size):=by
   show _≤_
   omega
  clear g0 g1 x0 x1 atG axn
  obtain⟨b,hb⟩:∃b,w1.heap.size=b:=⟨_,rfl⟩
  rw[hb] at H2 HB2 ⊢
  generalize w1.alloc (.cells #[.string (aa nm),.slice A1 n c1] 135)=W1 at H2 ⊢
  clear hb
  go_wp2
  refine wp_loop_rounds 4 ?_
  rw[rounds_succ]
  go_wp2_with (go_at_call 69;refine (CA.out b _ H2.out.2.1 H2.out.2.2.2 HB2.out H2.out.1).mono ?_;rintro e w3 ⟨rfl,hw,hb⟩;have H3:=zz (H2.out.step hw hb);clear hw hb)
  rw[rounds_succ]
  go_wp2_with (go_at_call 70;refine (CE.out b _ H3.out.2.2.2 H3.out.1).mono ?_;rintro e w4 ⟨rfl,hw,hb⟩;have H4:=zz (H3.out.step hw hb);clear hw hb)
  rw[rounds_succ]
  go_wp2_with (go_at_call 71;refine (CN.out b _ H4.out.2.1 H4.out.2.2.2 H4.out.1).mono ?_;rintro e w5 ⟨rfl,hw,hb⟩;have H5:=zz (H4.out.step hw hb);clear hw hb)
  obtain⟨A5,n5,c5,hk5,ho5,mK,hc5⟩:=H5.out.1
  have z0:=hk5.cell 0 rfl
  have z1:=hk5.cell 1 rfl
  have r0:=H5.out.2.2.1.cell 0 rfl
  have r1:=H5.out.2.2.1.cell 1 rfl
  have fr0:=H5.out.2.2.1.frozen 0
  have fr1:=H5.out.2.2.1.frozen 1
  have HO5:=zz (zy ho5 mK)
  clear hk5 ho5 mK hc5
  rw[rounds_succ]
  go_wp2
  have k:=(H5.out.2.2.1.set 0 (.string (aa nm))).set 1 (.slice A5 n5 c5)
  have y0:=k.cell 0 rfl
  have y1:=k.cell 1 rfl
  refine bodyPost_ret (v:=.agg #[.string (aa nm),.slice A5 n5 c5]) (by simp[results,Tryz.results34,go_sem,y0,y1]) rfl ⟨A5,c5,by rw[HO5.out.2];rfl,((HO5.out.1.other (by simp) _).other (by simp) _).mono (by omega),(H5.out.2.1.setCell (by simp) _).setCell (by simp) _⟩
set_option maxRecDepth 100000 in
theorem aws (A:Option Addr)(l c m:Nat)(w:World)(h:m≤c):(Instr.sliceAt 25 (.slice A l c) none (some (.int .i64 (m:Int))) none).run Tryz.prog w= .ok (.slice A m c) w:=by
 have hu:Tryz.prog.underlying 25=some (.slice (Tryz.prog.elem 25)):=by kernel_rfl
 have hs:(sizeOf (Tryz.prog.elem 25)).run Tryz.prog w= .ok 1 w:=by kernel_rfl
 rw[run_sliceAt_slice w _ _ _ _ _ hu,run_slice_h w _ A l c hu .i64 (m:Int) (by omega) (by omega),hs]
 simp only[Result.andThen_ok,sliced,Int.toNat_natCast,Nat.sub_zero,Nat.zero_mul]
 congr 2
 split
 ·rfl
 ·cases A with
  |none=>rfl
  |some a=>simp[Addr.add]
set_option maxHeartbeats 2000000 in
theorem NU (q off n c:Nat)(V:List Value)(w:World)(p:Nat→Prop)(hV:V.length=n)(h1:∀u∈V,u.oneCell'=true)(hn:1≤n)(hm:(n:Int)≤1000)(h:Rd w p (some ⟨q,off,none⟩) V):
 Calls Tryz.prog 100 #[.slice (some ⟨q,off,none⟩) n c] w fun e w'=>∃A' c',e= .returned (.slice A' n c')∧w'.ownsRow w.heap.size 5 1 (.slice A' n c') n V∧Below w.heap.size w w':=by
 have hown:(w.alloc (.cells #[] 5)).ownsRow w.heap.size 5 1 (.slice (some ⟨w.heap.size,0,none⟩) 0 0) 0 []:=World.ownsRow_made w #[] 0 (zu _) (by simp[maxLen]) rfl
 have hr:=h.after ((zo w.heap.size w).alloc (zu _) (.cells #[] 5))
 have HB:Hid (Below w.heap.size w (w.alloc (.cells #[] 5))):=(zo _ _).alloc (zu _) _
 have hV1:V.length=n * 1:=by omega
 have hnil:=fun w n=>Lib.run_eql_slice_nil (P:=Tryz.prog) w 25 5 (some ⟨q,off,none⟩) n c 0 0 Tryz.underlying25
 go_enter Tryz.func100,Tryz.ntmps100
 go_wp2_with (at_builtin;refine eY jN rfl (.tmp 5) (.tmp 6) rfl w.heap.size _ 0 [] p (some ⟨q,off,none⟩) n c V rfl rfl hown hV1 hr h1 (by simp only[maxLen];omega) (by omega) (by simp) ?_;intro v' w1 hown2 hg1 _ _)
 go_ret
 rw[Nat.zero_add,List.nil_append] at hown2
 obtain⟨A',c',rfl,_,_⟩:=jB hown2
 exact⟨A',c',rfl,hown2,HB.out.grown hg1 (by simp) fun j ej=>by
  have e:w.heap.size=j:=zx ej
  omega⟩
set_option maxHeartbeats 2000000 in
theorem af2 (bx:Nat)(A:Option Addr)(N c k at':Nat)(pv e0 e1 e2 e3 e4 e5:Value)(d n:Int)(V:List Value)(w:World)(p:Nat→Prop)(hb:Bk w bx 103 (gX A N c at' pv e0 e1 e2 e3 e4 e5 d n))(hr:Rd w p A V)(h1:∀u∈V,u.oneCell'=true)(hN:V.length=N)(hm:(N:Int)≤1000)(hk:1≤k)(hkN:k≤N)(hc:N≤c):
 Calls Tryz.prog 51 #[.pointer (some ⟨bx,0,none⟩),.int .i64 (k:Int)] w fun e w'=>∃A' c',e= .returned (.slice A' k c')∧w'.ownsRow w.heap.size 5 1 (.slice A' k c') k (V.take k)∧Below w.heap.size w w':=by
 obtain⟨q,off,rfl,hq,_⟩:=hr.v (k:=0) (List.getElem?_eq_getElem (by omega))
 have C:=zz (NU q off k c (V.take k) w p (by rw[List.length_take];omega) (fun u hu=>h1 u (List.mem_of_mem_take hu)) hk (by omega) (hr.take k))
 have hs:=fun W=>aws (some ⟨q,off,none⟩) N c k W (by omega)
 have x0:=hb.cell 0 rfl
 clear hr h1 hq hb
 go_enter Tryz.func51,Tryz.ntmps51
 go_wp2_with (go_at_call 100;refine C.out.mono ?_;rintro e w1 ⟨A',c',rfl,ho,hb⟩)
 go_ret
 exact⟨A',c',rfl,ho,hb⟩
def Ls (z:Int):Int:=if 128≤z then z - 256 else z
theorem ai1:∀n:Fin 256,IntKind.i8.wrap (n.val:Int)=Ls (n.val:Int):=by decide+kernel
theorem afL {z:Int}(h0:0≤z)(h1:z < 256):IntKind.i8.wrap z=Ls z:=by
 have:=ai1 ⟨z.toNat,by omega⟩
 simpa only[Int.toNat_of_nonneg h0] using this
theorem Fq {z:Int}(h0:0≤z)(h1:z < 256)(w:World):Calls Tryz.prog 150 #[.int .u8 z] w fun e w'=>e= .returned (.int .i64 (Ls z))∧w'=w:=by
 have h:=afL h0 h1
 have hr: -128≤Ls z∧Ls z≤127:=by
  unfold Ls
  split <;> omega
 obtain⟨h2,h3⟩:=hr
 go_enter Tryz.func150,Tryz.ntmps150
 go_wp2
 go_ret
 exact⟨rfl,rfl⟩
def Ext (V:List Value):List Nat→Nat→Int→Int→Nat→Int→Int→Prop
 |[],a,d,n,a',d',n'=>a=a'∧d=d'∧n=n'
 |c::l,a,d,n,a',d',n'=>
  (c=100∧∃z,V[a]? =some (.int .u8 z)∧0≤z∧z < 256∧Ext V l (a+1) (Ls z) n a' d' n')∨
  (c=101∧∃z,V[a]? =some (.int .u8 z)∧0≤z∧z < 256∧Ext V l (a+1) d (Ls z) a' d' n')∨
  (c=110∧∃z,V[a]? =some (.int .u8 z)∧0≤z∧z < 256∧Ext V l (a+1) d z a' d' n')∨
  (c=119∧∃z y,V[a]? =some (.int .u8 z)∧0≤z∧z < 256∧V[a+1]? =some (.int .u8 y)∧0≤y∧y < 256∧Ext V l (a+2) d (z+y * 256) a' d' n')
structure rQ (w W:World)(bx k:Nat)(s:ByteArray)(pos:Nat)(A:Option Addr)(N c at':Nat)(pv e0 e1 e2 e3 e4 e5:Value)(d n:Int)(V:List Value):Prop where
 bk:Bk W bx 103 (gX A N c at' pv e0 e1 e2 e3 e4 e5 d n)
 it:W.heap[k]? =some (.stringIter s pos)
 gr:w.grownBy W (some bx)
 row:Rd W (fun i=>i≠bx∧i < w.heap.size) A V
section
variable {w W W':World} {bx k:Nat} {s:ByteArray} {pos:Nat} {A:Option Addr} {N c at':Nat} {pv e0 e1 e2 e3 e4 e5:Value} {d n:Int} {V:List Value}
theorem iJ {row:Option Nat}{X Y Z:World}(h:X.grownBy Y row)(h':Y.grownBy Z row):X.grownBy Z row:=⟨h'.os.trans h.os,h'.tape.trans h.tape,h'.output.trans h.output,zt h.size h'.size,fun k hk hne=>(h'.block k (zq hk h.size) hne).trans (h.block k hk hne)⟩
theorem rQ.take (h:rQ w W bx k s pos A N c at' pv e0 e1 e2 e3 e4 e5 d n V){at2:Nat}{d' n':Int}(hb:Bk W' bx 103 (gX A N c at2 pv e0 e1 e2 e3 e4 e5 d' n'))(hg:W.grownBy W' (some bx)):rQ w W' bx k s pos A N c at2 pv e0 e1 e2 e3 e4 e5 d' n' V:=by
 refine⟨hb,?_,iJ h.gr hg,h.row.grown hg fun i _ hi e=>hi.1 (zx e)⟩
 have hk:k < W.heap.size:=(Array.getElem?_eq_some_iff.1 h.it).1
 refine (hg.block k hk fun e=>?_).trans h.it
 obtain rfl:=zx e
 have h1:=h.it
 have h2:W.heap[k]? =some (.cells _ 103 (0,0)):=h.bk
 rw[h2] at h1
 cases h1
theorem kz (W:World)(bx j:Nat)(u:Value):W.grownBy (W.setCell ⟨bx,j,none⟩ u) (some bx):=⟨rfl,rfl,rfl,by simp,fun k _ hne=>Below.heap_setCell W ⟨bx,j,none⟩ u k fun e=>hne (by rw[e])⟩
theorem rQ.awu (h:rQ w W bx k s pos A N c at' pv e0 e1 e2 e3 e4 e5 d n V)(z:Int):rQ w (W.setCell ⟨bx,9,none⟩ (.int .i64 z)) bx k s pos A N c at' pv e0 e1 e2 e3 e4 e5 z n V:=h.take (h.bk.set 9 (.int .i64 z)) (kz W bx 9 _)
theorem rQ.amh (h:rQ w W bx k s pos A N c at' pv e0 e1 e2 e3 e4 e5 d n V)(z:Int):rQ w (W.setCell ⟨bx,10,none⟩ (.int .i64 z)) bx k s pos A N c at' pv e0 e1 e2 e3 e4 e5 d z V:=h.take (h.bk.set 10 (.int .i64 z)) (kz W bx 10 _)
theorem rQ.next (h:rQ w W bx k s pos A N c at' pv e0 e1 e2 e3 e4 e5 d n V)(hk:w.heap.size≤k)(pos':Nat):rQ w (W.iterAt k s pos') bx k s pos' A N c at' pv e0 e1 e2 e3 e4 e5 d n V:=by
 have hlt:k < W.heap.size:=(Array.getElem?_eq_some_iff.1 h.it).1
 have hother:∀i,i≠k→(W.iterAt k s pos').heap[i]? =W.heap[i]?:=fun i hi=>by
  simp[World.iterAt,Array.getElem?_setIfInBounds_ne (Ne.symm hi)]
 have hbk:bx≠k:=fun e=>by
  subst e
  have h1:=h.it
  have h2:W.heap[bx]? =some (.cells _ 103 (0,0)):=h.bk
  rw[h2] at h1
  cases h1
 refine⟨(hother bx hbk).trans h.bk,by simp[World.iterAt,hlt],⟨h.gr.os,h.gr.tape,h.gr.output,by have:=h.gr.size;simpa [World.iterAt] using this,fun i hi hne=>(hother i (by omega)).trans (h.gr.block i hi hne)⟩,h.row.keep fun i _ hi=>hother i (by omega)⟩
end
theorem acY {ex:List Nat}{j:Nat}(hj:j < ex.length)(hx:∀x∈ex,x < 128):∃h:j < (aa ex).size,(((aa ex)[j]'h).toNat:Int)=(ex[j]:Nat)∧((aa ex)[j]'h).toNat < 128:=by
 have h:j < (aa ex).size:=by rw[aA];exact hj
 refine⟨h,?_⟩
 have e:(aa ex)[j]'h=UInt8.ofNat ex[j]:=by
  show (aa ex).data[j]'h=_
  simp[aa]
 have h1:=hx _ (List.getElem_mem hj)
 have e2:(UInt8.ofNat ex[j]).toNat=ex[j]:=by
  rw[UInt8.toNat_ofNat']
  omega
 rw[e,e2]
 exact⟨rfl,h1⟩
set_option maxRecDepth 100000 in
set_option maxHeartbeats 8000000 in
theorem Vs (ex:List Nat)(hex:∀x∈ex,x < 128)(bx:Nat)(A:Option Addr)(N c at':Nat)(pv e0 e1 e2 e3 e4 e5:Value)(d n:Int)(V:List Value)(a1:Nat)(d1 n1:Int)(w:World)(p:Nat→Prop)(hb:Bk w bx 103 (gX A N c at' pv e0 e1 e2 e3 e4 e5 d n))(hr:Rd w p A V)(hp:∀i,p i→i≠bx)(hN:V.length=N)(hm:(N:Int)≤1000)(hE:Ext V ex at' d n a1 d1 n1):
 Calls Tryz.prog 102 #[.pointer (some ⟨bx,0,none⟩),.string (aa ex)] w fun e w'=>e= .returned (.tuple #[])∧Bk w' bx 103 (gX A N c a1 pv e0 e1 e2 e3 e4 e5 d1 n1)∧w.grownBy w' (some bx):=by
 have CT:Hid (∀(a:Nat) (d n z:Int) W,Bk W bx 103 (gX A N c a pv e0 e1 e2 e3 e4 e5 d n)→Rd W (fun i=>i≠bx∧i < w.heap.size) A V→V[a]? =some (.int .u8 z)→Calls Tryz.prog 103 #[.pointer (some ⟨bx,0,none⟩)] W fun e w'=>e= .returned (.int .u8 z)∧Bk w' bx 103 (gX A N c (a+1) pv e0 e1 e2 e3 e4 e5 d n)∧W.grownBy w' (some bx)):=fun a d n z W h1 h2 h3=>Am bx A N c a pv e0 e1 e2 e3 e4 e5 d n V z W _ h1 h2 (fun i hi=>hi.1) h3 hN hm
 have CS:Hid (∀z W,0≤z→z < 256→Calls Tryz.prog 150 #[.int .u8 z] W fun e w'=>e= .returned (.int .i64 (Ls z))∧w'=W):=fun z W h0 h1=>Fq h0 h1 W
 have HE:=zz hE
 have HX:=zz hex
 have HB:=zz hb
 have HR:=zz (show Rd w (fun i=>i≠bx∧i < w.heap.size) A V from hr.mono fun i hi hpi=>⟨hp i hpi,hi⟩)
 clear hr hp hN hb hE hex
 go_enter Tryz.func102,Tryz.ntmps102
 go_wp2
 have hk0:=World.iter_heap w (aa ex) 0
 have H0:Hid (rQ w (w.iter (aa ex) 0) bx w.heap.size (aa ex) 0 A N c at' pv e0 e1 e2 e3 e4 e5 d n V):=
  ⟨HB.out.alloc _,hk0,World.grownBy_alloc w _ _,HR.out.after ((zo _ _).alloc (zu _) _)⟩
 generalize w.iter (aa ex) 0=W0 at H0 ⊢
 clear hk0
 go_loopw [5] (fun _ wr=>∃(j a:Nat) (d n:Int),j≤ex.length∧Hid (Ext V (ex.drop j) a d n a1 d1 n1)∧Hid (rQ w wr bx w.heap.size (aa ex) j A N c a pv e0 e1 e2 e3 e4 e5 d n V)) (fun _ wr=>ex.length - wr.iterPos w.heap.size)
 case atStart=>exact⟨0,at',d,n,Nat.zero_le _,HE.out,H0.out⟩
 case round=>
  obtain⟨j,a,d,n,hj,he,hw⟩:=hrel
  clear H0 HE HB HR
  have hmu:wr.iterPos w.heap.size=j:=by simp[World.iterPos,hw.out.it]
  by_cases hlt:j < ex.length
  ·obtain⟨hs,hg,h128⟩:=acY hlt HX.out
   have hnext:∀ty,(Instr.next (.pointer (some ⟨w.heap.size,0,none⟩)) true ty).run Tryz.prog wr= .ok (.tuple #[.bool true,.int .i64 j,.int .i32 (ex[j]:Nat)]) (wr.iterAt w.heap.size (aa ex) (j+1)):=fun ty=>by
    rw[Lib.run_next_ascii_at wr w.heap.size (aa ex) j ty hw.out.it hs h128,hg]
   have H1:=zz (hw.out.next (zu _) (j+1))
   have hd:ex.drop j=ex[j]::ex.drop (j+1):=List.drop_eq_getElem_cons hlt
   have KE:=he.out
   rw[hd] at KE
   clear hd hs hg h128 he hw
   generalize ex[j]=l at hnext KE
   generalize wr.iterAt w.heap.size (aa ex) (j+1)=W1 at hnext H1
   rcases KE with⟨rfl,z,hz,h0,h1,hE⟩ | ⟨rfl,z,hz,h0,h1,hE⟩ | ⟨rfl,z,hz,h0,h1,hE⟩ | ⟨rfl,z,y,hz,h0,h1,hy,h2,h3,hE⟩
   ·have HE:=zz hE
    have CTz:=zz (CT.out a d n z W1 H1.out.bk H1.out.row hz)
    have CSz:=zz (fun W=>CS.out z W h0 h1)
    clear hE hz
    go_wp2_with (first
     |(go_at_call 103;refine CTz.out.mono ?_;rintro e w2 ⟨rfl,hb2,hg2⟩;have H2:=zz (H1.out.take hb2 hg2);have x9:=hb2.cell 9 rfl;have f9:=hb2.frozen 9;clear hb2 hg2)
     |(go_at_call 150;refine (CSz.out _).mono ?_;rintro e w3 ⟨rfl,rfl⟩))
    have H3:=zz (H2.out.awu (Ls z))
    have Nn:(w3.setCell ⟨bx,9,none⟩ (.int .i64 (Ls z))).iterPos w.heap.size=j+1:=by simp[World.iterPos,H3.out.it]
    go_roundw
    case rel=>exact⟨j+1,_,_,_,hlt,HE.out,H3.out⟩
    case measure=>rw[hmu,Nn];omega
   ·have HE:=zz hE
    have CTz:=zz (CT.out a d n z W1 H1.out.bk H1.out.row hz)
    have CSz:=zz (fun W=>CS.out z W h0 h1)
    clear hE hz
    go_wp2_with (first
     |(go_at_call 103;refine CTz.out.mono ?_;rintro e w2 ⟨rfl,hb2,hg2⟩;have H2:=zz (H1.out.take hb2 hg2);have x10:=hb2.cell 10 rfl;have f10:=hb2.frozen 10;clear hb2 hg2)
     |(go_at_call 150;refine (CSz.out _).mono ?_;rintro e w3 ⟨rfl,rfl⟩))
    have H3:=zz (H2.out.amh (Ls z))
    have Nn:(w3.setCell ⟨bx,10,none⟩ (.int .i64 (Ls z))).iterPos w.heap.size=j+1:=by simp[World.iterPos,H3.out.it]
    go_roundw
    case rel=>exact⟨j+1,_,_,_,hlt,HE.out,H3.out⟩
    case measure=>rw[hmu,Nn];omega
   ·have HE:=zz hE
    have CTz:=zz (CT.out a d n z W1 H1.out.bk H1.out.row hz)
    clear hE hz
    go_wp2_with (go_at_call 103;refine CTz.out.mono ?_;rintro e w2 ⟨rfl,hb2,hg2⟩;have H2:=zz (H1.out.take hb2 hg2);have x10:=hb2.cell 10 rfl;have f10:=hb2.frozen 10;clear hb2 hg2)
    have H3:=zz (H2.out.amh z)
    have Nn:(w2.setCell ⟨bx,10,none⟩ (.int .i64 z)).iterPos w.heap.size=j+1:=by simp[World.iterPos,H3.out.it]
    go_roundw
    case rel=>exact⟨j+1,_,_,_,hlt,HE.out,H3.out⟩
    case measure=>rw[hmu,Nn];omega
   ·have HE:=zz hE
    have CTz:=zz (CT.out a d n z W1 H1.out.bk H1.out.row hz)
    have CTy:=zz (fun W b r=>CT.out (a+1) d n y W b r hy)
    clear hE hz hy
    go_wp2_with (first
     |(go_at_call 103;refine (CTy.out _ H2.out.bk H2.out.row).mono ?_;rintro e w3 ⟨rfl,hb2,hg2⟩;have H3:=zz (H2.out.take hb2 hg2);have x10:=hb2.cell 10 rfl;have f10:=hb2.frozen 10;clear hb2 hg2)
     |(go_at_call 103;refine CTz.out.mono ?_;rintro e w2 ⟨rfl,hb2,hg2⟩;have H2:=zz (H1.out.take hb2 hg2);clear hb2 hg2))
    have H4:=zz (H3.out.amh (z+y * 256))
    have Nn:(w3.setCell ⟨bx,10,none⟩ (.int .i64 (z+y * 256))).iterPos w.heap.size=j+1:=by simp[World.iterPos,H4.out.it]
    go_roundw
    case rel=>exact⟨j+1,_,_,_,hlt,HE.out,H4.out⟩
    case measure=>rw[hmu,Nn];omega
  ·have hnext:∀ty,(Instr.next (.pointer (some ⟨w.heap.size,0,none⟩)) true ty).run Tryz.prog wr= .ok (.tuple #[.bool false]) wr:=fun ty=>Lib.run_next_end_at wr w.heap.size (aa ex) j ty hw.out.it (by rw[aA];exact hlt)
   have KE:=he.out
   rw[List.drop_eq_nil_of_le (by omega)] at KE
   obtain⟨rfl,rfl,rfl⟩:=KE
   go_wp2
   go_end0
   exact⟨rfl,hw.out.bk,hw.out.gr⟩
end Go.Proofs.YtceaodnohnekkaaGreatDoor
namespace Go.Proofs.YtceaodnohnekkaaGreatDoor.Ex
open Go.RowKit
def u8V (l:List Nat):List Value:=l.map fun (c:Nat)=>Value.int .u8 (c:Int)
def af9:List Nat→AV
 |[]=>.aX
 |l=>.slice 0 0 0 l.length none
def af8:List Nat→AW
 |[]=>⟨1,[],[],bC⟩
 |l=>⟨1,[(0,.cells (SS l) 5 (some 1))],[],bC⟩
theorem Ol (m:Nat):∀l:List Nat,oks m (SS l)
 |[]=>trivial
 |_::l=>⟨trivial,Ol m l⟩
theorem Om:∀l:List Nat,(SS l).length=l.length
 |[]=>rfl
 |_::l=>by simp only[SS,List.length_cons,Om l]
theorem af6 {w0 w:World}(hG:gJ w0)(hb0:Below w0.heap.size w0 w){l:List Nat}{A:Option Addr}{c:Nat}(hA:w.ownsRow w0.heap.size 5 1 (.slice A l.length c) l.length (u8V l))(hn:l=[]→A=none∧c=0):
 ∃ρ,aO w0 ρ (af8 l) w∧(af9 l).ok (af8 l).nx∧cv ρ (af9 l)= .slice A l.length c:=by
 cases l with
 |nil=>
  obtain⟨rfl,rfl⟩:=hn rfl
  exact⟨iy,⟨hb0,fun b k hb=>(by cases hb),fun b b' k k' hb=>(by cases hb),fun b k hb=>(by cases hb),List.nodup_nil,hG⟩,trivial,rfl⟩
 |cons a l=>
  rcases hA.2 with⟨_,h0⟩ | ⟨q,cap,cur,hv,hB,hh,h1,h2,h3,h4⟩
  ·cases h0
  ·obtain⟨rfl,rfl⟩:A=some ⟨q,0,none⟩∧c=cap:=by
    injection hv with a1 a2 a3
    exact⟨a1,a3⟩
   let ρ:Env:=⟨fun _=>q,fun _=>c,fun _=>(⟨0,0,none⟩,0)⟩
   have hbl:∀b kk,au b (af8 (a::l)).bl=some kk→b=0∧kk= .cells (SS (a::l)) 5 (some 1):=fun b kk hb=>by
    by_cases hb0:b=0
    ·subst hb0
     exact⟨rfl,(zx (hb.symm.trans (aC _ _ _)))⟩
    ·have:=hb.symm.trans (aI _ _ fun e=>hb0 e.symm)
     cases this
   refine⟨ρ,⟨hb0,fun b kk hb=>?_,fun b b' kk kk' h1 h2 _=>?_,fun b kk hb=>?_,List.nodup_cons.2 ⟨List.not_mem_nil,List.nodup_nil⟩,hG⟩,Nat.zero_lt_one,?_⟩
   ·obtain⟨rfl,rfl⟩:=hbl b kk hb
    exact⟨Nat.zero_lt_one,Ol _ _,hB,lt_of_heap hh⟩
   ·rw[(hbl b kk h1).1,(hbl b' kk' h2).1]
   ·obtain⟨rfl,rfl⟩:=hbl b kk hb
    refine⟨(a::l).length,cur,hh,h1,h2,h3,?_,?_⟩
    ·rw[Om,Nat.mul_one]
    ·rw[h4];exact (vz ρ (a::l)).symm
   ·rfl
def LM:List Nat→Nat
 |[203]=>1
 |[237]=>2
 |[221]=>3
 |[253]=>4
 |[221,203]=>5
 |[253,203]=>6
 |_=>0
def sD:List (List Nat):=[[],[203],[237],[221],[253],[221,203],[253,203]]
def aie:Option (AV×AW)→Option Nat
 |some (.tuple [.int .i64 (.ofNat p),.bool true],W)=>match W.az with
  |[]=>some p
  |_=>none
 |_=>none
noncomputable def pgB (l:List Nat):Bool:=nq (aie (aj EN 101 [af9 l] (af8 l))) (LM l)
theorem awG:pgB []=true:=by kernel_rfl
theorem awF:pgB [203]=true:=by kernel_rfl
theorem awE:pgB [237]=true:=by kernel_rfl
theorem awD:pgB [221]=true:=by kernel_rfl
theorem awC:pgB [253]=true:=by kernel_rfl
theorem awz:pgB [221,203]=true:=by kernel_rfl
theorem awy:pgB [253,203]=true:=by kernel_rfl
theorem amD {l:List Nat}(h:l∈sD):pgB l=true:=by
 simp only[sD,List.mem_cons,List.not_mem_nil,or_false] at h
 rcases h with rfl | rfl | rfl | rfl | rfl | rfl | rfl
 ·exact awG
 ·exact awF
 ·exact awE
 ·exact awD
 ·exact awC
 ·exact awz
 ·exact awy
theorem LP {w0 w:World}(hG:gJ w0)(hb0:Below w0.heap.size w0 w){l:List Nat}(hl:l∈sD){A:Option Addr}{c:Nat}(hA:w.ownsRow w0.heap.size 5 1 (.slice A l.length c) l.length (u8V l))(hn:l=[]→A=none∧c=0):
 Calls Tryz.prog 101 #[.slice A l.length c] w fun e w'=>e= .returned (.tuple #[.int .i64 (LM l:Nat),.bool true])∧Below w.heap.size w w':=by
 obtain⟨ρ,hW,hok,hv⟩:=af6 hG hb0 hA hn
 have h:=aiw (amD hl)
 unfold aie at h
 split at h
 case h_2=>cases h
 case h_1 p W' hq=>
 split at h
 case h_2=>cases h
 case h_1 hm=>
 obtain rfl:=zx h
 obtain⟨_,_,q3⟩:=bD gN mg _ _ _ _ _ hq
 have hc:=q3 w0 ρ w ⟨hok,trivial⟩ hW
 have ea:(aG ρ [af9 l]).toArray=#[.slice A l.length c]:=by
  simp only[aG,hv]
 rw[ea] at hc
 refine hc.mono ?_
 rintro e w' ⟨ρ',rfl,hP,_⟩
 exact⟨rfl,hP.ib hm⟩
end Go.Proofs.YtceaodnohnekkaaGreatDoor.Ex
namespace Go.Proofs.YtceaodnohnekkaaGreatDoor
open Go.RowKit
def pK (v:Option Vr)(x:Int):Bool:=match v with
 |none=>decide (x=0)
 |some v=>qU v.2.1 v.2.2 x
theorem oK (v:Option Vr)(l:List ay)(x:Int):(o9 v l x).length=l.length:=by
 unfold o9
 split
 ·rfl
 ·exact uq _ _ _
set_option maxHeartbeats 4000000 in
theorem Zt (B r:Nat)(s:ByteArray)(A:Option Addr)(n c:Nat)(l:List ay)(w:World)(f:Value)(k:Nat)(lo hi x:Int)(b1 b2:Nat)(o:ay)(hf:f= .func (.func 201) #[] #[.pointer (some ⟨b1,0,none⟩),.pointer (some ⟨b2,0,none⟩)])(h1:w.cell? ⟨b1,0,none⟩=some (.int .i64 lo))(h2:w.cell? ⟨b2,0,none⟩=some (.int .i64 hi))(hb1:b1 < B∨(l≠[]→∀a,A=some a→a.block≠b1))(hb2:b2 < B∨(l≠[]→∀a,A=some a→a.block≠b2))
 (hB:B≤w.heap.size) (hk:l[k]? =some o) (hn:n=l.length) (hm:l.length≤3) (hr:Rest B r s true A n c l w) (hin:qU lo hi x=true):
 Calls Tryz.prog 80 #[.agg #[.int .i64 (k:Int),f],.bool true,.int .i64 x,.pointer (some ⟨r,0,none⟩)] w fun e w'=>e= .returned (.bool true)∧Rest B r s true A n c (fO l k x) w'∧Below B w w'∧(∀i,i < w.heap.size→(l≠[]→∀a,A=some a→a.block≠i)→w'.heap[i]? =w.heap[i]?):=by
 subst hf
 have HB:Hid (Below w.heap.size w (w.alloc (.cells #[.int .i64 (k:Int),.func (.func 201) #[] #[.pointer (some ⟨b1,0,none⟩),.pointer (some ⟨b2,0,none⟩)]] 146))):=(zo _ _).alloc (zu _) _
 have HR:Hid (Rest B r s true A n c l (w.alloc (.cells #[.int .i64 (k:Int),.func (.func 201) #[] #[.pointer (some ⟨b1,0,none⟩),.pointer (some ⟨b2,0,none⟩)]] 146))∧Below B w (w.alloc (.cells #[.int .i64 (k:Int),.func (.func 201) #[] #[.pointer (some ⟨b1,0,none⟩),.pointer (some ⟨b2,0,none⟩)]] 146))):=⟨⟨hr.1.alloc _,hr.2.1.after HB.out,hr.2.2⟩,HB.out.mono hB⟩
 have HV:Hid (Bk (w.alloc (.cells #[.int .i64 (k:Int),.func (.func 201) #[] #[.pointer (some ⟨b1,0,none⟩),.pointer (some ⟨b2,0,none⟩)]] 146)) w.heap.size 146 [.int .i64 (k:Int),.func (.func 201) #[] #[.pointer (some ⟨b1,0,none⟩),.pointer (some ⟨b2,0,none⟩)]]):=Bk.new w 146 [.int .i64 (k:Int),.func (.func 201) #[] #[.pointer (some ⟨b1,0,none⟩),.pointer (some ⟨b2,0,none⟩)]]
 have hlt1:=lt_of_cell h1
 have hlt2:=lt_of_cell h2
 have g1:=eB HB.out h1
 have g2:=eB HB.out h2
 generalize hW:(w.alloc (.cells #[.int .i64 (k:Int),.func (.func 201) #[] #[.pointer (some ⟨b1,0,none⟩),.pointer (some ⟨b2,0,none⟩)]] 146))=W0 at HB HR HV g1 g2
 have hs0:W0.heap.size=w.heap.size+1:=by rw[← hW];simp
 obtain⟨q,off,rfl,hq,c0,c1,c2,fr2,hset⟩:=HR.out.1.2.1.cells hk
 have hl0:l≠[]:=fun e=>by rw[e] at hk;cases hk
 have hqr:q≠r:=hr.2.2.2 hl0 _ rfl
 have as8:q≠b1:=by
  rcases hb1 with h | h
  ·omega
  ·exact h hl0 _ rfl
 have as7:q≠b2:=by
  rcases hb2 with h | h
  ·omega
  ·exact h hl0 _ rfl
 have hqw:q≠w.heap.size:=by
  have:=hr.2.1 hl0
  obtain⟨q',off',cur,T,hA,_,hh,_⟩:=this
  have e:q=q':=by
   have:=zx hA
   injection this
  have:=gU hh
  omega
 have g0:=HR.out.1.1.cell 0 rfl
 have g3:=HR.out.1.1.cell 1 rfl
 have v0:=HV.out.cell 0 rfl
 have v1:=HV.out.cell 1 rfl
 have hkn:k < n:=by rw[hn];exact (List.getElem?_eq_some_iff.1 hk).1
 have hn3:(n:Int)≤3:=by omega
 obtain⟨W1,hW1⟩:∃W1,W0.setCell ⟨q,off+k * 3+2,none⟩ (.int .i64 x)=W1:=⟨_,rfl⟩
 have HR1:Hid (Rest B r s true (some ⟨q,off,none⟩) n c (fO l k x) W1∧Below B w W1):=by
  have e:fO l k x=l.set k (o.1,o.2.1,x):=by
   unfold fO
   rw[hk]
  rw[e,← hW1]
  refine⟨⟨HR.out.1.1.other (by show r≠q;exact Ne.symm hqr) _,hset x,HR.out.1.2.2.1,fun _ a ha=>?_⟩,HR.out.2.setCell hq _⟩
  obtain rfl:=zx ha
  exact hqr
 have C:Hid (∀W,Below W1.heap.size W1 W→Calls Tryz.prog 201 #[.int .i64 x,.pointer (some ⟨b1,0,none⟩),.pointer (some ⟨b2,0,none⟩)] W fun e w'=>e= .returned (.bool true)∧Below W.heap.size W w'):=fun W hb=>by
  have k1:W1.cell? ⟨b1,0,none⟩=some (.int .i64 lo):=by
   rw[← hW1,World.cell?_of_block (w:=W0) (Below.heap_setCell _ _ _ b1 (Ne.symm as8))]
   exact g1
  have k2:W1.cell? ⟨b2,0,none⟩=some (.int .i64 hi):=by
   rw[← hW1,World.cell?_of_block (w:=W0) (Below.heap_setCell _ _ _ b2 (Ne.symm as7))]
   exact g2
  have:=RO lo hi x b1 b2 W (eB hb k1) (eB hb k2)
  rwa [hin] at this
 have v1':W1.cell? ⟨w.heap.size,1,none⟩=some (.func (.func 201) #[] #[.pointer (some ⟨b1,0,none⟩),.pointer (some ⟨b2,0,none⟩)]):=by
  rw[← hW1,World.cell?_of_block (w:=W0) (Below.heap_setCell _ _ _ w.heap.size (Ne.symm hqw))]
  exact v1
 have HBB:=zz hB
 have HKK:Hid (∀w',Below W1.heap.size W1 w'→∀i,i < w.heap.size→(l≠[]→∀a,some (⟨q,off,none⟩:Addr)=some a→a.block≠i)→w'.heap[i]? =w.heap[i]?):=fun w' hb i hi hne=>by
  have hqi:q≠i:=hne hl0 _ rfl
  have e1:W1.heap[i]? =w.heap[i]?:=by
   rw[← hW1]
   exact (Below.heap_setCell _ _ _ i (Ne.symm hqi)).trans (by rw[← hW];exact Below.heap_alloc w _ i hi)
  have hs:i < W1.heap.size:=by rw[← hW1];simp;omega
  exact (hb.block i hs).trans e1
 clear hset hk hn hm hr hl0 h1 h2 hlt1 hlt2 hb1 hb2 hB g1 g2 hs0 hin c0 c1 hqr as8 as7 hqw v1
 go_enter Tryz.func80,Tryz.ntmps80
 subst hW1
 subst hW
 go_wp2_with (go_at_call 201;refine (C.out _ (zo _ _)).mono ?_;rintro e w2 ⟨rfl,hb⟩;have HB2:=zz hb;clear hb)
 go_ret
 exact⟨rfl,⟨HR1.out.1.1.after HB2.out,HR1.out.1.2.1.after HB2.out,HR1.out.1.2.2⟩,HR1.out.2.trans (HB2.out.mono (zt HBB.out HR1.out.2.size)),HKK.out _ HB2.out⟩
theorem Zu (B r:Nat)(s:ByteArray)(A:Option Addr)(n c:Nat)(l:List ay)(w:World)(idx:Int)(f:Value)(hB:B≤w.heap.size)(h:Rest B r s true A n c l w):
 Calls Tryz.prog 80 #[.agg #[.int .i64 idx,f],.bool false,.int .i64 0,.pointer (some ⟨r,0,none⟩)] w fun e w'=>e= .returned (.bool true)∧Rest B r s true A n c l w'∧Below B w w'∧(∀k,k < w.heap.size→(l≠[]→∀a,A=some a→a.block≠k)→w'.heap[k]? =w.heap[k]?):=by
 have HB:Hid (Below w.heap.size w (w.alloc (.cells #[.int .i64 idx,f] 146))):=(zo _ _).alloc (zu _) _
 have HR:Hid (Rest B r s true A n c l (w.alloc (.cells #[.int .i64 idx,f] 146))∧Below B w (w.alloc (.cells #[.int .i64 idx,f] 146))∧(∀k,k < w.heap.size→(l≠[]→∀a,A=some a→a.block≠k)→(w.alloc (.cells #[.int .i64 idx,f] 146)).heap[k]? =w.heap[k]?)):=⟨⟨h.1.alloc _,h.2.1.after HB.out,h.2.2⟩,HB.out.mono hB,fun k hk _=>Below.heap_alloc w _ k hk⟩
 clear h hB
 go_enter Tryz.func80,Tryz.ntmps80
 go_wp2
 go_ret
 exact⟨rfl,HR.out⟩
theorem af4 (B r:Nat)(s:ByteArray)(A:Option Addr)(n c:Nat)(l:List ay)(w:World)(f:Value)(idx x:Int)(there:Bool)(v:Option Vr)(hv:iY w v idx f there)(hB:B≤w.heap.size)(hl:∀y,v=some y→y.1 < l.length)(hn:n=l.length)(hm:l.length≤3)(hr:Rest B r s true A n c l w)(hx:pK v x=true)
 (hb:∀y b1 b2,v=some y→f= .func (.func 201) #[] #[.pointer (some ⟨b1,0,none⟩),.pointer (some ⟨b2,0,none⟩)]→(b1 < B∨(l≠[]→∀a,A=some a→a.block≠b1))∧(b2 < B∨(l≠[]→∀a,A=some a→a.block≠b2))):
 Calls Tryz.prog 80 #[.agg #[.int .i64 idx,f],.bool there,.int .i64 x,.pointer (some ⟨r,0,none⟩)] w fun e w'=>e= .returned (.bool true)∧Rest B r s true A n c (o9 v l x) w'∧Below B w w'∧(∀k,k < w.heap.size→(l≠[]→∀a,A=some a→a.block≠k)→w'.heap[k]? =w.heap[k]?):=by
 cases v with
 |none=>
  obtain rfl:there=false:=hv
  obtain rfl:x=0:=of_decide_eq_true hx
  exact Zu B r s A n c l w idx f hB hr
 |some y=>
  obtain⟨rfl,rfl,b1,b2,hf,h1,h2⟩:=hv
  have hy:=hl y rfl
  obtain⟨k1,k2⟩:=hb y b1 b2 rfl hf
  exact Zt B r s A n c l w f y.1 y.2.1 y.2.2 x b1 b2 l[y.1] hf h1 h2 k1 k2 hB (List.getElem?_eq_getElem hy) hn hm hr hx
set_option maxHeartbeats 4000000 in
theorem ab5 (n:Nat)(z:Int)(hz:z=(n:Int))(h0:1≤n)(hn:n≤1000)(w:World):
 Calls Tryz.prog 25 #[.slice none 0 0,.int .i64 z] w fun e w'=>∃G,e= .returned (.slice (some ⟨w.heap.size,0,none⟩) 0 G)∧w'.ownsRow w.heap.size 5 1 (.slice (some ⟨w.heap.size,0,none⟩) 0 G) 0 []∧Below w.heap.size w w':=by
 subst hz
 obtain⟨i,hi,hz,hsz,hby⟩:=info_parts jN.info
 have hrz:∀ty,(Builtin.append_ #[25,3] ty #[.slice none 0 0,.int .i64 (n:Int)]).run Tryz.prog w= .ok (.slice (some ⟨w.heap.size,0,none⟩) n (grownCap w n 0 5)) (w.drew.alloc (.cells (Builtin.zeroCells (Value.int .u8 0).cells n++Builtin.zeroCells (Value.int .u8 0).cells (grownCap w n 0 5 - n)) 5)):=fun ty=>
  Lib.run_append_nil_zeros w _ _ ty _ i (.int .u8 0) .i64 .i64 jN.under Tryz.underlying3 hi hz n (by omega) (by omega) (by omega) (by rw[hby];omega)
 have hG:=grownCap_ge w n 0 5
 have hG2:=grownCap_le_maxLen w n 0 5 (by simp only[maxLen];omega)
 have hs:(Builtin.zeroCells (Value.int .u8 0).cells n++Builtin.zeroCells (Value.int .u8 0).cells (grownCap w n 0 5 - n)).size=grownCap w n 0 5 * 1:=by
  rw[Array.size_append,size_zeroCells,size_zeroCells]
  show n * 1+(_ - n) * 1=_
  omega
 generalize grownCap w n 0 5=G at hrz hG hG2 hs
 generalize (Builtin.zeroCells (Value.int .u8 0).cells n++Builtin.zeroCells (Value.int .u8 0).cells (G - n))=cur at hrz hs
 have HX:Hid ((w.drew.alloc (.cells cur 5)).ownsRow w.heap.size 5 1 (.slice (some ⟨w.heap.size,0,none⟩) 0 G) 0 []∧Below w.heap.size w (w.drew.alloc (.cells cur 5))):=
  zz ⟨World.ownsRow_made w.drew cur G (zu _) hG2 hs,(aM (zo _ _)).alloc (zu _) _⟩
 have h1:¬((n:Int) < 0):=by omega
 have h2:(0:Int) < (n:Int):=by omega
 have h3:(n:Int) > 0:=h2
 clear hi hz hsz hby hs
 go_enter Tryz.func25,Tryz.ntmps25
 go_wp2_with (at_builtin;refine Lib.wpList_append_run _ rfl _ _ _ _ rfl _ _ rfl rfl _ _ (hrz _) ?_)
 go_ret
 exact⟨G,rfl,HX.out.1,HX.out.2⟩
set_option maxHeartbeats 4000000 in
theorem NI (gs:Nat)(T:TypeId)(A1 A2:Option Addr)(n1 c1 n2 c2:Nat)(V1 V2:List Value)(w:World)(p1 p2:Nat→Prop)(hS:Bk w gs T [.slice A1 n1 c1,.slice A2 n2 c2])(h1:Rd w p1 A1 V1)(h2:Rd w p2 A2 V2)(hl1:V1.length=n1)(hl2:V2.length=n2)(o1:∀u∈V1,u.oneCell'=true)(o2:∀u∈V2,u.oneCell'=true)(h0:1≤n1)(hm1:n1≤500)(hm2:n2≤500):
 Calls Tryz.prog 8 #[.slice (some ⟨gs,0,none⟩) 2 2] w fun e w'=>∃A' c',e= .returned (.slice A' (n1+n2) c')∧n1+n2≤c'∧Rd w' (fun _=>True) A' (V1++V2)∧Below w.heap.size w w':=by
 have HGr:=zz (fun W z hz=>ab5 (n1+n2) z hz (by omega) (by omega) W)
 have x0:w.cell? ⟨gs,0,none⟩=some (.slice A1 n1 c1):=hS.cell 0 rfl
 have x1:w.cell? ⟨gs,1,none⟩=some (.slice A2 n2 c2):=hS.cell 1 rfl
 have HS:=zz hS
 have HR:=zz (zy h1 h2)
 have HL:=zz (zy hl1 (zy hl2 (zy o1 (zy o2 h0))))
 have i1:(n1:Int)≤500:=by omega
 have i2:(n2:Int)≤500:=by omega
 have i3:¬((n1:Int) < 0):=by omega
 have i4:¬((n1:Int)+(n2:Int) < 0):=by omega
 clear h1 h2 hl1 hl2 o1 o2 h0 hS hm1 hm2
 go_enter Tryz.func8,Tryz.ntmps8
 go_wp2
 refine wp_loop_rounds 3 ?_
 rw[rounds_succ]
 go_wp2
 rw[rounds_succ]
 go_wp2
 rw[rounds_succ]
 go_wp2_with (go_at_call 25;refine (HGr.out w _ (by simp)).mono ?_;rintro e w1 ⟨G,rfl,ho,hb⟩;have HO:=zz ho;have HB:=zz hb;have y0:w1.cell? ⟨gs,0,none⟩=some (.slice A1 n1 c1):=(HS.out.after hb).cell 0 rfl;clear ho hb)
 refine wp_loop_rounds 3 ?_
 rw[rounds_succ]
 have r1:=HR.out.1.after HB.out
 have hc1:=HO.out
 go_wp2_with (at_builtin;refine eY jN rfl (.tmp 31) (.tmp 32) rfl w.heap.size (.slice (some ⟨w.heap.size,0,none⟩) 0 G) 0 [] _ A1 n1 c1 V1 rfl rfl hc1 (by rw[HL.out.1];omega) r1 HL.out.2.2.1 (by simp only[maxLen];omega) (by omega) HB.out.size ?_;intro v2 w2 ho2 hg2 agY hz2;have k2:Bk w2 gs T [.slice A1 n1 c1,.slice A2 n2 c2]:=(hg2.block gs (HS.out.after HB.out).lt (fun e=>by have h1:=HS.out.lt;have h2:gs=w.heap.size:=zx e;omega)).trans (HS.out.after HB.out);have y1:w2.cell? ⟨gs,1,none⟩=some (.slice A2 n2 c2):=k2.cell 1 rfl;have r2:=zz ((((HR.out.2.mono (q:=fun i=>i < w.heap.size) fun i hi _=>hi).after HB.out)).grown hg2 fun i _ hi e=>by have h2:i=w.heap.size:=zx e;omega);have KW:=zz (zy ho2 (zy hg2 agY));have KB:=zz (HB.out.grown hg2 HB.out.size fun k e=>Nat.le_of_eq (zx e));clear ho2 hg2 agY hz2 k2)
 rw[rounds_succ]
 go_wp2_with (at_builtin;refine eY jN rfl (.tmp 31) (.tmp 32) rfl w.heap.size v2 (0+n1) ([]++V1) _ A2 n2 c2 V2 rfl rfl KW.out.1 (by rw[HL.out.2.1];omega) r2.out HL.out.2.2.2.1 (by simp only[maxLen];omega) (by omega) KB.out.size ?_;intro v3 w3 ho3 hg3 atA hz3;have KW3:=zz (zy ho3 (zy hg3 atA));clear ho3 hg3 atA hz3)
 rw[rounds_succ]
 have KF:Hid (∃A' c',v3= .slice A' (n1+n2) c'∧n1+n2≤c'∧Rd w3 (fun _=>True) A' (V1++V2)∧Below w.heap.size w w3):=by
  have ho:=KW3.out.1
  rw[Nat.zero_add,List.nil_append] at ho
  obtain⟨A',c',rfl,hc,_⟩:=jB ho
  refine zz ⟨A',c',rfl,hc,Rd.sI ho fun _ _ _=>trivial,KB.out.grown KW3.out.2.1 KB.out.size fun k e=>?_⟩
  rcases KW.out.2.2 with h | h
  ·rw[h] at e
   exact Nat.le_of_eq (zx e)
  ·rw[h] at e
   have:=HB.out.size
   rw[← Option.some.inj e]
   exact this
 go_wp2
 go_ret
 obtain⟨A',c',rfl,h1,h2,h3⟩:=KF.out
 exact⟨A',c',rfl,h1,h2,h3⟩
theorem uh {P:Program}{o:Oper}{a:Act}{w:World}{K:Act→World→Prop}{Q:Exit→Act→World→Prop}(ty:TypeId)(x y:Operand)(ho:o.op= .store ty x y)
 (g off:Nat) (cells:List Value) (hx:a.eval x= .pointer (some ⟨g,off,none⟩)) (hy:a.eval y= .agg cells.toArray)
 (t:TypeId) (old:List Value) (hg:Bk w g t old) (hi:(P.info? ty).map (·.size)=some cells.length) (hl:off+cells.length≤old.length) (h1:∀v∈cells,v.oneCell'=true)
 (h:∀w',Bk w' g t (old.take off++cells++old.drop (off+cells.length))→w.grownBy w' (some g)→K (a.put o.dst undef) w'):o.wp P a w K Q:=by
 have hst:=run_storeCells_at P g off t cells 0 old.toArray w hg (by simpa using hl) h1
 rw[Nat.add_zero] at hst
 have hsv:(storeVar ty ⟨g,off,none⟩ (.agg cells.toArray)).run P w= .ok () (w.setRow g (old.take off++cells++old.drop (off+cells.length)).toArray):=by
  cases hq:P.info? ty with
  |none=>simp[hq] at hi
  |some i=>
   have hs:cells.length=i.size:=by simp[hq] at hi;omega
   simp[storeVar,sizeOf,typeInfo,hq,Value.cells,hs] at hst ⊢
   exact hst
 unfold Oper.wp execOp
 simp only[ho,hx,hy,Instr.storeAt,Instr.sureAddr,Sem.run_bind,Sem.run_pure,Result.andThen_ok,hsv]
 exact h _ (setRow_heap w g _ _ t (0,0) hg) ⟨rfl,rfl,rfl,by simp,fun k hk hkg=>setRow_other w g k _ fun e=>hkg (by rw[e])⟩
theorem iR {P:Program}{ops:Array Oper}{rest:List Oper}{o:Oper}{a:Act}{w:World}{Q:Exit→Act→World→Prop}(hgd:o.guard=none)(ty:TypeId)(x y:Operand)(ho:o.op= .store ty x y)
 (g off:Nat) (cells:List Value) (hx:a.eval x= .pointer (some ⟨g,off,none⟩)) (hy:a.eval y= .agg cells.toArray)
 (t:TypeId) (old:List Value) (hg:Bk w g t old) (hi:(P.info? ty).map (·.size)=some cells.length) (hl:off+cells.length≤old.length) (h1:∀v∈cells,v.oneCell'=true)
 (h:∀w',Bk w' g t (old.take off++cells++old.drop (off+cells.length))→w.grownBy w' (some g)→wpList P ops Q rest (a.put o.dst undef) w'):wpList P ops Q (o::rest) a w:=
 wpList_plain hgd fun _ hK=>uh ty x y ho g off cells hx hy t old hg hi hl h1 fun w' h2 h3=>hK _ _ (h w' h2 h3)
theorem oZ {P:Program}{ops:Array Oper}{o:Oper}{a:Act}{w:World}{K:Act→World→Prop}{Q:Exit→Act→World→Prop}{F:Prop}(hgd:o.guard=none)(ty:TypeId)(x y:Operand)(ho:o.op= .store ty x y)
 (g off:Nat) (cells:List Value) (hx:a.eval x= .pointer (some ⟨g,off,none⟩)) (hy:a.eval y= .agg cells.toArray)
 (t:TypeId) (old:List Value) (hg:Bk w g t old) (hi:(P.info? ty).map (·.size)=some cells.length) (hl:off+cells.length≤old.length) (h1:∀v∈cells,v.oneCell'=true)
 (h:∀w',Bk w' g t (old.take off++cells++old.drop (off+cells.length))→w.grownBy w' (some g)→K (a.put o.dst undef) w'):
 if Region.wanted o (yielded ops a.tmps)=true then Oper.wp P o a w K Q else F:=by
 have hw:Region.wanted o (yielded ops a.tmps)=true:=by simp[Region.wanted,hgd]
 rw[if_pos hw]
 exact uh ty x y ho g off cells hx hy t old hg hi hl h1 h
set_option maxHeartbeats 4000000 in
theorem Us (a b c:Value)(w:World):CallsD Tryz.prog 50 #[a,b,c] .returning w fun e u' w'=>e= .returned (.tuple #[])∧u'= .returning∧w'=w:=by
 refine callsD_of_wpS Tryz.func50 rfl fun c₀ cs hu=>?_
 apply wpS_seq
 apply wpS_region
 simp[wpOpsS,go_sem,recoverD,hu,Tryz.ntmps50,Exit.thenS]
 have HU:=zz hu
 refine wpS_of_wp ?_
 have HQ:Hid (∀a',a'.defers=[]→bodyPostS Tryz.prog Tryz.f50 c₀ cs (fun e u' w'=>e=Ending.returned (Value.tuple #[])∧u'=FrameMode.returning∧w'=w) .normal a' (c₀::cs) w):=zz fun a' h=>by
  refine⟨h,.returning,?_,?_⟩
  ·cases c₀
   simp_all
  ·simp[results,Tryz.results50]
 generalize (bodyPostS Tryz.prog Tryz.f50 c₀ cs fun e u' w'=>e=Ending.returned (Value.tuple #[])∧u'=FrameMode.returning∧w'=w)=Q at HQ ⊢
 clear hu HU
 go_wp2
 exact HQ.out _ rfl
set_option maxHeartbeats 4000000 in
theorem AJ (s s':ByteArray)(A A':Option Addr)(l l':List ay)(n n' c c':Nat)(w:World)(p p':Nat→Prop)(hn:n=l.length)(hn':n'=l'.length)(hm:l.length≤1000)(hm':l'.length≤1000)(h:Rd w p A (bE l))(h':Rd w p' A' (bE l')):
 Calls Tryz.prog 11 #[.agg #[.string s,.slice A n c],.agg #[.string s',.slice A' n' c']] w fun e w'=>e= .returned (.bool (decide (s=s'∧l=l')))∧Below w.heap.size w w':=by
 have HA:Hid (Below w.heap.size w ((w.alloc (.cells #[.string s,.slice A n c] 24)).alloc (.cells #[.string s',.slice A' n' c'] 24))):=((zo _ _).alloc (zu _) _).alloc (by simp) _
 have fE:Hid (Bk ((w.alloc (.cells #[.string s,.slice A n c] 24)).alloc (.cells #[.string s',.slice A' n' c'] 24)) w.heap.size 24 [.string s,.slice A n c]):=
  (Bk.new w 24 [.string s,.slice A n c]).alloc _
 have kE:Hid (Bk ((w.alloc (.cells #[.string s,.slice A n c] 24)).alloc (.cells #[.string s',.slice A' n' c'] 24)) (w.heap.size+1) 24 [.string s',.slice A' n' c']):=by
  have:=Bk.new (w.alloc (.cells #[.string s,.slice A n c] 24)) 24 [.string s',.slice A' n' c']
  rwa [World.size_alloc] at this
 have hni:(n:Int)≤1000:=by omega
 have hni':(n':Int)≤1000:=by omega
 have HR:=zz (h.after (zo w.heap.size w))
 have HR':=zz (h'.after (zo w.heap.size w))
 have HN:=zz hn
 have HN':=zz hn'
 clear h h' hn hn' hm hm'
 by_cases hs:s=s'
 case neg=>
  have HX:Hid (false=decide (s=s'∧l=l')):=(decide_eq_false fun e=>hs e.1).symm
  have e1:=rX hs
  clear hs
  go_enter Tryz.func11,Tryz.ntmps11
  go_wp2
  generalize ((w.alloc (.cells #[.string s,.slice A n c] 24)).alloc (.cells #[.string s',.slice A' n' c'] 24))=W0 at HA fE kE ⊢
  have x0:=fE.out.cell 0 rfl
  have x1:=fE.out.cell 1 rfl
  have x2:=kE.out.cell 0 rfl
  have x3:=kE.out.cell 1 rfl
  go_wp2
  go_ret
  exact⟨aQ (by have:=HX.out;simpa using this),HA.out⟩
 subst hs
 have e1:(s.toList == s.toList)=true:=beq_self_eq_true _
 by_cases hl:n=n'
 case neg=>
  have HX:Hid (false=decide (s=s∧l=l')):=(decide_eq_false fun e=>hl (by
   have:=congrArg List.length e.2
   rw[HN.out,HN'.out,this])).symm
  have e2:((n:Int) == (n':Int))=false:=by
   rw[beq_eq_false_iff_ne]
   omega
  clear hl
  go_enter Tryz.func11,Tryz.ntmps11
  go_wp2
  generalize ((w.alloc (.cells #[.string s,.slice A n c] 24)).alloc (.cells #[.string s,.slice A' n' c'] 24))=W0 at HA fE kE ⊢
  have x0:=fE.out.cell 0 rfl
  have x1:=fE.out.cell 1 rfl
  have x2:=kE.out.cell 0 rfl
  have x3:=kE.out.cell 1 rfl
  go_wp2
  go_ret
  exact⟨aQ (by have:=HX.out;simpa using this),HA.out⟩
 subst hl
 go_enter Tryz.func11,Tryz.ntmps11
 go_wp2
 generalize ((w.alloc (.cells #[.string s,.slice A n c] 24)).alloc (.cells #[.string s,.slice A' n c'] 24))=W0 at HA fE kE ⊢
 have x0:=fE.out.cell 0 rfl
 have x1:=fE.out.cell 1 rfl
 have x2:=kE.out.cell 0 rfl
 have x3:=kE.out.cell 1 rfl
 go_wp2
 go_loopw [5] (fun v wr=>∃k:Nat,v= .int .i64 (k:Int)∧k≤n∧Hid (Below w.heap.size w wr∧Bk wr w.heap.size 24 [.string s,.slice A n c]∧Bk wr (w.heap.size+1) 24 [.string s,.slice A' n c'])∧Hid (∀(j:Nat),j < k→l[j]? =l'[j]?)) (fun v _=>n - (intOf v).toNat)
 case atStart=>exact⟨0,rfl,Nat.zero_le _,⟨HA.out,fE.out,kE.out⟩,fun j hj=>absurd hj (Nat.not_lt_zero _)⟩
 case round=>
  obtain⟨k,rfl,hk,hw,hr⟩:=hrel
  clear x0 x1 x2 x3
  have x1:=hw.out.2.1.cell 1 rfl
  have x3:=hw.out.2.2.cell 1 rfl
  by_cases hlt:k < n
  ·have hk1:k < l.length:=by rw[← HN.out];exact hlt
   have hk2:k < l'.length:=by rw[← HN'.out];exact hlt
   obtain⟨a,ha⟩:∃a,l[k]? =some a:=⟨_,List.getElem?_eq_getElem hk1⟩
   obtain⟨b,hb⟩:∃b,l'[k]? =some b:=⟨_,List.getElem?_eq_getElem hk2⟩
   obtain⟨q,off,rfl,_,c0,c1,c2⟩:=(HR.out.after hw.out.1).o3 ha
   obtain⟨q',off',rfl,_,d0,d1,d2⟩:=(HR'.out.after hw.out.1).o3 hb
   have HY:Hid (a≠b→false=decide (s=s∧l=l')):=fun hne=>(decide_eq_false fun e=>hne (by
    have h1:=e.2
    subst h1
    rw[ha] at hb
    exact zx hb)).symm
   have HZ:Hid (a=b→∀(j:Nat),j < k+1→l[j]? =l'[j]?):=fun hx j hj=>by
    by_cases e:j=k
    ·subst e
     rw[ha,hb,hx]
    ·exact hr.out j (by omega)
   clear ha hb
   obtain⟨a0,a1,a2⟩:=a
   obtain⟨b0,b1,b2⟩:=b
   simp only at c0 c1 c2 d0 d1 d2
   have F:Hid (((a0 == b0)=false∧¬((a0,a1,a2)=(b0,b1,b2)))∨((a0 == b0)=true∧(a1 == b1)=false∧¬((a0,a1,a2)=(b0,b1,b2)))∨((a0 == b0)=true∧(a1 == b1)=true∧(a2 == b2)=false∧¬((a0,a1,a2)=(b0,b1,b2)))∨((a0 == b0)=true∧(a1 == b1)=true∧(a2 == b2)=true∧((a0,a1,a2)=(b0,b1,b2)))):=by
    unfold Hid
    simp only[beq_iff_eq,beq_eq_false_iff_ne,Prod.mk.injEq]
    omega
   rcases F.out with⟨f0,hne⟩ | ⟨f0,f1,hne⟩ | ⟨f0,f1,f2,hne⟩ | ⟨f0,f1,f2,heq⟩ <;> clear F
   ·have HX:=zz (HY.out hne)
    clear HY HZ hne
    go_wp2
    go_quiet (fail)
    go_wp2
    go_ret
    exact⟨aQ HX.out,hw.out.1.trans (aU _ _ _)⟩
   ·have HX:=zz (HY.out hne)
    clear HY HZ hne
    go_wp2
    go_quiet (fail)
    go_wp2
    go_ret
    exact⟨aQ HX.out,hw.out.1.trans (aU _ _ _)⟩
   ·have HX:=zz (HY.out hne)
    clear HY HZ hne
    go_wp2
    go_quiet (fail)
    go_wp2
    go_ret
    exact⟨aQ HX.out,hw.out.1.trans (aU _ _ _)⟩
   ·have HX:=zz (HZ.out heq)
    clear HY HZ heq
    go_wp2
    go_quiet (fail)
    go_wp2
    go_roundw
    case rel=>exact⟨k+1,by go_num,by omega,⟨hw.out.1.trans (aU _ _ _),hw.out.2⟩,HX.out⟩
    case measure=>simp[intOf];omega
  ·have HX:Hid (true=decide (s=s∧l=l')):=(decide_eq_true ⟨rfl,ym (by rw[← HN.out,← HN'.out]) hr.out (by have:=HN.out;omega)⟩).symm
   go_wp2
   go_ret
   exact⟨aQ (by have:=HX.out;simpa using this),hw.out.1⟩
theorem Nt {l l':List UInt8}(hl:l.length=l'.length){k:Nat}(h:∀j,j < k→l[j]? =l'[j]?)(hk:l.length≤k):l=l':=by
 apply List.ext_getElem?
 intro j
 by_cases hj:j < k
 ·exact h j hj
 ·rw[List.getElem?_eq_none (by omega),List.getElem?_eq_none (by omega)]
theorem Vw (A A':Option Addr)(n n' c c':Nat)(w:World)(hn:n≠n'):
 Calls Tryz.prog 10 #[.slice A n c,.slice A' n' c'] w fun e w'=>e= .returned (.bool false)∧w=w':=by
 have h:(((n:Nat):Int) != (n':Int))=true:=by simp;omega
 clear hn
 go_enter Tryz.func10,Tryz.ntmps10
 go_wp2
 go_ret
 exact⟨rfl,rfl⟩
theorem Ns (A A':Option Addr)(l l':List UInt8)(c c':Nat)(w:World)(p p':Nat→Prop)(hl:l.length=l'.length)(hm:(l.length:Int)≤9223372036854775807)
 (h:Rd w p A (bs l)) (h':Rd w p' A' (bs l')):
 Calls Tryz.prog 10 #[.slice A l.length c,.slice A' l.length c'] w fun e w'=>e= .returned (.bool (decide (l=l')))∧∃m,w'=w.drewN m:=by
 obtain⟨n,hn⟩:∃n,l.length=n:=⟨_,rfl⟩
 have Hn:=zz hn
 have Hl:=zz hl
 rw[hn] at hm
 rw[hn]
 clear hn hl
 have h0:(((n:Nat):Int) != (n:Int))=false:=by simp
 go_enter Tryz.func10,Tryz.ntmps10
 go_wp2
 go_loopw [5,13] (fun _ v wr=>∃k:Nat,k≤n∧v= .int .i64 k∧Hid (∀j,j < k→l[j]? =l'[j]?)∧∃m,wr=w.drewN m) (fun _ v _=>n - (intOf v).toNat)
 case atStart=>exact⟨0,Nat.zero_le _,rfl,fun j hj=>absurd hj (Nat.not_lt_zero _),0,rfl⟩
 case round=>
  obtain⟨k,hk,rfl,hr,m,rfl⟩:=hrel
  by_cases hlt:k < n
  ·have hk1:k < l.length:=by rw[Hn.out];exact hlt
   have hk2:k < l'.length:=by rw[← Hl.out];exact hk1
   obtain⟨b,o,rfl,_,hc⟩:=h.byte hk1
   obtain⟨b',o',rfl,_,hc'⟩:=h'.byte hk2
   clear h h'
   by_cases he:l[k]=l'[k]
   ·have h1:((l[k].toNat:Int) != (l'[k].toNat:Int))=false:=by rw[he];simp
    have hr2:Hid (∀j,j < k+1→l[j]? =l'[j]?):=fun j hj=>by
     by_cases hjk:j=k
     ·subst hjk;rw[List.getElem?_eq_getElem hk1,List.getElem?_eq_getElem hk2,he]
     ·exact hr.out j (by omega)
    have HE:=zz he
    clear hr he
    go_wp2
    go_region
    all_goals go_wp2
    all_goals go_roundw
    case rel=>exact⟨k+1,by omega,by go_num,hr2,_,rfl⟩
    case measure=>simp[intOf];omega
   ·have h1:((l[k].toNat:Int) != (l'[k].toNat:Int))=true:=by
     simp only[bne_iff_ne,ne_eq]
     intro e
     exact he (UInt8.toNat_inj.1 (by omega))
    have hd:Hid (decide (l=l')=false):=by
     simp only[Hid,decide_eq_false_iff_not]
     intro e
     subst e
     exact he rfl
    clear hr he
    go_wp2
    go_region
    all_goals go_wp2
    all_goals go_ret
    all_goals exact⟨aQ hd.out.symm,_,rfl⟩
  ·go_wp2
   go_ret
   exact⟨aQ (by rw[Nt Hl.out hr.out (by rw[Hn.out];omega)];simp),_,rfl⟩
theorem Vx (A A':Option Addr)(l l':List UInt8)(n n' c c':Nat)(w:World)(p p':Nat→Prop)(hn:n=l.length)(hn':n'=l'.length)(hm:(l.length:Int)≤9223372036854775807)
 (h:Rd w p A (bs l)) (h':Rd w p' A' (bs l')):
 Calls Tryz.prog 10 #[.slice A n c,.slice A' n' c'] w fun e w'=>e= .returned (.bool (decide (l=l')))∧∃m,w'=w.drewN m:=by
 subst hn;subst hn'
 by_cases hl:l.length=l'.length
 ·rw[← hl]
  exact Ns A A' l l' c c' w p p' hl hm h h'
 ·refine (Vw A A' _ _ c c' w hl).mono fun e w' ⟨he,hw⟩=>⟨?_,0,hw.symm⟩
  rw[he]
  refine aQ ?_
  symm
  rw[decide_eq_false_iff_not]
  intro e
  exact hl (by rw[e])
end Go.Proofs.YtceaodnohnekkaaGreatDoor
namespace Go.Proofs.YtceaodnohnekkaaGreatDoor.Ex
open Go.RowKit
def uT (n0:Nat):List (Nat×aF)→List (Nat×aF)
 |[]=>[]
 |x::l=>cond (Nat.blt x.1 n0) (uT n0 l) (x::uT n0 l)
theorem qK (n0:Nat):∀l:List (Nat×aF),(uT n0 l).Sublist l
 |[]=>.slnil
 |x::l=>by
  unfold uT
  cases Nat.blt x.1 n0
  ·exact (qK n0 l).cons_cons x
  ·exact (qK n0 l).cons x
theorem vJ {n0:Nat}:∀{l:List (Nat×aF)} {x:Nat×aF},x∈uT n0 l→n0≤x.1
 |[],_,h=>by cases h
 |y::l,x,h=>by
  unfold uT at h
  cases hq:Nat.blt y.1 n0 with
  |true=>rw[hq] at h;exact vJ h
  |false=>
   rw[hq] at h
   rcases List.mem_cons.1 h with rfl | h
   ·rcases Nat.lt_or_ge x.1 n0 with hl | hl
    ·have:Nat.blt x.1 n0=true:=by simpa [Nat.blt_eq] using hl
     rw[this] at hq;cases hq
    ·exact hl
   ·exact vJ h
def Lh (bl:List (Nat×aF)):List (Nat×aF)→Bool
 |[]=>true
 |x::l=>cond (match au x.1 bl with | some k=>BZ k x.2 | none=>false) (Lh bl l) false
theorem Fe {bl:List (Nat×aF)}:∀{l:List (Nat×aF)},Lh bl l=true→∀x∈l,au x.1 bl=some x.2
 |[],_,_,h=>by cases h
 |y::l,h,x,hx=>by
  unfold Lh at h
  split at h
  ·rename_i k hk
   cases hq:BZ k y.2 with
   |false=>rw[hq] at h;cases h
   |true=>
    rw[hq] at h
    rcases List.mem_cons.1 hx with rfl | hx
    ·rw[hk,Kg hq]
    ·exact Fe h x hx
  ·cases h
def ab3 (n:Nat):List (Nat×aF)→Bool
 |[]=>false
 |x::l=>cond (Nat.beq x.1 n) true (ab3 n l)
theorem RY {n:Nat}:∀{l:List (Nat×aF)},ab3 n l=false→n ∉ l.map (·.1)
 |[],_=>List.not_mem_nil
 |x::l,h=>by
  unfold ab3 at h
  cases hq:Nat.beq x.1 n with
  |true=>rw[hq] at h;cases h
  |false=>
   rw[hq] at h
   rw[List.map_cons,List.mem_cons]
   rintro (rfl | hm)
   ·rw[Nat.beq_refl] at hq;cases hq
   ·exact RY h hm
def aa6:List (Nat×aF)→Bool
 |[]=>true
 |x::l=>cond (ab3 x.1 l) false (aa6 l)
theorem IQ:∀{l:List (Nat×aF)},aa6 l=true→(l.map (·.1)).Nodup
 |[],_=>List.nodup_nil
 |x::l,h=>by
  unfold aa6 at h
  cases hq:ab3 x.1 l with
  |true=>rw[hq] at h;cases h
  |false=>
   rw[hq] at h
   exact List.nodup_cons.2 ⟨RY hq,IQ h⟩
theorem Post.anA {w0:World}{ρ gG:Env}{W W1:AW}{w w':World}{Xf:List (Nat×aF)}(hW:aO w0 ρ W w)(abV:W1.az=[])(hP:Post w0 ρ ⟨W.nx,Xf,[],W.gl⟩ w gG W1 w'):
 Post w0 ρ W w gG ⟨W1.nx,uT W.nx W1.bl++W.bl,W.az,W.gl⟩ w':=by
 have hT:∀i,¬fD ρ ⟨W.nx,Xf,[],W.gl⟩ W1 i:=fun i ⟨b,hb,_⟩=>by rw[abV] at hb;cases hb
 have hgr:Gr w w' (fun _=>False):=hP.gr.mono fun i _ h=>hT i h
 have hup:∀c,W.nx≤c→c < W1.nx→w.heap.size≤gG.blk c:=fun c hc1 hc=>by
  rcases Nat.lt_or_ge (gG.blk c) w.heap.size with h | h
  ·exact (hT _ (hP.fresh c hc1 hc h)).elim
  ·exact h
 have hget:∀b k,au b (uT W.nx W1.bl++W.bl)=some k→(W.nx≤b∧au b W1.bl=some k)∨(b < W.nx∧au b W.bl=some k):=fun b k hk=>by
  rw[j6] at hk
  cases hq:au b (uT W.nx W1.bl) with
  |some y=>
   rw[hq] at hk
   obtain rfl:=zx hk
   exact .inl ⟨vJ (cz hq),jP hP.rep.kN (qK _ _) hq⟩
  |none=>
   rw[hq] at hk
   exact .inr ⟨(hW.ok b k hk).1,hk⟩
 refine⟨hP.ext,hP.nx,fun _ h=>h,hgr.mono fun _ _ h=>h.elim,fun b h1 h2 h3=>?_,⟨hP.rep.below,fun b k hk=>?_,fun b b' k k' h1 h2 e=>?_,fun b k hk=>?_,?_,hW.gl⟩,fun b hlt hs=>?_,fun b _ h=>.inl h,rfl⟩
 ·have:=hup b h1 h2
  omega
 ·rcases hget b k hk with⟨_,h⟩ | ⟨hlt,h⟩
  ·exact hP.rep.ok b k h
  ·obtain⟨q1,q2,q3,q4⟩:=hW.ok b k h
   rw[hP.ext.blk b hlt]
   exact⟨zq q1 hP.nx,aF.ok.mono hP.nx q2,q3,zq q4 hgr.size⟩
 ·rcases hget b k h1 with⟨hb,g1⟩ | ⟨hlt,g1⟩ <;> rcases hget b' k' h2 with⟨hb',g2⟩ | ⟨hlt',g2⟩
  ·exact hP.rep.inj b b' k k' g1 g2 e
  ·rw[hP.ext.blk b' hlt'] at e
   have:=(hW.ok b' k' g2).2.2.2
   have:=hup b hb (hP.rep.ok b k g1).1
   omega
  ·rw[hP.ext.blk b hlt] at e
   have:=(hW.ok b k g1).2.2.2
   have:=hup b' hb' (hP.rep.ok b' k' g2).1
   omega
  ·rw[hP.ext.blk b hlt,hP.ext.blk b' hlt'] at e
   exact hW.inj b b' k k' g1 g2 e
 ·rcases hget b k hk with⟨_,h⟩ | ⟨hlt,h⟩
  ·exact hP.rep.rep b k h
  ·exact aF.sH (hgr.block _ (hW.ok b k h).2.2.2 id) hP.ext hlt (hW.ok b k h).2.1 (hW.rep b k h)
 ·rw[List.map_append,List.nodup_append]
  refine⟨((qK _ _).map _).nodup hP.rep.kN,hW.kN,fun a ha b hb e=>?_⟩
  obtain⟨x,hx,rfl⟩:=List.mem_map.1 ha
  obtain⟨y,hy,rfl⟩:=List.mem_map.1 hb
  have:=vJ hx
  have:=hW.xA hy
  omega
 ·rw[Option.isSome_iff_exists] at hs ⊢
  obtain⟨k,hk⟩:=hs
  rcases hget b k hk with⟨hb,_⟩ | ⟨_,h⟩
  ·have hlt:b < W.nx:=hlt
   omega
  ·exact⟨k,h⟩
abbrev qg:=List AV×Nat×List (Nat×aF)×AV×Nat×List (Nat×aF)
def kY (call:ag)(gl:List (Nat×List Value))(g:Nat)(e:qg):Bool:=
 cond (aa6 e.2.2.1) (ahA e.2.2.2.1 e.2.2.2.2.1 e.2.2.2.2.2 e.2.1 gl (call g e.1 ⟨e.2.1,e.2.2.1,[],gl⟩)) false
where
 ahA (v:AV) (n:Nat) (bl:List (Nat×aF)) (n0:Nat) (gl:List (Nat×List Value)):Option (AV×AW)→Bool
  |some (u,W)=>cond (lD u v) (cond (Nat.beq W.nx n) (cond (Ev (uT n0 W.bl) bl) (match W.az with | []=>Xd W.gl gl | _=>false) false) false) false
  |none=>false
theorem ahz {v:AV}{n n0:Nat}{bl:List (Nat×aF)}{gl:List (Nat×List Value)}{r:Option (AV×AW)}(h:kY.ahA v n bl n0 gl r=true):∃W1,r=some (v,W1)∧W1.nx=n∧uT n0 W1.bl=bl∧W1.az=[]:=by
 unfold kY.ahA at h
 split at h
 case h_2=>cases h
 case h_1 u W=>
 cases h1:lD u v with
 |false=>rw[h1] at h;cases h
 |true=>
 cases h2:Nat.beq W.nx n with
 |false=>rw[h1,h2] at h;cases h
 |true=>
 cases h3:Ev (uT n0 W.bl) bl with
 |false=>rw[h1,h2,h3] at h;cases h
 |true=>
 rw[h1,h2,h3] at h
 simp only[cond_true] at h
 split at h
 ·rename_i hm
  exact⟨W,by rw[mf h1],(beq_iff _ _).1 h2,vR h3,hm⟩
 ·cases h
def yf (args:List AV)(W:AW):List qg→Option qg
 |[]=>none
 |x::l=>cond (Nat.beq W.nx x.2.1) (cond (lC args x.1) (cond (Lh W.bl x.2.2.1) (some x) (yf args W l)) (yf args W l)) (yf args W l)
theorem BH {args:List AV}{W:AW}:∀{l:List qg} {x:qg},yf args W l=some x→x∈l∧W.nx=x.2.1∧args=x.1∧Lh W.bl x.2.2.1=true
 |[],_,h=>by cases h
 |y::l,x,h=>by
  have amx:yf args W l=some x→x∈y::l∧W.nx=x.2.1∧args=x.1∧Lh W.bl x.2.2.1=true:=fun h=>by
   obtain⟨h1,h2⟩:=BH h
   exact⟨zm _ h1,h2⟩
  unfold yf at h
  cases h1:Nat.beq W.nx y.2.1 with
  |false=>rw[h1] at h;exact amx h
  |true=>
  cases h2:lC args y.1 with
  |false=>rw[h1,h2] at h;exact amx h
  |true=>
  cases h3:Lh W.bl y.2.2.1 with
  |false=>rw[h1,h2,h3] at h;exact amx h
  |true=>
   rw[h1,h2,h3] at h
   obtain rfl:=zx h
   exact⟨zn,(beq_iff _ _).1 h1,lv h2,h3⟩
def frS (gl:List (Nat×List Value))(g:Nat)(l:List qg):ag:=fun g' args W=>cond (Nat.beq g' g) (match yf args W l with
 |some e=>cond (Xd gl W.gl) (some (e.2.2.2.1,⟨e.2.2.2.2.1,e.2.2.2.2.2++W.bl,W.az,W.gl⟩)) none
 |none=>none) none
theorem aca {P:Program}{call:ag}(hC:ah P call)(gl:List (Nat×List Value))(g:Nat)(l:List qg)(h:l.all (kY call gl g)=true):ah P (frS gl g l):=fun g' args W v W' hc=>by
 unfold frS at hc
 cases hg:Nat.beq g' g with
 |false=>rw[hg] at hc;cases hc
 |true=>
 rw[hg] at hc
 obtain rfl:=(beq_iff _ _).1 hg
 simp only[cond_true] at hc
 split at hc
 case h_2=>cases hc
 case h_1 e he=>
 cases hgl:Xd gl W.gl with
 |false=>rw[hgl] at hc;cases hc
 |true=>
 rw[hgl] at hc
 obtain rfl:=sP hgl
 simp only[cond_true] at hc
 obtain⟨rfl,rfl⟩:=zw (zx hc)
 obtain⟨hmem,hnx,rfl,hsub⟩:=BH he
 have hent:=List.all_eq_true.1 h e hmem
 unfold kY at hent
 cases hnd:aa6 e.2.2.1 with
 |false=>rw[hnd] at hent;cases hent
 |true=>
 rw[hnd] at hent
 obtain⟨W1,hr,h1,h2,h3⟩:=ahz (show kY.ahA _ _ _ _ _ _=true from hent)
 obtain⟨q1,_,q3⟩:=hC _ _ _ _ _ hr
 refine⟨q1,fun _ hb=>hb,fun w0 ρ w hok hW=>?_⟩
 have hin:=Fe hsub
 have hin2:∀b k,au b e.2.2.1=some k→au b W.bl=some k:=fun b k hb=>hin (b,k) (cz hb)
 have h0:aO w0 ρ ⟨W.nx,e.2.2.1,[],W.gl⟩ w:=⟨hW.below,fun b k hb=>hW.ok b k (hin2 b k hb),fun b b' k k' g1 g2=>hW.inj b b' k k' (hin2 b k g1) (hin2 b' k' g2),fun b k hb=>hW.rep b k (hin2 b k hb),IQ hnd,hW.gl⟩
 rw[← hnx] at q3 h2
 refine (q3 w0 ρ w hok h0).mono ?_
 rintro e' w' ⟨gG,rfl,hP,hv⟩
 have hf:=hP.anA hW h3
 rw[h2,h1] at hf
 rw[h1] at hv
 exact⟨gG,rfl,hf,hv⟩
end Go.Proofs.YtceaodnohnekkaaGreatDoor.Ex
namespace Go.Proofs.YtceaodnohnekkaaGreatDoor
open Go.RowKit Go.ChangeShapes Go.WideShapes Go.Deep Ex
theorem aog:Tryz.prog.cellsOf 3=1:=by kernel_rfl
theorem aof:Tryz.prog.cellsOf 5=1:=by kernel_rfl
theorem cellsS:Tryz.prog.cellsOf 9=1:=by kernel_rfl
theorem acT:Tryz.prog.cellsOf 65=3:=by kernel_rfl
theorem aho:Tryz.prog.cellsOf 22=1:=by kernel_rfl
theorem cellsIn:Tryz.prog.cellsOf 24=2:=by kernel_rfl
section
variable {H:Type} {enc:TypeId×Value→H} {w:World} {base:Nat} {spare:Nat→Bool} {held:Bool}
theorem LU {fuel:Nat}{cs:List Value}{x:DataW H×List MemPlace}(h:DataW.trod enc Tryz.prog w base spare held fuel 25 cs=some x):
 ∃A l c,cs=[.slice A (l:List UInt8).length c]∧Rd w (fun _=>True) A (bs l)∧l.length≤c:=by
 rcases open_ints Tryz.underlying25 Tryz.underlying5 aof h with⟨rfl,_⟩ | ⟨a,len,cap,zs,rfl,_,hl,hm,hz,_,hcell,hwz⟩
 ·exact⟨none,[],0,rfl,Rd.nil _ _ _,zu _⟩
 ·have hle:len≤zs.length:=by rw[hz];split <;> omega
  have e:((zs.take len).map fun z=>UInt8.ofNat z.toNat).length=len:=by rw[List.length_map,List.length_take];omega
  refine⟨some a,(zs.take len).map fun z=>UInt8.ofNat z.toNat,cap,by rw[e],fun _=>⟨a,rfl,trivial,fun j u hu=>?_⟩,by rw[e];exact hl⟩
  have hj:j < len:=by
   rcases Nat.lt_or_ge j len with h1 | h1
   ·exact h1
   ·rw[List.getElem?_eq_none (by rw[aS,e];exact h1)] at hu;cases hu
  have hjz:j < zs.length:=by omega
  rw[List.getElem?_eq_getElem (by rw[aS,e];exact hj),yT] at hu
  obtain rfl:=zx hu
  rw[hcell j hjz]
  have hw:=hwz _ (List.getElem_mem hjz)
  have hb:0≤zs[j]∧zs[j]≤255:=by simpa [Lit.wf,IntKind.min,IntKind.max,IntKind.signed,IntKind.bits] using hw
  simp only[List.getElem_map,List.getElem_take,List.getD,List.getElem?_eq_getElem hjz,Option.getD_some]
  congr 2
  rw[UInt8.toNat_ofNat']
  omega
theorem i64_in {z:Int}(h:(Lit.int .i64 z).wf=true):loI≤z∧z≤hiI:=by
 have hb: -9223372036854775808≤z∧z≤9223372036854775807:=by simpa [Lit.wf,IntKind.min,IntKind.max,IntKind.signed,IntKind.bits] using h
 exact⟨hb.1,hb.2⟩
set_option maxRecDepth 100000 in
theorem agi {n:Nat}{cs:List Value}{y:DataW H×List MemPlace}(h:DataW.trod enc Tryz.prog w base spare held n 65 cs=some y):∃o:ay,cs=o3v o∧mQ o:=by
 obtain⟨xs,m,_,_,hlen,hxl,hf⟩:=DataW.trod_struct Tryz.underlying65 h
 rw[acT] at hlen
 match cs,hlen with
 |[c0,c1,c2],_=>
  have h0:DataW.trod enc Tryz.prog w base spare held m 3 (([c0,c1,c2].drop 0).take (Tryz.prog.cellsOf 3))=xs[0]?:=hf 0 _ rfl
  have h1:DataW.trod enc Tryz.prog w base spare held m 3 (([c0,c1,c2].drop 1).take (Tryz.prog.cellsOf 3))=xs[1]?:=hf 1 _ rfl
  have h2:DataW.trod enc Tryz.prog w base spare held m 3 (([c0,c1,c2].drop 2).take (Tryz.prog.cellsOf 3))=xs[2]?:=hf 2 _ rfl
  rw[aog] at h0 h1 h2
  match xs,hxl with
  |[x0,x1,x2],_=>
   obtain⟨z0,e0,_,w0⟩:=DataW.trod_int Tryz.underlying3 (show DataW.trod _ Tryz.prog w base spare held m 3 [c0]=some x0 from h0)
   obtain⟨z1,e1,_,w1⟩:=DataW.trod_int Tryz.underlying3 (show DataW.trod _ Tryz.prog w base spare held m 3 [c1]=some x1 from h1)
   obtain⟨z2,e2,_,w2⟩:=DataW.trod_int Tryz.underlying3 (show DataW.trod _ Tryz.prog w base spare held m 3 [c2]=some x2 from h2)
   simp only[List.cons.injEq,and_true] at e0 e1 e2
   subst e0;subst e1;subst e2
   exact⟨(z0,z1,z2),rfl,i64_in w0,i64_in w1,i64_in w2⟩
theorem ZC {fuel:Nat}{cs:List Value}{x:DataW H×List MemPlace}(h:DataW.trod enc Tryz.prog w base spare held fuel 22 cs=some x):
 ∃A c l,cs=[.slice A (l:List ay).length c]∧Rd w (fun _=>True) A (bE l)∧∀o∈l,mQ o:=by
 rcases open_slice Tryz.underlying22 h with⟨hcs,_⟩ | ⟨a,len,cap,m,n,D,Pl,hcs,_,hl,_,hmm,hx,hi⟩
 ·subst hcs
  exact⟨none,0,[],rfl,Rd.nil _ _ _,fun _ h=>by cases h⟩
 ·subst hcs
  have hlm:len≤m:=by rw[hmm];split <;> omega
  have key:∀k,k≤len→∃l:List ay,l.length=k∧(∀o∈l,mQ o)∧∀j u,(bE l)[j]? =some u→w.cell? (a.add j)=some u:=by
   intro k
   induction k with
   |zero=>intro _;exact⟨[],rfl,(fun _ h=>by cases h),(fun j u hu=>by simp[bE] at hu)⟩
   |succ k ih=>
    intro hk
    obtain⟨l,hR,hv,hc⟩:=ih (by omega)
    obtain⟨cs',h1,h2⟩:=hi k (by omega)
    rw[acT] at h1
    obtain⟨o,rfl,hb⟩:=agi h2
    obtain⟨_,_,hat⟩:=World.cells?_some h1
    have e3:bE (l++[o])=bE l++o3v o:=by simp[bE]
    refine⟨l++[o],by simp[hR],fun x hx=>?_,fun j u hu=>?_⟩
    ·rcases List.mem_append.1 hx with h | h
     ·exact hv x h
     ·rw[List.mem_singleton.1 h];exact hb
    ·rw[e3] at hu
     by_cases hj:j < (bE l).length
     ·rw[List.getElem?_append_left hj] at hu
      exact hc j u hu
     ·rw[List.getElem?_append_right (by omega)] at hu
      have hj2:j - (bE l).length < 3:=by
       rcases Nat.lt_or_ge (j - (bE l).length) 3 with h3 | h3
       ·exact h3
       ·rw[List.getElem?_eq_none (by simpa [o3v] using h3)] at hu;cases hu
      have h4:=hat (j - (bE l).length) hj2
      rw[add_add] at h4
      have h5:k * 3+(j - (bE l).length)=j:=by rw[gZ] at hj ⊢;omega
      rw[h5] at h4
      rw[h4]
      exact hu
  obtain⟨l,hR,hv,hc⟩:=key len (zu _)
  subst hR
  exact⟨some a,cap,l,rfl,fun _=>⟨a,rfl,trivial,hc⟩,hv⟩
set_option maxRecDepth 100000 in
theorem VN {r:Reach}{b0:Nat}{v:Value}{d:DataW H}{ps:List MemPlace}(hval:Value.okWide Tryz.prog w r b0 25 v)(h:DataW.Trod enc Tryz.prog w base spare held 25 v d ps):
 ∃A l c,v= .slice A (l:List UInt8).length c∧Rd w (fun _=>True) A (bs l):=by
 obtain⟨a0,len,cap,hv0⟩:=okWide_slice Tryz.underlying25 hval
 obtain⟨fuel,hf⟩:=h
 have hf2:DataW.trod enc Tryz.prog w base spare held fuel 25 [v]=some (d,ps):=by simpa [hv0,Value.cells] using hf
 obtain⟨A,l,c,h1,h2,_⟩:=LU hf2
 simp only[List.cons.injEq,and_true] at h1
 exact⟨A,l,c,h1,h2⟩
set_option maxRecDepth 100000 in
theorem U6 {r:Reach}{b0:Nat}{v:Value}{d:DataW H}{ps:List MemPlace}(hval:Value.okWide Tryz.prog w r b0 24 v)(h:DataW.Trod enc Tryz.prog w base spare held 24 v d ps):
 ∃s A l c,v= .agg #[.string s,.slice A (l:List ay).length c]∧Rd w (fun _=>True) A (bE l)∧∀o∈l,mQ o:=by
 obtain⟨cs,rfl,hcs⟩:=okWide_struct Tryz.underlying24 hval
 rw[cellsIn] at hcs
 obtain⟨fuel,hf⟩:=h
 have hf2:DataW.trod enc Tryz.prog w base spare held fuel 24 cs.toList=some (d,ps):=by simpa [Value.cells] using hf
 obtain⟨xs,m,_,_,hlen,hxl,hfl⟩:=DataW.trod_struct Tryz.underlying24 hf2
 obtain⟨l2⟩:=cs
 match l2,hcs with
 |[c0,c1],_=>
  have h0:DataW.trod enc Tryz.prog w base spare held m 9 (([c0,c1].drop 0).take (Tryz.prog.cellsOf 9))=xs[0]?:=hfl 0 _ rfl
  have h1:DataW.trod enc Tryz.prog w base spare held m 22 (([c0,c1].drop 1).take (Tryz.prog.cellsOf 22))=xs[1]?:=hfl 1 _ rfl
  rw[cellsS] at h0
  rw[aho] at h1
  match xs,hxl with
  |[x0,x1],_=>
   obtain⟨s,e0,_⟩:=DataW.trod_string Tryz.underlying9 (show DataW.trod _ Tryz.prog w base spare held m 9 [c0]=some x0 from h0)
   obtain⟨A,c,l,e1,h2,h3⟩:=ZC (show DataW.trod _ Tryz.prog w base spare held m 22 [c1]=some x1 from h1)
   simp only[List.cons.injEq,and_true] at e0 e1
   subst e0;subst e1
   exact⟨s,A,l,c,rfl,h2,h3⟩
end
end Go.Proofs.YtceaodnohnekkaaGreatDoor
