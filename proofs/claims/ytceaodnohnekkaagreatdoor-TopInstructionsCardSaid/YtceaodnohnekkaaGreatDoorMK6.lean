/- Parts of the proof of TopInstructions. -/
import Derived.Test.YtceaodnohnekkaaGreatDoorMK3
import Derived.Test.YtceaodnohnekkaaGreatDoorMK4
import Derived.Test.YtceaodnohnekkaaGreatDoorMBa
import Derived.Test.YtceaodnohnekkaaGreatDoorMBb
import Derived.Test.YtceaodnohnekkaaGreatDoorMBc
import Derived.Test.YtceaodnohnekkaaGreatDoorMBd
namespace Go.Proofs.YtceaodnohnekkaaGreatDoor.Ex
open Go.RowKit
abbrev EM:=List Nat×List Nat×List Nat
def nQ (p:Nat):List EM→Prop
 |[]=>True
 |s::l=>ae p s.1 s.2.1 s.2.2∧nQ p l
def ajk (a b:EM):Bool:=cond (jS a.1 b.1) (cond (jS a.2.1 b.2.1) (jS a.2.2 b.2.2) false) false
def afK (s:EM):List EM→Bool
 |[]=>false
 |x::l=>cond (ajk s x) true (afK s l)
theorem Oz {p:Nat}{s:EM}:∀{l:List EM},nQ p l→afK s l=true→ae p s.1 s.2.1 s.2.2
 |[],_,h=>by cases h
 |x::l,ha,h=>by
  unfold afK at h
  cases hq:ajk s x with
  |false=>rw[hq] at h;exact Oz ha.2 h
  |true=>
   obtain⟨s1,s2,s3⟩:=s
   obtain⟨x1,x2,x3⟩:=x
   unfold ajk at hq
   cases h1:jS s1 x1 with
   |false=>rw[h1] at hq;cases hq
   |true=>
   cases h2:jS s2 x2 with
   |false=>rw[h1,h2] at hq;cases hq
   |true=>
   rw[h1,h2] at hq
   obtain rfl:=fA h1
   obtain rfl:=fA h2
   obtain rfl:=fA (show jS s3 x3=true from hq)
   exact ha.1
def aq6:List EM:=[([78,79,80],[],[]),([76,68],[3,6],[119]),([76,68],[4,1],[]),([73,78,67],[3],[]),([73,78,67],[1],[]),([68,69,67],[1],[]),([76,68],[1,6],[110]),([82,76,67,65],[],[]),([69,88],[3,3],[]),([65,68,68],[3,3],[]),([76,68],[1,4],[]),([68,69,67],[3],[]),([82,82,67,65],[],[]),([68,74,78,90],[10],[101]),([82,76,65],[],[]),([74,82],[10],[101]),([82,82,65],[],[]),([74,82],[8,10],[101]),([76,68],[7,3],[119]),([68,65,65],[],[]),([76,68],[3,7],[119]),([67,80,76],[],[]),([76,68],[7,1],[119]),([73,78,67],[4],[]),([68,69,67],[4],[]),([76,68],[4,6],[110]),([83,67,70],[],[]),([76,68],[1,7],[119]),([67,67,70],[],[]),([76,68],[1,1],[]),([72,65,76,84],[],[]),([65,68,68],[1,1],[]),([65,68,68],[1,4],[]),([65,68,67],[1,1],[]),([65,68,67],[1,4],[]),([83,85,66],[1],[]),([83,85,66],[4],[]),([83,66,67],[1,1],[]),([83,66,67],[1,4],[]),([65,78,68],[1],[]),([65,78,68],[4],[]),([88,79,82],[1],[]),([88,79,82],[4],[]),([79,82],[1],[]),([79,82],[4],[]),([67,80],[1],[]),([67,80],[4],[]),([82,69,84],[8],[]),([80,79,80],[3],[]),([74,80],[8,6],[119]),([74,80],[6],[119]),([67,65,76,76],[8,6],[119]),([80,85,83,72],[3],[]),([65,68,68],[1,6],[110]),([82,83,84],[6],[]),([82,69,84],[],[]),([67,65,76,76],[6],[119]),([65,68,67],[1,6],[110]),([79,85,84],[7,1],[110]),([83,85,66],[6],[110]),([69,88,88],[],[]),([73,78],[1,7],[110]),([83,66,67],[1,6],[110]),([69,88],[4,3],[]),([65,78,68],[6],[110]),([74,80],[4],[]),([88,79,82],[6],[110]),([68,73],[],[]),([79,82],[6],[110]),([76,68],[3,3],[]),([69,73],[],[]),([67,80],[6],[110])]
theorem afJ:nQ 0 aq6:=zy asl (zy asj (zy asi (zy ash (zy asg (zy asf (zy ase (zy asc (zy asb (zy asa (zy amg (zy amf (zy ame (zy amd (zy amc (zy amb (zy ama (zy al9 (zy al8 (zy al7 (zy al6 (zy al5 (zy al4 (zy al3 (zy al2 (zy al1 (zy alZ (zy alY (zy alX (zy alW (zy alV (zy alU (zy alT (zy alS (zy alR (zy alQ (zy alP (zy alO (zy alN (zy alM (zy alL (zy alJ (zy alI (zy alH (zy alG (zy alF (zy alE (zy alD (zy alC (zy alB (zy alA (zy alz (zy aly (zy alx (zy alv (zy alu (zy als (zy alr (zy alq (zy alp (zy alo (zy aln (zy alm (zy alk (zy alj (zy ali (zy alh (zy alg (zy alf (zy ale (zy ald (zy alc (trivial))))))))))))))))))))))))))))))))))))))))))))))))))))))))))))))))))))))))
def aq5:List EM:=[([82,76,67],[1],[]),([82,76,67],[4],[]),([82,82,67],[1],[]),([82,82,67],[4],[]),([82,76],[1],[]),([82,76],[4],[]),([82,82],[1],[]),([82,82],[4],[]),([83,76,65],[1],[]),([83,76,65],[4],[]),([83,82,65],[1],[]),([83,82,65],[4],[]),([83,76,76],[1],[]),([83,76,76],[4],[]),([83,82,76],[1],[]),([83,82,76],[4],[]),([66,73,84],[6,1],[]),([66,73,84],[6,4],[]),([82,69,83],[6,1],[]),([82,69,83],[6,4],[]),([83,69,84],[6,1],[]),([83,69,84],[6,4],[])]
theorem afI:nQ 1 aq5:=zy ar9 (zy ar8 (zy ar7 (zy ar6 (zy ar5 (zy ar4 (zy ar3 (zy ar2 (zy ar1 (zy ar0 (zy alb (zy ala (zy ak9 (zy ak8 (zy ak7 (zy ak6 (zy ak5 (zy ak4 (zy ak3 (zy ak2 (zy ak1 (zy ak0 (trivial))))))))))))))))))))))
def aq4:List EM:=[([73,78],[1,4],[]),([79,85,84],[4,1],[]),([83,66,67],[3,3],[]),([76,68],[7,3],[119]),([78,69,71],[],[]),([82,69,84,78],[],[]),([73,77],[6],[]),([76,68],[9,1],[]),([65,68,67],[3,3],[]),([76,68],[3,7],[119]),([82,69,84,73],[],[]),([76,68],[1,9],[]),([82,82,68],[],[]),([82,76,68],[],[]),([73,78],[4],[]),([79,85,84],[4,6],[]),([76,68,73],[],[]),([67,80,73],[],[]),([73,78,73],[],[]),([79,85,84,73],[],[]),([76,68,68],[],[]),([67,80,68],[],[]),([73,78,68],[],[]),([79,85,84,68],[],[]),([76,68,73,82],[],[]),([67,80,73,82],[],[]),([73,78,73,82],[],[]),([79,84,73,82],[],[]),([76,68,68,82],[],[]),([67,80,68,82],[],[]),([73,78,68,82],[],[]),([79,84,68,82],[],[])]
theorem afH:nQ 2 aq4:=zy arZ (zy arY (zy arX (zy arW (zy arV (zy arU (zy arT (zy arS (zy arR (zy arQ (zy akZ (zy akY (zy akX (zy akW (zy akV (zy akU (zy akT (zy akS (zy akR (zy akQ (zy akP (zy akO (zy akN (zy akM (zy akL (zy akK (zy akJ (zy akI (zy akH (zy akG (zy akF (zy akE (trivial))))))))))))))))))))))))))))))))
def aq3:List EM:=[([65,68,68],[3,3],[]),([76,68],[3,6],[119]),([76,68],[7,3],[119]),([73,78,67],[3],[]),([73,78,67],[2],[]),([68,69,67],[2],[]),([76,68],[2,6],[110]),([76,68],[3,7],[119]),([68,69,67],[3],[]),([73,78,67],[5],[100]),([68,69,67],[5],[100]),([76,68],[5,6],[100,110]),([76,68],[1,2],[]),([76,68],[1,5],[100]),([76,68],[2,1],[]),([76,68],[2,2],[]),([76,68],[5,1],[100]),([65,68,68],[1,2],[]),([65,68,68],[1,5],[100]),([65,68,67],[1,2],[]),([65,68,67],[1,5],[100]),([83,85,66],[2],[]),([83,85,66],[5],[100]),([83,66,67],[1,2],[]),([83,66,67],[1,5],[100]),([65,78,68],[2],[]),([65,78,68],[5],[100]),([88,79,82],[2],[]),([88,79,82],[5],[100]),([79,82],[2],[]),([79,82],[5],[100]),([67,80],[2],[]),([67,80],[5],[100]),([80,79,80],[3],[]),([69,88],[4,3],[]),([80,85,83,72],[3],[]),([74,80],[4],[]),([76,68],[3,3],[])]
theorem afG:nQ 3 aq3:=zy arP (zy arO (zy arN (zy arM (zy arL (zy arK (zy arJ (zy arI (zy arH (zy arG (zy akD (zy akC (zy akB (zy akA (zy akz (zy aky (zy akx (zy akw (zy akv (zy aku (zy akt (zy aks (zy akr (zy akq (zy akp (zy ako (zy akn (zy akm (zy akl (zy akk (zy akj (zy aki (zy akh (zy akg (zy akf (zy ake (zy akd (zy akc (trivial))))))))))))))))))))))))))))))))))))))
def aq2:List EM:=[([65,68,68],[3,3],[]),([76,68],[3,6],[119]),([76,68],[7,3],[119]),([73,78,67],[3],[]),([73,78,67],[2],[]),([68,69,67],[2],[]),([76,68],[2,6],[110]),([76,68],[3,7],[119]),([68,69,67],[3],[]),([73,78,67],[5],[100]),([68,69,67],[5],[100]),([76,68],[5,6],[100,110]),([76,68],[1,2],[]),([76,68],[1,5],[100]),([76,68],[2,1],[]),([76,68],[2,2],[]),([76,68],[5,1],[100]),([65,68,68],[1,2],[]),([65,68,68],[1,5],[100]),([65,68,67],[1,2],[]),([65,68,67],[1,5],[100]),([83,85,66],[2],[]),([83,85,66],[5],[100]),([83,66,67],[1,2],[]),([83,66,67],[1,5],[100]),([65,78,68],[2],[]),([65,78,68],[5],[100]),([88,79,82],[2],[]),([88,79,82],[5],[100]),([79,82],[2],[]),([79,82],[5],[100]),([67,80],[2],[]),([67,80],[5],[100]),([80,79,80],[3],[]),([69,88],[4,3],[]),([80,85,83,72],[3],[]),([74,80],[4],[]),([76,68],[3,3],[])]
theorem afF:nQ 4 aq2:=zy arF (zy arE (zy arD (zy arC (zy arB (zy arA (zy arz (zy ary (zy arx (zy arw (zy akb (zy aka (zy aj9 (zy aj8 (zy aj7 (zy aj6 (zy aj5 (zy aj4 (zy aj0 (zy ajZ (zy ajY (zy ajX (zy ajW (zy ajV (zy ajU (zy ajT (zy ajS (zy ajR (zy ajQ (zy ajP (zy ajO (zy ajN (zy ajM (zy ajL (zy ajK (zy ajJ (zy ajI (zy ajH (trivial))))))))))))))))))))))))))))))))))))))
def aq1:List EM:=[([82,76,67],[5,1],[100]),([82,76,67],[5],[100]),([82,82,67],[5,1],[100]),([82,82,67],[5],[100]),([82,76],[5,1],[100]),([82,76],[5],[100]),([82,82],[5,1],[100]),([82,82],[5],[100]),([83,76,65],[5,1],[100]),([83,76,65],[5],[100]),([83,82,65],[5,1],[100]),([83,82,65],[5],[100]),([83,76,76],[5,1],[100]),([83,76,76],[5],[100]),([83,82,76],[5,1],[100]),([83,82,76],[5],[100]),([66,73,84],[6,5],[100]),([82,69,83],[6,5,1],[100]),([82,69,83],[6,5],[100]),([83,69,84],[6,5,1],[100]),([83,69,84],[6,5],[100])]
theorem afE:nQ 5 aq1:=zy arv (zy aru (zy art (zy ars (zy arq (zy arp (zy aro (zy arn (zy arl (zy ark (zy ajG (zy ajF (zy ajE (zy ajD (zy ajC (zy ajB (zy ajA (zy ajz (zy ajy (zy ajx (zy ajw (trivial)))))))))))))))))))))
def aq0:List EM:=[([82,76,67],[5,1],[100]),([82,76,67],[5],[100]),([82,82,67],[5,1],[100]),([82,82,67],[5],[100]),([82,76],[5,1],[100]),([82,76],[5],[100]),([82,82],[5,1],[100]),([82,82],[5],[100]),([83,76,65],[5,1],[100]),([83,76,65],[5],[100]),([83,82,65],[5,1],[100]),([83,82,65],[5],[100]),([83,76,76],[5,1],[100]),([83,76,76],[5],[100]),([83,82,76],[5,1],[100]),([83,82,76],[5],[100]),([66,73,84],[6,5],[100]),([82,69,83],[6,5,1],[100]),([82,69,83],[6,5],[100]),([83,69,84],[6,5,1],[100]),([83,69,84],[6,5],[100])]
theorem afD:nQ 6 aq0:=zy arj (zy ari (zy arh (zy arf (zy ard (zy arc (zy arb (zy ara (zy aq9 (zy aq8 (zy ajv (zy aju (zy ajt (zy ajs (zy ajr (zy ajq (zy ajp (zy ajo (zy ajn (zy ajm (zy ajl (trivial)))))))))))))))))))))
def aqZ:List (List EM):=[aq6,aq5,aq4,aq3,aq2,aq1,aq0]
def bM:List Nat→List Nat
 |k::_::_::l=>k::bM l
 |_=>[]
def atZ (p:Nat)(d:aJ):Bool:=match d.1 with
 |1=>match eD aqZ p with
  |some l=>afK (d.2.1,bM d.2.2.2.2,d.2.2.1) l
  |none=>false
 |_=>true
theorem acR:allT (fun p _ d=>atZ p d) 0 Ga=true:=by kernel_rfl
theorem afC {p:Nat}{l:List EM}(h:eD aqZ p=some l):nQ p l:=by
 match p,h with
 |0,h=>exact (zx h) ▸ afJ
 |1,h=>exact (zx h) ▸ afI
 |2,h=>exact (zx h) ▸ afH
 |3,h=>exact (zx h) ▸ afG
 |4,h=>exact (zx h) ▸ afF
 |5,h=>exact (zx h) ▸ afE
 |6,h=>exact (zx h) ▸ afD
 |p+7,h=>cases h
theorem XQ {p o:Nat}{d:aJ}(hd:gL p o=some d)(hk:d.1=1):ae p d.2.1 (bM d.2.2.2.2) d.2.2.1:=by
 have h:=gp acR hd
 obtain⟨k,nm,ex,al,cs⟩:=d
 obtain rfl:k=1:=hk
 simp only[atZ] at h
 split at h
 case h_2=>cases h
 case h_1 l hl=>
  have ha:nQ p l:=afC hl
  have hs:ae p ((nm,bM cs,ex):EM).1 ((nm,bM cs,ex):EM).2.1 ((nm,bM cs,ex):EM).2.2:=Oz (s:=(nm,bM cs,ex)) ha h
  exact hs
theorem BO {rs rs' ns ns':Nat→Int}:∀(ks:List Nat) (i:Nat),(∀j,i≤j→rs j=rs' j∧ns j=ns' j)→lh i ks rs ns=lh i ks rs' ns'
 |[],_,_=>rfl
 |k::l,i,h=>by
  simp only[lh]
  rw[(h i (Nat.le_refl _)).1,(h i (Nat.le_refl _)).2,BO l (i+1) fun j hj=>h j (by omega)]
theorem NH:∀(l:List Nat) (i:Nat),l.length % 3=0→∃rs ns:Nat→Int,aG iy (lh i (bM l) rs ns)=(l.map fun (n:Nat)=>Value.int .i64 (n:Int))∧(bM l).length=l.length / 3
 |[],_,_=>⟨fun _=>0,fun _=>0,rfl,rfl⟩
 |[_],_,h=>by simp at h
 |[_,_],_,h=>by simp at h
 |k::r::n::l,i,h=>by
  obtain⟨rs,ns,h1,h2⟩:=NH l (i+1) (by simp only[List.length_cons] at h;omega)
  refine⟨fun j=>if j=i then (r:Int) else rs j,fun j=>if j=i then (n:Int) else ns j,?_,?_⟩
  ·simp only[bM,lh,aG,rI,cv,if_true,List.map_cons]
   rw[BO (rs':=rs) (ns':=ns) (bM l) (i+1) (fun j hj=>⟨if_neg (by omega),if_neg (by omega)⟩),h1]
   rfl
  ·simp only[bM,List.length_cons,h2]
   omega
def axh (d:aJ):Bool:=Nat.beq (Nat.mod d.2.2.2.2.length 3) 0
theorem Jf:allT (fun _ _ d=>axh d) 0 Ga=true:=by kernel_rfl
theorem bytes_at {w0 w:World}(hG:gJ w0)(hb0:Below w0.heap.size w0 w){p o:Nat}{d:aJ}(hd:gL p o=some d)(hk:d.1=1){A:Option Addr}{c:Nat}(hA:eX w0.heap.size w A c (lQ d))(x n:Int):
 Calls Tryz.prog 17 #[Xe p o d A c,.int .i64 x,.int .i64 n] w fun e w'=>∃A' c',
  e= .returned (.tuple #[.slice A' (jg p (.int .u8 (o:Int)) d.2.2.1 x n).length c',.bool (LX d.2.2.1 x n)])∧(jg p (.int .u8 (o:Int)) d.2.2.1 x n).length≤c'∧Rd w' (fun _=>True) A' (jg p (.int .u8 (o:Int)) d.2.2.1 x n)∧Below w.heap.size w w':=by
 obtain⟨rs,ns,h1,h2⟩:=NH d.2.2.2.2 0 ((beq_iff _ _).1 (gp Jf hd))
 have:=VO hG hb0 (XQ hd hk) d.2.2.2.1 (o:Int) rs ns (A:=A) (c:=c) (by rw[h1];exact hA) x n
 rw[h2] at this
 exact this
def opsL:List Nat→List ay
 |k::r::n::l=>((k:Int),(r:Int),(n:Int))::opsL l
 |_=>[]
theorem wW:∀(l:List Nat),l.length % 3=0→(opsL l).length=l.length / 3
 |[],_=>rfl
 |[_],h=>by simp at h
 |[_,_],h=>by simp at h
 |k::r::n::l,h=>by
  simp only[opsL,List.length_cons,wW l (by simp only[List.length_cons] at h;omega)]
  omega
theorem OO:∀(l:List Nat),l.length % 3=0→bE (opsL l)=l.map fun (n:Nat)=>Value.int .i64 (n:Int)
 |[],_=>rfl
 |[_],h=>by simp at h
 |[_,_],h=>by simp at h
 |k::r::n::l,h=>by
  simp only[opsL,iN,OO l (by simp only[List.length_cons] at h;omega),List.map_cons]
def Bw (a b:Nat):List Nat→Option Nat
 |[]=>none
 |k::l=>match Bw a b l with
  |some j=>some (j+1)
  |none=>cond (Nat.beq k a || Nat.beq k b) (some 0) none
def ry (ks ex:List Nat):Option Vr:=cond (gM 100 ex) ((Bw 5 5 ks).map fun j=>(j,.negSucc 127,.ofNat 127)) none
def Dp (ks ex:List Nat):Option Vr:=cond (gM 101 ex) ((Bw 10 10 ks).map fun j=>(j,.negSucc 127,.ofNat 127)) (cond (gM 110 ex) ((Bw 6 7 ks).map fun j=>(j,.ofNat 0,.ofNat 255)) (cond (gM 119 ex) ((Bw 6 7 ks).map fun j=>(j,.ofNat 0,.ofNat 65535)) none))
def zAt (cs:List Nat)(k:Nat):Bool:=match eD cs (k * 3+2) with
 |some n=>Nat.beq n 0
 |none=>false
def afp (cs:List Nat):Option Vr→Bool
 |none=>true
 |some v=>zAt cs v.1 && Nat.blt (v.1 * 3) cs.length
def aiB:Option Vr→Option Vr→Bool
 |some x,some y=>!(Nat.beq x.1 y.1)
 |_,_=>true
def wR (r:Int×Int):Option Vr→Bool
 |none=>uZ r.1 (.ofNat 0) && uZ r.2 (.ofNat 0)
 |some v=>uZ r.1 v.2.1 && uZ r.2 v.2.2
def axf (ks ex:List Nat)(k:Nat):Nat:=match eD ks k with
 |none=>0
 |some o=>cond (Nat.beq o 5 && gM 100 ex) 100 (cond (Nat.beq o 10 && gM 101 ex) 101 (cond (Nat.beq o 6 || Nat.beq o 7) (match Bw 6 7 (ks.drop (k+1)) with
  |some _=>0
  |none=>cond (gM 110 ex) 110 (cond (gM 119 ex) 119 0)) 0))
def rgL:Nat→Option (Int×Int)
 |100=>some (.negSucc 127,.ofNat 127)
 |101=>some (.negSucc 127,.ofNat 127)
 |110=>some (.ofNat 0,.ofNat 255)
 |119=>some (.ofNat 0,.ofNat 65535)
 |_=>none
def afU:Option (Int×Int)→Option (Int×Int)→Bool
 |none,none=>true
 |some a,some b=>uZ a.1 b.1 && uZ a.2 b.2
 |_,_=>false
def ana (ks ex:List Nat):Bool:=[0,1,2].all fun k=>Nat.ble ks.length k || afU (rgL (axf ks ex k)) (qx (ry ks ex) (Dp ks ex) k)
def Ni (k r:Nat):Nat:=cond (Nat.beq k 2) (5+Nat.div r 2) (cond (Nat.beq k 3 || (Nat.beq k 4 || Nat.beq k 5)) (cond (Nat.beq r 5 || Nat.beq r 6) r 0) 0)
def Nj:List Nat→List Nat
 |k::r::_::l=>Ni k r::Nj l
 |_=>[]
def isZero (l:List Nat):Bool:=l.all fun x=>Nat.beq x 0
def Ji (p:Nat)(l:List Nat):Bool:=(l.all fun x=>Nat.beq x 0 || Nat.beq x p) && l.any fun x=>Nat.beq x p
def Zv (p:Nat)(l:List Nat):Bool:=match p with
 |0=>isZero l
 |1=>isZero l
 |2=>isZero l
 |3=>Ji 5 l
 |4=>Ji 6 l
 |5=>Ji 5 l
 |6=>Ji 6 l
 |_=>false
def lU (x:List Nat):List (List Nat)→Bool
 |[]=>false
 |y::l=>cond (jS x y) true (lU x l)
def acD (p _o:Nat)(d:aJ):Bool:=match d.1 with
 |1=>afp d.2.2.2.2 (ry (bM d.2.2.2.2) d.2.2.1) && (afp d.2.2.2.2 (Dp (bM d.2.2.2.2) d.2.2.1) && (aiB (ry (bM d.2.2.2.2) d.2.2.1) (Dp (bM d.2.2.2.2) d.2.2.1) &&
   (wR (wO d.2.2.1) (ry (bM d.2.2.2.2) d.2.2.1) && (wR (wN d.2.2.1) (Dp (bM d.2.2.2.2) d.2.2.1) && (ana (bM d.2.2.2.2) d.2.2.1 && (Zv p (Nj d.2.2.2.2) && (Nat.ble d.2.2.2.2.length 9 && !(jS d.2.1 []))))))))
 |_=>true
theorem NB:allT acD 0 Ga=true:=by kernel_rfl
def DZ:List (List Nat):=[[],[100],[100,110],[101],[110],[119]]
def cO:List Nat:=[100,101,110,119]
noncomputable def ag0 (ex:List Nat)(c:Nat):Option Bool:=yU (aj EN 99 [.str ex,.int .u8 (.ofNat c)] ⟨0,[],[],bC⟩)
def ahB (f:List Nat→Bool):List (List Nat)→Bool
 |[]=>true
 |x::l=>cond (f x) (ahB f l) false
theorem Kq {f:List Nat→Bool}:∀{l:List (List Nat)} {x:List Nat},ahB f l=true→lU x l=true→f x=true
 |[],_,_,h=>by cases h
 |y::l,x,h,hx=>by
  unfold ahB at h
  cases hy:f y with
  |false=>rw[hy] at h;cases h
  |true=>
   rw[hy] at h
   unfold lU at hx
   cases hq:jS x y with
   |true=>rw[fA hq];exact hy
   |false=>
    rw[hq] at hx
    exact Kq h hx
theorem agZ:ahB (fun ex=>rH (fun c=>bq (ag0 ex c) (gM c ex)) cO) DZ=true:=by kernel_rfl
theorem atB {ex:List Nat}{c:Nat}(hx:lU ex DZ=true)(hc:c∈cO)(w:World)(hG:gJ w):
 Calls Tryz.prog 99 #[.string (aa ex),.int .u8 (c:Int)] w fun e w'=>e= .returned (.bool (gM c ex))∧Below w.heap.size w w':=
 oO (args:=[.str ex,.int .u8 (.ofNat c)]) (bD gN mg) (show ag0 ex c=some (gM c ex) from aiS (dZ (f:=fun c=>bq (ag0 ex c) (gM c ex)) (Kq (f:=fun ex=>rH (fun c=>bq (ag0 ex c) (gM c ex)) cO) agZ hx) hc)) ⟨trivial,trivial,trivial⟩ w hG
def uW (c:Nat):Int×Int:=cond (Nat.ble c 101) (.negSucc 127,.ofNat 127) (cond (Nat.beq c 110) (.ofNat 0,.ofNat 255) (.ofNat 0,.ofNat 65535))
end Go.Proofs.YtceaodnohnekkaaGreatDoor.Ex
namespace Go.Proofs.YtceaodnohnekkaaGreatDoor
open Go.RowKit Ex
def isNum (o:ay):Bool:=(o.1 == 6) || (o.1 == 7)
def Nf (ex:List Nat)(o:ay)(rest:List ay):Nat:=
 if (o.1 == 5) && gM 100 ex then 100 else if (o.1 == 10) && gM 101 ex then 101 else if !(isNum o) then 0 else if rest.any isNum then 0 else if gM 110 ex then 110 else if gM 119 ex then 119 else 0
def gB (ex:List Nat)(l:List ay)(k:Nat):Nat:=match l[k]? with
 |none=>0
 |some o=>Nf ex o (l.drop (k+1))
theorem Zi {a:Nat}{ex:List Nat}{l:List ay}{k:Nat}{o:ay}(hk:l[k]? =some o)(h:a=Nf ex o (l.drop (k+1))):(a:Int)=(gB ex l k:Int):=by
 unfold gB
 rw[hk]
 exact congrArg _ h
theorem kr {a b:Int}(h:a=b):Ending.returned (.int .u8 a)= .returned (.int .u8 b):=by rw[h]
set_option maxHeartbeats 8000000 in
theorem Nb (pg o:Value)(s:ByteArray)(ex:List Nat)(al:Value)(A:Option Addr)(l:List ay)(n c k:Nat)(w:World)(p:Nat→Prop)(hx:lU ex DZ=true)(hn:n=l.length)(hm:l.length≤1000)(hk:k < n)(h:Rd w p A (bE l))(hG:∀W,Below w.heap.size w W→gJ W):
 Calls Tryz.prog 48 #[.agg #[pg,o,.string s,.slice A n c,.string (aa ex),al],.int .i64 (k:Int)] w fun e w'=>e= .returned (.int .u8 (gB ex l k))∧Below w.heap.size w w':=by
 have C:Hid (∀W (t:Nat),t∈cO→Below w.heap.size w W→Calls Tryz.prog 99 #[.string (aa ex),.int .u8 (t:Int)] W fun e w'=>e= .returned (.bool (gM t ex))∧Below W.heap.size W w'):=fun W t ht hb=>atB hx ht W (hG W hb)
 have CD:Hid (∀W,Below w.heap.size w W→Calls Tryz.prog 99 #[.string (aa ex),.int .u8 100] W fun e w'=>e= .returned (.bool (gM 100 ex))∧Below W.heap.size W w'):=fun W hb=>C.out W 100 (by simp[cO]) hb
 have CE:Hid (∀W,Below w.heap.size w W→Calls Tryz.prog 99 #[.string (aa ex),.int .u8 101] W fun e w'=>e= .returned (.bool (gM 101 ex))∧Below W.heap.size W w'):=fun W hb=>C.out W 101 (by simp[cO]) hb
 have CN:Hid (∀W,Below w.heap.size w W→Calls Tryz.prog 99 #[.string (aa ex),.int .u8 110] W fun e w'=>e= .returned (.bool (gM 110 ex))∧Below W.heap.size W w'):=fun W hb=>C.out W 110 (by simp[cO]) hb
 have CW:Hid (∀W,Below w.heap.size w W→Calls Tryz.prog 99 #[.string (aa ex),.int .u8 119] W fun e w'=>e= .returned (.bool (gM 119 ex))∧Below W.heap.size W w'):=fun W hb=>C.out W 119 (by simp[cO]) hb
 have hk1:k < l.length:=by rw[← hn];exact hk
 obtain⟨a,ha⟩:∃a,l[k]? =some a:=⟨_,List.getElem?_eq_getElem hk1⟩
 have HR:=zz (h.after (zo w.heap.size w))
 obtain⟨q,off,rfl,_,b0,b1,b2⟩:=h.o3 ha
 have HZ:Hid (∀t,t=Nf ex a (l.drop (k+1))→(t:Int)=(gB ex l k:Int)):=fun t ht=>Zi ha ht
 have HN:=zz hn
 have hni:(n:Int)≤1000:=by omega
 clear C hx hG ha hk1 hn hm h
 have H0:Hid (Bk (w.alloc (.cells #[pg,o,.string s,.slice (some ⟨q,off,none⟩) n c,.string (aa ex),al] 31)) w.heap.size 31 [pg,o,.string s,.slice (some ⟨q,off,none⟩) n c,.string (aa ex),al]∧Below w.heap.size w (w.alloc (.cells #[pg,o,.string s,.slice (some ⟨q,off,none⟩) n c,.string (aa ex),al] 31))):=⟨Bk.new w _ _,(zo _ _).alloc (zu _) _⟩
 have c0:=jY (.cells #[pg,o,.string s,.slice (some ⟨q,off,none⟩) n c,.string (aa ex),al] 31) b0
 have c1:=jY (.cells #[pg,o,.string s,.slice (some ⟨q,off,none⟩) n c,.string (aa ex),al] 31) b1
 have c2:=jY (.cells #[pg,o,.string s,.slice (some ⟨q,off,none⟩) n c,.string (aa ex),al] 31) b2
 obtain⟨k0,r0,n0⟩:=a
 simp only at b0 b1 b2 c0 c1 c2
 clear b0 b1 b2
 have H1:Hid (Bk ((w.alloc (.cells #[pg,o,.string s,.slice (some ⟨q,off,none⟩) n c,.string (aa ex),al] 31)).alloc (.cells #[.int .i64 k0,.int .i64 r0,.int .i64 n0] 65)) w.heap.size 31 [pg,o,.string s,.slice (some ⟨q,off,none⟩) n c,.string (aa ex),al]∧Below w.heap.size w ((w.alloc (.cells #[pg,o,.string s,.slice (some ⟨q,off,none⟩) n c,.string (aa ex),al] 31)).alloc (.cells #[.int .i64 k0,.int .i64 r0,.int .i64 n0] 65))):=⟨H0.out.1.alloc _,H0.out.2.alloc H0.out.2.size _⟩
 have H2:Hid (Bk ((w.alloc (.cells #[pg,o,.string s,.slice (some ⟨q,off,none⟩) n c,.string (aa ex),al] 31)).alloc (.cells #[.int .i64 k0,.int .i64 r0,.int .i64 n0] 65)) (w.heap.size+1) 65 [.int .i64 k0,.int .i64 r0,.int .i64 n0]):=by
  have:=Bk.new (w.alloc (.cells #[pg,o,.string s,.slice (some ⟨q,off,none⟩) n c,.string (aa ex),al] 31)) 65 [.int .i64 k0,.int .i64 r0,.int .i64 n0]
  rwa [World.size_alloc] at this
 unfold Nf at HZ
 generalize gM 100 ex=d100 at CD HZ
 generalize gM 101 ex=d101 at CE HZ
 generalize gM 110 ex=d110 at CN HZ
 generalize gM 119 ex=d119 at CW HZ
 by_cases h5:k0=5
 ·subst h5
  have HZ0:Hid (d100=true→(100:Int)=(gB ex l k:Int)):=fun e=>HZ.out 100 (by subst e;rfl)
  have HZ1:Hid (d100=false→(0:Int)=(gB ex l k:Int)):=fun e=>HZ.out 0 (by subst e;rfl)
  clear HZ CN CW CE
  cases d100
  ·have HZ:=zz (HZ1.out rfl)
   clear HZ0 HZ1
   go_enter Tryz.func48,Tryz.ntmps48
   go_wp2_with (go_at_call 99;refine (CD.out _ H1.out.2).mono ?_;rintro e w1 ⟨rfl,hb⟩;have HB1:=zz (H1.out.2.trans (hb.mono H1.out.2.size));have y0:=(H2.out.after hb).cell 0 rfl;clear hb)
   go_ret
   exact⟨kr HZ.out,HB1.out⟩
  ·have HZ:=zz (HZ0.out rfl)
   clear HZ0 HZ1
   go_enter Tryz.func48,Tryz.ntmps48
   go_wp2_with (go_at_call 99;refine (CD.out _ H1.out.2).mono ?_;rintro e w1 ⟨rfl,hb⟩;have HB1:=zz (H1.out.2.trans (hb.mono H1.out.2.size));have y0:=(H2.out.after hb).cell 0 rfl;clear hb)
   go_ret
   exact⟨kr HZ.out,HB1.out⟩
 have e5:(k0 == 5)=false:=beq_eq_false_iff_ne.2 h5
 by_cases h10:k0=10
 ·subst h10
  have HZ0:Hid (d101=true→(101:Int)=(gB ex l k:Int)):=fun e=>HZ.out 101 (by subst e;rfl)
  have HZ1:Hid (d101=false→(0:Int)=(gB ex l k:Int)):=fun e=>HZ.out 0 (by subst e;rfl)
  clear HZ CN CW CD
  cases d101
  ·have HZ:=zz (HZ1.out rfl)
   clear HZ0 HZ1
   go_enter Tryz.func48,Tryz.ntmps48
   go_wp2_with (go_at_call 99;refine (CE.out _ H1.out.2).mono ?_;rintro e w1 ⟨rfl,hb⟩;have HB1:=zz (H1.out.2.trans (hb.mono H1.out.2.size));have y0:=(H2.out.after hb).cell 0 rfl;clear hb)
   go_ret
   exact⟨kr HZ.out,HB1.out⟩
  ·have HZ:=zz (HZ0.out rfl)
   clear HZ0 HZ1
   go_enter Tryz.func48,Tryz.ntmps48
   go_wp2_with (go_at_call 99;refine (CE.out _ H1.out.2).mono ?_;rintro e w1 ⟨rfl,hb⟩;have HB1:=zz (H1.out.2.trans (hb.mono H1.out.2.size));have y0:=(H2.out.after hb).cell 0 rfl;clear hb)
   go_ret
   exact⟨kr HZ.out,HB1.out⟩
 have e10:(k0 == 10)=false:=beq_eq_false_iff_ne.2 h10
 by_cases h6:k0≠6∧k0≠7
 ·have HX:Hid ((0:Int)=(gB ex l k:Int)):=HZ.out 0 (by
   have h1:(k0 == 6)=false:=beq_eq_false_iff_ne.2 h6.1
   have h2:(k0 == 7)=false:=beq_eq_false_iff_ne.2 h6.2
   simp[isNum,e5,e10,h1,h2])
  have e6:(k0 != 6)=true:=bne_iff_ne.2 h6.1
  have e7:(k0 != 7)=true:=bne_iff_ne.2 h6.2
  clear h5 h10 h6 HZ CN CW CD CE
  go_enter Tryz.func48,Tryz.ntmps48
  go_wp2
  go_ret
  exact⟨kr HX.out,H1.out.2⟩
 have HI:Hid (isNum (k0,r0,n0)=true):=by
  unfold isNum Hid
  by_cases h:k0=6
  ·subst h;rfl
  ·have h7:k0=7:=Classical.byContradiction fun e=>h6 ⟨h,e⟩
   subst h7;rfl
 have HJ:Hid ((l.drop (k+1)).any isNum=true→(0:Int)=(gB ex l k:Int)):=fun e=>HZ.out 0 (by simp[e5,e10,HI.out,e])
 have HK:Hid ((l.drop (k+1)).any isNum=false→d110=true→(110:Int)=(gB ex l k:Int)):=fun e h=>HZ.out 110 (by simp[e5,e10,HI.out,e,h])
 have HL:Hid ((l.drop (k+1)).any isNum=false→d110=false→d119=true→(119:Int)=(gB ex l k:Int)):=fun e h h'=>HZ.out 119 (by simp[e5,e10,HI.out,e,h,h'])
 have HM:Hid ((l.drop (k+1)).any isNum=false→d110=false→d119=false→(0:Int)=(gB ex l k:Int)):=fun e h h'=>HZ.out 0 (by simp[e5,e10,HI.out,e,h,h'])
 clear h5 h10 HZ CD CE HI
 have e67:Hid (((k0 != 6)=true∧(k0 != 7)=false)∨(k0 != 6)=false):=by
  unfold Hid
  by_cases h:k0=6
  ·exact .inr (by subst h;rfl)
  ·have h7:k0=7:=Classical.byContradiction fun e=>h6 ⟨h,e⟩
   exact .inl ⟨bne_iff_ne.2 h,by subst h7;rfl⟩
 clear h6
 rcases e67.out with⟨e6,e7⟩ | e6 <;> clear e67
 all_goals
  go_enter Tryz.func48,Tryz.ntmps48
  go_wp2
  generalize ((w.alloc (.cells #[pg,o,.string s,.slice (some ⟨q,off,none⟩) n c,.string (aa ex),al] 31)).alloc (.cells #[.int .i64 k0,.int .i64 r0,.int .i64 n0] 65))=W0 at H1 H2 ⊢
  have x1:=H1.out.1.cell 3 rfl
  go_loop [6] (fun v=>∃m:Nat,v= .int .i64 (m:Int)∧k < m∧m≤n∧Hid (∀(j:Nat) (t:ay),k < j→j < m→l[j]? =some t→isNum t=false)) (fun v=>n - (intOf v).toNat)
  case atStart=>exact⟨k+1,by go_num,by omega,by omega,fun j _ h1 h2=>absurd h1 (by omega)⟩
  case round=>
   obtain⟨m,rfl,hkm,hmn,hr⟩:=hrel
   by_cases hlt:m < n
   ·have hm1:m < l.length:=by rw[← HN.out];exact hlt
    obtain⟨b,hb⟩:∃b,l[m]? =some b:=⟨_,List.getElem?_eq_getElem hm1⟩
    obtain⟨q',off',hq,_,f0,_,_⟩:=(HR.out.after H1.out.2).o3 hb
    obtain⟨rfl,rfl⟩:q=q'∧off=off':=by
     have:=Addr.mk.inj (zx hq)
     exact⟨this.1,this.2.1⟩
    have HY:Hid (isNum b=true→(0:Int)=(gB ex l k:Int)):=fun e=>HJ.out (List.any_eq_true.2 ⟨b,by
     rw[List.mem_iff_getElem?]
     refine⟨m - (k+1),?_⟩
     rw[List.getElem?_drop,show k+1+(m - (k+1))=m by omega]
     exact hb,e⟩)
    have HV:Hid (isNum b=false→∀(j:Nat) (t:ay),k < j→j < m+1→l[j]? =some t→isNum t=false):=fun e j t h1 h2 h3=>by
     by_cases hj:j=m
     ·subst hj
      rw[hb] at h3
      rw[← Option.some.inj h3];exact e
     ·exact hr.out j t h1 (by omega) h3
    have HF:Hid (((b.1 == 6)=true∧isNum b=true)∨((b.1 == 6)=false∧(((b.1 == 7)=true∧isNum b=true)∨((b.1 == 7)=false∧isNum b=false)))):=by
     unfold isNum Hid
     cases (b.1 == 6) <;> cases (b.1 == 7) <;> simp
    clear hb hq
    generalize isNum b=bb at HY HV HF
    generalize b.1=kb at f0 HF
    rcases HF.out with⟨d1,rfl⟩ | ⟨d1,⟨d2,rfl⟩ | ⟨d2,rfl⟩⟩ <;> clear HF
    ·have HX:=zz (HY.out rfl)
     clear HY HV
     go_wp2
     go_ret
     exact⟨kr HX.out,H1.out.2⟩
    ·have HX:=zz (HY.out rfl)
     clear HY HV
     go_wp2
     go_ret
     exact⟨kr HX.out,H1.out.2⟩
    ·have HX:=zz (HV.out rfl)
     clear HY HV
     go_wp2
     go_round
     case rel=>exact⟨m+1,by go_num,by omega,by omega,HX.out⟩
     case measure=>simp[intOf];omega
   ·have HA:Hid ((l.drop (k+1)).any isNum=false):=by
     show _=_
     rw[List.any_eq_false]
     intro t ht
     obtain⟨j,hj⟩:=List.mem_iff_getElem?.1 ht
     rw[List.getElem?_drop] at hj
     have:=(List.getElem?_eq_some_iff.1 hj).1
     have:=hr.out (k+1+j) t (by omega) (by have:=HN.out;omega) hj
     simp[this]
    have HK':=zz (HK.out HA.out)
    have HL':=zz (HL.out HA.out)
    have HM':=zz (HM.out HA.out)
    clear HJ HK HL HM HA hr
    have x4:=H1.out.1.cell 4 rfl
    cases d110
    ·cases d119
     ·have HX:=zz (HM'.out rfl rfl)
      clear HK' HL' HM'
      go_wp2_with (first
       |(go_at_call 99;refine (CW.out _ HB1.out).mono ?_;rintro e w2 ⟨rfl,hb⟩;have HB2:=zz (HB1.out.trans (hb.mono HB1.out.size));clear hb)
       |(go_at_call 99;refine (CN.out _ H1.out.2).mono ?_;rintro e w1 ⟨rfl,hb⟩;have HB1:=zz (H1.out.2.trans (hb.mono H1.out.2.size));have y4:=(H1.out.1.after hb).cell 4 rfl;clear hb))
      go_ret
      exact⟨kr HX.out,HB2.out⟩
     ·have HX:=zz (HL'.out rfl rfl)
      clear HK' HL' HM'
      go_wp2_with (first
       |(go_at_call 99;refine (CW.out _ HB1.out).mono ?_;rintro e w2 ⟨rfl,hb⟩;have HB2:=zz (HB1.out.trans (hb.mono HB1.out.size));clear hb)
       |(go_at_call 99;refine (CN.out _ H1.out.2).mono ?_;rintro e w1 ⟨rfl,hb⟩;have HB1:=zz (H1.out.2.trans (hb.mono H1.out.2.size));have y4:=(H1.out.1.after hb).cell 4 rfl;clear hb))
      go_ret
      exact⟨kr HX.out,HB2.out⟩
    ·have HX:=zz (HK'.out rfl)
     clear HK' HL' HM'
     go_wp2_with (go_at_call 99;refine (CN.out _ H1.out.2).mono ?_;rintro e w1 ⟨rfl,hb⟩;have HB1:=zz (H1.out.2.trans (hb.mono H1.out.2.size));have y4:=(H1.out.1.after hb).cell 4 rfl;clear hb)
     go_ret
     exact⟨kr HX.out,HB1.out⟩
theorem Xm {t:Nat}{z:Int}(ht:t∈cO)(w:World):
 Calls Tryz.prog 49 #[.int .u8 (t:Int),.int .i64 z] w fun e w'=>e= .returned (.bool (qU (uW t).1 (uW t).2 z))∧w=w':=by
 simp only[cO,List.mem_cons,List.not_mem_nil,or_false] at ht
 rcases ht with rfl | rfl | rfl | rfl
 ·show Calls Tryz.prog 49 #[.int .u8 100,.int .i64 z] w fun e w'=>e= .returned (.bool (decide (-128≤z) && decide (z≤127)))∧w=w'
  cases h1:decide (-128≤z) <;> cases h2:decide (z≤127)
  all_goals
   go_enter Tryz.func49,Tryz.ntmps49
   go_wp2
   go_ret
   exact⟨rfl,rfl⟩
 ·show Calls Tryz.prog 49 #[.int .u8 101,.int .i64 z] w fun e w'=>e= .returned (.bool (decide (-128≤z) && decide (z≤127)))∧w=w'
  cases h1:decide (-128≤z) <;> cases h2:decide (z≤127)
  all_goals
   go_enter Tryz.func49,Tryz.ntmps49
   go_wp2
   go_ret
   exact⟨rfl,rfl⟩
 ·show Calls Tryz.prog 49 #[.int .u8 110,.int .i64 z] w fun e w'=>e= .returned (.bool (decide (0≤z) && decide (z≤255)))∧w=w'
  cases h1:decide (0≤z) <;> cases h2:decide (z≤255)
  all_goals
   go_enter Tryz.func49,Tryz.ntmps49
   go_wp2
   go_ret
   exact⟨rfl,rfl⟩
 ·show Calls Tryz.prog 49 #[.int .u8 119,.int .i64 z] w fun e w'=>e= .returned (.bool (decide (0≤z) && decide (z≤65535)))∧w=w'
  cases h1:decide (0≤z) <;> cases h2:decide (z≤65535)
  all_goals
   go_enter Tryz.func49,Tryz.ntmps49
   go_wp2
   go_ret
   exact⟨rfl,rfl⟩
end Go.Proofs.YtceaodnohnekkaaGreatDoor
namespace Go.Proofs.YtceaodnohnekkaaGreatDoor.Ex
open Go.RowKit
noncomputable def Xq (g:Nat)(pg o nm al:Value)(cs:List AV)(x:List Nat):Option (AV×AW):=
 aj EN g [.agg [.raw pg,.raw o,.raw nm,uP cs,.str x,.raw al]] (Ew cs)
def agm:AV→Bool
 | .fn _ _ _=>true
 | .raw v=>v.oneCell'
 |_=>false
theorem agl {ρ:Env}{f:AV}(h:agm f=true):(cv ρ f).oneCell'=true:=by
 unfold agm at h
 split at h
 ·simp only[cv];rfl
 ·simpa only[cv] using h
 ·cases h
def agc:Option (AV×AW)→Option (Option Vr)
 |some (.tuple [.agg [.int .i64 i,f],.bool b],W)=>match W.az with
  |[]=>match b with
   |false=>cond (agm f) (some none) none
   |true=>match i with
    | .ofNat k=>match f with
      | .fn (.func g) [] [.ptr b1 0,.ptr b2 0]=>cond (Nat.beq g 201) (match au b1 W.bl with
        |some (.cells [.int .i64 lo] _ none)=>match au b2 W.bl with
         |some (.cells [.int .i64 hi] _ none)=>some (some (k,lo,hi))
         |_=>none
        |_=>none) none
      |_=>none
    |_=>none
  |_=>none
 |_=>none
def kD (ks ex:List Nat):Prop:=∀(pg o:Int) (nm:ByteArray) (al:Bool) (rs ns:Nat→Int),
 agc (Xq 78 (.int .i64 pg) (.int .u8 o) (.string nm) (.bool al) (lh 0 ks rs ns) ex)=some (ry ks ex)∧agc (Xq 79 (.int .i64 pg) (.int .u8 o) (.string nm) (.bool al) (lh 0 ks rs ns) ex)=some (Dp ks ex)
def EC (W:World)(v:Option Vr)(f:Value):Prop:=∀y,v=some y→∃b1 b2 T1 T2,f= .func (.func 201) #[] #[.pointer (some ⟨b1,0,none⟩),.pointer (some ⟨b2,0,none⟩)]∧W.heap[b1]? =some (.cells #[.int .i64 y.2.1] T1 (0,0))∧W.heap[b2]? =some (.cells #[.int .i64 y.2.2] T2 (0,0))
theorem afR {w0 w:World}(hG:gJ w0)(hb0:Below w0.heap.size w0 w){ks:List Nat}{rs ns:Nat→Int}{A:Option Addr}{c:Nat}(hA:eX w0.heap.size w A c (aG iy (lh 0 ks rs ns))):
 ∃ρ,aO w0 ρ (Ew (lh 0 ks rs ns)) w∧(uP (lh 0 ks rs ns)).ok (Ew (lh 0 ks rs ns)).nx∧cv ρ (uP (lh 0 ks rs ns))= .slice A ks.length c:=by
 cases ks with
 |nil=>
  rcases hA with⟨_,rfl,rfl⟩ | ⟨h0,_⟩
  ·exact⟨iy,⟨hb0,fun b k hb=>(by cases hb),fun b b' k k' hb=>(by cases hb),fun b k hb=>(by cases hb),List.nodup_nil,hG⟩,trivial,rfl⟩
  ·exact (h0 rfl).elim
 |cons k ks=>
  rcases hA with⟨h0,_⟩ | ⟨_,q,nn,cur,rfl,hB,hh,h2,h3,h4,h5,h6⟩
  ·cases h0
  ·let ρ:Env:=⟨fun _=>q,fun _=>c,fun _=>(⟨0,0,none⟩,0)⟩
   have hbl:∀b kk,au b (Ew (lh 0 (k::ks) rs ns)).bl=some kk→b=0∧kk= .cells (lh 0 (k::ks) rs ns) 65 (some 3):=fun b kk hb=>by
    by_cases hb0:b=0
    ·subst hb0
     exact⟨rfl,(zx (hb.symm.trans (aC _ _ _)))⟩
    ·have:=hb.symm.trans (aI _ _ fun e=>hb0 e.symm)
     cases this
   refine⟨ρ,⟨hb0,fun b kk hb=>?_,fun b b' kk kk' h1 h2 _=>?_,fun b kk hb=>?_,List.nodup_cons.2 ⟨List.not_mem_nil,List.nodup_nil⟩,hG⟩,Nat.zero_lt_one,?_⟩
   ·obtain⟨rfl,rfl⟩:=hbl b kk hb
    exact⟨Nat.zero_lt_one,Ej _ _ _ _ _,hB,lt_of_heap hh⟩
   ·rw[(hbl b kk h1).1,(hbl b' kk' h2).1]
   ·obtain⟨rfl,rfl⟩:=hbl b kk hb
    refine⟨nn,cur,hh,h2,h3,h4,?_,?_⟩
    ·rw[← h5,ak]
    ·rw[h6];exact En _ _ _ _ _ _
   ·show cv ρ (.slice 0 0 0 (Nat.div (lh 0 (k::ks) rs ns).length 3) none)=_
    rw[Em]
    simp only[cv,Nat.sub_zero]
    show Value.slice _ (3 * (k::ks).length / 3) _=_
    rw[Nat.mul_div_cancel_left _ (by omega)]
theorem Ah {w0 w:World}(hG:gJ w0)(hb0:Below w0.heap.size w0 w){g:Nat}{pg o nm al:Value}{ks ex:List Nat}{rs ns:Nat→Int}{A:Option Addr}{c:Nat}(hA:eX w0.heap.size w A c (aG iy (lh 0 ks rs ns))){v:Option Vr}
 (h:agc (Xq g pg o nm al (lh 0 ks rs ns) ex)=some v):
 Calls Tryz.prog g #[.agg #[pg,o,nm,.slice A ks.length c,.string (aa ex),al]] w fun e w'=>∃idx f there,e= .returned (.tuple #[.agg #[.int .i64 idx,f],.bool there])∧(iY w' v idx f there∧EC w' v f∧f.oneCell'=true)∧Below w.heap.size w w':=by
 obtain⟨ρ,hW,hok,hv⟩:=afR hG hb0 hA
 unfold agc at h
 split at h
 case h_2=>cases h
 case h_1 i f b W' hq=>
 split at h
 case h_2=>cases h
 case h_1 hm=>
 obtain⟨_,_,q3⟩:=bD gN mg _ _ _ _ _ hq
 have hc:=q3 w0 ρ w ⟨⟨trivial,trivial,trivial,hok,trivial,trivial,trivial⟩,trivial⟩ hW
 have ea:(aG ρ [.agg [.raw pg,.raw o,.raw nm,uP (lh 0 ks rs ns),.str ex,.raw al]]).toArray=#[.agg #[pg,o,nm,.slice A ks.length c,.string (aa ex),al]]:=by
  simp only[aG,cv,hv]
 rw[ea] at hc
 refine hc.mono ?_
 rintro e w' ⟨ρ',rfl,hP,_⟩
 refine⟨i,cv ρ' f,b,rfl,?_,hP.ib hm⟩
 split at h
 ·cases ho:agm f with
  |false=>rw[ho] at h;cases h
  |true=>
  rw[ho] at h
  obtain rfl:=zx h
  exact⟨rfl,fun y hy=>(by cases hy),agl ho⟩
 ·split at h
  case h_2=>cases h
  case h_1 k=>
  split at h
  case h_2=>cases h
  case h_1 g' b1 b2=>
  cases hg:Nat.beq g' 201 with
  |false=>rw[hg] at h;cases h
  |true=>
  rw[hg] at h
  obtain rfl:=(beq_iff _ _).1 hg
  simp only[cond_true] at h
  split at h
  case h_2=>cases h
  case h_1 lo e1 hb1=>
  split at h
  case h_2=>cases h
  case h_1 hi e2 hb2=>
  obtain rfl:=zx h
  have r1:w'.heap[ρ'.blk b1]? =some (.cells (aG ρ' [.int .i64 lo]).toArray e1 (0,0)):=hP.rep.rep b1 _ hb1
  have r2:w'.heap[ρ'.blk b2]? =some (.cells (aG ρ' [.int .i64 hi]).toArray e2 (0,0)):=hP.rep.rep b2 _ hb2
  refine⟨⟨rfl,rfl,ρ'.blk b1,ρ'.blk b2,?_,?_,?_⟩,fun y hy=>?_,by simp only[cv];rfl⟩
  ·simp only[cv,aG]
  ·simp[World.cell?,r1,aG,cv]
  ·simp[World.cell?,r2,aG,cv]
  ·obtain rfl:=zx hy
   exact⟨ρ'.blk b1,ρ'.blk b2,e1,e2,by simp only[cv,aG],by simpa only[aG,cv] using r1,by simpa only[aG,cv] using r2⟩
theorem avu:kD [] []:=fun _ _ _ _ _ _=>⟨by kernel_rfl,by kernel_rfl⟩
theorem avt:kD [3,6] [119]:=fun _ _ _ _ _ _=>⟨by kernel_rfl,by kernel_rfl⟩
theorem avs:kD [4,1] []:=fun _ _ _ _ _ _=>⟨by kernel_rfl,by kernel_rfl⟩
theorem avr:kD [3] []:=fun _ _ _ _ _ _=>⟨by kernel_rfl,by kernel_rfl⟩
theorem avq:kD [1] []:=fun _ _ _ _ _ _=>⟨by kernel_rfl,by kernel_rfl⟩
theorem avp:kD [1,6] [110]:=fun _ _ _ _ _ _=>⟨by kernel_rfl,by kernel_rfl⟩
theorem avo:kD [3,3] []:=fun _ _ _ _ _ _=>⟨by kernel_rfl,by kernel_rfl⟩
theorem avn:kD [1,4] []:=fun _ _ _ _ _ _=>⟨by kernel_rfl,by kernel_rfl⟩
theorem avm:kD [10] [101]:=fun _ _ _ _ _ _=>⟨by kernel_rfl,by kernel_rfl⟩
theorem avl:kD [8,10] [101]:=fun _ _ _ _ _ _=>⟨by kernel_rfl,by kernel_rfl⟩
theorem apN:kD [7,3] [119]:=fun _ _ _ _ _ _=>⟨by kernel_rfl,by kernel_rfl⟩
theorem apM:kD [3,7] [119]:=fun _ _ _ _ _ _=>⟨by kernel_rfl,by kernel_rfl⟩
theorem apL:kD [7,1] [119]:=fun _ _ _ _ _ _=>⟨by kernel_rfl,by kernel_rfl⟩
theorem apK:kD [4] []:=fun _ _ _ _ _ _=>⟨by kernel_rfl,by kernel_rfl⟩
theorem apJ:kD [4,6] [110]:=fun _ _ _ _ _ _=>⟨by kernel_rfl,by kernel_rfl⟩
theorem apI:kD [1,7] [119]:=fun _ _ _ _ _ _=>⟨by kernel_rfl,by kernel_rfl⟩
theorem apH:kD [1,1] []:=fun _ _ _ _ _ _=>⟨by kernel_rfl,by kernel_rfl⟩
theorem apG:kD [8] []:=fun _ _ _ _ _ _=>⟨by kernel_rfl,by kernel_rfl⟩
theorem apF:kD [8,6] [119]:=fun _ _ _ _ _ _=>⟨by kernel_rfl,by kernel_rfl⟩
theorem apE:kD [6] [119]:=fun _ _ _ _ _ _=>⟨by kernel_rfl,by kernel_rfl⟩
theorem apD:kD [6] []:=fun _ _ _ _ _ _=>⟨by kernel_rfl,by kernel_rfl⟩
theorem apC:kD [7,1] [110]:=fun _ _ _ _ _ _=>⟨by kernel_rfl,by kernel_rfl⟩
theorem apB:kD [6] [110]:=fun _ _ _ _ _ _=>⟨by kernel_rfl,by kernel_rfl⟩
theorem apA:kD [1,7] [110]:=fun _ _ _ _ _ _=>⟨by kernel_rfl,by kernel_rfl⟩
theorem apz:kD [4,3] []:=fun _ _ _ _ _ _=>⟨by kernel_rfl,by kernel_rfl⟩
theorem apy:kD [6,1] []:=fun _ _ _ _ _ _=>⟨by kernel_rfl,by kernel_rfl⟩
theorem apx:kD [6,4] []:=fun _ _ _ _ _ _=>⟨by kernel_rfl,by kernel_rfl⟩
theorem apw:kD [9,1] []:=fun _ _ _ _ _ _=>⟨by kernel_rfl,by kernel_rfl⟩
theorem apv:kD [1,9] []:=fun _ _ _ _ _ _=>⟨by kernel_rfl,by kernel_rfl⟩
theorem apu:kD [4,6] []:=fun _ _ _ _ _ _=>⟨by kernel_rfl,by kernel_rfl⟩
theorem apt:kD [2] []:=fun _ _ _ _ _ _=>⟨by kernel_rfl,by kernel_rfl⟩
theorem aps:kD [2,6] [110]:=fun _ _ _ _ _ _=>⟨by kernel_rfl,by kernel_rfl⟩
theorem apr:kD [5] [100]:=fun _ _ _ _ _ _=>⟨by kernel_rfl,by kernel_rfl⟩
theorem apq:kD [5,6] [100,110]:=fun _ _ _ _ _ _=>⟨by kernel_rfl,by kernel_rfl⟩
theorem apo:kD [1,2] []:=fun _ _ _ _ _ _=>⟨by kernel_rfl,by kernel_rfl⟩
theorem apn:kD [1,5] [100]:=fun _ _ _ _ _ _=>⟨by kernel_rfl,by kernel_rfl⟩
theorem apm:kD [2,1] []:=fun _ _ _ _ _ _=>⟨by kernel_rfl,by kernel_rfl⟩
theorem apl:kD [2,2] []:=fun _ _ _ _ _ _=>⟨by kernel_rfl,by kernel_rfl⟩
theorem apk:kD [5,1] [100]:=fun _ _ _ _ _ _=>⟨by kernel_rfl,by kernel_rfl⟩
theorem apj:kD [6,5] [100]:=fun _ _ _ _ _ _=>⟨by kernel_rfl,by kernel_rfl⟩
theorem api:kD [6,5,1] [100]:=fun _ _ _ _ _ _=>⟨by kernel_rfl,by kernel_rfl⟩
def KQ:List (List Nat×List Nat):=[([],[]),([3,6],[119]),([4,1],[]),([3],[]),([1],[]),([1,6],[110]),([3,3],[]),([1,4],[]),([10],[101]),([8,10],[101]),([7,3],[119]),([3,7],[119]),([7,1],[119]),([4],[]),([4,6],[110]),([1,7],[119]),([1,1],[]),([8],[]),([8,6],[119]),([6],[119]),([6],[]),([7,1],[110]),([6],[110]),([1,7],[110]),([4,3],[]),([6,1],[]),([6,4],[]),([9,1],[]),([1,9],[]),([4,6],[]),([2],[]),([2,6],[110]),([5],[100]),([5,6],[100,110]),([1,2],[]),([1,5],[100]),([2,1],[]),([2,2],[]),([5,1],[100]),([6,5],[100]),([6,5,1],[100])]
def Xp (a b:List Nat):List (List Nat×List Nat)→Bool
 |[]=>false
 |x::l=>cond (jS a x.1) (cond (jS b x.2) true (Xp a b l)) (Xp a b l)
theorem wy {a b:List Nat}:∀{l:List (List Nat×List Nat)},Xp a b l=true→(a,b)∈l
 |[],h=>by cases h
 |x::l,h=>by
  unfold Xp at h
  cases h1:jS a x.1 with
  |false=>rw[h1] at h;exact zm _ (wy h)
  |true=>
   cases h2:jS b x.2 with
   |false=>rw[h1,h2] at h;exact zm _ (wy h)
   |true=>
    obtain rfl:=fA h1
    obtain rfl:=fA h2
    exact zn
theorem SI:∀x,x∈KQ→kD x.1 x.2:=by
 intro x hx
 simp only[KQ,List.mem_cons,List.not_mem_nil,or_false] at hx
 rcases hx with rfl | rfl | rfl | rfl | rfl | rfl | rfl | rfl | rfl | rfl | rfl | rfl | rfl | rfl | rfl | rfl | rfl | rfl | rfl | rfl | rfl | rfl | rfl | rfl | rfl | rfl | rfl | rfl | rfl | rfl | rfl | rfl | rfl | rfl | rfl | rfl | rfl | rfl | rfl | rfl | rfl
 ·exact avu
 ·exact avt
 ·exact avs
 ·exact avr
 ·exact avq
 ·exact avp
 ·exact avo
 ·exact avn
 ·exact avm
 ·exact avl
 ·exact apN
 ·exact apM
 ·exact apL
 ·exact apK
 ·exact apJ
 ·exact apI
 ·exact apH
 ·exact apG
 ·exact apF
 ·exact apE
 ·exact apD
 ·exact apC
 ·exact apB
 ·exact apA
 ·exact apz
 ·exact apy
 ·exact apx
 ·exact apw
 ·exact apv
 ·exact apu
 ·exact apt
 ·exact aps
 ·exact apr
 ·exact apq
 ·exact apo
 ·exact apn
 ·exact apm
 ·exact apl
 ·exact apk
 ·exact apj
 ·exact api
def ahP (_p _o:Nat)(d:aJ):Bool:=match d.1 with
 |1=>Xp (bM d.2.2.2.2) d.2.2.1 KQ
 |_=>true
theorem SE:allT ahP 0 Ga=true:=by kernel_rfl
theorem aph {p o:Nat}{d:aJ}(hd:gL p o=some d)(hk:d.1=1):kD (bM d.2.2.2.2) d.2.2.1:=by
 have h:=gp SE hd
 unfold ahP at h
 rw[hk] at h
 exact SI (bM d.2.2.2.2,d.2.2.1) (wy h)
theorem Cq {w0 w:World}(hG:gJ w0)(hb0:Below w0.heap.size w0 w){p o:Nat}{d:aJ}(hd:gL p o=some d)(hk:d.1=1){A:Option Addr}{c:Nat}(hA:eX w0.heap.size w A c (lQ d)):
 (Calls Tryz.prog 78 #[Xe p o d A c] w fun e w'=>∃idx f there,e= .returned (.tuple #[.agg #[.int .i64 idx,f],.bool there])∧(iY w' (ry (bM d.2.2.2.2) d.2.2.1) idx f there∧EC w' (ry (bM d.2.2.2.2) d.2.2.1) f∧f.oneCell'=true)∧Below w.heap.size w w')∧
 (Calls Tryz.prog 79 #[Xe p o d A c] w fun e w'=>∃idx f there,e= .returned (.tuple #[.agg #[.int .i64 idx,f],.bool there])∧(iY w' (Dp (bM d.2.2.2.2) d.2.2.1) idx f there∧EC w' (Dp (bM d.2.2.2.2) d.2.2.1) f∧f.oneCell'=true)∧Below w.heap.size w w'):=by
 obtain⟨rs,ns,h1,h2⟩:=NH d.2.2.2.2 0 ((beq_iff _ _).1 (gp Jf hd))
 obtain⟨v1,v2⟩:=aph hd hk (p:Int) (o:Int) (aa d.2.1) d.2.2.2.1 rs ns
 have c1:=Ah hG hb0 (A:=A) (c:=c) (by rw[h1];exact hA) v1
 have c2:=Ah hG hb0 (A:=A) (c:=c) (by rw[h1];exact hA) v2
 rw[h2] at c1 c2
 exact⟨c1,c2⟩
def Nc (x n:Int):List Nat→List UInt8
 |[]=>[]
 |c::l=>cond (Nat.beq c 100) (pU x::Nc x n l) (cond (Nat.beq c 119) (pU n::pU (n.fdiv 256)::Nc x n l) (pU n::Nc x n l))
def aoh (p o:Nat)(ex:List Nat)(x n:Int):List UInt8:=(bL p).map UInt8.ofNat++cond (Nat.ble 5 p) (pU x::UInt8.ofNat o::Nc x n ex.tail) (UInt8.ofNat o::Nc x n ex)
theorem RI (ρ:Env)(z:Int):cv ρ (Ja z)= .int .u8 ((pU z).toNat:Int):=by
 rw[xy];rfl
theorem RL (ρ:Env)(x n:Int):∀ex:List Nat,aG ρ (uX x n ex)=bs (Nc x n ex)
 |[]=>rfl
 |c::l=>by
  unfold uX Nc
  cases Nat.beq c 100 <;> cases Nat.beq c 119 <;> simp only[cond_true,cond_false,aG,RI,RL ρ x n l,bs,List.map_cons]
theorem af7 (p:Nat):∀c∈bL p,c < 256:=by
 intro c hc
 unfold bL at hc
 split at hc <;> simp at hc <;> omega
theorem Xw (ρ:Env):∀l:List Nat,(∀c∈l,c < 256)→aG ρ (SS l)=bs (l.map UInt8.ofNat)
 |[],_=>rfl
 |c::l,h=>by
  have hc:=h c zn
  have e:((UInt8.ofNat c).toNat:Int)=(c:Int):=by
   rw[UInt8.toNat_ofNat']
   omega
  simp only[SS,aG,cv,Xw ρ l fun c hc=>h c (List.mem_cons_of_mem _ hc),bs,List.map_cons,e]
  rfl
theorem ahf (p:Nat){o:Nat}(ho:o < 256)(ex:List Nat)(x n:Int):aG iy (D5 p (.int .u8 (o:Int)) ex x n)=bs (aoh p o ex x n):=by
 have e:((UInt8.ofNat o).toNat:Int)=(o:Int):=by
  rw[UInt8.toNat_ofNat']
  omega
 unfold D5 aoh
 rw[nL,Xw _ _ (af7 p),BV]
 cases Nat.ble 5 p <;> simp only[cond_true,cond_false,aG,RI,cv,RL,bs,List.map_cons,e]
def aoi (p o:Nat)(ex:List Nat)(x n:Int):List UInt8:=if LX ex x n=true then aoh p o ex x n else []
theorem ahq (p:Nat){o:Nat}(ho:o < 256)(ex:List Nat)(x n:Int):jg p (.int .u8 (o:Int)) ex x n=bs (aoi p o ex x n):=by
 unfold jg aoi
 split
 ·exact ahf p ho ex x n
 ·rfl
def acv (p:Nat)(ex:List Nat):Bool:=cond (Nat.ble 5 p) (jS ex [100]) (jS ex [] || jS ex [110] || jS ex [101] || jS ex [119] || jS ex [100] || jS ex [100,110])
def oOk (p o:Nat):Bool:=match p with
 |0=>!(Nat.beq o 203) && !(Nat.beq o 237) && !(Nat.beq o 221) && !(Nat.beq o 253)
 |3=>!(Nat.beq o 203)
 |4=>!(Nat.beq o 203)
 |_=>true
def aiP (p o:Nat)(d:aJ):Bool:=match d.1 with
 |1=>acv p d.2.2.1 && oOk p o && Nat.blt p 7 && Nat.blt o 256
 |_=>Nat.blt p 7 && Nat.blt o 256
theorem VA:allT aiP 0 Ga=true:=by kernel_rfl
theorem acC {p o:Nat}{d:aJ}(hd:gL p o=some d)(hk:d.1=1):acv p d.2.2.1=true∧oOk p o=true∧p < 7∧o < 256:=by
 have h:=gp VA hd
 obtain⟨k,nm,ex,al,cs⟩:=d
 obtain rfl:k=1:=hk
 simp only[aiP,Bool.and_eq_true] at h
 exact⟨h.1.1.1,h.1.1.2,aT h.1.2,aT h.2⟩
theorem awt (n:Int):n.fdiv 256=n / 256:=Int.fdiv_eq_ediv_of_nonneg _ (by omega)
theorem jE {ex:List Nat}{x n a b c d:Int}(h:LX ex x n=true)(hd:wO ex=(a,b))(hn:wN ex=(c,d)):(a≤x∧x≤b)∧(c≤n∧n≤d):=by
 unfold LX at h
 rw[hd,hn] at h
 simpa only[Bool.and_eq_true,decide_eq_true_eq] using h
end Go.Proofs.YtceaodnohnekkaaGreatDoor.Ex
