/- Parts of the proof of TopLines. -/
import Derived.Test.YtpjjgpjhpobkiaaGreatDoorMX2
import Derived.Test.YtpjjgpjhpobkiaaGreatDoorML1
import Derived.Test.YtpjjgpjhpobkiaaGreatDoorML2
import Derived.Test.YtpjjgpjhpobkiaaGreatDoorML3
import Derived.Test.YtpjjgpjhpobkiaaGreatDoorML4
import Derived.Test.YtpjjgpjhpobkiaaGreatDoorMMw
namespace Go.Proofs.YtpjjgpjhpobkiaaGreatDoor
namespace Ex
open Go.RowKit
theorem cO {p:List Nat}{rl:List (List Nat)}{a n op:Nat}(h:((List.range' a n).all (fT p rl))=true)(h1:a≤op)(h2:op < a+n):dx S1 247 [.str p,.int .u8 (.ofNat op)] ⟨0,[],[],bE⟩=some (o9 rl op,⟨6,[],[],bE⟩):=
 TG (zY.1 h op (List.mem_range'_1.2 ⟨h1,h2⟩))
theorem Cr (op:Nat)(h:op < 256):dx S1 247 [.str dN,.int .u8 (.ofNat op)] ⟨0,[],[],bE⟩=some (o9 bY op,⟨6,[],[],bE⟩):=by
 rcases zP op 32 with h0|h0
 ·exact cO ad6 zy zy
 rcases zP op 64 with h32|h32
 ·exact cO Zk zy zy
 rcases zP op 96 with h64|h64
 ·exact cO Zj zy zy
 rcases zP op 128 with h96|h96
 ·exact cO Zi zy zy
 rcases zP op 160 with h128|h128
 ·exact cO Vu zy zy
 rcases zP op 192 with aja|aja
 ·exact cO Vt zy zy
 rcases zP op 224 with ai9|ai9
 ·exact cO Vs zy zy
 exact cO Vq zy zy
theorem aa9 (op:Nat)(h:op < 256):dx S1 247 [.str oW,.int .u8 (.ofNat op)] ⟨0,[],[],bE⟩=some (o9 lL op,⟨6,[],[],bE⟩):=by
 rcases zP op 128 with h0|h0
 ·exact cO ams zy zy
 exact cO aeb zy zy
theorem agL (op:Nat)(h:op < 256):dx S1 247 [.str kR,.int .u8 (.ofNat op)] ⟨0,[],[],bE⟩=some (o9 jG op,⟨6,[],[],bE⟩):=by
 rcases zP op 32 with h0|h0
 ·exact cO amr zy zy
 rcases zP op 64 with h32|h32
 ·exact cO aiC zy zy
 rcases zP op 96 with h64|h64
 ·exact cO aiB zy zy
 rcases zP op 128 with h96|h96
 ·exact cO aiA zy zy
 rcases zP op 160 with h128|h128
 ·exact cO aea zy zy
 rcases zP op 192 with aja|aja
 ·exact cO ad9 zy zy
 rcases zP op 224 with ai9|ai9
 ·exact cO ad8 zy zy
 exact cO ad7 zy zy
def Zg:BP
 |[.str l,.int .u8 (.ofNat op)]=>cond (Nat.blt op 256) (cond (gH l dN) (some (o9 bY op,⟨6,[],[],bE⟩)) (cond (gH l oW) (some (o9 lL op,⟨6,[],[],bE⟩)) (cond (gH l kR) (some (o9 jG op,⟨6,[],[],bE⟩)) none))) none
 |_=>none
theorem Zf:ai Tryz.prog (eH bE 247 Zg):=M0 (aT fB BO) bE _ _ fun args v W h=>by
 unfold Zg at h;split at h
 case h_2=>cases h
 case h_1 l op=>
 cases hop:Nat.blt op 256 with
 |false=>rw[hop] at h;cases h
 |true=>
 rw[hop] at h;simp only[cond_true] at h;have hop:=aK hop;refine⟨rfl,?_⟩
 cases h1:gH l dN with
 |true=>
  rw[h1] at h;obtain rfl:=bJ h1;rw[Cr op hop];exact h
 |false=>
 cases h2:gH l oW with
 |true=>
  rw[h1,h2] at h;obtain rfl:=bJ h2;rw[aa9 op hop];exact h
 |false=>
 cases h3:gH l kR with
 |true=>
  rw[h1,h2,h3] at h;obtain rfl:=bJ h3;rw[agL op hop];exact h
 |false=>rw[h1,h2,h3] at h;cases h
def p9:aj:=qX (eH bE 247 Zg) abJ
theorem p8:ai Tryz.prog p9:=bN Zf WB
def ac3:List AV→Option (List (List Nat))
 |[]=>some []
 | .str l::r=>cond (Nat.ble l.length 1099511627776) ((ac3 r).map (l:: ·)) none
 |_::_=>none
def aam (x:Nat):List Nat→Bool
 |[]=>false
 |l=>AB l x 0 8
def Ww (x:Nat):List (List Nat)→Bool
 |[]=>false
 |l::r=>cond (aam x l) true (Ww x r)
theorem VP (x:Nat)(l:List Nat):AA (ag l) x=aam x l:=by
 unfold AA;have e1:(ag l).data.toList=l.map UInt8.ofNat:=by simp[ag]
 have e2:EE (l.map UInt8.ofNat) x=AB l x 0 8:=by
  rw[Kb];unfold EE;simp
 rw[e1,e2,aC]
 cases l with
 |nil=>rfl
 |cons c l=>simp[aam]
theorem Gx {ρ:Env}:∀{vs:List AV} {ls:List (List Nat)},ac3 vs=some ls→aH ρ vs=FE (ls.map ag)∧ls.length=vs.length∧∀s,s∈ls.map ag→s.size≤maxLen
 |[],ls,h=>by
  obtain rfl:=zq h;exact⟨rfl,rfl,fun s hs=>by cases hs⟩
 |v::r,ls,h=>by
  unfold ac3 at h;split at h
  ·rename_i e;cases e
  ·rename_i l r' e;obtain⟨rfl,rfl⟩:=yP e
   cases hb:Nat.ble l.length 1099511627776 with
   |false=>rw[hb] at h;cases h
   |true=>
    rw[hb] at h;have hb:=zk hb;obtain⟨m,hm,rfl⟩:=zi.1 h;obtain⟨h1,h2,h3⟩:=Gx (ρ:=ρ) hm;refine⟨by simp only[aH,cv,FE,List.map_cons] at h1 ⊢;rw[h1],by simp[h2],fun s hs=>?_⟩
    rw[zO] at hs;rcases zQ.1 hs with rfl|hs
    ·rw[aC];simp only[maxLen];omega
    ·exact h3 s hs
  ·cases h
theorem KQ (x:Nat):∀ls:List (List Nat),(ls.map ag).any (AA · x)=Ww x ls
 |[]=>rfl
 |l::r=>by
  rw[zO,xX,KQ x r,VP,show Ww x (l::r)=cond (aam x l) true (Ww x r) from rfl]
  cases aam x l<;>rfl
def cfS:aj:=fun g args W=>cond (Nat.beq g 224) (match args with
 |[s,.fn (.func g2) [] [.ptr b 0]]=>cond (Nat.beq g2 245) (match au b W.bl with
  |some (.cells [.int .i64 (.ofNat x)] _ none)=>match lg W.bl 1 s with
   |some (m,vs)=>match ac3 vs with
    |some ls=>cond (Nat.blt x 256) (cond (Nat.ble m 140737488355328) (some (.bool (Ww x ls),W)) none) none
    |none=>none
   |none=>none
  |_=>none) none
 |_=>none) none
theorem ajS:ai Tryz.prog cfS:=fun g args W v W' h=>by
 unfold cfS at h
 cases hg:Nat.beq g 224 with
 |false=>rw[hg] at h;cases h
 |true=>
 rw[hg] at h;obtain rfl:=(beq_iff _ _).1 hg;simp only[cond_true] at h;split at h
 case h_2=>cases h
 case h_1 s g2 b=>
 cases hg2:Nat.beq g2 245 with
 |false=>rw[hg2] at h;cases h
 |true=>
 rw[hg2] at h;obtain rfl:=(beq_iff _ _).1 hg2;simp only[cond_true] at h;split at h
 case h_2=>cases h
 case h_1 x e hb=>
 split at h
 case h_2=>cases h
 case h_1 m vs hr=>
 split at h
 case h_2=>cases h
 case h_1 ls hls=>
 cases hx:Nat.blt x 256 with
 |false=>rw[hx] at h;cases h
 |true=>
 cases hm:Nat.ble m 140737488355328 with
 |false=>rw[hx,hm] at h;cases h
 |true=>
 rw[hx,hm] at h;obtain⟨rfl,rfl⟩:=zm (zq h);have hx:=aK hx;have hm:=zk hm;refine⟨⟨_,Tryz.func224,zx,zz⟩,fun _ hb=>hb,fun w0 ρ w _ hW=>?_⟩
 obtain⟨A,c,hsv,hlen,hrd,_⟩:=jr (fun b k hb=>⟨(hW.ok b k hb).2.1,hW.rep b k hb⟩) hr
 obtain⟨h1,h2,h3⟩:=Gx (ρ:=ρ) hls;rw[h1] at hrd;have ai3:w.heap[ρ.blk b]? =some (.cells (aH ρ [.int .i64 (.ofNat x)]).toArray e (0,0)):=hW.rep b _ hb
 have hcell:w.cell? ⟨ρ.blk b,0,none⟩=some (.int .i64 (x:Int)):=by
  simp[World.cell?,ai3,aH,cv]
 have hc:=Io A (ls.map ag) m c x (ρ.blk b) w (fun _=>True) (by rw[zI,h2,hlen];omega) zy hx h3 hrd hcell
 have ea:(aH ρ [s,.fn (.func 245) [] [.ptr b 0]]).toArray=#[.slice A m c,.func (.func 245) #[] #[.pointer (some ⟨ρ.blk b,0,none⟩)]]:=by
  simp only[aH,cv,hsv]
 rw[ea];refine hc.mono ?_;rintro e' w' ⟨rfl,rfl⟩;exact⟨ρ,by rw[KQ];rfl,Post.refl hW,trivial⟩
def SCf:aj:=qX cfS p9
theorem akf:ai Tryz.prog SCf:=bN ajS p8
end Ex
