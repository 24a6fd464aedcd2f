/- Parts of the proof of TopInstructions. -/
import Derived.Test.YtceaodnohnekkaaGreatDoorMK3
import Derived.Test.YtceaodnohnekkaaGreatDoorML1
import Derived.Test.YtceaodnohnekkaaGreatDoorML2
import Derived.Test.YtceaodnohnekkaaGreatDoorML3
import Derived.Test.YtceaodnohnekkaaGreatDoorML4
import Derived.Test.YtceaodnohnekkaaGreatDoorMMp
namespace Go.Proofs.YtceaodnohnekkaaGreatDoor.Ex
open Go.RowKit
theorem bV {p:List Nat}{rl:List (List Nat)}{a n op:Nat}(h:((List.range' a n).all (fB p rl))=true)(h1:a≤op)(h2:op < a+n):aj S1 138 [.str p,.int .u8 (.ofNat op)] ⟨0,[],[],bC⟩=some (ny rl op,⟨6,[],[],bC⟩):=
 vV (List.all_eq_true.1 h op (List.mem_range'_1.2 ⟨h1,h2⟩))
theorem vM (op:Nat)(h:op < 256):aj S1 138 [.str dQ,.int .u8 (.ofNat op)] ⟨0,[],[],bC⟩=some (ny dA op,⟨6,[],[],bC⟩):=by
 rcases Nat.lt_or_ge op 32 with h0 | h0
 ·exact bV agJ (by omega) (by omega)
 rcases Nat.lt_or_ge op 64 with h32 | h32
 ·exact bV abz (by omega) (by omega)
 rcases Nat.lt_or_ge op 96 with h64 | h64
 ·exact bV aby (by omega) (by omega)
 rcases Nat.lt_or_ge op 128 with h96 | h96
 ·exact bV abx (by omega) (by omega)
 rcases Nat.lt_or_ge op 160 with h128 | h128
 ·exact bV U2 (by omega) (by omega)
 rcases Nat.lt_or_ge op 192 with anw | anw
 ·exact bV U1 (by omega) (by omega)
 rcases Nat.lt_or_ge op 224 with anv | anv
 ·exact bV U0 (by omega) (by omega)
 exact bV UZ (by omega) (by omega)
theorem acU (op:Nat)(h:op < 256):aj S1 138 [.str oQ,.int .u8 (.ofNat op)] ⟨0,[],[],bC⟩=some (ny mI op,⟨6,[],[],bC⟩):=by
 rcases Nat.lt_or_ge op 128 with h0 | h0
 ·exact bV asT (by omega) (by omega)
 exact bV agO (by omega) (by omega)
theorem aiQ (op:Nat)(h:op < 256):aj S1 138 [.str ku,.int .u8 (.ofNat op)] ⟨0,[],[],bC⟩=some (ny jw op,⟨6,[],[],bC⟩):=by
 rcases Nat.lt_or_ge op 32 with h0 | h0
 ·exact bV asS (by omega) (by omega)
 rcases Nat.lt_or_ge op 64 with h32 | h32
 ·exact bV am8 (by omega) (by omega)
 rcases Nat.lt_or_ge op 96 with h64 | h64
 ·exact bV am7 (by omega) (by omega)
 rcases Nat.lt_or_ge op 128 with h96 | h96
 ·exact bV am6 (by omega) (by omega)
 rcases Nat.lt_or_ge op 160 with h128 | h128
 ·exact bV agN (by omega) (by omega)
 rcases Nat.lt_or_ge op 192 with anw | anw
 ·exact bV agM (by omega) (by omega)
 rcases Nat.lt_or_ge op 224 with anv | anv
 ·exact bV agL (by omega) (by omega)
 exact bV agK (by omega) (by omega)
def abv:Ci
 |[.str l,.int .u8 (.ofNat op)]=>cond (Nat.blt op 256) (cond (jS l dQ) (some (ny dA op,⟨6,[],[],bC⟩)) (cond (jS l oQ) (some (ny mI op,⟨6,[],[],bC⟩)) (cond (jS l ku) (some (ny jw op,⟨6,[],[],bC⟩)) none))) none
 |_=>none
theorem abu:ah Tryz.prog (fF bC 138 abv):=qM (bD gN zb) bC _ _ fun args v W h=>by
 unfold abv at h
 split at h
 case h_2=>cases h
 case h_1 l op=>
 cases hop:Nat.blt op 256 with
 |false=>rw[hop] at h;cases h
 |true=>
 rw[hop] at h
 simp only[cond_true] at h
 have hop:=aT hop
 refine⟨rfl,?_⟩
 cases h1:jS l dQ with
 |true=>
  rw[h1] at h
  obtain rfl:=fA h1
  rw[vM op hop]
  exact h
 |false=>
 cases h2:jS l oQ with
 |true=>
  rw[h1,h2] at h
  obtain rfl:=fA h2
  rw[acU op hop]
  exact h
 |false=>
 cases h3:jS l ku with
 |true=>
  rw[h1,h2,h3] at h
  obtain rfl:=fA h3
  rw[aiQ op hop]
  exact h
 |false=>rw[h1,h2,h3] at h;cases h
def ai:ag:=uR (fF bC 138 abv) aeu
theorem nR:ah Tryz.prog ai:=dR abu WT
def afB:List AV→Option (List (List Nat))
 |[]=>some []
 | .str l::r=>cond (Nat.ble l.length 1099511627776) ((afB r).map (l:: ·)) none
 |_::_=>none
def ack (x:Nat):List Nat→Bool
 |[]=>false
 |l=>sW l x 0 8
def WO (x:Nat):List (List Nat)→Bool
 |[]=>false
 |l::r=>cond (ack x l) true (WO x r)
theorem Vn (x:Nat)(l:List Nat):sV (aa l) x=ack x l:=by
 unfold sV
 have e1:(aa l).data.toList=l.map UInt8.ofNat:=by simp[aa]
 have e2:xV (l.map UInt8.ofNat) x=sW l x 0 8:=by
  rw[DX]
  unfold xV
  simp
 rw[e1,e2,aA]
 cases l with
 |nil=>rfl
 |cons c l=>simp[ack]
theorem Au {ρ:Env}:∀{vs:List AV} {ls:List (List Nat)},afB vs=some ls→aG ρ vs=qw (ls.map aa)∧ls.length=vs.length∧∀s,s∈ls.map aa→s.size≤maxLen
 |[],ls,h=>by
  obtain rfl:=zx h
  exact⟨rfl,rfl,fun s hs=>by cases hs⟩
 |v::r,ls,h=>by
  unfold afB at h
  split at h
  ·rename_i e;cases e
  ·rename_i l r' e
   obtain⟨rfl,rfl⟩:=List.cons.inj e
   cases hb:Nat.ble l.length 1099511627776 with
   |false=>rw[hb] at h;cases h
   |true=>
    rw[hb] at h
    have hb:=Nat.le_of_ble_eq_true hb
    obtain⟨m,hm,rfl⟩:=Option.map_eq_some_iff.1 h
    obtain⟨h1,h2,h3⟩:=Au (ρ:=ρ) hm
    refine⟨by simp only[aG,cv,qw,List.map_cons] at h1 ⊢;rw[h1],by simp[h2],fun s hs=>?_⟩
    rw[List.map_cons] at hs
    rcases List.mem_cons.1 hs with rfl | hs
    ·rw[aA];simp only[maxLen];omega
    ·exact h3 s hs
  ·cases h
theorem Ez (x:Nat):∀ls:List (List Nat),(ls.map aa).any (sV · x)=WO x ls
 |[]=>rfl
 |l::r=>by
  rw[List.map_cons,List.any_cons,Ez x r,Vn,show WO x (l::r)=cond (ack x l) true (WO x r) from rfl]
  cases ack x l <;> rfl
def cfS:ag:=fun g args W=>cond (Nat.beq g 135) (match args with
 |[s,.fn (.func g2) [] [.ptr b 0]]=>cond (Nat.beq g2 136) (match au b W.bl with
  |some (.cells [.int .i64 (.ofNat x)] _ none)=>match kI W.bl 1 s with
   |some (m,vs)=>match afB vs with
    |some ls=>cond (Nat.blt x 256) (cond (Nat.ble m 140737488355328) (some (.bool (WO x ls),W)) none) none
    |none=>none
   |none=>none
  |_=>none) none
 |_=>none) none
theorem aoe:ah Tryz.prog cfS:=fun g args W v W' h=>by
 unfold cfS at h
 cases hg:Nat.beq g 135 with
 |false=>rw[hg] at h;cases h
 |true=>
 rw[hg] at h
 obtain rfl:=(beq_iff _ _).1 hg
 simp only[cond_true] at h
 split at h
 case h_2=>cases h
 case h_1 s g2 b=>
 cases hg2:Nat.beq g2 136 with
 |false=>rw[hg2] at h;cases h
 |true=>
 rw[hg2] at h
 obtain rfl:=(beq_iff _ _).1 hg2
 simp only[cond_true] at h
 split at h
 case h_2=>cases h
 case h_1 x e hb=>
 split at h
 case h_2=>cases h
 case h_1 m vs hr=>
 split at h
 case h_2=>cases h
 case h_1 ls hls=>
 cases hx:Nat.blt x 256 with
 |false=>rw[hx] at h;cases h
 |true=>
 cases hm:Nat.ble m 140737488355328 with
 |false=>rw[hx,hm] at h;cases h
 |true=>
 rw[hx,hm] at h
 obtain⟨rfl,rfl⟩:=zw (zx h)
 have hx:=aT hx
 have hm:=Nat.le_of_ble_eq_true hm
 refine⟨⟨_,Tryz.func135,by decide,by kernel_rfl⟩,fun _ hb=>hb,fun w0 ρ w _ hW=>?_⟩
 obtain⟨A,c,hsv,hlen,hrd,_⟩:=jA (fun b k hb=>⟨(hW.ok b k hb).2.1,hW.rep b k hb⟩) hr
 obtain⟨h1,h2,h3⟩:=Au (ρ:=ρ) hls
 rw[h1] at hrd
 have axX:w.heap[ρ.blk b]? =some (.cells (aG ρ [.int .i64 (.ofNat x)]).toArray e (0,0)):=hW.rep b _ hb
 have hcell:w.cell? ⟨ρ.blk b,0,none⟩=some (.int .i64 (x:Int)):=by
  simp[World.cell?,axX,aG,cv]
 have hc:=BP A (ls.map aa) m c x (ρ.blk b) w (fun _=>True) (by rw[List.length_map,h2,hlen];omega) (by omega) hx h3 hrd hcell
 have ea:(aG ρ [s,.fn (.func 136) [] [.ptr b 0]]).toArray=#[.slice A m c,.func (.func 136) #[] #[.pointer (some ⟨ρ.blk b,0,none⟩)]]:=by
  simp only[aG,cv,hsv]
 rw[ea]
 refine hc.mono ?_
 rintro e' w' ⟨rfl,rfl⟩
 exact⟨ρ,by rw[Ez];rfl,Post.refl hW,trivial⟩
def SCf:ag:=uR cfS ai
theorem aoy:ah Tryz.prog SCf:=dR aoe nR
end Go.Proofs.YtceaodnohnekkaaGreatDoor.Ex
