/- The tables that the row of TopInstructions lists: what the condition gives the walks, and a world for the witness. -/
import Derived.Test.YtceaodnohnekkaaGreatDoorMK3
import Derived.Test.YtceaodnohnekkaaGreatDoorCards
import Derived.Test.YtceaodnohnekkaaGreatDoorTie
import Derived.WalkKit
import Derived.ProofKit
import Derived.OpenShut
import Derived.Deep.DeepHandedRow
import Derived.Lib.LaidTab
import Derived.LaidSub
import Derived.SizedLaws
import Derived.ChangeMaps5
namespace Go.Proofs.YtceaodnohnekkaaGreatDoor
open Go.ChangeShapes Go.WideShapes Go.ChangeAt Go.RowKit Go.ChangeMaps
theorem own:ownKnob Tryz.prog.godebug=none:=by kernel_rfl
theorem laidOut:laidOutB Tryz.prog=true:=by kernel_rfl
def aou:List Int:=[0,0,0,0,0,0,0,0,0,1,1,1,1,1,0,0,0,0,0,0,0,0,0,0,0,0,0,0,0,0,0,0,1]++List.replicate 223 0
def dbL:List Int:=Lib.deBruijn64tab.map fun (n:Nat)=>(n:Int)
theorem ahx {W:World}(h:laidMet Tryz.prog Rows.topInstructionsRow.laid W):Lib.TabIs Tryz.prog W "strings.asciiSpace" .u8 aou:=by
 have h2:=laidMet.filter (fun x=>x.1 == "strings.asciiSpace") h
 rw[show (Rows.topInstructionsRow.laid.filter fun x=>x.1 == "strings.asciiSpace")=[("strings.asciiSpace",Lib.tabData .u8 aou)] by kernel_rfl] at h2
 exact Lib.tabIs_of_head (g:=0) (t:=362) (by kernel_rfl) (by kernel_rfl) Tryz.underlying362 Tryz.underlying5 (by kernel_rfl) (by kernel_rfl) h2
theorem aoa {W:World}(h:laidMet Tryz.prog Rows.topInstructionsRow.laid W):Lib.TabIs Tryz.prog W "math/bits.deBruijn64tab" .u8 dbL:=by
 have h2:=laidMet.filter (fun x=>x.1 == "math/bits.deBruijn64tab") h
 rw[show (Rows.topInstructionsRow.laid.filter fun x=>x.1 == "math/bits.deBruijn64tab")=[("math/bits.deBruijn64tab",Lib.tabData .u8 dbL)] by kernel_rfl] at h2
 exact Lib.tabIs_of_head (g:=2) (t:=414) (by kernel_rfl) (by kernel_rfl) Tryz.underlying414 Tryz.underlying5 (by kernel_rfl) (by kernel_rfl) h2
theorem Ot {zs:List Int}{l:List Value}(e:l=zs.map fun z=>Value.int .u8 z){j:Nat}{v:Value}(h:l[j]? =some v):j < zs.length∧v= .int .u8 (zs.getD j 0):=by
 subst e
 rw[List.getElem?_map] at h
 obtain⟨z,hz,rfl⟩:=Option.map_eq_some_iff.1 h
 have hj:=(List.getElem?_eq_some_iff.1 hz).1
 exact⟨hj,by rw[List.getD_eq_getElem?_getD,hz];rfl⟩
theorem anx {W:World}(h:laidMet Tryz.prog Rows.topInstructionsRow.laid W):Ex.gJ W:=fun g l hg j v hj=>by
 unfold Ex.bC at hg
 by_cases h0:0=g
 ·subst h0
  rw[Ex.aC] at hg
  obtain rfl:=zx hg
  obtain⟨h1,rfl⟩:=Ot (zs:=aou) (by kernel_rfl) hj
  exact (ahx h).cell (by kernel_rfl) j h1
 ·rw[Ex.aI _ _ h0] at hg
  by_cases h3:2=g
  ·subst h3
   rw[Ex.aC] at hg
   obtain rfl:=zx hg
   obtain⟨h1,rfl⟩:=Ot (zs:=dbL) (by kernel_rfl) hj
   exact (aoa h).cell (by kernel_rfl) j h1
  ·rw[Ex.aI _ _ h3] at hg
   cases hg
theorem am3 {W:World}(h:laidMetH Tryz.prog Rows.topInstructionsRow.laid W):laidMet Tryz.prog Rows.topInstructionsRow.laid W:=h
def pV (cs:List Value):Obj→Obj
 | .cells _ t frozen=>.cells cs.toArray t frozen
 |o=>o
def cellsD:Nat→DataW Unit→List Value
 |_,.lit (.int k n)=>[.int k n]
 |f+1,.agg ds=>ds.flatMap (cellsD f)
 |_,_=>[]
def awx:List Value:=[9,13,1,32,133,101,160,5760,5600,8192,8202,1,8232,8233,1,8239,8287,48,12288,12288,1].map fun (n:Nat)=>Value.int .u16 n
noncomputable def hold (os:Os):World:=World.holding Tryz.prog os ⟨#[],#[],[]⟩
noncomputable def oG (os:Os):World:=
 { hold os with heap:=((((((((((hold os).heap.modify 0 (pV (cellsD 3 Rows.laid_strings_asciiSpace))).modify 2 (pV (cellsD 3 Rows.laid_math_bits_deBruijn64tab))).modify 7 (pV (cellsD 3 Rows.laid_math_bits_deBruijn32tab))).modify 6 (pV (cellsD 3 Rows.laid_internal_strconv_uint64pow10))).modify 4 (pV (cellsD 3 Rows.laid_unicode_utf8_first))).modify 5 (pV (cellsD 3 Rows.laid_unicode_utf8_acceptRanges))).modify 3 (pV [.pointer (some ⟨(hold os).heap.size+1,0,none⟩)])).push (.cells awx.toArray 474 (0,0))).push (.cells #[.slice (some ⟨(hold os).heap.size,0,none⟩) 7 7,.slice none 0 0,.int .i64 2] 471 (0,0)))}
def EW:Array Value:=#[.agg #[.string ⟨#[]⟩,.slice none 0 0],.slice none 0 0]
def plc:List (Nat×Nat):=[(7,32),(2,64),(6,20),(5,32),(3,1),(15,3),(14,21),(0,256),(4,256)]
def ast:List MemPlace:=plc.flatMap fun x=>MemPlace.row ⟨x.1,0,none⟩ x.2
theorem mem_row {b n:Nat}{p:MemPlace}(h:p∈MemPlace.row ⟨b,0,none⟩ n):∃i,p= .cell b i:=by
 unfold MemPlace.row at h
 obtain⟨i,_,rfl⟩:=List.mem_map.1 h
 exact⟨_,rfl⟩
theorem xg:∀{l:List (Nat×Nat)},(l.map (·.1)).Nodup→(l.flatMap fun x=>MemPlace.row ⟨x.1,0,none⟩ x.2).Nodup
 |[],_=>List.nodup_nil
 |x::l,h=>by
  rw[List.map_cons,List.nodup_cons] at h
  rw[List.flatMap_cons,List.nodup_append]
  refine⟨?_,xg h.2,fun a ha b hb e=>?_⟩
  ·unfold MemPlace.row
   refine List.Pairwise.map _ (fun a b hab e=>hab ?_) List.nodup_range
   injection e with _ e2
   simpa using e2
  ·subst e
   obtain⟨i,rfl⟩:=mem_row ha
   obtain⟨y,hy,hb⟩:=List.mem_flatMap.1 hb
   obtain⟨k,e⟩:=mem_row hb
   injection e with e1 _
   exact h.1 (List.mem_map.2 ⟨y,hy,e1.symm⟩)
noncomputable def apd (os:Os):World:=((oG os).forCall (fun _ _=>0) ⟨#[],EW,[]⟩).memory
theorem run_eq (os:Os):DataW.laidRun Tryz.prog (apd os) 8 (Rows.topInstructionsRow.laid.map (·.1))=some (Rows.topInstructionsRow.laid,ast):=by kernel_rfl
theorem rows_ok (os:Os):laidRowsB Tryz.prog (apd os) ast=true:=by kernel_rfl
theorem abG (os:Os):laidMet Tryz.prog Rows.topInstructionsRow.laid ((oG os).forCall (fun _ _=>0) ⟨#[],EW,[]⟩).memory:=
 laidMet_of_run 8 (run_eq os) (decide_eq_true (xg (by decide))) (rows_ok os)
end Go.Proofs.YtceaodnohnekkaaGreatDoor
