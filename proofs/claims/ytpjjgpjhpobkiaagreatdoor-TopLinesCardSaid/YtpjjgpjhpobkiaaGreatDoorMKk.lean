/- The walk of Of of the reference of canon. -/
import Derived.Test.YtpjjgpjhpobkiaaGreatDoorMK8
import Derived.BigQuiet
import Derived.Deep.DeepCutAuto
namespace Go.Proofs.YtpjjgpjhpobkiaaGreatDoor
open Go.RowKit Ex
structure OfW (w W:World)(s:ByteArray)(A:Option Addr)(n c:Nat)(A4:Option Addr)(L:List aG):Prop where
 b0:Bk W w.heap.size 28 [.string s,.slice A n c]
 b1:Bk W (w.heap.size+1) 28 [.string ⟨#[]⟩,.slice none 0 0]
 b2:Bk W (w.heap.size+2) 174 [.int .i64 1,.int .i64 7,.int .i64 0]
 ow:Ow W (w.heap.size+3) A4 L
 bl:Below w.heap.size w W
 sz:w.heap.size+3≤W.heap.size
theorem OfW.after {w W W':World}{s:ByteArray}{A A4:Option Addr}{n c:Nat}{L:List aG}(h:OfW w W s A n c A4 L)(hb:Below W.heap.size W W'):OfW w W' s A n c A4 L:=
 ⟨h.b0.after hb,h.b1.after hb,h.b2.after hb,h.ow.after hb,h.bl.trans (hb.mono (by have:=h.sz;omega)),zV h.sz hb.size⟩
theorem OfW.store {w W:World}{s:ByteArray}{A A4:Option Addr}{n c:Nat}{L L':List aG}(h:OfW w W s A n c A4 L){q j:Nat}{u:Value}(hq:w.heap.size+3≤q)(ho:Ow (W.setCell ⟨q,j,none⟩ u) (w.heap.size+3) A4 L'):OfW w (W.setCell ⟨q,j,none⟩ u) s A n c A4 L':=
 ⟨h.b0.other (by show w.heap.size≠q;omega) _,h.b1.other (by show w.heap.size+1≠q;omega) _,h.b2.other (by show w.heap.size+2≠q;omega) _,ho,h.bl.setCell (by show w.heap.size≤q;omega) _,by rw[World.size_setCell];exact h.sz⟩
