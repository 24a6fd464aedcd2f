/- The walk of the statement ImageNil. -/
import Derived.Test.YtmkgppbnhkihjaaDoorIncr2
import Derived.Test.YtmkgppbnhkihjaaDoorLawPuts
namespace Go.Proofs.YtmkgppbnhkihjaaDoor
open Go.RowKit Go.Shelf

theorem nil_few (A : Option Addr) (xs : List Value) (R : List (Int × List UInt8)) (n c : Nat) (z : Int) (w : World) (p q : Nat → Prop) (hn : n = R.length) (hm : (n : Int) ≤ 281474976710656) (h : Rd w p A xs) (hR : RunVals w q xs R) (hT : Tab w) (hf : few R = false) :
    Calls Tryd.prog 7 #[.slice A n c, .int .i64 z] w fun e w' => e = .returned (.bool true) ∧ Below w.heap.size w w' := by
  have C1 := Lib.hid (few_any A xs R n c w p q hn hm h hR)
  rw [hf] at C1
  have C2 := Lib.hid (alive_any w hT)
  clear h hR hT hf hn
  go_enter Tryd.func7, Tryd.ntmps7
  go_wp2_with (first
    | (go_at_call 9; refine C1.out.mono ?_; rintro e w' ⟨rfl, rfl⟩)
    | (go_at_call 10; refine C2.out.mono ?_; rintro e w1 ⟨rfl, hb⟩; have HB := Lib.hid hb; clear hb))
  go_ret
  exact ⟨rfl, HB.out⟩
theorem own_lit2 (w : World) (o : Obj) : ((w.alloc o).alloc (.cells #[] 5)).ownsRow w.heap.size 5 1 (.slice (some ⟨w.heap.size + 1, 0, none⟩) 0 0) 0 [] := by
  have h := World.ownsRow_lit (base := w.heap.size) (e := 5) (size := 1) (w.alloc o) #[] 0 (by simp) (by decide) rfl
  simpa using h

theorem loc_keep {wr w2 : World} {x y : Value} (hg : ((wr.alloc (.cells #[x, y] 30)).alloc (.cells #[] 5)).grownBy w2 (Value.slice (some ⟨wr.heap.size + 1, 0, none⟩) 0 0).ownBlock) :
    w2.cell? ⟨wr.heap.size, 0, none⟩ = some x ∧ w2.cell? ⟨wr.heap.size, 1, none⟩ = some y := by
  have h0 : (wr.alloc (.cells #[x, y] 30)).heap[wr.heap.size]? = some (.cells #[x, y] 30 (0, 0)) := heap_alloc_new wr _
  have h1 : ((wr.alloc (.cells #[x, y] 30)).alloc (.cells #[] 5)).heap[wr.heap.size]? = some (.cells #[x, y] 30 (0, 0)) := (heap_alloc_old _ _ (by simp)).trans h0
  have h2 : w2.heap[wr.heap.size]? = some (.cells #[x, y] 30 (0, 0)) := (hg.block _ (by simp; omega) (fun e => by have e2 : wr.heap.size = wr.heap.size + 1 := Option.some.inj e; omega)).trans h1
  exact ⟨by simp [World.cell?, h2], by simp [World.cell?, h2]⟩

theorem own_zero {w2 : World} {base : Nat} {A5 : Option Addr} {c5 n : Nat} {xs : List Value} (h : w2.ownsRow base 5 1 (.slice A5 (0 + n) c5) (0 + n) ([] ++ xs)) : w2.ownsRow base 5 1 (.slice A5 n c5) n xs := by
  rw [Nat.zero_add, List.nil_append] at h
  exact h
theorem loc_put {w2 w3 : World} {x y : Value} {N g : Nat} (hx : w2.cell? ⟨N, 0, none⟩ = some x) (hy : w2.cell? ⟨N, 1, none⟩ = some y) (hg : g < N) (h : w2.grownBy w3 (some g)) : w3.cell? ⟨N, 0, none⟩ = some x ∧ w3.cell? ⟨N, 1, none⟩ = some y := by
  have hb : w3.heap[N]? = w2.heap[N]? := h.block N (lt_of_cell hx) (fun e => by have := Option.some.inj e; omega)
  exact ⟨(World.cell?_of_block (w := w2) (a := ⟨N, 0, none⟩) hb).trans hx, (World.cell?_of_block (w := w2) (a := ⟨N, 1, none⟩) hb).trans hy⟩
theorem own_off {w : World} {base n : Nat} {e : TypeId} {size : Nat} {v : Value} {xs : List Value} {g : Nat} (h : w.ownsRow base e size v n xs) (hg : g < base) : v.ownBlock = none ∨ v.ownBlock ≠ some g := by
  refine .inr fun e => ?_
  have := (h.lt g e).1
  omega
theorem rd_bytes {w : World} {base n c : Nat} {A : Option Addr} {xs : List Value} (h : w.ownsRow base 5 1 (.slice A n c) n xs) : Rd w (fun q => some q = (Value.slice A n c).ownBlock ∧ NF w q) A xs := fun hx => by
  obtain ⟨a, e, h1, h2⟩ := Rd.own_at h hx
  obtain ⟨a', e', h3, h4⟩ := rd_nf h hx
  rw [e] at e'
  obtain rfl := Option.some.inj e'
  exact ⟨a, e, ⟨h1.2.symm, h3.2⟩, h2⟩
theorem rd_part {wr w2 w3 : World} {g : Nat} {A : Option Addr} {xs ys : List Value} {v : Value} {n : Nat} {e : TypeId} {size : Nat} (h : Rd wr (fun q => q ≠ g) A xs) (hb : Below wr.heap.size wr w2) (hg : w2.grownBy w3 (some g)) (hlt : g < wr.heap.size) (ho : w2.ownsRow wr.heap.size e size v n ys) :
    Rd w3 (fun q => q ≠ g ∧ some q ≠ v.ownBlock) A xs :=
  h.move fun i hi hp => ⟨⟨hp, fun e => by have := (ho.lt i e.symm).1; omega⟩, (hg.block i (by have := hb.size; omega) (fun e => hp (Option.some.inj e))).trans (hb.block i hi)⟩

theorem runs_few {R : List (Nat × List UInt8)} {S : Nat → Bool} {D : Nat → UInt8} (h : flat R = seg S D 0 65536) (hg : Gp R 65537) : R.length ≤ 65536 ∧ ∀ i (hi : i < (ri R).length), (ri R)[i].2.length ≤ 65536 := by
  have hle : (flat R).length ≤ 65536 := by rw [h]; exact seg_le _ _ _ _
  exact ⟨by have := gp_len hg; omega, fun i hi => by have := ri_len hi; omega⟩
theorem runs_short {R : List (Nat × List UInt8)} {j : Nat} {hj : j < (ri R).length} {r : Int × List UInt8} (h : R.length ≤ 65536 ∧ ∀ i (hi : i < (ri R).length), (ri R)[i].2.length ≤ 65536) (hr : (ri R)[j] = r) : (r.2.length : Int) ≤ 65536 := by
  have := h.2 j hj
  rw [hr] at this
  omega
structure RSt (wo V : World) (A : Option Addr) (xs : List Value) (R : List (Int × List UInt8)) (N : Nat) (B : Option Addr) (n c : Nat) : Prop where
  bytes : ∃ l : List UInt8, l.length = n ∧ Rd V (fun q => wo.heap.size ≤ q ∧ NF V q) B (bs l)
  lens : RunLens V (fun q => wo.heap.size ≤ q ∧ NF V q) xs R
  rd : Rd V (fun q => wo.heap.size ≤ q) A xs
  below : Below wo.heap.size wo V
  cell : V.cell? ⟨N, 1, none⟩ = some (.slice B n c)
section
variable {wo V : World} {A : Option Addr} {xs : List Value} {R : List (Int × List UInt8)} {N : Nat} {B : Option Addr} {n c : Nat}
theorem RSt.start {x : Value} {t : TypeId} {l : List UInt8} (h1 : RunLens V (fun q => wo.heap.size ≤ q ∧ NF V q) xs R) (h2 : Rd V (fun q => wo.heap.size ≤ q) A xs) (h3 : Below wo.heap.size wo V) (h4 : Rd V (fun q => wo.heap.size ≤ q ∧ NF V q) B (bs l)) (h5 : l.length = n) :
    RSt wo (V.alloc (.cells #[x, .slice B n c] t)) A xs R V.heap.size B n c := by
  have hb : Below V.heap.size V (V.alloc (.cells #[x, .slice B n c] t)) := (Below.refl _ _).alloc (Nat.le_refl _) _
  refine ⟨⟨l, h5, h4.move fun i hi hp => ⟨⟨hp.1, hp.2.keep (hb.block i hi)⟩, hb.block i hi⟩⟩, h1.after hb (fun i hi hp => ⟨hp.1, hp.2.keep (hb.block i hi)⟩), h2.after hb, h3.trans (hb.mono h3.size), ?_⟩
  have h : (V.alloc (.cells #[x, .slice B n c] t)).heap[V.heap.size]? = some (.cells #[x, .slice B n c] t (0, 0)) := heap_alloc_new V _
  unfold World.cell?
  simp only [h]
  rfl
theorem RSt.get (h : RSt wo V A xs R N B n c) {i : Nat} (hi : i < n) : ∃ b o y, B = some ⟨b, o, none⟩ ∧ V.cell? ⟨b, o + i, none⟩ = some (.int .u8 y) ∧ V.frozen? ⟨b, o + i, none⟩ = false ∧ wo.heap.size ≤ b := by
  obtain ⟨l, hl, hr⟩ := h.bytes
  obtain ⟨b, o, e, hp, hc⟩ := hr.byte (k := i) (by omega)
  exact ⟨b, o, _, e, hc, hp.2 _, hp.1⟩
theorem RSt.set (h : RSt wo V A xs R N B n c) {b k : Nat} {y z : Int} (hc : V.cell? ⟨b, k, none⟩ = some (.int .u8 y)) (hb : wo.heap.size ≤ b) (h0 : 0 ≤ z) (h1 : z ≤ 255) : Hid (RSt wo (V.setCell ⟨b, k, none⟩ (.int .u8 z)) A xs R N B n c) := by
  obtain ⟨l, hl, hr⟩ := h.bytes
  obtain ⟨l2, h2, h3⟩ := rd_setz (q := fun q => wo.heap.size ≤ q ∧ NF (V.setCell ⟨b, k, none⟩ (.int .u8 z)) q) hr hc ⟨h0, h1⟩ (fun i hi => ⟨hi.1, hi.2.set _ _⟩)
  exact ⟨⟨l2, h2.trans hl, h3⟩, h.lens.setz hc ⟨h0, h1⟩ (fun i hi => ⟨hi.1, hi.2.set _ _⟩), rd_other h.rd hc (runl_mem h.lens y) (fun _ hi => hi), h.below.setCell (p := ⟨b, k, none⟩) hb _, cell_other h.cell hc (fun e => by cases e)⟩
end
theorem nil_alloc {wr w5 : World} (h : Below wr.heap.size wr w5) {o : Obj} : Below wr.heap.size wr (w5.alloc o) := h.trans (((Below.refl _ _).alloc (Nat.le_refl _) o).mono h.size)
theorem nil_at {w5 w7 : World} {o : Obj} (h : Img w7 (w5.alloc o).heap.size (fun _ => false) 0 (fun _ => 0)) : Img w7 (w5.heap.size + 1) (fun _ => false) 0 (fun _ => 0) := by
  rw [World.size_alloc] at h
  exact h
theorem nil_step {wr w6 w7 : World} (h : Below wr.heap.size wr w6) (hb : Below w6.heap.size w6 w7) : Below wr.heap.size wr w7 := h.trans (hb.mono h.size)
theorem nil_same {w7 : World} {N : Nat} (hz : seg aS0 aD0 0 65536 = []) (hI : Img w7 N (fun _ => false) 0 (fun _ => 0)) (hT : Tab w7) : Calls Tryd.prog 22 #[.pointer none, .pointer (some ⟨N, 0, none⟩)] w7 fun e w' => e = .returned (.bool true) ∧ Below w7.heap.size w7 w' := by
  have h := imsame_any (.pointer none) (.pointer (some ⟨N, 0, none⟩)) aS0 aS0 aD0 aD0 w7 (.inr ⟨rfl, hz⟩) (.inl ⟨N, 0, rfl, hI⟩) hT
  rw [decide_eq_true rfl] at h
  exact h
theorem byte_lo (y : Int) : 0 ≤ y % 256 := by omega
theorem byte_hi (y : Int) : y % 256 ≤ 255 := by omega
theorem incr_one {W : World} {ob : Option Nat} {n5 b5 k : Nat} {A5 : Option Addr} {l' : List UInt8} {u : Value} {z : Int} (h : Rd W (fun q => some q = ob ∧ NF W q) A5 (bs l')) (hl : l'.length = n5) (hc : W.cell? ⟨b5, k, none⟩ = some u) (_ : some b5 = ob) (h0 : 0 ≤ z) (h1 : z ≤ 255) :
    Hid (∃ l' : List UInt8, l'.length = n5 ∧ Rd (W.setCell ⟨b5, k, none⟩ (.int .u8 z)) (fun q => some q = ob ∧ NF (W.setCell ⟨b5, k, none⟩ (.int .u8 z)) q) A5 (bs l')) := by
  obtain ⟨l2, h2, h3⟩ := rd_setz (q := fun q => some q = ob ∧ NF (W.setCell ⟨b5, k, none⟩ (.int .u8 z)) q) h hc ⟨h0, h1⟩ (fun i hi => ⟨hi.1, hi.2.set _ _⟩)
  exact ⟨l2, h2.trans hl, h3⟩
theorem incr_grown {w4 W : World} {ob : Option Nat} {b5 k : Nat} {u : Value} (h : w4.grownBy W ob) (hb : some b5 = ob) : Hid (w4.grownBy (W.setCell ⟨b5, k, none⟩ u) ob) := by
  subst hb
  exact grownBy_trans h (grownBy_set W b5 k u)
theorem incr_state {w wr w4 W : World} {g : Nat} {ob : Option Nat} {S : Nat → Bool} {D : Nat → UInt8} {A2 : Option Addr} {c2 : Nat} (hI : Img w4 g S (cnt S D) D) (hb : Below w.heap.size w w4) (hc : cnt S D ≤ c2) (hR : Rd w4 (fun q => q ≠ g ∧ some q ≠ ob) A2 (cl (seg S D 0 65536)))
    (hg : w4.grownBy W ob) (hgl : g < wr.heap.size) (ho : ∀ j, ob = some j → wr.heap.size ≤ j) (hw : w.heap.size ≤ wr.heap.size) : Hid (PState w W g (.slice A2 (cnt S D) c2)) :=
  ⟨S, D, A2, c2, rfl, hc, hI.of_block (hg.block g hI.lt (fun e => by have := ho g e.symm; omega)), hR.move fun i hi hp => ⟨hp.1, hg.block i hi hp.2⟩, hb.grown hg hb.size (fun j e => by have := ho j e; omega)⟩

set_option maxHeartbeats 2000000 in
set_option maxRecDepth 100000 in
theorem nil_main (A : Option Addr) (xs : List Value) (R : List (Int × List UInt8)) (n c : Nat) (z : Int) (w : World) (p q : Nat → Prop) (hn : n = R.length) (hm : (n : Int) ≤ 281474976710656) (h : Rd w p A xs) (hR : RunVals w q xs R) (hT : Tab w) (hf : few R = true) :
    Calls Tryd.prog 7 #[.slice A n c, .int .i64 z] w fun e w' => e = .returned (.bool true) ∧ Below w.heap.size w w' := by
  have C1 := Lib.hid (few_any A xs R n c w p q hn hm h hR)
  rw [hf] at C1
  have HS := Lib.hid (few_spec hf)
  have HT := Lib.hid hT
  have HRd := Lib.hid h
  have HRv := Lib.hid hR
  have HN := Lib.hid hn
  have hn60 : (n : Int) ≤ 60 := by have := (few_spec hf).1; omega
  obtain ⟨g, hg⟩ : ∃ g, w.heap.size = g := ⟨_, rfl⟩
  have HG := Lib.hid hg
  have C3 := Lib.hid (new_any w)
  rw [hg] at C3
  clear h hR hT hf hn hg
  go_enter Tryd.func7, Tryd.ntmps7
  go_wp2_with (first
    | (go_at_call 9; refine C1.out.mono ?_; rintro e w' ⟨rfl, rfl⟩)
    | (go_at_call 11; refine C3.out.mono ?_; rintro e w1 ⟨rfl, hI, hb⟩; have HI1 : Hid (Img w1 g aS0 0 aD0) := hI; have HB1 := Lib.hid hb; clear hI hb))
  go_loopw [7, 24] (fun u v wr => ∃ k : Nat, k ≤ n ∧ v = .int .i64 k ∧ Hid (PState w wr g u)) (fun _ v _ => n - (intOf v).toNat)
  case atStart =>
    refine ⟨0, Nat.zero_le _, rfl, aS0, aD0, none, 0, by rw [cnt_none], by rw [cnt_none]; exact Nat.le_refl _, by rw [cnt_none]; exact HI1.out, ?_, by rw [HG.out]; exact HB1.out⟩
    rw [show seg aS0 aD0 0 65536 = [] from seg_none aS0 aD0 0 65536 (fun _ _ _ => rfl)]
    exact Rd.nil _ _ _
  case round =>
    obtain ⟨k, hk, rfl, hP⟩ := hrel
    obtain ⟨S, D, A4, c4, rfl, hc4, hI, hRd, hb⟩ := hP.out
    by_cases hlt : k < n
    · have hkr : k < R.length := by rw [← HN.out]; exact hlt
      obtain ⟨b, o, B, cb, rfl, _, hd2, hd3, hd1⟩ := HRd.out.run HRv.out hkr
      have hc1 := (hb.cell (p := ⟨b, o + k * 2, none⟩) (lt_of_cell hd2)).trans hd2
      have hc2 := (hb.cell (p := ⟨b, o + k * 2 + 1, none⟩) (lt_of_cell hd3)).trans hd3
      clear hd2 hd3
      have hrl := HS.out.2 _ (List.getElem_mem hkr)
      obtain ⟨r, hr⟩ : ∃ r, R[k] = r := ⟨_, rfl⟩
      simp only [hr] at hc1 hc2 hd1 hrl
      have HD := Lib.hid hd1
      have HRL := Lib.hid hrl
      have hrl2 : (r.2.length : Int) ≤ 3000 := by omega
      have HB := Lib.hid hb
      have HI := Lib.hid hI
      have HC := Lib.hid hRd
      have HC4 := Lib.hid hc4
      clear hr hd1 hrl hb hI hRd hc4 hP
      have HTr := Lib.hid (HT.out.after HB.out)
      have HAL : Hid (Below wr.heap.size wr ((wr.alloc (.cells #[.int .i64 r.1, .slice B r.2.length cb] 30)).alloc (.cells #[] 5))) := ((Below.refl _ _).alloc (Nat.le_refl _) _).alloc (by simp) _
      go_wp2_with (first
        | (at_builtin; go_loud (refine wpList_app el28 rfl (.tmp 28) (.tmp 30) rfl wr.heap.size _ 0 [] q B r.2.length cb (bs r.2) rfl rfl (own_lit2 wr _) (by rw [bs_length]; omega) (HD.out.after (HB.out.trans (HAL.out.mono HB.out.size))) (bs_one _) (by simp only [maxLen]; omega) (by omega) HAL.out.size ?_; intro v2 w2 hown2 hg2 hat2 hz2; obtain ⟨A5, c5, rfl, _⟩ := own_form hown2; obtain ⟨hcx, hcy⟩ := loc_keep hg2; have HO2 : Hid (w2.ownsRow wr.heap.size 5 1 (.slice A5 r.2.length c5) r.2.length (bs r.2)) := own_zero hown2; have HB2 : Hid (Below wr.heap.size wr w2) := HAL.out.grown hg2 HAL.out.size (fun j hj => by have e : wr.heap.size + 1 = j := Option.some.inj hj; omega); clear hown2 hg2 hat2 hz2))
        | (go_at_call 13; go_loud (refine (put_all g S D r.1 A5 r.2 c5 w2 (fun _ => True) (by have := HRL.out; omega) (HI.out.after HB2.out) (HTr.out.after HB2.out) (Rd.of_own HO2.out (fun _ _ _ => trivial))).mono ?_; rintro e w3 ⟨rfl, k1, k2⟩; obtain ⟨hcx3, hcy3⟩ := loc_put hcx hcy HI.out.lt k2; have M1 := Lib.hid k1; have HO3 := Lib.hid (own_grown HO2.out k2 (own_off HO2.out HI.out.lt)); have HC3 := Lib.hid (rd_part HC.out HB2.out k2 HI.out.lt HO2.out); have M4 := Lib.hid ((HB.out.trans (HB2.out.mono HB.out.size)).grown k2 (by have := HB.out.size; have := HB2.out.size; omega) (fun j hj => by have e : g = j := Option.some.inj hj; have := HG.out; omega)); clear k1 k2 hcx hcy))
        | (go_at_call 12; go_loud (refine (rput_pr _ S D r.1 A4 c4 B r.2 cb w3 q (by have := HRL.out; omega) (fun q hq => ⟨by have := M1.out.lt; omega, fun e => by have := (HO3.out.lt q e.symm).2; omega⟩) HC4.out HC3.out (HD.out.after M4.out)).mono ?_; rintro e w4 ⟨A2, c2, rfl, k1, k2, k3⟩; have K1 := Lib.hid k1; have K2 := Lib.hid k2; have K3 := Lib.hid k3; clear k1 k2 k3 hcx3 hcy3)))
      have HO4 := Lib.hid (own_over HO3.out K3.out)
      have M5 := Lib.hid (M1.out.after K3.out)
      have M6 := Lib.hid (M4.out.trans (K3.out.mono M4.out.size))
      have HG4 : Hid (g < wr.heap.size) := HI.out.lt
      have HW : Hid (w.heap.size ≤ wr.heap.size) := HB.out.size
      have HRD := Lib.hid (rd_bytes HO4.out)
      have HOB : Hid (∀ j, (Value.slice A5 r.2.length c5).ownBlock = some j → wr.heap.size ≤ j) := fun j hj => (HO4.out.lt j hj).1
      obtain ⟨n5, hn5⟩ : ∃ n5, r.2.length = n5 := ⟨_, rfl⟩
      obtain ⟨ob, hob⟩ : ∃ ob, (Value.slice A5 r.2.length c5).ownBlock = ob := ⟨_, rfl⟩
      rw [hob] at HOB HRD K2
      have HL5 := Lib.hid hn5
      have hn5b : (n5 : Int) ≤ 3000 := by omega
      rw [hn5]
      clear hn5 hob HD HRL HI HC HC4 HTr HAL HO2 HB2 M1 HO3 HC3 HO4 K3 M4 hc1 hc2 hrl2 HB
      go_loopw [48] (fun v W => ∃ j : Nat, j ≤ n5 ∧ v = .int .i64 j ∧ Hid (∃ l' : List UInt8, l'.length = n5 ∧ Rd W (fun q => some q = ob ∧ NF W q) A5 (bs l')) ∧ Hid (w4.grownBy W ob)) (fun v _ => n5 - (intOf v).toNat)
      case atStart => exact ⟨0, Nat.zero_le _, rfl, ⟨r.2, HL5.out, HRD.out⟩, ⟨rfl, rfl, rfl, Nat.le_refl _, fun _ _ _ => rfl⟩⟩
      case round =>
        obtain ⟨j, hj, rfl, hL, hGr⟩ := hrel
        obtain ⟨l', hl', hRl⟩ := hL.out
        by_cases hlt2 : j < n5
        · obtain ⟨b5, o5, hA5, hp5, hc5⟩ := hRl.byte (k := j) (by omega)
          subst hA5
          obtain ⟨y, hy⟩ : ∃ y : Int, ((l'[j]'(by omega)).toNat : Int) = y := ⟨_, rfl⟩
          rw [hy] at hc5
          have hy0 : 0 ≤ y := by omega
          have hy1 : y ≤ 255 := by have := (l'[j]'(by omega)).toNat_lt; omega
          have hfr := hp5.2 (o5 + j)
          have HP5 := Lib.hid hp5
          have HRl := Lib.hid hRl
          have HL2 := Lib.hid hl'
          have HGr := Lib.hid hGr.out
          clear hy hp5 hRl hl' hL hGr
          go_wp2
          go_roundw
          case rel => exact ⟨j + 1, by omega, by go_num, incr_one HRl.out HL2.out hc5 HP5.out.1 (byte_lo _) (byte_hi _), incr_grown HGr.out HP5.out.1⟩
          case measure => simp [intOf]; omega
        · go_wp2
          go_roundw
          case rel => exact ⟨k + 1, by omega, by go_num, incr_state M5.out M6.out K1.out K2.out hGr.out HG4.out HOB.out HW.out⟩
          case measure => simp [intOf]; omega
    · obtain ⟨wo, rfl⟩ : ∃ wo : World, wo = wr := ⟨_, rfl⟩
      have HB := Lib.hid hb
      have HTr := Lib.hid (HT.out.after hb)
      have C21 := Lib.hid (runs_nf g _ S D wo hI HTr.out)
      have HI := Lib.hid hI
      have HR := Lib.hid hRd
      have HC4 := Lib.hid hc4
      clear hb hI hRd hc4 hP
      go_wp2_with (go_at_call 21; refine C21.out.mono ?_; rintro e w2 ⟨v2, R2, xs2, rfl, q1, q2, q3, q4, q5⟩; obtain ⟨A2, c2, rfl, _⟩ := own_form q3; have Q0 := Lib.hid (runs_few q1 q2); have Q3 := Lib.hid q3; have Q4 := Lib.hid q4; have Q5 := Lib.hid q5; clear q1 q2 q3 q4 q5)
      obtain ⟨N2, hN2⟩ : ∃ N2, R2.length = N2 := ⟨_, rfl⟩
      have HN2 := Lib.hid hN2
      have hN2b : (N2 : Int) ≤ 65536 := by have := Q0.out; omega
      rw [hN2]
      clear hN2
      go_loopw [62] (fun v W => ∃ j : Nat, j ≤ N2 ∧ v = .int .i64 j ∧ Hid (RunLens W (fun q => wo.heap.size ≤ q ∧ NF W q) xs2 (ri R2)) ∧ Hid (Rd W (fun q => wo.heap.size ≤ q) A2 xs2) ∧ Hid (Below wo.heap.size wo W)) (fun v _ => N2 - (intOf v).toNat)
      case atStart => exact ⟨0, Nat.zero_le _, rfl, Q4.out.lens, Rd.of_own Q3.out (fun _ h _ => h), Q5.out⟩
      case round =>
        obtain ⟨j, hj, rfl, hL, hA, hBW⟩ := hrel
        by_cases hlt2 : j < N2
        · obtain ⟨b3, o3, B3, c3, l3, hA3, _, hc31, hc32, hl3, hd3⟩ := hA.out.runl hL.out (i := j) (by rw [ri_length, HN2.out]; exact hlt2)
          subst hA3
          obtain ⟨r3, hr3⟩ : ∃ r3, (ri R2)[j]'(by rw [ri_length, HN2.out]; exact hlt2) = r3 := ⟨_, rfl⟩
          rw [hr3] at hc31 hc32 hl3
          have HD3 := Lib.hid hd3
          have HL3 := Lib.hid hl3
          have HLW := Lib.hid hL.out
          have HAW := Lib.hid hA.out
          have HBW := Lib.hid hBW.out
          have hl3b : (r3.2.length : Int) ≤ 65536 := runs_short Q0.out hr3
          clear hr3 hd3 hl3 hL hA hBW
          obtain ⟨w3, rfl⟩ : ∃ w3 : World, w3 = wr := ⟨_, rfl⟩
          have HST := Lib.hid (RSt.start (x := .int .i64 r3.1) (t := 39) (c := c3) HLW.out HAW.out HBW.out HD3.out HL3.out)
          obtain ⟨n6, hn6⟩ : ∃ n6, r3.2.length = n6 := ⟨_, rfl⟩
          rw [hn6] at hl3b hc32 HST
          obtain ⟨y3, hy3⟩ : ∃ y3, r3.1 = y3 := ⟨_, rfl⟩
          rw [hy3] at hc31 HST
          clear hn6 hy3 HL3 HD3
          go_wp2
          go_loopw [69] (fun v V => ∃ i : Nat, i ≤ n6 ∧ v = .int .i64 i ∧ Hid (RSt wo V (some ⟨b3, o3, none⟩) xs2 (ri R2) w3.heap.size B3 n6 c3)) (fun v _ => n6 - (intOf v).toNat)
          case atStart => exact ⟨0, Nat.zero_le _, rfl, HST.out⟩
          case round =>
            obtain ⟨i, hi, rfl, hS⟩ := hrel
            have hcb := hS.out.cell
            by_cases hlt3 : i < n6
            · obtain ⟨b5, o5, y, e5, hc5, hf5, hb5⟩ := hS.out.get hlt3
              subst e5
              have HB5 := Lib.hid hb5
              clear hb5
              go_wp2
              go_roundw
              case rel => exact ⟨i + 1, by omega, by go_num, hS.out.set hc5 HB5.out (byte_lo _) (byte_hi _)⟩
              case measure => simp [intOf]; omega
            · go_wp2
              go_roundw
              case rel => exact ⟨j + 1, by omega, by go_num, hS.out.lens, hS.out.rd, hS.out.below⟩
              case measure => simp [intOf]; omega
        · have HBW := Lib.hid hBW.out
          clear hL hA hBW
          have HBA := Lib.hid (HB.out.trans (HBW.out.mono HB.out.size))
          have C19 : Hid (Calls Tryd.prog 19 #[.pointer none, .int .i64 z] wr fun e w' => e = .returned (.tuple #[.int .u8 0, .bool false]) ∧ wr = w') := get_nil z wr
          have HTA := Lib.hid (HT.out.after HBA.out)
          have C10 := Lib.hid (alive_any wr HTA.out)
          have HIA := Lib.hid (HI.out.after HBW.out)
          have HRA := Lib.hid (HR.out.after HBW.out)
          have HZ : Hid (seg aS0 aD0 0 65536 = []) := seg_none aS0 aD0 0 65536 (fun _ _ _ => rfl)
          clear HBW HI HR HRd HRv HS HN
          go_wp2_with (first
            | (go_at_call 19; refine C19.out.mono ?_; rintro e w' ⟨rfl, rfl⟩)
            | (go_at_call 10; refine C10.out.mono ?_; rintro e w4 ⟨rfl, hb⟩; have B4 := Lib.hid hb; clear hb C10)
            | (go_at_call 14; refine (same_one g S D A4 c4 w4 _ _ rfl HC4.out (HIA.out.after B4.out) (HTA.out.after B4.out) (HRA.out.after B4.out)).mono ?_; rintro e w5 ⟨rfl, hb⟩; have B5 := Lib.hid (B4.out.trans (hb.mono B4.out.size)); clear hb)
            | (go_at_call 13; refine (put_nil _ _ _ _ _).mono ?_; rintro e w' ⟨rfl, rfl⟩; have B6 := Lib.hid (nil_alloc B5.out (o := .cells #[.int .u8 1] 5)))
            | (go_at_call 23; (with_reducible refine (len_nil _).mono ?_); rintro e w' ⟨rfl, rfl⟩)
            | (go_at_call 21; refine (runs_nil _).mono ?_; rintro e w' ⟨rfl, rfl⟩)
            | (go_at_call 11; refine (new_any _).mono ?_; rintro e w7 ⟨rfl, hI, hb⟩; have I7 := Lib.hid (nil_at hI); have B7 := Lib.hid (nil_step B6.out hb); clear hI hb)
            | (go_at_call 22; refine (nil_same HZ.out I7.out (HTA.out.after B7.out)).mono ?_; rintro e w8 ⟨rfl, hb⟩; have B8 := Lib.hid (B7.out.trans (hb.mono B7.out.size)); clear hb HZ)
            | (go_at_call 24; refine (imclone_nil w8).mono ?_; rintro e w9 ⟨N9, rfl, _, _, hb⟩; have B9 := Lib.hid (B8.out.trans (hb.mono B8.out.size)); clear hb)
            | (go_at_call 24; refine (imclone_nil w9).mono ?_; rintro e w10 ⟨N10, rfl, _, hI, hb⟩; have I10 := Lib.hid hI; have B10 := Lib.hid (B9.out.trans (hb.mono B9.out.size)); clear hb hI)
            | (go_at_call 23; refine (len_any N10 0 aS0 aD0 w10 I10.out).mono ?_; rintro e w' ⟨rfl, rfl⟩))
          go_ret
          exact ⟨rfl, HBA.out.trans (B10.out.mono HBA.out.size)⟩
end Go.Proofs.YtmkgppbnhkihjaaDoor
