/- The walk of Parse of the package num. Printed by wip/mkparse.py. -/
import Derived.Test.YtilfbnfejnjaeaaPforms
namespace Go.Proofs.Ytilfbnfejnjaeaa
open Go.RowKit

theorem trimP_le (u m : List UInt8) : (Lib.trimPrefix u m).length ≤ u.length := by
  unfold Lib.trimPrefix
  split
  · rw [List.length_drop]; omega
  · exact Nat.le_refl _
theorem trimS_le (u m : List UInt8) : (Lib.trimSuffix u m).length ≤ u.length := by
  unfold Lib.trimSuffix
  split
  · rw [List.length_take]; omega
  · exact Nat.le_refl _
theorem fcut_le (l : List UInt8) (k : Nat) : (fcut l k).1.length ≤ l.length := by
  have e : (l.map upc).length = l.length := List.length_map ..
  unfold fcut
  split
  · exact Nat.le_refl _
  · exact e ▸ trimP_le (l.map upc) [48, 88]
  · exact e ▸ trimP_le (l.map upc) [36]
  · exact e ▸ trimS_le (l.map upc) [72]
  · exact e ▸ trimS_le (l.map upc) [66]
  · exact e ▸ trimP_le (l.map upc) [37]
theorem formWorld_size (w : World) : (formWorld w).heap.size = w.heap.size + 5 := by simp [formWorld]
theorem formWorld_below (w : World) : Below w.heap.size w (formWorld w) :=
  (((((Below.refl _ _).alloc (Nat.le_refl _) _).alloc (by simp) _).alloc (by simp; omega) _).alloc (by simp; omega) _).alloc (by simp; omega) _
/-- What lies at the forms and their marks, in a later world. -/
theorem form_cells {w W : World} (h : Below (w.heap.size + 5) (formWorld w) W) :
    (∀ (i : Nat) v, (formCells w.heap.size)[i]? = some v → W.cell? ⟨w.heap.size + 4, i, none⟩ = some v) ∧ W.cell? ⟨w.heap.size, 0, none⟩ = some (.string ⟨#[48, 88]⟩) ∧ W.cell? ⟨w.heap.size + 1, 0, none⟩ = some (.string ⟨#[36]⟩) ∧
      W.cell? ⟨w.heap.size + 2, 0, none⟩ = some (.string ⟨#[66]⟩) ∧ W.cell? ⟨w.heap.size + 3, 0, none⟩ = some (.string ⟨#[37]⟩) := by
  obtain ⟨a0, ha0⟩ : ∃ a, w.alloc (.cells #[.string ⟨#[48, 88]⟩] 9) = a := ⟨_, rfl⟩
  obtain ⟨a1, ha1⟩ : ∃ a, a0.alloc (.cells #[.string ⟨#[36]⟩] 9) = a := ⟨_, rfl⟩
  obtain ⟨a2, ha2⟩ : ∃ a, a1.alloc (.cells #[.string ⟨#[66]⟩] 9) = a := ⟨_, rfl⟩
  obtain ⟨a3, ha3⟩ : ∃ a, a2.alloc (.cells #[.string ⟨#[37]⟩] 9) = a := ⟨_, rfl⟩
  obtain ⟨a4, ha4⟩ : ∃ a, a3.alloc (.cells (formCells w.heap.size) 145) = a := ⟨_, rfl⟩
  have hf : formWorld w = a4 := by rw [← ha4, ← ha3, ← ha2, ← ha1, ← ha0]; rfl
  have s0 : a0.heap.size = w.heap.size + 1 := by rw [← ha0, World.size_alloc]
  have s1 : a1.heap.size = w.heap.size + 2 := by rw [← ha1, World.size_alloc, s0]
  have s2 : a2.heap.size = w.heap.size + 3 := by rw [← ha2, World.size_alloc, s1]
  have s3 : a3.heap.size = w.heap.size + 4 := by rw [← ha3, World.size_alloc, s2]
  have b43 : Below a3.heap.size a3 a4 := by rw [← ha4]; exact (Below.refl _ _).alloc (Nat.le_refl _) _
  have b32 : Below a2.heap.size a2 a3 := by rw [← ha3]; exact (Below.refl _ _).alloc (Nat.le_refl _) _
  have b21 : Below a1.heap.size a1 a2 := by rw [← ha2]; exact (Below.refl _ _).alloc (Nat.le_refl _) _
  have b10 : Below a0.heap.size a0 a1 := by rw [← ha1]; exact (Below.refl _ _).alloc (Nat.le_refl _) _
  have b42 := b32.trans (b43.mono b32.size)
  have b41 := b21.trans (b42.mono b21.size)
  have b40 := b10.trans (b41.mono b10.size)
  have n0 : a0.heap[w.heap.size]? = some (.cells #[.string ⟨#[48, 88]⟩] 9 (0, 0)) := by rw [← ha0]; exact heap_alloc_new w _
  have n1 : a1.heap[w.heap.size + 1]? = some (.cells #[.string ⟨#[36]⟩] 9 (0, 0)) := by rw [← ha1, ← s0]; exact heap_alloc_new a0 _
  have n2 : a2.heap[w.heap.size + 2]? = some (.cells #[.string ⟨#[66]⟩] 9 (0, 0)) := by rw [← ha2, ← s1]; exact heap_alloc_new a1 _
  have n3 : a3.heap[w.heap.size + 3]? = some (.cells #[.string ⟨#[37]⟩] 9 (0, 0)) := by rw [← ha3, ← s2]; exact heap_alloc_new a2 _
  have n4 : a4.heap[w.heap.size + 4]? = some (.cells (formCells w.heap.size) 145 (0, 0)) := by
    have := heap_alloc_new a3 (.cells (formCells w.heap.size) 145)
    rw [ha4, s3] at this
    exact this
  have h0 := (b40.block _ (by omega)).trans n0
  have h1 := (b41.block _ (by omega)).trans n1
  have h2 := (b42.block _ (by omega)).trans n2
  have h3 := (b43.block _ (by omega)).trans n3
  have h4 := n4
  rw [hf] at h
  refine ⟨fun i v hv => ?_, ?_, ?_, ?_, ?_⟩
  · rw [h.cell (p := ⟨w.heap.size + 4, i, none⟩) (by show w.heap.size + 4 < _; omega)]
    simp only [World.cell?, h4]
    exact hv
  · rw [h.cell (p := ⟨w.heap.size, 0, none⟩) (by show w.heap.size < _; omega)]
    simp [World.cell?, h0]
  · rw [h.cell (p := ⟨w.heap.size + 1, 0, none⟩) (by show w.heap.size + 1 < _; omega)]
    simp [World.cell?, h1]
  · rw [h.cell (p := ⟨w.heap.size + 2, 0, none⟩) (by show w.heap.size + 2 < _; omega)]
    simp [World.cell?, h2]
  · rw [h.cell (p := ⟨w.heap.size + 3, 0, none⟩) (by show w.heap.size + 3 < _; omega)]
    simp [World.cell?, h3]
theorem fval_no {l : List UInt8} {k : Nat} (h : (fcut l k).2 = false) : fval l k = none := by unfold fval; rw [h]; rfl
theorem fval_yes {l : List UInt8} {k : Nat} {D : ByteArray} {r : Option Nat} (h : (fcut l k).2 = true) (hD : (⟨(fcut l k).1.toArray⟩ : ByteArray) = D) (hr : nval (fbase k) D.data.toList = r) : fval l k = r := by
  unfold fval
  rw [h, ← hr, ← hD]
  rfl
theorem box_below {n : Nat} {w W W' : World} {o : Obj} (h : Below n w W) (h' : Below (W.alloc o).heap.size (W.alloc o) W') (hn : n ≤ W.heap.size) : Below n w W' := (h.alloc hn o).trans (h'.mono (by simp; omega))
set_option maxHeartbeats 4000000 in
set_option maxRecDepth 100000 in
theorem parse_num (s : ByteArray) (w : World) (hs : (s.size : Int) ≤ 140737488355328) :
    Calls Try.prog 97 #[.string s] w fun e w' => e = .returned (dgV (pval s.data.toList)) ∧ Below w.heap.size w w' := by
  have CF := Lib.hid (forms_any w)
  obtain ⟨w0, hw0⟩ : ∃ w0, formWorld w = w0 := ⟨_, rfl⟩
  obtain ⟨g, hg⟩ : ∃ g, w.heap.size = g := ⟨_, rfl⟩
  have FC : Hid (∀ W : World, Below (g + 5) w0 W → (∀ (i : Nat) v, (formCells g)[i]? = some v → W.cell? ⟨g + 4, i, none⟩ = some v) ∧ W.cell? ⟨g, 0, none⟩ = some (.string ⟨#[48, 88]⟩) ∧ W.cell? ⟨g + 1, 0, none⟩ = some (.string ⟨#[36]⟩) ∧ W.cell? ⟨g + 2, 0, none⟩ = some (.string ⟨#[66]⟩) ∧ W.cell? ⟨g + 3, 0, none⟩ = some (.string ⟨#[37]⟩)) := by
    subst hw0; subst hg
    exact fun W h => form_cells h
  have B0 : Hid (Below g w w0) := by subst hw0; subst hg; exact formWorld_below w
  have hz0 : g + 5 = w0.heap.size := by subst hw0; subst hg; exact (formWorld_size w).symm
  rw [hw0, hg] at CF
  have HS := Lib.hid hs
  have HG := Lib.hid hg
  have CD : Hid (∀ (b : Nat) (D : ByteArray) (W : World), 2 ≤ (b : Int) → (b : Int) ≤ 16 → D.size ≤ s.size → Calls Try.prog 72 #[.string D, .int .i64 (b : Int)] W fun e w' => e = .returned (dgV (nval b D.data.toList)) ∧ W = w') := fun b D W h1 h2 h3 => digits_any b h1 h2 D W (by omega)
  have DL : Hid (∀ (k : Nat) (D : ByteArray), (⟨(fcut s.data.toList k).1.toArray⟩ : ByteArray) = D → D.size ≤ s.size) := fun k D h => by
    have h1 := fcut_le s.data.toList k
    rw [str_len] at h1
    rw [← h, ← str_len]
    exact h1
  clear hs hg hw0
  go_enter Try.func97, Try.ntmps97
  go_wp2_with (go_at_call 105; refine CF.out.mono ?_; rintro e w1 ⟨rfl, rfl⟩)
  go_loopw [12] (fun v W => ∃ k : Nat, k ≤ 6 ∧ v = .int .i64 k ∧ Hid (∀ j, j < k → fval s.data.toList j = none) ∧ Hid (Below (g + 5) w0 W)) (fun v _ => 6 - (intOf v).toNat)
  case atStart => exact ⟨0, by omega, rfl, fun j hj => absurd hj (by omega), Below.refl _ _⟩
  case round =>
    obtain ⟨k, hk, rfl, hT, hB⟩ := hrel
    obtain ⟨hF, m0, m1, m2, m3⟩ := FC.out wr hB.out
    have HM0 := Lib.hid m0
    have HM1 := Lib.hid m1
    have HM2 := Lib.hid m2
    have HM3 := Lib.hid m3
    have hsz : g + 5 ≤ wr.heap.size := by have := hB.out.size; omega
    have HSZ := Lib.hid hsz
    have MB : Hid (∀ (b : Nat) (v : Value) W, b < g + 5 → wr.cell? ⟨b, 0, none⟩ = some v → Below wr.heap.size wr W → W.cell? ⟨b, 0, none⟩ = some v) := fun b v W hb hv hW => (hW.cell (p := ⟨b, 0, none⟩) (by show b < _; omega)).trans hv
    have hcase : k = 0 ∨ k = 1 ∨ k = 2 ∨ k = 3 ∨ k = 4 ∨ k = 5 ∨ k = 6 := by omega
    clear m0 m1 m2 m3 hsz
    rcases hcase with rfl | rfl | rfl | rfl | rfl | rfl | rfl
    · have c0 : wr.cell? ⟨g + 4, 0, none⟩ = some (.int .i64 10) := hF 0 _ rfl
      have c1 : wr.cell? ⟨g + 4, 1, none⟩ = some (.func (.func 108) #[] #[]) := hF 1 _ rfl
      have hst : ∀ (a : Addr) (m : Mode) (W : World), Sem.run Try.prog (store a (.func (.func 108) #[] #[]) m) W = stored Try.prog W a (.func (.func 108) #[] #[]) m := fun a m W => run_store Try.prog W a _ m rfl
      obtain ⟨D, hD⟩ : ∃ D : ByteArray, (⟨(fcut s.data.toList 0).1.toArray⟩ : ByteArray) = D := ⟨_, rfl⟩
      obtain ⟨ok, hok⟩ : ∃ ok, (fcut s.data.toList 0).2 = ok := ⟨_, rfl⟩
      have CK : Hid (∀ W : World, Below wr.heap.size wr W → Calls Try.prog 108 #[.string s] W fun e w' => e = .returned (.tuple #[.string D, .bool ok]) ∧ Below W.heap.size W w') := fun W _ => (cut0_any s W).mono fun e w' ⟨h1, h2⟩ => ⟨by rw [h1, ← hD, ← hok]; simp [fcut], by rw [h2]; exact Below.refl _ _⟩
      have HA : Hid (Below wr.heap.size wr (wr.alloc (.cells #[.int .i64 10, .func (.func 108) #[] #[]] 145))) := (Below.refl _ _).alloc (Nat.le_refl _) _
      cases ok with
      | false =>
        have HF := Lib.hid (fval_no hok)
        clear hF hD hok
        go_wp2_with (go_at_call 108; refine (CK.out _ HA.out).mono ?_; rintro e w2 ⟨rfl, hb⟩; have B2 := Lib.hid (box_below hB.out hb HSZ.out); clear hb)
        go_roundw
        case rel => exact ⟨1, by omega, by first | rfl | go_num, tried hT.out HF.out, B2.out⟩
        case measure => simp [intOf]
      | true =>
        have CDk : Hid (∀ W : World, Calls Try.prog 72 #[.string D, .int .i64 10] W fun e w' => e = .returned (dgV (nval 10 D.data.toList)) ∧ W = w') := fun W => CD.out 10 D W (by decide) (by decide) (DL.out _ D hD)
        cases hr : nval 10 D.data.toList with
        | none =>
          have HF := Lib.hid (fval_yes (k := 0) hok hD hr)
          rw [hr] at CDk
          have CDk : Hid (∀ W : World, Calls Try.prog 72 #[.string D, .int .i64 10] W fun e w' => e = .returned (.tuple #[.int .i64 0, .bool false]) ∧ W = w') := CDk.out
          clear hF hD hok hr
          go_wp2_with (first
            | (go_at_call 108; refine (CK.out _ HA.out).mono ?_; rintro e w2 ⟨rfl, hb⟩; have B2 := Lib.hid (box_below hB.out hb HSZ.out); have e0 : w2.cell? ⟨wr.heap.size, 0, none⟩ = some (.int .i64 10) := (hb.cell (p := ⟨wr.heap.size, 0, none⟩) (by simp)).trans (by unfold World.cell?; simp only [heap_alloc_new]; rfl); clear hb)
            | (go_at_call 72; refine (CDk.out _).mono ?_; rintro e w3 ⟨rfl, rfl⟩))
          go_roundw
          case rel => exact ⟨1, by omega, by first | rfl | go_num, tried hT.out HF.out, B2.out⟩
          case measure => simp [intOf]
        | some n =>
          have HP := Lib.hid (pval_some (by decide) hT.out (fval_yes (k := 0) hok hD hr))
          rw [hr] at CDk
          have CDk : Hid (∀ W : World, Calls Try.prog 72 #[.string D, .int .i64 10] W fun e w' => e = .returned (.tuple #[.int .i64 (n : Int), .bool true]) ∧ W = w') := CDk.out
          clear hF hD hok hr
          go_wp2_with (first
            | (go_at_call 108; refine (CK.out _ HA.out).mono ?_; rintro e w2 ⟨rfl, hb⟩; have B2 := Lib.hid (box_below hB.out hb HSZ.out); have e0 : w2.cell? ⟨wr.heap.size, 0, none⟩ = some (.int .i64 10) := (hb.cell (p := ⟨wr.heap.size, 0, none⟩) (by simp)).trans (by unfold World.cell?; simp only [heap_alloc_new]; rfl); clear hb)
            | (go_at_call 72; refine (CDk.out _).mono ?_; rintro e w3 ⟨rfl, rfl⟩))
          go_ret2
          exact ⟨by rw [HP.out]; rfl, by rw [HG.out]; exact B0.out.trans (B2.out.mono (by omega))⟩
    · have c0 : wr.cell? ⟨g + 4, 2, none⟩ = some (.int .i64 16) := hF 2 _ rfl
      have c1 : wr.cell? ⟨g + 4, 3, none⟩ = some (.func (.func 112) #[] #[.pointer (some ⟨g, 0, none⟩)]) := hF 3 _ rfl
      have hst : ∀ (a : Addr) (m : Mode) (W : World), Sem.run Try.prog (store a (.func (.func 112) #[] #[.pointer (some ⟨g, 0, none⟩)]) m) W = stored Try.prog W a (.func (.func 112) #[] #[.pointer (some ⟨g, 0, none⟩)]) m := fun a m W => run_store Try.prog W a _ m rfl
      obtain ⟨D, hD⟩ : ∃ D : ByteArray, (⟨(fcut s.data.toList 1).1.toArray⟩ : ByteArray) = D := ⟨_, rfl⟩
      obtain ⟨ok, hok⟩ : ∃ ok, (fcut s.data.toList 1).2 = ok := ⟨_, rfl⟩
      have CK : Hid (∀ W : World, Below wr.heap.size wr W → Calls Try.prog 112 #[.string s, .pointer (some ⟨g, 0, none⟩)] W fun e w' => e = .returned (.tuple #[.string D, .bool ok]) ∧ Below W.heap.size W w') := fun W hW => by rw [← hD, ← hok]; exact cutp_any s ⟨#[48, 88]⟩ _ W HS.out (MB.out _ _ W (by omega) HM0.out hW)
      have HA : Hid (Below wr.heap.size wr (wr.alloc (.cells #[.int .i64 16, .func (.func 112) #[] #[.pointer (some ⟨g, 0, none⟩)]] 145))) := (Below.refl _ _).alloc (Nat.le_refl _) _
      cases ok with
      | false =>
        have HF := Lib.hid (fval_no hok)
        clear hF hD hok
        go_wp2_with (go_at_call 112; refine (CK.out _ HA.out).mono ?_; rintro e w2 ⟨rfl, hb⟩; have B2 := Lib.hid (box_below hB.out hb HSZ.out); clear hb)
        go_roundw
        case rel => exact ⟨2, by omega, by first | rfl | go_num, tried hT.out HF.out, B2.out⟩
        case measure => simp [intOf]
      | true =>
        have CDk : Hid (∀ W : World, Calls Try.prog 72 #[.string D, .int .i64 16] W fun e w' => e = .returned (dgV (nval 16 D.data.toList)) ∧ W = w') := fun W => CD.out 16 D W (by decide) (by decide) (DL.out _ D hD)
        cases hr : nval 16 D.data.toList with
        | none =>
          have HF := Lib.hid (fval_yes (k := 1) hok hD hr)
          rw [hr] at CDk
          have CDk : Hid (∀ W : World, Calls Try.prog 72 #[.string D, .int .i64 16] W fun e w' => e = .returned (.tuple #[.int .i64 0, .bool false]) ∧ W = w') := CDk.out
          clear hF hD hok hr
          go_wp2_with (first
            | (go_at_call 112; refine (CK.out _ HA.out).mono ?_; rintro e w2 ⟨rfl, hb⟩; have B2 := Lib.hid (box_below hB.out hb HSZ.out); have e0 : w2.cell? ⟨wr.heap.size, 0, none⟩ = some (.int .i64 16) := (hb.cell (p := ⟨wr.heap.size, 0, none⟩) (by simp)).trans (by unfold World.cell?; simp only [heap_alloc_new]; rfl); clear hb)
            | (go_at_call 72; refine (CDk.out _).mono ?_; rintro e w3 ⟨rfl, rfl⟩))
          go_roundw
          case rel => exact ⟨2, by omega, by first | rfl | go_num, tried hT.out HF.out, B2.out⟩
          case measure => simp [intOf]
        | some n =>
          have HP := Lib.hid (pval_some (by decide) hT.out (fval_yes (k := 1) hok hD hr))
          rw [hr] at CDk
          have CDk : Hid (∀ W : World, Calls Try.prog 72 #[.string D, .int .i64 16] W fun e w' => e = .returned (.tuple #[.int .i64 (n : Int), .bool true]) ∧ W = w') := CDk.out
          clear hF hD hok hr
          go_wp2_with (first
            | (go_at_call 112; refine (CK.out _ HA.out).mono ?_; rintro e w2 ⟨rfl, hb⟩; have B2 := Lib.hid (box_below hB.out hb HSZ.out); have e0 : w2.cell? ⟨wr.heap.size, 0, none⟩ = some (.int .i64 16) := (hb.cell (p := ⟨wr.heap.size, 0, none⟩) (by simp)).trans (by unfold World.cell?; simp only [heap_alloc_new]; rfl); clear hb)
            | (go_at_call 72; refine (CDk.out _).mono ?_; rintro e w3 ⟨rfl, rfl⟩))
          go_ret2
          exact ⟨by rw [HP.out]; rfl, by rw [HG.out]; exact B0.out.trans (B2.out.mono (by omega))⟩
    · have c0 : wr.cell? ⟨g + 4, 4, none⟩ = some (.int .i64 16) := hF 4 _ rfl
      have c1 : wr.cell? ⟨g + 4, 5, none⟩ = some (.func (.func 112) #[] #[.pointer (some ⟨g + 1, 0, none⟩)]) := hF 5 _ rfl
      have hst : ∀ (a : Addr) (m : Mode) (W : World), Sem.run Try.prog (store a (.func (.func 112) #[] #[.pointer (some ⟨g + 1, 0, none⟩)]) m) W = stored Try.prog W a (.func (.func 112) #[] #[.pointer (some ⟨g + 1, 0, none⟩)]) m := fun a m W => run_store Try.prog W a _ m rfl
      obtain ⟨D, hD⟩ : ∃ D : ByteArray, (⟨(fcut s.data.toList 2).1.toArray⟩ : ByteArray) = D := ⟨_, rfl⟩
      obtain ⟨ok, hok⟩ : ∃ ok, (fcut s.data.toList 2).2 = ok := ⟨_, rfl⟩
      have CK : Hid (∀ W : World, Below wr.heap.size wr W → Calls Try.prog 112 #[.string s, .pointer (some ⟨g + 1, 0, none⟩)] W fun e w' => e = .returned (.tuple #[.string D, .bool ok]) ∧ Below W.heap.size W w') := fun W hW => by rw [← hD, ← hok]; exact cutp_any s ⟨#[36]⟩ _ W HS.out (MB.out _ _ W (by omega) HM1.out hW)
      have HA : Hid (Below wr.heap.size wr (wr.alloc (.cells #[.int .i64 16, .func (.func 112) #[] #[.pointer (some ⟨g + 1, 0, none⟩)]] 145))) := (Below.refl _ _).alloc (Nat.le_refl _) _
      cases ok with
      | false =>
        have HF := Lib.hid (fval_no hok)
        clear hF hD hok
        go_wp2_with (go_at_call 112; refine (CK.out _ HA.out).mono ?_; rintro e w2 ⟨rfl, hb⟩; have B2 := Lib.hid (box_below hB.out hb HSZ.out); clear hb)
        go_roundw
        case rel => exact ⟨3, by omega, by first | rfl | go_num, tried hT.out HF.out, B2.out⟩
        case measure => simp [intOf]
      | true =>
        have CDk : Hid (∀ W : World, Calls Try.prog 72 #[.string D, .int .i64 16] W fun e w' => e = .returned (dgV (nval 16 D.data.toList)) ∧ W = w') := fun W => CD.out 16 D W (by decide) (by decide) (DL.out _ D hD)
        cases hr : nval 16 D.data.toList with
        | none =>
          have HF := Lib.hid (fval_yes (k := 2) hok hD hr)
          rw [hr] at CDk
          have CDk : Hid (∀ W : World, Calls Try.prog 72 #[.string D, .int .i64 16] W fun e w' => e = .returned (.tuple #[.int .i64 0, .bool false]) ∧ W = w') := CDk.out
          clear hF hD hok hr
          go_wp2_with (first
            | (go_at_call 112; refine (CK.out _ HA.out).mono ?_; rintro e w2 ⟨rfl, hb⟩; have B2 := Lib.hid (box_below hB.out hb HSZ.out); have e0 : w2.cell? ⟨wr.heap.size, 0, none⟩ = some (.int .i64 16) := (hb.cell (p := ⟨wr.heap.size, 0, none⟩) (by simp)).trans (by unfold World.cell?; simp only [heap_alloc_new]; rfl); clear hb)
            | (go_at_call 72; refine (CDk.out _).mono ?_; rintro e w3 ⟨rfl, rfl⟩))
          go_roundw
          case rel => exact ⟨3, by omega, by first | rfl | go_num, tried hT.out HF.out, B2.out⟩
          case measure => simp [intOf]
        | some n =>
          have HP := Lib.hid (pval_some (by decide) hT.out (fval_yes (k := 2) hok hD hr))
          rw [hr] at CDk
          have CDk : Hid (∀ W : World, Calls Try.prog 72 #[.string D, .int .i64 16] W fun e w' => e = .returned (.tuple #[.int .i64 (n : Int), .bool true]) ∧ W = w') := CDk.out
          clear hF hD hok hr
          go_wp2_with (first
            | (go_at_call 112; refine (CK.out _ HA.out).mono ?_; rintro e w2 ⟨rfl, hb⟩; have B2 := Lib.hid (box_below hB.out hb HSZ.out); have e0 : w2.cell? ⟨wr.heap.size, 0, none⟩ = some (.int .i64 16) := (hb.cell (p := ⟨wr.heap.size, 0, none⟩) (by simp)).trans (by unfold World.cell?; simp only [heap_alloc_new]; rfl); clear hb)
            | (go_at_call 72; refine (CDk.out _).mono ?_; rintro e w3 ⟨rfl, rfl⟩))
          go_ret2
          exact ⟨by rw [HP.out]; rfl, by rw [HG.out]; exact B0.out.trans (B2.out.mono (by omega))⟩
    · have c0 : wr.cell? ⟨g + 4, 6, none⟩ = some (.int .i64 16) := hF 6 _ rfl
      have c1 : wr.cell? ⟨g + 4, 7, none⟩ = some (.func (.func 110) #[] #[]) := hF 7 _ rfl
      have hst : ∀ (a : Addr) (m : Mode) (W : World), Sem.run Try.prog (store a (.func (.func 110) #[] #[]) m) W = stored Try.prog W a (.func (.func 110) #[] #[]) m := fun a m W => run_store Try.prog W a _ m rfl
      obtain ⟨D, hD⟩ : ∃ D : ByteArray, (⟨(fcut s.data.toList 3).1.toArray⟩ : ByteArray) = D := ⟨_, rfl⟩
      obtain ⟨ok, hok⟩ : ∃ ok, (fcut s.data.toList 3).2 = ok := ⟨_, rfl⟩
      have CK : Hid (∀ W : World, Below wr.heap.size wr W → Calls Try.prog 110 #[.string s] W fun e w' => e = .returned (.tuple #[.string D, .bool ok]) ∧ Below W.heap.size W w') := fun W _ => by rw [← hD, ← hok]; exact cuth_any s W HS.out
      have HA : Hid (Below wr.heap.size wr (wr.alloc (.cells #[.int .i64 16, .func (.func 110) #[] #[]] 145))) := (Below.refl _ _).alloc (Nat.le_refl _) _
      cases ok with
      | false =>
        have HF := Lib.hid (fval_no hok)
        clear hF hD hok
        go_wp2_with (go_at_call 110; refine (CK.out _ HA.out).mono ?_; rintro e w2 ⟨rfl, hb⟩; have B2 := Lib.hid (box_below hB.out hb HSZ.out); clear hb)
        go_roundw
        case rel => exact ⟨4, by omega, by first | rfl | go_num, tried hT.out HF.out, B2.out⟩
        case measure => simp [intOf]
      | true =>
        have CDk : Hid (∀ W : World, Calls Try.prog 72 #[.string D, .int .i64 16] W fun e w' => e = .returned (dgV (nval 16 D.data.toList)) ∧ W = w') := fun W => CD.out 16 D W (by decide) (by decide) (DL.out _ D hD)
        cases hr : nval 16 D.data.toList with
        | none =>
          have HF := Lib.hid (fval_yes (k := 3) hok hD hr)
          rw [hr] at CDk
          have CDk : Hid (∀ W : World, Calls Try.prog 72 #[.string D, .int .i64 16] W fun e w' => e = .returned (.tuple #[.int .i64 0, .bool false]) ∧ W = w') := CDk.out
          clear hF hD hok hr
          go_wp2_with (first
            | (go_at_call 110; refine (CK.out _ HA.out).mono ?_; rintro e w2 ⟨rfl, hb⟩; have B2 := Lib.hid (box_below hB.out hb HSZ.out); have e0 : w2.cell? ⟨wr.heap.size, 0, none⟩ = some (.int .i64 16) := (hb.cell (p := ⟨wr.heap.size, 0, none⟩) (by simp)).trans (by unfold World.cell?; simp only [heap_alloc_new]; rfl); clear hb)
            | (go_at_call 72; refine (CDk.out _).mono ?_; rintro e w3 ⟨rfl, rfl⟩))
          go_roundw
          case rel => exact ⟨4, by omega, by first | rfl | go_num, tried hT.out HF.out, B2.out⟩
          case measure => simp [intOf]
        | some n =>
          have HP := Lib.hid (pval_some (by decide) hT.out (fval_yes (k := 3) hok hD hr))
          rw [hr] at CDk
          have CDk : Hid (∀ W : World, Calls Try.prog 72 #[.string D, .int .i64 16] W fun e w' => e = .returned (.tuple #[.int .i64 (n : Int), .bool true]) ∧ W = w') := CDk.out
          clear hF hD hok hr
          go_wp2_with (first
            | (go_at_call 110; refine (CK.out _ HA.out).mono ?_; rintro e w2 ⟨rfl, hb⟩; have B2 := Lib.hid (box_below hB.out hb HSZ.out); have e0 : w2.cell? ⟨wr.heap.size, 0, none⟩ = some (.int .i64 16) := (hb.cell (p := ⟨wr.heap.size, 0, none⟩) (by simp)).trans (by unfold World.cell?; simp only [heap_alloc_new]; rfl); clear hb)
            | (go_at_call 72; refine (CDk.out _).mono ?_; rintro e w3 ⟨rfl, rfl⟩))
          go_ret2
          exact ⟨by rw [HP.out]; rfl, by rw [HG.out]; exact B0.out.trans (B2.out.mono (by omega))⟩
    · have c0 : wr.cell? ⟨g + 4, 8, none⟩ = some (.int .i64 2) := hF 8 _ rfl
      have c1 : wr.cell? ⟨g + 4, 9, none⟩ = some (.func (.func 113) #[] #[.pointer (some ⟨g + 2, 0, none⟩)]) := hF 9 _ rfl
      have hst : ∀ (a : Addr) (m : Mode) (W : World), Sem.run Try.prog (store a (.func (.func 113) #[] #[.pointer (some ⟨g + 2, 0, none⟩)]) m) W = stored Try.prog W a (.func (.func 113) #[] #[.pointer (some ⟨g + 2, 0, none⟩)]) m := fun a m W => run_store Try.prog W a _ m rfl
      obtain ⟨D, hD⟩ : ∃ D : ByteArray, (⟨(fcut s.data.toList 4).1.toArray⟩ : ByteArray) = D := ⟨_, rfl⟩
      obtain ⟨ok, hok⟩ : ∃ ok, (fcut s.data.toList 4).2 = ok := ⟨_, rfl⟩
      have CK : Hid (∀ W : World, Below wr.heap.size wr W → Calls Try.prog 113 #[.string s, .pointer (some ⟨g + 2, 0, none⟩)] W fun e w' => e = .returned (.tuple #[.string D, .bool ok]) ∧ Below W.heap.size W w') := fun W hW => by rw [← hD, ← hok]; exact cuts_any s ⟨#[66]⟩ _ W HS.out (MB.out _ _ W (by omega) HM2.out hW)
      have HA : Hid (Below wr.heap.size wr (wr.alloc (.cells #[.int .i64 2, .func (.func 113) #[] #[.pointer (some ⟨g + 2, 0, none⟩)]] 145))) := (Below.refl _ _).alloc (Nat.le_refl _) _
      cases ok with
      | false =>
        have HF := Lib.hid (fval_no hok)
        clear hF hD hok
        go_wp2_with (go_at_call 113; refine (CK.out _ HA.out).mono ?_; rintro e w2 ⟨rfl, hb⟩; have B2 := Lib.hid (box_below hB.out hb HSZ.out); clear hb)
        go_roundw
        case rel => exact ⟨5, by omega, by first | rfl | go_num, tried hT.out HF.out, B2.out⟩
        case measure => simp [intOf]
      | true =>
        have CDk : Hid (∀ W : World, Calls Try.prog 72 #[.string D, .int .i64 2] W fun e w' => e = .returned (dgV (nval 2 D.data.toList)) ∧ W = w') := fun W => CD.out 2 D W (by decide) (by decide) (DL.out _ D hD)
        cases hr : nval 2 D.data.toList with
        | none =>
          have HF := Lib.hid (fval_yes (k := 4) hok hD hr)
          rw [hr] at CDk
          have CDk : Hid (∀ W : World, Calls Try.prog 72 #[.string D, .int .i64 2] W fun e w' => e = .returned (.tuple #[.int .i64 0, .bool false]) ∧ W = w') := CDk.out
          clear hF hD hok hr
          go_wp2_with (first
            | (go_at_call 113; refine (CK.out _ HA.out).mono ?_; rintro e w2 ⟨rfl, hb⟩; have B2 := Lib.hid (box_below hB.out hb HSZ.out); have e0 : w2.cell? ⟨wr.heap.size, 0, none⟩ = some (.int .i64 2) := (hb.cell (p := ⟨wr.heap.size, 0, none⟩) (by simp)).trans (by unfold World.cell?; simp only [heap_alloc_new]; rfl); clear hb)
            | (go_at_call 72; refine (CDk.out _).mono ?_; rintro e w3 ⟨rfl, rfl⟩))
          go_roundw
          case rel => exact ⟨5, by omega, by first | rfl | go_num, tried hT.out HF.out, B2.out⟩
          case measure => simp [intOf]
        | some n =>
          have HP := Lib.hid (pval_some (by decide) hT.out (fval_yes (k := 4) hok hD hr))
          rw [hr] at CDk
          have CDk : Hid (∀ W : World, Calls Try.prog 72 #[.string D, .int .i64 2] W fun e w' => e = .returned (.tuple #[.int .i64 (n : Int), .bool true]) ∧ W = w') := CDk.out
          clear hF hD hok hr
          go_wp2_with (first
            | (go_at_call 113; refine (CK.out _ HA.out).mono ?_; rintro e w2 ⟨rfl, hb⟩; have B2 := Lib.hid (box_below hB.out hb HSZ.out); have e0 : w2.cell? ⟨wr.heap.size, 0, none⟩ = some (.int .i64 2) := (hb.cell (p := ⟨wr.heap.size, 0, none⟩) (by simp)).trans (by unfold World.cell?; simp only [heap_alloc_new]; rfl); clear hb)
            | (go_at_call 72; refine (CDk.out _).mono ?_; rintro e w3 ⟨rfl, rfl⟩))
          go_ret2
          exact ⟨by rw [HP.out]; rfl, by rw [HG.out]; exact B0.out.trans (B2.out.mono (by omega))⟩
    · have c0 : wr.cell? ⟨g + 4, 10, none⟩ = some (.int .i64 2) := hF 10 _ rfl
      have c1 : wr.cell? ⟨g + 4, 11, none⟩ = some (.func (.func 112) #[] #[.pointer (some ⟨g + 3, 0, none⟩)]) := hF 11 _ rfl
      have hst : ∀ (a : Addr) (m : Mode) (W : World), Sem.run Try.prog (store a (.func (.func 112) #[] #[.pointer (some ⟨g + 3, 0, none⟩)]) m) W = stored Try.prog W a (.func (.func 112) #[] #[.pointer (some ⟨g + 3, 0, none⟩)]) m := fun a m W => run_store Try.prog W a _ m rfl
      obtain ⟨D, hD⟩ : ∃ D : ByteArray, (⟨(fcut s.data.toList 5).1.toArray⟩ : ByteArray) = D := ⟨_, rfl⟩
      obtain ⟨ok, hok⟩ : ∃ ok, (fcut s.data.toList 5).2 = ok := ⟨_, rfl⟩
      have CK : Hid (∀ W : World, Below wr.heap.size wr W → Calls Try.prog 112 #[.string s, .pointer (some ⟨g + 3, 0, none⟩)] W fun e w' => e = .returned (.tuple #[.string D, .bool ok]) ∧ Below W.heap.size W w') := fun W hW => by rw [← hD, ← hok]; exact cutp_any s ⟨#[37]⟩ _ W HS.out (MB.out _ _ W (by omega) HM3.out hW)
      have HA : Hid (Below wr.heap.size wr (wr.alloc (.cells #[.int .i64 2, .func (.func 112) #[] #[.pointer (some ⟨g + 3, 0, none⟩)]] 145))) := (Below.refl _ _).alloc (Nat.le_refl _) _
      cases ok with
      | false =>
        have HF := Lib.hid (fval_no hok)
        clear hF hD hok
        go_wp2_with (go_at_call 112; refine (CK.out _ HA.out).mono ?_; rintro e w2 ⟨rfl, hb⟩; have B2 := Lib.hid (box_below hB.out hb HSZ.out); clear hb)
        go_roundw
        case rel => exact ⟨6, by omega, by first | rfl | go_num, tried hT.out HF.out, B2.out⟩
        case measure => simp [intOf]
      | true =>
        have CDk : Hid (∀ W : World, Calls Try.prog 72 #[.string D, .int .i64 2] W fun e w' => e = .returned (dgV (nval 2 D.data.toList)) ∧ W = w') := fun W => CD.out 2 D W (by decide) (by decide) (DL.out _ D hD)
        cases hr : nval 2 D.data.toList with
        | none =>
          have HF := Lib.hid (fval_yes (k := 5) hok hD hr)
          rw [hr] at CDk
          have CDk : Hid (∀ W : World, Calls Try.prog 72 #[.string D, .int .i64 2] W fun e w' => e = .returned (.tuple #[.int .i64 0, .bool false]) ∧ W = w') := CDk.out
          clear hF hD hok hr
          go_wp2_with (first
            | (go_at_call 112; refine (CK.out _ HA.out).mono ?_; rintro e w2 ⟨rfl, hb⟩; have B2 := Lib.hid (box_below hB.out hb HSZ.out); have e0 : w2.cell? ⟨wr.heap.size, 0, none⟩ = some (.int .i64 2) := (hb.cell (p := ⟨wr.heap.size, 0, none⟩) (by simp)).trans (by unfold World.cell?; simp only [heap_alloc_new]; rfl); clear hb)
            | (go_at_call 72; refine (CDk.out _).mono ?_; rintro e w3 ⟨rfl, rfl⟩))
          go_roundw
          case rel => exact ⟨6, by omega, by first | rfl | go_num, tried hT.out HF.out, B2.out⟩
          case measure => simp [intOf]
        | some n =>
          have HP := Lib.hid (pval_some (by decide) hT.out (fval_yes (k := 5) hok hD hr))
          rw [hr] at CDk
          have CDk : Hid (∀ W : World, Calls Try.prog 72 #[.string D, .int .i64 2] W fun e w' => e = .returned (.tuple #[.int .i64 (n : Int), .bool true]) ∧ W = w') := CDk.out
          clear hF hD hok hr
          go_wp2_with (first
            | (go_at_call 112; refine (CK.out _ HA.out).mono ?_; rintro e w2 ⟨rfl, hb⟩; have B2 := Lib.hid (box_below hB.out hb HSZ.out); have e0 : w2.cell? ⟨wr.heap.size, 0, none⟩ = some (.int .i64 2) := (hb.cell (p := ⟨wr.heap.size, 0, none⟩) (by simp)).trans (by unfold World.cell?; simp only [heap_alloc_new]; rfl); clear hb)
            | (go_at_call 72; refine (CDk.out _).mono ?_; rintro e w3 ⟨rfl, rfl⟩))
          go_ret2
          exact ⟨by rw [HP.out]; rfl, by rw [HG.out]; exact B0.out.trans (B2.out.mono (by omega))⟩
    · have HP := Lib.hid (pval_none hT.out)
      clear hF
      go_wp2
      go_ret2
      exact ⟨by rw [HP.out]; rfl, by rw [HG.out]; exact B0.out.trans (hB.out.mono (by omega))⟩
end Go.Proofs.Ytilfbnfejnjaeaa
