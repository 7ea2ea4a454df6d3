/- The deck of numbers: whatever it deals lies in range, and it stays a deck. -/
import Derived.Test.YtdhadnnakcdfiaaChecked
import Derived.Test.YtdhadnnakcdfiaaMem
import Derived.Test.YtdhadnnakcdfiaaTypes
import Derived.WalkSpells
import Derived.Deep.QuietTactic
import Derived.BigQuiet
import Derived.RegionTactic
import Derived.IntWalk
namespace Go.Proofs.Ytdhadnnakcdfiaa
set_option linter.unusedVariables false
open Go.RowKit

theorem ret_i {k : IntKind} {a b : Int} (h : a = b) : Ending.returned (.int k a) = .returned (.int k b) := by rw [h]

/-- Block b is a deck over a list that lies below block B. -/
def Deck (w : World) (b B : Nat) : Prop :=
  ∃ (A : Option Addr) (len cap : Nat) (l : Nat → Int) (p : Nat) (st : Int), w.cell? ⟨b, 0, none⟩ = some (.slice A len cap) ∧ w.cell? ⟨b, 1, none⟩ = some (.int .i64 (p : Int)) ∧ w.cell? ⟨b, 2, none⟩ = some (.int .u64 st) ∧
    w.frozen? ⟨b, 1, none⟩ = false ∧ w.frozen? ⟨b, 2, none⟩ = false ∧ p ≤ len ∧ len ≤ 400 ∧ B ≤ b ∧ Rd w B A len (fun i => .int .i64 (l i))

theorem deck_after {w w' : World} {b B : Nat} {A : Option Addr} {len cap p p' : Nat} {l : Nat → Int} {st st' : Int} (h0 : w.cell? ⟨b, 0, none⟩ = some (.slice A len cap)) (h1 : w.cell? ⟨b, 1, none⟩ = some (.int .i64 (p : Int)))
    (h2 : w.cell? ⟨b, 2, none⟩ = some (.int .u64 st)) (z1 : w.frozen? ⟨b, 1, none⟩ = false) (z2 : w.frozen? ⟨b, 2, none⟩ = false) (hp : p' ≤ len) (hlen : len ≤ 400) (hB : B ≤ b) (hR : Rd w B A len (fun i => .int .i64 (l i)))
    (e1 : w'.heap = ((w.setCell ⟨b, 1, none⟩ (.int .i64 (p' : Int))).setCell ⟨b, 2, none⟩ (.int .u64 st')).heap) (e2 : w'.os = w.os) (e3 : w'.tape = w.tape) (e4 : w'.output = w.output) : Deck w' b B ∧ Keeps [b] w w' := by
  have hK : Keeps [b] w ((w.setCell ⟨b, 1, none⟩ (.int .i64 (p' : Int))).setCell ⟨b, 2, none⟩ (.int .u64 st')) := ((Keeps.refl _ _).setCell (by simp) _).setCell (by simp) _
  have hc : ∀ q, w'.cell? q = ((w.setCell ⟨b, 1, none⟩ (.int .i64 (p' : Int))).setCell ⟨b, 2, none⟩ (.int .u64 st')).cell? q := fun q => by simp only [World.cell?, e1]
  have hf : ∀ q, w'.frozen? q = w.frozen? q := fun q => by
    have : w'.frozen? q = ((w.setCell ⟨b, 1, none⟩ (.int .i64 (p' : Int))).setCell ⟨b, 2, none⟩ (.int .u64 st')).frozen? q := by simp only [World.frozen?, e1]
    rw [this]; simp
  have hK' : Keeps [b] w w' := ⟨e2, e3, e4, by rw [e1]; exact hK.size, fun k hk hn => by rw [e1]; exact hK.block k hk hn⟩
  refine ⟨⟨A, len, cap, l, p', st', ?_, ?_, ?_, by rw [hf, z1], by rw [hf, z2], hp, hlen, hB, hR.keeps hK' (by simpa using hB)⟩, hK'⟩
  · rw [hc, World.cell?_setCell_other _ _ _ _ (by simp), World.cell?_setCell_other _ _ _ _ (by simp)]; exact h0
  · rw [hc, World.cell?_setCell_other _ _ _ _ (by simp)]; exact World.cell?_setCell_same _ _ _ h1
  · rw [hc]; exact World.cell?_setCell_same _ _ _ ((World.cell?_setCell_other _ _ _ _ (by simp)).trans h2)

theorem deck_after0 {w w' : World} {b B : Nat} {A : Option Addr} {len cap p : Nat} {l : Nat → Int} {st st' : Int} (h0 : w.cell? ⟨b, 0, none⟩ = some (.slice A len cap)) (h1 : w.cell? ⟨b, 1, none⟩ = some (.int .i64 (p : Int)))
    (h2 : w.cell? ⟨b, 2, none⟩ = some (.int .u64 st)) (z1 : w.frozen? ⟨b, 1, none⟩ = false) (z2 : w.frozen? ⟨b, 2, none⟩ = false) (hp : p ≤ len) (hlen : len ≤ 400) (hB : B ≤ b) (hR : Rd w B A len (fun i => .int .i64 (l i)))
    (e1 : w'.heap = (w.setCell ⟨b, 2, none⟩ (.int .u64 st')).heap) (e2 : w'.os = w.os) (e3 : w'.tape = w.tape) (e4 : w'.output = w.output) : Deck w' b B ∧ Keeps [b] w w' := by
  have hK : Keeps [b] w (w.setCell ⟨b, 2, none⟩ (.int .u64 st')) := (Keeps.refl _ _).setCell (by simp) _
  have hc : ∀ q, w'.cell? q = (w.setCell ⟨b, 2, none⟩ (.int .u64 st')).cell? q := fun q => by simp only [World.cell?, e1]
  have hf : ∀ q, w'.frozen? q = w.frozen? q := fun q => by
    have : w'.frozen? q = (w.setCell ⟨b, 2, none⟩ (.int .u64 st')).frozen? q := by simp only [World.frozen?, e1]
    rw [this]; simp
  have hK' : Keeps [b] w w' := ⟨e2, e3, e4, by rw [e1]; exact hK.size, fun k hk hn => by rw [e1]; exact hK.block k hk hn⟩
  refine ⟨⟨A, len, cap, l, p, st', ?_, ?_, ?_, by rw [hf, z1], by rw [hf, z2], hp, hlen, hB, hR.keeps hK' (by simpa using hB)⟩, hK'⟩
  · rw [hc, World.cell?_setCell_other _ _ _ _ (by simp)]; exact h0
  · rw [hc, World.cell?_setCell_other _ _ _ _ (by simp)]; exact h1
  · rw [hc]; exact World.cell?_setCell_same _ _ _ h2

theorem xor_range (a c : Int) : 0 ≤ bits .xor .u64 a c ∧ bits .xor .u64 a c < 18446744073709551616 := by
  unfold bits
  simp only [IntKind.wrap_u64]
  omega

set_option maxHeartbeats 400000 in
theorem long_any (w : World) (b B : Nat) (hD : Deck w b B) :
    Calls Try.prog 34 #[.pointer (some ⟨b, 0, none⟩)] w fun e w' => ∃ x : Int, e = .returned (.int .u64 x) ∧ (0 ≤ x ∧ x < 18446744073709551616) ∧ Deck w' b B ∧ Keeps [b] w w' := by
  obtain ⟨A, len, cap, l, p, st, h0, h1, h2, z1, z2, hp, hlen, hB, hR⟩ := hD
  by_cases hlt : p < len
  · obtain ⟨a, rfl, hab, hc⟩ := hR.at_ hlt
    have HR := Lib.hid hR
    clear hR
    go_enter Try.func34, Try.ntmps34
    go_wp2
    go_quiet (fail)
    go_wp2
    go_quiet (fail)
    go_wp2
    go_quiet (fail)
    go_wp2
    go_ret
    exact ⟨_, rfl, xor_range _ _, deck_after (p' := p + 1) h0 h1 h2 z1 z2 (by omega) hlen hB HR.out rfl rfl rfl rfl⟩
  · have HR := Lib.hid hR
    clear hR
    go_enter Try.func34, Try.ntmps34
    go_wp2
    go_quiet (fail)
    go_wp2
    go_quiet (fail)
    go_wp2
    go_ret
    exact ⟨_, rfl, xor_range _ _, deck_after0 h0 h1 h2 z1 z2 hp hlen hB HR.out rfl rfl rfl rfl⟩

def NextPost (n : Int) (b B : Nat) (w : World) (e : Ending) (w' : World) : Prop :=
  ∃ x : Nat, e = .returned (.int .i64 (x : Int)) ∧ (n < 1 → x = 0) ∧ (1 ≤ n → (x : Int) < n) ∧ Deck w' b B ∧ Keeps [b] w w'

set_option maxHeartbeats 400000 in
theorem next_any (w : World) (b B : Nat) (n : Int) (hD : Deck w b B) (hn : n ≤ 1000000000) :
    Calls Try.prog 12 #[.pointer (some ⟨b, 0, none⟩), .int .i64 n] w (NextPost n b B w) := by
  have HD := Lib.hid hD
  clear hD
  by_cases h1 : n < 1
  · go_enter Try.func12, Try.ntmps12
    go_wp2_with fail
    go_ret
    exact ⟨0, rfl, fun _ => rfl, fun h => by omega, HD.out, Keeps.refl _ _⟩
  · go_enter Try.func12, Try.ntmps12
    go_wp2_with fail
    refine (long_any w b B HD.out).mono ?_
    rintro e w1 ⟨x, rfl, hx, hD1, hK1⟩
    have HD1 := Lib.hid hD1
    have HK1 := Lib.hid hK1
    clear hD1 hK1
    go_wp2_with fail
    go_ret
    have a1 := Int.emod_nonneg (x / 2) (show n ≠ 0 by omega)
    have a2 := Int.emod_lt_of_pos (x / 2) (show 0 < n by omega)
    exact ⟨(x / 2 % n).toNat, ret_i (by omega), fun h => by omega, fun _ => by omega, HD1.out, HK1.out⟩

theorem Deck.keeps {w w' : World} {l : List Nat} {b B : Nat} (h : Deck w b B) (k : Keeps l w w') (hb : b ∉ l) (hl : ∀ x ∈ l, B ≤ x) : Deck w' b B := by
  obtain ⟨A, len, cap, l', p, st, h0, h1, h2, z1, z2, hp, hlen, hB, hR⟩ := h
  exact ⟨A, len, cap, l', p, st, k.read h0 hb, k.read h1 hb, k.read h2 hb, (k.frozen (p := ⟨b, 1, none⟩) (lt_of_cell h1) hb).trans z1, (k.frozen (p := ⟨b, 2, none⟩) (lt_of_cell h2) hb).trans z2, hp, hlen, hB, hR.keeps k hl⟩
theorem Deck.lt {w : World} {b B : Nat} (h : Deck w b B) : b < w.heap.size ∧ B ≤ b := by
  obtain ⟨A, len, cap, l', p, st, h0, h1, h2, z1, z2, hp, hlen, hB, hR⟩ := h
  exact ⟨lt_of_cell h0, hB⟩

set_option maxHeartbeats 400000 in
theorem few_any (w : World) (A : Option Addr) (n c : Nat) :
    Calls Try.prog 9 #[.slice A n c] w fun e w' => e = .returned (.bool (decide ((n : Int) ≤ 400))) ∧ w = w' := by
  go_enter Try.func9, Try.ntmps9
  go_wp2_with fail
  go_ret
  exact ⟨rfl, rfl⟩

set_option maxHeartbeats 400000 in
theorem new_any (w : World) (B : Nat) (A : Option Addr) (n c : Nat) (l : Nat → Int) (hR : Rd w B A n (fun i => .int .i64 (l i))) (hn : n ≤ 400) (hB : B ≤ w.heap.size) :
    Calls Try.prog 10 #[.slice A n c] w fun e w' => e = .returned (.pointer (some ⟨w.heap.size, 0, none⟩)) ∧ Deck w' w.heap.size B ∧ Below w.heap.size w w' := by
  have HR := Lib.hid hR
  clear hR
  go_enter Try.func10, Try.ntmps10
  go_wp2_with fail
  go_ret
  exact ⟨rfl, ⟨A, n, c, l, 0, _, World.cell?_alloc_new _ _ _ _, World.cell?_alloc_new _ _ _ _, World.cell?_alloc_new _ _ _ _, World.frozen?_alloc_new _ _ _ _, World.frozen?_alloc_new _ _ _ _, by omega, hn, hB, HR.out.alloc_ _⟩, (Below.refl _ _).alloc (Nat.le_refl _) _⟩

def SmallPost (n : Nat) (most : Int) (b B : Nat) (w : World) (e : Ending) (w' : World) : Prop :=
  ∃ (A : Option Addr) (c : Nat) (zs : List Int), e = .returned (.slice A n c) ∧ zs.length = n ∧ (∀ z ∈ zs, 0 ≤ z ∧ z ≤ max most 0) ∧ w'.ownsRow w.heap.size 3 1 (.slice A n c) n (zs.map (Value.int .i64)) ∧ Deck w' b B ∧ Keeps [b] w w'

theorem ints_one (zs : List Int) : ∀ u ∈ zs.map (Value.int .i64), u.oneCell' = true := by
  intro u hu
  obtain ⟨c, _, rfl⟩ := List.mem_map.1 hu
  rfl

theorem rd_new {w : World} {x : Value} {e : TypeId} : Rd (w.alloc (.cells #[x] e)) (w.heap.size + 1) (some ⟨w.heap.size, 0, none⟩) 1 (fun i => [x].getD i undef) := fun _ =>
  ⟨_, rfl, by simp, fun i hi => by obtain rfl : i = 0 := by omega
                                   simp [Addr.add]⟩

set_option maxHeartbeats 1000000 in
theorem small_any (w : World) (b B n : Nat) (most : Int) (hD : Deck w b B) (hn : n ≤ 1000000) (hm : -1000 ≤ most ∧ most ≤ 10000000) :
    Calls Try.prog 13 #[.pointer (some ⟨b, 0, none⟩), .int .i64 (n : Int), .int .i64 most] w (SmallPost n most b B w) := by
  have hbl := hD.lt
  have HD := Lib.hid hD
  clear hD
  obtain ⟨hm1, hm2⟩ := hm
  go_enter Try.func13, Try.ntmps13
  go_wp2_with fail
  go_loopg [7, 8] (n + 1) (fun g v i wr => ∃ (k : Nat) (A : Option Addr) (c : Nat) (zs : List Int), n + 1 ≤ k + g ∧ k ≤ n ∧ i = .int .i64 (k : Int) ∧ v = .slice A k c ∧ zs.length = k ∧ (∀ z ∈ zs, 0 ≤ z ∧ z ≤ max most 0) ∧
    wr.ownsRow w.heap.size 3 1 (.slice A k c) k (zs.map (Value.int .i64)) ∧ Deck wr b B ∧ Keeps [b] w wr)
  case atStart => exact ⟨0, none, 0, [], by omega, by omega, rfl, rfl, rfl, by simp, World.ownsRow_nil _ _ _ _, HD.out, Keeps.refl _ _⟩
  case round =>
    obtain ⟨k, A, c, zs, hg, hk, rfl, rfl, hl, hz, hown, hDr, hKr⟩ := hrel
    have hzr := hKr.size
    have HL := Lib.hid hl
    have HZ := Lib.hid hz
    have HO := Lib.hid hown
    have HDr := Lib.hid hDr
    have HKr := Lib.hid hKr
    clear hl hz hown hDr hKr
    by_cases hlt : k < n
    · go_wp2_with fail
      refine (next_any wr b B (most + 1) HDr.out (by omega)).mono ?_
      rintro e w1 ⟨x, rfl, hx0, hx1, hD1, hK1⟩
      have hz1 := hK1.size
      have HX : Hid (0 ≤ (x : Int) ∧ (x : Int) ≤ max most 0) := ⟨by omega, by rcases Int.lt_or_le (most + 1) 1 with h | h; (have := hx0 h; omega); (have := hx1 h; omega)⟩
      have hO1 := own_keeps HO.out hK1 (fun y hy => own_ne HO.out (by simp at hy; omega))
      have HO1 := Lib.hid hO1
      have HD1 := Lib.hid hD1
      have HK1 := Lib.hid (HKr.out.trans hK1)
      clear hx0 hx1 hD1 hK1 hO1
      go_wp2_with (at_builtin; refine wpList_app _ sl_int rfl _ _ rfl w.heap.size A k c (zs.map (Value.int .i64)) rfl (HO1.out.alloc _) (w1.heap.size + 1) (some ⟨w1.heap.size, 0, none⟩) 1 1 [.int .i64 (x : Int)] rfl rfl rd_new (by simp [Value.oneCell']) (by omega) (by simp; omega) ?_; intro V' cv' w3 hown3 hg3 hat3)
      have hK3 := Keeps.of_grown hg3
      have hl3 : ∀ y ∈ (Value.slice A k c).ownBlock.toList, w.heap.size ≤ y := fun y hy => (own_base HO1.out (by simpa using hy)).1
      go_roundg (n - k)
      case measure => omega
      case rel =>
        refine ⟨k + 1, V', cv', zs ++ [(x : Int)], by omega, by omega, by go_num, rfl, by simp [HL.out], ?_, by rw [List.map_append]; exact hown3, ?_, ?_⟩
        · intro z hz
          rcases List.mem_append.1 hz with h | h
          · exact HZ.out z h
          · rw [List.mem_singleton.1 h]; exact HX.out
        · refine (HD1.out.keeps (w' := w1.alloc (.cells #[.int .i64 (x : Int)] 3)) ((Keeps.refl [] _).alloc _) (by simp) (by simp)).keeps hK3 (fun hm => by have := hl3 b hm; omega) (fun y hy => by have := hl3 y hy; omega)
        · exact (HK1.out.alloc _).step hK3 (fun y hy => .inr (hl3 y hy))
    · obtain rfl : k = n := by omega
      go_wp2_with fail
      go_ret
      exact ⟨A, c, zs, rfl, HL.out, HZ.out, HO.out, HDr.out, HKr.out⟩
end Go.Proofs.Ytdhadnnakcdfiaa
