/- slices.SortFunc at rows of the call's own, in the words of Rep. -/
import Derived.Test.YtdhadnnakcdfiaaRep
import Derived.Shelf.SlSortCmp.NoneTotal
namespace Go.Proofs.Ytdhadnnakcdfiaa
set_option linter.unusedVariables false
open Go.RowKit Go.Sort Go.Shelf

/-- Function value g, captures cb, compares as cf does, in every world where nothing but block blk and new things differ from w. -/
def CmpR {α : Type} (P : Program) (R : Rp α) (g : Nat) (cb : Array Value) (l : List Nat) (cf : α → α → Int) (xs : List α) (w : World) (blk : Nat) : Prop :=
  ∀ (W : World) (u u' : Value) (x y : α), x ∈ xs → y ∈ xs → Keeps [blk] w W → R W (blk :: l) u x → R W (blk :: l) u' y →
    Calls P g (#[u, u'] ++ cb) W fun e w' => e = .returned (.int .i64 (cf x y)) ∧ ∃ q os, w' = grow (W.drewN q) os

def SortPost {α : Type} (R : Rp α) (d : α) (ty : TypeId) (base : Nat) (l : List Nat) (v : Value) (cf : α → α → Int) (xs : List α) (w : World) (e : Ending) (w' : World) : Prop :=
  e = .returned (.tuple #[]) ∧ ∃ ys : List α, ys.Perm xs ∧ ys.Pairwise (fun a b => ¬ cf b a < 0) ∧ OwL R d ty base w' l v ys ∧ Keeps v.ownBlock.toList w w'

theorem sortWorld_keeps {α : Type} [Inhabited α] (enc : α → Value) (w : World) (b o m : Nat) (dk : Array α) (os : Array Obj) : Keeps [b] w (sortWorld enc w b o m dk os) := by
  refine ⟨rfl, rfl, rfl, ?_, fun k hk hn => ?_⟩
  · simp [sortWorld, grow, putRow, mapBlock]
  · have hne : b ≠ k := fun e => hn (by simp [e])
    have hk' : k < (putRow enc (Sort.ahead w m) b o dk).heap.size := by rw [size_putRow]; exact hk
    show (grow _ _).heap[k]? = _
    rw [heap_grow_old _ _ hk']
    simp [putRow, mapBlock, Sort.ahead, Array.getElem?_modify, hne]

theorem swo_pull {α β : Type} {cf : α → α → Int} (h : SWO (ltOf cf)) (f : β → α) : SWO (ltOf fun i j => cf (f i) (f j)) :=
  ⟨fun x => h.irrefl (f x), fun x y z => h.trans (f x) (f y) (f z), fun x y z => h.ntrans (f x) (f y) (f z)⟩

theorem map_fin_getD {α : Type} (xs : List α) (d : α) : (Array.ofFn (fun i : Fin xs.length => i)).toList.map (fun i => xs.getD i.val d) = xs := by
  refine List.ext_getElem (by simp) fun i h1 h2 => ?_
  simp [List.getD_eq_getElem?_getD]

theorem extract_all {β : Type} (a : Array β) (n : Nat) (h : a.size = n) : a.extract 0 n = a := by subst h; simp
theorem get!_of {β : Type} [Inhabited β] (a : Array β) (i : Nat) (h : i < a.size) : a[i]! = a[i] := getElem!_pos a i h

variable {P : Program} {ρ : Ren}
theorem sort_own (L : SlLaysF.n6 P ρ) {α : Type} {R : Rp α} [Rok R] {d : α} {ty : TypeId} {base : Nat} {w : World} {l : List Nat} {v : Value} {xs : List α} {cf : α → α → Int} (hO : SWO (ltOf cf)) {g : Nat} {cb : Array Value}
    (eg : ∀ args w, (callFunc g args).run P w = .ok (.enter g args) w) (h : OwL R d ty base w l v xs) (hc : ∀ b, v.ownBlock = some b → CmpR P R g cb l cf xs w b) (hn : xs.length ≤ 1000000000) :
    Calls P (ρ.f 6) #[v, .func (.func g) #[] cb] w (SortPost R d ty base l v cf xs w) := by
  have h0 := h
  obtain ⟨us, h1, h2, h3⟩ := h
  by_cases hz : xs.length = 0
  · obtain ⟨A, c, rfl⟩ := ownsRow_slice h2
    rw [hz]
    refine (AnyF.slices_SortFunc_none (P := P) (ρ := ρ) { L with } A c _ w).mono ?_
    rintro e w' ⟨rfl, rfl⟩
    obtain rfl : xs = [] := List.length_eq_zero_iff.1 hz
    exact ⟨rfl, [], List.Perm.refl _, List.Pairwise.nil, h0, Keeps.refl _ _⟩
  · have hown := h2
    rcases h2.2 with ⟨_, h⟩ | ⟨b, cap, cur, rfl, hb, hcur, hcap, hmax, hsz, htk⟩
    · exact absurd h hz
    · have hbl : b < w.heap.size := heap_lt hcur
      have hc := hc b rfl
      haveI : Inhabited (Fin xs.length) := ⟨⟨0, by omega⟩⟩
      let enc : Fin xs.length → Value := fun i => us.getD i.val undef
      let ids : Array (Fin xs.length) := Array.ofFn (fun i => i)
      have hids : ids.size = xs.length := by simp [ids]
      have hR : ∀ i : Fin xs.length, R w (b :: l) (enc i) (xs.getD i.val d) := fun i => h3 i.val i.isLt
      have hget : ∀ j, (hj : j < xs.length) → ids[j]! = ⟨j, hj⟩ := fun j hj => by
        rw [get!_of ids j (by omega)]; simp [ids]
      have hH : Holds enc w b 0 ids := fun j hj => by
        rw [hids] at hj
        rw [hget j hj, Nat.zero_add]
        refine ⟨?_, h2.frozenAt j⟩
        rw [h2.cellAt j (by omega)]
        have : j < us.length := by omega
        simp [enc, List.getD_eq_getElem?_getD, this]
      have hone : OneCell enc := fun i => Rok.one (hR i)
      have hK : ∀ m dk os, Keeps (b :: l) w (sortWorld enc w b 0 m dk os) := fun m dk os => (sortWorld_keeps enc w b 0 m dk os).more (by simp)
      have hcmp : CmpLays1 P g cb enc (fun i j => cf (xs.getD i.val d) (xs.getD j.val d)) b 0 ids.size w := fun m os dk hs x y =>
        hc _ _ _ _ _ (getD_mem x.isLt) (getD_mem y.isLt) (sortWorld_keeps enc w b 0 m dk os) (Rok.keeps (hR x) (hK m dk os)) (Rok.keeps (hR y) (hK m dk os))
      have hmain := Any.slices_SortFunc (P := P) (ρ := ρ) L enc hone _ (swo_pull hO fun i : Fin xs.length => xs.getD i.val d) g cb b 0 cap ids w eg hcmp hH hbl (by omega)
      rw [hids] at hmain
      refine hmain.mono ?_
      rintro e w' ⟨rfl, d', n', os, hp, hs, rfl⟩
      have hd' : d'.size = xs.length := by rw [hp.1, hids]
      have hperm : d'.toList.Perm ids.toList := by
        have := hp.2.2
        rw [extract_all d' _ hd', extract_all ids _ hids] at this
        exact this
      refine ⟨rfl, d'.toList.map (fun i => xs.getD i.val d), ?_, ?_, ?_, by simpa [Value.ownBlock] using sortWorld_keeps enc w b 0 n' d' os⟩
      · have := hperm.map (fun i => xs.getD i.val d)
        rwa [map_fin_getD] at this
      · rw [List.pairwise_iff_getElem]
        intro i j hi hj hij
        simp only [List.length_map, Array.length_toList] at hi hj
        have := hs i j (by omega) hij (by omega)
        rw [get!_of d' i (by omega), get!_of d' j (by omega)] at this
        simpa [ltOf] using this
      · have hl1 : (d'.toList.map (fun i => xs.getD i.val d)).length = xs.length := by simp [hd']
        refine ⟨d'.toList.map enc, by simp, ?_, fun i hi => ?_⟩
        · rw [hl1]
          refine ⟨by simp [hd'], .inr ⟨b, cap, putCells enc 0 d' cur, rfl, hb, ?_, hcap, hmax, by simp [putCells, hsz], ?_⟩⟩
          · show (grow (putRow enc (Sort.ahead w n') b 0 d') os).heap[b]? = _
            rw [heap_grow_old _ _ (by rw [size_putRow]; exact hbl)]
            simp [putRow, mapBlock, Sort.ahead, Array.getElem?_modify, hcur, onCells]
          · refine List.ext_getElem? fun i => ?_
            by_cases hi : i < xs.length
            · have h5 : i < cur.size := by omega
              have h6 : i < d'.size := by omega
              simp [putCells, hi, h5, h6]
            · rw [List.getElem?_eq_none (by simp [putCells]; omega), List.getElem?_eq_none (by simp; omega)]
        · rw [hl1] at hi
          have h6 : i < d'.size := by omega
          have := Rok.keeps (hR d'[i]) (hK n' d' os)
          simpa [List.getD_eq_getElem?_getD, h6, Value.ownBlock] using this
end Go.Proofs.Ytdhadnnakcdfiaa
